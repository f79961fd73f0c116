/-
  Texts of this proof, joined: QR, QS, QT, QU, QV, QW, QX, QZ, VT, GlobOf.
-/
import Derived.Test.YtblkcnmecfppnaaGreatDoorJ5
import Derived.KernelRfl
import Derived.Lib.LaidTab
import Derived.MakeChecks
import Derived.Stop.LaidErr
import Derived.Test.YtblkcnmecfppnaaGreatDoorRows
set_option linter.unusedVariables false
set_option linter.unusedSimpArgs false
/-
 The letter of a record: the program's From.
-/
namespace Go.Proofs.YtblkcnmecfppnaaGreatDoor
open Go.RowKit
set_option maxHeartbeats 8000000
set_option maxRecDepth 100000
def zL : Lt := ⟨⟨#[]⟩, ⟨#[]⟩, 0, 0, 0, ⟨#[]⟩, ⟨#[]⟩, ⟨#[]⟩, 0, 0, ⟨#[]⟩, 0, [], []⟩
noncomputable def frA (o : Option Lt) : AV := match o with
 | some l => .tup [LtA l, .i 0]
 | none => .tup [LtA zL, .i 2]
theorem fromR_not {f : List Fd} (h : ∀ l, VL l → recA l = f → mayB l = false) : fromR f = none := by
 unfold fromR
 split
 ·rename_i hx
  rw [h hx.choose hx.choose_spec.1 hx.choose_spec.2]
  rfl
 ·rfl
theorem kindK_lt {s : ByteArray} {k : Nat} : ∀ {n : Nat}, kindK n s = some k → k < n ∧ kindN (Int.ofNat k) = s
 | 0, h => by cases h
 | n + 1, h => by
  unfold kindK at h
  cases hk : kindK n s with
  | some j =>
   rw [hk] at h
   cases h
   have := kindK_lt hk
   exact ⟨by omega, this.2⟩
  | none =>
   rw [hk] at h
   dsimp only at h
   split at h
   ·rename_i e; cases h; exact ⟨by omega, e⟩
   ·cases h
theorem kindOf_at {j : Nat} (h : j < 29) : kindOf (kindN (Int.ofNat j)) = some j := by
 have key : ∀ i : Fin 29, kindOf (kindN (Int.ofNat i.1)) = some i.1 := by decide +kernel
 exact key ⟨j, h⟩
/-- How far a record was put into a letter. -/
structure Pre (f : List Fd) (i : Nat) (L : Lt) : Prop where
 docs : L.docs = []
 boxes : L.boxes = []
 zero : i ≤ 10 → L.cur = ⟨#[]⟩ ∧ L.amt = 0
 p0 : 0 < i → f[0]? = some ⟨(⟨#[102, 114, 111, 109]⟩ : ByteArray), L.frm⟩
 p1 : 1 < i → f[1]? = some ⟨(⟨#[116, 111]⟩ : ByteArray), L.to⟩
 p2 : 2 < i → f[2]? = some ⟨(⟨#[110, 117, 109, 98, 101, 114]⟩ : ByteArray), itoS L.number⟩ ∧ inR L.number
 p3 : 3 < i → f[3]? = some ⟨(⟨#[107, 105, 110, 100]⟩ : ByteArray), kindN L.kind⟩ ∧ 0 ≤ L.kind ∧ L.kind ≤ 28
 p4 : 4 < i → f[4]? = some ⟨(⟨#[97, 99, 107]⟩ : ByteArray), itoS L.ack⟩ ∧ inR L.ack
 p5 : 5 < i → f[5]? = some ⟨(⟨#[100, 101, 97, 108]⟩ : ByteArray), L.deal⟩
 p6 : 6 < i → f[6]? = some ⟨(⟨#[116, 101, 120, 116]⟩ : ByteArray), L.text⟩
 p7 : 7 < i → f[7]? = some ⟨(⟨#[112, 97, 114, 116, 121]⟩ : ByteArray), L.party⟩
 p8 : 8 < i → f[8]? = some ⟨(⟨#[105, 110, 100, 101, 120]⟩ : ByteArray), itoS L.index⟩ ∧ inR L.index
 p9 : 9 < i → f[9]? = some ⟨(⟨#[100, 97, 121]⟩ : ByteArray), itoS L.day⟩ ∧ inR L.day
 p10 : 10 < i → f[10]? = some ⟨(⟨#[115, 117, 109]⟩ : ByteArray), monS L.cur L.amt⟩ ∧ ((L.cur = ⟨#[]⟩ ∧ L.amt = 0) ∨ moneyB L.cur L.amt = true)
theorem Pre.init (f : List Fd) : Pre f 0 zL := ⟨rfl, rfl, fun _ => ⟨rfl, rfl⟩, fun h => absurd h (by omega), fun h => absurd h (by omega), fun h => absurd h (by omega), fun h => absurd h (by omega), fun h => absurd h (by omega), fun h => absurd h (by omega), fun h => absurd h (by omega), fun h => absurd h (by omega), fun h => absurd h (by omega), fun h => absurd h (by omega), fun h => absurd h (by omega)⟩
theorem recA_at0 (l : Lt) : (recA l)[0]? = some ⟨(⟨#[102, 114, 111, 109]⟩ : ByteArray), l.frm⟩ := rfl
theorem recA_at1 (l : Lt) : (recA l)[1]? = some ⟨(⟨#[116, 111]⟩ : ByteArray), l.to⟩ := rfl
theorem recA_at2 (l : Lt) : (recA l)[2]? = some ⟨(⟨#[110, 117, 109, 98, 101, 114]⟩ : ByteArray), itoS l.number⟩ := rfl
theorem recA_at3 (l : Lt) : (recA l)[3]? = some ⟨(⟨#[107, 105, 110, 100]⟩ : ByteArray), kindN l.kind⟩ := rfl
theorem recA_at4 (l : Lt) : (recA l)[4]? = some ⟨(⟨#[97, 99, 107]⟩ : ByteArray), itoS l.ack⟩ := rfl
theorem recA_at5 (l : Lt) : (recA l)[5]? = some ⟨(⟨#[100, 101, 97, 108]⟩ : ByteArray), l.deal⟩ := rfl
theorem recA_at6 (l : Lt) : (recA l)[6]? = some ⟨(⟨#[116, 101, 120, 116]⟩ : ByteArray), l.text⟩ := rfl
theorem recA_at7 (l : Lt) : (recA l)[7]? = some ⟨(⟨#[112, 97, 114, 116, 121]⟩ : ByteArray), l.party⟩ := rfl
theorem recA_at8 (l : Lt) : (recA l)[8]? = some ⟨(⟨#[105, 110, 100, 101, 120]⟩ : ByteArray), itoS l.index⟩ := rfl
theorem recA_at9 (l : Lt) : (recA l)[9]? = some ⟨(⟨#[100, 97, 121]⟩ : ByteArray), itoS l.day⟩ := rfl
theorem recA_at10 (l : Lt) : (recA l)[10]? = some ⟨(⟨#[115, 117, 109]⟩ : ByteArray), monS l.cur l.amt⟩ := rfl
theorem Pre.row {f : List Fd} {L : Lt} (h : Pre f 11 L) (hl : 11 ≤ f.length) : f = recB L.frm L.to (itoS L.number) (kindN L.kind) (itoS L.ack) L.deal L.text L.party (itoS L.index) (itoS L.day) (monS L.cur L.amt) ++ f.drop 11 := by
 have ht : f.take 11 = recB L.frm L.to (itoS L.number) (kindN L.kind) (itoS L.ack) L.deal L.text L.party (itoS L.index) (itoS L.day) (monS L.cur L.amt) := by
  apply List.ext_getElem?
  intro j
  by_cases hj : j < 11
  ·rw [List.getElem?_take_of_lt hj]
   rcases (show j = 0 ∨ j = 1 ∨ j = 2 ∨ j = 3 ∨ j = 4 ∨ j = 5 ∨ j = 6 ∨ j = 7 ∨ j = 8 ∨ j = 9 ∨ j = 10 by omega) with rfl | rfl | rfl | rfl | rfl | rfl | rfl | rfl | rfl | rfl | rfl
   ·exact h.p0 (by omega)
   ·exact h.p1 (by omega)
   ·exact (h.p2 (by omega)).1
   ·exact (h.p3 (by omega)).1
   ·exact (h.p4 (by omega)).1
   ·exact h.p5 (by omega)
   ·exact h.p6 (by omega)
   ·exact h.p7 (by omega)
   ·exact (h.p8 (by omega)).1
   ·exact (h.p9 (by omega)).1
   ·exact (h.p10 (by omega)).1
  ·rw [List.getElem?_eq_none (by rw [List.length_take]; omega), List.getElem?_eq_none (by simp [recB]; omega)]
 rw [← ht, List.take_append_drop]
theorem recA_len (l : Lt) : (recA l).length = 11 + l.docs.length + l.boxes.length := by
 unfold recA recB
 simp
 omega
def sndC : XCode → XCode
 | .seq _ b => b
 | c => c
def fromRest : XCode := sndC (sndC (sndC (sndC (sndC x7.body))))
structure FromP (f : List Fd) : Prop where
 len : f.length ≤ 9223372036854775807
 each : ∀ x ∈ f, longS x.value
/-- The steps, and what they hold, as From has them. -/
def rowH : List Ent := [.blk 56 [.ptr 1 0], .hrow 58 2 11 [.str ⟨#[102, 114, 111, 109]⟩, .clo 46 [.ptr 4 0], .str ⟨#[116, 111]⟩, .clo 46 [.ptr 5 0], .str ⟨#[110, 117, 109, 98, 101, 114]⟩, .clo 48 [.ptr 6 0], .str ⟨#[107, 105, 110, 100]⟩, .clo 50 [.ptr 2 0], .str ⟨#[97, 99, 107]⟩, .clo 48 [.ptr 7 0], .str ⟨#[100, 101, 97, 108]⟩, .clo 46 [.ptr 8 0], .str ⟨#[116, 101, 120, 116]⟩, .clo 46 [.ptr 9 0], .str ⟨#[112, 97, 114, 116, 121]⟩, .clo 46 [.ptr 10 0], .str ⟨#[105, 110, 100, 101, 120]⟩, .clo 48 [.ptr 11 0], .str ⟨#[100, 97, 121]⟩, .clo 48 [.ptr 12 0], .str ⟨#[115, 117, 109]⟩, .clo 51 [.ptr 2 0]], .blk 84 [.ptr 1 0], .blk 84 [.ptr 1 1], .blk 86 [.ptr 1 2], .blk 86 [.ptr 1 4], .blk 84 [.ptr 1 5], .blk 84 [.ptr 1 6], .blk 84 [.ptr 1 7], .blk 86 [.ptr 1 8], .blk 86 [.ptr 1 9]]
noncomputable def FromRC : Ctr := spec (fun f : List Fd => [.sl 2 (mapA FdA f)]) (fun _ => []) FromP (fun f => frA (fromR f)) fun _ => []
end Go.Proofs.YtblkcnmecfppnaaGreatDoor
/-
 The letter of a record: the program's From behind its steps.
-/
namespace Go.Proofs.YtblkcnmecfppnaaGreatDoor
open Go.RowKit
set_option maxHeartbeats 8000000
set_option maxRecDepth 100000
theorem rec_at {D : List Dc} {B : List ByteArray} {k : Nat} {x : Fd} (h : (D.map docF ++ B.map boxF)[k]? = some x) : (∃ d, D[k]? = some d ∧ x = docF d) ∨ (D.length ≤ k ∧ ∃ b, x = boxF b) := by
 by_cases hk : k < D.length
 ·rw [List.getElem?_append_left (by rw [List.length_map]; exact hk), List.getElem?_map] at h
  obtain ⟨d, hd, e⟩ := Option.map_eq_some_iff.1 h
  exact .inl ⟨d, hd, e.symm⟩
 ·rw [List.getElem?_append_right (by rw [List.length_map]; omega), List.getElem?_map] at h
  obtain ⟨b, _, e⟩ := Option.map_eq_some_iff.1 h
  exact .inr ⟨by omega, b, e.symm⟩
def docN : ByteArray := ⟨#[100, 111, 99]⟩
def boxN : ByteArray := ⟨#[98, 111, 120]⟩
theorem doc_box : ¬ docN = boxN := by decide
/-- What is at a place where a paper's field stands is a paper. -/
theorem doc_next {D D0 : List Dc} {B : List ByteArray} {R : List Fd} {v : ByteArray} (h : D.map docF ++ B.map boxF = D0.map docF ++ R) (hx : R[0]? = some ⟨docN, v⟩) : ∃ d ∈ D, docS d = v.data.toList := by
 have e : (D.map docF ++ B.map boxF)[D0.length]? = some ⟨docN, v⟩ := by
  rw [h, List.getElem?_append_right (by rw [List.length_map]; omega), List.length_map, Nat.sub_self]; exact hx
 rcases rec_at e with ⟨d, hd, hxd⟩ | ⟨_, b, hxb⟩
 ·refine ⟨d, List.mem_of_getElem? hd, ?_⟩
  have := congrArg (fun f : Fd => f.value.data.toList) hxd
  simpa [docF] using this.symm
 ·exact absurd (congrArg Fd.name hxb) doc_box
/-- Behind the papers there are boxes alone. -/
theorem box_next {D D0 : List Dc} {B : List ByteArray} {R : List Fd} {j : Nat} {x : Fd} (h : D.map docF ++ B.map boxF = D0.map docF ++ R) (h0 : ∀ y, R[0]? = some y → ¬ y.name = docN) (hx : R[j]? = some x) : x.name = boxN := by
 have at_ : ∀ i, (D.map docF ++ B.map boxF)[D0.length + i]? = R[i]? := fun i => by
  rw [h, List.getElem?_append_right (by rw [List.length_map]; omega), List.length_map, Nat.add_sub_cancel_left]
 rcases rec_at ((at_ j).trans hx) with ⟨d, hd, hxd⟩ | ⟨_, b, hxb⟩
 ·exfalso
  have hlt := (List.getElem?_eq_some_iff.1 hd).1
  have hr0 : 0 < R.length := Nat.lt_of_le_of_lt (Nat.zero_le _) (List.getElem?_eq_some_iff.1 hx).1
  obtain ⟨y, hy⟩ := some_at hr0
  rcases rec_at ((at_ 0).trans hy) with ⟨d', hd', hyd⟩ | ⟨hge, _⟩
  ·exact h0 y hy (by rw [hyd]; rfl)
  ·omega
 ·rw [hxb]; rfl
theorem names_of {d : Dc} (h : docC d = 0) : NamesS d.fields := by
 have h2 : docR d = true ∧ textC (recP d) = 0 := by
  unfold docC at h
  split at h
  ·rename_i hr; exact ⟨hr, h⟩
  ·cases h
 have h3 : ∀ f ∈ recP d, mayF f = true := by
  have := h2.2
  unfold textC at this
  split at this
  ·cases this
  ·split at this
   ·rename_i ha; exact fun f hf => List.all_eq_true.1 ha f hf
   ·cases this
 have h4 := h2.1
 unfold docR at h4
 simp only [Bool.and_eq_true, decide_eq_true_eq] at h4
 refine ⟨by unfold maxLen; omega, fun f hf => ?_⟩
 have := (mayF_bd (h3 f (by unfold recP; simp [hf]))).1
 unfold maxLen; omega
theorem from_end (P : Program) (hm : FnOk P 23 (LtP mayB)) {f : List Fd} {K : AV → List Ent → Prop} (hK : K (frA (fromR f)) []) (hp : FromP f) {frm to : ByteArray} {number kind ack : Int} {deal text party : ByteArray} {index day : Int} {cur : ByteArray} {amt : Int} (hv : VL ⟨frm, to, number, kind, ack, deal, text, party, index, day, cur, amt, [], []⟩)
  {D : List Dc} {B : List ByteArray} (hrec : f = recB frm to (itoS number) (kindN kind) (itoS ack) deal text party (itoS index) (itoS day) (monS cur amt) ++ (D.map docF ++ B.map boxF)) (hD : ∀ d ∈ D, docC d = 0) (hDl : D.length ≤ 40) (hBl : B.length ≤ 40) (hB : ∀ s ∈ B, longS s) :
  SemW P x7.n 0 (sndC (sndC (sndC fromRest))) (FinQ 0 x7.res (CutK [] K)) ⟨[(2, .ptr 0 0), (4, .ptr 1 0)], [.blk 31 [.str ⟨#[]⟩, .str ⟨#[]⟩, .i 0, .i 0, .i 0, .str ⟨#[]⟩, .str ⟨#[]⟩, .str ⟨#[]⟩, .i 0, .i 0, .str ⟨#[]⟩, .i 0, .v (.slice none 0 0), .v (.slice none 0 0)], .blk 31 [.str frm, .str to, .i number, .i kind, .i ack, .str deal, .str text, .str party, .i index, .i day, .str cur, .i amt, .sl 4 (mapA DcA D), .sl 1 (mapA .str B)]]⟩ := by
 have hvl : VL ⟨frm, to, number, kind, ack, deal, text, party, index, day, cur, amt, D, B⟩ := ⟨hv.number, hv.ack, hv.index, hv.day, hv.kind, hv.sum, hD⟩
 rw [fromR_at hvl hrec.symm] at hK
 have hin : ∀ x ∈ recB frm to (itoS number) (kindN kind) (itoS ack) deal text party (itoS index) (itoS day) (monS cur amt), longS x.value := fun x hx => hp.each x (by rw [hrec]; exact List.mem_append_left _ hx)
 have hsh : ∀ {s : ByteArray}, longS s → shortS s := fun h => Nat.le_trans h (by decide)
 have hsm : SmallL ⟨frm, to, number, kind, ack, deal, text, party, index, day, cur, amt, D, B⟩ :=
  ⟨⟨by dsimp only; omega, fun d hd => names_of (hD d hd)⟩, ⟨by dsimp only; omega, fun s hs => hsh (hB s hs)⟩, hsh (hin ⟨_, frm⟩ (.head _)), hsh (hin ⟨_, to⟩ (.tail _ (.head _))), hsh (hin ⟨⟨#[100, 101, 97, 108]⟩, deal⟩ (by simp [recB])), hsh (hin ⟨⟨#[116, 101, 120, 116]⟩, text⟩ (by simp [recB])), hsh (hin ⟨⟨#[112, 97, 114, 116, 121]⟩, party⟩ (by simp [recB]))⟩
 refine .of ?_
 obtain ⟨b, hb⟩ : ∃ b, b = mayB ⟨frm, to, number, kind, ack, deal, text, party, index, day, cur, amt, D, B⟩ := ⟨_, rfl⟩
 rw [← hb] at hK
 cbv
 refine callG_spec0 hm ⟨frm, to, number, kind, ack, deal, text, party, index, day, cur, amt, D, B⟩ hsm rfl rfl rfl ?_
 rw [← hb]
 cases b
 ·cbv
  (refine FinK.mk ⟨_, Gh.refl _, ?_⟩; cbv; exact .inl (CutK.pre [] (by rfl) (by exact Nat.le_of_ble_eq_true rfl) (by rfl) (by rfl) (by repeat' (first | exact LeL.nil | exact LeL0.nil | exact LeH.nil | exact LeE.refl _ | exact Le.refl _ | exact Le0.one (.refl _) | exact Le0.one (.nil _) | exact Le1.refl _ | exact Le1.nil _ | refine LeH.cons ?_ ?_ | refine LeE.row ?_ | refine LeE.blk ?_ | refine LeL0.cons ?_ ?_ | refine LeL.cons ?_ ?_ | refine Le0.agg ?_ | refine Le.tup ?_ | exact Le.one (.one (.nil _)) | refine Le.one (.agg ?_))) (LeH.refl _) hK))
 ·cbv
  (refine FinK.mk ⟨_, Gh.refl _, ?_⟩; cbv; exact .inl (CutK.pre [] (by rfl) (by exact Nat.le_of_ble_eq_true rfl) (by rfl) (by rfl) (by repeat' (first | exact LeL.nil | exact LeL0.nil | exact LeH.nil | exact LeE.refl _ | exact Le.refl _ | exact Le0.one (.refl _) | exact Le0.one (.nil _) | exact Le1.refl _ | exact Le1.nil _ | refine LeH.cons ?_ ?_ | refine LeE.row ?_ | refine LeE.blk ?_ | refine LeL0.cons ?_ ?_ | refine LeL.cons ?_ ?_ | refine Le0.agg ?_ | refine Le.tup ?_ | exact Le.one (.one (.nil _)) | refine Le.one (.agg ?_))) (LeH.refl _) hK))
theorem from_boxes (P : Program) (hm : FnOk P 23 (LtP mayB)) {f : List Fd} {K : AV → List Ent → Prop} (hK : K (frA (fromR f)) []) (hp : FromP f) (hf51 : f.length ≤ 51) {frm to : ByteArray} {number kind ack : Int} {deal text party : ByteArray} {index day : Int} {cur : ByteArray} {amt : Int} (hv : VL ⟨frm, to, number, kind, ack, deal, text, party, index, day, cur, amt, [], []⟩)
  {ys R : List Fd} {D : List Dc} (hrec : f = recB frm to (itoS number) (kindN kind) (itoS ack) deal text party (itoS index) (itoS day) (monS cur amt) ++ ys) (hyR : ys = D.map docF ++ R) (hD : ∀ d ∈ D, docC d = 0) (h0 : ∀ y, R[0]? = some y → ¬ y.name = docN) :
  SemW P x7.n 0 (sndC (sndC fromRest)) (FinQ 0 x7.res (CutK [] K)) ⟨[(2, .ptr 0 0), (4, .ptr 1 0), (8, .sl 2 (mapA FdA R))], [.blk 31 [.str ⟨#[]⟩, .str ⟨#[]⟩, .i 0, .i 0, .i 0, .str ⟨#[]⟩, .str ⟨#[]⟩, .str ⟨#[]⟩, .i 0, .i 0, .str ⟨#[]⟩, .i 0, .v (.slice none 0 0), .v (.slice none 0 0)], .blk 31 [.str frm, .str to, .i number, .i kind, .i ack, .str deal, .str text, .str party, .i index, .i day, .str cur, .i amt, .hd 13, .v (.slice none 0 0)]] ++ rowH ++ [.row 60 4 (mapA DcA D)]⟩ := by
 have non : (∀ l, VL l → recA l = f → mayB l = false) → K (.tup [LtA zL, .i 2]) [] := fun h => by rw [fromR_not h] at hK; exact hK
 have hL : ∀ l, VL l → recA l = f → l.docs.map docF ++ l.boxes.map boxF = ys := fun l _ he => by
  rw [hrec] at he
  exact (List.append_inj he (by unfold recB; rfl)).2
 have hR2 := mapA_len FdA R
 have hlen : D.length + R.length ≤ 40 := by
  have := congrArg List.length hrec
  rw [hyR] at this
  simp [recB] at this
  omega
 obtain ⟨rl, hrl⟩ : ∃ n, n = R.length := ⟨_, rfl⟩
 refine SemW.seq (.of ?_)
 cbv; repeat' ((first | refine .k fun z hz => ?_ | fail) <;> cbv)
 refine xloopG (Gh.adoptC 1 13 9 1 rfl rfl) ?_
 cbv
 obtain rfl : z = nI rl := by ((try simp only [vn] at *) <;> omega)
 refine xloopV [14] (fun q : { q : Nat × List ByteArray // q.1 ≤ rl ∧ R.take q.1 = q.2.map boxF ∧ q.2.length = q.1 ∧ ∀ s ∈ q.2, longS s } => [(94, .i (nI q.1.1))]) (fun q => [.blk 31 [.str ⟨#[]⟩, .str ⟨#[]⟩, .i 0, .i 0, .i 0, .str ⟨#[]⟩, .str ⟨#[]⟩, .str ⟨#[]⟩, .i 0, .i 0, .str ⟨#[]⟩, .i 0, .v (.slice none 0 0), .v (.slice none 0 0)], .blk 31 [.str frm, .str to, .i number, .i kind, .i ack, .str deal, .str text, .str party, .i index, .i day, .str cur, .i amt, .hd 13, .hd 14]] ++ rowH ++ [.row 60 4 (mapA DcA D), .row 9 1 (mapA .str q.1.2)]) (fun q => lft rl q.1.1) ⟨(0, []), Nat.zero_le _, by simp, rfl, fun s hs => by cases hs⟩ ?_
 rintro ⟨⟨j, B⟩, hj, hB, hBl, hBs⟩
 dsimp only at hj hB hBl hBs ⊢
 have hB2 := mapA_len AV.str B
 by_cases hjl : j < rl
 ·obtain ⟨⟨xn, xv⟩, hx⟩ : ∃ x, R[j]? = some x := some_at (by omega)
  have hxm : (⟨xn, xv⟩ : Fd) ∈ f := by
   rw [hrec, hyR]
   exact List.mem_append_right _ (List.mem_append_right _ (List.mem_of_getElem? hx))
  have hxv := hp.each _ hxm
  cbv; repeat' ((first | refine .e ?_ | refine .y fun h => ?_ | refine .mk (fun h => ?_) fun h => ?_ | refine .k fun z hz => ?_ | refine .zl fun zs hzs hzl => ?_ | fail) <;> cbv)
  ·have hxn : xn = boxN := by assumption
   obtain rfl : z = nI (j + 1) := by ((try simp only [vn] at *) <;> omega)
   obtain rfl : zs = mapA AV.str (B ++ [xv]) := by rw [mapA_app, mapA_one, hzs]
   exact roundV ⟨(j + 1, B ++ [xv]), by ((try simp only [vn] at *) <;> omega), by dsimp only; rw [List.take_add_one, hx, hB, hxn]; simp [boxF, boxN], by dsimp only; simp only [List.length_append, List.length_cons, List.length_nil]; omega, fun s hs => by rcases List.mem_append.1 hs with h | h; exact hBs s h; (obtain rfl := List.mem_singleton.1 h; exact hxv)⟩ (lft_lt (by ((try simp only [vn] at *) <;> omega)))
  ·have e2 := non fun l hl he => by
    exfalso
    exact absurd (box_next ((hL l hl he).trans hyR) h0 hx) (by assumption)
   (refine FinK.mk ⟨_, Gh.refl _, ?_⟩; cbv; exact .inl (CutK.pre [] (by rfl) (by exact Nat.le_of_ble_eq_true rfl) (by rfl) (by rfl) (by repeat' (first | exact LeL.nil | exact LeL0.nil | exact LeH.nil | exact LeE.refl _ | exact Le.refl _ | exact Le0.one (.refl _) | exact Le0.one (.nil _) | exact Le1.refl _ | exact Le1.nil _ | refine LeH.cons ?_ ?_ | refine LeE.row ?_ | refine LeE.blk ?_ | refine LeL0.cons ?_ ?_ | refine LeL.cons ?_ ?_ | refine Le0.agg ?_ | refine Le.tup ?_ | exact Le.one (.one (.nil _)) | refine Le.one (.agg ?_))) (LeH.refl _) e2))
 ·obtain rfl : j = rl := by omega
  have hRB : R = B.map boxF := by rw [← hB, List.take_of_length_le (by omega)]
  cbv; repeat' ((first | refine .n fun h => ?_ | fail) <;> cbv)
  refine SemW.gh (Gh.plain 13 rfl) (SemW.gh (Gh.plain 14 rfl) ?_)
  exact SemW.gh (Gh.weak (by repeat' (first | exact trivial | refine ⟨.inl rfl, ?_⟩ | refine ⟨.inr rfl, ?_⟩)) (by rfl) (by rfl) (by rfl) (by exact Nat.le_of_ble_eq_true rfl)) (from_end P hm hK hp hv (hrec.trans (by rw [hyR, hRB])) hD (by omega) (by omega) hBs)
theorem from_rest (P : Program) (hR : FnOk P 22 ReadC) (hm : FnOk P 23 (LtP mayB)) {f : List Fd} {K : AV → List Ent → Prop} (hK : K (frA (fromR f)) []) (hp : FromP f) (hf11 : 11 ≤ f.length) (hf51 : f.length ≤ 51) {frm to : ByteArray} {number kind ack : Int} {deal text party : ByteArray} {index day : Int} {cur : ByteArray} {amt : Int} (hv : VL ⟨frm, to, number, kind, ack, deal, text, party, index, day, cur, amt, [], []⟩)
  (hrec : f = recB frm to (itoS number) (kindN kind) (itoS ack) deal text party (itoS index) (itoS day) (monS cur amt) ++ f.drop 11) :
  SemW P x7.n 0 fromRest (FinQ 0 x7.res (CutK [] K)) ⟨[(0, .sl 2 (mapA FdA f)), (2, .ptr 0 0), (4, .ptr 1 0), (5, .hd 3)], [.blk 31 [.str ⟨#[]⟩, .str ⟨#[]⟩, .i 0, .i 0, .i 0, .str ⟨#[]⟩, .str ⟨#[]⟩, .str ⟨#[]⟩, .i 0, .i 0, .str ⟨#[]⟩, .i 0, .v (.slice none 0 0), .v (.slice none 0 0)], .blk 31 [.str frm, .str to, .i number, .i kind, .i ack, .str deal, .str text, .str party, .i index, .i day, .str cur, .i amt, .v (.slice none 0 0), .v (.slice none 0 0)]] ++ rowH⟩ := by
 have non : (∀ l, VL l → recA l = f → mayB l = false) → K (.tup [LtA zL, .i 2]) [] := fun h => by rw [fromR_not h] at hK; exact hK
 have hfl := mapA_len FdA f
 refine SemW.seq (.of ?_)
 cbv; repeat' ((first | refine .l fun ys hys hyl => ?_ | fail) <;> cbv)
 have hy : ys = f.drop 11 := by
  rw [hys]
  show List.drop 11 (List.take (f.length : Int).toNat f) = _
  rw [Int.toNat_natCast, List.take_length]
 clear hys hyl
 rw [← hy] at hrec
 have hL : ∀ l, VL l → recA l = f → l.docs.map docF ++ l.boxes.map boxF = ys := fun l _ he => by
  rw [hrec] at he
  exact (List.append_inj he (by unfold recB; rfl)).2
 have hyl : ys.length ≤ 40 := by rw [hy, List.length_drop]; omega
 refine SemW.seq (.of ?_)
 cbv
 refine xloopG (Gh.adoptC 1 12 60 4 rfl rfl) ?_
 cbv
 refine xloopV [13] (fun q : { q : (Nat × List Fd) × List Dc // ys = q.2.map docF ++ q.1.2 ∧ (∀ d ∈ q.2, docC d = 0) ∧ q.1.2.length = q.1.1 ∧ q.2.length + q.1.1 ≤ 40 } => [(8, .sl 2 (mapA FdA q.1.1.2))]) (fun q => [.blk 31 [.str ⟨#[]⟩, .str ⟨#[]⟩, .i 0, .i 0, .i 0, .str ⟨#[]⟩, .str ⟨#[]⟩, .str ⟨#[]⟩, .i 0, .i 0, .str ⟨#[]⟩, .i 0, .v (.slice none 0 0), .v (.slice none 0 0)], .blk 31 [.str frm, .str to, .i number, .i kind, .i ack, .str deal, .str text, .str party, .i index, .i day, .str cur, .i amt, .hd 13, .v (.slice none 0 0)]] ++ rowH ++ [.row 60 4 (mapA DcA q.1.2)]) (fun q => lft q.1.1.1 0) ⟨((ys.length, ys), []), rfl, (fun d hd => by cases hd), rfl, by simpa using hyl⟩ ?_
 rintro ⟨⟨⟨n, R⟩, D⟩, hyR, hD, hRn, hn⟩
 dsimp only at hyR hD hRn hn ⊢
 have hR2 := mapA_len FdA R
 have hD2 := mapA_len DcA D
 obtain ⟨o, h0⟩ : ∃ o, R[0]? = o := ⟨_, rfl⟩
 cases o with
 | none =>
  have hR0 : R.length = 0 := by have := List.getElem?_eq_none_iff.1 h0; omega
  obtain rfl : R = [] := List.eq_nil_of_length_eq_zero hR0
  cbv; repeat' ((first | refine .n fun h => ?_ | refine .k fun z hz => ?_ | fail) <;> cbv)
  exact SemW.gh (Gh.weak (by repeat' (first | exact trivial | refine ⟨.inl rfl, ?_⟩ | refine ⟨.inr rfl, ?_⟩)) (by rfl) (by rfl) (by rfl) (by exact Nat.le_of_ble_eq_true rfl)) (from_boxes P hm hK hp hf51 hv hrec hyR hD (fun y h => by cases h))
 | some x =>
  have hR0 : 0 < R.length := (List.getElem?_eq_some_iff.1 h0).1
  obtain ⟨xn, xv⟩ := x
  cbv; repeat' ((first | refine .e ?_ | refine .y fun h => ?_ | refine .mk (fun h => ?_) fun h => ?_ | refine .k fun z hz => ?_ | fail) <;> cbv)
  ·have hxm : (⟨xn, xv⟩ : Fd) ∈ f := by
    rw [hrec, hyR]
    exact List.mem_append_right _ (List.mem_append_right _ (List.mem_of_getElem? h0))
   have hxv := Nat.le_trans (hp.each _ hxm) (show 281474976710656 ≤ maxLen by decide)
   have hxn : xn = docN := by assumption
   obtain ⟨Z, hZ⟩ : ∃ r, r = readS xv.data.toList := ⟨_, rfl⟩
   refine callG_spec0 hR xv hxv rfl rfl rfl ?_
   rw [← hZ]
   obtain ⟨d, a, e⟩ := Z
   obtain ⟨d1, d2, d3, d4⟩ := d
   cbv; repeat' ((first | refine .mk (fun h => ?_) fun h => ?_ | refine .l fun ys hys hyl => ?_ | refine .zl fun zs hzs hzl => ?_ | fail) <;> cbv)
   ·obtain rfl : e = 0 := by assumption
    have hd := (readS_iff xv.data.toList ⟨d1, d2, d3, d4⟩).1 ⟨a, hZ.symm⟩
    have hcons : R = ⟨xn, xv⟩ :: R.drop 1 := by
     cases R with
     | nil => cases h0
     | cons y R => simp only [List.getElem?_cons_zero, Option.some.injEq] at h0; rw [h0]; rfl
    obtain rfl : ys = R.drop 1 := by
     rw [hys]
     show List.drop 1 (List.take (R.length : Int).toNat R) = _
     rw [Int.toNat_natCast, List.take_length]
    have hdf : docF ⟨d1, d2, d3, d4⟩ = ⟨xn, xv⟩ := by unfold docF; rw [hd.2, hxn]; rfl
    obtain rfl : zs = mapA DcA (D ++ [⟨d1, d2, d3, d4⟩]) := by rw [mapA_app, mapA_one, hzs]; rfl
    obtain ⟨R', hR'⟩ : ∃ r, r = R.drop 1 := ⟨_, rfl⟩
    rw [← hR'] at hcons ⊢
    have hRl : R'.length + 1 = R.length := by rw [hcons]; rfl
    exact roundV ⟨((R'.length, R'), D ++ [⟨d1, d2, d3, d4⟩]), by dsimp only; rw [hyR, hcons, ← hdf]; simp, fun d hd' => by rcases List.mem_append.1 hd' with h | h; exact hD d h; (obtain rfl := List.mem_singleton.1 h; exact hd.1), rfl, by dsimp only; simp only [List.length_append, List.length_cons, List.length_nil]; omega⟩ (num_lt (show R'.length < n by omega))
   ·have e2 := non fun l hl he => by
     exfalso
     rw [hxn] at h0
     obtain ⟨d, hd, hdv⟩ := doc_next ((hL l hl he).trans hyR) h0
     obtain ⟨b, hb⟩ := (readS_iff xv.data.toList d).2 ⟨hl.docs d hd, hdv⟩
     rw [← hZ] at hb
     injection hb with _ hb
     injection hb with _ hb
     exact absurd hb (by assumption)
    (refine FinK.mk ⟨_, Gh.refl _, ?_⟩; cbv; exact .inl (CutK.pre [] (by rfl) (by exact Nat.le_of_ble_eq_true rfl) (by rfl) (by rfl) (by repeat' (first | exact LeL.nil | exact LeL0.nil | exact LeH.nil | exact LeE.refl _ | exact Le.refl _ | exact Le0.one (.refl _) | exact Le0.one (.nil _) | exact Le1.refl _ | exact Le1.nil _ | refine LeH.cons ?_ ?_ | refine LeE.row ?_ | refine LeE.blk ?_ | refine LeL0.cons ?_ ?_ | refine LeL.cons ?_ ?_ | refine Le0.agg ?_ | refine Le.tup ?_ | exact Le.one (.one (.nil _)) | refine Le.one (.agg ?_))) (LeH.refl _) e2))
  ·exact SemW.gh (Gh.weak (by repeat' (first | exact trivial | refine ⟨.inl rfl, ?_⟩ | refine ⟨.inr rfl, ?_⟩)) (by rfl) (by rfl) (by rfl) (by exact Nat.le_of_ble_eq_true rfl)) (from_boxes P hm hK hp hf51 hv hrec hyR hD (fun y hy2 => by rw [h0] at hy2; cases hy2; exact h))
end Go.Proofs.YtblkcnmecfppnaaGreatDoor
/-
 The letter of a record: the program's From.
-/
namespace Go.Proofs.YtblkcnmecfppnaaGreatDoor
open Go.RowKit
set_option maxHeartbeats 8000000
set_option maxRecDepth 100000
theorem from_body (P : Program) (hst : FnOk P 21 StepsC) (mT : MayCall P 46) (mN : MayCall P 48) (mK : MayCall P 50) (mS : MayCall P 51)
  (hT : FnOk P 46 PutTC) (hN : FnOk P 48 PutNC) (hKd : FnOk P 50 PutKC) (hS : FnOk P 51 PutSC) (hR : FnOk P 22 ReadC) (hm : FnOk P 23 (LtP mayB)) : BodyOkS P x7 FromRC := by
 intro args H K hc
 obtain ⟨f, rfl, rfl, hp, hK⟩ := hc
 refine ⟨Nat.le_of_ble_eq_true rfl, ?_⟩
 dsimp only at hK ⊢
 have non : (∀ l, VL l → recA l = f → mayB l = false) → K (.tup [LtA zL, .i 2]) [] := fun h => by rw [fromR_not h] at hK; exact hK
 have hfl := mapA_len FdA f
 obtain ⟨fl, hfn⟩ : ∃ n, n = f.length := ⟨_, rfl⟩
 refine SemW.seq (.of ?_)
 cbv
 refine SemW.seq (.of ?_)
 cbv
 refine SemW.seq (.of ?_)
 cbv
 (refine callG_spec hst zL [1] trivial rfl rfl (by decide) rfl rfl rfl rfl rfl ?_; try dsimp only)
 cbv
 refine SemW.seq (.of ?_)
 cbv; repeat' ((first | refine .mk (fun h => ?_) fun h => ?_ | refine .k fun z hz => ?_ | fail) <;> cbv)
 ·have e := non fun l hl he => by
   have := recA_len l
   rw [he] at this
   exact absurd (show f.length < 11 by ((try simp only [vn] at *) <;> omega)) (by omega)
  (refine FinK.mk ⟨_, Gh.refl _, ?_⟩; cbv; exact .inl (CutK.pre [] (by rfl) (by exact Nat.le_of_ble_eq_true rfl) (by rfl) (by rfl) (by repeat' (first | exact LeL.nil | exact LeL0.nil | exact LeH.nil | exact LeE.refl _ | exact Le.refl _ | exact Le0.one (.refl _) | exact Le0.one (.nil _) | exact Le1.refl _ | exact Le1.nil _ | refine LeH.cons ?_ ?_ | refine LeE.row ?_ | refine LeE.blk ?_ | refine LeL0.cons ?_ ?_ | refine LeL.cons ?_ ?_ | refine Le0.agg ?_ | refine Le.tup ?_ | exact Le.one (.one (.nil _)) | refine Le.one (.agg ?_))) (LeH.refl _) e))
 ·have e := non fun l hl he => by
   have hl1 := recA_len l
   rw [he] at hl1
   cases hmb : mayB l with
   | false => rfl
   | true =>
    obtain ⟨_, _, _, _, f5, f6⟩ := mayB_facts hmb
    exact absurd (show 51 < f.length by ((try simp only [vn] at *) <;> omega)) (by omega)
  (refine FinK.mk ⟨_, Gh.refl _, ?_⟩; cbv; exact .inl (CutK.pre [] (by rfl) (by exact Nat.le_of_ble_eq_true rfl) (by rfl) (by rfl) (by repeat' (first | exact LeL.nil | exact LeL0.nil | exact LeH.nil | exact LeE.refl _ | exact Le.refl _ | exact Le0.one (.refl _) | exact Le0.one (.nil _) | exact Le1.refl _ | exact Le1.nil _ | refine LeH.cons ?_ ?_ | refine LeE.row ?_ | refine LeE.blk ?_ | refine LeL0.cons ?_ ?_ | refine LeL.cons ?_ ?_ | refine Le0.agg ?_ | refine Le.tup ?_ | exact Le.one (.one (.nil _)) | refine Le.one (.agg ?_))) (LeH.refl _) e))
 have hf11 : 11 ≤ f.length := by ((try simp only [vn] at *) <;> omega)
 have hf51 : f.length ≤ 51 := by ((try simp only [vn] at *) <;> omega)
 refine SemW.seq (.of ?_)
 cbv
 refine xloopV [] (fun q : { q : Nat × Lt // q.1 ≤ 11 ∧ Pre f q.1 q.2 } => [(32, .i (nI q.1.1))]) (fun q => .blk 31 [.str ⟨#[]⟩, .str ⟨#[]⟩, .i 0, .i 0, .i 0, .str ⟨#[]⟩, .str ⟨#[]⟩, .str ⟨#[]⟩, .i 0, .i 0, .str ⟨#[]⟩, .i 0, .v (.slice none 0 0), .v (.slice none 0 0)] :: .blk 31 (LtL q.1.2) :: rowH) (fun q => lft 11 q.1.1) ⟨(0, zL), by omega, Pre.init f⟩ ?_
 rintro ⟨⟨i, ⟨frm, to, number, kind, ack, deal, text, party, index, day, cur, amt, docs, boxes⟩⟩, hi, hpre⟩
 obtain rfl := hpre.docs
 obtain rfl := hpre.boxes
 dsimp only at hi
 rcases (show i = 0 ∨ i = 1 ∨ i = 2 ∨ i = 3 ∨ i = 4 ∨ i = 5 ∨ i = 6 ∨ i = 7 ∨ i = 8 ∨ i = 9 ∨ i = 10 ∨ i = 11 by omega) with rfl | rfl | rfl | rfl | rfl | rfl | rfl | rfl | rfl | rfl | rfl | rfl
 ·obtain ⟨⟨xn, xv⟩, hx⟩ : ∃ x, f[0]? = some x := some_at (by ((try simp only [vn] at *) <;> omega))
  have hxv : longS xv := hp.each _ (List.mem_of_getElem? hx)
  have bad : (∀ l, VL l → xn = (⟨#[102, 114, 111, 109]⟩ : ByteArray) → xv = l.frm → False) → K (.tup [LtA zL, .i 2]) [] := fun h => non fun l hl he => by
   have e := recA_at0 l
   rw [he, hx] at e
   injection e with e
   injection e with e1 e2
   exact (h l hl e1 e2).elim
  cbv; repeat' ((first | refine .e ?_ | refine .y fun h => ?_ | refine .mk (fun h => ?_) fun h => ?_ | refine .o ?_ | refine And.intro ?_ ?_ | fail) <;> cbv)
  ·exact mT
  (refine callG_spec hT (⟨frm, to, number, kind, ack, deal, text, party, index, day, cur, amt, [], []⟩, 0, xv) [1, 4] (by simp) rfl rfl (by decide) rfl rfl rfl rfl rfl ?_; try dsimp only)
  ·have hxn : xn = (⟨#[102, 114, 111, 109]⟩ : ByteArray) := by assumption
   cbv; repeat' ((first | refine .k fun z hz => ?_ | fail) <;> cbv)
   obtain rfl : z = nI 1 := by ((try simp only [vn] at *) <;> omega)
   exact roundV ⟨(1, ⟨xv, to, number, kind, ack, deal, text, party, index, day, cur, amt, [], []⟩), by omega, ⟨rfl, rfl, fun _ => hpre.zero (by omega), fun _ => (by rw [hx, hxn]), fun h => absurd h (by omega), fun h => absurd h (by omega), fun h => absurd h (by omega), fun h => absurd h (by omega), fun h => absurd h (by omega), fun h => absurd h (by omega), fun h => absurd h (by omega), fun h => absurd h (by omega), fun h => absurd h (by omega), fun h => absurd h (by omega)⟩⟩ (lft_lt (by omega))
  ·have e := bad fun l hl h1 h2 => absurd h1 (by assumption)
   (refine FinK.mk ⟨_, Gh.refl _, ?_⟩; cbv; exact .inl (CutK.pre [] (by rfl) (by exact Nat.le_of_ble_eq_true rfl) (by rfl) (by rfl) (by repeat' (first | exact LeL.nil | exact LeL0.nil | exact LeH.nil | exact LeE.refl _ | exact Le.refl _ | exact Le0.one (.refl _) | exact Le0.one (.nil _) | exact Le1.refl _ | exact Le1.nil _ | refine LeH.cons ?_ ?_ | refine LeE.row ?_ | refine LeE.blk ?_ | refine LeL0.cons ?_ ?_ | refine LeL.cons ?_ ?_ | refine Le0.agg ?_ | refine Le.tup ?_ | exact Le.one (.one (.nil _)) | refine Le.one (.agg ?_))) (LeH.refl _) e))
 ·obtain ⟨⟨xn, xv⟩, hx⟩ : ∃ x, f[1]? = some x := some_at (by ((try simp only [vn] at *) <;> omega))
  have hxv : longS xv := hp.each _ (List.mem_of_getElem? hx)
  have bad : (∀ l, VL l → xn = (⟨#[116, 111]⟩ : ByteArray) → xv = l.to → False) → K (.tup [LtA zL, .i 2]) [] := fun h => non fun l hl he => by
   have e := recA_at1 l
   rw [he, hx] at e
   injection e with e
   injection e with e1 e2
   exact (h l hl e1 e2).elim
  cbv; repeat' ((first | refine .e ?_ | refine .y fun h => ?_ | refine .mk (fun h => ?_) fun h => ?_ | refine .o ?_ | refine And.intro ?_ ?_ | fail) <;> cbv)
  ·exact mT
  (refine callG_spec hT (⟨frm, to, number, kind, ack, deal, text, party, index, day, cur, amt, [], []⟩, 1, xv) [1, 5] (by simp) rfl rfl (by decide) rfl rfl rfl rfl rfl ?_; try dsimp only)
  ·have hxn : xn = (⟨#[116, 111]⟩ : ByteArray) := by assumption
   cbv; repeat' ((first | refine .k fun z hz => ?_ | fail) <;> cbv)
   obtain rfl : z = nI 2 := by ((try simp only [vn] at *) <;> omega)
   exact roundV ⟨(2, ⟨frm, xv, number, kind, ack, deal, text, party, index, day, cur, amt, [], []⟩), by omega, ⟨rfl, rfl, fun _ => hpre.zero (by omega), fun _ => hpre.p0 (by omega), fun _ => (by rw [hx, hxn]), fun h => absurd h (by omega), fun h => absurd h (by omega), fun h => absurd h (by omega), fun h => absurd h (by omega), fun h => absurd h (by omega), fun h => absurd h (by omega), fun h => absurd h (by omega), fun h => absurd h (by omega), fun h => absurd h (by omega)⟩⟩ (lft_lt (by omega))
  ·have e := bad fun l hl h1 h2 => absurd h1 (by assumption)
   (refine FinK.mk ⟨_, Gh.refl _, ?_⟩; cbv; exact .inl (CutK.pre [] (by rfl) (by exact Nat.le_of_ble_eq_true rfl) (by rfl) (by rfl) (by repeat' (first | exact LeL.nil | exact LeL0.nil | exact LeH.nil | exact LeE.refl _ | exact Le.refl _ | exact Le0.one (.refl _) | exact Le0.one (.nil _) | exact Le1.refl _ | exact Le1.nil _ | refine LeH.cons ?_ ?_ | refine LeE.row ?_ | refine LeE.blk ?_ | refine LeL0.cons ?_ ?_ | refine LeL.cons ?_ ?_ | refine Le0.agg ?_ | refine Le.tup ?_ | exact Le.one (.one (.nil _)) | refine Le.one (.agg ?_))) (LeH.refl _) e))
 ·obtain ⟨⟨xn, xv⟩, hx⟩ : ∃ x, f[2]? = some x := some_at (by ((try simp only [vn] at *) <;> omega))
  have hxv : longS xv := hp.each _ (List.mem_of_getElem? hx)
  have bad : (∀ l, VL l → xn = (⟨#[110, 117, 109, 98, 101, 114]⟩ : ByteArray) → xv = itoS l.number → False) → K (.tup [LtA zL, .i 2]) [] := fun h => non fun l hl he => by
   have e := recA_at2 l
   rw [he, hx] at e
   injection e with e
   injection e with e1 e2
   exact (h l hl e1 e2).elim
  cbv; repeat' ((first | refine .e ?_ | refine .y fun h => ?_ | refine .mk (fun h => ?_) fun h => ?_ | refine .o ?_ | refine And.intro ?_ ?_ | fail) <;> cbv)
  ·exact mN
  ·have hxn : xn = (⟨#[110, 117, 109, 98, 101, 114]⟩ : ByteArray) := by assumption
   obtain ⟨n, hn⟩ : ∃ n, n = (numP xv.data.toList).getD 0 := ⟨_, rfl⟩
   obtain ⟨b, hb⟩ : ∃ n, n = (numP xv.data.toList).isSome := ⟨_, rfl⟩
   (refine callG_spec hN (⟨frm, to, number, kind, ack, deal, text, party, index, day, cur, amt, [], []⟩, 2, xv) [1, 6] ⟨by simp, hxv⟩ rfl rfl (by decide) rfl rfl rfl rfl rfl ?_; try dsimp only)
   rw [← hn, ← hb]
   cases b with
   | false =>
    have e := bad fun l hl _ h2 => by
     have h3 := (numP_iff xv.data.toList l.number).2 ⟨hl.number, by rw [h2]; unfold itoS; simp⟩
     rw [h3] at hb; cases hb
    cbv
    (refine FinK.mk ⟨_, Gh.refl _, ?_⟩; cbv; exact .inl (CutK.pre [] (by rfl) (by exact Nat.le_of_ble_eq_true rfl) (by rfl) (by rfl) (by repeat' (first | exact LeL.nil | exact LeL0.nil | exact LeH.nil | exact LeE.refl _ | exact Le.refl _ | exact Le0.one (.refl _) | exact Le0.one (.nil _) | exact Le1.refl _ | exact Le1.nil _ | refine LeH.cons ?_ ?_ | refine LeE.row ?_ | refine LeE.blk ?_ | refine LeL0.cons ?_ ?_ | refine LeL.cons ?_ ?_ | refine Le0.agg ?_ | refine Le.tup ?_ | exact Le.one (.one (.nil _)) | refine Le.one (.agg ?_))) (LeH.refl _) e))
   | true =>
    obtain ⟨v, hv0⟩ := Option.isSome_iff_exists.1 hb.symm
    obtain rfl : n = v := by rw [hn, hv0]; rfl
    obtain ⟨hin, hv1⟩ := (numP_iff xv.data.toList n).1 hv0
    have hv : xv = itoS n := by unfold itoS; rw [← hv1]
    cbv; repeat' ((first | refine .k fun z hz => ?_ | fail) <;> cbv)
    obtain rfl : z = nI 3 := by ((try simp only [vn] at *) <;> omega)
    exact roundV ⟨(3, ⟨frm, to, n, kind, ack, deal, text, party, index, day, cur, amt, [], []⟩), by omega, ⟨rfl, rfl, fun _ => hpre.zero (by omega), fun _ => hpre.p0 (by omega), fun _ => hpre.p1 (by omega), fun _ => ⟨by rw [hx, hxn, hv], hin⟩, fun h => absurd h (by omega), fun h => absurd h (by omega), fun h => absurd h (by omega), fun h => absurd h (by omega), fun h => absurd h (by omega), fun h => absurd h (by omega), fun h => absurd h (by omega), fun h => absurd h (by omega)⟩⟩ (lft_lt (by omega))
  ·have e := bad fun l hl h1 h2 => absurd h1 (by assumption)
   (refine FinK.mk ⟨_, Gh.refl _, ?_⟩; cbv; exact .inl (CutK.pre [] (by rfl) (by exact Nat.le_of_ble_eq_true rfl) (by rfl) (by rfl) (by repeat' (first | exact LeL.nil | exact LeL0.nil | exact LeH.nil | exact LeE.refl _ | exact Le.refl _ | exact Le0.one (.refl _) | exact Le0.one (.nil _) | exact Le1.refl _ | exact Le1.nil _ | refine LeH.cons ?_ ?_ | refine LeE.row ?_ | refine LeE.blk ?_ | refine LeL0.cons ?_ ?_ | refine LeL.cons ?_ ?_ | refine Le0.agg ?_ | refine Le.tup ?_ | exact Le.one (.one (.nil _)) | refine Le.one (.agg ?_))) (LeH.refl _) e))
 ·obtain ⟨⟨xn, xv⟩, hx⟩ : ∃ x, f[3]? = some x := some_at (by ((try simp only [vn] at *) <;> omega))
  have hxv : longS xv := hp.each _ (List.mem_of_getElem? hx)
  have bad : (∀ l, VL l → xn = (⟨#[107, 105, 110, 100]⟩ : ByteArray) → xv = kindN l.kind → False) → K (.tup [LtA zL, .i 2]) [] := fun h => non fun l hl he => by
   have e := recA_at3 l
   rw [he, hx] at e
   injection e with e
   injection e with e1 e2
   exact (h l hl e1 e2).elim
  cbv; repeat' ((first | refine .e ?_ | refine .y fun h => ?_ | refine .mk (fun h => ?_) fun h => ?_ | refine .o ?_ | refine And.intro ?_ ?_ | fail) <;> cbv)
  ·exact mK
  ·have hxn : xn = (⟨#[107, 105, 110, 100]⟩ : ByteArray) := by assumption
   obtain ⟨n, hn⟩ : ∃ n, n = (kindOf xv).getD 0 := ⟨_, rfl⟩
   obtain ⟨b, hb⟩ : ∃ n, n = (kindOf xv).isSome := ⟨_, rfl⟩
   (refine callG_spec hKd (⟨frm, to, number, kind, ack, deal, text, party, index, day, cur, amt, [], []⟩, xv) [1, 2] trivial rfl rfl (by decide) rfl rfl rfl rfl rfl ?_; try dsimp only)
   rw [← hn, ← hb]
   cases b with
   | false =>
    have e := bad fun l hl _ h2 => by
     obtain ⟨j, hj⟩ : ∃ j : Nat, l.kind = Int.ofNat j := ⟨l.kind.toNat, by have := hl.kind; simp only [Int.ofNat_eq_natCast]; omega⟩
     have hj9 : j < 29 := by have := hl.kind; rw [hj] at this; simp only [Int.ofNat_eq_natCast] at this; omega
     rw [hj] at h2
     rw [h2, kindOf_at hj9] at hb; cases hb
    cbv
    (refine FinK.mk ⟨_, Gh.refl _, ?_⟩; cbv; exact .inl (CutK.pre [] (by rfl) (by exact Nat.le_of_ble_eq_true rfl) (by rfl) (by rfl) (by repeat' (first | exact LeL.nil | exact LeL0.nil | exact LeH.nil | exact LeE.refl _ | exact Le.refl _ | exact Le0.one (.refl _) | exact Le0.one (.nil _) | exact Le1.refl _ | exact Le1.nil _ | refine LeH.cons ?_ ?_ | refine LeE.row ?_ | refine LeE.blk ?_ | refine LeL0.cons ?_ ?_ | refine LeL.cons ?_ ?_ | refine Le0.agg ?_ | refine Le.tup ?_ | exact Le.one (.one (.nil _)) | refine Le.one (.agg ?_))) (LeH.refl _) e))
   | true =>
    obtain ⟨v, hv0⟩ := Option.isSome_iff_exists.1 hb.symm
    obtain rfl : n = v := by rw [hn, hv0]; rfl
    obtain ⟨hn9, hv1⟩ := kindK_lt hv0
    have hv : xv = kindN (nI n) := hv1.symm
    cbv; repeat' ((first | refine .k fun z hz => ?_ | fail) <;> cbv)
    obtain rfl : z = nI 4 := by ((try simp only [vn] at *) <;> omega)
    exact roundV ⟨(4, ⟨frm, to, number, (nI n), ack, deal, text, party, index, day, cur, amt, [], []⟩), by omega, ⟨rfl, rfl, fun _ => hpre.zero (by omega), fun _ => hpre.p0 (by omega), fun _ => hpre.p1 (by omega), fun _ => hpre.p2 (by omega), fun _ => ⟨by rw [hx, hxn, hv], by simp only [Int.ofNat_eq_natCast]; omega, by simp only [Int.ofNat_eq_natCast]; omega⟩, fun h => absurd h (by omega), fun h => absurd h (by omega), fun h => absurd h (by omega), fun h => absurd h (by omega), fun h => absurd h (by omega), fun h => absurd h (by omega), fun h => absurd h (by omega)⟩⟩ (lft_lt (by omega))
  ·have e := bad fun l hl h1 h2 => absurd h1 (by assumption)
   (refine FinK.mk ⟨_, Gh.refl _, ?_⟩; cbv; exact .inl (CutK.pre [] (by rfl) (by exact Nat.le_of_ble_eq_true rfl) (by rfl) (by rfl) (by repeat' (first | exact LeL.nil | exact LeL0.nil | exact LeH.nil | exact LeE.refl _ | exact Le.refl _ | exact Le0.one (.refl _) | exact Le0.one (.nil _) | exact Le1.refl _ | exact Le1.nil _ | refine LeH.cons ?_ ?_ | refine LeE.row ?_ | refine LeE.blk ?_ | refine LeL0.cons ?_ ?_ | refine LeL.cons ?_ ?_ | refine Le0.agg ?_ | refine Le.tup ?_ | exact Le.one (.one (.nil _)) | refine Le.one (.agg ?_))) (LeH.refl _) e))
 ·obtain ⟨⟨xn, xv⟩, hx⟩ : ∃ x, f[4]? = some x := some_at (by ((try simp only [vn] at *) <;> omega))
  have hxv : longS xv := hp.each _ (List.mem_of_getElem? hx)
  have bad : (∀ l, VL l → xn = (⟨#[97, 99, 107]⟩ : ByteArray) → xv = itoS l.ack → False) → K (.tup [LtA zL, .i 2]) [] := fun h => non fun l hl he => by
   have e := recA_at4 l
   rw [he, hx] at e
   injection e with e
   injection e with e1 e2
   exact (h l hl e1 e2).elim
  cbv; repeat' ((first | refine .e ?_ | refine .y fun h => ?_ | refine .mk (fun h => ?_) fun h => ?_ | refine .o ?_ | refine And.intro ?_ ?_ | fail) <;> cbv)
  ·exact mN
  ·have hxn : xn = (⟨#[97, 99, 107]⟩ : ByteArray) := by assumption
   obtain ⟨n, hn⟩ : ∃ n, n = (numP xv.data.toList).getD 0 := ⟨_, rfl⟩
   obtain ⟨b, hb⟩ : ∃ n, n = (numP xv.data.toList).isSome := ⟨_, rfl⟩
   (refine callG_spec hN (⟨frm, to, number, kind, ack, deal, text, party, index, day, cur, amt, [], []⟩, 4, xv) [1, 7] ⟨by simp, hxv⟩ rfl rfl (by decide) rfl rfl rfl rfl rfl ?_; try dsimp only)
   rw [← hn, ← hb]
   cases b with
   | false =>
    have e := bad fun l hl _ h2 => by
     have h3 := (numP_iff xv.data.toList l.ack).2 ⟨hl.ack, by rw [h2]; unfold itoS; simp⟩
     rw [h3] at hb; cases hb
    cbv
    (refine FinK.mk ⟨_, Gh.refl _, ?_⟩; cbv; exact .inl (CutK.pre [] (by rfl) (by exact Nat.le_of_ble_eq_true rfl) (by rfl) (by rfl) (by repeat' (first | exact LeL.nil | exact LeL0.nil | exact LeH.nil | exact LeE.refl _ | exact Le.refl _ | exact Le0.one (.refl _) | exact Le0.one (.nil _) | exact Le1.refl _ | exact Le1.nil _ | refine LeH.cons ?_ ?_ | refine LeE.row ?_ | refine LeE.blk ?_ | refine LeL0.cons ?_ ?_ | refine LeL.cons ?_ ?_ | refine Le0.agg ?_ | refine Le.tup ?_ | exact Le.one (.one (.nil _)) | refine Le.one (.agg ?_))) (LeH.refl _) e))
   | true =>
    obtain ⟨v, hv0⟩ := Option.isSome_iff_exists.1 hb.symm
    obtain rfl : n = v := by rw [hn, hv0]; rfl
    obtain ⟨hin, hv1⟩ := (numP_iff xv.data.toList n).1 hv0
    have hv : xv = itoS n := by unfold itoS; rw [← hv1]
    cbv; repeat' ((first | refine .k fun z hz => ?_ | fail) <;> cbv)
    obtain rfl : z = nI 5 := by ((try simp only [vn] at *) <;> omega)
    exact roundV ⟨(5, ⟨frm, to, number, kind, n, deal, text, party, index, day, cur, amt, [], []⟩), by omega, ⟨rfl, rfl, fun _ => hpre.zero (by omega), fun _ => hpre.p0 (by omega), fun _ => hpre.p1 (by omega), fun _ => hpre.p2 (by omega), fun _ => hpre.p3 (by omega), fun _ => ⟨by rw [hx, hxn, hv], hin⟩, fun h => absurd h (by omega), fun h => absurd h (by omega), fun h => absurd h (by omega), fun h => absurd h (by omega), fun h => absurd h (by omega), fun h => absurd h (by omega)⟩⟩ (lft_lt (by omega))
  ·have e := bad fun l hl h1 h2 => absurd h1 (by assumption)
   (refine FinK.mk ⟨_, Gh.refl _, ?_⟩; cbv; exact .inl (CutK.pre [] (by rfl) (by exact Nat.le_of_ble_eq_true rfl) (by rfl) (by rfl) (by repeat' (first | exact LeL.nil | exact LeL0.nil | exact LeH.nil | exact LeE.refl _ | exact Le.refl _ | exact Le0.one (.refl _) | exact Le0.one (.nil _) | exact Le1.refl _ | exact Le1.nil _ | refine LeH.cons ?_ ?_ | refine LeE.row ?_ | refine LeE.blk ?_ | refine LeL0.cons ?_ ?_ | refine LeL.cons ?_ ?_ | refine Le0.agg ?_ | refine Le.tup ?_ | exact Le.one (.one (.nil _)) | refine Le.one (.agg ?_))) (LeH.refl _) e))
 ·obtain ⟨⟨xn, xv⟩, hx⟩ : ∃ x, f[5]? = some x := some_at (by ((try simp only [vn] at *) <;> omega))
  have hxv : longS xv := hp.each _ (List.mem_of_getElem? hx)
  have bad : (∀ l, VL l → xn = (⟨#[100, 101, 97, 108]⟩ : ByteArray) → xv = l.deal → False) → K (.tup [LtA zL, .i 2]) [] := fun h => non fun l hl he => by
   have e := recA_at5 l
   rw [he, hx] at e
   injection e with e
   injection e with e1 e2
   exact (h l hl e1 e2).elim
  cbv; repeat' ((first | refine .e ?_ | refine .y fun h => ?_ | refine .mk (fun h => ?_) fun h => ?_ | refine .o ?_ | refine And.intro ?_ ?_ | fail) <;> cbv)
  ·exact mT
  (refine callG_spec hT (⟨frm, to, number, kind, ack, deal, text, party, index, day, cur, amt, [], []⟩, 5, xv) [1, 8] (by simp) rfl rfl (by decide) rfl rfl rfl rfl rfl ?_; try dsimp only)
  ·have hxn : xn = (⟨#[100, 101, 97, 108]⟩ : ByteArray) := by assumption
   cbv; repeat' ((first | refine .k fun z hz => ?_ | fail) <;> cbv)
   obtain rfl : z = nI 6 := by ((try simp only [vn] at *) <;> omega)
   exact roundV ⟨(6, ⟨frm, to, number, kind, ack, xv, text, party, index, day, cur, amt, [], []⟩), by omega, ⟨rfl, rfl, fun _ => hpre.zero (by omega), fun _ => hpre.p0 (by omega), fun _ => hpre.p1 (by omega), fun _ => hpre.p2 (by omega), fun _ => hpre.p3 (by omega), fun _ => hpre.p4 (by omega), fun _ => (by rw [hx, hxn]), fun h => absurd h (by omega), fun h => absurd h (by omega), fun h => absurd h (by omega), fun h => absurd h (by omega), fun h => absurd h (by omega)⟩⟩ (lft_lt (by omega))
  ·have e := bad fun l hl h1 h2 => absurd h1 (by assumption)
   (refine FinK.mk ⟨_, Gh.refl _, ?_⟩; cbv; exact .inl (CutK.pre [] (by rfl) (by exact Nat.le_of_ble_eq_true rfl) (by rfl) (by rfl) (by repeat' (first | exact LeL.nil | exact LeL0.nil | exact LeH.nil | exact LeE.refl _ | exact Le.refl _ | exact Le0.one (.refl _) | exact Le0.one (.nil _) | exact Le1.refl _ | exact Le1.nil _ | refine LeH.cons ?_ ?_ | refine LeE.row ?_ | refine LeE.blk ?_ | refine LeL0.cons ?_ ?_ | refine LeL.cons ?_ ?_ | refine Le0.agg ?_ | refine Le.tup ?_ | exact Le.one (.one (.nil _)) | refine Le.one (.agg ?_))) (LeH.refl _) e))
 ·obtain ⟨⟨xn, xv⟩, hx⟩ : ∃ x, f[6]? = some x := some_at (by ((try simp only [vn] at *) <;> omega))
  have hxv : longS xv := hp.each _ (List.mem_of_getElem? hx)
  have bad : (∀ l, VL l → xn = (⟨#[116, 101, 120, 116]⟩ : ByteArray) → xv = l.text → False) → K (.tup [LtA zL, .i 2]) [] := fun h => non fun l hl he => by
   have e := recA_at6 l
   rw [he, hx] at e
   injection e with e
   injection e with e1 e2
   exact (h l hl e1 e2).elim
  cbv; repeat' ((first | refine .e ?_ | refine .y fun h => ?_ | refine .mk (fun h => ?_) fun h => ?_ | refine .o ?_ | refine And.intro ?_ ?_ | fail) <;> cbv)
  ·exact mT
  (refine callG_spec hT (⟨frm, to, number, kind, ack, deal, text, party, index, day, cur, amt, [], []⟩, 6, xv) [1, 9] (by simp) rfl rfl (by decide) rfl rfl rfl rfl rfl ?_; try dsimp only)
  ·have hxn : xn = (⟨#[116, 101, 120, 116]⟩ : ByteArray) := by assumption
   cbv; repeat' ((first | refine .k fun z hz => ?_ | fail) <;> cbv)
   obtain rfl : z = nI 7 := by ((try simp only [vn] at *) <;> omega)
   exact roundV ⟨(7, ⟨frm, to, number, kind, ack, deal, xv, party, index, day, cur, amt, [], []⟩), by omega, ⟨rfl, rfl, fun _ => hpre.zero (by omega), fun _ => hpre.p0 (by omega), fun _ => hpre.p1 (by omega), fun _ => hpre.p2 (by omega), fun _ => hpre.p3 (by omega), fun _ => hpre.p4 (by omega), fun _ => hpre.p5 (by omega), fun _ => (by rw [hx, hxn]), fun h => absurd h (by omega), fun h => absurd h (by omega), fun h => absurd h (by omega), fun h => absurd h (by omega)⟩⟩ (lft_lt (by omega))
  ·have e := bad fun l hl h1 h2 => absurd h1 (by assumption)
   (refine FinK.mk ⟨_, Gh.refl _, ?_⟩; cbv; exact .inl (CutK.pre [] (by rfl) (by exact Nat.le_of_ble_eq_true rfl) (by rfl) (by rfl) (by repeat' (first | exact LeL.nil | exact LeL0.nil | exact LeH.nil | exact LeE.refl _ | exact Le.refl _ | exact Le0.one (.refl _) | exact Le0.one (.nil _) | exact Le1.refl _ | exact Le1.nil _ | refine LeH.cons ?_ ?_ | refine LeE.row ?_ | refine LeE.blk ?_ | refine LeL0.cons ?_ ?_ | refine LeL.cons ?_ ?_ | refine Le0.agg ?_ | refine Le.tup ?_ | exact Le.one (.one (.nil _)) | refine Le.one (.agg ?_))) (LeH.refl _) e))
 ·obtain ⟨⟨xn, xv⟩, hx⟩ : ∃ x, f[7]? = some x := some_at (by ((try simp only [vn] at *) <;> omega))
  have hxv : longS xv := hp.each _ (List.mem_of_getElem? hx)
  have bad : (∀ l, VL l → xn = (⟨#[112, 97, 114, 116, 121]⟩ : ByteArray) → xv = l.party → False) → K (.tup [LtA zL, .i 2]) [] := fun h => non fun l hl he => by
   have e := recA_at7 l
   rw [he, hx] at e
   injection e with e
   injection e with e1 e2
   exact (h l hl e1 e2).elim
  cbv; repeat' ((first | refine .e ?_ | refine .y fun h => ?_ | refine .mk (fun h => ?_) fun h => ?_ | refine .o ?_ | refine And.intro ?_ ?_ | fail) <;> cbv)
  ·exact mT
  (refine callG_spec hT (⟨frm, to, number, kind, ack, deal, text, party, index, day, cur, amt, [], []⟩, 7, xv) [1, 10] (by simp) rfl rfl (by decide) rfl rfl rfl rfl rfl ?_; try dsimp only)
  ·have hxn : xn = (⟨#[112, 97, 114, 116, 121]⟩ : ByteArray) := by assumption
   cbv; repeat' ((first | refine .k fun z hz => ?_ | fail) <;> cbv)
   obtain rfl : z = nI 8 := by ((try simp only [vn] at *) <;> omega)
   exact roundV ⟨(8, ⟨frm, to, number, kind, ack, deal, text, xv, index, day, cur, amt, [], []⟩), by omega, ⟨rfl, rfl, fun _ => hpre.zero (by omega), fun _ => hpre.p0 (by omega), fun _ => hpre.p1 (by omega), fun _ => hpre.p2 (by omega), fun _ => hpre.p3 (by omega), fun _ => hpre.p4 (by omega), fun _ => hpre.p5 (by omega), fun _ => hpre.p6 (by omega), fun _ => (by rw [hx, hxn]), fun h => absurd h (by omega), fun h => absurd h (by omega), fun h => absurd h (by omega)⟩⟩ (lft_lt (by omega))
  ·have e := bad fun l hl h1 h2 => absurd h1 (by assumption)
   (refine FinK.mk ⟨_, Gh.refl _, ?_⟩; cbv; exact .inl (CutK.pre [] (by rfl) (by exact Nat.le_of_ble_eq_true rfl) (by rfl) (by rfl) (by repeat' (first | exact LeL.nil | exact LeL0.nil | exact LeH.nil | exact LeE.refl _ | exact Le.refl _ | exact Le0.one (.refl _) | exact Le0.one (.nil _) | exact Le1.refl _ | exact Le1.nil _ | refine LeH.cons ?_ ?_ | refine LeE.row ?_ | refine LeE.blk ?_ | refine LeL0.cons ?_ ?_ | refine LeL.cons ?_ ?_ | refine Le0.agg ?_ | refine Le.tup ?_ | exact Le.one (.one (.nil _)) | refine Le.one (.agg ?_))) (LeH.refl _) e))
 ·obtain ⟨⟨xn, xv⟩, hx⟩ : ∃ x, f[8]? = some x := some_at (by ((try simp only [vn] at *) <;> omega))
  have hxv : longS xv := hp.each _ (List.mem_of_getElem? hx)
  have bad : (∀ l, VL l → xn = (⟨#[105, 110, 100, 101, 120]⟩ : ByteArray) → xv = itoS l.index → False) → K (.tup [LtA zL, .i 2]) [] := fun h => non fun l hl he => by
   have e := recA_at8 l
   rw [he, hx] at e
   injection e with e
   injection e with e1 e2
   exact (h l hl e1 e2).elim
  cbv; repeat' ((first | refine .e ?_ | refine .y fun h => ?_ | refine .mk (fun h => ?_) fun h => ?_ | refine .o ?_ | refine And.intro ?_ ?_ | fail) <;> cbv)
  ·exact mN
  ·have hxn : xn = (⟨#[105, 110, 100, 101, 120]⟩ : ByteArray) := by assumption
   obtain ⟨n, hn⟩ : ∃ n, n = (numP xv.data.toList).getD 0 := ⟨_, rfl⟩
   obtain ⟨b, hb⟩ : ∃ n, n = (numP xv.data.toList).isSome := ⟨_, rfl⟩
   (refine callG_spec hN (⟨frm, to, number, kind, ack, deal, text, party, index, day, cur, amt, [], []⟩, 8, xv) [1, 11] ⟨by simp, hxv⟩ rfl rfl (by decide) rfl rfl rfl rfl rfl ?_; try dsimp only)
   rw [← hn, ← hb]
   cases b with
   | false =>
    have e := bad fun l hl _ h2 => by
     have h3 := (numP_iff xv.data.toList l.index).2 ⟨hl.index, by rw [h2]; unfold itoS; simp⟩
     rw [h3] at hb; cases hb
    cbv
    (refine FinK.mk ⟨_, Gh.refl _, ?_⟩; cbv; exact .inl (CutK.pre [] (by rfl) (by exact Nat.le_of_ble_eq_true rfl) (by rfl) (by rfl) (by repeat' (first | exact LeL.nil | exact LeL0.nil | exact LeH.nil | exact LeE.refl _ | exact Le.refl _ | exact Le0.one (.refl _) | exact Le0.one (.nil _) | exact Le1.refl _ | exact Le1.nil _ | refine LeH.cons ?_ ?_ | refine LeE.row ?_ | refine LeE.blk ?_ | refine LeL0.cons ?_ ?_ | refine LeL.cons ?_ ?_ | refine Le0.agg ?_ | refine Le.tup ?_ | exact Le.one (.one (.nil _)) | refine Le.one (.agg ?_))) (LeH.refl _) e))
   | true =>
    obtain ⟨v, hv0⟩ := Option.isSome_iff_exists.1 hb.symm
    obtain rfl : n = v := by rw [hn, hv0]; rfl
    obtain ⟨hin, hv1⟩ := (numP_iff xv.data.toList n).1 hv0
    have hv : xv = itoS n := by unfold itoS; rw [← hv1]
    cbv; repeat' ((first | refine .k fun z hz => ?_ | fail) <;> cbv)
    obtain rfl : z = nI 9 := by ((try simp only [vn] at *) <;> omega)
    exact roundV ⟨(9, ⟨frm, to, number, kind, ack, deal, text, party, n, day, cur, amt, [], []⟩), by omega, ⟨rfl, rfl, fun _ => hpre.zero (by omega), fun _ => hpre.p0 (by omega), fun _ => hpre.p1 (by omega), fun _ => hpre.p2 (by omega), fun _ => hpre.p3 (by omega), fun _ => hpre.p4 (by omega), fun _ => hpre.p5 (by omega), fun _ => hpre.p6 (by omega), fun _ => hpre.p7 (by omega), fun _ => ⟨by rw [hx, hxn, hv], hin⟩, fun h => absurd h (by omega), fun h => absurd h (by omega)⟩⟩ (lft_lt (by omega))
  ·have e := bad fun l hl h1 h2 => absurd h1 (by assumption)
   (refine FinK.mk ⟨_, Gh.refl _, ?_⟩; cbv; exact .inl (CutK.pre [] (by rfl) (by exact Nat.le_of_ble_eq_true rfl) (by rfl) (by rfl) (by repeat' (first | exact LeL.nil | exact LeL0.nil | exact LeH.nil | exact LeE.refl _ | exact Le.refl _ | exact Le0.one (.refl _) | exact Le0.one (.nil _) | exact Le1.refl _ | exact Le1.nil _ | refine LeH.cons ?_ ?_ | refine LeE.row ?_ | refine LeE.blk ?_ | refine LeL0.cons ?_ ?_ | refine LeL.cons ?_ ?_ | refine Le0.agg ?_ | refine Le.tup ?_ | exact Le.one (.one (.nil _)) | refine Le.one (.agg ?_))) (LeH.refl _) e))
 ·obtain ⟨⟨xn, xv⟩, hx⟩ : ∃ x, f[9]? = some x := some_at (by ((try simp only [vn] at *) <;> omega))
  have hxv : longS xv := hp.each _ (List.mem_of_getElem? hx)
  have bad : (∀ l, VL l → xn = (⟨#[100, 97, 121]⟩ : ByteArray) → xv = itoS l.day → False) → K (.tup [LtA zL, .i 2]) [] := fun h => non fun l hl he => by
   have e := recA_at9 l
   rw [he, hx] at e
   injection e with e
   injection e with e1 e2
   exact (h l hl e1 e2).elim
  cbv; repeat' ((first | refine .e ?_ | refine .y fun h => ?_ | refine .mk (fun h => ?_) fun h => ?_ | refine .o ?_ | refine And.intro ?_ ?_ | fail) <;> cbv)
  ·exact mN
  ·have hxn : xn = (⟨#[100, 97, 121]⟩ : ByteArray) := by assumption
   obtain ⟨n, hn⟩ : ∃ n, n = (numP xv.data.toList).getD 0 := ⟨_, rfl⟩
   obtain ⟨b, hb⟩ : ∃ n, n = (numP xv.data.toList).isSome := ⟨_, rfl⟩
   (refine callG_spec hN (⟨frm, to, number, kind, ack, deal, text, party, index, day, cur, amt, [], []⟩, 9, xv) [1, 12] ⟨by simp, hxv⟩ rfl rfl (by decide) rfl rfl rfl rfl rfl ?_; try dsimp only)
   rw [← hn, ← hb]
   cases b with
   | false =>
    have e := bad fun l hl _ h2 => by
     have h3 := (numP_iff xv.data.toList l.day).2 ⟨hl.day, by rw [h2]; unfold itoS; simp⟩
     rw [h3] at hb; cases hb
    cbv
    (refine FinK.mk ⟨_, Gh.refl _, ?_⟩; cbv; exact .inl (CutK.pre [] (by rfl) (by exact Nat.le_of_ble_eq_true rfl) (by rfl) (by rfl) (by repeat' (first | exact LeL.nil | exact LeL0.nil | exact LeH.nil | exact LeE.refl _ | exact Le.refl _ | exact Le0.one (.refl _) | exact Le0.one (.nil _) | exact Le1.refl _ | exact Le1.nil _ | refine LeH.cons ?_ ?_ | refine LeE.row ?_ | refine LeE.blk ?_ | refine LeL0.cons ?_ ?_ | refine LeL.cons ?_ ?_ | refine Le0.agg ?_ | refine Le.tup ?_ | exact Le.one (.one (.nil _)) | refine Le.one (.agg ?_))) (LeH.refl _) e))
   | true =>
    obtain ⟨v, hv0⟩ := Option.isSome_iff_exists.1 hb.symm
    obtain rfl : n = v := by rw [hn, hv0]; rfl
    obtain ⟨hin, hv1⟩ := (numP_iff xv.data.toList n).1 hv0
    have hv : xv = itoS n := by unfold itoS; rw [← hv1]
    cbv; repeat' ((first | refine .k fun z hz => ?_ | fail) <;> cbv)
    obtain rfl : z = nI 10 := by ((try simp only [vn] at *) <;> omega)
    exact roundV ⟨(10, ⟨frm, to, number, kind, ack, deal, text, party, index, n, cur, amt, [], []⟩), by omega, ⟨rfl, rfl, fun _ => hpre.zero (by omega), fun _ => hpre.p0 (by omega), fun _ => hpre.p1 (by omega), fun _ => hpre.p2 (by omega), fun _ => hpre.p3 (by omega), fun _ => hpre.p4 (by omega), fun _ => hpre.p5 (by omega), fun _ => hpre.p6 (by omega), fun _ => hpre.p7 (by omega), fun _ => hpre.p8 (by omega), fun _ => ⟨by rw [hx, hxn, hv], hin⟩, fun h => absurd h (by omega)⟩⟩ (lft_lt (by omega))
  ·have e := bad fun l hl h1 h2 => absurd h1 (by assumption)
   (refine FinK.mk ⟨_, Gh.refl _, ?_⟩; cbv; exact .inl (CutK.pre [] (by rfl) (by exact Nat.le_of_ble_eq_true rfl) (by rfl) (by rfl) (by repeat' (first | exact LeL.nil | exact LeL0.nil | exact LeH.nil | exact LeE.refl _ | exact Le.refl _ | exact Le0.one (.refl _) | exact Le0.one (.nil _) | exact Le1.refl _ | exact Le1.nil _ | refine LeH.cons ?_ ?_ | refine LeE.row ?_ | refine LeE.blk ?_ | refine LeL0.cons ?_ ?_ | refine LeL.cons ?_ ?_ | refine Le0.agg ?_ | refine Le.tup ?_ | exact Le.one (.one (.nil _)) | refine Le.one (.agg ?_))) (LeH.refl _) e))
 ·obtain ⟨⟨xn, xv⟩, hx⟩ : ∃ x, f[10]? = some x := some_at (by ((try simp only [vn] at *) <;> omega))
  have hxv : longS xv := hp.each _ (List.mem_of_getElem? hx)
  have bad : (∀ l, VL l → xn = (⟨#[115, 117, 109]⟩ : ByteArray) → xv = monS l.cur l.amt → False) → K (.tup [LtA zL, .i 2]) [] := fun h => non fun l hl he => by
   have e := recA_at10 l
   rw [he, hx] at e
   injection e with e
   injection e with e1 e2
   exact (h l hl e1 e2).elim
  cbv; repeat' ((first | refine .e ?_ | refine .y fun h => ?_ | refine .mk (fun h => ?_) fun h => ?_ | refine .o ?_ | refine And.intro ?_ ?_ | fail) <;> cbv)
  ·exact mS
  ·have hxn : xn = (⟨#[115, 117, 109]⟩ : ByteArray) := by assumption
   obtain ⟨rfl, rfl⟩ := hpre.zero (by omega)
   obtain ⟨b, hb⟩ : ∃ n, n = sumOk xv := ⟨_, rfl⟩
   (refine callG_spec hS (⟨frm, to, number, kind, ack, deal, text, party, index, day, ⟨#[]⟩, 0, [], []⟩, xv) [1, 2] (Nat.le_trans hxv (by decide)) rfl rfl (by decide) rfl rfl rfl rfl rfl ?_; try dsimp only)
   rw [← hb]
   unfold sumOk at hb
   cases b with
   | false =>
    have e := bad fun l hl _ h2 => by
     simp only [Bool.false_eq, Bool.or_eq_false_iff, decide_eq_false_iff_not] at hb
     rcases hl.sum with h3 | h3
     ·rw [monS_none h3] at h2; exact hb.1 h2
     ·rw [(monP_iff xv l.cur l.amt).2 ⟨h3, h2.symm⟩] at hb; cases hb.2
    cbv
    (refine FinK.mk ⟨_, Gh.refl _, ?_⟩; cbv; exact .inl (CutK.pre [] (by rfl) (by exact Nat.le_of_ble_eq_true rfl) (by rfl) (by rfl) (by repeat' (first | exact LeL.nil | exact LeL0.nil | exact LeH.nil | exact LeE.refl _ | exact Le.refl _ | exact Le0.one (.refl _) | exact Le0.one (.nil _) | exact Le1.refl _ | exact Le1.nil _ | refine LeH.cons ?_ ?_ | refine LeE.row ?_ | refine LeE.blk ?_ | refine LeL0.cons ?_ ?_ | refine LeL.cons ?_ ?_ | refine Le0.agg ?_ | refine Le.tup ?_ | exact Le.one (.one (.nil _)) | refine Le.one (.agg ?_))) (LeH.refl _) e))
   | true =>
    by_cases hx0 : xv = ⟨#[]⟩
    ·rw [show sumV ⟨frm, to, number, kind, ack, deal, text, party, index, day, ⟨#[]⟩, 0, [], []⟩ xv = ⟨frm, to, number, kind, ack, deal, text, party, index, day, ⟨#[]⟩, 0, [], []⟩ from if_pos hx0]
     have hsv : xv = monS ⟨#[]⟩ 0 := hx0.trans (monS_none ⟨rfl, rfl⟩).symm
     have hss : ((⟨#[]⟩ : ByteArray) = ⟨#[]⟩ ∧ (0 : Int) = 0) ∨ moneyB ⟨#[]⟩ 0 = true := .inl ⟨rfl, rfl⟩
     cbv; repeat' ((first | refine .k fun z hz => ?_ | fail) <;> cbv)
     obtain rfl : z = nI 11 := by ((try simp only [vn] at *) <;> omega)
     exact roundV ⟨(11, ⟨frm, to, number, kind, ack, deal, text, party, index, day, ⟨#[]⟩, 0, [], []⟩), by omega, ⟨rfl, rfl, fun h => absurd h (by omega), fun _ => hpre.p0 (by omega), fun _ => hpre.p1 (by omega), fun _ => hpre.p2 (by omega), fun _ => hpre.p3 (by omega), fun _ => hpre.p4 (by omega), fun _ => hpre.p5 (by omega), fun _ => hpre.p6 (by omega), fun _ => hpre.p7 (by omega), fun _ => hpre.p8 (by omega), fun _ => hpre.p9 (by omega), fun _ => ⟨by rw [hx, hxn]; exact congrArg some (congrArg (Fd.mk _) hsv), hss⟩⟩⟩ (lft_lt (by omega))
    ·rw [decide_eq_false hx0, Bool.false_or] at hb
     obtain ⟨⟨c, a⟩, hq⟩ := Option.isSome_iff_exists.1 hb.symm
     obtain ⟨hm1, hm2⟩ := (monP_iff xv c a).1 hq
     rw [show sumV ⟨frm, to, number, kind, ack, deal, text, party, index, day, ⟨#[]⟩, 0, [], []⟩ xv = ⟨frm, to, number, kind, ack, deal, text, party, index, day, c, a, [], []⟩ from by unfold sumV; rw [if_neg hx0, hq]; rfl]
     have hsv : xv = monS c a := hm2.symm
     have hss : (c = ⟨#[]⟩ ∧ a = 0) ∨ moneyB c a = true := .inr hm1
     cbv; repeat' ((first | refine .k fun z hz => ?_ | fail) <;> cbv)
     obtain rfl : z = nI 11 := by ((try simp only [vn] at *) <;> omega)
     exact roundV ⟨(11, ⟨frm, to, number, kind, ack, deal, text, party, index, day, c, a, [], []⟩), by omega, ⟨rfl, rfl, fun h => absurd h (by omega), fun _ => hpre.p0 (by omega), fun _ => hpre.p1 (by omega), fun _ => hpre.p2 (by omega), fun _ => hpre.p3 (by omega), fun _ => hpre.p4 (by omega), fun _ => hpre.p5 (by omega), fun _ => hpre.p6 (by omega), fun _ => hpre.p7 (by omega), fun _ => hpre.p8 (by omega), fun _ => hpre.p9 (by omega), fun _ => ⟨by rw [hx, hxn]; exact congrArg some (congrArg (Fd.mk _) hsv), hss⟩⟩⟩ (lft_lt (by omega))
  ·have e := bad fun l hl h1 h2 => absurd h1 (by assumption)
   (refine FinK.mk ⟨_, Gh.refl _, ?_⟩; cbv; exact .inl (CutK.pre [] (by rfl) (by exact Nat.le_of_ble_eq_true rfl) (by rfl) (by rfl) (by repeat' (first | exact LeL.nil | exact LeL0.nil | exact LeH.nil | exact LeE.refl _ | exact Le.refl _ | exact Le0.one (.refl _) | exact Le0.one (.nil _) | exact Le1.refl _ | exact Le1.nil _ | refine LeH.cons ?_ ?_ | refine LeE.row ?_ | refine LeE.blk ?_ | refine LeL0.cons ?_ ?_ | refine LeL.cons ?_ ?_ | refine Le0.agg ?_ | refine Le.tup ?_ | exact Le.one (.one (.nil _)) | refine Le.one (.agg ?_))) (LeH.refl _) e))
 ·have hrec := hpre.row hf11
  have hval : VL ⟨frm, to, number, kind, ack, deal, text, party, index, day, cur, amt, [], []⟩ := ⟨(hpre.p2 (by omega)).2, (hpre.p4 (by omega)).2, (hpre.p8 (by omega)).2, (hpre.p9 (by omega)).2, (hpre.p3 (by omega)).2, (hpre.p10 (by omega)).2, fun d hd => by cases hd⟩
  dsimp only at hrec
  cbv; repeat' ((first | refine .n fun h => ?_ | fail) <;> cbv)
  exact SemW.gh (Gh.weak (by repeat' (first | exact trivial | refine ⟨.inl rfl, ?_⟩ | refine ⟨.inr rfl, ?_⟩)) (by rfl) (by rfl) (by rfl) (by exact Nat.le_of_ble_eq_true rfl)) (from_rest P hR hm hK hp hf11 hf51 hval hrec)
end Go.Proofs.YtblkcnmecfppnaaGreatDoor
/-
 The letter of a record: the reference's From.
-/
namespace Go.Proofs.YtblkcnmecfppnaaGreatDoor
open Go.RowKit
set_option maxHeartbeats 8000000
set_option maxRecDepth 100000
def WholeFC : Ctr := spec (fun f : Fd => [.agg [.str f.name, .str f.value]]) (fun _ => []) (fun f => shortS f.value) (fun f => .i ((numP f.value.data.toList).getD 0)) fun _ => []
theorem whole_body (P : Program) (hN : FnOk P 65 (NumC shortS)) : BodyOk P x24 WholeFC := by
 intro args H K hc
 obtain ⟨⟨n, v⟩, rfl, rfl, hp, hK⟩ := hc
 refine ⟨Nat.le_of_ble_eq_true rfl, ?_⟩
 dsimp only at hK hp ⊢
 obtain ⟨m, hm⟩ : ∃ n, n = (numP v.data.toList).getD 0 := ⟨_, rfl⟩
 obtain ⟨b, hb⟩ : ∃ n, n = (numP v.data.toList).isSome := ⟨_, rfl⟩
 rw [← hm] at hK
 cbv
 refine callG_spec0 hN v hp rfl rfl rfl ?_
 try dsimp only
 rw [← hm, ← hb]
 cbv
 exact FinK.mk ⟨_, Gh.refl _, .inl (CutK.val rfl (Le.refl _) hK)⟩
noncomputable def frB (o : Option Lt) : AV := match o with
 | some l => .tup [LtA l, .bl true]
 | none => .tup [LtA zL, .bl false]
noncomputable def RFromC : Ctr := spec (fun f : List Fd => [.sl 2 (mapA FdA f)]) (fun _ => []) FromP (fun f => frB (fromR f)) fun _ => []
def lastN : Nat → ByteArray → Int
 | 0, _ => -1
 | n + 1, s => if kindN (Int.ofNat n) = s then Int.ofNat n else lastN n s
theorem lastN_at {k : Int} (h : 0 ≤ k ∧ k ≤ 28) : lastN 29 (kindN k) = k := by
 obtain ⟨a, rfl⟩ : ∃ a : Nat, k = Int.ofNat a := ⟨k.toNat, by simp only [Int.ofNat_eq_natCast]; omega⟩
 simp only [Int.ofNat_eq_natCast] at h
 have key : ∀ i : Fin 29, lastN 29 (kindN (Int.ofNat i.1)) = Int.ofNat i.1 := by decide +kernel
 exact key ⟨a, by omega⟩
def rfromRest : XCode := sndC (sndC (sndC x8.body))
theorem rec_fields {f : List Fd} {l : Lt} (h : fromR f = some l) : recA l = f ∧ VL l := by
 obtain ⟨h1, h2⟩ := fromR_some h
 exact ⟨(fieldsL_rec h1).symm.trans h2, mayB_VL h1⟩
theorem numP_back {n : Int} (h : inR n) : (numP (itoS n).data.toList).getD 0 = n := by
 rw [(numP_iff (itoS n).data.toList n).2 ⟨h, by unfold itoS; simp⟩]; rfl
structure HeadL (l : Lt) (frm to : ByteArray) (number kind ack : Int) (deal text party : ByteArray) (index day : Int) (cur : ByteArray) (amt : Int) : Prop where
 frm : frm = l.frm
 to : to = l.to
 number : number = l.number
 kind : kind = l.kind
 ack : ack = l.ack
 deal : deal = l.deal
 text : text = l.text
 party : party = l.party
 index : index = l.index
 day : day = l.day
 cur : cur = l.cur
 amt : amt = l.amt
theorem sum_back {l : Lt} (h : VL l) {v : ByteArray} (e : v = monS l.cur l.amt) : (v = ⟨#[]⟩ → l.cur = ⟨#[]⟩ ∧ l.amt = 0) ∧ (¬ v = ⟨#[]⟩ → monP v = some (l.cur, l.amt)) := by
 subst e
 refine ⟨fun h0 => ?_, fun h0 => ?_⟩
 ·rcases h.sum with h | h
  ·exact h
  ·have := (monS_read h).lo
   rw [h0] at this
   exact absurd this (by decide)
 ·rcases h.sum with h | h
  ·exact absurd (monS_none h) h0
  ·exact (monP_iff _ _ _).2 ⟨h, rfl⟩
theorem rec_at2 {D : List Dc} {B : List ByteArray} {k : Nat} {x : Fd} (h : (D.map docF ++ B.map boxF)[k]? = some x) : (k < D.length ∧ ∃ d, D[k]? = some d ∧ x = docF d) ∨ (D.length ≤ k ∧ ∃ b, B[k - D.length]? = some b ∧ x = boxF b) := by
 by_cases hk : k < D.length
 ·rw [List.getElem?_append_left (by rw [List.length_map]; exact hk), List.getElem?_map] at h
  obtain ⟨d, hd, e⟩ := Option.map_eq_some_iff.1 h
  exact .inl ⟨hk, d, hd, e.symm⟩
 ·rw [List.getElem?_append_right (by rw [List.length_map]; omega), List.getElem?_map, List.length_map] at h
  obtain ⟨b, hb, e⟩ := Option.map_eq_some_iff.1 h
  exact .inr ⟨by omega, b, hb, e.symm⟩
theorem recA_tail (l : Lt) (j : Nat) : (recA l)[11 + j]? = (l.docs.map docF ++ l.boxes.map boxF)[j]? := by
 unfold recA
 rw [List.getElem?_append_right (by simp [recB])]
 congr 1
 simp [recB]
/-- How far papers and boxes were read, if there is a letter at all. -/
def TailL (f : List Fd) (k : Nat) (D : List Dc) (B : List ByteArray) : Prop := ∀ l, fromR f = some l → D = l.docs.take (k - 11) ∧ B = l.boxes.take (k - 11 - l.docs.length)
theorem TailL.box {f : List Fd} {k : Nat} {D : List Dc} {B : List ByteArray} {v : ByteArray} (h : TailL f k D B) (hk : 11 ≤ k) (hx : f[k]? = some ⟨boxN, v⟩) : TailL f (k + 1) D (B ++ [v]) := fun l hl => by
 obtain ⟨h1, h2⟩ := h l hl
 obtain ⟨h3, _⟩ := rec_fields hl
 have e := recA_tail l (k - 11)
 rw [show 11 + (k - 11) = k by omega, h3, hx] at e
 rcases rec_at2 e.symm with ⟨_, d, _, hd⟩ | ⟨hge, b, hb, hxb⟩
 ·exact absurd (congrArg Fd.name hd).symm doc_box
 ·have hv : v = b := congrArg Fd.value hxb
  refine ⟨?_, ?_⟩
  ·rw [h1, List.take_of_length_le (by omega), List.take_of_length_le (by omega)]
  ·rw [show k + 1 - 11 - l.docs.length = (k - 11 - l.docs.length) + 1 by omega, List.take_add_one, hb, h2, hv]; rfl
theorem TailL.doc {f : List Fd} {k : Nat} {D : List Dc} {B : List ByteArray} {n v : ByteArray} {d : Dc} (h : TailL f k D B) (hk : 11 ≤ k) (hx : f[k]? = some ⟨n, v⟩) (hn : ¬ n = boxN) (hd1 : docC d = 0) (hd2 : docS d = v.data.toList) : TailL f (k + 1) (D ++ [d]) B := fun l hl => by
 obtain ⟨h1, h2⟩ := h l hl
 obtain ⟨h3, h4⟩ := rec_fields hl
 have e := recA_tail l (k - 11)
 rw [show 11 + (k - 11) = k by omega, h3, hx] at e
 rcases rec_at2 e.symm with ⟨hlt, d', hd', hxd⟩ | ⟨hge, b, hb, hxb⟩
 ·have hv := congrArg (fun f : Fd => f.value.data.toList) hxd
  have hdd : d = d' := docS_inj hd1 (h4.docs d' (List.mem_of_getElem? hd')) (hd2.trans (by simpa [docF] using hv))
  refine ⟨?_, ?_⟩
  ·rw [show k + 1 - 11 = (k - 11) + 1 by omega, List.take_add_one, hd', h1, hdd]; rfl
  ·rw [h2, show k - 11 - l.docs.length = 0 by omega, show k + 1 - 11 - l.docs.length = 0 by omega]
 ·exact absurd (congrArg Fd.name hxb) hn
theorem TailL.bad {f : List Fd} {k : Nat} {n v : ByteArray} (hk : 11 ≤ k) (hx : f[k]? = some ⟨n, v⟩) (hn : ¬ n = boxN) (hr : ∀ d, docC d = 0 → docS d = v.data.toList → False) : ∀ l, fromR f = some l → False := fun l hl => by
 obtain ⟨h3, h4⟩ := rec_fields hl
 have e := recA_tail l (k - 11)
 rw [show 11 + (k - 11) = k by omega, h3, hx] at e
 rcases rec_at2 e.symm with ⟨hlt, d', hd', hxd⟩ | ⟨hge, b, hb, hxb⟩
 ·have hv := congrArg (fun f : Fd => f.value.data.toList) hxd
  exact hr d' (h4.docs d' (List.mem_of_getElem? hd')) (by simpa [docF] using hv.symm)
 ·exact absurd (congrArg Fd.name hxb) hn
theorem rfrom_end (P : Program) (hm : FnOk P 14 (LtP mayB)) (hF : FnOk P 16 (FieldsC (fieldsL itoS monS))) (hE : FnOk P 10 (EqLC 2 FdA)) {f : List Fd} {K : AV → List Ent → Prop} (hK : K (frB (fromR f)) []) (hp : FromP f) (hf64 : f.length ≤ 64) {frm to deal text party cur : ByteArray} {number kind ack index day amt : Int} (s0 : shortS frm) (s1 : shortS to) (s5 : shortS deal) (s6 : shortS text) (s7 : shortS party)
  {D : List Dc} {B : List ByteArray} (hD : ∀ d ∈ D, docC d = 0) (hB : ∀ s ∈ B, longS s) (hn : D.length + B.length ≤ 60) (hl : ∀ l, fromR f = some l → (⟨frm, to, number, kind, ack, deal, text, party, index, day, cur, amt, D, B⟩ : Lt) = l) :
  SemW P x8.n 0 (sndC (sndC (sndC (sndC rfromRest)))) (FinQ 0 x8.res (CutK [] K)) ⟨[(0, .sl 2 (mapA FdA f)), (2, .ptr 0 0), (4, .ptr 1 0)], [.blk 31 [.str ⟨#[]⟩, .str ⟨#[]⟩, .i 0, .i 0, .i 0, .str ⟨#[]⟩, .str ⟨#[]⟩, .str ⟨#[]⟩, .i 0, .i 0, .str ⟨#[]⟩, .i 0, .v (.slice none 0 0), .v (.slice none 0 0)], .blk 31 [.str frm, .str to, .i number, .i kind, .i ack, .str deal, .str text, .str party, .i index, .i day, .str cur, .i amt, .sl 4 (mapA DcA D), .sl 1 (mapA .str B)]]⟩ := by
 have non : (∀ l, fromR f = some l → False) → K (.tup [LtA zL, .bl false]) [] := fun h => by
  cases e : fromR f with
  | none => rw [e] at hK; exact hK
  | some l => exact (h l e).elim
 have hsm : SmallL ⟨frm, to, number, kind, ack, deal, text, party, index, day, cur, amt, D, B⟩ := ⟨⟨by dsimp only; omega, fun d hd => names_of (hD d hd)⟩, ⟨by dsimp only; omega, fun s hs => Nat.le_trans (hB s hs) (by decide)⟩, s0, s1, s5, s6, s7⟩
 obtain ⟨b, hb⟩ : ∃ b, b = mayB ⟨frm, to, number, kind, ack, deal, text, party, index, day, cur, amt, D, B⟩ := ⟨_, rfl⟩
 obtain ⟨F, hFl⟩ : ∃ b, b = fieldsL itoS monS ⟨frm, to, number, kind, ack, deal, text, party, index, day, cur, amt, D, B⟩ := ⟨_, rfl⟩
 have hFn : F.length ≤ 9223372036854775807 := by
  rw [hFl]
  unfold fieldsL
  split
  ·simp [recB]; omega
  ·simp
 refine .of ?_
 cbv
 refine callG_spec0 hm ⟨frm, to, number, kind, ack, deal, text, party, index, day, cur, amt, D, B⟩ hsm rfl rfl rfl ?_
 rw [← hb]
 cases b
 ·have e := non fun l h => by
   have h2 := (fromR_some h).1
   rw [← hl l h, ← hb] at h2
   cases h2
  cbv
  (refine FinK.mk ⟨_, Gh.refl _, ?_⟩; cbv; exact .inl (CutK.pre [] (by rfl) (by exact Nat.le_of_ble_eq_true rfl) (by rfl) (by rfl) (by repeat' (first | exact LeL.nil | exact LeL0.nil | exact LeH.nil | exact LeE.refl _ | exact Le.refl _ | exact Le0.one (.refl _) | exact Le0.one (.nil _) | exact Le1.refl _ | exact Le1.nil _ | refine LeH.cons ?_ ?_ | refine LeE.row ?_ | refine LeE.blk ?_ | refine LeL0.cons ?_ ?_ | refine LeL.cons ?_ ?_ | refine Le0.agg ?_ | refine Le.tup ?_ | exact Le.one (.one (.nil _)) | refine Le.one (.agg ?_))) (LeH.refl _) e))
 ·cbv
  refine callG_spec0 hF ⟨frm, to, number, kind, ack, deal, text, party, index, day, cur, amt, D, B⟩ hsm rfl rfl rfl ?_
  rw [← hFl]
  cbv
  refine callG_spec0 hE (F, f) ⟨hFn, by dsimp only; omega⟩ rfl rfl rfl ?_
  try dsimp only
  by_cases hq : F = f
  ·rw [eqB_true hq]
   have e : fromR f = some ⟨frm, to, number, kind, ack, deal, text, party, index, day, cur, amt, D, B⟩ := by rw [← hq, hFl]; exact fromR_fields hb.symm
   rw [e] at hK
   cbv
   (refine FinK.mk ⟨_, Gh.refl _, ?_⟩; cbv; exact .inl (CutK.pre [] (by rfl) (by exact Nat.le_of_ble_eq_true rfl) (by rfl) (by rfl) (by repeat' (first | exact LeL.nil | exact LeL0.nil | exact LeH.nil | exact LeE.refl _ | exact Le.refl _ | exact Le0.one (.refl _) | exact Le0.one (.nil _) | exact Le1.refl _ | exact Le1.nil _ | refine LeH.cons ?_ ?_ | refine LeE.row ?_ | refine LeE.blk ?_ | refine LeL0.cons ?_ ?_ | refine LeL.cons ?_ ?_ | refine Le0.agg ?_ | refine Le.tup ?_ | exact Le.one (.one (.nil _)) | refine Le.one (.agg ?_))) (LeH.refl _) hK))
  ·rw [eqB_false hq]
   have e := non fun l h => by
    have h2 := (fromR_some h).2
    rw [← hl l h, ← hFl] at h2
    exact hq h2
   cbv
   (refine FinK.mk ⟨_, Gh.refl _, ?_⟩; cbv; exact .inl (CutK.pre [] (by rfl) (by exact Nat.le_of_ble_eq_true rfl) (by rfl) (by rfl) (by repeat' (first | exact LeL.nil | exact LeL0.nil | exact LeH.nil | exact LeE.refl _ | exact Le.refl _ | exact Le0.one (.refl _) | exact Le0.one (.nil _) | exact Le1.refl _ | exact Le1.nil _ | refine LeH.cons ?_ ?_ | refine LeE.row ?_ | refine LeE.blk ?_ | refine LeL0.cons ?_ ?_ | refine LeL.cons ?_ ?_ | refine Le0.agg ?_ | refine Le.tup ?_ | exact Le.one (.one (.nil _)) | refine Le.one (.agg ?_))) (LeH.refl _) e))
theorem rfrom_tail (P : Program) (hR : FnOk P 27 ReadC) (hm : FnOk P 14 (LtP mayB)) (hF : FnOk P 16 (FieldsC (fieldsL itoS monS))) (hE : FnOk P 10 (EqLC 2 FdA)) {f : List Fd} {K : AV → List Ent → Prop} (hK : K (frB (fromR f)) []) (hp : FromP f) (hf11 : 11 ≤ f.length) (hf64 : f.length ≤ 64) {frm to deal text party cur : ByteArray} {number kind ack index day amt : Int} (s0 : shortS frm) (s1 : shortS to) (s5 : shortS deal) (s6 : shortS text) (s7 : shortS party)
  (hl : ∀ l, fromR f = some l → HeadL l frm to number kind ack deal text party index day cur amt) :
  SemW P x8.n 0 (sndC (sndC (sndC rfromRest))) (FinQ 0 x8.res (CutK [] K)) ⟨[(0, .sl 2 (mapA FdA f)), (2, .ptr 0 0), (3, .bl false), (4, .ptr 1 0)], [.blk 31 [.str ⟨#[]⟩, .str ⟨#[]⟩, .i 0, .i 0, .i 0, .str ⟨#[]⟩, .str ⟨#[]⟩, .str ⟨#[]⟩, .i 0, .i 0, .str ⟨#[]⟩, .i 0, .v (.slice none 0 0), .v (.slice none 0 0)], .blk 31 [.str frm, .str to, .i number, .i kind, .i ack, .str deal, .str text, .str party, .i index, .i day, .str cur, .i amt, .v (.slice none 0 0), .v (.slice none 0 0)]]⟩ := by
 have hfl := mapA_len FdA f
 have hsh : ∀ {s : ByteArray}, longS s → shortS s := fun h => Nat.le_trans h (by decide)
 have non : (∀ l, fromR f = some l → False) → K (.tup [LtA zL, .bl false]) [] := fun h => by
  cases e : fromR f with
  | none => rw [e] at hK; exact hK
  | some l => exact (h l e).elim
 obtain ⟨fl, hfn⟩ : ∃ n, n = f.length := ⟨_, rfl⟩
 refine SemW.seq (.of ?_)
 cbv
 refine xloopG ((Gh.adoptC 1 12 60 4 rfl rfl).trans (Gh.adoptC 1 13 9 1 rfl rfl)) ?_
 cbv
 refine xloopV [2, 3] (fun q : { q : Nat × List Dc × List ByteArray // 11 ≤ q.1 ∧ q.1 ≤ fl ∧ q.2.1.length + q.2.2.length + 11 = q.1 ∧ (∀ d ∈ q.2.1, docC d = 0) ∧ (∀ s ∈ q.2.2, longS s) ∧ TailL f q.1 q.2.1 q.2.2 } => [(7, .i (nI q.1.1))]) (fun q => [.blk 31 [.str ⟨#[]⟩, .str ⟨#[]⟩, .i 0, .i 0, .i 0, .str ⟨#[]⟩, .str ⟨#[]⟩, .str ⟨#[]⟩, .i 0, .i 0, .str ⟨#[]⟩, .i 0, .v (.slice none 0 0), .v (.slice none 0 0)], .blk 31 [.str frm, .str to, .i number, .i kind, .i ack, .str deal, .str text, .str party, .i index, .i day, .str cur, .i amt, .hd 2, .hd 3], .row 60 4 (mapA DcA q.1.2.1), .row 9 1 (mapA .str q.1.2.2)]) (fun q => lft fl q.1.1) ⟨(11, [], []), Nat.le_refl _, by ((try simp only [vn] at *) <;> omega), rfl, (fun d hd => by cases hd), (fun s hs => by cases hs), fun l hl => ⟨by simp, by simp⟩⟩ ?_
 rintro ⟨⟨k, D, B⟩, hk, hkl, hDB, hD, hB, hT⟩
 dsimp only at hk hkl hDB hD hB hT ⊢
 have hD2 := mapA_len DcA D
 have hB2 := mapA_len AV.str B
 by_cases hkf : k < fl
 ·obtain ⟨⟨xn, xv⟩, hx⟩ : ∃ x, f[k]? = some x := some_at (by omega)
  have hxv := hp.each _ (List.mem_of_getElem? hx)
  obtain ⟨Z, hZ⟩ : ∃ r, r = readS xv.data.toList := ⟨_, rfl⟩
  cbv; repeat' ((first | refine .e ?_ | refine .y fun h => ?_ | refine .mk (fun h => ?_) fun h => ?_ | refine .k fun z hz => ?_ | refine .zl fun zs hzs hzl => ?_ | fail) <;> cbv)
  ·have hxn : xn = boxN := by assumption
   obtain rfl : z = nI (k + 1) := by ((try simp only [vn] at *) <;> omega)
   obtain rfl : zs = mapA AV.str (B ++ [xv]) := by rw [mapA_app, mapA_one, hzs]
   exact roundV ⟨(k + 1, D, B ++ [xv]), by dsimp only; omega, by ((try simp only [vn] at *) <;> omega), by dsimp only; simp only [List.length_append, List.length_cons, List.length_nil]; omega, hD, fun s hs => by rcases List.mem_append.1 hs with h | h; exact hB s h; (obtain rfl := List.mem_singleton.1 h; exact hxv), hT.box hk (by rw [hx, hxn])⟩ (lft_lt (by omega))
  ·have hxn : ¬ xn = boxN := by assumption
   refine callG_spec0 hR xv (hsh hxv) rfl rfl rfl ?_
   rw [← hZ]
   obtain ⟨d, a, e⟩ := Z
   obtain ⟨d1, d2, d3, d4⟩ := d
   cbv; repeat' ((first | refine .mk (fun h => ?_) fun h => ?_ | refine .k fun z hz => ?_ | refine .zl fun zs hzs hzl => ?_ | fail) <;> cbv)
   ·obtain rfl : e = 0 := by assumption
    have hd := (readS_iff xv.data.toList ⟨d1, d2, d3, d4⟩).1 ⟨a, hZ.symm⟩
    obtain rfl : z = nI (k + 1) := by ((try simp only [vn] at *) <;> omega)
    obtain rfl : zs = mapA DcA (D ++ [⟨d1, d2, d3, d4⟩]) := by rw [mapA_app, mapA_one, hzs]; rfl
    exact roundV ⟨(k + 1, D ++ [⟨d1, d2, d3, d4⟩], B), by dsimp only; omega, by ((try simp only [vn] at *) <;> omega), by dsimp only; simp only [List.length_append, List.length_cons, List.length_nil]; omega, fun d hd' => by rcases List.mem_append.1 hd' with h | h; exact hD d h; (obtain rfl := List.mem_singleton.1 h; exact hd.1), hB, hT.doc hk hx hxn hd.1 hd.2⟩ (lft_lt (by omega))
   ·have e2 := non (TailL.bad hk hx hxn fun d h1 h2 => by
     obtain ⟨b, hb⟩ := (readS_iff xv.data.toList d).2 ⟨h1, h2⟩
     rw [← hZ] at hb
     injection hb with _ hb
     injection hb with _ hb
     exact absurd hb (by assumption))
    (refine FinK.mk ⟨_, Gh.refl _, ?_⟩; cbv; exact .inl (CutK.pre [] (by rfl) (by exact Nat.le_of_ble_eq_true rfl) (by rfl) (by rfl) (by repeat' (first | exact LeL.nil | exact LeL0.nil | exact LeH.nil | exact LeE.refl _ | exact Le.refl _ | exact Le0.one (.refl _) | exact Le0.one (.nil _) | exact Le1.refl _ | exact Le1.nil _ | refine LeH.cons ?_ ?_ | refine LeE.row ?_ | refine LeE.blk ?_ | refine LeL0.cons ?_ ?_ | refine LeL.cons ?_ ?_ | refine Le0.agg ?_ | refine Le.tup ?_ | exact Le.one (.one (.nil _)) | refine Le.one (.agg ?_))) (LeH.refl _) e2))
 ·obtain rfl : k = fl := by omega
  cbv; repeat' ((first | refine .n fun h => ?_ | refine .k fun z hz => ?_ | fail) <;> cbv)
  refine SemW.gh (Gh.plain 2 rfl) (SemW.gh (Gh.plain 3 rfl) ?_)
  exact SemW.gh (Gh.weak (by repeat' (first | exact trivial | refine ⟨.inl rfl, ?_⟩ | refine ⟨.inr rfl, ?_⟩)) (by rfl) (by rfl) (by rfl) (by exact Nat.le_of_ble_eq_true rfl)) (rfrom_end P hm hF hE hK hp hf64 s0 s1 s5 s6 s7 hD hB (by omega) fun l h => by
   have q := hl l h
   obtain ⟨t1, t2⟩ := hT l h
   have h4 := recA_len l
   rw [(rec_fields h).1, ← hfn] at h4
   rw [q.frm, q.to, q.number, q.kind, q.ack, q.deal, q.text, q.party, q.index, q.day, q.cur, q.amt, t1, t2, List.take_of_length_le (by omega), List.take_of_length_le (by omega)])
theorem rfrom_rest (P : Program) (hNs : FnOk P 25 NamesC) (hM : FnOk P 26 RmpC) (hR : FnOk P 27 ReadC) (hm : FnOk P 14 (LtP mayB)) (hF : FnOk P 16 (FieldsC (fieldsL itoS monS))) (hE : FnOk P 10 (EqLC 2 FdA)) {f : List Fd} {K : AV → List Ent → Prop} (hK : K (frB (fromR f)) []) (hp : FromP f) (hf11 : 11 ≤ f.length) (hf64 : f.length ≤ 64) {frm to deal text party : ByteArray} {number ack index day : Int} (s0 : shortS frm) (s1 : shortS to) (s5 : shortS deal) (s6 : shortS text) (s7 : shortS party)
  (hl : ∀ l, fromR f = some l → frm = l.frm ∧ to = l.to ∧ number = l.number ∧ ack = l.ack ∧ deal = l.deal ∧ text = l.text ∧ party = l.party ∧ index = l.index ∧ day = l.day) :
  SemW P x8.n 0 rfromRest (FinQ 0 x8.res (CutK [] K)) ⟨[(0, .sl 2 (mapA FdA f)), (2, .ptr 0 0), (3, .bl false), (4, .ptr 1 0)], [.blk 31 [.str ⟨#[]⟩, .str ⟨#[]⟩, .i 0, .i 0, .i 0, .str ⟨#[]⟩, .str ⟨#[]⟩, .str ⟨#[]⟩, .i 0, .i 0, .str ⟨#[]⟩, .i 0, .v (.slice none 0 0), .v (.slice none 0 0)], .blk 31 [.str frm, .str to, .i number, .i (-1), .i ack, .str deal, .str text, .str party, .i index, .i day, .str ⟨#[]⟩, .i 0, .v (.slice none 0 0), .v (.slice none 0 0)]]⟩ := by
 have hfl := mapA_len FdA f
 have hsh : ∀ {s : ByteArray}, longS s → shortS s := fun h => Nat.le_trans h (by decide)
 obtain ⟨⟨n3, v3⟩, x3⟩ : ∃ x, f[3]? = some x := some_at (by omega)
 obtain ⟨⟨n10, v10⟩, x10⟩ : ∃ x, f[10]? = some x := some_at (by omega)
 have w10 : shortS v10 := hsh (hp.each _ (List.mem_of_getElem? x10))
 refine SemW.seq (.of ?_)
 cbv
 refine callG_spec0 hNs () trivial rfl rfl rfl ?_
 obtain ⟨ns, hns⟩ : ∃ ns, ns = names29 := ⟨_, rfl⟩
 have hnl := mapA_len AV.str ns
 have hnl2 : ns.length = 29 := by rw [hns]; exact names_len
 rw [← hns]
 cbv
 refine SemW.seq (.of ?_)
 cbv
 refine xloopV [] (fun q : { q : Nat × Int // q.1 ≤ 29 ∧ q.2 = lastN q.1 v3 } => [(6, .i (nI q.1.1))]) (fun q => [.blk 31 [.str ⟨#[]⟩, .str ⟨#[]⟩, .i 0, .i 0, .i 0, .str ⟨#[]⟩, .str ⟨#[]⟩, .str ⟨#[]⟩, .i 0, .i 0, .str ⟨#[]⟩, .i 0, .v (.slice none 0 0), .v (.slice none 0 0)], .blk 31 [.str frm, .str to, .i number, .i q.1.2, .i ack, .str deal, .str text, .str party, .i index, .i day, .str ⟨#[]⟩, .i 0, .v (.slice none 0 0), .v (.slice none 0 0)]]) (fun q => lft 29 q.1.1) ⟨(0, -1), by omega, rfl⟩ ?_
 rintro ⟨⟨k, kd⟩, hk, hkd⟩
 dsimp only at hk hkd ⊢
 cbv; repeat' ((first | refine .mk (fun h => ?_) fun h => ?_ | refine .k fun z hz => ?_ | fail) <;> cbv)
 ·refine askEl_int (by ((try simp only [vn] at *) <;> omega)) (by ((try simp only [vn] at *) <;> omega)) fun i y hi hy => ?_
  obtain rfl : k = i := by ((try simp only [vn] at *) <;> omega)
  have hyk : y = kindN (Int.ofNat k) := names_get (by rw [← hns]; exact hy)
  have hf : lastN (k + 1) v3 = if y = v3 then Int.ofNat k else kd := by rw [hyk, hkd]; rfl
  clear hy
  cbv; repeat' ((first | refine .e ?_ | refine .mk (fun h => ?_) fun h => ?_ | refine .k fun z hz => ?_ | fail) <;> cbv)
  all_goals try obtain rfl : z = nI (k + 1) := (by ((try simp only [vn] at *) <;> omega))
  ·exact roundV ⟨(k + 1, Int.ofNat k), by ((try simp only [vn] at *) <;> omega), by rw [hf, if_pos (by assumption)]⟩ (lft_lt (by ((try simp only [vn] at *) <;> omega)))
  ·exact roundV ⟨(k + 1, kd), by ((try simp only [vn] at *) <;> omega), by rw [hf, if_neg (by assumption)]⟩ (lft_lt (by ((try simp only [vn] at *) <;> omega)))
 obtain rfl : k = 29 := by ((try simp only [vn] at *) <;> omega)
 have hkl : ∀ l, fromR f = some l → kd = l.kind := fun l h => by
  obtain ⟨h1, h2⟩ := rec_fields h
  have e := recA_at3 l
  rw [h1, x3] at e
  rw [hkd, show v3 = _ from congrArg Fd.value (Option.some.inj e)]
  exact lastN_at h2.kind
 have hsum : ∀ l, fromR f = some l → (v10 = ⟨#[]⟩ → l.cur = ⟨#[]⟩ ∧ l.amt = 0) ∧ (¬ v10 = ⟨#[]⟩ → monP v10 = some (l.cur, l.amt)) := fun l h => by
  obtain ⟨h1, h2⟩ := rec_fields h
  have e := recA_at10 l
  rw [h1, x10] at e
  exact sum_back h2 (congrArg Fd.value (Option.some.inj e))
 refine SemW.seq (.of ?_)
 cbv; repeat' ((first | refine .e ?_ | refine .mk (fun h => ?_) fun h => ?_ | fail) <;> cbv)
 rotate_right 1
 ·refine callG_spec0 hM v10 w10 rfl (by unfold MpB; cases monP v10 with | none => rfl | some q => rfl) rfl ?_
  have hneg : ¬ v10 = ⟨#[]⟩ := by assumption
  cases e : monP v10 with
  | none =>
   have e2 : MpB v10 = .tup [.agg [.str ⟨#[]⟩, .i 0], .bl false] := by unfold MpB; rw [e]
   rw [e2]
   cbv
   exact SemW.gh (Gh.weak (by repeat' (first | exact trivial | refine ⟨.inl rfl, ?_⟩ | refine ⟨.inr rfl, ?_⟩)) (by rfl) (by rfl) (by rfl) (by exact Nat.le_of_ble_eq_true rfl)) (rfrom_tail P hR hm hF hE hK hp hf11 hf64 s0 s1 s5 s6 s7 fun l h => by
    have q := hl l h
    have hb := (hsum l h).2 hneg
    rw [e] at hb; cases hb)
  | some p =>
   obtain ⟨c, a⟩ := p
   have e2 : MpB v10 = .tup [.agg [.str c, .i a], .bl true] := by unfold MpB; rw [e]
   rw [e2]
   cbv
   exact SemW.gh (Gh.weak (by repeat' (first | exact trivial | refine ⟨.inl rfl, ?_⟩ | refine ⟨.inr rfl, ?_⟩)) (by rfl) (by rfl) (by rfl) (by exact Nat.le_of_ble_eq_true rfl)) (rfrom_tail P hR hm hF hE hK hp hf11 hf64 s0 s1 s5 s6 s7 fun l h => by
    have q := hl l h
    have hb := (hsum l h).2 hneg
    rw [e] at hb
    injection hb with hb
    injection hb with hb1 hb2
    exact ⟨q.1, q.2.1, q.2.2.1, hkl l h, q.2.2.2.1, q.2.2.2.2.1, q.2.2.2.2.2.1, q.2.2.2.2.2.2.1, q.2.2.2.2.2.2.2.1, q.2.2.2.2.2.2.2.2, hb1, hb2⟩)
 ·exact SemW.gh (Gh.weak (by repeat' (first | exact trivial | refine ⟨.inl rfl, ?_⟩ | refine ⟨.inr rfl, ?_⟩)) (by rfl) (by rfl) (by rfl) (by exact Nat.le_of_ble_eq_true rfl)) (rfrom_tail P hR hm hF hE hK hp hf11 hf64 s0 s1 s5 s6 s7 fun l h => by
   have q := hl l h
   have hb := (hsum l h).1 (by assumption)
   exact ⟨q.1, q.2.1, q.2.2.1, hkl l h, q.2.2.2.1, q.2.2.2.2.1, q.2.2.2.2.2.1, q.2.2.2.2.2.2.1, q.2.2.2.2.2.2.2.1, q.2.2.2.2.2.2.2.2, hb.1.symm, hb.2.symm⟩)
theorem rfrom_body (P : Program) (hw : FnOk P 24 WholeFC) (hNs : FnOk P 25 NamesC) (hM : FnOk P 26 RmpC) (hR : FnOk P 27 ReadC) (hm : FnOk P 14 (LtP mayB)) (hF : FnOk P 16 (FieldsC (fieldsL itoS monS))) (hE : FnOk P 10 (EqLC 2 FdA)) : BodyOkS P x8 RFromC := by
 intro args H K hc
 obtain ⟨f, rfl, rfl, hp, hK⟩ := hc
 refine ⟨Nat.le_of_ble_eq_true rfl, ?_⟩
 dsimp only at hK ⊢
 have non : (∀ l, fromR f = some l → False) → K (.tup [LtA zL, .bl false]) [] := fun h => by
  cases e : fromR f with
  | none => rw [e] at hK; exact hK
  | some l => exact (h l e).elim
 have hfl := mapA_len FdA f
 have hsh : ∀ {s : ByteArray}, longS s → shortS s := fun h => Nat.le_trans h (by decide)
 have hlen : ∀ l, fromR f = some l → 11 ≤ f.length ∧ f.length ≤ 51 := fun l h => by
  obtain ⟨h1, h2⟩ := fromR_some h
  have h3 := recA_len l
  rw [← fieldsL_rec h1, h2] at h3
  obtain ⟨_, _, _, _, f5, f6⟩ := mayB_facts h1
  omega
 refine SemW.seq (.of ?_)
 cbv
 refine SemW.seq (.of ?_)
 cbv; repeat' ((first | refine .mk (fun h => ?_) fun h => ?_ | refine .k fun z hz => ?_ | fail) <;> cbv)
 ·have e := non fun l hl => absurd (hlen l hl).1 (by ((try simp only [vn] at *) <;> omega))
  (refine FinK.mk ⟨_, Gh.refl _, ?_⟩; cbv; exact .inl (CutK.pre [] (by rfl) (by exact Nat.le_of_ble_eq_true rfl) (by rfl) (by rfl) (by repeat' (first | exact LeL.nil | exact LeL0.nil | exact LeH.nil | exact LeE.refl _ | exact Le.refl _ | exact Le0.one (.refl _) | exact Le0.one (.nil _) | exact Le1.refl _ | exact Le1.nil _ | refine LeH.cons ?_ ?_ | refine LeE.row ?_ | refine LeE.blk ?_ | refine LeL0.cons ?_ ?_ | refine LeL.cons ?_ ?_ | refine Le0.agg ?_ | refine Le.tup ?_ | exact Le.one (.one (.nil _)) | refine Le.one (.agg ?_))) (LeH.refl _) e))
 ·have e := non fun l hl => absurd (hlen l hl).2 (by ((try simp only [vn] at *) <;> omega))
  (refine FinK.mk ⟨_, Gh.refl _, ?_⟩; cbv; exact .inl (CutK.pre [] (by rfl) (by exact Nat.le_of_ble_eq_true rfl) (by rfl) (by rfl) (by repeat' (first | exact LeL.nil | exact LeL0.nil | exact LeH.nil | exact LeE.refl _ | exact Le.refl _ | exact Le0.one (.refl _) | exact Le0.one (.nil _) | exact Le1.refl _ | exact Le1.nil _ | refine LeH.cons ?_ ?_ | refine LeE.row ?_ | refine LeE.blk ?_ | refine LeL0.cons ?_ ?_ | refine LeL.cons ?_ ?_ | refine Le0.agg ?_ | refine Le.tup ?_ | exact Le.one (.one (.nil _)) | refine Le.one (.agg ?_))) (LeH.refl _) e))
 have hf11 : 11 ≤ f.length := by ((try simp only [vn] at *) <;> omega)
 have hf64 : f.length ≤ 64 := by ((try simp only [vn] at *) <;> omega)
 obtain ⟨⟨n0, v0⟩, x0⟩ : ∃ x, f[0]? = some x := some_at (by omega)
 have w0 : shortS v0 := hsh (hp.each _ (List.mem_of_getElem? x0))
 obtain ⟨⟨n1, v1⟩, x1⟩ : ∃ x, f[1]? = some x := some_at (by omega)
 have w1 : shortS v1 := hsh (hp.each _ (List.mem_of_getElem? x1))
 obtain ⟨⟨n2, v2⟩, x2⟩ : ∃ x, f[2]? = some x := some_at (by omega)
 have w2 : shortS v2 := hsh (hp.each _ (List.mem_of_getElem? x2))
 obtain ⟨⟨n3, v3⟩, x3⟩ : ∃ x, f[3]? = some x := some_at (by omega)
 have w3 : shortS v3 := hsh (hp.each _ (List.mem_of_getElem? x3))
 obtain ⟨⟨n4, v4⟩, x4⟩ : ∃ x, f[4]? = some x := some_at (by omega)
 have w4 : shortS v4 := hsh (hp.each _ (List.mem_of_getElem? x4))
 obtain ⟨⟨n5, v5⟩, x5⟩ : ∃ x, f[5]? = some x := some_at (by omega)
 have w5 : shortS v5 := hsh (hp.each _ (List.mem_of_getElem? x5))
 obtain ⟨⟨n6, v6⟩, x6⟩ : ∃ x, f[6]? = some x := some_at (by omega)
 have w6 : shortS v6 := hsh (hp.each _ (List.mem_of_getElem? x6))
 obtain ⟨⟨n7, v7⟩, x7⟩ : ∃ x, f[7]? = some x := some_at (by omega)
 have w7 : shortS v7 := hsh (hp.each _ (List.mem_of_getElem? x7))
 obtain ⟨⟨n8, v8⟩, x8⟩ : ∃ x, f[8]? = some x := some_at (by omega)
 have w8 : shortS v8 := hsh (hp.each _ (List.mem_of_getElem? x8))
 obtain ⟨⟨n9, v9⟩, x9⟩ : ∃ x, f[9]? = some x := some_at (by omega)
 have w9 : shortS v9 := hsh (hp.each _ (List.mem_of_getElem? x9))
 obtain ⟨m2, e2⟩ : ∃ m, m = (numP v2.data.toList).getD 0 := ⟨_, rfl⟩
 obtain ⟨m4, e4⟩ : ∃ m, m = (numP v4.data.toList).getD 0 := ⟨_, rfl⟩
 obtain ⟨m8, e8⟩ : ∃ m, m = (numP v8.data.toList).getD 0 := ⟨_, rfl⟩
 obtain ⟨m9, e9⟩ : ∃ m, m = (numP v9.data.toList).getD 0 := ⟨_, rfl⟩
 have rest := rfrom_rest P hNs hM hR hm hF hE hK hp hf11 hf64 (frm := v0) (to := v1) (deal := v5) (text := v6) (party := v7) (number := m2) (ack := m4) (index := m8) (day := m9) w0 w1 w5 w6 w7 fun l hl => by
  obtain ⟨h1, h2⟩ := rec_fields hl
  exact ⟨(by have e := recA_at0 l; rw [h1, x0] at e; exact congrArg Fd.value (Option.some.inj e)), (by have e := recA_at1 l; rw [h1, x1] at e; exact congrArg Fd.value (Option.some.inj e)), (by have e := recA_at2 l; rw [h1, x2] at e; rw [e2, show v2 = _ from congrArg Fd.value (Option.some.inj e)]; exact numP_back h2.number), (by have e := recA_at4 l; rw [h1, x4] at e; rw [e4, show v4 = _ from congrArg Fd.value (Option.some.inj e)]; exact numP_back h2.ack), (by have e := recA_at5 l; rw [h1, x5] at e; exact congrArg Fd.value (Option.some.inj e)), (by have e := recA_at6 l; rw [h1, x6] at e; exact congrArg Fd.value (Option.some.inj e)), (by have e := recA_at7 l; rw [h1, x7] at e; exact congrArg Fd.value (Option.some.inj e)), (by have e := recA_at8 l; rw [h1, x8] at e; rw [e8, show v8 = _ from congrArg Fd.value (Option.some.inj e)]; exact numP_back h2.index), (by have e := recA_at9 l; rw [h1, x9] at e; rw [e9, show v9 = _ from congrArg Fd.value (Option.some.inj e)]; exact numP_back h2.day)⟩
 clear non hlen
 refine SemW.seq (.of ?_)
 cbv; repeat' ((first | refine .e ?_ | refine And.intro ?_ ?_ | fail) <;> cbv)
 repeat' (first | (refine callG_spec0 hw ⟨n2, v2⟩ w2 rfl rfl rfl ?_; try dsimp only; rw [← e2]; cbv; repeat' ((first | refine And.intro ?_ ?_ | fail) <;> cbv)) | (refine callG_spec0 hw ⟨n4, v4⟩ w4 rfl rfl rfl ?_; try dsimp only; rw [← e4]; cbv; repeat' ((first | refine And.intro ?_ ?_ | fail) <;> cbv)) | (refine callG_spec0 hw ⟨n8, v8⟩ w8 rfl rfl rfl ?_; try dsimp only; rw [← e8]; cbv; repeat' ((first | refine And.intro ?_ ?_ | fail) <;> cbv)) | (refine callG_spec0 hw ⟨n9, v9⟩ w9 rfl rfl rfl ?_; try dsimp only; rw [← e9]; cbv))
 all_goals exact SemW.gh (Gh.weak (by repeat' (first | exact trivial | refine ⟨.inl rfl, ?_⟩ | refine ⟨.inr rfl, ?_⟩)) (by rfl) (by rfl) (by rfl) (by exact Nat.le_of_ble_eq_true rfl)) rest
end Go.Proofs.YtblkcnmecfppnaaGreatDoor
/-
 The letter of a text; what a letter's text tells.
-/
namespace Go.Proofs.YtblkcnmecfppnaaGreatDoor
open Go.RowKit
set_option maxHeartbeats 8000000
set_option maxRecDepth 100000
theorem nameB_len {s : ByteArray} (h : nameB s = true) : s.size ≤ 16 := by
 unfold nameB at h
 simp only [Bool.and_eq_true, decide_eq_true_eq] at h
 exact h.1.2
theorem noneB_len {s : ByteArray} (h : noneB s = true) : s.size ≤ 16 := by
 unfold noneB at h
 rcases Bool.or_eq_true _ _ |>.mp h with h | h
 ·have := of_decide_eq_true h; omega
 ·exact nameB_len h
theorem kindN_len (k : Int) : (kindN k).size ≤ 16 := by
 by_cases h : 0 ≤ k ∧ k ≤ 28
 ·obtain ⟨a, rfl⟩ : ∃ a : Nat, k = Int.ofNat a := ⟨k.toNat, by simp only [Int.ofNat_eq_natCast]; omega⟩
  simp only [Int.ofNat_eq_natCast] at h
  have key : ∀ i : Fin 29, (kindN (Int.ofNat i.1)).size ≤ 16 := by decide +kernel
  exact key ⟨a, by omega⟩
 ·rw [kindN_out (by omega)]; decide
theorem monS_len (c : ByteArray) (a : Int) : (monS c a).size ≤ 24 := by
 cases h : moneyB c a with
 | true => exact (monS_read h).hi
 | false => unfold monS; rw [h, if_neg (by decide)]; decide
theorem recA_may {l : Lt} (h : mayB l = true) : ∀ f ∈ recA l, mayF f = true := by
 obtain ⟨f1, f2, f3, f4, f5, f6⟩ := mayB_facts h
 have hd := mayB_docs h
 have hall := h
 simp only [mayB, Bool.and_eq_true] at hall
 obtain ⟨⟨⟨⟨⟨⟨⟨⟨⟨⟨⟨⟨⟨⟨⟨⟨a1, a2⟩, a3⟩, a4⟩, a5⟩, a6⟩, a7⟩, a8⟩, a9⟩, a10⟩, a11⟩, a12⟩, a13⟩, a14⟩, a15⟩, a16⟩, a17⟩ := hall
 have key : ∀ (n : ByteArray) (v : ByteArray), nameB n = true → v.size ≤ 4096 → mayF ⟨n, v⟩ = true := fun n v h1 h2 => by unfold mayF; rw [h1, decide_eq_true h2]; rfl
 have it : ∀ n : Int, -1 ≤ n → n ≤ 1048576 → (itoS n).size ≤ 4096 := fun n h0 h1 => Nat.le_trans (itoS_size (by omega)) (by decide)
 have ht : l.text.size ≤ 4096 := of_decide_eq_true a9
 intro f hf
 unfold recA at hf
 rcases List.mem_append.1 hf with hf | hf
 ·simp only [recB, List.mem_cons, List.not_mem_nil, or_false] at hf
  rcases hf with rfl | rfl | rfl | rfl | rfl | rfl | rfl | rfl | rfl | rfl | rfl
  ·exact key _ _ (by decide) (Nat.le_trans (nameB_len a1) (by decide))
  ·exact key _ _ (by decide) (Nat.le_trans (nameB_len a2) (by decide))
  ·exact key _ _ (by decide) (it _ (by omega) (by omega))
  ·exact key _ _ (by decide) (Nat.le_trans (kindN_len _) (by decide))
  ·exact key _ _ (by decide) (it _ (by omega) (by omega))
  ·exact key _ _ (by decide) (Nat.le_trans (noneB_len a7) (by decide))
  ·exact key _ _ (by decide) ht
  ·exact key _ _ (by decide) (Nat.le_trans (noneB_len a8) (by decide))
  ·exact key _ _ (by decide) (it _ (by omega) (by omega))
  ·exact key _ _ (by decide) (it _ (by omega) (by omega))
  ·exact key _ _ (by decide) (Nat.le_trans (monS_len _ _) (by decide))
 ·rcases List.mem_append.1 hf with hf | hf
  ·obtain ⟨d, hd1, rfl⟩ := List.mem_map.1 hf
   have h2 := hd d hd1
   unfold isDocB at h2
   simp only [Bool.and_eq_true, decide_eq_true_eq] at h2
   exact key _ _ (by decide) (by have := h2.2; simpa [ByteArray.size] using this)
  ·obtain ⟨b, hb, rfl⟩ := List.mem_map.1 hf
   have h2 : nameB b = true := by
    cases hn : nameB b with
    | true => rfl
    | false =>
     have : (l.boxes.any fun s => !nameB s) = true := List.any_eq_true.2 ⟨b, hb, by rw [hn]; rfl⟩
     rw [this] at a16; cases a16
   exact key _ _ (by decide) (Nat.le_trans (nameB_len h2) (by decide))
theorem text0 {l : Lt} (h : mayB l = true) : textC (fieldsL itoS monS l) = 0 := by
 rw [fieldsL_rec h]
 obtain ⟨_, _, _, _, f5, f6⟩ := mayB_facts h
 have h3 := recA_len l
 unfold textC
 rw [if_neg (by omega), if_pos (List.all_eq_true.2 (recA_may h))]
theorem fromP_of {s : List UInt8} {fs : List Fd} {a : Int} (h : parseS s = (fs, a, 0)) : FromP fs := by
 have h1 := ((parseS_iff s fs).1 ⟨a, h⟩).1
 unfold textC at h1
 split at h1
 ·cases h1
 ·split at h1
  ·rename_i h2 h3
   exact ⟨by omega, fun x hx => Nat.le_trans (mayF_bd (List.all_eq_true.1 h3 x hx)).2 (by decide)⟩
  ·cases h1
theorem small_of {f : List Fd} {l : Lt} (hp : FromP f) (h : fromR f = some l) : SmallL l := by
 obtain ⟨h1, h2⟩ := rec_fields h
 have hb := (fromR_some h).1
 obtain ⟨_, _, _, _, f5, f6⟩ := mayB_facts hb
 have hin : ∀ x ∈ recA l, shortS x.value := fun x hx => Nat.le_trans (hp.each x (by rw [← h1]; exact hx)) (by decide)
 have hin2 : ∀ (i : Nat) (x : Fd), (recA l)[i]? = some x → shortS x.value := fun i x hx => hin x (List.mem_of_getElem? hx)
 exact ⟨⟨by omega, fun d hd => names_of (h2.docs d hd)⟩, ⟨by omega, fun s hs => hin ⟨_, s⟩ (List.mem_append_right _ (List.mem_append_right _ (List.mem_map.2 ⟨s, hs, rfl⟩)))⟩, hin2 0 _ (recA_at0 l), hin2 1 _ (recA_at1 l), hin2 5 _ (recA_at5 l), hin2 6 _ (recA_at6 l), hin2 7 _ (recA_at7 l)⟩
theorem LtE.of {l : Lt} (h : SmallL l) : LtE l := ⟨h.docs.len, h.boxes.len, fun d hd => (h.docs.each d hd).len⟩
theorem zL_E : LtE zL := ⟨by decide, by decide, fun d hd => by cases hd⟩
/-- The letter of a text; the line, and what is wrong. -/
noncomputable def ppR (s : List UInt8) : Lt × Int × Int := if (parseS s).2.2 = 0 then match fromR (parseS s).1 with
  | some l => (l, 0, 0)
  | none => (zL, 0, 2)
 else (zL, (parseS s).2.1, (parseS s).2.2)
noncomputable def PpC : Ctr := spec (fun s : ByteArray => [.str s]) (fun _ => []) shortS (fun s => .tup [LtA (ppR s.data.toList).1, .i (ppR s.data.toList).2.1, .i (ppR s.data.toList).2.2]) fun _ => []
theorem pparse_body (P : Program) (hP : FnOk P 43 ParseC) (hF : FnOk P 7 FromRC) : BodyOk P x17 PpC := by
 intro args H K hc
 obtain ⟨s, rfl, rfl, hp, hK⟩ := hc
 refine ⟨Nat.le_of_ble_eq_true rfl, ?_⟩
 dsimp only at hK ⊢
 unfold ppR at hK
 have hfp := fun fs a h => fromP_of (s := s.data.toList) (fs := fs) (a := a) h
 obtain ⟨Z, hZ⟩ : ∃ r, r = parseS s.data.toList := ⟨_, rfl⟩
 cbv
 refine callG_spec0 hP s hp rfl rfl rfl ?_
 rw [← hZ] at hK hfp ⊢
 clear hZ
 obtain ⟨l, a, e⟩ := Z
 dsimp only at hK ⊢
 cbv; repeat' ((first | refine .mk (fun h => ?_) fun h => ?_ | fail) <;> cbv)
 ·obtain rfl : e = 0 := by assumption
  rw [if_pos rfl] at hK
  cases hfr : fromR l with
  | none =>
   have e2 : frA (fromR l) = .tup [LtA zL, .i 2] := by rw [hfr]; rfl
   rw [hfr] at hK
   refine callG_spec0 hF l (hfp l a rfl) rfl (by rw [e2]; rfl) rfl ?_
   rw [e2]
   cbv
   (refine FinK.mk ⟨_, Gh.refl _, ?_⟩; cbv; exact .inl (CutK.pre [] (by rfl) (by exact Nat.le_of_ble_eq_true rfl) (by rfl) (by rfl) (by repeat' (first | exact LeL.nil | exact LeL0.nil | exact LeH.nil | exact LeE.refl _ | exact Le.refl _ | exact Le0.one (.refl _) | exact Le0.one (.nil _) | exact Le1.refl _ | exact Le1.nil _ | refine LeH.cons ?_ ?_ | refine LeE.row ?_ | refine LeE.blk ?_ | refine LeL0.cons ?_ ?_ | refine LeL.cons ?_ ?_ | refine Le0.agg ?_ | refine Le.tup ?_ | exact Le.one (.one (.nil _)) | refine Le.one (.agg ?_))) (LeH.refl _) hK))
  | some L =>
   have e2 : frA (fromR l) = .tup [LtA L, .i 0] := by rw [hfr]; rfl
   rw [hfr] at hK
   obtain ⟨frm, to, number, kind, ack, deal, text, party, index, day, cur, amt, docs, boxes⟩ := L
   refine callG_spec0 hF l (hfp l a rfl) rfl (by rw [e2]; rfl) rfl ?_
   rw [e2]
   cbv
   (refine FinK.mk ⟨_, Gh.refl _, ?_⟩; cbv; exact .inl (CutK.pre [] (by rfl) (by exact Nat.le_of_ble_eq_true rfl) (by rfl) (by rfl) (by repeat' (first | exact LeL.nil | exact LeL0.nil | exact LeH.nil | exact LeE.refl _ | exact Le.refl _ | exact Le0.one (.refl _) | exact Le0.one (.nil _) | exact Le1.refl _ | exact Le1.nil _ | refine LeH.cons ?_ ?_ | refine LeE.row ?_ | refine LeE.blk ?_ | refine LeL0.cons ?_ ?_ | refine LeL.cons ?_ ?_ | refine Le0.agg ?_ | refine Le.tup ?_ | exact Le.one (.one (.nil _)) | refine Le.one (.agg ?_))) (LeH.refl _) hK))
 ·rw [if_neg (by assumption)] at hK
  (refine FinK.mk ⟨_, Gh.refl _, ?_⟩; cbv; exact .inl (CutK.pre [] (by rfl) (by exact Nat.le_of_ble_eq_true rfl) (by rfl) (by rfl) (by repeat' (first | exact LeL.nil | exact LeL0.nil | exact LeH.nil | exact LeE.refl _ | exact Le.refl _ | exact Le0.one (.refl _) | exact Le0.one (.nil _) | exact Le1.refl _ | exact Le1.nil _ | refine LeH.cons ?_ ?_ | refine LeE.row ?_ | refine LeE.blk ?_ | refine LeL0.cons ?_ ?_ | refine LeL.cons ?_ ?_ | refine Le0.agg ?_ | refine Le.tup ?_ | exact Le.one (.one (.nil _)) | refine Le.one (.agg ?_))) (LeH.refl _) hK))
end Go.Proofs.YtblkcnmecfppnaaGreatDoor
/-
 The laws Texts, Parses and From.
-/
namespace Go.Proofs.YtblkcnmecfppnaaGreatDoor
open Go.RowKit
set_option maxHeartbeats 8000000
set_option maxRecDepth 100000
theorem fieldsL_small (l : Lt) : (fieldsL itoS monS l).length ≤ 60 := by
 unfold fieldsL
 split
 ·rename_i h
  have := mayB_facts h
  simp [recB]
  omega
 ·simp
theorem fieldsL_names : ∀ l, ∀ f ∈ fieldsL itoS monS l, f.name.size ≤ maxLen := fun l f hf => by
 cases hm : mayB l with
 | false => unfold fieldsL at hf; rw [hm] at hf; cases hf
 | true =>
  rw [fieldsL_rec hm] at hf
  have := (mayF_bd (recA_may hm f hf)).1
  unfold maxLen; omega
/-- A letter's text, read. -/
theorem text_read {l : Lt} (h : mayB l = true) : ppR (textS (fieldsL itoS monS l)) = (l, 0, 0) := by
 obtain ⟨a, ha⟩ := (parseS_iff (textS (fieldsL itoS monS l)) (fieldsL itoS monS l)).2 ⟨text0 h, rfl⟩
 unfold ppR
 rw [ha, if_pos rfl]
 dsimp only
 rw [fromR_fields h]
noncomputable def TextsC : Ctr := spec (fun l : Lt => [LtA l]) (fun _ => []) SmallL (fun _ => .bl true) fun _ => []
theorem texts_law (P : Program) (hSh : FnOk P 12 ShortC) (hA : FnOk P 6 AwC) (hT : FnOk P 13 (TextLC (fieldsL itoS monS))) (hm : FnOk P 14 (LtP mayB)) (hF : FnOk P 16 (FieldsC (fieldsL itoS monS))) (hRT : FnOk P 15 TextC) (hP : FnOk P 17 PpC) (hE : FnOk P 9 EqLtC) : BodyOk P x4 TextsC := by
 intro args H K hc
 obtain ⟨l, rfl, rfl, hp, hK⟩ := hc
 refine ⟨Nat.le_of_ble_eq_true rfl, ?_⟩
 dsimp only at hK ⊢
 obtain ⟨b, hb⟩ : ∃ b, b = mayB l := ⟨_, rfl⟩
 obtain ⟨T, hT1⟩ : ∃ t, t = textS (fieldsL itoS monS l) := ⟨_, rfl⟩
 obtain ⟨C, hC⟩ : ∃ t, t = textC (fieldsL itoS monS l) := ⟨_, rfl⟩
 obtain ⟨F, hF1⟩ : ∃ t, t = fieldsL itoS monS l := ⟨_, rfl⟩
 have hFn := fieldsL_names l
 have hrd : b = true → ppR T = (l, 0, 0) := fun h => by rw [hT1]; exact text_read (hb.symm.trans h)
 have hC0 : b = true → C = 0 := fun h => by rw [hC]; exact text0 (hb.symm.trans h)
 have hTl : b = true → T.length ≤ 9223372036854775807 := fun h => by
  rw [hT1]
  have h0 := text0 (hb.symm.trans h)
  unfold textS
  rw [if_pos h0]
  have h1 := fieldsL_small l
  have h2 := textL_len (fieldsL itoS monS l) (fun f hf => recA_may (hb.symm.trans h) f (by rw [← fieldsL_rec (hb.symm.trans h)]; exact hf))
  omega
 have hEl : eqB l l = true := eqB_true rfl
 have hLE := LtE.of hp
 have hTC := congrArg textC hF1
 have hTS := congrArg textS hF1
 rw [← hC] at hTC
 rw [← hT1] at hTS
 rw [← hF1] at hFn
 obtain ⟨frm, to, number, kind, ack, deal, text, party, index, day, cur, amt, docs, boxes⟩ := l
 cbv
 refine callG_boolC hSh ⟨frm, to, number, kind, ack, deal, text, party, index, day, cur, amt, docs, boxes⟩ hp rfl rfl (fun _ => ?_) ?_
 ·cbv
  refine callG_spec0 hT ⟨frm, to, number, kind, ack, deal, text, party, index, day, cur, amt, docs, boxes⟩ hp rfl rfl rfl ?_
  rw [← hb, ← hT1, ← hC]
  cases b with
  | false =>
   simp only [Bool.false_eq_true, if_false]
   cbv
   refine callG_spec0 hm ⟨frm, to, number, kind, ack, deal, text, party, index, day, cur, amt, docs, boxes⟩ hp rfl rfl rfl ?_
   rw [← hb]
   cbv; repeat' ((first | refine .y fun h => ?_ | refine .mk (fun h => ?_) fun h => ?_ | fail) <;> cbv)
   all_goals try exact absurd rfl (by assumption)
   refine callG_spec0 hA () trivial rfl rfl rfl ?_
   cbv
   exact FinK.mk ⟨_, Gh.refl _, .inl (CutK.val rfl (Le.refl _) hK)⟩
  | true =>
   obtain rfl := hC0 rfl
   simp only [if_true]
   cbv
   refine callG_spec0 hm ⟨frm, to, number, kind, ack, deal, text, party, index, day, cur, amt, docs, boxes⟩ hp rfl rfl rfl ?_
   rw [← hb]
   cbv
   refine callG_spec0 hF ⟨frm, to, number, kind, ack, deal, text, party, index, day, cur, amt, docs, boxes⟩ hp rfl rfl rfl ?_
   rw [← hF1]
   cbv
   refine callG_spec0 hRT F hFn rfl rfl rfl ?_
   rw [hTS, hTC]
   cbv
   refine callG_spec0 hP ⟨T.toArray⟩ (by unfold shortS maxLen; have := hTl rfl; simpa [ByteArray.size] using this) rfl (by show (AV.tup [LtA (ppR T).1, .i (ppR T).2.1, .i (ppR T).2.2]).bnd 0 = true; rw [hrd rfl]; rfl) rfl ?_
   show _
   rw [show (⟨T.toArray⟩ : ByteArray).data.toList = T from rfl, hrd rfl]
   cbv; repeat' ((first | refine .y fun h => ?_ | refine .mk (fun h => ?_) fun h => ?_ | fail) <;> cbv)
   all_goals try exact absurd rfl (by assumption)
   refine callG_spec0 hE (⟨frm, to, number, kind, ack, deal, text, party, index, day, cur, amt, docs, boxes⟩, ⟨frm, to, number, kind, ack, deal, text, party, index, day, cur, amt, docs, boxes⟩) ⟨hLE, hLE⟩ rfl rfl rfl ?_
   dsimp only
   rw [hEl]
   cbv; repeat' ((first | refine .y fun h => ?_ | fail) <;> cbv)
   all_goals try exact absurd rfl (by assumption)
   refine callG_spec0 hA () trivial rfl rfl rfl ?_
   cbv
   exact FinK.mk ⟨_, Gh.refl _, .inl (CutK.val rfl (Le.refl _) hK)⟩
 ·cbv
  refine callG_spec0 hA () trivial rfl rfl rfl ?_
  cbv
  exact FinK.mk ⟨_, Gh.refl _, .inl (CutK.val rfl (Le.refl _) hK)⟩
theorem text_of {f : List Fd} {L : Lt} (h : fromR f = some L) : mayB L = true ∧ textS (fieldsL itoS monS L) = textS f ∧ textC (fieldsL itoS monS L) = 0 := by
 obtain ⟨h1, h2⟩ := fromR_some h
 exact ⟨h1, by rw [h2], text0 h1⟩
def ParsesC : Ctr := spec (fun s : ByteArray => [.str s]) (fun _ => []) shortS (fun _ => .bl true) fun _ => []
theorem parses_law (P : Program) (hA : FnOk P 6 AwC) (hP : FnOk P 17 PpC) (hRP : FnOk P 18 ParseC) (hF : FnOk P 8 RFromC) (hT : FnOk P 13 (TextLC (fieldsL itoS monS))) (hE : FnOk P 9 EqLtC) : BodyOk P x5 ParsesC := by
 intro args H K hc
 obtain ⟨s, rfl, rfl, hp, hK⟩ := hc
 refine ⟨Nat.le_of_ble_eq_true rfl, ?_⟩
 dsimp only at hK ⊢
 have hz : eqB zL zL = true := eqB_true rfl
 obtain ⟨Z, hZ⟩ : ∃ r, parseS s.data.toList = r := ⟨_, rfl⟩
 obtain ⟨fs, a, e⟩ := Z
 cbv; repeat' ((first | refine .mk (fun h => ?_) fun h => ?_ | refine .k fun z hz => ?_ | fail) <;> cbv)
 ·refine callG_spec0 hA () trivial rfl rfl rfl ?_
  cbv
  exact FinK.mk ⟨_, Gh.refl _, .inl (CutK.val rfl (Le.refl _) hK)⟩
 have hPA : ParA (parseS s.data.toList) = .tup [.sl 2 (mapA FdA fs), .i a, .i e] := by rw [hZ]; rfl
 by_cases he : e = 0
 ·subst he
  have hfp := fromP_of hZ
  cases hfr : fromR fs with
  | none =>
   have hpp : ppR s.data.toList = (zL, 0, 2) := by unfold ppR; rw [hZ, if_pos rfl]; dsimp only; rw [hfr]
   have hB : frB (fromR fs) = .tup [LtA zL, .bl false] := by rw [hfr]; rfl
   refine callG_spec0 hP s hp rfl (by rw [hpp]; rfl) rfl ?_
   rw [hpp]
   cbv
   refine callG_spec0 hRP s hp rfl (by rw [hPA]; rfl) rfl ?_
   rw [hPA]
   cbv; repeat' ((first | refine .y fun h => ?_ | fail) <;> cbv)
   refine callG_spec0 hF fs hfp rfl (by rw [hB]; rfl) rfl ?_
   rw [hB]
   cbv
   refine callG_le [.agg [.str ⟨#[]⟩, .str ⟨#[]⟩, .i 0, .i 0, .i 0, .str ⟨#[]⟩, .str ⟨#[]⟩, .str ⟨#[]⟩, .i 0, .i 0, .str ⟨#[]⟩, .i 0, .sl 4 [], .sl 1 []], .agg [.str ⟨#[]⟩, .str ⟨#[]⟩, .i 0, .i 0, .i 0, .str ⟨#[]⟩, .str ⟨#[]⟩, .str ⟨#[]⟩, .i 0, .i 0, .str ⟨#[]⟩, .i 0, .sl 4 [], .sl 1 []]] (by repeat' (first | exact LeL.nil | exact LeL0.nil | exact LeH.nil | exact LeE.refl _ | exact Le.refl _ | exact Le0.one (.refl _) | exact Le0.one (.nil _) | exact Le1.refl _ | exact Le1.nil _ | refine LeH.cons ?_ ?_ | refine LeE.row ?_ | refine LeE.blk ?_ | refine LeL0.cons ?_ ?_ | refine LeL.cons ?_ ?_ | refine Le0.agg ?_ | refine Le.tup ?_ | exact Le.one (.one (.nil _)) | refine Le.one (.agg ?_))) ?_
   refine callG_spec0 hE (zL, zL) ⟨zL_E, zL_E⟩ rfl rfl rfl ?_
   dsimp only
   rw [hz]
   cbv; repeat' ((first | refine .y fun h => ?_ | fail) <;> cbv)
   refine callG_spec0 hA () trivial rfl rfl rfl ?_
   cbv
   exact FinK.mk ⟨_, Gh.refl _, .inl (CutK.val rfl (Le.refl _) hK)⟩
  | some L =>
   have hpp : ppR s.data.toList = (L, 0, 0) := by unfold ppR; rw [hZ, if_pos rfl]; dsimp only; rw [hfr]
   have hB : frB (fromR fs) = .tup [LtA L, .bl true] := by rw [hfr]; rfl
   obtain ⟨t1, t2, t3⟩ := text_of hfr
   have t4 := ((parseS_iff s.data.toList fs).1 ⟨a, hZ⟩).2
   have hsm := small_of hfp hfr
   have hLE := LtE.of hsm
   have hLL : eqB L L = true := eqB_true rfl
   have hts : (⟨(textS (fieldsL itoS monS L)).toArray⟩ : ByteArray) = s := by
    rw [t2, t4]
   obtain ⟨frm, to, number, kind, ack, deal, text, party, index, day, cur, amt, docs, boxes⟩ := L
   refine callG_spec0 hP s hp rfl (by rw [hpp]; rfl) rfl ?_
   rw [hpp]
   cbv
   refine callG_spec0 hRP s hp rfl (by rw [hPA]; rfl) rfl ?_
   rw [hPA]
   cbv; repeat' ((first | refine .y fun h => ?_ | fail) <;> cbv)
   refine callG_spec0 hF fs hfp rfl (by rw [hB]; rfl) rfl ?_
   rw [hB]
   cbv
   refine callG_spec0 hT ⟨frm, to, number, kind, ack, deal, text, party, index, day, cur, amt, docs, boxes⟩ hsm rfl rfl rfl ?_
   rw [t1, t3]
   simp only [if_true]
   rw [hts]
   cbv
   refine callG_spec0 hE (⟨frm, to, number, kind, ack, deal, text, party, index, day, cur, amt, docs, boxes⟩, ⟨frm, to, number, kind, ack, deal, text, party, index, day, cur, amt, docs, boxes⟩) ⟨hLE, hLE⟩ rfl rfl rfl ?_
   dsimp only
   rw [hLL]
   cbv; repeat' ((first | refine .y fun h => ?_ | refine .mk (fun h => ?_) fun h => ?_ | fail) <;> cbv)
   all_goals try exact absurd rfl (by assumption)
   refine callG_spec0 hA () trivial rfl rfl rfl ?_
   cbv
   exact FinK.mk ⟨_, Gh.refl _, .inl (CutK.val rfl (Le.refl _) hK)⟩
 ·have hpp : ppR s.data.toList = (zL, a, e) := by unfold ppR; rw [hZ, if_neg he]
  refine callG_spec0 hP s hp rfl (by rw [hpp]; rfl) rfl ?_
  rw [hpp]
  cbv
  refine callG_spec0 hRP s hp rfl (by rw [hPA]; rfl) rfl ?_
  rw [hPA]
  cbv; repeat' ((first | refine .n fun h => ?_ | fail) <;> cbv)
  refine callG_le [.agg [.str ⟨#[]⟩, .str ⟨#[]⟩, .i 0, .i 0, .i 0, .str ⟨#[]⟩, .str ⟨#[]⟩, .str ⟨#[]⟩, .i 0, .i 0, .str ⟨#[]⟩, .i 0, .sl 4 [], .sl 1 []], .agg [.str ⟨#[]⟩, .str ⟨#[]⟩, .i 0, .i 0, .i 0, .str ⟨#[]⟩, .str ⟨#[]⟩, .str ⟨#[]⟩, .i 0, .i 0, .str ⟨#[]⟩, .i 0, .sl 4 [], .sl 1 []]] (by repeat' (first | exact LeL.nil | exact LeL0.nil | exact LeH.nil | exact LeE.refl _ | exact Le.refl _ | exact Le0.one (.refl _) | exact Le0.one (.nil _) | exact Le1.refl _ | exact Le1.nil _ | refine LeH.cons ?_ ?_ | refine LeE.row ?_ | refine LeE.blk ?_ | refine LeL0.cons ?_ ?_ | refine LeL.cons ?_ ?_ | refine Le0.agg ?_ | refine Le.tup ?_ | exact Le.one (.one (.nil _)) | refine Le.one (.agg ?_))) ?_
  refine callG_spec0 hE (zL, zL) ⟨zL_E, zL_E⟩ rfl rfl rfl ?_
  dsimp only
  rw [hz]
  cbv; repeat' ((first | refine .y fun h => ?_ | fail) <;> cbv)
  refine callG_spec0 hA () trivial rfl rfl rfl ?_
  cbv
  exact FinK.mk ⟨_, Gh.refl _, .inl (CutK.val rfl (Le.refl _) hK)⟩
structure FromQ (f : List Fd) : Prop where
 p : FromP f
 name : ∀ x ∈ f, longS x.name
noncomputable def FromLC : Ctr := spec (fun f : List Fd => [.sl 2 (mapA FdA f)]) (fun _ => []) FromQ (fun _ => .bl true) fun _ => []
theorem from_law (P : Program) (hA : FnOk P 6 AwC) (hF : FnOk P 7 FromRC) (hRF : FnOk P 8 RFromC) (hFs : FnOk P 11 (FieldsC (fieldsL itoS monS))) (hE : FnOk P 9 EqLtC) (hS : FnOk P 10 (EqLC 2 FdA)) : BodyOk P x3 FromLC := by
 intro args H K hc
 obtain ⟨f, rfl, rfl, ⟨hp, hnm⟩, hK⟩ := hc
 refine ⟨Nat.le_of_ble_eq_true rfl, ?_⟩
 dsimp only at hK ⊢
 have hz : eqB zL zL = true := eqB_true rfl
 have hfl := mapA_len FdA f
 have hpl := hp.len
 obtain ⟨fl, hfn⟩ : ∃ n, n = f.length := ⟨_, rfl⟩
 cbv; repeat' ((first | refine .k fun z hz => ?_ | fail) <;> cbv)
 obtain rfl : z = nI fl := by ((try simp only [vn] at *) <;> omega)
 refine xloopV [] (fun q : { q : Nat × Int // q.1 ≤ fl ∧ 0 ≤ q.2 ∧ q.2 ≤ 9000 } => [(12, .i (nI q.1.1)), (3, .i q.1.2)]) (fun _ => []) (fun q => lft fl q.1.1) ⟨(0, 0), Nat.zero_le _, by decide, by decide⟩ ?_
 rintro ⟨⟨k, v⟩, hk, hv0, hv1⟩
 dsimp only at hk hv0 hv1 ⊢
 by_cases hkf : k < fl
 ·obtain ⟨⟨xn, xv⟩, hx⟩ : ∃ x, f[k]? = some x := some_at (by omega)
  have hxv : xv.size ≤ 281474976710656 := hp.each _ (List.mem_of_getElem? hx)
  have hxn : xn.size ≤ 281474976710656 := hnm _ (List.mem_of_getElem? hx)
  cbv; repeat' ((first | refine .e ?_ | refine .y fun h => ?_ | refine .mk (fun h => ?_) fun h => ?_ | refine .k fun z hz => ?_ | fail) <;> cbv)
  ·refine callG_spec0 hA () trivial rfl rfl rfl ?_
   cbv
   exact FinK.mk ⟨_, Gh.refl _, .inl (CutK.val rfl (Le.refl _) hK)⟩
  ·obtain rfl : z = nI (k + 1) := by ((try simp only [vn] at *) <;> omega)
   exact roundV ⟨(k + 1, z), by ((try simp only [vn] at *) <;> omega), by dsimp only; ((try simp only [vn] at *) <;> omega), by dsimp only; ((try simp only [vn] at *) <;> omega)⟩ (lft_lt (by omega))
 ·obtain rfl : k = fl := by omega
  cbv; repeat' ((first | refine .n fun h => ?_ | refine .mk (fun h => ?_) fun h => ?_ | refine .k fun z hz => ?_ | fail) <;> cbv)
  ·refine callG_spec0 hA () trivial rfl rfl rfl ?_
   cbv
   exact FinK.mk ⟨_, Gh.refl _, .inl (CutK.val rfl (Le.refl _) hK)⟩
  cases hfr : fromR f with
  | none =>
   have hAA : frA (fromR f) = .tup [LtA zL, .i 2] := by rw [hfr]; rfl
   have hB : frB (fromR f) = .tup [LtA zL, .bl false] := by rw [hfr]; rfl
   refine callG_spec0 hF f hp rfl (by rw [hAA]; rfl) rfl ?_
   rw [hAA]
   cbv
   refine callG_spec0 hRF f hp rfl (by rw [hB]; rfl) rfl ?_
   rw [hB]
   cbv
   refine callG_le [.agg [.str ⟨#[]⟩, .str ⟨#[]⟩, .i 0, .i 0, .i 0, .str ⟨#[]⟩, .str ⟨#[]⟩, .str ⟨#[]⟩, .i 0, .i 0, .str ⟨#[]⟩, .i 0, .sl 4 [], .sl 1 []], .agg [.str ⟨#[]⟩, .str ⟨#[]⟩, .i 0, .i 0, .i 0, .str ⟨#[]⟩, .str ⟨#[]⟩, .str ⟨#[]⟩, .i 0, .i 0, .str ⟨#[]⟩, .i 0, .sl 4 [], .sl 1 []]] (by repeat' (first | exact LeL.nil | exact LeL0.nil | exact LeH.nil | exact LeE.refl _ | exact Le.refl _ | exact Le0.one (.refl _) | exact Le0.one (.nil _) | exact Le1.refl _ | exact Le1.nil _ | refine LeH.cons ?_ ?_ | refine LeE.row ?_ | refine LeE.blk ?_ | refine LeL0.cons ?_ ?_ | refine LeL.cons ?_ ?_ | refine Le0.agg ?_ | refine Le.tup ?_ | exact Le.one (.one (.nil _)) | refine Le.one (.agg ?_))) ?_
   refine callG_spec0 hE (zL, zL) ⟨zL_E, zL_E⟩ rfl rfl rfl ?_
   dsimp only
   rw [hz]
   cbv; repeat' ((first | refine .y fun h => ?_ | fail) <;> cbv)
   refine callG_spec0 hA () trivial rfl rfl rfl ?_
   cbv
   exact FinK.mk ⟨_, Gh.refl _, .inl (CutK.val rfl (Le.refl _) hK)⟩
  | some L =>
   have hAA : frA (fromR f) = .tup [LtA L, .i 0] := by rw [hfr]; rfl
   have hB : frB (fromR f) = .tup [LtA L, .bl true] := by rw [hfr]; rfl
   have t2 := (fromR_some hfr).2
   have hsm := small_of hp hfr
   have hLE := LtE.of hsm
   have hLL : eqB L L = true := eqB_true rfl
   have hff : eqB f f = true := eqB_true rfl
   obtain ⟨frm, to, number, kind, ack, deal, text, party, index, day, cur, amt, docs, boxes⟩ := L
   refine callG_spec0 hF f hp rfl (by rw [hAA]; rfl) rfl ?_
   rw [hAA]
   cbv
   refine callG_spec0 hRF f hp rfl (by rw [hB]; rfl) rfl ?_
   rw [hB]
   cbv
   refine callG_spec0 hE (⟨frm, to, number, kind, ack, deal, text, party, index, day, cur, amt, docs, boxes⟩, ⟨frm, to, number, kind, ack, deal, text, party, index, day, cur, amt, docs, boxes⟩) ⟨hLE, hLE⟩ rfl rfl rfl ?_
   dsimp only
   rw [hLL]
   cbv; repeat' ((first | refine .y fun h => ?_ | fail) <;> cbv)
   refine callG_spec0 hFs ⟨frm, to, number, kind, ack, deal, text, party, index, day, cur, amt, docs, boxes⟩ hsm rfl rfl rfl ?_
   rw [t2]
   cbv
   refine callG_spec0 hS (f, f) ⟨hpl, hpl⟩ rfl rfl rfl ?_
   dsimp only
   rw [hff]
   cbv
   refine callG_spec0 hA () trivial rfl rfl rfl ?_
   cbv
   exact FinK.mk ⟨_, Gh.refl _, .inl (CutK.val rfl (Le.refl _) hK)⟩
end Go.Proofs.YtblkcnmecfppnaaGreatDoor
/-
 Functions of the chapter, by their contracts, at the program itself (printed by gen_join.py).
-/
namespace Go.Proofs.YtblkcnmecfppnaaGreatDoor
open Go.RowKit
set_option maxRecDepth 100000
theorem k_isName : FnOk Tryz.prog 55 (StrC shortS nameB) := body_ok (by kernel_rfl) (isName_body _ k_text)
theorem k_isNameOrNone : FnOk Tryz.prog 57 (StrC shortS fun s => decide (s.size = 0) || nameB s) := body_ok (by kernel_rfl) (isNameOrNone_body _ k_isName)
theorem k_isFrom : FnOk Tryz.prog 56 FromC := body_ok (by kernel_rfl) (isFrom_body _)
theorem k_name : FnOk Tryz.prog 20 NameC := body_ok (by kernel_rfl) (name_body _)
theorem k_kind : FnOk Tryz.prog 19 KindC := body_ok (by kernel_rfl) (kind_body _)
theorem k_doc : FnOk Tryz.prog 31 DocC := body_ok (by kernel_rfl) (doc_body _ k_text)
theorem k_isDoc : FnOk Tryz.prog 61 (DocP isDocB) := body_ok (by kernel_rfl) (isDoc_body _ k_doc)
theorem k_may1 : FnOk Tryz.prog 60 (DocP fun d => !isDocB d) := body_ok (by kernel_rfl) (may1_body _ k_isDoc)
theorem k_may2 : FnOk Tryz.prog 63 (StrC shortS fun s => !nameB s) := body_ok (by kernel_rfl) (may2_body _ k_isName)
theorem k_isCur : FnOk Tryz.prog 85 (StrC (fun _ => True) curB) := body_ok (by kernel_rfl) (isCur_body _)
theorem k_money : FnOk Tryz.prog 58 MoneyC := body_ok (by kernel_rfl) (money_body _ k_isCur)
theorem k_bare : FnOk Tryz.prog 64 (LtP bareB) := body_ok (by kernel_rfl) (bare_body _)
theorem k_idxD_1 : FnOk Tryz.prog 86 (IdxDC 60 fun d => !isDocB d) := body_ok (by kernel_rfl) (idxD_body _ 60 (fun d => !isDocB d) ⟨by kernel_rfl⟩ k_may1)
theorem k_conD_2 : FnOk Tryz.prog 59 (ConDC 60 fun d => !isDocB d) := body_ok (by kernel_rfl) (conD_body _ 60 (fun d => !isDocB d) k_idxD_1)
theorem k_idxS_3 : FnOk Tryz.prog 87 (IdxSC 63 fun s => !nameB s) := body_ok (by kernel_rfl) (idxS_body _ 63 (fun s => !nameB s) ⟨by kernel_rfl⟩ k_may2)
theorem k_conS_4 : FnOk Tryz.prog 62 (ConSC 63 fun s => !nameB s) := body_ok (by kernel_rfl) (conS_body _ 63 (fun s => !nameB s) k_idxS_3)
theorem k_may : FnOk Tryz.prog 23 (LtP mayB) := body_ok (by kernel_rfl) (may_body _ k_isName k_isNameOrNone k_name k_isFrom k_money k_conD_2 k_conS_4 k_bare)
theorem k_refF : FnOk Tryz.prog 10 (EqLC 2 FdA) := body_ok (by kernel_rfl) (refF_body _)
theorem k_alike : FnOk Tryz.prog 28 EqDC := body_ok (by kernel_rfl) (alike_body _ k_refF)
theorem k_refL : FnOk Tryz.prog 9 EqLtC := body_ok (by kernel_rfl) (refL_body _ k_alike)
theorem k_between : FnOk Tryz.prog 34 FromC := body_ok (by kernel_rfl) (between_body _)
theorem k_some : FnOk Tryz.prog 35 (StrC shortS noneB) := body_ok (by kernel_rfl) (some_body _ k_refName)
theorem k_none : FnOk Tryz.prog 36 NoneC := body_ok (by kernel_rfl) (none_body _)
theorem k_rcur : FnOk Tryz.prog 76 (StrC (fun _ => True) curB) := body_ok (by kernel_rfl) (rcur_body _)
theorem k_rmoney : FnOk Tryz.prog 37 MoneyC := body_ok (by kernel_rfl) (rmoney_body _ k_rcur)
theorem k_names : FnOk Tryz.prog 25 NamesC := body_ok (by kernel_rfl) (names_body _)
theorem k_record : FnOk Tryz.prog 39 RecC := body_ok (by kernel_rfl) (record_body _ k_refKind)
theorem k_mul64 : FnOk Tryz.prog 104 MulC := body_ok (by kernel_rfl) (mul64_body _)
theorem k_mul : FnOk Tryz.prog 90 MulC := body_ok (by kernel_rfl) (mul_body _ k_mul64)
theorem k_hasIn : FnOk Tryz.prog 105 HasC := body_ok (by kernel_rfl) (hasIn_body _)
theorem k_has : FnOk Tryz.prog 91 HasC := body_ok (by kernel_rfl) (has_body _ k_hasIn)
theorem k_repeat : FnOk Tryz.prog 71 RepC := body_ok (by kernel_rfl) (repeat_body _ k_mul k_has)
theorem k_digits : FnOk Tryz.prog 68 DigC := body_ok (by kernel_rfl) (digits_body _)
theorem k_rdigits : FnOk Tryz.prog 77 DigC := body_ok (by kernel_rfl) (rdigits_body _)
theorem k_size : FnOk Tryz.prog 70 SizeC := body_ok (by kernel_rfl) (size_body _)
theorem k_montext : FnOk Tryz.prog 30 (MonC monS) := body_ok (by kernel_rfl) (montext_body _ k_money k_digits k_size k_fmtUint k_repeat)
theorem k_rwhole : FnOk Tryz.prog 78 WholeC := body_ok (by kernel_rfl) (rwhole_body _)
theorem k_rmontext : FnOk Tryz.prog 41 (MonC monS) := body_ok (by kernel_rfl) (rmontext_body _ k_rmoney k_rdigits k_rwhole)
theorem k_rfmay : FnOk Tryz.prog 40 FldC := body_ok (by kernel_rfl) (rfmay_body _ k_refName)
theorem k_paper : FnOk Tryz.prog 38 (DocP paperB) := body_ok (by kernel_rfl) (paper_body _ k_rfmay k_refKind)
theorem k_short : FnOk Tryz.prog 12 ShortC := body_ok (by kernel_rfl) (short_body _)
theorem k_number : FnOk Tryz.prog 42 NumFC := body_ok (by kernel_rfl) (number_body _ (k_rdig (by kernel_rfl)))
theorem k_rmay : FnOk Tryz.prog 14 (LtP mayB) := body_ok (by kernel_rfl) (rmay_body _ k_refName k_between k_some k_none k_rmoney k_paper k_refText k_record)
theorem k_rfields : FnOk Tryz.prog 16 (FieldsC (fieldsL itoS monS)) := body_ok (by kernel_rfl) (rfields_body _ k_rmay k_none k_rmontext k_number k_names k_record k_refText)
theorem k_fields_5 : FnOk Tryz.prog 11 (FieldsC (fieldsL itoS monS)) := body_ok (by kernel_rfl) (fields_body _ itoS monS k_may k_name k_itoa k_montext k_doc)
theorem k_text_6 : FnOk Tryz.prog 13 (TextLC (fieldsL itoS monS)) := body_ok (by kernel_rfl) (text_body _ (fieldsL itoS monS) fieldsL_names k_may k_fields_5 k_text)
theorem k_awake : FnOk Tryz.prog 6 AwC := body_ok (by kernel_rfl) (awake_body _ k_text_6 k_kind k_name)
theorem k_cut : FnOk Tryz.prog 96 (CutC 61) := body_ok (by kernel_rfl) (cut_body _ k_idx61)
theorem k_cutS : FnOk Tryz.prog 81 (CutC 61) := body_ok (by kernel_rfl) (cutS_body _ k_cut)
theorem k_parse : FnOk Tryz.prog 43 ParseC := body_ok (by kernel_rfl) (parse_body _ k_idx10 k_cutS k_fisName)
theorem k_line : FnOk Tryz.prog 44 LinC := body_ok (by kernel_rfl) (line_body _ k_refName)
theorem k_rparse : FnOk Tryz.prog 18 ParseC := body_ok (by kernel_rfl) (rparse_body _ k_line)
theorem k_fkind : FnOk Tryz.prog 53 KindDC := body_ok (by kernel_rfl) (fkind_body _)
theorem k_cloneF : FnOk Tryz.prog 54 CloneFC := body_ok (by kernel_rfl) (cloneF_body _)
theorem k_read : FnOk Tryz.prog 22 ReadC := body_ok (by kernel_rfl) (read_body _ k_parse k_fkind k_cloneF)
theorem k_rread : FnOk Tryz.prog 27 ReadC := body_ok (by kernel_rfl) (rread_body _ k_rparse k_refKind)
theorem k_mparse : FnOk Tryz.prog 52 MpC := body_ok (by kernel_rfl) (mparse_body _ k_montext)
theorem k_rmparse : FnOk Tryz.prog 26 RmpC := body_ok (by kernel_rfl) (rmparse_body _ k_rmontext)
theorem k_rnum : FnOk Tryz.prog 65 (NumC shortS) := body_ok (by kernel_rfl) (rnum_body _ (k_rdig (by kernel_rfl)))
theorem k_stepT : FnOk Tryz.prog 45 (MkC 46 84) := body_ok (by kernel_rfl) (stepT_body _)
theorem k_stepN : FnOk Tryz.prog 47 (MkC 48 86) := body_ok (by kernel_rfl) (stepN_body _)
theorem k_putT : FnOk Tryz.prog 46 PutTC := body_ok (by kernel_rfl) (putT_body _)
theorem k_putN : FnOk Tryz.prog 48 PutNC := body_ok (by kernel_rfl) (putN_body _ k_fnumber)
theorem k_putK : FnOk Tryz.prog 50 PutKC := body_ok (by kernel_rfl) (putK_body _ k_kind)
theorem k_putS : FnOk Tryz.prog 51 PutSC := body_ok (by kernel_rfl) (putS_body _ k_mparse)
theorem k_steps : FnOk Tryz.prog 21 StepsC := body_ok (by kernel_rfl) (steps_body _ ⟨by kernel_rfl⟩ ⟨by kernel_rfl⟩ k_stepT k_stepN)
theorem k_from : FnOk Tryz.prog 7 FromRC := body_okS (by kernel_rfl) (from_body _ k_steps ⟨by kernel_rfl⟩ ⟨by kernel_rfl⟩ ⟨by kernel_rfl⟩ ⟨by kernel_rfl⟩ k_putT k_putN k_putK k_putS k_read k_may)
theorem k_whole : FnOk Tryz.prog 24 WholeFC := body_ok (by kernel_rfl) (whole_body _ k_rnum)
theorem k_rfrom : FnOk Tryz.prog 8 RFromC := body_okS (by kernel_rfl) (rfrom_body _ k_whole k_names k_rmparse k_rread k_rmay k_rfields k_refF)
theorem k_pparse : FnOk Tryz.prog 17 PpC := body_ok (by kernel_rfl) (pparse_body _ k_parse k_from)
end Go.Proofs.YtblkcnmecfppnaaGreatDoor
/-
 Letters, papers, fields and texts as they come in.
-/
namespace Go.Proofs.YtblkcnmecfppnaaGreatDoor
open Go.RowKit
def fieldSh : Sh := .st [.str, .str]
def docSh : Sh := .st [.int .i64, .str, .str, .sl 2 fieldSh]
def letterSh : Sh := .st [.str, .str, .int .i64, .int .i64, .int .i64, .str, .str, .str, .int .i64, .int .i64, .st [.str, .int .i64], .sl 4 docSh, .sl 1 .str]
theorem op_field (cz : List AV) (h : Op reachBytes fieldSh cz) : ∃ x : Fd, elemAV 2 cz = FdA x ∧ (x.name.size ≤ maxLen ∧ longS x.name ∧ longS x.value) := by
 unfold fieldSh Op at h
 (unfold OpL at h; obtain ⟨_, _, rfl, h1, h⟩ := h; unfold Op at h1; obtain ⟨a0, rfl, w0⟩ := h1)
 (unfold OpL at h; obtain ⟨_, _, rfl, h1, h⟩ := h; unfold Op at h1; obtain ⟨a1, rfl, w1⟩ := h1)
 (unfold OpL at h; subst h)
 exact ⟨⟨a0, a1⟩, rfl, w0.1, Nat.le_trans w0.2 (by decide), Nat.le_trans w1.2 (by decide)⟩
theorem op_doc (cz : List AV) (h : Op reachBytes docSh cz) : ∃ x : Dc, elemAV 4 cz = DcA x ∧ NamesS x.fields := by
 unfold docSh Op at h
 (unfold OpL at h; obtain ⟨_, _, rfl, h1, h⟩ := h; unfold Op at h1; obtain ⟨a0, rfl, w0⟩ := h1)
 (unfold OpL at h; obtain ⟨_, _, rfl, h1, h⟩ := h; unfold Op at h1; obtain ⟨a1, rfl, w1⟩ := h1)
 (unfold OpL at h; obtain ⟨_, _, rfl, h1, h⟩ := h; unfold Op at h1; obtain ⟨a2, rfl, w2⟩ := h1)
 unfold OpL at h
 obtain ⟨_, _, rfl, h1, h⟩ := h
 obtain ⟨L, rfl, hl, hL⟩ := op_list op_field h1
 (unfold OpL at h; subst h)
 exact ⟨⟨a0, a1, a2, L⟩, rfl, ⟨hl, fun f hf => (hL f hf).1⟩⟩
theorem op_letter (cz : List AV) (h : Op reachBytes letterSh cz) : ∃ x : Lt, .agg cz = LtA x ∧ SmallL x := by
 unfold letterSh Op at h
 (unfold OpL at h; obtain ⟨_, _, rfl, h1, h⟩ := h; unfold Op at h1; obtain ⟨a0, rfl, w0⟩ := h1)
 (unfold OpL at h; obtain ⟨_, _, rfl, h1, h⟩ := h; unfold Op at h1; obtain ⟨a1, rfl, w1⟩ := h1)
 (unfold OpL at h; obtain ⟨_, _, rfl, h1, h⟩ := h; unfold Op at h1; obtain ⟨a2, rfl, w2⟩ := h1)
 (unfold OpL at h; obtain ⟨_, _, rfl, h1, h⟩ := h; unfold Op at h1; obtain ⟨a3, rfl, w3⟩ := h1)
 (unfold OpL at h; obtain ⟨_, _, rfl, h1, h⟩ := h; unfold Op at h1; obtain ⟨a4, rfl, w4⟩ := h1)
 (unfold OpL at h; obtain ⟨_, _, rfl, h1, h⟩ := h; unfold Op at h1; obtain ⟨a5, rfl, w5⟩ := h1)
 (unfold OpL at h; obtain ⟨_, _, rfl, h1, h⟩ := h; unfold Op at h1; obtain ⟨a6, rfl, w6⟩ := h1)
 (unfold OpL at h; obtain ⟨_, _, rfl, h1, h⟩ := h; unfold Op at h1; obtain ⟨a7, rfl, w7⟩ := h1)
 (unfold OpL at h; obtain ⟨_, _, rfl, h1, h⟩ := h; unfold Op at h1; obtain ⟨a8, rfl, w8⟩ := h1)
 (unfold OpL at h; obtain ⟨_, _, rfl, h1, h⟩ := h; unfold Op at h1; obtain ⟨a9, rfl, w9⟩ := h1)
 unfold OpL at h
 obtain ⟨_, _, rfl, hm, h'⟩ := h
 have h := hm
 unfold Op at h
 (unfold OpL at h; obtain ⟨_, _, rfl, h1, h⟩ := h; unfold Op at h1; obtain ⟨b0, rfl, v0⟩ := h1)
 (unfold OpL at h; obtain ⟨_, _, rfl, h1, h⟩ := h; unfold Op at h1; obtain ⟨b1, rfl, v1⟩ := h1)
 (unfold OpL at h; subst h)
 have h := h'
 unfold OpL at h
 obtain ⟨_, _, rfl, h1, h⟩ := h
 obtain ⟨L, rfl, hl, hL⟩ := op_list op_doc h1
 unfold OpL at h
 obtain ⟨_, _, rfl, h1, h⟩ := h
 obtain ⟨B, rfl, hb, hB⟩ := op_list (f := AV.str) (q := shortS) (fun cz h => by unfold Op at h; obtain ⟨s, rfl, h1, _⟩ := h; exact ⟨s, rfl, h1⟩) h1
 (unfold OpL at h; subst h)
 exact ⟨⟨a0, a1, a2, a3, a4, a5, a6, a7, a8, a9, b0, b1, L, B⟩, rfl, ⟨⟨hl, hL⟩, ⟨hb, hB⟩, w0.1, w1.1, w5.1, w6.1, w7.1⟩⟩
theorem op_fields {cs : List AV} (h : Op reachBytes (.sl 2 fieldSh) cs) : ∃ L : List Fd, cs = [.sl 2 (mapA FdA L)] ∧ FromQ L := by
 obtain ⟨L, h1, h2, h3⟩ := op_list op_field h
 exact ⟨L, h1, ⟨⟨h2, fun x hx => (h3 x hx).2.2⟩, fun x hx => (h3 x hx).2.1⟩⟩
theorem sh_letter : shOf Tryz.prog 9 31 = some letterSh := by kernel_rfl
theorem sh_fields : shOf Tryz.prog 9 22 = some (.sl 2 fieldSh) := by kernel_rfl
end Go.Proofs.YtblkcnmecfppnaaGreatDoor
/-
 The door's package variables: what a row lays is what the seat tells.
-/
namespace Go.Proofs.YtblkcnmecfppnaaGreatDoor
open Go.RowKit Go.Lib

/-- A plain value as a row lists it. -/
def valD {H : Type} : Value → DataW H
 | .int k z => .lit (.int k z)
 | .string s => .lit (.string s.data.toList)
 | _ => .nil
theorem cells_of_arr {H : Type} {enc : TypeId × Value → H} {P : Program} {w : World} {base : Nat} {sp : Nat → Bool} {held : Bool} {fuel : Nat} {t e : TypeId} {n : Nat} {cs vs : List Value} {p : List MemPlace}
  (ht : P.underlying t = some (.array n e)) (he : (∃ k, P.underlying e = some (.int k)) ∨ P.underlying e = some .string) (hce : P.cellsOf e = 1) (hct : P.cellsOf t = n)
  (h : DataW.trod enc P w base sp held fuel t cs = some (.agg (vs.map valD), p)) : cs = vs := by
 cases fuel with
 | zero => simp [DataW.trod] at h
 | succ fuel =>
  simp only [DataW.trod, ht, hce, hct, Nat.mul_one] at h
  split at h
  ·rename_i hl
   obtain ⟨xs, hm, hx⟩ := Option.map_eq_some_iff.1 h
   have hxs : xs.map (·.1) = vs.map valD := by
    have := congrArg Prod.fst hx
    simpa using this
   have hxl : xs.length = n := by simpa using mapM_length hm
   have hzl : vs.length = n := by
    have := congrArg List.length hxs
    simp at this
    omega
   apply List.ext_getElem?
   intro i
   by_cases hi : i < n
   ·obtain ⟨b, hb, hf⟩ := mapM_at hm i i (by simp [hi])
    have hvi : vs[i]? = some vs[i] := List.getElem?_eq_getElem (by omega)
    have h2 : b.1 = valD vs[i] := by
     have e1 : (xs.map (·.1))[i]? = some b.1 := by simp [hb]
     rw [hxs, List.getElem?_map, hvi] at e1
     exact (Option.some.inj e1).symm
    rcases he with ⟨k, he⟩ | he
    ·obtain ⟨z, hc, rfl, _⟩ := DataW.trod_int he hf
     have h1 : cs[i]? = some (.int k z) := by
      have := congrArg (·[0]?) hc
      simpa [List.getElem?_take, List.getElem?_drop] using this
     rw [h1, hvi]
     dsimp only at h2
     cases hv : vs[i] with
     | int k' z' => rw [hv] at h2; simp only [valD, DataW.lit.injEq, Lit.int.injEq] at h2; obtain ⟨rfl, rfl⟩ := h2; rfl
     | string s => rw [hv] at h2; simp [valD] at h2
     | _ => rw [hv] at h2; simp [valD] at h2
    ·obtain ⟨s, hc, hs, _⟩ := DataW.trod_string he hf
     have h1 : cs[i]? = some (.string s) := by
      have := congrArg (·[0]?) hc
      simpa [List.getElem?_take, List.getElem?_drop] using this
     rw [h1, hvi]
     rw [hs] at h2
     dsimp only at h2
     cases hv : vs[i] with
     | int k' z' => rw [hv] at h2; simp [valD] at h2
     | string s' =>
      rw [hv] at h2
      simp only [valD, DataW.lit.injEq, Lit.string.injEq] at h2
      have : s = s' := ByteArray.ext (Array.toList_inj.1 h2)
      rw [this]
     | _ => rw [hv] at h2; simp [valD] at h2
   ·rw [List.getElem?_eq_none (by omega), List.getElem?_eq_none (by omega)]
  ·cases h
/-- The variable that stands first on a row's list holds what the row tells. -/
theorem var_of_head {P : Program} {W : World} {name : String} {vs : List Value} {d : DataW Unit} {rest : List (String × DataW Unit)} {g : Nat} {t e : TypeId} {n : Nat}
  (hg : P.globalNamed name = some g) (hty : (P.globals[g]?).map (·.type) = some t) (ht : P.underlying t = some (.array n e)) (he : (∃ k, P.underlying e = some (.int k)) ∨ P.underlying e = some .string) (hce : P.cellsOf e = 1) (hct : P.cellsOf t = n)
  (hd : d = .agg (vs.map valD)) (h : laidMet P ((name, d) :: rest) W) : ∃ t' f, W.heap[g]? = some (.cells vs.toArray t' f) := by
 obtain ⟨ps, ⟨g', t', cs, fuel, p, q, hg', ht', hvar, hdd, _, _⟩, _⟩ := h
 obtain rfl := Option.some.inj (hg.symm.trans hg')
 obtain rfl := Option.some.inj (hty.symm.trans ht')
 subst hd
 have hcs := cells_of_arr ht he hce hct hdd
 unfold World.var? at hvar
 rw [hg] at hvar
 simp only [Option.bind_some] at hvar
 split at hvar
 ·rename_i c t2 f hb
  refine ⟨t2, f, ?_⟩
  rw [hb]
  have e1 : c = cs := by simpa using hvar
  rw [e1, ← hcs]
 ·cases hvar
theorem globOk_at {w : World} {g : Nat} {vs : List Value} (h : ∃ t f, w.heap[g]? = some (.cells vs.toArray t f)) : ∀ i u, vs[i]? = some u → i < pubW w g ∧ w.cell? ⟨g, i, none⟩ = some u ∧ lenW w g = some vs.length := fun i u hu => by
 obtain ⟨t, f, hb⟩ := h
 have hi : i < vs.length := (List.getElem?_eq_some_iff.1 hu).1
 refine ⟨?_, ?_, ?_⟩
 ·unfold pubW; rw [hb]; simpa using hi
 ·unfold World.cell?; simp [hb, hu]
 ·unfold lenW; rw [hb]; simp
theorem errOk_at {P : Program} {w : World} {name : String} {g : Nat} {t : TypeId} {p : Value} (hg : P.globalNamed name = some g) (h : w.var? P name = some #[.iface t p]) : 0 < pubW w g ∧ w.cell? ⟨g, 0, none⟩ = some (.iface t p) ∧ lenW w g = some 1 := by
 unfold World.var? at h
 rw [hg] at h
 simp only [Option.bind_some] at h
 split at h
 ·rename_i c t2 f hb
  have e1 : c = #[.iface t p] := by simpa using h
  subst e1
  refine ⟨?_, ?_, ?_⟩
  ·unfold pubW; rw [hb]; simp
  ·unfold World.cell?; simp [hb]
  ·unfold lenW; rw [hb]; simp
 ·cases h
end Go.Proofs.YtblkcnmecfppnaaGreatDoor
/-
 What the rows lay is what Glob tells (printed by gen_globof.py).
-/
namespace Go.Proofs.YtblkcnmecfppnaaGreatDoor
open Go Go.Lib
theorem star_err : "*" ++ "errors.errorString" = "*errors.errorString" := by decide
theorem row_err (u : TypeId) (h : Tryz.prog.typeName? 3 u = some "*errors.errorString") : u = 161 :=
 typeName_ptr_named (nm := "errors.errorString") (by rw [star_err]; kernel_rfl) (by kernel_rfl) (by decide) u (by rw [star_err]; exact h)
theorem cells_err : Tryz.prog.cellsOf 163 = 1 := by kernel_rfl
theorem cells_str : Tryz.prog.cellsOf 9 = 1 := by kernel_rfl
theorem laid_tail {P : Program} {W : World} {x : String × DataW Unit} {rest : List (String × DataW Unit)} (h : laidMet P (x :: rest) W) : laidMet P rest W := by
 obtain ⟨ps, ⟨g, t, cs, fuel, p, q, _, _, _, _, hr, rfl⟩, hnd, hc⟩ := h
 exact ⟨q, hr, (List.nodup_append.1 hnd).2.1, fun b off hm => hc b off (List.mem_append_right _ hm)⟩
theorem glob_of {W : World} (h : laidMetH Tryz.prog [("math/bits.deBruijn32tab", Rows.laid_math_bits_deBruijn32tab), ("math/bits.deBruijn64tab", Rows.laid_math_bits_deBruijn64tab), ("internal/strconv.uint64pow10", Rows.laid_internal_strconv_uint64pow10), ("strconv.ErrRange", Rows.laid_strconv_ErrRange), ("strconv.ErrSyntax", Rows.laid_strconv_ErrSyntax), ("supercargo/field.kinds", Rows.laid_supercargo_field_kinds), ("supercargo/post.kinds", Rows.laid_supercargo_post_kinds)] W) : GlobOk (pubW W) W := by
 rw [MakeChecks.laidMetH_plain _ _ _ (by kernel_rfl)] at h
 have h0 := var_of_head (vs := glob 6) (g := 6) (t := 164) (e := 5) (n := 32) (by kernel_rfl) (by kernel_rfl) (by kernel_rfl) (.inl ⟨.u8, by kernel_rfl⟩) (by kernel_rfl) (by kernel_rfl) (by rfl) h
 replace h := laid_tail h
 have h1 := var_of_head (vs := glob 7) (g := 7) (t := 165) (e := 5) (n := 64) (by kernel_rfl) (by kernel_rfl) (by kernel_rfl) (.inl ⟨.u8, by kernel_rfl⟩) (by kernel_rfl) (by kernel_rfl) (by rfl) h
 replace h := laid_tail h
 have h2 := var_of_head (vs := glob 2) (g := 2) (t := 149) (e := 97) (n := 20) (by kernel_rfl) (by kernel_rfl) (by kernel_rfl) (.inl ⟨.u64, by kernel_rfl⟩) (by kernel_rfl) (by kernel_rfl) (by rfl) h
 replace h := laid_tail h
 obtain ⟨a3, s3, v3, _⟩ := laid_sentinel h (show Tryz.prog.globalNamed "strconv.ErrRange" = some 5 by kernel_rfl) (show (Tryz.prog.globals[5]?).map (·.type) = some 106 by kernel_rfl) Tryz.underlying106 row_err Tryz.underlying161 Tryz.underlying163 rfl rfl Tryz.underlying9 cells_err cells_str
 have h3 := errOk_at (show Tryz.prog.globalNamed "strconv.ErrRange" = some 5 by kernel_rfl) v3
 replace h := laid_tail h
 obtain ⟨a4, s4, v4, _⟩ := laid_sentinel h (show Tryz.prog.globalNamed "strconv.ErrSyntax" = some 4 by kernel_rfl) (show (Tryz.prog.globals[4]?).map (·.type) = some 106 by kernel_rfl) Tryz.underlying106 row_err Tryz.underlying161 Tryz.underlying163 rfl rfl Tryz.underlying9 cells_err cells_str
 have h4 := errOk_at (show Tryz.prog.globalNamed "strconv.ErrSyntax" = some 4 by kernel_rfl) v4
 replace h := laid_tail h
 have h5 := var_of_head (vs := glob 1) (g := 1) (t := 100) (e := 9) (n := 6) (by kernel_rfl) (by kernel_rfl) (by kernel_rfl) (.inr (by kernel_rfl)) (by kernel_rfl) (by kernel_rfl) (by rfl) h
 replace h := laid_tail h
 have h6 := var_of_head (vs := glob 0) (g := 0) (t := 83) (e := 9) (n := 29) (by kernel_rfl) (by kernel_rfl) (by kernel_rfl) (.inr (by kernel_rfl)) (by kernel_rfl) (by kernel_rfl) (by rfl) h
 refine ⟨fun g i u hu => ?_, fun g hg => ?_⟩
 ·by_cases e0 : g = 6
  ·subst e0; exact globOk_at h0 i u hu
  by_cases e1 : g = 7
  ·subst e1; exact globOk_at h1 i u hu
  by_cases e2 : g = 2
  ·subst e2; exact globOk_at h2 i u hu
  by_cases e5 : g = 1
  ·subst e5; exact globOk_at h5 i u hu
  by_cases e6 : g = 0
  ·subst e6; exact globOk_at h6 i u hu
  have e : glob g = [] := by unfold glob; split <;> first | rfl | contradiction
  rw [e] at hu; cases hu
 ·unfold globI at hg
  simp only [List.contains_cons, List.contains_nil, Bool.or_false, Bool.or_eq_true, beq_iff_eq] at hg
  rcases hg with rfl | rfl
  ·exact ⟨_, _, h4⟩
  ·exact ⟨_, _, h3⟩
end Go.Proofs.YtblkcnmecfppnaaGreatDoor
