/-
  Texts of this proof, joined: SG3, SG4, SG5, CJA, CYI, CYJ, VO, CYZ, JF.
-/
import Derived.Test.YtigdiekbiphhmaaGreatDoorB8
import Derived.KernelRfl
import Derived.Deep.Slices
import Derived.Deep.Fields
import Derived.ChangeSame
import Derived.ProofKit
import Derived.OpenShut
import Derived.ChangeOld
import Derived.Below
import Derived.Test.YtigdiekbiphhmaaGreatDoorChecked
import Derived.Test.YtigdiekbiphhmaaGreatDoorRows
import Derived.JoinedOf
set_option linter.unusedVariables false
set_option linter.unusedSimpArgs false
noncomputable section
namespace Go.Proofs.YtigdiekbiphhmaaGreatDoor
open Go.RowKit
set_option maxHeartbeats 4000000
set_option maxRecDepth 100000
theorem k_new : FnOk Tryz.prog 50 NewC := body_ok (by kernel_rfl) (new_body _)
theorem k_cnew : FnOk Tryz.prog 51 CNewC := body_ok (by kernel_rfl) (cnew_body _)
theorem k_cnewcr : FnOk Tryz.prog 21 CNewCrC := body_ok (by kernel_rfl) (cnewcr_body _ k_new k_cnew)
theorem k_letters : FnOk Tryz.prog 48 LettersC := body_ok (by kernel_rfl) (letters_body _)
theorem k_stamp : FnOk Tryz.prog 49 StampC := body_ok (by kernel_rfl) (stamp_body _)
theorem k_cloneHR : FnOk Tryz.prog 52 (CloneR 77 5 72) := body_ok (by kernel_rfl) (cloneHR_body _)
theorem k_ccopy : FnOk Tryz.prog 68 CCopyC := body_ok (by kernel_rfl) (ccopy_body _ k_cnew k_cloneHR)
theorem k_cname : FnOk Tryz.prog 104 (StrC (fun _ => True) nameB) := body_ok (by kernel_rfl) (cname_body _)
theorem k_cnames : FnOk Tryz.prog 74 CNamesC := body_ok (by kernel_rfl) (cnames_body _ k_cname)
theorem k_cday : FnOk Tryz.prog 75 DayBC := body_ok (by kernel_rfl) (cday_body _)
theorem k_begin : FnOk Tryz.prog 118 BeginC := body_ok (by kernel_rfl) (begin_body _ k_cnames k_cday)
theorem k_hand : FnOk Tryz.prog 43 HandC := body_ok (by kernel_rfl) (hand_body _ k_cnames k_cday)
theorem k_cship : FnOk Tryz.prog 79 (HandlerN (fun k => k = 4) shipF) := body_ok (by kernel_rfl) (cship_body _ k_ccopy k_begin k_hand)
theorem k_billd : FnOk Tryz.prog 120 BillC := body_ok (by kernel_rfl) (billd_body _)
theorem k_isLetter : FnOk Tryz.prog 184 (ByC letB) := body_ok (by kernel_rfl) (isLetter_body _)
theorem k_isDigit : FnOk Tryz.prog 185 (ByC digB) := body_ok (by kernel_rfl) (isDigit_body _)
theorem k_name : FnOk Tryz.prog 144 (StrC (fun _ => True) nameB) := body_ok (by kernel_rfl) (name_body _ k_isLetter k_isDigit)
theorem k_ask1 : FnOk Tryz.prog 106 (KEntC [.ptr 1 0] fun _ _ => false) := body_ok (by kernel_rfl) (ask1_body _)
theorem k_ask2 : FnOk Tryz.prog 107 (KActC k1) := body_ok (by kernel_rfl) (ask2_body _)
theorem k_isDay : FnOk Tryz.prog 109 DayC := body_ok (by kernel_rfl) (isDay_body _)
theorem k_ask3 : FnOk Tryz.prog 108 (KActC k2) := body_ok (by kernel_rfl) (ask3_body _ k_isDay)
theorem k_c41 : FnOk Tryz.prog 112 (CloA pState) := body_ok (by kernel_rfl) (c41_body _)
theorem k_someA_1 : FnOk Tryz.prog 111 (SomeA 112 pState) := body_ok (by kernel_rfl) (someA_body _ 112 pState ⟨by kernel_rfl⟩ k_c41)
theorem k_ask4 : FnOk Tryz.prog 110 (KEntC [.ptr 1 0, .ptr 0 0] k3) := body_ok (by kernel_rfl) (ask4_body _ k_someA_1)
theorem k_c51 : FnOk Tryz.prog 114 (CloA pHolder) := body_ok (by kernel_rfl) (c51_body _)
theorem k_someA_2 : FnOk Tryz.prog 111 (SomeA 114 pHolder) := body_ok (by kernel_rfl) (someA_body _ 114 pHolder ⟨by kernel_rfl⟩ k_c51)
theorem k_ask5 : FnOk Tryz.prog 113 (KEntC [.ptr 1 0, .ptr 0 0] k4) := body_ok (by kernel_rfl) (ask5_body _ k_someA_2)
theorem k_last : FnOk Tryz.prog 117 LastC := body_ok (by kernel_rfl) (last_body _)
theorem k_c61 : FnOk Tryz.prog 116 CloE := body_ok (by kernel_rfl) (c61_body _ k_last)
theorem k_someE_3 : FnOk Tryz.prog 111 (SomeE 116) := body_ok (by kernel_rfl) (someE_body _ 116 ⟨by kernel_rfl⟩ k_c61)
theorem k_ask6 : FnOk Tryz.prog 115 (KEntC [.ptr 0 0, .ptr 1 0] k5) := body_ok (by kernel_rfl) (ask6_body _ k_someE_3)
theorem k_first : FnOk Tryz.prog 105 FirC := body_ok (by kernel_rfl) (first_body _ ⟨⟨by kernel_rfl⟩, ⟨by kernel_rfl⟩, ⟨by kernel_rfl⟩, ⟨by kernel_rfl⟩, ⟨by kernel_rfl⟩, ⟨by kernel_rfl⟩, k_ask1, k_ask2, k_ask3, k_ask4, k_ask5, k_ask6⟩)
theorem k_ask1n : FnOk Tryz.prog 106 (spec (fun _ : Unit => [.ptr 0 0]) (fun _ => [.blk 119 [.v (.pointer none)]]) (fun _ => True) (fun _ => .bl true) fun _ => [.blk 119 [.v (.pointer none)]]) := body_ok (by kernel_rfl) (ask1n_body _)
theorem k_firstN : FnOk Tryz.prog 105 FirN := body_ok (by kernel_rfl) (firstN_body _ ⟨by kernel_rfl⟩ k_ask1n)
theorem k_ask : FnOk Tryz.prog 78 AskC := body_ok (by kernel_rfl) (ask_body _ k_first k_firstN)
theorem k_edmay : FnOk Tryz.prog 212 EdMayC := body_ok (by kernel_rfl) (edmay_body _ k_name)
theorem k_blank : FnOk Tryz.prog 214 (KindC 1) := body_ok (by kernel_rfl) (blank_body _)
theorem k_closed : FnOk Tryz.prog 213 (KindC 2) := body_ok (by kernel_rfl) (closed_body _)
theorem k_wrong : FnOk Tryz.prog 205 WrongC := body_ok (by kernel_rfl) (wrong_body _ k_edmay k_blank k_closed)
theorem k_check : FnOk Tryz.prog 186 CheckC := body_ok (by kernel_rfl) (check_body _ k_name k_wrong)
theorem k_holderE : FnOk Tryz.prog 145 HolderC := body_ok (by kernel_rfl) (holderE_body _ k_check)
theorem k_endorse : FnOk Tryz.prog 119 EndorseC := body_ok (by kernel_rfl) (endorse_body _ k_name k_ask k_holderE)
theorem k_pname : FnOk Tryz.prog 146 NameKC := body_ok (by kernel_rfl) (pname_body _)
theorem k_object : FnOk Tryz.prog 121 ObjC := body_ok (by kernel_rfl) (object_body _ k_pname)
theorem k_cendorse : FnOk Tryz.prog 80 (HandlerC (fun k => k = 8) endHF) := body_ok (by kernel_rfl) (cendorse_body _ k_billd k_endorse k_object)
theorem k_end : FnOk Tryz.prog 147 EndC := body_ok (by kernel_rfl) (end_body _)
theorem k_cloneS : FnOk Tryz.prog 87 (CloneC 1 16) := body_ok (by kernel_rfl) (cloneS_body _)
theorem k_surrender : FnOk Tryz.prog 122 SurrenderC := body_ok (by kernel_rfl) (surrender_body _ k_end k_cloneS k_ask)
theorem k_csurrender : FnOk Tryz.prog 81 (HandlerS (fun k => k = 20) csurF) := body_ok (by kernel_rfl) (csurrender_body _ k_ccopy k_hand k_billd k_surrender k_cloneS k_object)
theorem k_crelease : FnOk Tryz.prog 82 (HandlerC (fun k => k = 19) relF) := body_ok (by kernel_rfl) (crelease_body _)
theorem k_lose : FnOk Tryz.prog 46 LoseC := body_ok (by kernel_rfl) (lose_body _ k_ask)
theorem k_clost : FnOk Tryz.prog 83 (HandlerC (fun k => k = 23) lostF) := body_ok (by kernel_rfl) (clost_body _ k_billd k_lose k_object)
theorem k_replace : FnOk Tryz.prog 123 ReplaceC := body_ok (by kernel_rfl) (replace_body _ k_ask)
theorem k_creplace : FnOk Tryz.prog 84 (HandlerC (fun k => k = 24) replF) := body_ok (by kernel_rfl) (creplace_body _ k_billd k_replace k_object)
theorem k_ctake : FnOk Tryz.prog 18 (CTakeN fun _ => True) := body_ok (by kernel_rfl) (ctake_all k_letters k_stamp ⟨⟨by kernel_rfl⟩, k_cship, ⟨by kernel_rfl⟩, k_cendorse, ⟨by kernel_rfl⟩, k_csurrender, ⟨by kernel_rfl⟩, k_crelease, ⟨by kernel_rfl⟩, k_clost, ⟨by kernel_rfl⟩, k_creplace⟩)
theorem k_acts : FnOk Tryz.prog 53 ActsC := body_ok (by kernel_rfl) (acts_body _)
theorem k_billr : FnOk Tryz.prog 120 BillRC := body_ok (by kernel_rfl) (billr_body _)
theorem k_sum : FnOk Tryz.prog 206 SumC := body_ok (by kernel_rfl) (sum_body _ k_isLetter k_isDigit)
theorem k_small : FnOk Tryz.prog 170 SmallC := body_ok (by kernel_rfl) (small_body _)
theorem k_fmt : FnOk Tryz.prog 131 FmtC := body_ok (by kernel_rfl) (fmt_body _ k_small)
theorem k_itoa2 : FnOk Tryz.prog 93 SmallC := body_ok (by kernel_rfl) (itoa2_body _ k_fmt)
theorem k_itoaS : FnOk Tryz.prog 60 SmallC := body_ok (by kernel_rfl) (itoa_body _ k_itoa2)
theorem k_digits : FnOk Tryz.prog 207 DigC := body_ok (by kernel_rfl) (digits_body _ k_itoaS)
theorem k_right : FnOk Tryz.prog 187 (StrC (fun _ => True) markB) := body_ok (by kernel_rfl) (right_body _ k_sum k_digits)
theorem k_may1 : FnOk Tryz.prog 188 (CloN fun s => !nameB s) := body_ok (by kernel_rfl) (may1_body _ k_name)
theorem k_idxF_4 : FnOk Tryz.prog 189 (IdxFC 188 fun s => !nameB s) := body_ok (by kernel_rfl) (idxF_body _ 188 (fun s => !nameB s) ⟨by kernel_rfl⟩ k_may1)
theorem k_conF_5 : FnOk Tryz.prog 152 (ConFC 188 fun s => !nameB s) := body_ok (by kernel_rfl) (conF_body _ 188 (fun s => !nameB s) k_idxF_4)
theorem k_may : FnOk Tryz.prog 149 MayC := body_ok (by kernel_rfl) (may_body _ k_name k_right k_isDay k_conF_5)
theorem k_iss1 : FnOk Tryz.prog 148 (IssC [.ptr 2 0, .ptr 3 0, .ptr 4 0] i1) := body_ok (by kernel_rfl) (iss1_body _ k_may k_name)
theorem k_iss2 : FnOk Tryz.prog 150 (IssC [.ptr 2 0, .ptr 3 0] i2) := body_ok (by kernel_rfl) (iss2_body _)
theorem k_index : FnOk Tryz.prog 208 IndexC := body_ok (by kernel_rfl) (index_body _)
theorem k_contains : FnOk Tryz.prog 191 ContainsC := body_ok (by kernel_rfl) (contains_body _ k_index)
theorem k_box1 : FnOk Tryz.prog 190 (CloBW pBox) := body_ok (by kernel_rfl) (box1_body _ k_contains)
theorem k_numbersW_6 : FnOk Tryz.prog 69 (NumW 190 pBox) := body_ok (by kernel_rfl) (numbersW_body _ 190 pBox ⟨by kernel_rfl⟩ k_box1 sort_ok)
theorem k_box : FnOk Tryz.prog 154 BoxC := body_ok (by kernel_rfl) (box_body _ k_numbersW_6)
theorem k_iss31 : FnOk Tryz.prog 153 (spec (fun i : Iss × ByteArray => [.str i.2, .ptr 2 0]) (fun i => IssH i.1) (fun i => IssP i.1) (fun i => .bl (iBox i.1 i.2)) fun i => IssH i.1) := body_ok (by kernel_rfl) (iss31_body _ k_box)
theorem k_idxI : FnOk Tryz.prog 189 IdxIC := body_ok (by kernel_rfl) (idxI_body _ ⟨by kernel_rfl⟩ k_iss31)
theorem k_conI : FnOk Tryz.prog 152 ConIC := body_ok (by kernel_rfl) (conI_body _ k_idxI)
theorem k_iss3 : FnOk Tryz.prog 151 (IssC [.ptr 3 0, .ptr 2 0] i3) := body_ok (by kernel_rfl) (iss3_body _ k_conI)
theorem k_iss4 : FnOk Tryz.prog 155 (IssC [.ptr 2 0] i4) := body_ok (by kernel_rfl) (iss4_body _)
theorem k_firstI : FnOk Tryz.prog 105 FirIC := body_ok (by kernel_rfl) (firstI_body _ ⟨⟨by kernel_rfl⟩, ⟨by kernel_rfl⟩, ⟨by kernel_rfl⟩, ⟨by kernel_rfl⟩, k_iss1, k_iss2, k_iss3, k_iss4⟩)
theorem k_copyBill : FnOk Tryz.prog 54 CopyBC := body_ok (by kernel_rfl) (copyBill_body _ k_cloneS)
theorem k_issue : FnOk Tryz.prog 124 IssueC := body_ok (by kernel_rfl) (issue_body _ k_firstI k_copyBill)
theorem k_count : FnOk Tryz.prog 157 (ItoZ itoZ) := body_ok (by kernel_rfl) (count_body _ k_itoa)
theorem k_fieldsP : FnOk Tryz.prog 156 FieldsPC := body_ok (by kernel_rfl) (fieldsP_body _)
theorem k_lading : FnOk Tryz.prog 125 LadC := body_ok (by kernel_rfl) (lading_body _ k_count k_join k_fieldsP)
theorem k_csail : FnOk Tryz.prog 85 (ActorC sailF) := body_ok (by kernel_rfl) (csail_body _ k_billr k_cloneS k_issue k_lading)
theorem k_cland : FnOk Tryz.prog 86 (ActorC landF) := body_ok (by kernel_rfl) (cland_body _ k_cloneS)
theorem k_cact : FnOk Tryz.prog 23 (CActC fun _ => True) := body_ok (by kernel_rfl) (cact_all k_acts ⟨by kernel_rfl⟩ k_csail ⟨by kernel_rfl⟩ k_cland k_stamp)
theorem k_cloneHC : FnOk Tryz.prog 52 (CloneC 5 72) := body_ok (by kernel_rfl) (cloneHC_body _)
theorem k_cdel : FnOk Tryz.prog 22 CDelC := body_ok (by kernel_rfl) (cdel_body _ k_cloneHC)
theorem k_ckind : FnOk Tryz.prog 30 CKindC := body_ok (by kernel_rfl) (ckind_body _)
theorem k_awake51 : FnOk Tryz.prog 11 AwakeC51 := body_ok (by kernel_rfl) (awake51_body _ k_cnewcr k_ctake k_cact k_cdel k_ckind)
theorem k_ctick : FnOk Tryz.prog 24 CTickC := body_ok (by kernel_rfl) (ctick_body _)
theorem k_few : FnOk Tryz.prog 12 Few51C := body_ok (by kernel_rfl) (few_body _)
theorem k_cloneER : FnOk Tryz.prog 77 (CloneR 180 4 48) := body_ok (by kernel_rfl) (cloneER_body _)
theorem k_copy : FnOk Tryz.prog 47 CopyC := body_ok (by kernel_rfl) (copy_body _ k_new k_copyBill k_cloneER)
theorem k_creg : FnOk Tryz.prog 15 CRegC := body_ok (by kernel_rfl) (creg_body _ k_copy)
theorem k_get : FnOk Tryz.prog 25 GetC := body_ok (by kernel_rfl) (get_body _ k_copyBill)
theorem k_state : FnOk Tryz.prog 26 StateC := body_ok (by kernel_rfl) (state_body _)
set_option maxHeartbeats 8000000
end Go.Proofs.YtigdiekbiphhmaaGreatDoor
namespace Go.Proofs.YtigdiekbiphhmaaGreatDoor
open Go.ChangeShapes Go.WideShapes Go.Deep Go.RowKit
inductive Sh where
 | int (k : IntKind)
 | str
 | bl
 | sl (sz : Nat) (e : Sh)
 | st (l : List Sh)
mutual
def Sh.width : Sh → Nat
 | .int _ => 1
 | .str => 1
 | .bl => 1
 | .sl _ _ => 1
 | .st l => Sh.widthL l
def Sh.widthL : List Sh → Nat
 | [] => 0
 | s :: l => s.width + Sh.widthL l
end
mutual
def Op (B : Nat) : Sh → List AV → Prop
 | .int k, cs => ∃ n, cs = [.int k n] ∧ (Lit.int k n).wf = true
 | .str, cs => ∃ s, cs = [.str s] ∧ s.size ≤ maxLen ∧ s.size ≤ B
 | .bl, cs => ∃ b, cs = [.bl b]
 | .sl sz e, cs => ∃ xs, cs = [.sl sz xs] ∧ xs.length ≤ maxLen ∧ ∀ x ∈ xs, x = elemAV sz x.cells ∧ Op B e x.cells
 | .st l, cs => OpL B l cs
def OpL (B : Nat) : List Sh → List AV → Prop
 | [], cs => cs = []
 | s :: l, cs => ∃ a b, cs = a ++ b ∧ Op B s a ∧ OpL B l b
end
mutual
theorem Op.one {B : Nat} : ∀ (s : Sh) (cs : List AV), Op B s cs → cs.all AV.one = true
 | .int k, cs, h => by unfold Op at h; obtain ⟨n, rfl, _⟩ := h; rfl
 | .str, cs, h => by unfold Op at h; obtain ⟨n, rfl, _⟩ := h; rfl
 | .bl, cs, h => by unfold Op at h; obtain ⟨n, rfl⟩ := h; rfl
 | .sl sz e, cs, h => by unfold Op at h; obtain ⟨xs, rfl, _⟩ := h; rfl
 | .st l, cs, h => by unfold Op at h; exact OpL.one l cs h
theorem OpL.one {B : Nat} : ∀ (l : List Sh) (cs : List AV), OpL B l cs → cs.all AV.one = true
 | [], cs, h => by unfold OpL at h; subst h; rfl
 | s :: l, cs, h => by
  unfold OpL at h
  obtain ⟨a, b, rfl, h1, h2⟩ := h
  rw [List.all_append, Op.one s a h1, OpL.one l b h2]
  rfl
end
def shFs (P : Program) (g : TypeId → Option Sh) : List Field → Nat → Nat → Option (List Sh)
 | [], off, tot => if off = tot then some [] else none
 | f :: l, off, tot => if f.offset = off then match g f.type, shFs P g l (off + P.cellsOf f.type) tot with
   | some s, some r => some (s :: r)
   | _, _ => none
  else none
mutual
theorem Op.len {B : Nat} : ∀ (s : Sh) (cs : List AV), Op B s cs → cs.length = s.width
 | .int k, cs, h => by unfold Op at h; obtain ⟨n, rfl, _⟩ := h; rfl
 | .str, cs, h => by unfold Op at h; obtain ⟨n, rfl, _⟩ := h; rfl
 | .bl, cs, h => by unfold Op at h; obtain ⟨n, rfl⟩ := h; rfl
 | .sl sz e, cs, h => by unfold Op at h; obtain ⟨xs, rfl, _⟩ := h; rfl
 | .st l, cs, h => by unfold Op at h; exact OpL.len l cs h
theorem OpL.len {B : Nat} : ∀ (l : List Sh) (cs : List AV), OpL B l cs → cs.length = Sh.widthL l
 | [], cs, h => by unfold OpL at h; subst h; rfl
 | s :: l, cs, h => by
  unfold OpL at h
  obtain ⟨a, b, rfl, h1, h2⟩ := h
  rw [List.length_append, Op.len s a h1, OpL.len l b h2]
  rfl
end
def shOf (P : Program) : Nat → TypeId → Option Sh
 | 0, _ => none
 | n + 1, t => match P.underlying t with
  | some .bool => some .bl
  | some (.int k) => some (.int k)
  | some .string => some .str
  | some (.slice e) => match shOf P n e with
   | some s => if s.width = P.cellsOf e then some (.sl (P.cellsOf e) s) else none
   | none => none
  | some (.struct fs) => (shFs P (shOf P n) fs.toList 0 (P.cellsOf t)).map .st
  | _ => none
def pubW (w : World) : Pub := fun b => match w.heap[b]? with
 | some (.cells arr _ _) => arr.size
 | _ => 0
theorem pubW_cell {w : World} {b i : Nat} {u : Value} (h : w.cell? ⟨b, i, none⟩ = some u) : i < pubW w b := by
 unfold World.cell? at h
 unfold pubW
 cases hb : w.heap[b]? with
 | none => simp [hb] at h
 | some o =>
  cases o <;> simp [hb] at h ⊢
  rename_i arr _ _
  rcases Nat.lt_or_ge i arr.size with h1 | h1
  ·exact h1
  ·rw [Array.getElem?_eq_none h1] at h; simp at h
theorem pubW_there {w : World} {b i : Nat} (h : i < pubW w b) : ∃ u, w.cell? ⟨b, i, none⟩ = some u := by
 unfold pubW at h
 cases hb : w.heap[b]? with
 | none => simp [hb] at h
 | some o =>
  cases o <;> simp [hb] at h
  rename_i arr _ _
  exact ⟨arr[i], by unfold World.cell?; simp [hb, Array.getElem?_eq_getElem h]⟩
theorem Mod.door (w : World) (hg : GlobOk (pubW w) w) : Mod (pubW w) w rho0 [] :=
 ⟨fun k e he => (by simp at he), fun _ _ => rfl, (fun _ _ _ _ _ h => by cases h), (fun b hb => by unfold pubW; rw [Array.getElem?_eq_none hb]), fun b i hi => pubW_there hi, hg⟩
theorem elemAV_cells_ {sz : Nat} {l : List AV} (hl : l.length = sz) (h1 : l.all AV.one = true) : (elemAV sz l).cells = l := elemAV_cells hl h1
theorem of_each_ {α : Type} {p : Nat → α → Prop} : ∀ (n : Nat), (∀ i, i < n → ∃ a, p i a) → ∃ l : List α, l.length = n ∧ ∀ i (h : i < l.length), p i l[i]
 | 0, _ => ⟨[], rfl, fun i h => by simp at h⟩
 | n + 1, h => by
  obtain ⟨l, hl, hp⟩ := of_each_ n (fun i hi => h i (by omega))
  obtain ⟨a, ha⟩ := h n (by omega)
  refine ⟨l ++ [a], by simp [hl], fun i hi => ?_⟩
  by_cases h1 : i < l.length
  ·rw [List.getElem_append_left h1]; exact hp i h1
  ·simp at hi
   obtain rfl : i = n := by omega
   subst hl
   simpa using ha
theorem Addr_add_none (b o n : Nat) : (⟨b, o, none⟩ : Addr).add n = ⟨b, o + n, none⟩ := by unfold Addr.add; split <;> simp_all
def LtD (B : Nat) (P : Program) {H : Type} (t : TypeId) (d : DataW H) : Prop := maxLen ≤ B ∨ (reachBytes ≤ B ∧ ∀ n ∈ d.weights P t, n ≤ reachBytes)
theorem each_mem {P : Program} {H : Type} : ∀ {ts : List TypeId} {ds : List (DataW H)} {i : Nat} {t : TypeId} {d : DataW H}, ts[i]? = some t → ds[i]? = some d → ∀ n ∈ d.weights P t, n ∈ DataW.weightsEach P ts ds
 | [], _, i, t, d, h, _ => by simp at h
 | _ :: _, [], i, t, d, _, h => by simp at h
 | u :: ts, e :: ds, 0, t, d, h, k => by
  intro n hn
  simp at h k
  subst h k
  unfold DataW.weightsEach
  exact List.mem_append_left _ hn
 | u :: ts, e :: ds, i + 1, t, d, h, k => by
  intro n hn
  unfold DataW.weightsEach
  exact List.mem_append_right _ (each_mem (by simpa using h) (by simpa using k) n hn)
theorem all_mem {P : Program} {H : Type} {e : TypeId} : ∀ {ds : List (DataW H)} {i : Nat} {d : DataW H}, ds[i]? = some d → ∀ n ∈ d.weights P e, n ∈ DataW.weightsAll P e ds
 | [], i, d, h => by simp at h
 | x :: ds, 0, d, h => by
  intro n hn
  simp at h
  subst h
  unfold DataW.weightsAll
  exact List.mem_append_left _ hn
 | x :: ds, i + 1, d, h => by
  intro n hn
  unfold DataW.weightsAll
  exact List.mem_append_right _ (all_mem (by simpa using h) n hn)
section
variable {B : Nat}
variable {H : Type} {enc : TypeId × Value → H} {P : Program} {w : World} {base : Nat} {spare : Nat → Bool} {held : Bool}
theorem open_fs {g : TypeId → Option Sh} {cs : List Value} (hg : ∀ t s, g t = some s → ∀ fuel cs x, DataW.trod enc P w base spare held fuel t cs = some x → LtD B P t x.1 → ∃ cz, Op B s cz ∧ VRels (pubW w) w rho0 cz cs) :
  ∀ (l : List Field) (off tot : Nat) (ss : List Sh), shFs P g l off tot = some ss → cs.length = tot → (∀ f ∈ l, ∃ fuel y, DataW.trod enc P w base spare held fuel f.type ((cs.drop f.offset).take (P.cellsOf f.type)) = some y ∧ LtD B P f.type y.1) →
   ∃ cz, OpL B ss cz ∧ VRels (pubW w) w rho0 cz (cs.drop off)
 | [], off, tot, ss, h, hl, _ => by
  unfold shFs at h
  split at h
  ·cases h
   rename_i e
   refine ⟨[], by unfold OpL; rfl, ?_⟩
   rw [List.drop_eq_nil_of_le (by omega)]
   exact .nil
  ·cases h
 | f :: l, off, tot, ss, h, hl, hf => by
  unfold shFs at h
  split at h
  ·rename_i e
   split at h
   ·rename_i s r hs hr
    cases h
    obtain ⟨fuel, y, hy, hly⟩ := hf f (List.mem_cons_self ..)
    obtain ⟨cz1, h1, h2⟩ := hg _ _ hs _ _ _ hy hly
    obtain ⟨cz2, h3, h4⟩ := open_fs hg l _ tot r hr hl (fun f hm => hf f (List.mem_cons_of_mem _ hm))
    refine ⟨cz1 ++ cz2, by unfold OpL; exact ⟨cz1, cz2, rfl, h1, h3⟩, ?_⟩
    rw [e] at h2
    have := h2.app h4
    rw [← List.drop_drop, List.take_append_drop] at this
    exact this
   ·cases h
  ·cases h
theorem VRels.single {x : AV} {u : Value} {pub : Pub} {r : Rho} (h : VRel pub w r x u) : VRels pub w r [x] [u] := .cons h .nil
theorem open_cells : ∀ (n : Nat) (t : TypeId) (s : Sh), shOf P n t = some s → ∀ (fuel : Nat) (cs : List Value) (x : DataW H × List MemPlace), DataW.trod enc P w base spare held fuel t cs = some x → LtD B P t x.1 → ∃ cz, Op B s cz ∧ VRels (pubW w) w rho0 cz cs
 | 0, t, s, h => by cases h
 | n + 1, t, s, h => by
  intro fuel cs x hx hlt
  have ih := open_cells n
  unfold shOf at h
  split at h
  ·rename_i ht
   cases h
   obtain ⟨b, rfl, _⟩ := DataW.trod_bool ht hx
   exact ⟨[.bl b], by unfold Op; exact ⟨b, rfl⟩, .single (.bl b)⟩
  ·rename_i k ht
   cases h
   obtain ⟨b, rfl, _, hw⟩ := DataW.trod_int ht hx
   exact ⟨[.int k b], by unfold Op; exact ⟨b, rfl, hw⟩, .single (.int k b)⟩
  ·rename_i ht
   cases h
   obtain ⟨b, rfl, rfl, hw⟩ := DataW.trod_string ht hx
   have hb : b.size ≤ B := by
    rcases hlt with h1 | ⟨h1, h2⟩
    ·omega
    ·have h3 := h2 b.data.toList.length (by dsimp only; unfold DataW.weights; exact List.mem_cons_self ..)
     have h4 : b.data.toList.length = b.size := by rw [Array.length_toList]; rfl
     omega
   exact ⟨[.str b], by unfold Op; exact ⟨b, rfl, hw, hb⟩, .single (.str b)⟩
  ·rename_i e ht
   split at h
   ·rename_i se hse
    split at h
    ·rename_i hwd
     cases h
     rcases open_slice ht hx with ⟨rfl, _⟩ | ⟨a, len, cap, m, n', D, Pl, rfl, _, hl, hm, hmm, rfl, hi⟩
     ·refine ⟨[.sl (P.cellsOf e) []], by unfold Op; exact ⟨[], rfl, Nat.zero_le _, fun x hx => by cases hx⟩, .single (.sl (A := none) (c := 0) (xs := []) (Nat.le_refl _) (by unfold maxLen; omega) (fun _ => ⟨rfl, rfl⟩) (fun x hx => by cases hx) (fun _ _ => undef) (fun i x j u hx => by simp at hx) (fun i x j u hx => by simp at hx))⟩
     ·have hle : len ≤ m := by rw [hmm]; split <;> omega
      have each : ∀ i, i < len → ∃ cz, Op B se cz ∧ ∃ vs : List Value, VRels (pubW w) w rho0 cz vs ∧ ∀ j v, vs[j]? = some v → w.cell? ((a.add (i * P.cellsOf e)).add j) = some v := fun i hil => by
       obtain ⟨cs', hc, ht'⟩ := hi i (by omega)
       have hli : LtD B P e (D i) := by
        rcases hlt with h1 | ⟨h1, h2⟩
        ·exact .inl h1
        ·refine .inr ⟨h1, fun n hn => h2 n ?_⟩
         unfold DataW.weights
         rw [ht]
         refine List.mem_cons_of_mem _ (List.mem_append_left _ (all_mem (i := i) (d := D i) ?_ n hn))
         rw [List.getElem?_map, List.getElem?_range hil]
         rfl
       obtain ⟨cz, h1, h2⟩ := ih e se hse _ _ _ ht' hli
       obtain ⟨_, hcl, hat⟩ := World.cells?_some hc
       exact ⟨cz, h1, cs', h2, fun j v hv => by rw [hat j (by rw [← hcl]; exact (List.getElem?_eq_some_iff.1 hv).1), hv]⟩
      obtain ⟨A, hAl, hA⟩ : ∃ A : List (List AV), A.length = len ∧ ∀ i (h : i < A.length), Op B se A[i] ∧ ∃ vs : List Value, VRels (pubW w) w rho0 A[i] vs ∧ ∀ j v, vs[j]? = some v → w.cell? ((a.add (i * P.cellsOf e)).add j) = some v := of_each_ len (p := fun i cz => Op B se cz ∧ ∃ vs : List Value, VRels (pubW w) w rho0 cz vs ∧ ∀ j v, vs[j]? = some v → w.cell? ((a.add (i * P.cellsOf e)).add j) = some v) each
      have hcells : ∀ (cz : List AV), Op B se cz → (elemAV (P.cellsOf e) cz).cells = cz := fun cz ho => elemAV_cells_ ((Op.len _ _ ho).trans hwd) (Op.one _ _ ho)
      refine ⟨[.sl (P.cellsOf e) (A.map (elemAV (P.cellsOf e)))], ?_, ?_⟩
      ·unfold Op
       refine ⟨_, rfl, by rw [List.length_map, hAl]; omega, fun x hx => ?_⟩
       obtain ⟨cz, has, rfl⟩ := List.mem_map.1 hx
       obtain ⟨i, hil, rfl⟩ := List.getElem_of_mem has
       rw [hcells _ (hA i hil).1]
       exact ⟨rfl, (hA i hil).1⟩
      ·refine .single ?_
       rw [← hAl, ← List.length_map (f := elemAV (P.cellsOf e))]
       have get : ∀ (i : Nat) (x : AV) (j : Nat) (u : AV), (A.map (elemAV (P.cellsOf e)))[i]? = some x → x.cells[j]? = some u → ∃ v, w.cell? ((a.add (i * P.cellsOf e)).add j) = some v ∧ VRel (pubW w) w rho0 u v := fun i x j u hx hu => by
        rw [List.getElem?_map] at hx
        rcases Nat.lt_or_ge i A.length with hil | hil
        ·rw [List.getElem?_eq_getElem hil] at hx
         cases hx
         obtain ⟨ho, vs, hvs, hc⟩ := hA i hil
         rw [hcells _ ho] at hu
         obtain ⟨v, hv, hr⟩ := hvs.get hu
         exact ⟨v, hc j v hv, hr⟩
        ·rw [List.getElem?_eq_none hil] at hx; cases hx
       refine .sl (by rw [List.length_map]; omega) (by omega) (fun h => by cases h) (fun x hx => ?_) (fun i j => (w.cell? ((a.add (i * P.cellsOf e)).add j)).getD undef) (fun i x j u hx hu => ?_) (fun i x j u hx hu => ?_)
       ·obtain ⟨cz, has, rfl⟩ := List.mem_map.1 hx
        obtain ⟨i, hil, rfl⟩ := List.getElem_of_mem has
        rw [hcells _ (hA i hil).1]
        exact ⟨(Op.len _ _ (hA i hil).1).trans hwd, Op.one _ _ (hA i hil).1⟩
       ·obtain ⟨v, hv, hr⟩ := get i x j u hx hu
        rw [hv]
        exact hr
       ·obtain ⟨v, hv, hr⟩ := get i x j u hx hu
        have hsp : a.spot = none := by
         rw [List.getElem?_map] at hx
         cases hAi : A[i]? with
         | none => rw [hAi] at hx; cases hx
         | some cz =>
          rw [hAi] at hx
          cases hx
          obtain ⟨hil, rfl⟩ := List.getElem?_eq_some_iff.1 hAi
          have hju : j < A[i].length := by rw [hcells _ (hA i hil).1] at hu; exact (List.getElem?_eq_some_iff.1 hu).1
          have hli := Op.len _ _ (hA i hil).1
          obtain ⟨ho, vs, hvs, hc⟩ := hA 0 (by omega)
          have hl0 := Op.len _ _ ho
          have hv0 : 0 < vs.length := by rw [hvs.len]; omega
          have := World.cell?_spot (hc 0 vs[0] (List.getElem?_eq_getElem hv0))
          simpa [Addr.add] using this
        obtain ⟨b, o, spot⟩ := a
        dsimp only at hsp
        subst hsp
        rw [hv]
        have e1 : ((⟨b, o, none⟩ : Addr).add (i * P.cellsOf e)).add j = ⟨b, o + i * P.cellsOf e + j, none⟩ := by
         rw [Addr_add_none, Addr_add_none]
        rw [e1] at hv
        exact ⟨b, o, rfl, pubW_cell hv, hv⟩
    ·cases h
   ·cases h
  ·rename_i fs ht
   obtain ⟨ss, hss, rfl⟩ := map_some h
   obtain ⟨xs, n', _, hxa, hl, hlen, hf⟩ := DataW.trod_struct ht hx
   obtain ⟨cz, h1, h2⟩ := open_fs (cs := cs) ih fs.toList 0 _ ss hss hl (fun f hm => by
    obtain ⟨j, hj⟩ := List.getElem?_of_mem hm
    have hjl : j < xs.length := by rw [hlen]; simpa using (List.getElem?_eq_some_iff.1 hj).1
    refine ⟨n', xs[j], by rw [hf j f (by simpa using hj), List.getElem?_eq_getElem hjl], ?_⟩
    rcases hlt with h1 | ⟨h1, h2⟩
    ·exact .inl h1
    ·refine .inr ⟨h1, fun n hn => h2 n ?_⟩
     rw [hxa]
     unfold DataW.weights
     rw [ht]
     exact each_mem (i := j) (t := f.type) (d := xs[j].1) (by rw [List.getElem?_map, hj]; rfl) (by rw [List.getElem?_map, List.getElem?_eq_getElem hjl]; rfl) n hn)
   exact ⟨cz, by unfold Op; exact h1, by simpa using h2⟩
  ·cases h
def topAV : Sh → List AV → AV
 | .st _, cz => .agg cz
 | _, cz => cz.headD .any
theorem cells_one_ {v : Value} (h : ∀ cs, v ≠ .agg cs) : v.cells.toList = [v] := by
 cases v with
 | agg cs => exact absurd rfl (h cs)
 | _ => rfl
theorem open_val {n : Nat} {t : TypeId} {s : Sh} {r : Reach} {b0 : Nat} {v : Value} {d : DataW H} {p : List MemPlace} (hs : shOf P n t = some s) (hv : Value.okWide P w r b0 t v) (hd : DataW.Trod enc P w base spare held t v d p) (hlt : LtD B P t d) :
  ∃ cz, Op B s cz ∧ VRel (pubW w) w rho0 (topAV s cz) v := by
 obtain ⟨fuel, hf⟩ := hd
 obtain ⟨cz, h1, h2⟩ := open_cells (B := B) n t s hs _ _ _ hf hlt
 refine ⟨cz, h1, ?_⟩
 have scal : (∀ cs, v ≠ .agg cs) → ∀ a, cz = [a] → VRel (pubW w) w rho0 a v := fun hne a ha => by
  rw [cells_one_ hne, ha] at h2
  exact h2.at_ 0 a v rfl rfl
 cases n with
 | zero => cases hs
 | succ n =>
  unfold shOf at hs
  split at hs
  ·rename_i ht
   cases hs
   unfold Op at h1
   obtain ⟨b, rfl⟩ := h1
   exact scal (fun cs hc => by subst hc; simp [Value.okWide, ht, Cell.okWide, Cell.ok] at hv) _ rfl
  ·rename_i k ht
   cases hs
   unfold Op at h1
   obtain ⟨b, rfl, _⟩ := h1
   exact scal (fun cs hc => by subst hc; simp [Value.okWide, ht, Cell.okWide, Cell.ok] at hv) _ rfl
  ·rename_i ht
   cases hs
   unfold Op at h1
   obtain ⟨b, rfl, _⟩ := h1
   exact scal (fun cs hc => by subst hc; simp [Value.okWide, ht, Cell.okWide, Cell.ok] at hv) _ rfl
  ·rename_i e ht
   split at hs
   ·split at hs
    ·cases hs
     unfold Op at h1
     obtain ⟨b, rfl, _⟩ := h1
     exact scal (fun cs hc => by subst hc; simp [Value.okWide, ht, Cell.okWide, Cell.ok] at hv) _ rfl
    ·cases hs
   ·cases hs
  ·rename_i fs ht
   obtain ⟨ss, hss, rfl⟩ := map_some hs
   simp only [Value.okWide, ht] at hv
   obtain ⟨cs, rfl, _⟩ := hv
   exact .agg (by simpa [Value.cells] using h2.len) fun i x u hx hu => h2.at_ i x u hx (by simpa [Value.cells] using hu)
  ·cases hs
theorem op_list {α : Type} {sz : Nat} {e : Sh} {f : α → AV} {q : α → Prop} (h : ∀ cz, Op B e cz → ∃ x : α, elemAV sz cz = f x ∧ q x) {cs : List AV} (ho : Op B (.sl sz e) cs) : ∃ L : List α, cs = [.sl sz (mapA f L)] ∧ L.length ≤ maxLen ∧ ∀ x ∈ L, q x := by
 unfold Op at ho
 obtain ⟨xs, rfl, hl, hx⟩ := ho
 have key : ∀ xs : List AV, (∀ x ∈ xs, x = elemAV sz x.cells ∧ Op B e x.cells) → ∃ L : List α, xs = mapA f L ∧ ∀ x ∈ L, q x := fun xs => by
  induction xs with
  | nil => exact fun _ => ⟨[], rfl, fun x hx => by cases hx⟩
  | cons y ys ih =>
   intro hx
   obtain ⟨L, rfl, hL⟩ := ih fun x hm => hx x (List.mem_cons_of_mem _ hm)
   obtain ⟨e1, e2⟩ := hx y (List.mem_cons_self ..)
   obtain ⟨x, hf, hq⟩ := h _ e2
   refine ⟨x :: L, ?_, fun z hz => ?_⟩
   ·show y :: mapA f L = f x :: mapA f L
    rw [e1, hf]
   ·rcases List.mem_cons.1 hz with rfl | hz
    ·exact hq
    ·exact hL z hz
 obtain ⟨L, rfl, hL⟩ := key xs hx
 exact ⟨L, rfl, by rwa [mapA_len] at hl, hL⟩
theorem wf_i64 {n : Int} (h : (Lit.int .i64 n).wf = true) : -9223372036854775808 ≤ n ∧ n ≤ 9223372036854775807 := by
 simp only [Lit.wf, Bool.and_eq_true, decide_eq_true_eq] at h
 have h1 : IntKind.i64.min = -9223372036854775808 := rfl
 have h2 : IntKind.i64.max = 9223372036854775807 := rfl
 omega
theorem walk_of {f : Nat} {c : Ctr} (hf : FnOk P f c) {args : List AV} {vals : Array Value} (hv : VRels (pubW w) w rho0 args vals.toList) (hc : c args [] fun x _ => x = .bl true) (hg : GlobOk (pubW w) w) :
  Calls P f vals w fun e w' => e = .returned (.bool true) ∧ Below w.heap.size w w' := by
 refine (hf args [] _ hc w rho0 (pubW w) vals (Mod.door w hg) hv).mono fun e w' ⟨v, x, H', r', pub', he, hx, hvx, _, hfr, _⟩ => ?_
 subst he
 subst hx
 cases hvx
 exact ⟨rfl, hfr.os, hfr.tape, hfr.output, hfr.size, fun j hj => (hfr.keep j hj (fun ⟨_, _, h, _⟩ => by cases h)).1⟩
end
end Go.Proofs.YtigdiekbiphhmaaGreatDoor
namespace Go.Proofs.YtigdiekbiphhmaaGreatDoor
open Go.RowKit
def fieldSh : Sh := .st [.str, .str]
def docSh : Sh := .st [.int .i64, .str, .str, .sl 2 fieldSh]
def letterSh : Sh := .st [.str, .str, .int .i64, .int .i64, .int .i64, .str, .str, .str, .int .i64, .int .i64, .st [.str, .int .i64], .sl 4 docSh, .sl 1 .str]
def callSh : Sh := .st [.int .i64, .int .i64, .st [.int .i64, .int .i64, .str], letterSh]
def partySh : Sh := .st [.str, .str, .int .i64]
def lotSh : Sh := .st [.str, .int .i64]
def boxSh : Sh := .st [.str, .int .i64, .sl 2 lotSh]
def dealSh : Sh := .st [.str, .str, .str, .str, .str, .str, .str, .str, .str, .st [.str, .int .i64], .sl 3 boxSh, .int .i64, .int .i64, .int .i64, .int .i64, .int .i64]
def entrySh : Sh := .st [.str, .str, .int .i64]
def setupSh : Sh := .st [.sl 3 partySh, .sl 17 dealSh, .sl 3 entrySh, .st [.sl 1 (.int .i64), .sl 1 (.int .i64)]]
theorem reach47 : reachBytes ≤ 140737488355328 := by decide
theorem sz_op {s : ByteArray} (h : s.size ≤ maxLen ∧ s.size ≤ reachBytes) : szBig s := Nat.le_trans h.2 reach47
theorem op_ints {B : Nat} {cs : List AV} (h : Op B (.sl 1 (.int .i64)) cs) : ∃ L : List Int, cs = [.sl 1 (mapA IntA L)] ∧ L.length ≤ maxLen ∧ ∀ z ∈ L, dayIn z :=
 op_list (f := IntA) (q := dayIn) (fun cz h => by
  unfold Op at h
  obtain ⟨n, rfl, h1⟩ := h
  exact ⟨n, rfl, wf_i64 h1⟩) h
theorem op_fdc (cz : List AV) (h : Op reachBytes fieldSh cz) : ∃ x : Fdc, elemAV 2 cz = FdcA x ∧ True := by
 unfold fieldSh Op at h
 (unfold OpL at h; obtain ⟨_, _, rfl, h1, h⟩ := h; unfold Op at h1; obtain ⟨a0, rfl, w0⟩ := h1)
 (unfold OpL at h; obtain ⟨_, _, rfl, h1, h⟩ := h; unfold Op at h1; obtain ⟨a1, rfl, w1⟩ := h1)
 (unfold OpL at h; subst h)
 exact ⟨⟨a0, a1⟩, rfl, trivial⟩
theorem op_dcc (cz : List AV) (h : Op reachBytes docSh cz) : ∃ x : Dcc, elemAV 4 cz = DccA x ∧ True := by
 unfold docSh Op at h
 (unfold OpL at h; obtain ⟨_, _, rfl, h1, h⟩ := h; unfold Op at h1; obtain ⟨a0, rfl, w0⟩ := h1)
 (unfold OpL at h; obtain ⟨_, _, rfl, h1, h⟩ := h; unfold Op at h1; obtain ⟨a1, rfl, w1⟩ := h1)
 (unfold OpL at h; obtain ⟨_, _, rfl, h1, h⟩ := h; unfold Op at h1; obtain ⟨a2, rfl, w2⟩ := h1)
 unfold OpL at h
 obtain ⟨_, _, rfl, h1, h⟩ := h
 obtain ⟨L, rfl, hl, hL⟩ := op_list op_fdc h1
 (unfold OpL at h; subst h)
 exact ⟨⟨a0, a1, a2, L⟩, rfl, trivial⟩
def LtrL : Ltr → List AV
 | ⟨frm, to, number, kind, ack, deal, text, party, index, day, cur, amt, docs, boxes⟩ => [.str frm, .str to, .i number, .i kind, .i ack, .str deal, .str text, .str party, .i index, .i day, .str cur, .i amt, .sl 4 (mapA DccA docs), .sl 1 (mapA .str boxes)]
def ltSz (x : Ltr) : Prop := szBig x.frm ∧ szBig x.deal ∧ szBig x.party
theorem op_ltr (cz : List AV) (h : Op reachBytes letterSh cz) : ∃ x : Ltr, cz = LtrL x ∧ ltSz x := by
 unfold letterSh Op at h
 (unfold OpL at h; obtain ⟨_, _, rfl, h1, h⟩ := h; unfold Op at h1; obtain ⟨a0, rfl, w0⟩ := h1)
 (unfold OpL at h; obtain ⟨_, _, rfl, h1, h⟩ := h; unfold Op at h1; obtain ⟨a1, rfl, w1⟩ := h1)
 (unfold OpL at h; obtain ⟨_, _, rfl, h1, h⟩ := h; unfold Op at h1; obtain ⟨a2, rfl, w2⟩ := h1)
 (unfold OpL at h; obtain ⟨_, _, rfl, h1, h⟩ := h; unfold Op at h1; obtain ⟨a3, rfl, w3⟩ := h1)
 (unfold OpL at h; obtain ⟨_, _, rfl, h1, h⟩ := h; unfold Op at h1; obtain ⟨a4, rfl, w4⟩ := h1)
 (unfold OpL at h; obtain ⟨_, _, rfl, h1, h⟩ := h; unfold Op at h1; obtain ⟨a5, rfl, w5⟩ := h1)
 (unfold OpL at h; obtain ⟨_, _, rfl, h1, h⟩ := h; unfold Op at h1; obtain ⟨a6, rfl, w6⟩ := h1)
 (unfold OpL at h; obtain ⟨_, _, rfl, h1, h⟩ := h; unfold Op at h1; obtain ⟨a7, rfl, w7⟩ := h1)
 (unfold OpL at h; obtain ⟨_, _, rfl, h1, h⟩ := h; unfold Op at h1; obtain ⟨a8, rfl, w8⟩ := h1)
 (unfold OpL at h; obtain ⟨_, _, rfl, h1, h⟩ := h; unfold Op at h1; obtain ⟨a9, rfl, w9⟩ := h1)
 unfold OpL at h
 obtain ⟨_, _, rfl, hm, h'⟩ := h
 have h := hm
 unfold Op at h
 (unfold OpL at h; obtain ⟨_, _, rfl, h1, h⟩ := h; unfold Op at h1; obtain ⟨b0, rfl, v0⟩ := h1)
 (unfold OpL at h; obtain ⟨_, _, rfl, h1, h⟩ := h; unfold Op at h1; obtain ⟨b1, rfl, v1⟩ := h1)
 (unfold OpL at h; subst h)
 have h := h'
 unfold OpL at h
 obtain ⟨_, _, rfl, h1, h⟩ := h
 obtain ⟨L, rfl, hl, hL⟩ := op_list op_dcc h1
 unfold OpL at h
 obtain ⟨_, _, rfl, h1, h⟩ := h
 obtain ⟨B, rfl, hb, hB⟩ := op_list (f := AV.str) (q := fun _ => True) (fun cz h => by unfold Op at h; obtain ⟨s, rfl, h1, _⟩ := h; exact ⟨s, rfl, trivial⟩) h1
 (unfold OpL at h; subst h)
 exact ⟨⟨a0, a1, a2, a3, a4, a5, a6, a7, a8, a9, b0, b1, L, B⟩, rfl, sz_op w0, sz_op w5, sz_op w7⟩
def clSz (c : CallX) : Prop := (szBig c.a.deal ∧ szBig c.l.frm ∧ szBig c.l.deal ∧ szBig c.l.party) ∧ dayIn c.day
theorem op_call (cz : List AV) (h : Op reachBytes callSh cz) : ∃ x : CallX, elemAV 19 cz = CallA x ∧ clSz x := by
 unfold callSh Op at h
 (unfold OpL at h; obtain ⟨_, _, rfl, h1, h⟩ := h; unfold Op at h1; obtain ⟨a0, rfl, w0⟩ := h1)
 (unfold OpL at h; obtain ⟨_, _, rfl, h1, h⟩ := h; unfold Op at h1; obtain ⟨a1, rfl, w1⟩ := h1)
 unfold OpL at h
 obtain ⟨_, _, rfl, hm, h'⟩ := h
 have h := hm
 unfold Op at h
 (unfold OpL at h; obtain ⟨_, _, rfl, h1, h⟩ := h; unfold Op at h1; obtain ⟨b0, rfl, v0⟩ := h1)
 (unfold OpL at h; obtain ⟨_, _, rfl, h1, h⟩ := h; unfold Op at h1; obtain ⟨b1, rfl, v1⟩ := h1)
 (unfold OpL at h; obtain ⟨_, _, rfl, h1, h⟩ := h; unfold Op at h1; obtain ⟨b2, rfl, v2⟩ := h1)
 (unfold OpL at h; subst h)
 have h := h'
 unfold OpL at h
 obtain ⟨_, _, rfl, h1, h⟩ := h
 obtain ⟨x, rfl, g1, g2, g3⟩ := op_ltr _ h1
 (unfold OpL at h; subst h)
 obtain ⟨frm, to, number, kind, ack, deal, text, party, index, day, cur, amt, docs, boxes⟩ := x
 exact ⟨⟨a0, a1, ⟨b0, b1, b2⟩, ⟨frm, to, number, kind, ack, deal, text, party, index, day, cur, amt, docs, boxes⟩⟩, rfl, ⟨⟨sz_op v2, g1, g2, g3⟩, wf_i64 w1⟩⟩
theorem op_calls {cs : List AV} (h : Op reachBytes (.sl 19 callSh) cs) : ∃ L : List CallX, cs = [.sl 19 (mapA CallA L)] ∧ L.length ≤ maxLen ∧ ∀ a ∈ L, clSz a := op_list op_call h
theorem op_pt3 (cz : List AV) (h : Op reachBytes partySh cz) : ∃ x : Pt3, elemAV 3 cz = Pt3A x ∧ szBig x.name := by
 unfold partySh Op at h
 (unfold OpL at h; obtain ⟨_, _, rfl, h1, h⟩ := h; unfold Op at h1; obtain ⟨a0, rfl, w0⟩ := h1)
 (unfold OpL at h; obtain ⟨_, _, rfl, h1, h⟩ := h; unfold Op at h1; obtain ⟨a1, rfl, w1⟩ := h1)
 (unfold OpL at h; obtain ⟨_, _, rfl, h1, h⟩ := h; unfold Op at h1; obtain ⟨a2, rfl, w2⟩ := h1)
 (unfold OpL at h; subst h)
 exact ⟨⟨a0, a1, a2⟩, rfl, sz_op w0⟩
theorem op_en3 (cz : List AV) (h : Op reachBytes entrySh cz) : ∃ x : En3, elemAV 3 cz = En3A x ∧ True := by
 unfold entrySh Op at h
 (unfold OpL at h; obtain ⟨_, _, rfl, h1, h⟩ := h; unfold Op at h1; obtain ⟨a0, rfl, w0⟩ := h1)
 (unfold OpL at h; obtain ⟨_, _, rfl, h1, h⟩ := h; unfold Op at h1; obtain ⟨a1, rfl, w1⟩ := h1)
 (unfold OpL at h; obtain ⟨_, _, rfl, h1, h⟩ := h; unfold Op at h1; obtain ⟨a2, rfl, w2⟩ := h1)
 (unfold OpL at h; subst h)
 exact ⟨⟨a0, a1, a2⟩, rfl, trivial⟩
theorem op_lt2 (cz : List AV) (h : Op reachBytes lotSh cz) : ∃ x : Lt2, elemAV 2 cz = Lt2A x ∧ True := by
 unfold lotSh Op at h
 (unfold OpL at h; obtain ⟨_, _, rfl, h1, h⟩ := h; unfold Op at h1; obtain ⟨a0, rfl, w0⟩ := h1)
 (unfold OpL at h; obtain ⟨_, _, rfl, h1, h⟩ := h; unfold Op at h1; obtain ⟨a1, rfl, w1⟩ := h1)
 (unfold OpL at h; subst h)
 exact ⟨⟨a0, a1⟩, rfl, trivial⟩
theorem op_bx3 (cz : List AV) (h : Op reachBytes boxSh cz) : ∃ x : Bx3, elemAV 3 cz = Bx3A x ∧ szBig x.mark := by
 unfold boxSh Op at h
 (unfold OpL at h; obtain ⟨_, _, rfl, h1, h⟩ := h; unfold Op at h1; obtain ⟨a0, rfl, w0⟩ := h1)
 (unfold OpL at h; obtain ⟨_, _, rfl, h1, h⟩ := h; unfold Op at h1; obtain ⟨a1, rfl, w1⟩ := h1)
 unfold OpL at h
 obtain ⟨_, _, rfl, h1, h⟩ := h
 obtain ⟨L, rfl, hl, hL⟩ := op_list op_lt2 h1
 (unfold OpL at h; subst h)
 exact ⟨⟨a0, a1, L⟩, rfl, sz_op w0⟩
def deSz (d : DeX) : Prop := d.boxes.length ≤ maxLen ∧ (∀ b ∈ d.boxes, szBig b.mark) ∧ szBig d.number ∧ szBig d.seller ∧ szBig d.buyer ∧ szBig d.carrier ∧ szBig d.house ∧ szBig d.frm ∧ szBig d.to
theorem op_dex (cz : List AV) (h : Op reachBytes dealSh cz) : ∃ x : DeX, elemAV 17 cz = DeXA x ∧ deSz x := by
 unfold dealSh Op at h
 (unfold OpL at h; obtain ⟨_, _, rfl, h1, h⟩ := h; unfold Op at h1; obtain ⟨a0, rfl, w0⟩ := h1)
 (unfold OpL at h; obtain ⟨_, _, rfl, h1, h⟩ := h; unfold Op at h1; obtain ⟨a1, rfl, w1⟩ := h1)
 (unfold OpL at h; obtain ⟨_, _, rfl, h1, h⟩ := h; unfold Op at h1; obtain ⟨a2, rfl, w2⟩ := h1)
 (unfold OpL at h; obtain ⟨_, _, rfl, h1, h⟩ := h; unfold Op at h1; obtain ⟨a3, rfl, w3⟩ := h1)
 (unfold OpL at h; obtain ⟨_, _, rfl, h1, h⟩ := h; unfold Op at h1; obtain ⟨a4, rfl, w4⟩ := h1)
 (unfold OpL at h; obtain ⟨_, _, rfl, h1, h⟩ := h; unfold Op at h1; obtain ⟨a5, rfl, w5⟩ := h1)
 (unfold OpL at h; obtain ⟨_, _, rfl, h1, h⟩ := h; unfold Op at h1; obtain ⟨a6, rfl, w6⟩ := h1)
 (unfold OpL at h; obtain ⟨_, _, rfl, h1, h⟩ := h; unfold Op at h1; obtain ⟨a7, rfl, w7⟩ := h1)
 (unfold OpL at h; obtain ⟨_, _, rfl, h1, h⟩ := h; unfold Op at h1; obtain ⟨a8, rfl, w8⟩ := h1)
 unfold OpL at h
 obtain ⟨_, _, rfl, hm, h'⟩ := h
 have h := hm
 unfold Op at h
 (unfold OpL at h; obtain ⟨_, _, rfl, h1, h⟩ := h; unfold Op at h1; obtain ⟨b0, rfl, v0⟩ := h1)
 (unfold OpL at h; obtain ⟨_, _, rfl, h1, h⟩ := h; unfold Op at h1; obtain ⟨b1, rfl, v1⟩ := h1)
 (unfold OpL at h; subst h)
 have h := h'
 unfold OpL at h
 obtain ⟨_, _, rfl, h1, h⟩ := h
 obtain ⟨L, rfl, hl, hL⟩ := op_list op_bx3 h1
 (unfold OpL at h; obtain ⟨_, _, rfl, h1, h⟩ := h; unfold Op at h1; obtain ⟨c0, rfl, u0⟩ := h1)
 (unfold OpL at h; obtain ⟨_, _, rfl, h1, h⟩ := h; unfold Op at h1; obtain ⟨c1, rfl, u1⟩ := h1)
 (unfold OpL at h; obtain ⟨_, _, rfl, h1, h⟩ := h; unfold Op at h1; obtain ⟨c2, rfl, u2⟩ := h1)
 (unfold OpL at h; obtain ⟨_, _, rfl, h1, h⟩ := h; unfold Op at h1; obtain ⟨c3, rfl, u3⟩ := h1)
 (unfold OpL at h; obtain ⟨_, _, rfl, h1, h⟩ := h; unfold Op at h1; obtain ⟨c4, rfl, u4⟩ := h1)
 (unfold OpL at h; subst h)
 exact ⟨⟨a0, a1, a2, a3, a4, a5, a6, a7, a8, b0, b1, L, c0, c1, c2, c3, c4⟩, rfl, ⟨hl, hL, sz_op w0, sz_op w1, sz_op w2, sz_op w3, sz_op w5, sz_op w7, sz_op w8⟩⟩
def SuL : SuX → List AV
 | ⟨parties, deals, funds, rest, holidays⟩ => [.sl 3 (mapA Pt3A parties), .sl 17 (mapA DeXA deals), .sl 3 (mapA En3A funds), .sl 1 (mapA IntA rest), .sl 1 (mapA IntA holidays)]
theorem SuA_L (s : SuX) : .agg (SuL s) = SuA s := by obtain ⟨parties, deals, funds, rest, holidays⟩ := s; rfl
theorem op_setup (cz : List AV) (h : Op reachBytes setupSh cz) : ∃ s : SuX, cz = SuL s ∧ SuIn s := by
 unfold setupSh Op at h
 unfold OpL at h
 obtain ⟨_, _, rfl, h1, h⟩ := h
 obtain ⟨P, rfl, hp, hP⟩ := op_list op_pt3 h1
 unfold OpL at h
 obtain ⟨_, _, rfl, h1, h⟩ := h
 obtain ⟨D, rfl, hd, hD⟩ := op_list op_dex h1
 unfold OpL at h
 obtain ⟨_, _, rfl, h1, h⟩ := h
 obtain ⟨F, rfl, hf, hF⟩ := op_list op_en3 h1
 unfold OpL at h
 obtain ⟨_, _, rfl, hm, h⟩ := h
 (unfold OpL at h; subst h)
 have h := hm
 unfold Op at h
 unfold OpL at h
 obtain ⟨_, _, rfl, h1, h⟩ := h
 obtain ⟨R, rfl, hr, hR⟩ := op_ints h1
 unfold OpL at h
 obtain ⟨_, _, rfl, h1, h⟩ := h
 obtain ⟨G, rfl, hg, hG⟩ := op_ints h1
 (unfold OpL at h; subst h)
 exact ⟨⟨P, D, F, R, G⟩, rfl, ⟨hp, hd, hP, hD⟩⟩
section
open Go.ChangeShapes Go.WideShapes Go.Deep
end
theorem lw_of {s : SuX} {name : ByteArray} {l : List CallX} (h0 : SuIn s) (h1 : name.size ≤ reachBytes) (h2 : l.length ≤ maxLen) (h3 : ∀ a ∈ l, clSz a) : LwP ⟨s, name, l⟩ := ⟨⟨h0, Nat.le_trans h1 reach47, ⟨h2, fun c hc => (h3 c hc).1⟩⟩, fun o ho => (h3 o ho).2⟩
theorem sh_setup : shOf Tryz.prog 9 29 = some setupSh := by kernel_rfl
theorem sh_calls : shOf Tryz.prog 9 30 = some (.sl 19 callSh) := by kernel_rfl
end Go.Proofs.YtigdiekbiphhmaaGreatDoor
namespace Go.Proofs.YtigdiekbiphhmaaGreatDoor
open Go
theorem and_tt {a b : Bool} (ha : a = true) (hb : b = true) : (a && b) = true := by rw [ha, hb]; rfl
theorem jf_all {P : Program} {f : FuncId} {fn : Func} {s : ChangeSpec} {c : OpenClaim} (h0 : (c.wf (OpenSpec.ofChange s)) = true) (h1 : (laidOutB P) = true) (h2 : (mapsRowed P) = true) (h3 : (fn.params.all (P.readableRec ·)) = true) (h4 : (namedTie P c.named s.vars) = true) (h5 : ((c.stops == [])) = true) (h6 : ((P.stops == [])) = true) (h7 : ((c.knobs == [])) = true) (h8 : ((P.stopKnobs == [])) = true) (h9 : ((c.inPlace == P.inPlace f)) = true) (h10 : ((c.unfollowed == P.unfollowed f)) = true) (h11 : ((c.recurses == P.recurses f)) = true) (h12 : ((c.named == P.varsNamed f)) = true) (h13 : ((c.maps == (fn.params.toList ++ s.plain.varTypes P).any (P.mapsRec ·))) = true) (h14 : ((c.ifaces == (fn.params.toList ++ s.plain.varTypes P).any (P.ifacesRec ·))) = true) (h15 : ((c.mapsOut == P.mapsAmong fn.resultTypes.toList)) = true) (h16 : ((c.loops == (fn.params.toList ++ s.plain.varTypes P).any (P.loopsFrom ·))) = true) (h17 : ((c.wideKeys == (fn.params.toList ++ s.plain.varTypes P ++ fn.resultTypes.toList).any (P.wideKeysFrom ·))) = true) (h18 : (s.vars.all (P.varReadable ·)) = true) (h19 : (fn.resultTypes.all (fun t => P.readableRec t && decide (t < P.types.size))) = true) (h20 : ((c.ifacesOut == fn.resultTypes.toList.any (P.ifacesRec ·))) = true) (h21 : ((c.loopsOut == fn.resultTypes.toList.any (P.loopsFrom ·))) = true) (h22 : ((c.plainKeys == P.plainKeys)) = true) (h23 : (c.shortTexts.isNone) = true) (h24 : (P.stopsHeard) = true) (h25 : (P.mayEnter) = true) (h26 : ((c.lifted == P.liftsFinal)) = true) (h27 : ((P.make == some c.make)) = true) (h28 : ((c.kinds == (if c.domain.isEmpty then [] else fn.params.toList.map fun t => match P.underlying t with | some (.int k) => some k | _ => none))) = true) (h29 : ((c.pinned == c.pinnedBy)) = true) (h30 : ((c.veiled == (fn.params.toList ++ s.plain.varTypes P ++ fn.resultTypes.toList).any (P.veiledRec ·))) = true) (h31 : (c.veiledFits P fn.params.toList (fn.params.toList ++ s.plain.varTypes P ++ fn.resultTypes.toList)) = true) : joinedFacts P f fn s c = true := (and_tt (and_tt (and_tt (and_tt (and_tt (and_tt (and_tt (and_tt (and_tt (and_tt (and_tt (and_tt (and_tt (and_tt (and_tt (and_tt (and_tt (and_tt (and_tt (and_tt (and_tt (and_tt (and_tt (and_tt (and_tt (and_tt (and_tt (and_tt (and_tt (and_tt (and_tt h0 h1) h2) h3) h4) h5) h6) h7) h8) h9) h10) h11) h12) h13) h14) h15) h16) h17) h18) h19) h20) h21) h22) h23) h24) h25) h26) h27) h28) h29) h30) h31)
theorem jf_laid : laidOutB Tryz.pinned.checked.prog = true := by kernel_rfl
theorem jf_rowed : mapsRowed Tryz.pinned.checked.prog = true := by kernel_rfl
theorem jf_heard : Tryz.pinned.checked.prog.stopsHeard = true := by kernel_rfl
theorem jf_enter : Tryz.pinned.checked.prog.mayEnter = true := by kernel_rfl
end Go.Proofs.YtigdiekbiphhmaaGreatDoor
end
