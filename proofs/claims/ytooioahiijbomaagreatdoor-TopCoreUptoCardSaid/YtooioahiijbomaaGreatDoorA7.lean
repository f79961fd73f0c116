/-
  Texts of this proof, joined: FN, FL, FP, NumLib, Number, GA, GB, GC, HO, VO, GO, GP.
-/
import Derived.Test.YtooioahiijbomaaGreatDoorA6
import Derived.Shelf.RegionOpenPlain
import Derived.WalkKit
import Derived.Deep.LoopGhost
import Derived.Deep.RegionLaw
import Derived.Lib.Walk
import Derived.Lib.SliceRun
import Derived.Lib.ReflectliteSwap
import Derived.KernelRfl
import Derived.Test.YtooioahiijbomaaGreatDoorChecked
import Derived.Shelf.Strconv.ErrVarParseInt
import Derived.Shelf.Strconv.Itoa4
import Derived.Lib.AtoiErrMem
import Derived.Lib.AppendIntMem
import Derived.Shelf.Strings.OnBuilder
import Derived.Shelf.Strings.Builder1
import Derived.Shelf.GgClosure.StringsRunes
import Derived.Deep.Slices
import Derived.Deep.Fields
import Derived.ChangeSame
import Derived.ProofKit
import Derived.OpenShut
import Derived.ChangeOld
import Derived.Below
import Derived.Test.YtooioahiijbomaaGreatDoorRows
set_option linter.unusedVariables false
set_option linter.unusedSimpArgs false
noncomputable section
namespace Go.Proofs.YtooioahiijbomaaGreatDoor
open Go.RowKit
set_option maxHeartbeats 8000000
set_option maxRecDepth 100000
theorem lo_len : ∀ l : List Lo, 3 * l.length ≤ loW l
 | [] => Nat.le_refl _
 | x :: l => by
  have := lo_len l
  have e : loW (x :: l) = x.good.size + 3 + loW l := by unfold loW; rw [List.map_cons, List.sum_cons]
  rw [e, List.length_cons]
  omega
theorem lo_mem : ∀ (l : List Lo) (x : Lo), x ∈ l → x.good.size + 3 ≤ loW l
 | y :: l, x, h => by
  have e : loW (y :: l) = y.good.size + 3 + loW l := by unfold loW; rw [List.map_cons, List.sum_cons]
  rcases List.mem_cons.1 h with rfl | h
  ·omega
  ·have := lo_mem l x h; omega
theorem boW_cons (b : Bx) (l : List Bx) : boW (b :: l) = b.mark.size + 3 + loW b.lots + boW l := by unfold boW; rw [List.map_cons, List.sum_cons]
theorem boW_app (l m : List Bx) : boW (l ++ m) = boW l + boW m := by unfold boW; rw [List.map_append, List.sum_append]
theorem bo_mem : ∀ (l : List Bx) (b : Bx), b ∈ l → b.mark.size + 3 + loW b.lots ≤ boW l
 | y :: l, b, h => by
  rw [boW_cons]
  rcases List.mem_cons.1 h with rfl | h
  ·omega
  ·have := bo_mem l b h; omega
theorem bo_len : ∀ l : List Bx, 3 * l.length ≤ boW l
 | [] => Nat.le_refl _
 | x :: l => by
  have := bo_len l
  rw [boW_cons, List.length_cons]
  omega
theorem bo_all : ∀ l : List Bx, 3 * (allLo l).length ≤ boW l
 | [] => Nat.le_refl _
 | x :: l => by
  have := bo_all l
  have h2 := lo_len x.lots
  have e : allLo (x :: l) = x.lots ++ allLo l := by unfold allLo; rw [List.flatMap_cons]
  rw [boW_cons, e, List.length_append]
  omega
theorem lo_ok {l : List Bx} (h : BxW l) {b : Bx} (hb : b ∈ l) : LoOk b.lots := by
 have h1 := bo_mem l b hb
 have h2 := lo_len b.lots
 have h3 := h.w
 exact ⟨by omega, fun x hx => by have := lo_mem _ x hx; omega, fun x hx => h.c b hb x hx⟩
theorem all_ok {l : List Bx} (h : BxW l) : LoOk (allLo l) := by
 have h1 := bo_all l
 have h3 := h.w
 refine ⟨by omega, fun x hx => ?_, fun x hx => ?_⟩
 ·obtain ⟨b, hb, hx⟩ := List.mem_flatMap.1 hx
  exact (lo_ok h hb).g x hx
 ·obtain ⟨b, hb, hx⟩ := List.mem_flatMap.1 hx
  exact h.c b hb x hx
inductive LiS : AV → ByteArray → List AV → Nat → Nat → Prop
 | e {m : Nat} : LiS (.v (.pointer none)) ⟨#[]⟩ [] 0 m
 | t {o : ByteArray} {xs : List AV} {k m : Nat} (h : OxTo m ⟨o, xs⟩) : 0 < k → LiS (.ptr 0 0) o xs k m
structure LiI (l : List Bx) where
 k : Nat
 sl : AV
 o : ByteArray
 xs : List AV
 hk : k ≤ l.length
 h : LiS sl o xs k (boW (l.take k) * 1048600)
structure ListF (P : Program) : Prop where
 ml : MayCall P 249
 tl : FnOk P 249 TellPC
 sz : FnOk P 251 SizeC
 ct : FnOk P 252 ContC
 we : FnOk P 56 WrEC
 wt : FnOk P 56 WrC
 st : FnOk P 62 StrTC
theorem list_body (P : Program) (F : ListF P) : BodyOk P x174 ListC := by
 intro args H K hcc
 obtain ⟨l, rfl, rfl, hp, hK⟩ := hcc
 refine ⟨nb9, ?_⟩
 try dsimp only at hK
 have hpw := hp.w
 have hbl := bo_len l
 have hal := bo_all l
 have hml := mapA_len BxA l
 have s1 : (ByteArray.mk #[32]).size = 1 := rfl
 obtain ⟨n, hnn⟩ : ∃ n, n = l.length := ⟨_, rfl⟩
 cbv; repeat' ((first | refine .k fun z hz => ?_ | fail) <;> cbv)
 refine xloopG (Gh.adoptC 0 1 5 1 rfl rfl) ?_
 cbv
 refine xloopV [0, 1] (fun q : LiI l => [(3, .ptr 0 0), (4, .clo 249 [.ptr 0 0]), (10, .i (nI q.k))]) (fun q => [.blk 133 [q.sl, .hd 1], .row 5 1 q.xs]) (fun q => lft n q.k) ⟨0, .v (.pointer none), ⟨#[]⟩, [], Nat.zero_le _, .e⟩ ?_
 rintro ⟨k, sl, o, xs, hk, h⟩
 try dsimp only at hk h ⊢
 rcases Nat.lt_or_ge k l.length with hks | hks
 ·obtain ⟨⟨mark, kind, lots⟩, hx⟩ := some_at hks
  have hm := List.mem_of_getElem? hx
  have hlo := lo_ok hp hm
  have hbm := bo_mem l _ hm
  have hw1 := lo_len lots
  dsimp only at hlo hbm
  have htk : boW (l.take (k + 1)) = boW (l.take k) + (mark.size + 3 + loW lots) := by
   rw [take_some hx, boW_app, boW_cons]; rfl
  have htl : boW (l.take (k + 1)) ≤ boW l := by
   have e : l = l.take (k + 1) ++ l.drop (k + 1) := (List.take_append_drop _ _).symm
   have := boW_app (l.take (k + 1)) (l.drop (k + 1))
   rw [← e] at this
   omega
  cases h with
  | e =>
   cbv; repeat' ((first | refine .e ?_ | refine .y fun h => ?_ | refine .u fun u hu hul => ?_ | fail) <;> cbv)
   refine callG_specN F.sz kind [] trivial rfl rfl (by decide) rfl rfl rfl rfl rfl fun t ht => ?_
   cbv; repeat' ((first | refine .u fun u hu hul => ?_ | fail) <;> cbv)
   refine callG_specN F.we u [0, 1] ⟨by omega, by omega⟩ rfl rfl (by decide) rfl rfl rfl rfl rfl fun ys hys => ?_
   cbv; repeat' ((first | refine And.intro ?_ ?_ | fail) <;> cbv)
   ·exact F.ml
   refine callG_specN F.tl ((lots, ⟨u, ys⟩) : List Lo × OX) [0, 1] ⟨hlo, hys, (show u.size ≠ 0 by omega), (show u.size ≤ 8796093022208 by omega)⟩ rfl rfl (by decide) rfl rfl rfl rfl rfl fun k2 hk2 => ?_
   obtain ⟨o3, xs3⟩ := k2
   cbv; repeat' ((first | refine .k fun z hz => ?_ | fail) <;> cbv)
   obtain rfl : z = nI (0 + 1) := om9
   exact roundV ⟨0 + 1, .ptr 0 0, o3, xs3, by exact om9, .t ⟨hk2.x, hk2.z, by have := hk2.l; dsimp only at this ⊢; omega⟩ (by decide)⟩ (lft_lt om9)
  | t hT hk0 =>
   have hTl := hT.l
   have hTz := hT.z
   have hTx := hT.x
   dsimp only at hTl hTz hTx
   cbv; repeat' ((first | refine .e ?_ | refine .y fun h => ?_ | refine .u fun u hu hul => ?_ | fail) <;> cbv)
   refine callG_specN F.sz kind [] trivial rfl rfl (by decide) rfl rfl rfl rfl rfl fun t ht => ?_
   cbv; repeat' ((first | refine .u fun u hu hul => ?_ | fail) <;> cbv)
   refine callG_specN F.wt (⟨o, xs, u⟩ : BI) [0, 1] ⟨hTx, hTz, (show u.size ≠ 0 by omega), (show o.size + u.size ≤ 140737488355328 by omega)⟩ rfl rfl (by decide) rfl rfl rfl rfl rfl fun ys hys => ?_
   obtain ⟨o2, ho2⟩ : ∃ o2, o2 = o ++ u := ⟨_, rfl⟩
   have hz2 : o2.size = o.size + u.size := by rw [ho2]; exact ByteArray.size_append
   replace hys : ys = bytA o2 := by rw [ho2]; exact hys
   cbv; repeat' ((first | refine And.intro ?_ ?_ | fail) <;> cbv)
   ·exact F.ml
   refine callG_specN F.tl ((lots, ⟨o2, ys⟩) : List Lo × OX) [0, 1] ⟨hlo, hys, (show o2.size ≠ 0 by omega), (show o2.size ≤ 8796093022208 by omega)⟩ rfl rfl (by decide) rfl rfl rfl rfl rfl fun k2 hk2 => ?_
   obtain ⟨o3, xs3⟩ := k2
   cbv; repeat' ((first | refine .k fun z hz => ?_ | fail) <;> cbv)
   obtain rfl : z = nI (k + 1) := om9
   exact roundV ⟨k + 1, .ptr 0 0, o3, xs3, by exact om9, .t ⟨hk2.x, hk2.z, by have := hk2.l; dsimp only at this ⊢; omega⟩ (by omega)⟩ (lft_lt om9)
 ·have hke : k = l.length := by omega
  have hao := all_ok hp
  have htk : boW (l.take k) = boW l := by rw [hke, List.take_length]
  rw [htk] at h
  obtain ⟨w, hw⟩ : ∃ w : ByteArray, w = ⟨#[97, 108, 108]⟩ := ⟨_, rfl⟩
  cases h with
  | e =>
   cbv; repeat' ((first | refine .n fun h => ?_ | fail) <;> cbv)
   refine callG_specN F.we (⟨#[97, 108, 108]⟩ : ByteArray) [0, 1] ⟨(show (3 : Nat) ≠ 0 by decide), (show (3 : Nat) ≤ 140737488355328 by decide)⟩ rfl rfl (by decide) rfl rfl rfl rfl rfl fun ys hys => ?_
   cbv
   refine callG_specN F.ct l [] ⟨by omega, hao⟩ rfl rfl (by decide) rfl rfl rfl rfl rfl fun L hL => ?_
   have hLn := hL.n
   cbv; repeat' ((first | refine And.intro ?_ ?_ | fail) <;> cbv)
   ·exact F.ml
   refine callG_specN F.tl ((L, ⟨⟨#[97, 108, 108]⟩, ys⟩) : List Lo × OX) [0, 1] ⟨⟨(show L.length ≤ 524288 by omega), fun x hx => (hL.g x hx).1, fun x hx => (hL.g x hx).2⟩, hys, (show (3 : Nat) ≠ 0 by decide), (show (3 : Nat) ≤ 8796093022208 by decide)⟩ rfl rfl (by decide) rfl rfl rfl rfl rfl fun k2 hk2 => ?_
   obtain ⟨o3, xs3⟩ := k2
   have h3l := hk2.l
   have h3x := hk2.x
   have s3 : (ByteArray.mk #[97, 108, 108]).size = 3 := rfl
   dsimp only at h3l h3x
   have hK := hK o3 (by omega)
   cbv
   (refine cs9 F.st (⟨o3, xs3, ⟨#[]⟩⟩ : BI) [0, 1] h3x ?_; try dsimp only)
   cbv
   (refine .r9 (Gh.refl _) ?_; cbv; exact .inl (.f9 hK))
  | t hT hk0 =>
   have hTl := hT.l
   have hTz := hT.z
   have hTx := hT.x
   dsimp only at hTl hTz hTx
   cbv; repeat' ((first | refine .n fun h => ?_ | fail) <;> cbv)
   refine callG_specN F.wt (⟨o, xs, ⟨#[97, 108, 108]⟩⟩ : BI) [0, 1] ⟨hTx, hTz, (show (3 : Nat) ≠ 0 by decide), (show o.size + 3 ≤ 140737488355328 by omega)⟩ rfl rfl (by decide) rfl rfl rfl rfl rfl fun ys hys => ?_
   obtain ⟨o2, ho2⟩ : ∃ o2, o2 = o ++ ⟨#[97, 108, 108]⟩ := ⟨_, rfl⟩
   have hz2 : o2.size = o.size + 3 := by rw [ho2]; exact ByteArray.size_append
   replace hys : ys = bytA o2 := by rw [ho2]; exact hys
   cbv
   refine callG_specN F.ct l [] ⟨by omega, hao⟩ rfl rfl (by decide) rfl rfl rfl rfl rfl fun L hL => ?_
   have hLn := hL.n
   cbv; repeat' ((first | refine And.intro ?_ ?_ | fail) <;> cbv)
   ·exact F.ml
   refine callG_specN F.tl ((L, ⟨o2, ys⟩) : List Lo × OX) [0, 1] ⟨⟨(show L.length ≤ 524288 by omega), fun x hx => (hL.g x hx).1, fun x hx => (hL.g x hx).2⟩, hys, (show o2.size ≠ 0 by omega), (show o2.size ≤ 8796093022208 by omega)⟩ rfl rfl (by decide) rfl rfl rfl rfl rfl fun k2 hk2 => ?_
   obtain ⟨o3, xs3⟩ := k2
   have h3l := hk2.l
   have h3x := hk2.x
   dsimp only at h3l h3x
   have hK := hK o3 (by omega)
   cbv
   (refine cs9 F.st (⟨o3, xs3, ⟨#[]⟩⟩ : BI) [0, 1] h3x ?_; try dsimp only)
   cbv
   (refine .r9 (Gh.refl _) ?_; cbv; exact .inl (.f9 hK))
structure PrO where
 t : ByteArray
 e : Int
def PrintC : Ctr := specN (fun c : Cr => [CrA c]) (fun _ => []) CrSz (fun c (o : PrO) => o.e = 0 → MayOk c) (fun _ o => .tup [.str o.t, .i o.e]) fun _ _ => []
theorem print_body (P : Program) (hc : FnOk P 74 CrMayC) (hw : FnOk P 75 WrtC) : BodyOk P x25 PrintC := by
 intro args H K hcc
 obtain ⟨⟨number, applicant, beneficiary, issuer, confirmer, frm, to, cur, amt, above, below, latest, expiry, within, tenor, partial_, change, needs⟩, rfl, rfl, hp, hK⟩ := hcc
 refine ⟨nb9, ?_⟩
 try dsimp only at hK
 cbv
 refine callG_specN hc (⟨number, applicant, beneficiary, issuer, confirmer, frm, to, cur, amt, above, below, latest, expiry, within, tenor, partial_, change, needs⟩ : Cr) [] hp rfl rfl (by decide) rfl rfl rfl rfl rfl fun b hb => ?_
 cases b
 ·have hK := hK ⟨⟨#[]⟩, 1⟩ (fun h => absurd (show (1 : Int) = 0 from h) (by decide))
  cbv
  (refine .r9 (Gh.refl _) ?_; cbv; exact .inl (.f9 hK))
 ·have hm := hb rfl
  cbv
  refine callG_specN hw (⟨number, applicant, beneficiary, issuer, confirmer, frm, to, cur, amt, above, below, latest, expiry, within, tenor, partial_, change, needs⟩ : Cr) [] hp rfl rfl (by decide) rfl rfl rfl rfl rfl fun t ht => ?_
  have hK7 := hK ⟨⟨#[]⟩, 7⟩ (fun h => absurd (show (7 : Int) = 0 from h) (by decide))
  have hK0 := hK ⟨t, 0⟩ (fun _ => hm)
  cbv; repeat' ((first | refine .mk (fun h => ?_) fun h => ?_ | refine .k fun z hz => ?_ | fail) <;> cbv)
  ·(refine .r9 (Gh.refl _) ?_; cbv; exact .inl (.f9 hK7))
  ·(refine .r9 (Gh.refl _) ?_; cbv; exact .inl (.f9 hK0))
theorem may_body (P : Program) (hp : FnOk P 25 PrintC) : BodyOk P x30 MayC := by
 intro args H K hcc
 obtain ⟨⟨number, applicant, beneficiary, issuer, confirmer, frm, to, cur, amt, above, below, latest, expiry, within, tenor, partial_, change, needs⟩, rfl, rfl, hp1, hK⟩ := hcc
 refine ⟨nb9, ?_⟩
 try dsimp only at hK
 cbv
 refine callG_specN hp (⟨number, applicant, beneficiary, issuer, confirmer, frm, to, cur, amt, above, below, latest, expiry, within, tenor, partial_, change, needs⟩ : Cr) [] hp1 rfl rfl (by decide) rfl rfl rfl rfl rfl fun ⟨t, e⟩ ho => ?_
 try dsimp only at ho
 by_cases h0 : e = 0
 ·have hK := hK true (fun _ => ho h0)
  subst h0
  cbv; repeat' ((first | refine .y fun h => ?_ | fail) <;> cbv)
  (refine .r9 (Gh.refl _) ?_; cbv; exact .inl (.f9 hK))
 ·have hK := hK false (fun h => nomatch h)
  cbv; repeat' ((first | refine .n fun h => ?_ | fail) <;> cbv)
  (refine .r9 (Gh.refl _) ?_; cbv; exact .inl (.f9 hK))
end Go.Proofs.YtooioahiijbomaaGreatDoor
namespace Go.Proofs.YtooioahiijbomaaGreatDoor
open Go.RowKit Go.Shelf Go.Lib
set_option maxHeartbeats 4000000
set_option maxRecDepth 1000000
theorem z_doc (w : World) : (zeroValue 88).run Tryz.prog w = .ok (.agg #[.int .i64 0, .string ⟨#[]⟩, .string ⟨#[]⟩, .slice none 0 0]) w := Tryz.zeroValue88 w
end Go.Proofs.YtooioahiijbomaaGreatDoor
namespace Go.Proofs.YtooioahiijbomaaGreatDoor
open Go.Shelf Go.RowKit
set_option maxRecDepth 100000
def laysM173_ren : Go.Shelf.Ren := ⟨fun | 173 => 99 | 246 => 189 | 283 => 262 | 284 => 263 | 285 => 264 | 286 => 265 | 129 => 277 | 317 => 304 | 318 => 305 | 319 => 306 | 320 => 307 | 337 => 321 | 338 => 322 | n => n, fun | 2 => 2 | 3 => 3 | 9 => 9 | 4 => 4 | 171 => 307 | 0 => 0 | 53 => 271 | 37 => 131 | 5 => 5 | 173 => 309 | 212 => 336 | 51 => 269 | 20 => 20 | 213 => 337 | 46 => 209 | 232 => 361 | 233 => 362 | n => n, fun | 17 => 8 | 18 => 10 | 19 => 11 | n => n⟩
theorem laysM173 : Go.Proofs.LaysM.n173 Tryz.prog laysM173_ren := {
  mixed := by kernel_rfl
  f129 := Tryz.func277.trans (congrArg some (by kernel_rfl))
  f173 := Tryz.func99.trans (congrArg some (by kernel_rfl))
  f246 := Tryz.func189.trans (congrArg some (by kernel_rfl))
  f283 := Tryz.func262.trans (congrArg some (by kernel_rfl))
  f284 := Tryz.func263.trans (congrArg some (by kernel_rfl))
  f285 := Tryz.func264.trans (congrArg some (by kernel_rfl))
  f286 := Tryz.func265.trans (congrArg some (by kernel_rfl))
  f317 := Tryz.func304.trans (congrArg some (by kernel_rfl))
  f318 := Tryz.func305.trans (congrArg some (by kernel_rfl))
  f319 := Tryz.func306.trans (congrArg some (by kernel_rfl))
  f320 := Tryz.func307.trans (congrArg some (by kernel_rfl))
  f337 := Tryz.func321.trans (congrArg some (by kernel_rfl))
  f338 := Tryz.func322.trans (congrArg some (by kernel_rfl))
  t0 := Tryz.underlying0
  a0 := Tryz.isAgg0
  z0 := Tryz.sizeOf0
  v0 := Tryz.zeroValue0
  t2 := Tryz.underlying2
  a2 := Tryz.isAgg2
  z2 := Tryz.sizeOf2
  v2 := Tryz.zeroValue2
  t3 := Tryz.underlying3
  a3 := Tryz.isAgg3
  z3 := Tryz.sizeOf3
  v3 := Tryz.zeroValue3
  t4 := Tryz.underlying4
  a4 := Tryz.isAgg4
  z4 := Tryz.sizeOf4
  v4 := Tryz.zeroValue4
  t5 := Tryz.underlying5
  a5 := Tryz.isAgg5
  z5 := Tryz.sizeOf5
  v5 := Tryz.zeroValue5
  t9 := Tryz.underlying9
  a9 := Tryz.isAgg9
  z9 := Tryz.sizeOf9
  v9 := Tryz.zeroValue9
  t20 := Tryz.underlying20
  a20 := Tryz.isAgg20
  z20 := Tryz.sizeOf20
  v20 := Tryz.zeroValue20
  t37 := Tryz.underlying131
  a37 := Tryz.isAgg131
  z37 := Tryz.sizeOf131
  v37 := Tryz.zeroValue131
  t46 := Tryz.underlying209
  a46 := Tryz.isAgg209
  z46 := Tryz.sizeOf209
  v46 := Tryz.zeroValue209
  t51 := Tryz.underlying269
  a51 := Tryz.isAgg269
  z51 := Tryz.sizeOf269
  v51 := Tryz.zeroValue269
  t53 := Tryz.underlying271
  a53 := Tryz.isAgg271
  z53 := Tryz.sizeOf271
  v53 := Tryz.zeroValue271
  t171 := Tryz.underlying307
  a171 := Tryz.isAgg307
  z171 := Tryz.sizeOf307
  v171 := Tryz.zeroValue307
  t173 := Tryz.underlying309
  a173 := Tryz.isAgg309
  z173 := Tryz.sizeOf309
  v173 := Tryz.zeroValue309
  t212 := Tryz.underlying336
  a212 := Tryz.isAgg336
  z212 := Tryz.sizeOf336
  v212 := Tryz.zeroValue336
  t213 := Tryz.underlying337
  a213 := Tryz.isAgg337
  z213 := Tryz.sizeOf337
  t232 := Tryz.underlying361
  a232 := Tryz.isAgg361
  z232 := Tryz.sizeOf361
  v232 := Tryz.zeroValue361
  t233 := Tryz.underlying362
  a233 := Tryz.isAgg362
  z233 := Tryz.sizeOf362
  v233 := Tryz.zeroValue362
  g17 := by kernel_rfl
  g18 := by kernel_rfl
  g19 := by kernel_rfl
  i0 := by kernel_rfl
  i2 := by kernel_rfl
  i3 := by kernel_rfl
  i4 := by kernel_rfl
  i5 := by kernel_rfl
  i9 := by kernel_rfl
  i20 := by kernel_rfl
  i37 := by kernel_rfl
  i46 := by kernel_rfl
  i51 := by kernel_rfl
  i53 := by kernel_rfl
  i171 := by kernel_rfl
  i173 := by kernel_rfl
  i212 := by kernel_rfl
  i232 := by kernel_rfl
  i233 := by kernel_rfl
  m17 := by kernel_rfl
  m18 := by kernel_rfl
  m19 := by kernel_rfl }
def laysC174_ren : Go.Shelf.Ren := ⟨fun | 174 => 98 | 247 => 187 | 245 => 188 | 287 => 257 | 279 => 258 | 280 => 259 | 281 => 260 | 282 => 261 | 321 => 300 | 322 => 301 | 316 => 302 | 171 => 109 | 205 => 303 | 243 => 196 | 246 => 189 | 283 => 262 | 284 => 263 | 285 => 264 | 286 => 265 | 129 => 277 | 317 => 304 | 318 => 305 | 319 => 306 | 320 => 307 | 337 => 321 | 338 => 322 | n => n, fun | 9 => 9 | 3 => 3 | 2 => 2 | 75 => 135 | 85 => 196 | 4 => 4 | 167 => 301 | 5 => 5 | 53 => 271 | 175 => 302 | 46 => 209 | 168 => 304 | 37 => 131 | 0 => 0 | 210 => 333 | 21 => 21 | 127 => 218 | 145 => 353 | 143 => 351 | 171 => 307 | 173 => 309 | 212 => 336 | 51 => 269 | 20 => 20 | 213 => 337 | 232 => 361 | 233 => 362 | 80 => 144 | n => n, fun | 15 => 6 | 16 => 7 | 17 => 8 | 18 => 10 | 19 => 11 | n => n⟩
theorem laysC174 : Go.Proofs.LaysC.n174 Tryz.prog laysC174_ren := {
  mixed := by kernel_rfl
  f129 := Tryz.func277.trans (congrArg some (by kernel_rfl))
  f171 := Tryz.func109.trans (congrArg some (by kernel_rfl))
  f174 := Tryz.func98.trans (congrArg some (by kernel_rfl))
  f205 := Tryz.func303.trans (congrArg some (by kernel_rfl))
  f243 := Tryz.func196.trans (congrArg some (by kernel_rfl))
  f245 := Tryz.func188.trans (congrArg some (by kernel_rfl))
  f246 := Tryz.func189.trans (congrArg some (by kernel_rfl))
  f247 := Tryz.func187.trans (congrArg some (by kernel_rfl))
  f279 := Tryz.func258.trans (congrArg some (by kernel_rfl))
  f280 := Tryz.func259.trans (congrArg some (by kernel_rfl))
  f281 := Tryz.func260.trans (congrArg some (by kernel_rfl))
  f282 := Tryz.func261.trans (congrArg some (by kernel_rfl))
  f283 := Tryz.func262.trans (congrArg some (by kernel_rfl))
  f284 := Tryz.func263.trans (congrArg some (by kernel_rfl))
  f285 := Tryz.func264.trans (congrArg some (by kernel_rfl))
  f286 := Tryz.func265.trans (congrArg some (by kernel_rfl))
  f287 := Tryz.func257.trans (congrArg some (by kernel_rfl))
  f316 := Tryz.func302.trans (congrArg some (by kernel_rfl))
  f317 := Tryz.func304.trans (congrArg some (by kernel_rfl))
  f318 := Tryz.func305.trans (congrArg some (by kernel_rfl))
  f319 := Tryz.func306.trans (congrArg some (by kernel_rfl))
  f320 := Tryz.func307.trans (congrArg some (by kernel_rfl))
  f321 := Tryz.func300.trans (congrArg some (by kernel_rfl))
  f322 := Tryz.func301.trans (congrArg some (by kernel_rfl))
  f337 := Tryz.func321.trans (congrArg some (by kernel_rfl))
  f338 := Tryz.func322.trans (congrArg some (by kernel_rfl))
  t0 := Tryz.underlying0
  a0 := Tryz.isAgg0
  z0 := Tryz.sizeOf0
  v0 := Tryz.zeroValue0
  t2 := Tryz.underlying2
  a2 := Tryz.isAgg2
  z2 := Tryz.sizeOf2
  v2 := Tryz.zeroValue2
  t3 := Tryz.underlying3
  a3 := Tryz.isAgg3
  z3 := Tryz.sizeOf3
  v3 := Tryz.zeroValue3
  t4 := Tryz.underlying4
  a4 := Tryz.isAgg4
  z4 := Tryz.sizeOf4
  v4 := Tryz.zeroValue4
  t5 := Tryz.underlying5
  a5 := Tryz.isAgg5
  z5 := Tryz.sizeOf5
  v5 := Tryz.zeroValue5
  t9 := Tryz.underlying9
  a9 := Tryz.isAgg9
  z9 := Tryz.sizeOf9
  v9 := Tryz.zeroValue9
  t20 := Tryz.underlying20
  a20 := Tryz.isAgg20
  z20 := Tryz.sizeOf20
  v20 := Tryz.zeroValue20
  t21 := Tryz.underlying21
  a21 := Tryz.isAgg21
  z21 := Tryz.sizeOf21
  v21 := Tryz.zeroValue21
  t37 := Tryz.underlying131
  a37 := Tryz.isAgg131
  z37 := Tryz.sizeOf131
  v37 := Tryz.zeroValue131
  t46 := Tryz.underlying209
  a46 := Tryz.isAgg209
  z46 := Tryz.sizeOf209
  v46 := Tryz.zeroValue209
  t51 := Tryz.underlying269
  a51 := Tryz.isAgg269
  z51 := Tryz.sizeOf269
  v51 := Tryz.zeroValue269
  t53 := Tryz.underlying271
  a53 := Tryz.isAgg271
  z53 := Tryz.sizeOf271
  v53 := Tryz.zeroValue271
  t75 := Tryz.underlying135
  a75 := Tryz.isAgg135
  z75 := Tryz.sizeOf135
  v75 := Tryz.zeroValue135
  t85 := Tryz.underlying196
  a85 := Tryz.isAgg196
  z85 := Tryz.sizeOf196
  v85 := Tryz.zeroValue196
  t127 := Tryz.underlying218
  a127 := Tryz.isAgg218
  z127 := Tryz.sizeOf218
  v127 := Tryz.zeroValue218
  t143 := Tryz.underlying351
  a143 := Tryz.isAgg351
  z143 := Tryz.sizeOf351
  v143 := Tryz.zeroValue351
  t145 := Tryz.underlying353
  a145 := Tryz.isAgg353
  z145 := Tryz.sizeOf353
  v145 := Tryz.zeroValue353
  t167 := Tryz.underlying301
  a167 := Tryz.isAgg301
  z167 := Tryz.sizeOf301
  v167 := Tryz.zeroValue301
  t168 := Tryz.underlying304
  a168 := Tryz.isAgg304
  z168 := Tryz.sizeOf304
  v168 := Tryz.zeroValue304
  t171 := Tryz.underlying307
  a171 := Tryz.isAgg307
  z171 := Tryz.sizeOf307
  v171 := Tryz.zeroValue307
  t173 := Tryz.underlying309
  a173 := Tryz.isAgg309
  z173 := Tryz.sizeOf309
  v173 := Tryz.zeroValue309
  t175 := Tryz.underlying302
  a175 := Tryz.isAgg302
  z175 := Tryz.sizeOf302
  v175 := Tryz.zeroValue302
  t210 := Tryz.underlying333
  a210 := Tryz.isAgg333
  z210 := Tryz.sizeOf333
  v210 := Tryz.zeroValue333
  t212 := Tryz.underlying336
  a212 := Tryz.isAgg336
  z212 := Tryz.sizeOf336
  v212 := Tryz.zeroValue336
  t213 := Tryz.underlying337
  a213 := Tryz.isAgg337
  z213 := Tryz.sizeOf337
  t232 := Tryz.underlying361
  a232 := Tryz.isAgg361
  z232 := Tryz.sizeOf361
  v232 := Tryz.zeroValue361
  t233 := Tryz.underlying362
  a233 := Tryz.isAgg362
  z233 := Tryz.sizeOf362
  v233 := Tryz.zeroValue362
  g15 := by kernel_rfl
  g16 := by kernel_rfl
  g17 := by kernel_rfl
  g18 := by kernel_rfl
  g19 := by kernel_rfl
  t80 := Tryz.underlying144
  a80 := Tryz.isAgg144
  z80 := Tryz.sizeOf144
  v80 := Tryz.zeroValue144
  i0 := by kernel_rfl
  i2 := by kernel_rfl
  i3 := by kernel_rfl
  i4 := by kernel_rfl
  i5 := by kernel_rfl
  i9 := by kernel_rfl
  i20 := by kernel_rfl
  i21 := by kernel_rfl
  i37 := by kernel_rfl
  i46 := by kernel_rfl
  i51 := by kernel_rfl
  i53 := by kernel_rfl
  i75 := by kernel_rfl
  i80 := by kernel_rfl
  i85 := by kernel_rfl
  i127 := by kernel_rfl
  i143 := by kernel_rfl
  i145 := by kernel_rfl
  i167 := by kernel_rfl
  i168 := by kernel_rfl
  i171 := by kernel_rfl
  i173 := by kernel_rfl
  i175 := by kernel_rfl
  i210 := by kernel_rfl
  i212 := by kernel_rfl
  i232 := by kernel_rfl
  i233 := by kernel_rfl
  m15 := by kernel_rfl
  m16 := by kernel_rfl
  m17 := by kernel_rfl
  m18 := by kernel_rfl
  m19 := by kernel_rfl
  c0 := by kernel_rfl
  c2 := by kernel_rfl
  c3 := by kernel_rfl
  c4 := by kernel_rfl
  c5 := by kernel_rfl
  c9 := by kernel_rfl
  c20 := by kernel_rfl
  c21 := by kernel_rfl
  c37 := by kernel_rfl
  c46 := by kernel_rfl
  c51 := by kernel_rfl
  c53 := by kernel_rfl
  c75 := by kernel_rfl
  c80 := by kernel_rfl
  c85 := by kernel_rfl
  c127 := by kernel_rfl
  c143 := by kernel_rfl
  c145 := by kernel_rfl
  c167 := by kernel_rfl
  c168 := by kernel_rfl
  c171 := by kernel_rfl
  c173 := by kernel_rfl
  c175 := by kernel_rfl
  c210 := by kernel_rfl
  c212 := by kernel_rfl
  c213 := by kernel_rfl
  c232 := by kernel_rfl
  c233 := by kernel_rfl }
end Go.Proofs.YtooioahiijbomaaGreatDoor
namespace Go.Proofs.YtooioahiijbomaaGreatDoor
open Go.Shelf Go.RowKit
structure NumVars (w : World) : Prop where
  tab : Lib.TabIs Tryz.prog w "internal/strconv.uint64pow10" .u64 Lib.pow10Tab
  syn : ∃ tp p, w.var? Tryz.prog "strconv.ErrSyntax" = some #[.iface tp p]
  rng : ∃ tp p, w.var? Tryz.prog "strconv.ErrRange" = some #[.iface tp p]
theorem var_below {P : Program} {w w' : World} {n : String} {cs : Array Value} (h : w.var? P n = some cs) (hb : Below w.heap.size w w') : w'.var? P n = some cs := by
  unfold World.var? at h ⊢
  cases hg : P.globalNamed n with
  | none => rw [hg] at h; cases h
  | some g =>
    rw [hg] at h
    simp only [Option.bind_some] at h ⊢
    have hlt : g < w.heap.size := by
      by_cases hlt : g < w.heap.size
      · exact hlt
      · rw [Array.getElem?_eq_none (by omega)] at h; cases h
    rw [hb.block g hlt]
    exact h
theorem NumVars.below {w w' : World} (h : NumVars w) (hb : Below w.heap.size w w') : NumVars w' := by
  obtain ⟨h1, ⟨t2, p2, h2⟩, ⟨t3, p3, h3⟩⟩ := h
  exact ⟨var_below h1 hb, ⟨t2, p2, var_below h2 hb⟩, ⟨t3, p3, var_below h3 hb⟩⟩
theorem below_grow (w : World) (k : Nat) (os : Array Obj) : Below w.heap.size w (Sort.grow (w.drewN k) os) :=
  ⟨rfl, rfl, rfl, by simp [Sort.grow, World.drewN], fun j hj => by
    show ((w.drewN k).heap ++ os)[j]? = _
    rw [Array.getElem?_append_left (by exact hj)]
    rfl⟩
def IsErr (w : World) (e : Ending) (w' : World) : Prop := ∃ (n : Int) (t : TypeId) (p : Value), e = .returned (.tuple #[.int .i64 n, .iface t p]) ∧ Below w.heap.size w w'
theorem parse_err (s : ByteArray) (hs : s.size ≤ 281474976710656) (w : World) (h : NumVars w) (hp : ∀ v, Lib.parseIntB 64 s.data.toList ≠ .ok v) :
    Calls Tryz.prog 98 #[.string s, .int .i64 10, .int .i64 64] w (IsErr w) := by
  rcases hl : Lib.parseIntB 64 s.data.toList with v | _ | _
  · exact absurd hl (hp v)
  · obtain ⟨tp, p, hv⟩ := h.syn
    exact (Any.strconv_ParseInt_10_at64_syntax_var laysC174 s hs hl tp p w hv).mono fun e w' ⟨N, he, _, _, hb⟩ => ⟨_, _, _, he, hb⟩
  · obtain ⟨tp, p, hv⟩ := h.rng
    exact (Any.strconv_ParseInt_10_at64_range_var laysC174 s hs hl tp p w hv).mono fun e w' ⟨N, he, _, _, hb⟩ => ⟨_, _, _, he, hb⟩
theorem parse_ok (s : ByteArray) (hs : s.size ≤ 281474976710656) (w : World) (v : Int) (hl : Lib.parseIntB 64 s.data.toList = .ok v) :
    Calls Tryz.prog 98 #[.string s, .int .i64 10, .int .i64 64] w fun e w' => e = .returned (.tuple #[.int .i64 v, .nilIface]) ∧ Below w.heap.size w w' :=
  (Any.strconv_ParseInt_10_at64_ok laysC174 s (by omega) v hl w).mono fun e w' ⟨he, hw⟩ => ⟨he, by
    rcases hw with rfl | ⟨t, rfl⟩
    · exact Below.refl _ _
    · exact Lib.bytesWorld_below _ _ _⟩
theorem format_any (n : Int) (h0 : -9223372036854775808 ≤ n) (h1 : n ≤ 9223372036854775807) (w : World) (h : NumVars w) :
    Calls Tryz.prog 99 #[.int .i64 n, .int .i64 10] w fun e w' => e = .returned (.string ⟨(Lib.itoa n).toArray⟩) ∧ Below w.heap.size w w' :=
  (Any.strconv_FormatInt_10 laysM173 n h0 h1 w h.tab).mono fun e w' ⟨he, k, os, hw⟩ => ⟨he, by subst hw; exact below_grow _ _ _⟩
def NumPost (o : Option Int) (w : World) (e : Ending) (w' : World) : Prop := e = .returned (.tuple #[.int .i64 (o.getD 0), .bool o.isSome]) ∧ Below w.heap.size w w'
set_option maxRecDepth 100000 in
set_option maxHeartbeats 4000000 in
theorem number_any (s : ByteArray) (hs : s.size ≤ 281474976710656) (w : World) (h : NumVars w) :
    Calls Tryz.prog 41 #[.string s] w (NumPost (numP s.data.toList) w) := by
  have HV := Lib.hid h
  clear h
  have HS := Lib.hid hs
  clear hs
  by_cases hok : ∃ v, Lib.parseIntB 64 s.data.toList = .ok v
  · obtain ⟨v, hv⟩ := hok
    have hbd := Lib.parseIntB_bounds hv
    have hb0 : -9223372036854775808 ≤ v := by have := hbd.1; omega
    have hb1 : v ≤ 9223372036854775807 := by have := hbd.2; omega
    clear hbd
    have hn : numP s.data.toList = if inR v ∧ Lib.itoa v = s.data.toList then some v else none := by unfold numP; rw [hv]
    rw [hn]
    have HP := Lib.hid hv
    clear hn hv
    by_cases h1 : v < -4611686018427387904
    · rw [if_neg (by unfold inR; omega)]
      go_enter Tryz.func41, Tryz.ntmps41
      go_wp2_with (go_at_call 98; refine (parse_ok s HS.out _ v HP.out).mono ?_; rintro e w1 ⟨rfl, hb⟩)
      go_ret2
      exact ⟨rfl, hb⟩
    by_cases h2 : 4611686018427387904 < v
    · rw [if_neg (by unfold inR; omega)]
      go_enter Tryz.func41, Tryz.ntmps41
      go_wp2_with (go_at_call 98; refine (parse_ok s HS.out _ v HP.out).mono ?_; rintro e w1 ⟨rfl, hb⟩)
      go_ret2
      exact ⟨rfl, hb⟩
    have HI : Hid (inR v) := Lib.hid (by unfold inR; omega)
    by_cases h3 : Lib.itoa v = s.data.toList
    · rw [if_pos ⟨HI.out, h3⟩]
      have HQ := Lib.hid h3
      have h4 : (⟨(Lib.itoa v).toArray⟩ : ByteArray) = s := by rw [h3]
      have H4 := Lib.hid h4
      clear h3 h4
      go_enter Tryz.func41, Tryz.ntmps41
      go_wp2_with (first | (go_at_call 98; refine (parse_ok s HS.out _ v HP.out).mono ?_; rintro e w1 ⟨rfl, hb⟩) | (go_at_call 99; refine (format_any v hb0 hb1 _ (HV.out.below hb)).mono ?_; rw [H4.out]; rintro e w2 ⟨rfl, hb2⟩; have hw2 := Below.go hb hb2))
      go_ret2
      exact ⟨rfl, hw2⟩
    · rw [if_neg (fun h => h3 h.2)]
      have h4 : ((⟨(Lib.itoa v).toArray⟩ : ByteArray).toList == s.toList) = false := by
        rw [beq_eq_false_iff_ne]
        intro h
        apply h3
        rw [Go.ByteArray.toList_eq, Go.ByteArray.toList_eq] at h
        exact h
      have h5 : ((⟨(Lib.itoa v).toArray⟩ : ByteArray).toList != s.toList) = true := by unfold bne; rw [h4]; rfl
      clear h3
      obtain ⟨T, hT⟩ : ∃ T : ByteArray, T = ⟨(Lib.itoa v).toArray⟩ := ⟨_, rfl⟩
      rw [← hT] at h4 h5
      have HT := Lib.hid hT
      clear hT
      go_enter Tryz.func41, Tryz.ntmps41
      go_wp2_with (first | (go_at_call 98; refine (parse_ok s HS.out _ v HP.out).mono ?_; rintro e w1 ⟨rfl, hb⟩) | (go_at_call 99; refine (format_any v hb0 hb1 _ (HV.out.below hb)).mono ?_; rw [← HT.out]; rintro e w2 ⟨rfl, hb2⟩; have hw2 := Below.go hb hb2))
      go_ret2
      exact ⟨rfl, hw2⟩
  · have hn : numP s.data.toList = none := by
      unfold numP
      split
      · rename_i v hv; exact absurd ⟨v, hv⟩ hok
      · rfl
    rw [hn]
    have HE := Lib.hid (fun W hW => parse_err s HS.out W hW (fun v hv => hok ⟨v, hv⟩))
    clear hn hok
    go_enter Tryz.func41, Tryz.ntmps41
    go_wp2_with (go_at_call 98; refine (HE.out _ HV.out).mono ?_; rintro e w1 ⟨n, t, p, rfl, hb⟩)
    go_ret2
    exact ⟨rfl, hb⟩
end Go.Proofs.YtooioahiijbomaaGreatDoor
namespace Go.Proofs.YtooioahiijbomaaGreatDoor
open Go.Shelf Go.RowKit
set_option maxRecDepth 100000
def laysM171_ren : Go.Shelf.Ren := ⟨fun | 171 => 109 | 243 => 196 | 246 => 189 | 283 => 262 | 284 => 263 | 285 => 264 | 286 => 265 | 129 => 277 | 317 => 304 | 318 => 305 | 319 => 306 | 320 => 307 | 337 => 321 | 338 => 322 | n => n, fun | 3 => 3 | 9 => 9 | 2 => 2 | 4 => 4 | 171 => 307 | 0 => 0 | 53 => 271 | 37 => 131 | 5 => 5 | 173 => 309 | 212 => 336 | 51 => 269 | 20 => 20 | 213 => 337 | 46 => 209 | 232 => 361 | 233 => 362 | n => n, fun | 17 => 8 | 18 => 10 | 19 => 11 | n => n⟩
theorem laysM171 : Go.Proofs.LaysM.n171 Tryz.prog laysM171_ren := {
 mixed := by kernel_rfl
 f129 := Tryz.func277.trans (congrArg some (by kernel_rfl))
 f171 := Tryz.func109.trans (congrArg some (by kernel_rfl))
 f243 := Tryz.func196.trans (congrArg some (by kernel_rfl))
 f246 := Tryz.func189.trans (congrArg some (by kernel_rfl))
 f283 := Tryz.func262.trans (congrArg some (by kernel_rfl))
 f284 := Tryz.func263.trans (congrArg some (by kernel_rfl))
 f285 := Tryz.func264.trans (congrArg some (by kernel_rfl))
 f286 := Tryz.func265.trans (congrArg some (by kernel_rfl))
 f317 := Tryz.func304.trans (congrArg some (by kernel_rfl))
 f318 := Tryz.func305.trans (congrArg some (by kernel_rfl))
 f319 := Tryz.func306.trans (congrArg some (by kernel_rfl))
 f320 := Tryz.func307.trans (congrArg some (by kernel_rfl))
 f337 := Tryz.func321.trans (congrArg some (by kernel_rfl))
 f338 := Tryz.func322.trans (congrArg some (by kernel_rfl))
 t0 := Tryz.underlying0
 a0 := Tryz.isAgg0
 z0 := Tryz.sizeOf0
 v0 := Tryz.zeroValue0
 t2 := Tryz.underlying2
 a2 := Tryz.isAgg2
 z2 := Tryz.sizeOf2
 v2 := Tryz.zeroValue2
 t3 := Tryz.underlying3
 a3 := Tryz.isAgg3
 z3 := Tryz.sizeOf3
 v3 := Tryz.zeroValue3
 t4 := Tryz.underlying4
 a4 := Tryz.isAgg4
 z4 := Tryz.sizeOf4
 v4 := Tryz.zeroValue4
 t5 := Tryz.underlying5
 a5 := Tryz.isAgg5
 z5 := Tryz.sizeOf5
 v5 := Tryz.zeroValue5
 t9 := Tryz.underlying9
 a9 := Tryz.isAgg9
 z9 := Tryz.sizeOf9
 v9 := Tryz.zeroValue9
 t20 := Tryz.underlying20
 a20 := Tryz.isAgg20
 z20 := Tryz.sizeOf20
 v20 := Tryz.zeroValue20
 t37 := Tryz.underlying131
 a37 := Tryz.isAgg131
 z37 := Tryz.sizeOf131
 v37 := Tryz.zeroValue131
 t46 := Tryz.underlying209
 a46 := Tryz.isAgg209
 z46 := Tryz.sizeOf209
 v46 := Tryz.zeroValue209
 t51 := Tryz.underlying269
 a51 := Tryz.isAgg269
 z51 := Tryz.sizeOf269
 v51 := Tryz.zeroValue269
 t53 := Tryz.underlying271
 a53 := Tryz.isAgg271
 z53 := Tryz.sizeOf271
 v53 := Tryz.zeroValue271
 t171 := Tryz.underlying307
 a171 := Tryz.isAgg307
 z171 := Tryz.sizeOf307
 v171 := Tryz.zeroValue307
 t173 := Tryz.underlying309
 a173 := Tryz.isAgg309
 z173 := Tryz.sizeOf309
 v173 := Tryz.zeroValue309
 t212 := Tryz.underlying336
 a212 := Tryz.isAgg336
 z212 := Tryz.sizeOf336
 v212 := Tryz.zeroValue336
 t213 := Tryz.underlying337
 a213 := Tryz.isAgg337
 z213 := Tryz.sizeOf337
 t232 := Tryz.underlying361
 a232 := Tryz.isAgg361
 z232 := Tryz.sizeOf361
 v232 := Tryz.zeroValue361
 t233 := Tryz.underlying362
 a233 := Tryz.isAgg362
 z233 := Tryz.sizeOf362
 v233 := Tryz.zeroValue362
 g17 := by kernel_rfl
 g18 := by kernel_rfl
 g19 := by kernel_rfl
 i0 := by kernel_rfl
 i2 := by kernel_rfl
 i3 := by kernel_rfl
 i4 := by kernel_rfl
 i5 := by kernel_rfl
 i9 := by kernel_rfl
 i20 := by kernel_rfl
 i37 := by kernel_rfl
 i46 := by kernel_rfl
 i51 := by kernel_rfl
 i53 := by kernel_rfl
 i171 := by kernel_rfl
 i173 := by kernel_rfl
 i212 := by kernel_rfl
 i232 := by kernel_rfl
 i233 := by kernel_rfl
 m17 := by kernel_rfl
 m18 := by kernel_rfl
 m19 := by kernel_rfl }
theorem tab_of_glob {pub : Pub} {w : World} (h : GlobOk pub w) : Lib.TabIs Tryz.prog w "internal/strconv.uint64pow10" .u64 Lib.pow10Tab := by
 obtain ⟨t, fz, hb⟩ := h.block (g := 8) (by show 0 < 20; omega)
 have hg : Tryz.prog.globalNamed "internal/strconv.uint64pow10" = some 8 := by kernel_rfl
 unfold Lib.TabIs World.var?
 rw [hg]
 simp only [Option.bind_some]
 rw [hb]
 rfl
theorem err_of_glob {pub : Pub} {w : World} (h : GlobOk pub w) {g : Nat} {n : String} (hn : Tryz.prog.globalNamed n = some g) (hg : globI g = true) : ∃ tp p, w.var? Tryz.prog n = some #[.iface tp p] := by
 obtain ⟨t, p, t', fz, hb⟩ := h.errBlock hg
 refine ⟨t, p, ?_⟩
 unfold World.var?
 rw [hn]
 simp only [Option.bind_some]
 rw [hb]
theorem vars_of_glob {pub : Pub} {w : World} (h : GlobOk pub w) : NumVars w :=
 ⟨tab_of_glob h, err_of_glob h (g := 6) (by kernel_rfl) (by rfl), err_of_glob h (g := 7) (by kernel_rfl) (by rfl)⟩
theorem k_itoa : FnOk Tryz.prog 109 ItoC := fn_add fun n hp pub w vals hf hg hv => by
 obtain ⟨u, us', hl, h1, h2⟩ := hv.cons_inv
 have h3 := h2.nil_inv
 subst h3
 cases h1
 have h4 : vals = #[.int .i64 n] := Array.toList_inj.1 (by simpa using hl)
 subst h4
 refine (Any.strconv_Itoa laysM171 n hp.1 hp.2 w (tab_of_glob hg)).mono fun e w' ⟨he, k, os, hw⟩ => ?_
 subst hw
 exact AddPost.plain he (below_grow w k os) hf (.str _)
theorem k_fmt : FnOk Tryz.prog 99 FmtC := fn_add fun n hp pub w vals hf hg hv => by
 obtain ⟨us2, e2, hv3⟩ := hv.int_inv
 obtain ⟨us3, e3, hv4⟩ := hv3.int_inv
 have hn0 := hv4.nil_inv
 subst hn0 e3
 obtain rfl : vals = #[.int .i64 n, .int .i64 10] := Array.toList_inj.1 (by rw [e2])
 exact (format_any n hp.1 hp.2 w (vars_of_glob hg)).mono fun e w' ⟨he, hb⟩ => AddPost.plain he hb hf (.str _)
theorem tup2 {pub : Pub} {w : World} {r : Rho} {a b : AV} {u v : Value} (h1 : VRel pub w r a u) (h2 : VRel pub w r b v) : VRel pub w r (.tup [a, b]) (.tuple #[u, v]) :=
 .tup rfl fun i x y hx hy => match i with
  | 0 => by cases hx; cases hy; exact h1
  | 1 => by cases hx; cases hy; exact h2
  | i + 2 => by simp at hx
theorem k_fnumber : FnOk Tryz.prog 41 NumC := fn_add fun s hp pub w vals hf hg hv => by
 obtain ⟨us, h1, hv⟩ := VRels.str_inv hv |>.imp fun _ h => h
 have h3 := hv.nil_inv
 have e : vals = #[.string s] := Array.toList_inj.1 (by rw [h1, h3])
 rw [e]
 exact (number_any s hp w (vars_of_glob hg)).mono fun e w' ⟨he, hb⟩ => AddPost.plain he hb hf (tup2 (.int ..) (.bl ..))
end Go.Proofs.YtooioahiijbomaaGreatDoor
namespace Go.Proofs.YtooioahiijbomaaGreatDoor
open Go.Shelf Go.RowKit
set_option maxRecDepth 100000
def bldRen : Go.Shelf.Ren := ⟨fun | 156 => 110 | 165 => 197 | 166 => 56 | 167 => 250 | 169 => 62 | 240 => 108 | 241 => 266 | 276 => 195 | 277 => 308 | n => n, fun | 0 => 0 | 3 => 3 | 4 => 4 | 5 => 5 | 9 => 9 | 20 => 20 | 31 => 64 | 37 => 131 | 70 => 130 | 72 => 133 | 75 => 135 | 80 => 144 | 76 => 136 | 127 => 218 | 164 => 261 | n => n, fun | n => n⟩
theorem bldn156 : Lays.n156 Tryz.prog bldRen := {
 mixed := by kernel_rfl
 f156 := Tryz.func110.trans (congrArg some (by kernel_rfl))
 f165 := Tryz.func197.trans (congrArg some (by kernel_rfl))
 f166 := Tryz.func56.trans (congrArg some (by kernel_rfl))
 f169 := Tryz.func62.trans (congrArg some (by kernel_rfl))
 f240 := Tryz.func108.trans (congrArg some (by kernel_rfl))
 f241 := Tryz.func266.trans (congrArg some (by kernel_rfl))
 f276 := Tryz.func195.trans (congrArg some (by kernel_rfl))
 f277 := Tryz.func308.trans (congrArg some (by kernel_rfl))
 t0 := Tryz.underlying0
 a0 := Tryz.isAgg0
 z0 := Tryz.sizeOf0
 v0 := Tryz.zeroValue0
 t3 := Tryz.underlying3
 a3 := Tryz.isAgg3
 z3 := Tryz.sizeOf3
 v3 := Tryz.zeroValue3
 t4 := Tryz.underlying4
 a4 := Tryz.isAgg4
 z4 := Tryz.sizeOf4
 v4 := Tryz.zeroValue4
 t9 := Tryz.underlying9
 a9 := Tryz.isAgg9
 z9 := Tryz.sizeOf9
 v9 := Tryz.zeroValue9
 t20 := Tryz.underlying20
 a20 := Tryz.isAgg20
 z20 := Tryz.sizeOf20
 v20 := Tryz.zeroValue20
 t31 := Tryz.underlying64
 a31 := Tryz.isAgg64
 z31 := Tryz.sizeOf64
 v31 := Tryz.zeroValue64
 t37 := Tryz.underlying131
 a37 := Tryz.isAgg131
 z37 := Tryz.sizeOf131
 v37 := Tryz.zeroValue131
 t70 := Tryz.underlying130
 a70 := Tryz.isAgg130
 z70 := Tryz.sizeOf130
 v70 := Tryz.zeroValue130
 t72 := Tryz.underlying133
 a72 := Tryz.isAgg133
 z72 := Tryz.sizeOf133
 v72 := Tryz.zeroValue133
 t75 := Tryz.underlying135
 a75 := Tryz.isAgg135
 z75 := Tryz.sizeOf135
 v75 := Tryz.zeroValue135
 t76 := Tryz.underlying136
 a76 := Tryz.isAgg136
 z76 := Tryz.sizeOf136
 v76 := Tryz.zeroValue136
 t127 := Tryz.underlying218
 a127 := Tryz.isAgg218
 z127 := Tryz.sizeOf218
 v127 := Tryz.zeroValue218
 t164 := Tryz.underlying261
 a164 := Tryz.isAgg261
 z164 := Tryz.sizeOf261
 v164 := Tryz.zeroValue261 }
theorem bldn166 : Lays.n166 Tryz.prog bldRen := {
 mixed := by kernel_rfl
 f166 := Tryz.func56.trans (congrArg some (by kernel_rfl))
 f240 := Tryz.func108.trans (congrArg some (by kernel_rfl))
 f276 := Tryz.func195.trans (congrArg some (by kernel_rfl))
 t0 := Tryz.underlying0
 a0 := Tryz.isAgg0
 z0 := Tryz.sizeOf0
 v0 := Tryz.zeroValue0
 t3 := Tryz.underlying3
 a3 := Tryz.isAgg3
 z3 := Tryz.sizeOf3
 v3 := Tryz.zeroValue3
 t4 := Tryz.underlying4
 a4 := Tryz.isAgg4
 z4 := Tryz.sizeOf4
 v4 := Tryz.zeroValue4
 t9 := Tryz.underlying9
 a9 := Tryz.isAgg9
 z9 := Tryz.sizeOf9
 v9 := Tryz.zeroValue9
 t20 := Tryz.underlying20
 a20 := Tryz.isAgg20
 z20 := Tryz.sizeOf20
 v20 := Tryz.zeroValue20
 t37 := Tryz.underlying131
 a37 := Tryz.isAgg131
 z37 := Tryz.sizeOf131
 v37 := Tryz.zeroValue131
 t70 := Tryz.underlying130
 a70 := Tryz.isAgg130
 z70 := Tryz.sizeOf130
 v70 := Tryz.zeroValue130
 t72 := Tryz.underlying133
 a72 := Tryz.isAgg133
 z72 := Tryz.sizeOf133
 v72 := Tryz.zeroValue133
 t75 := Tryz.underlying135
 a75 := Tryz.isAgg135
 z75 := Tryz.sizeOf135
 v75 := Tryz.zeroValue135
 t164 := Tryz.underlying261
 a164 := Tryz.isAgg261
 z164 := Tryz.sizeOf261
 v164 := Tryz.zeroValue261 }
theorem bldn169 : Lays.n169 Tryz.prog bldRen := {
 mixed := by kernel_rfl
 f169 := Tryz.func62.trans (congrArg some (by kernel_rfl))
 t0 := Tryz.underlying0
 a0 := Tryz.isAgg0
 z0 := Tryz.sizeOf0
 v0 := Tryz.zeroValue0
 t3 := Tryz.underlying3
 a3 := Tryz.isAgg3
 z3 := Tryz.sizeOf3
 v3 := Tryz.zeroValue3
 t9 := Tryz.underlying9
 a9 := Tryz.isAgg9
 z9 := Tryz.sizeOf9
 v9 := Tryz.zeroValue9
 t37 := Tryz.underlying131
 a37 := Tryz.isAgg131
 z37 := Tryz.sizeOf131
 v37 := Tryz.zeroValue131
 t70 := Tryz.underlying130
 a70 := Tryz.isAgg130
 z70 := Tryz.sizeOf130
 v70 := Tryz.zeroValue130
 t72 := Tryz.underlying133
 a72 := Tryz.isAgg133
 z72 := Tryz.sizeOf133
 v72 := Tryz.zeroValue133
 t127 := Tryz.underlying218
 a127 := Tryz.isAgg218
 z127 := Tryz.sizeOf218
 v127 := Tryz.zeroValue218 }
theorem bldn167 : Lays.n167 Tryz.prog bldRen := {
 mixed := by kernel_rfl
 f167 := Tryz.func250.trans (congrArg some (by kernel_rfl))
 f240 := Tryz.func108.trans (congrArg some (by kernel_rfl))
 f276 := Tryz.func195.trans (congrArg some (by kernel_rfl))
 t0 := Tryz.underlying0
 a0 := Tryz.isAgg0
 z0 := Tryz.sizeOf0
 v0 := Tryz.zeroValue0
 t4 := Tryz.underlying4
 a4 := Tryz.isAgg4
 z4 := Tryz.sizeOf4
 v4 := Tryz.zeroValue4
 t5 := Tryz.underlying5
 a5 := Tryz.isAgg5
 z5 := Tryz.sizeOf5
 v5 := Tryz.zeroValue5
 t9 := Tryz.underlying9
 a9 := Tryz.isAgg9
 z9 := Tryz.sizeOf9
 v9 := Tryz.zeroValue9
 t20 := Tryz.underlying20
 a20 := Tryz.isAgg20
 z20 := Tryz.sizeOf20
 v20 := Tryz.zeroValue20
 t37 := Tryz.underlying131
 a37 := Tryz.isAgg131
 z37 := Tryz.sizeOf131
 v37 := Tryz.zeroValue131
 t70 := Tryz.underlying130
 a70 := Tryz.isAgg130
 z70 := Tryz.sizeOf130
 v70 := Tryz.zeroValue130
 t72 := Tryz.underlying133
 a72 := Tryz.isAgg133
 z72 := Tryz.sizeOf133
 v72 := Tryz.zeroValue133
 t75 := Tryz.underlying135
 a75 := Tryz.isAgg135
 z75 := Tryz.sizeOf135
 v75 := Tryz.zeroValue135
 t164 := Tryz.underlying261
 a164 := Tryz.isAgg261
 z164 := Tryz.sizeOf261
 v164 := Tryz.zeroValue261 }
theorem bldX : Builder.Extra Tryz.prog bldRen := {
 sizeBuilder := by kernel_rfl
 liesBuilder := by kernel_rfl
 t5 := Tryz.underlying5
 a5 := Tryz.isAgg5
 z5 := Tryz.sizeOf5
 v5 := Tryz.zeroValue5
 infoByte := by kernel_rfl
 cellsByte := by kernel_rfl
 sizeByte := by kernel_rfl
 neB5 := by decide }
theorem k_write : FnOk Tryz.prog 56 WriteC := bldWrite_ok bldn166 bldX
theorem k_writeB : FnOk Tryz.prog 250 WriteBC := bldWriteB_ok bldn167 bldX
theorem k_string : FnOk Tryz.prog 62 StringC := bldString_ok bldn169 bldX
theorem k_join : FnOk Tryz.prog 110 JoinC := join_ok bldn156 bldX
end Go.Proofs.YtooioahiijbomaaGreatDoor
namespace Go.Proofs.YtooioahiijbomaaGreatDoor
open Go.RowKit Go.Shelf
set_option maxHeartbeats 2000000
set_option maxRecDepth 100000
def idxL_ren : Go.Shelf.Ren := ⟨fun | 15 => 235 | 20 => 290 | n => n, fun | 0 => 0 | 3 => 3 | 4 => 4 | 9 => 9 | 21 => 21 | 23 => 285 | n => n, fun | n => n⟩
theorem idxL : LaysGw.n15 Tryz.prog idxL_ren := {
 mixed := by kernel_rfl
 f15 := Tryz.func235.trans (congrArg some (by kernel_rfl))
 f20 := Tryz.func290.trans (congrArg some (by kernel_rfl))
 t0 := Tryz.underlying0
 a0 := Tryz.isAgg0
 z0 := Tryz.sizeOf0
 v0 := Tryz.zeroValue0
 i0 := by kernel_rfl
 t3 := Tryz.underlying3
 a3 := Tryz.isAgg3
 z3 := Tryz.sizeOf3
 v3 := Tryz.zeroValue3
 i3 := by kernel_rfl
 t4 := Tryz.underlying4
 a4 := Tryz.isAgg4
 z4 := Tryz.sizeOf4
 v4 := Tryz.zeroValue4
 i4 := by kernel_rfl
 t9 := Tryz.underlying9
 a9 := Tryz.isAgg9
 z9 := Tryz.sizeOf9
 v9 := Tryz.zeroValue9
 i9 := by kernel_rfl
 t21 := Tryz.underlying21
 a21 := Tryz.isAgg21
 z21 := Tryz.sizeOf21
 v21 := Tryz.zeroValue21
 i21 := by kernel_rfl
 t23 := Tryz.underlying285
 a23 := Tryz.isAgg285
 z23 := Tryz.sizeOf285
 v23 := Tryz.zeroValue285
 i23 := by kernel_rfl }
theorem k_ranked1 (x : Nat) (W : World) (hx : x ≤ 1114111) : Calls Tryz.prog 236 #[.int .i32 x] W fun e w' => e = .returned (.bool (digR x)) ∧ ∃ q, w' = W.drewN q := by
 unfold digR
 by_cases h1 : x < 48
 ·go_enter Tryz.func236, Tryz.ntmps236
  go_wp2
  go_ret
  exact ⟨by simp [h1], 0, rfl⟩
 ·go_enter Tryz.func236, Tryz.ntmps236
  go_wp2
  go_ret
  exact ⟨by
   simp only [Nat.not_lt] at h1
   have e1 : decide (x < 48) = false := decide_eq_false (by omega)
   have e2 : decide ((x : Int) < 48) = false := decide_eq_false (by omega)
   have e3 : decide ((57 : Int) < x) = decide (57 < x) := by rw [Bool.eq_iff_iff, decide_eq_true_iff, decide_eq_true_iff]; omega
   simp [e1, e2, e3], 0, rfl⟩
theorem k_idx : FnOk Tryz.prog 235 IdxSC := fn_below fun s _ pub w vals hv => by
 obtain ⟨us, h1, hv⟩ := VRels.str_inv hv |>.imp fun _ h => h
 obtain ⟨u2, us2, h2, hu2, hnil⟩ := hv.cons_inv
 have hn0 := hnil.nil_inv
 subst hn0
 have hc2 : u2 = .func (.func 236) #[] #[] := by
  cases hu2 with
  | clo f hl h =>
   rename_i a
   have : a = #[] := Array.eq_empty_of_size_eq_zero (by simpa using hl)
   rw [this]
 subst hc2
 obtain rfl : vals = #[.string s, .func (.func 236) #[] #[]] := Array.toList_inj.1 (by rw [h1, h2])
 have hC := Any.strings_IndexFunc_runes idxL 236 #[] (enters_of Tryz.func236 (by kernel_rfl) rfl) digR s w (fun W x hx _ => k_ranked1 x W hx)
 exact hC.mono fun e w' ⟨he, hb⟩ => ⟨hb, _, he, fun _ _ => .int _ _⟩
end Go.Proofs.YtooioahiijbomaaGreatDoor
namespace Go.Proofs.YtooioahiijbomaaGreatDoor
open Go.RowKit
set_option maxRecDepth 100000
theorem k_digits : FnOk Tryz.prog 43 ItoC := body_ok (by kernel_rfl) (digits_body _ k_fmt)
theorem k_count : FnOk Tryz.prog 173 ItoC := body_ok (by kernel_rfl) (count_body _ k_itoa)
theorem k_fields : FnOk Tryz.prog 89 FieldsC := body_ok (by kernel_rfl) (fields_body _)
theorem k_inv : FnOk Tryz.prog 84 InvC := body_ok (by kernel_rfl) (inv_body _ k_digits k_count k_fields)
theorem k_marks : FnOk Tryz.prog 87 MarksC := body_ok (by kernel_rfl) (marks_body _ k_join)
theorem k_tellP : FnOk Tryz.prog 249 TellPC := body_ok (by kernel_rfl) (tellP_body _ k_itoa (wr_of k_write) (wb_of 10 k_writeB))
theorem k_size : FnOk Tryz.prog 251 SizeC := body_ok (by kernel_rfl) (size_body _)
theorem k_counts : FnOk Tryz.prog 319 CountsC := body_ok (by kernel_rfl) (counts_body _)
theorem k_rising : FnOk Tryz.prog 318 RisingC := body_ok (by kernel_rfl) (rising_body _ sortLo_ok)
theorem k_ljoin : FnOk Tryz.prog 297 LJoinC := body_ok (by kernel_rfl) (ljoin_body _ k_counts k_rising)
theorem k_content : FnOk Tryz.prog 252 ContC := body_ok (by kernel_rfl) (content_body _ k_ljoin)
theorem k_list : FnOk Tryz.prog 174 ListC := body_ok (by kernel_rfl) (list_body _ ⟨⟨by kernel_rfl⟩, k_tellP, k_size, k_content, (wrE_of k_write), (wr_of k_write), (strT_of k_string)⟩)
theorem k_pak : FnOk Tryz.prog 85 PakC := body_ok (by kernel_rfl) (pak_body _ k_count k_marks k_list k_fields)
theorem k_ori : FnOk Tryz.prog 88 OriC := body_ok (by kernel_rfl) (ori_body _ k_count k_fields)
theorem k_place1 : FnOk Tryz.prog 186 PlC1 := body_ok (by kernel_rfl) (place1_body _)
theorem k_idxF : FnOk Tryz.prog 185 IdxFC := body_ok (by kernel_rfl) (idxF_body _ ⟨by kernel_rfl⟩ k_place1)
theorem k_place : FnOk Tryz.prog 97 PlaceC := body_ok (by kernel_rfl) (place_body _ k_idxF)
theorem k_get : FnOk Tryz.prog 40 GetC := body_ok (by kernel_rfl) (get_body _ k_place)
theorem k_is : FnOk Tryz.prog 86 IsC := body_ok (by kernel_rfl) (is_body _)
theorem k_alike : FnOk Tryz.prog 83 AlikeC := body_ok (by kernel_rfl) (alike_body _ k_get k_is)
theorem k_need : FnOk Tryz.prog 82 NeedC := body_ok (by kernel_rfl) (need_body _)
theorem k_want : FnOk Tryz.prog 29 WantC := body_ok (by kernel_rfl) (want_body _ ⟨k_inv, k_pak, k_ori, k_alike, k_need, k_is, k_marks⟩)
theorem k_asks : FnOk Tryz.prog 7 AsksC := body_ok (by kernel_rfl) (asks_body _ k_want)
theorem k_isLetter : FnOk Tryz.prog 283 (ByC letB) := body_ok (by kernel_rfl) (isLetter_body _)
theorem k_isDigit : FnOk Tryz.prog 284 (ByC digB) := body_ok (by kernel_rfl) (isDigit_body _)
theorem k_name : FnOk Tryz.prog 222 (StrC (fun _ => True) nameB) := body_ok (by kernel_rfl) (name_body _ k_isLetter k_isDigit)
theorem k_tblank : FnOk Tryz.prog 79 (ByC blB) := body_ok (by kernel_rfl) (tblank_body _)
theorem k_run_1 : FnOk Tryz.prog 78 (RunC 79 blB) := body_ok (by kernel_rfl) (run_body _ 79 blB ⟨by kernel_rfl⟩ k_tblank)
theorem k_tdigit : FnOk Tryz.prog 234 (ByC digB) := body_ok (by kernel_rfl) (tdigit_body _)
theorem k_tsmall : FnOk Tryz.prog 163 (ByC smB) := body_ok (by kernel_rfl) (tsmall_body _ k_tdigit)
theorem k_tlarge : FnOk Tryz.prog 165 (ByC lgB) := body_ok (by kernel_rfl) (tlarge_body _)
theorem k_run_2 : FnOk Tryz.prog 78 (RunC 163 smB) := body_ok (by kernel_rfl) (run_body _ 163 smB ⟨by kernel_rfl⟩ k_tsmall)
theorem k_run_3 : FnOk Tryz.prog 78 (RunC 165 lgB) := body_ok (by kernel_rfl) (run_body _ 165 lgB ⟨by kernel_rfl⟩ k_tlarge)
theorem k_bounded : FnOk Tryz.prog 237 BoundC := body_ok (by kernel_rfl) (bounded_body _)
theorem k_treserved : FnOk Tryz.prog 238 (StrC (fun _ => True) resB) := body_ok (by kernel_rfl) (treserved_body _)
theorem k_ranked : FnOk Tryz.prog 164 RankC := body_ok (by kernel_rfl) (ranked_body _ k_idx k_bounded k_treserved k_name)
theorem k_tquote : FnOk Tryz.prog 239 (ByC txB) := body_ok (by kernel_rfl) (tquote_body _)
theorem k_run_4 : FnOk Tryz.prog 78 (RunC 239 txB) := body_ok (by kernel_rfl) (run_body _ 239 txB ⟨by kernel_rfl⟩ k_tquote)
theorem k_quoted : FnOk Tryz.prog 166 (NxC quotM) := body_ok (by kernel_rfl) (quoted_body _ ⟨by kernel_rfl⟩ k_run_4)
theorem k_sign : FnOk Tryz.prog 167 (NxC signM) := body_ok (by kernel_rfl) (sign_body _)
theorem k_next : FnOk Tryz.prog 80 NextC := body_ok (by kernel_rfl) (next_body _ ⟨⟨by kernel_rfl⟩, k_tsmall, ⟨by kernel_rfl⟩, k_tlarge, k_run_2, k_run_3, k_ranked, k_quoted, k_sign⟩)
theorem k_scan : FnOk Tryz.prog 27 ScanC := body_ok (by kernel_rfl) (scan_body _ ⟨by kernel_rfl⟩ k_run_1 k_next)
theorem k_named : FnOk Tryz.prog 223 NamedC := body_ok (by kernel_rfl) (named_body _)
theorem k_isName : FnOk Tryz.prog 141 IsNmC := body_ok (by kernel_rfl) (isName_body _ k_name k_scan k_named)
theorem k_isCode : FnOk Tryz.prog 142 IsCdC := body_ok (by kernel_rfl) (isCode_body _ k_scan)
theorem k_between : FnOk Tryz.prog 143 BtwC := body_ok (by kernel_rfl) (between_body _)
theorem k_isPaper : FnOk Tryz.prog 201 IsPaC := body_ok (by kernel_rfl) (isPaper_body _)
theorem k_always : FnOk Tryz.prog 149 AlC := body_ok (by kernel_rfl) (always_body _)
theorem k_withinA : FnOk Tryz.prog 225 WiAC := body_ok (by kernel_rfl) (withinA_body _)
theorem k_wi1 : FnOk Tryz.prog 285 Wi1C := body_ok (by kernel_rfl) (wi1_body _ k_withinA)
theorem k_ixW : FnOk Tryz.prog 267 IxWC := body_ok (by kernel_rfl) (ixW_body _ ⟨by kernel_rfl⟩ k_wi1)
theorem k_cfW : FnOk Tryz.prog 198 CfWC := body_ok (by kernel_rfl) (cfW_body _ k_ixW)
theorem k_withinN : FnOk Tryz.prog 225 WiNC := body_ok (by kernel_rfl) (withinN_body _ k_cfW)
theorem k_isText : FnOk Tryz.prog 200 IsTxC := body_ok (by kernel_rfl) (isText_body _)
theorem k_ruleMayA : FnOk Tryz.prog 111 RmAC := body_ok (by kernel_rfl) (ruleMayA_body _ k_isName k_isText)
theorem k_rm1 : FnOk Tryz.prog 199 RmAC := body_ok (by kernel_rfl) (rm1_body _ k_ruleMayA)
theorem k_ixR : FnOk Tryz.prog 267 IxRC := body_ok (by kernel_rfl) (ixR_body _ ⟨by kernel_rfl⟩ k_rm1)
theorem k_cfR : FnOk Tryz.prog 198 CfRC := body_ok (by kernel_rfl) (cfR_body _ k_ixR)
theorem k_ruleMayN : FnOk Tryz.prog 111 RmNC := body_ok (by kernel_rfl) (ruleMayN_body _ k_cfR)
theorem k_needMay : FnOk Tryz.prog 146 NmC := body_ok (by kernel_rfl) (needMay_body _ ⟨k_isPaper, k_between, k_always, k_withinN, k_ruleMayN⟩)
theorem k_cm1 : FnOk Tryz.prog 145 NmC := body_ok (by kernel_rfl) (cm1_body _ k_needMay)
theorem k_ixNe : FnOk Tryz.prog 224 IxNeC := body_ok (by kernel_rfl) (ixNe_body _ ⟨by kernel_rfl⟩ k_cm1)
theorem k_cfNe : FnOk Tryz.prog 144 CfNeC := body_ok (by kernel_rfl) (cfNe_body _ k_ixNe)
theorem k_creditMay : FnOk Tryz.prog 74 CrMayC := body_ok (by kernel_rfl) (creditMay_body _ ⟨k_isName, k_isCode, k_between, k_cfNe⟩)
theorem k_lineE : FnOk Tryz.prog 147 LiEC := body_ok (by kernel_rfl) (lineE_body _ k_join (wrE_of k_write))
theorem k_lineT : FnOk Tryz.prog 147 LiTC := body_ok (by kernel_rfl) (lineT_body _ k_join (wr_of k_write))
theorem k_yesNo : FnOk Tryz.prog 148 YnC := body_ok (by kernel_rfl) (yesNo_body _)
theorem k_alwaysF : FnOk Tryz.prog 149 AlFC := body_ok (by kernel_rfl) (alwaysF_body _)
theorem k_showAE : FnOk Tryz.prog 112 ShAEC := body_ok (by kernel_rfl) (showAE_body _ k_fmt (wrE_of k_write))
theorem k_brAE : FnOk Tryz.prog 203 BrAEC := body_ok (by kernel_rfl) (brAE_body _ k_showAE)
theorem k_showAT : FnOk Tryz.prog 112 ShATC := body_ok (by kernel_rfl) (showAT_body _ k_fmt (wr_of k_write))
theorem k_brAT : FnOk Tryz.prog 203 BrATC := body_ok (by kernel_rfl) (brAT_body _ k_showAT)
theorem k_row : FnOk Tryz.prog 202 RwC := body_ok (by kernel_rfl) (row_body _ (wr_of k_write) k_brAE k_brAT)
theorem k_showN : FnOk Tryz.prog 112 ShNC := body_ok (by kernel_rfl) (showN_body _ k_row)
theorem k_Show : FnOk Tryz.prog 59 ShowC := body_ok (by kernel_rfl) (Show_body _ k_ruleMayN k_showN (strT_of k_string))
theorem k_synWrite : FnOk Tryz.prog 75 WrtC := body_ok (by kernel_rfl) (write_body _ ⟨⟨by kernel_rfl⟩, k_lineE, k_lineT, k_fmt, k_itoa, k_yesNo, k_alwaysF, k_Show, (strT_of k_string)⟩)
theorem k_print : FnOk Tryz.prog 25 PrintC := body_ok (by kernel_rfl) (print_body _ k_creditMay k_synWrite)
theorem k_may : FnOk Tryz.prog 30 MayC := body_ok (by kernel_rfl) (may_body _ k_print)
theorem k_lad : FnOk Tryz.prog 90 LadC := body_ok (by kernel_rfl) (lad_body _ k_count k_join k_fields)
theorem k_cloneF : FnOk Tryz.prog 53 CloneFC := body_ok (by kernel_rfl) (cloneF_body _)
theorem k_copyD : FnOk Tryz.prog 36 CopyDC := body_ok (by kernel_rfl) (copyD_body _ k_cloneF)
theorem k_docSet : FnOk Tryz.prog 32 DocSetC := body_ok (by kernel_rfl) (docSet_body _ k_inv k_pak k_lad k_ori k_copyD)
theorem k_cov : FnOk Tryz.prog 31 CovC := body_ok (by kernel_rfl) (cov_body _ k_digits k_fields)
theorem k_papers : FnOk Tryz.prog 8 PapersC := body_ok (by kernel_rfl) (papers_body _ k_want k_may k_docSet k_cov)
theorem k_set : FnOk Tryz.prog 55 SetC := body_ok (by kernel_rfl) (set_body _ k_place k_cloneF)
theorem k_spoil : FnOk Tryz.prog 42 SpoilC := body_ok (by kernel_rfl) (spoil_body _ k_set)
theorem k_so : FnOk Tryz.prog 12 SoC := body_ok (by kernel_rfl) (so_body _ k_get k_spoil)
theorem k_isC : FnOk Tryz.prog 175 IsCC := body_ok (by kernel_rfl) (isC_body _)
theorem k_isW : FnOk Tryz.prog 176 IsWC := body_ok (by kernel_rfl) (isW_body _)
theorem k_tell : FnOk Tryz.prog 33 TellC := body_ok (by kernel_rfl) (tell_body _)
theorem k_askI : FnOk Tryz.prog 177 AskIC := body_ok (by kernel_rfl) (askI_body _ k_get ⟨by kernel_rfl⟩ k_isW ⟨by kernel_rfl⟩ k_tell)
theorem k_tol : FnOk Tryz.prog 298 TolC := body_ok (by kernel_rfl) (tol_body _)
theorem k_bnd : FnOk Tryz.prog 253 BndC := body_ok (by kernel_rfl) (bnd_body _ k_tol)
theorem k_most1 : FnOk Tryz.prog 254 MostC1 := body_ok (by kernel_rfl) (most1_body _)
theorem k_most : FnOk Tryz.prog 179 MostC := body_ok (by kernel_rfl) (most_body _ k_bnd k_most1)
theorem k_least1 : FnOk Tryz.prog 255 LeastC1 := body_ok (by kernel_rfl) (least1_body _)
theorem k_least : FnOk Tryz.prog 180 MostC := body_ok (by kernel_rfl) (least_body _ k_bnd k_least1)
theorem k_sumW : FnOk Tryz.prog 178 (WCtr 178 sumW) := body_ok (by kernel_rfl) (sumW_body _ k_fnumber k_most k_least)
theorem k_askX_5 : FnOk Tryz.prog 177 (AskXC 178 sumW) := body_ok (by kernel_rfl) (askX_body _ 178 sumW k_get ⟨by kernel_rfl⟩ k_sumW ⟨by kernel_rfl⟩ k_tell)
theorem k_xinvoice : FnOk Tryz.prog 91 InvoiceXC := body_ok (by kernel_rfl) (xinvoice_body _ ⟨by kernel_rfl⟩ k_isC k_askI k_askX_5)
theorem k_beh : FnOk Tryz.prog 182 BehC := body_ok (by kernel_rfl) (beh_body _)
theorem k_issW : FnOk Tryz.prog 181 (WCtr 181 issW) := body_ok (by kernel_rfl) (issW_body _ k_fnumber k_beh)
theorem k_askX_6 : FnOk Tryz.prog 177 (AskXC 181 issW) := body_ok (by kernel_rfl) (askX_body _ 181 issW k_get ⟨by kernel_rfl⟩ k_issW ⟨by kernel_rfl⟩ k_tell)
theorem k_xlading : FnOk Tryz.prog 92 LadingC := body_ok (by kernel_rfl) (xlading_body _ k_askX_6)
theorem k_atom : FnOk Tryz.prog 184 AtomC := body_ok (by kernel_rfl) (atom_body _ k_fnumber)
theorem k_holds : FnOk Tryz.prog 95 HoldsC := body_ok (by kernel_rfl) (holds_body _ k_get k_atom)
theorem k_isAtom : FnOk Tryz.prog 96 IsAC := body_ok (by kernel_rfl) (isAtom_body _)
theorem k_rule : FnOk Tryz.prog 94 RuleC := body_ok (by kernel_rfl) (rule_body _ k_holds k_isAtom ⟨by kernel_rfl⟩ k_tell)
theorem k_partsA : FnOk Tryz.prog 93 PartsAC := body_ok (by kernel_rfl) (partsA_body _ ⟨by kernel_rfl⟩ k_rule)
theorem k_partsN : FnOk Tryz.prog 93 PartsNC := body_ok (by kernel_rfl) (partsN_body _ k_partsA)
theorem k_paper : FnOk Tryz.prog 34 PaperC := body_ok (by kernel_rfl) (paper_body _ k_xinvoice k_xlading k_partsN)
theorem k_others : FnOk Tryz.prog 35 OthersC := body_ok (by kernel_rfl) (others_body _ k_get ⟨by kernel_rfl⟩ k_tell)
theorem k_examine : FnOk Tryz.prog 10 ExamineC := body_ok (by kernel_rfl) (examine_body _ k_paper k_others ⟨by kernel_rfl⟩ k_tell)
theorem k_whole : FnOk Tryz.prog 45 WholeC := body_ok (by kernel_rfl) (whole_body _)
theorem k_cAtom : FnOk Tryz.prog 48 IsAC := body_ok (by kernel_rfl) (cAtom_body _)
theorem k_l2 : FnOk Tryz.prog 50 L2C := body_ok (by kernel_rfl) (l2_body _ k_cAtom)
theorem k_f1 : FnOk Tryz.prog 101 F1C := body_ok (by kernel_rfl) (f1_body _ k_holds ⟨by kernel_rfl⟩ k_l2)
theorem k_lpA : FnOk Tryz.prog 100 LpAC := body_ok (by kernel_rfl) (lpA_body _ ⟨by kernel_rfl⟩ k_f1)
theorem k_lpN : FnOk Tryz.prog 100 LpNC := body_ok (by kernel_rfl) (lpN_body _ k_lpA)
theorem k_lfail : FnOk Tryz.prog 46 LFailC := body_ok (by kernel_rfl) (lfail_body _ k_lpN)
theorem k_cleast : FnOk Tryz.prog 13 CLeastC := body_ok (by kernel_rfl) (cleast_body _ k_examine k_whole k_lfail)
theorem k_waiv : FnOk Tryz.prog 15 WaivC := body_ok (by kernel_rfl) (waiv_body _)
theorem k_neede : FnOk Tryz.prog 14 NeedeC := body_ok (by kernel_rfl) (neede_body _ k_examine k_waiv)
theorem k_cloneD : FnOk Tryz.prog 52 CloneDC := body_ok (by kernel_rfl) (cloneD_body _)
theorem k_cloneFs : FnOk Tryz.prog 53 CloneFsC := body_ok (by kernel_rfl) (cloneFs_body _)
theorem k_party : FnOk Tryz.prog 103 (CureC partyM) := body_ok (by kernel_rfl) (party_body _)
theorem k_cdigits : FnOk Tryz.prog 190 ItoC := body_ok (by kernel_rfl) (cdigits_body _ k_fmt)
theorem k_sumC : FnOk Tryz.prog 104 (CureC sumCM) := body_ok (by kernel_rfl) (sumC_body _ k_fnumber k_cdigits k_most k_least)
theorem k_cbehind : FnOk Tryz.prog 191 CBehC := body_ok (by kernel_rfl) (cbehind_body _)
theorem k_issC : FnOk Tryz.prog 105 (CureC issCM) := body_ok (by kernel_rfl) (issC_body _ k_fnumber k_cdigits k_cbehind)
theorem k_p1 : FnOk Tryz.prog 192 P1C := body_ok (by kernel_rfl) (p1_body _ k_cAtom)
theorem k_f1p : FnOk Tryz.prog 101 F1PC := body_ok (by kernel_rfl) (f1p_body _ k_holds ⟨by kernel_rfl⟩ k_p1)
theorem k_lpPA : FnOk Tryz.prog 100 LpPAC := body_ok (by kernel_rfl) (lpPA_body _ ⟨by kernel_rfl⟩ k_f1p)
theorem k_lpPN : FnOk Tryz.prog 100 LpPNC := body_ok (by kernel_rfl) (lpPN_body _ k_lpPA)
theorem k_pfail : FnOk Tryz.prog 46 PFailC := body_ok (by kernel_rfl) (pfail_body _ k_lpPN)
theorem k_part : FnOk Tryz.prog 106 PartC := body_ok (by kernel_rfl) (part_body _ k_pfail k_cdigits)
theorem k_o1 : FnOk Tryz.prog 194 O1C := body_ok (by kernel_rfl) (o1_body _)
theorem k_ixO : FnOk Tryz.prog 224 IxOC := body_ok (by kernel_rfl) (ixO_body _ ⟨by kernel_rfl⟩ k_o1)
theorem k_cfO : FnOk Tryz.prog 144 CfOC := body_ok (by kernel_rfl) (cfO_body _ k_ixO)
theorem k_oth : FnOk Tryz.prog 107 OthC := body_ok (by kernel_rfl) (oth_body _ ⟨k_cfO, k_get⟩)
theorem k_cured : FnOk Tryz.prog 54 CuredC := body_ok (by kernel_rfl) (cured_body _ ⟨k_get, ⟨by kernel_rfl⟩, ⟨by kernel_rfl⟩, ⟨by kernel_rfl⟩, ⟨by kernel_rfl⟩, ⟨by kernel_rfl⟩, k_party, k_sumC, k_issC, k_part, k_oth⟩)
theorem k_mend : FnOk Tryz.prog 16 MendC := body_ok (by kernel_rfl) (mend_body _ ⟨k_cloneD, k_cloneFs, k_cured, k_set, k_examine, k_waiv⟩)
theorem k_fine : FnOk Tryz.prog 9 FineC := body_ok (by kernel_rfl) (fine_body _ k_examine)
theorem k_ftext : FnOk Tryz.prog 57 FTextC := body_ok (by kernel_rfl) (ftext_body _ k_itoa k_join)
theorem k_why : FnOk Tryz.prog 17 WhyC := body_ok (by kernel_rfl) (why_body _ ⟨k_examine, k_ftext, (wrE_of k_write), (wr_of k_write), k_whole, (strE_of k_string), (strT_of k_string)⟩)
theorem k_to : FnOk Tryz.prog 4 ToC := body_ok (by kernel_rfl) (to_body _ ⟨k_asks, k_papers, k_so, k_examine, k_cleast, k_neede, k_waiv, k_mend, k_fine, k_why⟩)
end Go.Proofs.YtooioahiijbomaaGreatDoor
namespace Go.Proofs.YtooioahiijbomaaGreatDoor
open Go.ChangeShapes Go.WideShapes Go.Deep Go.RowKit
inductive Sh where
 | int (k : IntKind)
 | str
 | bl
 | sl (sz : Nat) (e : Sh)
 | st (l : List Sh)
mutual
def Sh.width : Sh → Nat
 | .int _ => 1
 | .str => 1
 | .bl => 1
 | .sl _ _ => 1
 | .st l => Sh.widthL l
def Sh.widthL : List Sh → Nat
 | [] => 0
 | s :: l => s.width + Sh.widthL l
end
mutual
def Op (B : Nat) : Sh → List AV → Prop
 | .int k, cs => ∃ n, cs = [.int k n] ∧ (Lit.int k n).wf = true
 | .str, cs => ∃ s, cs = [.str s] ∧ s.size ≤ maxLen ∧ s.size ≤ B
 | .bl, cs => ∃ b, cs = [.bl b]
 | .sl sz e, cs => ∃ xs, cs = [.sl sz xs] ∧ xs.length ≤ maxLen ∧ ∀ x ∈ xs, x = elemAV sz x.cells ∧ Op B e x.cells
 | .st l, cs => OpL B l cs
def OpL (B : Nat) : List Sh → List AV → Prop
 | [], cs => cs = []
 | s :: l, cs => ∃ a b, cs = a ++ b ∧ Op B s a ∧ OpL B l b
end
mutual
theorem Op.one {B : Nat} : ∀ (s : Sh) (cs : List AV), Op B s cs → cs.all AV.one = true
 | .int k, cs, h => by unfold Op at h; obtain ⟨n, rfl, _⟩ := h; rfl
 | .str, cs, h => by unfold Op at h; obtain ⟨n, rfl, _⟩ := h; rfl
 | .bl, cs, h => by unfold Op at h; obtain ⟨n, rfl⟩ := h; rfl
 | .sl sz e, cs, h => by unfold Op at h; obtain ⟨xs, rfl, _⟩ := h; rfl
 | .st l, cs, h => by unfold Op at h; exact OpL.one l cs h
theorem OpL.one {B : Nat} : ∀ (l : List Sh) (cs : List AV), OpL B l cs → cs.all AV.one = true
 | [], cs, h => by unfold OpL at h; subst h; rfl
 | s :: l, cs, h => by
  unfold OpL at h
  obtain ⟨a, b, rfl, h1, h2⟩ := h
  rw [List.all_append, Op.one s a h1, OpL.one l b h2]
  rfl
end
def shFs (P : Program) (g : TypeId → Option Sh) : List Field → Nat → Nat → Option (List Sh)
 | [], off, tot => if off = tot then some [] else none
 | f :: l, off, tot => if f.offset = off then match g f.type, shFs P g l (off + P.cellsOf f.type) tot with
   | some s, some r => some (s :: r)
   | _, _ => none
  else none
mutual
theorem Op.len {B : Nat} : ∀ (s : Sh) (cs : List AV), Op B s cs → cs.length = s.width
 | .int k, cs, h => by unfold Op at h; obtain ⟨n, rfl, _⟩ := h; rfl
 | .str, cs, h => by unfold Op at h; obtain ⟨n, rfl, _⟩ := h; rfl
 | .bl, cs, h => by unfold Op at h; obtain ⟨n, rfl⟩ := h; rfl
 | .sl sz e, cs, h => by unfold Op at h; obtain ⟨xs, rfl, _⟩ := h; rfl
 | .st l, cs, h => by unfold Op at h; exact OpL.len l cs h
theorem OpL.len {B : Nat} : ∀ (l : List Sh) (cs : List AV), OpL B l cs → cs.length = Sh.widthL l
 | [], cs, h => by unfold OpL at h; subst h; rfl
 | s :: l, cs, h => by
  unfold OpL at h
  obtain ⟨a, b, rfl, h1, h2⟩ := h
  rw [List.length_append, Op.len s a h1, OpL.len l b h2]
  rfl
end
def shOf (P : Program) : Nat → TypeId → Option Sh
 | 0, _ => none
 | n + 1, t => match P.underlying t with
  | some .bool => some .bl
  | some (.int k) => some (.int k)
  | some .string => some .str
  | some (.slice e) => match shOf P n e with
   | some s => if s.width = P.cellsOf e then some (.sl (P.cellsOf e) s) else none
   | none => none
  | some (.struct fs) => (shFs P (shOf P n) fs.toList 0 (P.cellsOf t)).map .st
  | _ => none
def pubW (w : World) : Pub := fun b => match w.heap[b]? with
 | some (.cells arr _ _) => arr.size
 | _ => 0
theorem pubW_cell {w : World} {b i : Nat} {u : Value} (h : w.cell? ⟨b, i, none⟩ = some u) : i < pubW w b := by
 unfold World.cell? at h
 unfold pubW
 cases hb : w.heap[b]? with
 | none => simp [hb] at h
 | some o =>
  cases o <;> simp [hb] at h ⊢
  rename_i arr _ _
  rcases Nat.lt_or_ge i arr.size with h1 | h1
  ·exact h1
  ·rw [Array.getElem?_eq_none h1] at h; simp at h
theorem pubW_there {w : World} {b i : Nat} (h : i < pubW w b) : ∃ u, w.cell? ⟨b, i, none⟩ = some u := by
 unfold pubW at h
 cases hb : w.heap[b]? with
 | none => simp [hb] at h
 | some o =>
  cases o <;> simp [hb] at h
  rename_i arr _ _
  exact ⟨arr[i], by unfold World.cell?; simp [hb, Array.getElem?_eq_getElem h]⟩
theorem Mod.door (w : World) (hg : GlobOk (pubW w) w) : Mod (pubW w) w rho0 [] :=
 ⟨fun k e he => (by simp at he), fun _ _ => rfl, (fun _ _ _ _ _ h => by cases h), (fun b hb => by unfold pubW; rw [Array.getElem?_eq_none hb]), fun b i hi => pubW_there hi, hg⟩
theorem elemAV_cells_ {sz : Nat} {l : List AV} (hl : l.length = sz) (h1 : l.all AV.one = true) : (elemAV sz l).cells = l := elemAV_cells hl h1
theorem of_each_ {α : Type} {p : Nat → α → Prop} : ∀ (n : Nat), (∀ i, i < n → ∃ a, p i a) → ∃ l : List α, l.length = n ∧ ∀ i (h : i < l.length), p i l[i]
 | 0, _ => ⟨[], rfl, fun i h => by simp at h⟩
 | n + 1, h => by
  obtain ⟨l, hl, hp⟩ := of_each_ n (fun i hi => h i (by omega))
  obtain ⟨a, ha⟩ := h n (by omega)
  refine ⟨l ++ [a], by simp [hl], fun i hi => ?_⟩
  by_cases h1 : i < l.length
  ·rw [List.getElem_append_left h1]; exact hp i h1
  ·simp at hi
   obtain rfl : i = n := by omega
   subst hl
   simpa using ha
theorem Addr_add_none (b o n : Nat) : (⟨b, o, none⟩ : Addr).add n = ⟨b, o + n, none⟩ := by unfold Addr.add; split <;> simp_all
section
variable {B : Nat}
variable {H : Type} {enc : TypeId × Value → H} {P : Program} {w : World} {base : Nat} {spare : Nat → Bool} {held : Bool}
theorem VRels.single {x : AV} {u : Value} {pub : Pub} {r : Rho} (h : VRel pub w r x u) : VRels pub w r [x] [u] := .cons h .nil
def topAV : Sh → List AV → AV
 | .st _, cz => .agg cz
 | _, cz => cz.headD .any
theorem cells_one_ {v : Value} (h : ∀ cs, v ≠ .agg cs) : v.cells.toList = [v] := by
 cases v with
 | agg cs => exact absurd rfl (h cs)
 | _ => rfl
theorem op_list {α : Type} {sz : Nat} {e : Sh} {f : α → AV} {q : α → Prop} (h : ∀ cz, Op B e cz → ∃ x : α, elemAV sz cz = f x ∧ q x) {cs : List AV} (ho : Op B (.sl sz e) cs) : ∃ L : List α, cs = [.sl sz (mapA f L)] ∧ L.length ≤ maxLen ∧ ∀ x ∈ L, q x := by
 unfold Op at ho
 obtain ⟨xs, rfl, hl, hx⟩ := ho
 have key : ∀ xs : List AV, (∀ x ∈ xs, x = elemAV sz x.cells ∧ Op B e x.cells) → ∃ L : List α, xs = mapA f L ∧ ∀ x ∈ L, q x := fun xs => by
  induction xs with
  | nil => exact fun _ => ⟨[], rfl, fun x hx => by cases hx⟩
  | cons y ys ih =>
   intro hx
   obtain ⟨L, rfl, hL⟩ := ih fun x hm => hx x (List.mem_cons_of_mem _ hm)
   obtain ⟨e1, e2⟩ := hx y (List.mem_cons_self ..)
   obtain ⟨x, hf, hq⟩ := h _ e2
   refine ⟨x :: L, ?_, fun z hz => ?_⟩
   ·show y :: mapA f L = f x :: mapA f L
    rw [e1, hf]
   ·rcases List.mem_cons.1 hz with rfl | hz
    ·exact hq
    ·exact hL z hz
 obtain ⟨L, rfl, hL⟩ := key xs hx
 exact ⟨L, rfl, by rwa [mapA_len] at hl, hL⟩
theorem wf_i64 {n : Int} (h : (Lit.int .i64 n).wf = true) : -9223372036854775808 ≤ n ∧ n ≤ 9223372036854775807 := by
 simp only [Lit.wf, Bool.and_eq_true, decide_eq_true_eq] at h
 have h1 : IntKind.i64.min = -9223372036854775808 := rfl
 have h2 : IntKind.i64.max = 9223372036854775807 := rfl
 omega
theorem wf_u8 {n : Int} (h : (Lit.int .u8 n).wf = true) : 0 ≤ n ∧ n ≤ 255 := by
 simp only [Lit.wf, Bool.and_eq_true, decide_eq_true_eq] at h
 have h1 : IntKind.u8.min = 0 := rfl
 have h2 : IntKind.u8.max = 255 := rfl
 omega
theorem walk_of {f : Nat} {c : Ctr} (hf : FnOk P f c) {args : List AV} {vals : Array Value} (hv : VRels (pubW w) w rho0 args vals.toList) (hc : c args [] fun x _ => x = .bl true) (hg : GlobOk (pubW w) w) :
  Calls P f vals w fun e w' => e = .returned (.bool true) ∧ Below w.heap.size w w' := by
 refine (hf args [] _ hc w rho0 (pubW w) vals (Mod.door w hg) hv).mono fun e w' ⟨v, x, H', r', pub', he, hx, hvx, _, hfr, _⟩ => ?_
 subst he
 subst hx
 cases hvx
 exact ⟨rfl, hfr.os, hfr.tape, hfr.output, hfr.size, fun j hj => (hfr.keep j hj (fun ⟨_, _, h, _⟩ => by cases h)).1⟩
end
end Go.Proofs.YtooioahiijbomaaGreatDoor
namespace Go.Proofs.YtooioahiijbomaaGreatDoor
open Go.ChangeShapes Go.WideShapes Go.Deep Go.RowKit
mutual
def AV.wt : AV → Nat
 | .str s => s.size + 1
 | .sl _ xs => AV.wtL xs + 1
 | .agg l => AV.wtL l + 1
 | _ => 1
def AV.wtL : List AV → Nat
 | [] => 0
 | x :: l => AV.wt x + AV.wtL l
end
theorem wtL_app : ∀ (l m : List AV), AV.wtL (l ++ m) = AV.wtL l + AV.wtL m
 | [], m => by rw [List.nil_append]; unfold AV.wtL; omega
 | x :: l, m => by
  rw [List.cons_append]
  show AV.wt x + AV.wtL (l ++ m) = AV.wt x + AV.wtL l + AV.wtL m
  rw [wtL_app l m]
  omega
def Sh.sb : Sh → Nat
 | .st _ => 1
 | _ => 0
theorem wt_elem {e : Sh} {cz : List AV} (ho : Op maxLen e cz) : AV.wt (elemAV e.width cz) ≤ AV.wtL cz + e.sb := by
 have hl := Op.len _ _ ho
 unfold elemAV
 split
 ·match cz, hl with
  | [], _ => simp_all
  | [c], _ => exact Nat.le_add_right _ _
  | _ :: _ :: _, _ => simp_all
 ·cases e with
  | st l => exact Nat.le_refl _
  | _ => exact absurd rfl ‹_›
theorem wtL_elems {H : Type} {sz : Nat} : ∀ (A : List (List AV)) (E : List (DataW H)), A.length = E.length → (∀ (i : Nat) (cz : List AV) (d : DataW H), A[i]? = some cz → E[i]? = some d → AV.wt (elemAV sz cz) ≤ Rows.uptoBulk d) → AV.wtL (A.map (elemAV sz)) ≤ Rows.uptoBulkAll E
 | [], _, _, _ => Nat.zero_le _
 | cz :: A, [], h, _ => by cases h
 | cz :: A, d :: E, h, hp => by
  have h1 := hp 0 cz d rfl rfl
  have h2 := wtL_elems A E (by simpa using h) fun i c e hc he => hp (i + 1) c e (by simpa using hc) (by simpa using he)
  show AV.wt (elemAV sz cz) + AV.wtL (A.map (elemAV sz)) ≤ Rows.uptoBulk d + Rows.uptoBulkAll E
  omega
section
variable {H : Type} {enc : TypeId × Value → H} {P : Program} {w : World} {base : Nat} {spare : Nat → Bool} {held : Bool}
theorem open_fsW {g : TypeId → Option Sh} {cs : List Value} (hg : ∀ t s, g t = some s → ∀ fuel cs x, DataW.trod enc P w base spare held fuel t cs = some x → ∃ cz, Op maxLen s cz ∧ VRels (pubW w) w rho0 cz cs ∧ AV.wtL cz + s.sb ≤ Rows.uptoBulk x.1) :
  ∀ (l : List Field) (ds : List (DataW H)) (off tot : Nat) (ss : List Sh), shFs P g l off tot = some ss → cs.length = tot → ds.length = l.length → (∀ (j : Nat) (f : Field), l[j]? = some f → ∃ fuel y, ds[j]? = some y.1 ∧ DataW.trod enc P w base spare held fuel f.type ((cs.drop f.offset).take (P.cellsOf f.type)) = some y) →
   ∃ cz, OpL maxLen ss cz ∧ VRels (pubW w) w rho0 cz (cs.drop off) ∧ AV.wtL cz ≤ Rows.uptoBulkAll ds
 | [], ds, off, tot, ss, h, hl, hd, _ => by
  unfold shFs at h
  split at h
  ·cases h
   rename_i e
   refine ⟨[], by unfold OpL; rfl, ?_, Nat.zero_le _⟩
   rw [List.drop_eq_nil_of_le (by omega)]
   exact .nil
  ·cases h
 | f :: l, [], off, tot, ss, h, hl, hd, hf => by cases hd
 | f :: l, d :: ds, off, tot, ss, h, hl, hd, hf => by
  unfold shFs at h
  split at h
  ·rename_i e
   split at h
   ·rename_i s r hs hr
    cases h
    obtain ⟨fuel, y, hdy, hy⟩ := hf 0 f rfl
    obtain rfl : d = y.1 := Option.some.inj hdy
    obtain ⟨cz1, h1, h2, hw1⟩ := hg _ _ hs _ _ _ hy
    obtain ⟨cz2, h3, h4, hw2⟩ := open_fsW hg l ds _ tot r hr hl (by simpa using hd) (fun j f hm => hf (j + 1) f (by simpa using hm))
    refine ⟨cz1 ++ cz2, by unfold OpL; exact ⟨cz1, cz2, rfl, h1, h3⟩, ?_, ?_⟩
    ·rw [e] at h2
     have := h2.app h4
     rw [← List.drop_drop, List.take_append_drop] at this
     exact this
    ·rw [wtL_app]
     show _ ≤ Rows.uptoBulk y.1 + Rows.uptoBulkAll ds
     omega
   ·cases h
  ·cases h
theorem open_cellsW : ∀ (n : Nat) (t : TypeId) (s : Sh), shOf P n t = some s → ∀ (fuel : Nat) (cs : List Value) (x : DataW H × List MemPlace), DataW.trod enc P w base spare held fuel t cs = some x → ∃ cz, Op maxLen s cz ∧ VRels (pubW w) w rho0 cz cs ∧ AV.wtL cz + s.sb ≤ Rows.uptoBulk x.1
 | 0, t, s, h => by cases h
 | n + 1, t, s, h => by
  intro fuel cs x hx
  have ih := open_cellsW n
  unfold shOf at h
  split at h
  ·rename_i ht
   cases h
   obtain ⟨b, rfl, rfl⟩ := DataW.trod_bool ht hx
   exact ⟨[.bl b], by unfold Op; exact ⟨b, rfl⟩, .single (.bl b), by show 1 + 0 + 0 ≤ 1; omega⟩
  ·rename_i k ht
   cases h
   obtain ⟨b, rfl, rfl, hw⟩ := DataW.trod_int ht hx
   exact ⟨[.int k b], by unfold Op; exact ⟨b, rfl, hw⟩, .single (.int k b), by show 1 + 0 + 0 ≤ 1; omega⟩
  ·rename_i ht
   cases h
   obtain ⟨b, rfl, rfl, hw⟩ := DataW.trod_string ht hx
   have h4 : b.data.toList.length = b.size := by rw [Array.length_toList]; rfl
   exact ⟨[.str b], by unfold Op; exact ⟨b, rfl, hw, hw⟩, .single (.str b), by show b.size + 1 + 0 + 0 ≤ b.data.toList.length + 1; omega⟩
  ·rename_i e ht
   split at h
   ·rename_i se hse
    split at h
    ·rename_i hwd
     cases h
     rcases open_slice ht hx with ⟨rfl, rfl⟩ | ⟨a, len, cap, m, n', D, Pl, rfl, _, hl, hm, hmm, rfl, hi⟩
     ·refine ⟨[.sl (P.cellsOf e) []], by unfold Op; exact ⟨[], rfl, Nat.zero_le _, fun x hx => by cases hx⟩, .single (.sl (A := none) (c := 0) (xs := []) (Nat.le_refl _) (by unfold maxLen; omega) (fun _ => ⟨rfl, rfl⟩) (fun x hx => by cases hx) (fun _ _ => undef) (fun i x j u hx => by simp at hx) (fun i x j u hx => by simp at hx)), by show 0 + 1 + 0 + 0 ≤ 1; omega⟩
     ·have hle : len ≤ m := by rw [hmm]; split <;> omega
      have each : ∀ i, i < len → ∃ cz, Op maxLen se cz ∧ AV.wtL cz + se.sb ≤ Rows.uptoBulk (D i) ∧ ∃ vs : List Value, VRels (pubW w) w rho0 cz vs ∧ ∀ j v, vs[j]? = some v → w.cell? ((a.add (i * P.cellsOf e)).add j) = some v := fun i hil => by
       obtain ⟨cs', hc, ht'⟩ := hi i (by omega)
       obtain ⟨cz, h1, h2, hwz⟩ := ih e se hse _ _ _ ht'
       obtain ⟨_, hcl, hat⟩ := World.cells?_some hc
       exact ⟨cz, h1, hwz, cs', h2, fun j v hv => by rw [hat j (by rw [← hcl]; exact (List.getElem?_eq_some_iff.1 hv).1), hv]⟩
      obtain ⟨A, hAl, hA⟩ : ∃ A : List (List AV), A.length = len ∧ ∀ i (h : i < A.length), Op maxLen se A[i] ∧ AV.wtL A[i] + se.sb ≤ Rows.uptoBulk (D i) ∧ ∃ vs : List Value, VRels (pubW w) w rho0 A[i] vs ∧ ∀ j v, vs[j]? = some v → w.cell? ((a.add (i * P.cellsOf e)).add j) = some v := of_each_ len (p := fun i cz => Op maxLen se cz ∧ AV.wtL cz + se.sb ≤ Rows.uptoBulk (D i) ∧ ∃ vs : List Value, VRels (pubW w) w rho0 cz vs ∧ ∀ j v, vs[j]? = some v → w.cell? ((a.add (i * P.cellsOf e)).add j) = some v) each
      have hcells : ∀ (cz : List AV), Op maxLen se cz → (elemAV (P.cellsOf e) cz).cells = cz := fun cz ho => elemAV_cells_ ((Op.len _ _ ho).trans hwd) (Op.one _ _ ho)
      refine ⟨[.sl (P.cellsOf e) (A.map (elemAV (P.cellsOf e)))], ?_, ?_, ?_⟩
      ·unfold Op
       refine ⟨_, rfl, by rw [List.length_map, hAl]; omega, fun x hx => ?_⟩
       obtain ⟨cz, has, rfl⟩ := List.mem_map.1 hx
       obtain ⟨i, hil, rfl⟩ := List.getElem_of_mem has
       rw [hcells _ (hA i hil).1]
       exact ⟨rfl, (hA i hil).1⟩
      ·refine .single ?_
       rw [← hAl, ← List.length_map (f := elemAV (P.cellsOf e))]
       have get : ∀ (i : Nat) (x : AV) (j : Nat) (u : AV), (A.map (elemAV (P.cellsOf e)))[i]? = some x → x.cells[j]? = some u → ∃ v, w.cell? ((a.add (i * P.cellsOf e)).add j) = some v ∧ VRel (pubW w) w rho0 u v := fun i x j u hx hu => by
        rw [List.getElem?_map] at hx
        rcases Nat.lt_or_ge i A.length with hil | hil
        ·rw [List.getElem?_eq_getElem hil] at hx
         cases hx
         obtain ⟨ho, _, vs, hvs, hc⟩ := hA i hil
         rw [hcells _ ho] at hu
         obtain ⟨v, hv, hr⟩ := hvs.get hu
         exact ⟨v, hc j v hv, hr⟩
        ·rw [List.getElem?_eq_none hil] at hx; cases hx
       refine .sl (by rw [List.length_map]; omega) (by omega) (fun h => by cases h) (fun x hx => ?_) (fun i j => (w.cell? ((a.add (i * P.cellsOf e)).add j)).getD undef) (fun i x j u hx hu => ?_) (fun i x j u hx hu => ?_)
       ·obtain ⟨cz, has, rfl⟩ := List.mem_map.1 hx
        obtain ⟨i, hil, rfl⟩ := List.getElem_of_mem has
        rw [hcells _ (hA i hil).1]
        exact ⟨(Op.len _ _ (hA i hil).1).trans hwd, Op.one _ _ (hA i hil).1⟩
       ·obtain ⟨v, hv, hr⟩ := get i x j u hx hu
        rw [hv]
        exact hr
       ·obtain ⟨v, hv, hr⟩ := get i x j u hx hu
        have hsp : a.spot = none := by
         rw [List.getElem?_map] at hx
         cases hAi : A[i]? with
         | none => rw [hAi] at hx; cases hx
         | some cz =>
          rw [hAi] at hx
          cases hx
          obtain ⟨hil, rfl⟩ := List.getElem?_eq_some_iff.1 hAi
          have hju : j < A[i].length := by rw [hcells _ (hA i hil).1] at hu; exact (List.getElem?_eq_some_iff.1 hu).1
          have hli := Op.len _ _ (hA i hil).1
          obtain ⟨ho, _, vs, hvs, hc⟩ := hA 0 (by omega)
          have hl0 := Op.len _ _ ho
          have hv0 : 0 < vs.length := by rw [hvs.len]; omega
          have := World.cell?_spot (hc 0 vs[0] (List.getElem?_eq_getElem hv0))
          simpa [Addr.add] using this
        obtain ⟨b, o, spot⟩ := a
        dsimp only at hsp
        subst hsp
        rw [hv]
        have e1 : ((⟨b, o, none⟩ : Addr).add (i * P.cellsOf e)).add j = ⟨b, o + i * P.cellsOf e + j, none⟩ := by
         rw [Addr_add_none, Addr_add_none]
        rw [e1] at hv
        exact ⟨b, o, rfl, pubW_cell hv, hv⟩
      ·have h5 := wtL_elems (sz := P.cellsOf e) A ((List.range len).map D) (by rw [hAl, List.length_map, List.length_range]) fun i cz d hc hd => by
        obtain ⟨hil, rfl⟩ := List.getElem?_eq_some_iff.1 hc
        rw [List.getElem?_map, List.getElem?_range (by omega)] at hd
        cases hd
        have h6 := hA i hil
        exact Nat.le_trans (by rw [← hwd]; exact wt_elem h6.1) h6.2.1
       show AV.wtL (A.map (elemAV (P.cellsOf e))) + 1 + 0 + 0 ≤ Rows.uptoBulkAll _ + Rows.uptoBulkAll _ + 1
       omega
    ·cases h
   ·cases h
  ·rename_i fs ht
   obtain ⟨ss, hss, rfl⟩ := map_some h
   obtain ⟨xs, n', _, hxa, hl, hlen, hf⟩ := DataW.trod_struct ht hx
   obtain ⟨cz, h1, h2, hwz⟩ := open_fsW (cs := cs) ih fs.toList (xs.map (·.1)) 0 _ ss hss hl (by rw [List.length_map, hlen]; simp) (fun j f hj => by
    have hjl : j < xs.length := by rw [hlen]; simpa using (List.getElem?_eq_some_iff.1 hj).1
    exact ⟨n', xs[j], by rw [List.getElem?_map, List.getElem?_eq_getElem hjl]; rfl, by rw [hf j f (by simpa using hj), List.getElem?_eq_getElem hjl]⟩)
   refine ⟨cz, by unfold Op; exact h1, by simpa using h2, ?_⟩
   rw [hxa]
   show _ ≤ Rows.uptoBulkAll _ + 1
   exact Nat.succ_le_succ hwz
  ·cases h
theorem open_valW {n : Nat} {t : TypeId} {s : Sh} {r : Reach} {b0 : Nat} {v : Value} {d : DataW H} {p : List MemPlace} (hs : shOf P n t = some s) (hv : Value.okWide P w r b0 t v) (hd : DataW.Trod enc P w base spare held t v d p) :
  ∃ cz, Op maxLen s cz ∧ VRel (pubW w) w rho0 (topAV s cz) v ∧ AV.wtL cz + s.sb ≤ Rows.uptoBulk d := by
 obtain ⟨fuel, hf⟩ := hd
 obtain ⟨cz, h1, h2, hwz⟩ := open_cellsW n t s hs _ _ _ hf
 refine ⟨cz, h1, ?_, hwz⟩
 have scal : (∀ cs, v ≠ .agg cs) → ∀ a, cz = [a] → VRel (pubW w) w rho0 a v := fun hne a ha => by
  rw [cells_one_ hne, ha] at h2
  exact h2.at_ 0 a v rfl rfl
 cases n with
 | zero => cases hs
 | succ n =>
  unfold shOf at hs
  split at hs
  ·rename_i ht
   cases hs
   unfold Op at h1
   obtain ⟨b, rfl⟩ := h1
   exact scal (fun cs hc => by subst hc; simp [Value.okWide, ht, Cell.okWide, Cell.ok] at hv) _ rfl
  ·rename_i k ht
   cases hs
   unfold Op at h1
   obtain ⟨b, rfl, _⟩ := h1
   exact scal (fun cs hc => by subst hc; simp [Value.okWide, ht, Cell.okWide, Cell.ok] at hv) _ rfl
  ·rename_i ht
   cases hs
   unfold Op at h1
   obtain ⟨b, rfl, _⟩ := h1
   exact scal (fun cs hc => by subst hc; simp [Value.okWide, ht, Cell.okWide, Cell.ok] at hv) _ rfl
  ·rename_i e ht
   split at hs
   ·split at hs
    ·cases hs
     unfold Op at h1
     obtain ⟨b, rfl, _⟩ := h1
     exact scal (fun cs hc => by subst hc; simp [Value.okWide, ht, Cell.okWide, Cell.ok] at hv) _ rfl
    ·cases hs
   ·cases hs
  ·rename_i fs ht
   obtain ⟨ss, hss, rfl⟩ := map_some hs
   simp only [Value.okWide, ht] at hv
   obtain ⟨cs, rfl, _⟩ := hv
   exact .agg (by simpa [Value.cells] using h2.len) fun i x u hx hu => h2.at_ i x u hx (by simpa [Value.cells] using hu)
  ·cases hs
end
end Go.Proofs.YtooioahiijbomaaGreatDoor
namespace Go.Proofs.YtooioahiijbomaaGreatDoor
open Go.RowKit
set_option maxHeartbeats 2000000
set_option maxRecDepth 100000
def lotSh : Sh := .st [.str, .int .i64]
def boxSh : Sh := .st [.str, .int .i64, .sl 2 lotSh]
def dealSh : Sh := .st [.str, .str, .str, .str, .str, .str, .str, .str, .str, .st [.str, .int .i64], .sl 3 boxSh, .int .i64, .int .i64, .int .i64, .int .i64, .int .i64]
def tradeSh : Sh := .st [dealSh, .int .u16, .int .u16]
theorem sh_trade : shOf Tryz.prog 9 29 = some tradeSh := by kernel_rfl
theorem wf_u16 {n : Int} (h : (Lit.int .u16 n).wf = true) : 0 ≤ n ∧ n ≤ 65535 := by
 simp only [Lit.wf, Bool.and_eq_true, decide_eq_true_eq] at h
 have h1 : IntKind.u16.min = 0 := rfl
 have h2 : IntKind.u16.max = 65535 := rfl
 omega
theorem op_lot (cz : List AV) (h : Op maxLen lotSh cz) : ∃ x : Lo, elemAV 2 cz = LoA x ∧ i64 x.count := by
 unfold lotSh Op at h
 (unfold OpL at h; obtain ⟨_, _, rfl, h1, h⟩ := h; unfold Op at h1; obtain ⟨a0, rfl, w0⟩ := h1)
 (unfold OpL at h; obtain ⟨_, _, rfl, h1, h⟩ := h; unfold Op at h1; obtain ⟨a1, rfl, w1⟩ := h1)
 (unfold OpL at h; subst h)
 exact ⟨⟨a0, a1⟩, rfl, wf_i64 w1⟩
theorem op_box (cz : List AV) (h : Op maxLen boxSh cz) : ∃ x : Bx, elemAV 3 cz = BxA x ∧ ∀ y ∈ x.lots, i64 y.count := by
 unfold boxSh Op at h
 (unfold OpL at h; obtain ⟨_, _, rfl, h1, h⟩ := h; unfold Op at h1; obtain ⟨a0, rfl, w0⟩ := h1)
 (unfold OpL at h; obtain ⟨_, _, rfl, h1, h⟩ := h; unfold Op at h1; obtain ⟨a1, rfl, w1⟩ := h1)
 unfold OpL at h
 obtain ⟨_, _, rfl, h1, h⟩ := h
 obtain ⟨L, rfl, hl, hL⟩ := op_list op_lot h1
 (unfold OpL at h; subst h)
 exact ⟨⟨a0, a1, L⟩, rfl, hL⟩
def TrL : Tr → List AV
 | ⟨⟨number, seller, buyer, carrier, issuer, house, insurer, frm, to, cur, amt, boxes, term, latest, expiry, tenor, duty⟩, issued, presented⟩ => [.str number, .str seller, .str buyer, .str carrier, .str issuer, .str house, .str insurer, .str frm, .str to, .str cur, .i amt, .sl 3 (mapA BxA boxes), .i term, .i latest, .i expiry, .i tenor, .i duty, .int .u16 issued, .int .u16 presented]
theorem TrA_L (x : Tr) : AV.agg (TrL x) = TrA x := by obtain ⟨⟨number, seller, buyer, carrier, issuer, house, insurer, frm, to, cur, amt, boxes, term, latest, expiry, tenor, duty⟩, issued, presented⟩ := x; rfl
structure TrIn (x : Tr) : Prop where
 amt : i64 x.d.amt
 term : i64 x.d.term
 latest : i64 x.d.latest
 expiry : i64 x.d.expiry
 tenor : i64 x.d.tenor
 c : ∀ b ∈ x.d.boxes, ∀ y ∈ b.lots, i64 y.count
 i : 0 ≤ x.issued ∧ x.issued ≤ 65535
 p : 0 ≤ x.presented ∧ x.presented ≤ 65535
theorem op_trade (cz : List AV) (h : Op maxLen tradeSh cz) : ∃ x : Tr, cz = TrL x ∧ TrIn x := by
 unfold tradeSh Op OpL at h
 obtain ⟨_, _, rfl, hd, h⟩ := h
 (unfold OpL at h; obtain ⟨_, _, rfl, h1, h⟩ := h; unfold Op at h1; obtain ⟨is_, rfl, wi⟩ := h1)
 (unfold OpL at h; obtain ⟨_, _, rfl, h1, h⟩ := h; unfold Op at h1; obtain ⟨pr, rfl, wp⟩ := h1)
 (unfold OpL at h; subst h)
 have h := hd
 unfold dealSh Op at h
 (unfold OpL at h; obtain ⟨_, _, rfl, h1, h⟩ := h; unfold Op at h1; obtain ⟨a0, rfl, w0⟩ := h1)
 (unfold OpL at h; obtain ⟨_, _, rfl, h1, h⟩ := h; unfold Op at h1; obtain ⟨a1, rfl, w1⟩ := h1)
 (unfold OpL at h; obtain ⟨_, _, rfl, h1, h⟩ := h; unfold Op at h1; obtain ⟨a2, rfl, w2⟩ := h1)
 (unfold OpL at h; obtain ⟨_, _, rfl, h1, h⟩ := h; unfold Op at h1; obtain ⟨a3, rfl, w3⟩ := h1)
 (unfold OpL at h; obtain ⟨_, _, rfl, h1, h⟩ := h; unfold Op at h1; obtain ⟨a4, rfl, w4⟩ := h1)
 (unfold OpL at h; obtain ⟨_, _, rfl, h1, h⟩ := h; unfold Op at h1; obtain ⟨a5, rfl, w5⟩ := h1)
 (unfold OpL at h; obtain ⟨_, _, rfl, h1, h⟩ := h; unfold Op at h1; obtain ⟨a6, rfl, w6⟩ := h1)
 (unfold OpL at h; obtain ⟨_, _, rfl, h1, h⟩ := h; unfold Op at h1; obtain ⟨a7, rfl, w7⟩ := h1)
 (unfold OpL at h; obtain ⟨_, _, rfl, h1, h⟩ := h; unfold Op at h1; obtain ⟨a8, rfl, w8⟩ := h1)
 unfold OpL at h
 obtain ⟨_, _, rfl, hm, h'⟩ := h
 have h := hm
 unfold Op at h
 (unfold OpL at h; obtain ⟨_, _, rfl, h1, h⟩ := h; unfold Op at h1; obtain ⟨b0, rfl, v0⟩ := h1)
 (unfold OpL at h; obtain ⟨_, _, rfl, h1, h⟩ := h; unfold Op at h1; obtain ⟨b1, rfl, v1⟩ := h1)
 (unfold OpL at h; subst h)
 have h := h'
 unfold OpL at h
 obtain ⟨_, _, rfl, h1, h⟩ := h
 obtain ⟨L, rfl, hl, hL⟩ := op_list op_box h1
 (unfold OpL at h; obtain ⟨_, _, rfl, h1, h⟩ := h; unfold Op at h1; obtain ⟨c0, rfl, u0⟩ := h1)
 (unfold OpL at h; obtain ⟨_, _, rfl, h1, h⟩ := h; unfold Op at h1; obtain ⟨c1, rfl, u1⟩ := h1)
 (unfold OpL at h; obtain ⟨_, _, rfl, h1, h⟩ := h; unfold Op at h1; obtain ⟨c2, rfl, u2⟩ := h1)
 (unfold OpL at h; obtain ⟨_, _, rfl, h1, h⟩ := h; unfold Op at h1; obtain ⟨c3, rfl, u3⟩ := h1)
 (unfold OpL at h; obtain ⟨_, _, rfl, h1, h⟩ := h; unfold Op at h1; obtain ⟨c4, rfl, u4⟩ := h1)
 (unfold OpL at h; subst h)
 exact ⟨⟨⟨a0, a1, a2, a3, a4, a5, a6, a7, a8, b0, b1, L, c0, c1, c2, c3, c4⟩, is_, pr⟩, rfl, ⟨wf_i64 v1, wf_i64 u0, wf_i64 u1, wf_i64 u2, wf_i64 u3, hL, wf_u16 wi, wf_u16 wp⟩⟩
theorem wt_lots : ∀ L : List Lo, AV.wtL (mapA LoA L) = loW L
 | [] => rfl
 | ⟨g, c⟩ :: L => by
  have ih := wt_lots L
  have e : loW (⟨g, c⟩ :: L) = g.size + 3 + loW L := by unfold loW; rw [List.map_cons, List.sum_cons]
  rw [e, ← ih]
  show g.size + 1 + (1 + 0) + 1 + AV.wtL (mapA LoA L) = _
  omega
theorem wt_boxes : ∀ L : List Bx, boW L ≤ AV.wtL (mapA BxA L)
 | [] => Nat.le_refl _
 | ⟨m, k, l⟩ :: L => by
  have ih := wt_boxes L
  have hl := wt_lots l
  have e : boW (⟨m, k, l⟩ :: L) = m.size + 3 + loW l + boW L := by rw [boW_cons]
  rw [e]
  show _ ≤ m.size + 1 + (1 + (AV.wtL (mapA LoA l) + 1 + 0)) + 1 + AV.wtL (mapA BxA L)
  omega
theorem joinB_sum : ∀ (l : List ByteArray) (sep : ByteArray), (joinB l sep).size ≤ (l.map fun s => s.size + sep.size).sum
 | [], sep => Nat.le_refl _
 | y :: r, sep => by
  have e : (joinB (y :: r) sep).size = y.size + (Lib.joinTail sep.data.toList (r.map (·.data.toList))).length := by
   show (List.toArray _).size = _
   rw [List.size_toArray, List.map_cons, Lib.join_cons, List.length_append, Array.length_toList]
   rfl
  have h2 : ∀ r : List ByteArray, (Lib.joinTail sep.data.toList (r.map (·.data.toList))).length = (r.map fun s => s.size + sep.size).sum := by
   intro r
   induction r with
   | nil => rfl
   | cons a r ih =>
    have e2 : (Lib.joinTail sep.data.toList ((a :: r).map (·.data.toList))).length = sep.size + a.size + (Lib.joinTail sep.data.toList (r.map (·.data.toList))).length := by
     unfold Lib.joinTail
     rw [List.map_cons, List.map_cons, List.flatten_cons, List.length_append, List.length_append, Array.length_toList, Array.length_toList]
     rfl
    rw [e2, ih, List.map_cons, List.sum_cons]
    omega
  rw [e, h2, List.map_cons, List.sum_cons]
  omega
theorem marks_boW : ∀ l : List Bx, ((l.map Bx.mark).map fun s => s.size + kComma.size).sum ≤ boW l
 | [] => Nat.le_refl _
 | b :: l => by
  have ih := marks_boW l
  have h1 : kComma.size = 1 := rfl
  rw [List.map_cons, List.map_cons, List.sum_cons, boW_cons]
  omega
theorem tr_ok {x : Tr} (hi : TrIn x) (hw : AV.wtL (TrL x) ≤ 1048576) : TrOk x := by
 obtain ⟨⟨number, seller, buyer, carrier, issuer, house, insurer, frm, to, cur, amt, boxes, term, latest, expiry, tenor, duty⟩, issued, presented⟩ := x
 obtain ⟨i1, i2, i3, i4, i5, i6, i7, i8⟩ := hi
 try dsimp only at i1 i2 i3 i4 i5 i6 i7 i8
 have hw : number.size + 1 + (seller.size + 1 + (buyer.size + 1 + (carrier.size + 1 + (issuer.size + 1 + (house.size + 1 + (insurer.size + 1 + (frm.size + 1 + (to.size + 1 + (cur.size + 1 + (1 + (AV.wtL (mapA BxA boxes) + 1 + (1 + (1 + (1 + (1 + (1 + (1 + (1 + 0)))))))))))))))))) ≤ 1048576 := hw
 have hb := wt_boxes boxes
 have hl := bo_len boxes
 have hm : (marksM boxes).size ≤ boW boxes := Nat.le_trans (joinB_sum _ _) (marks_boW boxes)
 have hbx : BxW boxes := ⟨by omega, i6⟩
 exact ⟨⟨⟨(show boxes.length ≤ 1048576 by omega), (show (marksM boxes).size ≤ 140737488355328 by omega)⟩, i1, i2, (show number.size ≤ 1048576 by omega), hbx⟩, i7, i8, (show boW boxes ≤ 1048576 by omega), ⟨(show number.size ≤ 1048576 by omega), (show seller.size ≤ 1048576 by omega), (show buyer.size ≤ 1048576 by omega), (show carrier.size ≤ 1048576 by omega), (show issuer.size ≤ 1048576 by omega), (show insurer.size ≤ 1048576 by omega), (show frm.size ≤ 1048576 by omega), (show to.size ≤ 1048576 by omega), (show cur.size ≤ 1048576 by omega), (show (marksM boxes).size ≤ 2097152 by omega), i3, i4, i5⟩⟩
end Go.Proofs.YtooioahiijbomaaGreatDoor
end
