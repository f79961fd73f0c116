/-
  Texts of this proof, joined: VBD, VBW, EW, VBV, FJ, EU, FM, ET, FN, FK, FL, FP, NumLib, Number, GA, GB, GC, GJ, VO, GO, GP, JF.
-/
import Derived.Test.YtooioahiijbomaaGreatDoorA5
import Derived.Shelf.Strings.Builder1
import Derived.Shelf.SlSortCmp.NoneTotal
import Derived.Sort.OwnSorted
import Derived.KernelRfl
import Derived.Test.YtooioahiijbomaaGreatDoorChecked
import Derived.IntWalk
import Derived.Shelf.RegionOpenPlain
import Derived.WalkKit
import Derived.Deep.LoopGhost
import Derived.Deep.RegionLaw
import Derived.Lib.Walk
import Derived.Lib.SliceRun
import Derived.Lib.ReflectliteSwap
import Derived.Shelf.Strconv.ErrVarParseInt
import Derived.Shelf.Strconv.Itoa4
import Derived.Lib.AtoiErrMem
import Derived.Lib.AppendIntMem
import Derived.Shelf.Strings.OnBuilder
import Derived.Shelf.GgClosure.StringsRunes
import Derived.Deep.Slices
import Derived.Deep.Fields
import Derived.ChangeSame
import Derived.ProofKit
import Derived.OpenShut
import Derived.ChangeOld
import Derived.Below
import Derived.Test.YtooioahiijbomaaGreatDoorRows
import Derived.JoinedOf
set_option linter.unusedVariables false
set_option linter.unusedSimpArgs false
noncomputable section
namespace Go.Proofs.YtooioahiijbomaaGreatDoor
open Go.RowKit Go.Shelf
def bytA (s : ByteArray) : List AV := s.data.toList.map fun b => .int .u8 b.toNat
theorem bytA_len (s : ByteArray) : (bytA s).length = s.size := by rw [bytA, List.length_map, Array.length_toList]; rfl
theorem bytA_flat : ∀ s : ByteArray, (bytA s).flatMap AV.cells = bytA s := fun s => by
 unfold bytA
 induction s.data.toList with
 | nil => rfl
 | cons x l ih => simpa [AV.cells] using ih
theorem bytA_rel (pub : Pub) (w : World) (r : Rho) (s : ByteArray) : VRels pub w r (bytA s) (Lib.strCells s) := by
 unfold bytA Lib.strCells
 induction s.data.toList with
 | nil => exact .nil
 | cons x l ih => exact .cons (.int _ _) ih
theorem bytA_inv {pub : Pub} {w : World} {r : Rho} {s : ByteArray} {us : List Value} (h : VRels pub w r (bytA s) us) : us = Lib.strCells s := by
 unfold bytA at h
 unfold Lib.strCells
 generalize s.data.toList = l at h ⊢
 induction l generalizing us with
 | nil => exact h.nil_inv
 | cons x l ih =>
  obtain ⟨u, us', rfl, h1, h2⟩ := h.cons_inv
  cases h1
  rw [ih h2]
  rfl
theorem bytA_one (s : ByteArray) : ∀ x ∈ bytA s, x.cells.length = 1 ∧ x.cells.all AV.one = true := fun x hx => by
 unfold bytA at hx
 obtain ⟨b, _, rfl⟩ := List.mem_map.1 hx
 exact ⟨rfl, rfl⟩
theorem Fr.of_frm {S : List Nat} {pub : Pub} {w w' : World} (hf : Frm S w w') (hp : ∀ b ∈ S, pub b = 0) : Fr (· ∈ S) pub w pub w' :=
 ⟨hf.os, hf.tape, hf.output, hf.size, fun b hb hn => ⟨hf.block b hb hn, rfl⟩, fun _ => Nat.le_refl _, fun b i u hi hu => by
  have hn : b ∉ S := fun h => by rw [hp b h] at hi; omega
  exact hf.cell hu hn, fun b n hpb hn => lenW_of (hf.block b (lenW_lt hn) (fun h => by rw [hp b h] at hpb; omega)) hn⟩
theorem run_app2s {P : Program} {w : World} (t u ty e : TypeId) (i : TypeInfo) (ht : P.underlying t = some (.slice e)) (hu : P.underlying u = some .string) (hi : P.info? e = some i) (hz : i.zero = some (.int .u8 0))
  (hsize : i.size = 1) (hby : i.bytes = 1) {A : Option Addr} {n c : Nat} {us : List Value} (ho : Own w e 1 A n c us) (s : ByteArray) (h63 : n + s.size ≤ maxLen) (hbytes : n + s.size ≤ 140737488355328) :
  ∃ A2 c2 w', (Builtin.append_ #[t, u] ty #[.slice A n c, .string s]).run P w = .ok (.slice A2 (n + s.size) c2) w' ∧ Own w' e 1 A2 (n + s.size) c2 (us ++ Lib.strCells s) ∧
   ((A2 = A ∧ c2 = c ∧ w' = w ∧ Lib.strCells s = []) ∨ (∃ g cur, A = some ⟨g, 0, none⟩ ∧ A2 = A ∧ c ≠ 0 ∧ Blk w g e cur ∧ w' = w.setRow g (cur.toList.take (0 + n * 1) ++ Lib.strCells s ++ cur.toList.drop (0 + n * 1 + (Lib.strCells s).length)).toArray ∧ 0 + n * 1 + (Lib.strCells s).length ≤ cur.size) ∨
     (A2 = some ⟨w.heap.size, 0, none⟩ ∧ ∃ arr, w' = w.drew.alloc (.cells arr e))) := by
 have hsmall : n + s.size ≤ 9223372036854775807 := by simp only [maxLen] at h63; omega
 have hl0 := ho.len
 have hlen : (us ++ Lib.strCells s).length = (n + s.size) * 1 := by rw [List.length_append, hl0, Lib.strCells_length]; omega
 have grown : ∀ (old : Nat), old < n + s.size →
   Own (w.drew.alloc (.cells (us.toArray ++ (Lib.strCells s).toArray ++ Builtin.zeroCells (Value.int .u8 0).cells (grownCap w (n + s.size) old e - (n + s.size))) e)) e 1 (some ⟨w.heap.size, 0, none⟩) (n + s.size) (grownCap w (n + s.size) old e) (us ++ Lib.strCells s) := by
  intro old hold
  have hge := grownCap_ge w (n + s.size) old e
  have hcm : grownCap w (n + s.size) old e ≤ maxLen := grownCap_le_maxLen w (n + s.size) old e h63
  refine Own.of_blk (heap_alloc_new w.drew _) hge hcm ?_ ?_
  ·have hz1 : (Value.int IntKind.u8 0).cells.size = 1 := rfl
   simp only [Array.size_append, List.size_toArray, size_zeroCells, hz1, hl0, Lib.strCells_length]
   omega
  ·simp only [Array.toList_append, List.append_assoc]
   rw [← List.append_assoc, ← hlen]
   exact List.take_left
 have ho0 := ho
 rcases ho.cases_ with ⟨rfl, rfl, rfl, rfl⟩ | ⟨g, cur, rfl, hb, r1, r2, r3, r4⟩
 ·by_cases hm : s.size = 0
  ·have hn : Lib.strCells s = [] := List.eq_nil_of_length_eq_zero (by rw [Lib.strCells_length]; exact hm)
   have hf := Lib.run_firstCells_string (P := P) w 1 s
   rw [hm] at hf
   refine ⟨none, 0, w, ?_, by rw [hm, hn]; exact ho0, .inl ⟨rfl, rfl, rfl, hn⟩⟩
   simp [Builtin.append_, run_underlying ht, run_underlying hu, sizeOf, typeInfo, hi, hsize, Builtin.lenOf, hm, hf]
  ·have hr := run_append_nil_string (P := P) w t u ty e i (.int .u8 0) ht hu hi hz s (by omega) (by omega) (by rw [hby]; omega)
   have hgr := grown 0 (by omega)
   simp only [Nat.zero_add, List.nil_append, Array.empty_append] at hgr ⊢
   have e1 : (s.data.map fun b => Value.int .u8 b.toNat) = (Lib.strCells s).toArray := by
    apply Array.ext'
    simp [Lib.strCells]
   rw [e1] at hr
   exact ⟨_, _, _, hr, hgr, .inr (.inr ⟨rfl, _, rfl⟩)⟩
 ·by_cases hroom : n + s.size ≤ c
  ·have hr := Lib.run_append_room_string (P := P) w t u ty e i ht hu hi hsize g n c cur hb s hroom (by omega)
   by_cases hne : s.size = 0
   ·have hn : Lib.strCells s = [] := List.eq_nil_of_length_eq_zero (by rw [Lib.strCells_length]; exact hne)
    rw [hn, hne] at hr
    have hself : (cur.toList.take n ++ [] ++ cur.toList.drop (n + 0)).toArray = cur := by simp
    rw [hself, setRow_self w g cur e _ hb] at hr
    exact ⟨_, _, _, by rw [hne]; exact hr, by rw [hn, hne]; simpa using ho0, .inl ⟨rfl, rfl, rfl, hn⟩⟩
   ·refine ⟨_, _, _, hr, Own.of_blk (setRow_heap w g cur _ e _ hb) hroom r2 ?_ ?_, .inr (.inl ⟨g, cur, rfl, rfl, by omega, hb, by rw [Lib.strCells_length]; simp, by rw [Lib.strCells_length]; omega⟩)⟩
    ·simp only [List.size_toArray, List.length_append, List.length_take, List.length_drop, Array.length_toList, Lib.strCells_length]
     omega
    ·have ht' : cur.toList.take n = us := by simpa using r4
     rw [ht', ← hlen]
     exact List.take_left
  ·have holds : ∀ j u, us[j]? = some u → w.cell? ((⟨g, 0, none⟩ : Addr).add j) = some u := fun j u hu => by
    obtain ⟨b, o, he, hcell⟩ := ho0.cells_.get j u hu
    simp only [Option.some.injEq] at he
    rw [he, Addr.add_lit]
    exact hcell
   have hr := Lib.run_append_grow_string (P := P) w t u ty e i (.int .u8 0) ht hu hi hz ⟨g, 0, none⟩ n c us (by rw [hsize]; exact hl0) holds s (by omega) (by omega) (by rw [hby]; exact growslice_fits (by omega) (by omega))
   exact ⟨_, _, _, hr, grown c (by omega), .inr (.inr ⟨rfl, _, rfl⟩)⟩
theorem wpList_app2s {P : Program} {w : World} {ops : Array Oper} {rest : List Oper} {o : Oper} {a : Act} {Q : Exit → Act → World → Prop} (hgd : o.guard = none) (sl x : Operand) (t u : TypeId)
  (ho : o.op = .call { callee := .builtin .append, args := #[sl, x], argTypes := #[t, u] }) (e : TypeId) (i : TypeInfo) (ht : P.underlying t = some (.slice e)) (hu : P.underlying u = some .string) (hi : P.info? e = some i) (hz : i.zero = some (.int .u8 0))
  (hsize : i.size = 1) (hby : i.bytes = 1) {A : Option Addr} {n c : Nat} {us : List Value} (hs : a.eval sl = .slice A n c) (hown : Own w e 1 A n c us) (s : ByteArray) (hx : a.eval x = .string s) (h63 : n + s.size ≤ maxLen) (hbytes : n + s.size ≤ 140737488355328)
  (h : ∀ A2 c2 w', Own w' e 1 A2 (n + s.size) c2 (us ++ Lib.strCells s) → Frm (fpo A) w w' → (∀ b ∈ fpo A2, b ∈ fpo A ∨ w.heap.size ≤ b) → wpList P ops Q rest (a.put o.dst (.slice A2 (n + s.size) c2)) w') : wpList P ops Q (o :: rest) a w := by
 refine wpList_plain hgd fun K hK => ?_
 obtain ⟨A2, c2, w', hr, h2, hcase⟩ := run_app2s (P := P) t u o.type e i ht hu hi hz hsize hby hown s h63 hbytes
 have h3 : Frm (fpo A) w w' ∧ (∀ b ∈ fpo A2, b ∈ fpo A ∨ w.heap.size ≤ b) := by
  rcases hcase with ⟨rfl, _, rfl, _⟩ | ⟨g, cur, rfl, rfl, _, hb, rfl, _⟩ | ⟨rfl, arr, rfl⟩
  ·exact ⟨Frm.refl _ _, fun b hb => .inl hb⟩
  ·exact ⟨⟨rfl, rfl, rfl, by simp [World.setRow], fun k _ hk => setRow_other w g k _ (by simpa using hk)⟩, fun b hb => .inl hb⟩
  ·exact ⟨⟨rfl, rfl, rfl, by simp, fun k hk _ => Below.heap_alloc w.drew _ k hk⟩, fun b hb => .inr (by simp at hb; omega)⟩
 unfold Oper.wp execOp
 simp only [ho, resolve, invoke, builtin, Sem.run_bind, Sem.run_pure, Result.andThen_ok, List.map_toArray, List.map_cons, List.map_nil, hs, hx, hr]
 exact hK _ _ (h A2 c2 w' h2 h3.1 h3.2)
def slfA (s : ByteArray) : AV := if s.size = 0 then .v (.pointer none) else .ptr 0 0
section
variable {P : Program} {ρ : Ren}
set_option maxHeartbeats 1000000 in
set_option maxRecDepth 100000 in
theorem bld_copy (L : Lays.n240 P ρ) (X : Builder.X72 P ρ) (b : Nat) (p v : Value) (w : World) (hb : Blk w b (ρ.t 72) #[p, v]) (hp : p = .pointer none ∨ p = .pointer (some ⟨b, 0, none⟩)) :
  Calls P (ρ.f 240) #[.pointer (some ⟨b, 0, none⟩)] w fun e w' => e = .returned (.tuple #[]) ∧ Blk w' b (ρ.t 72) #[.pointer (some ⟨b, 0, none⟩), v] ∧ Frm [b] w w' ∧ w'.heap.size = w.heap.size := by
 rcases hp with rfl | rfl
 ·refine (Any.Builder_copyCheck_fresh L X b w (hb.cell 0 _ rfl) (by unfold Blk at hb; simp [World.shape?, hb]) (hb.free 0)).mono ?_
  rintro e w' ⟨rfl, rfl⟩
  exact ⟨rfl, hb.set_ 0 _, (Frm.refl _ _).setCell (.inl (by simp)) _, by simp [World.setCell]⟩
 ·refine (Any.Builder_copyCheck_used L X b w (hb.cell 0 _ rfl)).mono ?_
  rintro e w' ⟨rfl, rfl⟩
  exact ⟨rfl, hb, Frm.refl _ _, rfl⟩
set_option maxHeartbeats 2000000 in
set_option maxRecDepth 100000 in
theorem bld_write (L : Lays.n166 P ρ) (X : Builder.Extra P ρ) (b : Nat) (p : Value) {A : Option Addr} {n c : Nat} {us : List Value} (s : ByteArray) (w : World) (hb : Blk w b (ρ.t 72) #[p, .slice A n c]) (hp : p = .pointer none ∨ p = .pointer (some ⟨b, 0, none⟩))
  (hown : Own w (ρ.t 5) 1 A n c us) (hd : b ∉ fpo A) (hlen : n + s.size ≤ 140737488355328) :
  Calls P (ρ.f 166) #[.pointer (some ⟨b, 0, none⟩), .string s] w fun e w' => e = .returned (.tuple #[.int .i64 s.size, .nilIface]) ∧ ∃ A2 c2, Blk w' b (ρ.t 72) #[.pointer (some ⟨b, 0, none⟩), .slice A2 (n + s.size) c2] ∧ Own w' (ρ.t 5) 1 A2 (n + s.size) c2 (us ++ Lib.strCells s) ∧
   Frm (b :: fpo A) w w' ∧ ∀ g ∈ fpo A2, g ∈ fpo A ∨ w.heap.size ≤ g := by
 obtain ⟨i0, hi, hz0, hz1, hz2⟩ := info_parts X.infoByte
 have mixed := L.mixed
 have t72 := L.t72; have a72 := L.a72; have z72 := L.z72; have v72 := L.v72; have u72 := run_underlying L.t72
 have t70 := L.t70; have a70 := L.a70; have z70 := L.z70; have v70 := L.v70; have u70 := run_underlying L.t70
 have t37 := L.t37; have a37 := L.a37; have z37 := L.z37; have v37 := L.v37; have u37 := run_underlying L.t37
 have t3 := L.t3; have a3 := L.a3; have z3 := L.z3; have v3 := L.v3; have u3 := run_underlying L.t3
 have t9 := L.t9; have a9 := L.a9; have z9 := L.z9; have v9 := L.v9; have u9 := run_underlying L.t9
 have t4 := L.t4; have a4 := L.a4; have z4 := L.z4; have v4 := L.v4; have u4 := run_underlying L.t4
 have t164 := L.t164; have a164 := L.a164; have z164 := L.z164; have v164 := L.v164; have u164 := run_underlying L.t164
 have t5 := X.t5; have a5 := X.a5; have z5 := X.z5; have v5 := X.v5; have u5 := run_underlying X.t5
 have e240 : ∀ args w, (callFunc (ρ.f 240) args).run P w = .ok (.enter (ρ.f 240) args) w := enters_of L.f240 (by kernel_rfl) rfl
 have c1a : w.cell? ⟨b, 1, none⟩ = some (.slice A n c) := hb.cell 1 _ rfl
 go_enter L.f166, Body.n166_ntmps ρ
 go_wp2_with (go_at_fn (ρ.f 240); refine (bld_copy { L with } X.toX72 b p _ _ hb hp).mono ?_)
 rintro e w1 ⟨rfl, hb1, hf1, hsz⟩
 have c0 : w1.cell? ⟨b, 0, none⟩ = some (.pointer (some ⟨b, 0, none⟩)) := hb1.cell 0 _ rfl
 have c1 : w1.cell? ⟨b, 1, none⟩ = some (.slice A n c) := hb1.cell 1 _ rfl
 have hown1 : Own w1 (ρ.t 5) 1 A n c us := hown.frS (S := (· ∈ [b])) (pub := fun _ => 0) (Fr.of_frm hf1 (fun _ _ => rfl)) (fun g hg => by simp; rintro rfl; exact hd hg)
 go_wp2_with (at_builtin; refine wpList_app2s rfl _ _ (ρ.t 37) (ρ.t 9) rfl (ρ.t 5) i0 L.t37 L.t9 hi hz0 hz1 hz2 rfl hown1 s rfl ?c3 ?c4 ?_)
 case c3 => unfold maxLen; omega
 case c4 => omega
 intro A2 c2 w2 hown2 hf2 hfp
 have hb2 : Blk w2 b (ρ.t 72) #[.pointer (some ⟨b, 0, none⟩), .slice A n c] := hb1.frm hf2 hd
 have d0 : w2.cell? ⟨b, 0, none⟩ = some (.pointer (some ⟨b, 0, none⟩)) := hb2.cell 0 _ rfl
 have d1 : w2.cell? ⟨b, 1, none⟩ = some (.slice A n c) := hb2.cell 1 _ rfl
 have f1 : w2.frozen? ⟨b, 1, none⟩ = false := hb2.free 1
 have hd2 : b ∉ fpo A2 := fun h => by
  rcases hfp b h with h1 | h1
  ·exact hd h1
  ·have := hb1.lt; omega
 go_wp2
 go_ret2
 refine ⟨rfl, A2, c2, hb2.set_ 1 _, hown2.frS (S := (· ∈ [b])) (pub := fun _ => 0) (Fr.of_frm ((Frm.refl [b] w2).setCell (.inl (by simp)) _) (fun _ _ => rfl)) (fun g hg => by simp; rintro rfl; exact hd2 hg), ?_, fun g hg => ?_⟩
 ·exact ((hf1.mono (by simp)).trans (hf2.mono (S' := b :: fpo A) (by simp +contextual)) (by simp +contextual)).setCell (.inl (by simp)) _
 ·rcases hfp g hg with h1 | h1
  ·exact .inl h1
  ·exact .inr (by omega)
theorem bld_open {pub : Pub} {w : World} {r : Rho} {T U : TypeId} {x : AV} {out : ByteArray} (h : Mod pub w r [.blk T [x, .hd 1], .row U 1 (bytA out)]) :
  ∃ b A c p, r 0 = some (.pointer (some ⟨b, 0, none⟩)) ∧ r 1 = some (.slice A out.size c) ∧ Blk w b T #[p, .slice A out.size c] ∧ VRel pub w r x p ∧ Own w U 1 A out.size c (Lib.strCells out) ∧ b ∉ fpo A ∧ pub b = 0 ∧ ∀ g ∈ fpo A, pub g = 0 := by
 have h0 := h.ent 0 _ rfl
 have h1 := h.ent 1 _ rfl
 generalize hr0 : r 0 = v0 at h0
 generalize hr1 : r 1 = v1 at h1
 cases h0 with
 | @blk _ _ _ b arr hb hc hp =>
  cases h1 with
  | @row _ _ _ _ A c us ho hu hs hp1 =>
   rw [bytA_flat] at hu
   have hus := bytA_inv hu
   subst hus
   rw [bytA_len] at ho hr1 ⊢
   obtain ⟨p, us1, he1, q1, q2⟩ := hc.cons_inv
   obtain ⟨v, us2, he2, q3, q4⟩ := q2.cons_inv
   have q5 := q4.nil_inv
   subst q5
   cases q3 with
   | hd q6 _ =>
    rw [hr1] at q6
    cases q6
    have ha : arr = #[p, .slice A out.size c] := Array.toList_inj.1 (by rw [he1, he2])
    subst ha
    refine ⟨b, A, c, p, rfl, rfl, hb, q1, ho, fun hm => ?_, hp, hp1⟩
    exact h.disj 0 1 _ _ (by decide) hr0 hr1 b (by simp [foot]) (by simpa [foot] using hm)
theorem bld_close {pub : Pub} {w w' : World} {r : Rho} {T U T' U' : TypeId} {x y : AV} {xs : List AV} {t : ByteArray} {b : Nat} {A A2 : Option Addr} {n c c2 : Nat} {q : Value} (h : Mod pub w r [.blk T' [x, y], .row U' 1 xs]) (h0 : r 0 = some (.pointer (some ⟨b, 0, none⟩))) (h1 : r 1 = some (.slice A n c))
  (hb : Blk w' b T #[q, .slice A2 t.size c2]) (hq : ∀ r' : Rho, r' 0 = r 0 → VRel pub w' r' (slfA t) q) (ho : Own w' U 1 A2 t.size c2 (Lib.strCells t)) (hf : Frm (b :: fpo A) w w') (hA : ∀ g ∈ fpo A2, g ∈ fpo A ∨ w.heap.size ≤ g) (hp : pub b = 0) (hp2 : ∀ g ∈ fpo A, pub g = 0) (hd : b ∉ fpo A2) :
  Mod pub w' (rset r 1 (.slice A2 t.size c2)) [.blk T [slfA t, .hd 1], .row U 1 (bytA t)] ∧ Fr (Foot r) pub w pub w' ∧ (∀ g, Foot (rset r 1 (.slice A2 t.size c2)) g → Foot r g ∨ w.heap.size ≤ g) ∧ (∀ k z, r k = some z → isSl z = false → rset r 1 (.slice A2 t.size c2) k = some z) := by
 have hfr : Fr (· ∈ b :: fpo A) pub w pub w' := Fr.of_frm hf (fun g hg => by
  rcases List.mem_cons.1 hg with rfl | hg
  ·exact hp
  ·exact hp2 g hg)
 have hk2 : ∀ k, 2 ≤ k → r k = none := fun k hk => h.none_ k (by simpa using hk)
 have r10 : rset r 1 (.slice A2 t.size c2) 0 = r 0 := rset_ne _ _ (by decide)
 refine ⟨⟨fun k e he => ?_, fun k hk => ?_, fun i j u v hij hu hv => ?_, fun g hg => h.fresh g (Nat.le_trans hf.size hg), fun g i hi => ?_, h.glob.ext hfr.ext⟩, hfr.mono (fun g hg => .inl ?_), fun g hg => ?_, fun k z hz hs => ?_⟩
 ·match k, he with
  | 0, he =>
   cases he
   rw [r10, h0]
   exact .blk hb (.cons (hq _ r10) (.cons (.hd (rset_self _ _ _) rfl) .nil)) hp
  | 1, he =>
   cases he
   rw [rset_self]
   have hl : t.size = (bytA t).length := (bytA_len t).symm
   rw [hl]
   refine .row (by rw [← hl]; exact ho) (by rw [bytA_flat]; exact bytA_rel _ _ _ _) (bytA_one t) (fun g hg => ?_)
   rcases hA g hg with h3 | h3
   ·exact hp2 g h3
   ·exact h.fresh g h3
  | k + 2, he => simp at he
 ·rw [rset_ne _ _ (by (have : 2 ≤ k := (by simpa using hk)); omega)]
  exact hk2 k (by simpa using hk)
 ·have cases2 : ∀ k z, rset r 1 (.slice A2 t.size c2) k = some z → (k = 0 ∧ z = .pointer (some ⟨b, 0, none⟩)) ∨ (k = 1 ∧ z = .slice A2 t.size c2) := fun k z hz => by
   match k, hz with
   | 0, hz => rw [r10, h0] at hz; cases hz; exact .inl ⟨rfl, rfl⟩
   | 1, hz => rw [rset_self] at hz; cases hz; exact .inr ⟨rfl, rfl⟩
   | k + 2, hz => rw [rset_ne _ _ (by omega), hk2 _ (by omega)] at hz; cases hz
  intro g hg hg'
  rcases cases2 i u hu with ⟨rfl, rfl⟩ | ⟨rfl, rfl⟩ <;> rcases cases2 j v hv with ⟨rfl, rfl⟩ | ⟨rfl, rfl⟩
  ·exact hij rfl
  ·simp [foot] at hg; subst hg; exact hd (by simpa [foot] using hg')
  ·simp [foot] at hg'; subst hg'; exact hd (by simpa [foot] using hg)
  ·exact hij rfl
 ·obtain ⟨u, hu⟩ := h.there g i hi
  exact ⟨u, hfr.ext.cell g i u hi hu⟩
 ·rcases List.mem_cons.1 hg with rfl | hg
  ·exact ⟨0, _, h0, by simp [foot]⟩
  ·exact ⟨1, _, h1, by simpa [foot] using hg⟩
 ·obtain ⟨k, z, hz, hg⟩ := hg
  by_cases hk : k = 1
  ·subst hk
   rw [rset_self] at hz
   cases hz
   rcases hA g (by simpa [foot] using hg) with h3 | h3
   ·exact .inl ⟨1, _, h1, by simpa [foot] using h3⟩
   ·exact .inr h3
  ·rw [rset_ne _ _ hk] at hz
   exact .inl ⟨k, z, hz, hg⟩
 ·by_cases hk : k = 1
  ·subst hk
   rw [h1] at hz
   cases hz
   cases hs
  ·rw [rset_ne _ _ hk]; exact hz
theorem bldWrite_ok (L : Lays.n166 P ρ) (X : Builder.Extra P ρ) : FnOk P (ρ.f 166) (spec (fun i : ByteArray × ByteArray => [.ptr 0 0, .str i.2]) (fun i => [.blk (ρ.t 72) [slfA i.1, .hd 1], .row (ρ.t 5) 1 (bytA i.1)])
  (fun i => i.1.size + i.2.size ≤ 140737488355328 ∧ i.2.size ≠ 0) (fun i => .tup [.int .i64 i.2.size, .v .nilIface]) fun i => [.blk (ρ.t 72) [slfA (i.1 ++ i.2), .hd 1], .row (ρ.t 5) 1 (bytA (i.1 ++ i.2))]) := by
 intro args H K ⟨⟨out, s⟩, ha, hH, ⟨hlen, hs0⟩, hK⟩ w r pub vals hm hv
 subst ha
 subst hH
 obtain ⟨b, A, c, p, h0, h1, hb, hp, hown, hd, hpb, hpA⟩ := bld_open hm
 obtain ⟨u, us, he, q1, q2⟩ := hv.cons_inv
 obtain ⟨us', he', q3⟩ := q2.str_inv
 have q4 := q3.nil_inv
 subst q4
 have hu : u = .pointer (some ⟨b, 0, none⟩) := by
  cases q1 with
  | ptr _ h2 => rw [h0] at h2; cases h2; rfl
 have hvals : vals = #[.pointer (some ⟨b, 0, none⟩), .string s] := Array.toList_inj.1 (by rw [he, he', hu])
 subst hvals
 have hp' : p = .pointer none ∨ p = .pointer (some ⟨b, 0, none⟩) := by
  unfold slfA at hp
  split at hp
  ·cases hp; exact .inl rfl
  ·cases hp with
   | ptr _ h2 => rw [h0] at h2; cases h2; exact .inr rfl
 dsimp only at hlen hs0
 refine (bld_write L X b p s w hb hp' hown hd hlen).mono fun e w' ⟨he, A2, c2, hb2, hown2, hf, hA⟩ => ?_
 have hsz : (out ++ s).size = out.size + s.size := ByteArray.size_append
 have hd2 : b ∉ fpo A2 := fun h => by
  rcases hA b h with h3 | h3
  ·exact hd h3
  ·have := hb.lt; omega
 rw [← hsz] at hb2 hown2
 have hcat : Lib.strCells out ++ Lib.strCells s = Lib.strCells (out ++ s) := by simp [Lib.strCells]
 rw [hcat] at hown2
 obtain ⟨k1, k2, k3, k4⟩ := bld_close (q := .pointer (some ⟨b, 0, none⟩)) hm h0 h1 hb2 (fun r' hr' => by
  unfold slfA
  rw [if_neg (by rw [hsz]; omega)]
  exact .ptr 0 (by rw [hr', h0])) hown2 hf hA hpb hpA hd2
 exact ⟨_, _, _, _, pub, he, hK, .tup rfl (fun i x u hx hu => by
  match i, hx, hu with
  | 0, hx, hu => cases hx; cases hu; exact .int _ _
  | 1, hx, hu => cases hx; cases hu; exact .v _ rfl
  | i + 2, hx, hu => simp at hx), k1, k2, k3, k4, Nat.le_refl _⟩
theorem Frm.freeze {S : List Nat} {a b : World} (h : Frm S a b) {p : Addr} (hp : p.block ∈ S) (n : Nat) : Frm S a (b.freeze p n) := by
 unfold World.freeze
 split
 ·exact h
 ·refine ⟨h.os, h.tape, h.output, by simpa using h.size, fun k hk hn => ?_⟩
  have hne : ¬ p.block = k := fun e => hn (e ▸ hp)
  simpa [Array.getElem?_modify, hne] using h.block k hk hn
set_option maxHeartbeats 2000000 in
set_option maxRecDepth 100000 in
theorem bld_read1 (L : Lays.n169 P ρ) (X : Builder.Extra P ρ) (b g cap : Nat) (p : Value) (cur : Array Value) (out : ByteArray) (w : World) (hb : Blk w b (ρ.t 72) #[p, .slice (some ⟨g, 0, none⟩) out.size cap]) (hg : Blk w g (ρ.t 5) cur) (h0 : out.size ≠ 0) (hnc : out.size ≤ cap) (hcm : cap ≤ maxLen)
  (hcs : cur.size = cap) (hcur : ∀ (j : Nat) (u : Value), (Lib.strCells out)[j]? = some u → cur[j]? = some u) : Calls P (ρ.f 169) #[.pointer (some ⟨b, 0, none⟩)] w fun e w' => e = .returned (.string out) ∧ Frm [g] w w' := by
 have c1 : w.drew.cell? ⟨b, 1, none⟩ = some (.slice (some ⟨g, 0, none⟩) out.size cap) := hb.drew.cell 1 _ rfl
 have hl : out.data.toList.length = out.size := by rw [Array.length_toList]; rfl
 have hSD : (Builtin.unsafeSliceData_ #[(ρ.t 37)] (ρ.t 127) #[.slice (some ⟨g, 0, none⟩) out.size cap]).run P w.drew = .ok (.pointer (some ⟨g, 0, none⟩)) w.drew :=
  Lib.run_unsafeSliceData_row _ _ _ _ _ _ (by omega)
 have hUS : (Builtin.unsafeString_ #[(ρ.t 127), (ρ.t 3)] (ρ.t 9) #[.pointer (some ⟨g, 0, none⟩), .int .i64 out.size]).run P w.drew = .ok (.string out) (w.drew.freeze ⟨g, 0, none⟩ out.size) := by
  have := Lib.run_unsafeString_row (P := P) w.drew (ρ.t 127) (ρ.t 3) (ρ.t 9) (ρ.t 5) L.t127 X.cellsByte g cur.size (by have hg' : w.drew.heap[g]? = some (.cells cur (ρ.t 5) (0, 0)) := hg; simp [World.shape?, hg']) out.data.toList (by intro h; rw [h] at hl; simp at hl; omega) (by omega) (by unfold maxLen at hcm; omega) (fun j x hx => by rw [Addr.add_lit, Nat.zero_add]; exact hg.drew.cell j _ (hcur j (.int .u8 x.toNat) (by simp [Lib.strCells, hx])))
  rw [hl] at this
  simpa using this
 have mixed := L.mixed
 have t72 := L.t72; have a72 := L.a72; have z72 := L.z72; have v72 := L.v72; have u72 := run_underlying L.t72
 have t70 := L.t70; have a70 := L.a70; have z70 := L.z70; have v70 := L.v70; have u70 := run_underlying L.t70
 have t37 := L.t37; have a37 := L.a37; have z37 := L.z37; have v37 := L.v37; have u37 := run_underlying L.t37
 have t127 := L.t127; have a127 := L.a127; have z127 := L.z127; have v127 := L.v127; have u127 := run_underlying L.t127
 have t3 := L.t3; have a3 := L.a3; have z3 := L.z3; have v3 := L.v3; have u3 := run_underlying L.t3
 have t9 := L.t9; have a9 := L.a9; have z9 := L.z9; have v9 := L.v9; have u9 := run_underlying L.t9
 have t5 := X.t5; have a5 := X.a5; have z5 := X.z5; have v5 := X.v5; have u5 := run_underlying X.t5
 go_enter L.f169, Body.n169_ntmps ρ
 go_wp2
 go_region_o
 all_goals (go_wp2; go_ret; exact ⟨rfl, ((Frm.refl [g] w).drew).freeze (by simp) _⟩)
set_option maxHeartbeats 2000000 in
set_option maxRecDepth 100000 in
theorem bld_read2 (L : Lays.n169 P ρ) (X : Builder.Extra P ρ) (b : Nat) (p : Value) (w : World) (hb : Blk w b (ρ.t 72) #[p, .slice none 0 0]) : Calls P (ρ.f 169) #[.pointer (some ⟨b, 0, none⟩)] w fun e w' => e = .returned (.string ⟨#[]⟩) ∧ Frm [] w w' := by
 have hUS := Any.unsafeString_none L X
 have c1 : w.drew.cell? ⟨b, 1, none⟩ = some (.slice none 0 0) := hb.drew.cell 1 _ rfl
 have hSD : (Builtin.unsafeSliceData_ #[(ρ.t 37)] (ρ.t 127) #[.slice none 0 0]).run P w.drew = .ok (.pointer none) w.drew := rfl
 have mixed := L.mixed
 have t72 := L.t72; have a72 := L.a72; have z72 := L.z72; have v72 := L.v72; have u72 := run_underlying L.t72
 have t70 := L.t70; have a70 := L.a70; have z70 := L.z70; have v70 := L.v70; have u70 := run_underlying L.t70
 have t37 := L.t37; have a37 := L.a37; have z37 := L.z37; have v37 := L.v37; have u37 := run_underlying L.t37
 have t127 := L.t127; have a127 := L.a127; have z127 := L.z127; have v127 := L.v127; have u127 := run_underlying L.t127
 have t3 := L.t3; have a3 := L.a3; have z3 := L.z3; have v3 := L.v3; have u3 := run_underlying L.t3
 have t9 := L.t9; have a9 := L.a9; have z9 := L.z9; have v9 := L.v9; have u9 := run_underlying L.t9
 have t5 := X.t5; have a5 := X.a5; have z5 := X.z5; have v5 := X.v5; have u5 := run_underlying X.t5
 go_enter L.f169, Body.n169_ntmps ρ
 go_wp2
 go_region_o
 all_goals (go_wp2; go_ret; exact ⟨rfl, (Frm.refl [] w).drew⟩)
set_option maxHeartbeats 2000000 in
set_option maxRecDepth 100000 in
theorem bld_read3 (L : Lays.n169 P ρ) (X : Builder.Extra P ρ) (b g : Nat) (p : Value) (cur : Array Value) (w : World) (hb : Blk w b (ρ.t 72) #[p, .slice (some ⟨g, 0, none⟩) 0 0]) (hg : Blk w g (ρ.t 5) cur) : Calls P (ρ.f 169) #[.pointer (some ⟨b, 0, none⟩)] w fun e w' => e = .returned (.string ⟨#[]⟩) ∧ Frm [] w w' := by
 have hUS := Any.unsafeString_none L X
 have c1 : w.drew.cell? ⟨b, 1, none⟩ = some (.slice (some ⟨g, 0, none⟩) 0 0) := hb.drew.cell 1 _ rfl
 have hSD : (Builtin.unsafeSliceData_ #[(ρ.t 37)] (ρ.t 127) #[.slice (some ⟨g, 0, none⟩) 0 0]).run P w.drew = .ok (.pointer (some ⟨w.drew.heap.size, 0, none⟩)) (w.drew.alloc (.view ⟨g, 0, none⟩ (ρ.t 5))) :=
  Lib.run_unsafeSliceData_zero w.drew _ _ (ρ.t 5) L.t127 ⟨g, 0, none⟩ 0 ((ρ.t 5), cur.size) (by have hg' : w.drew.heap[g]? = some (.cells cur (ρ.t 5) (0, 0)) := hg; simp [World.shape?, hg'])
 have c2 : (w.drew.alloc (.view ⟨g, 0, none⟩ (ρ.t 5))).cell? ⟨b, 1, none⟩ = some (.slice (some ⟨g, 0, none⟩) 0 0) := (hb.drew.alloc _).cell 1 _ rfl
 have c3 : (w.alloc (.view ⟨g, 0, none⟩ (ρ.t 5))).drew.cell? ⟨b, 1, none⟩ = some (.slice (some ⟨g, 0, none⟩) 0 0) := c2
 have c0 : w.cell? ⟨b, 1, none⟩ = some (.slice (some ⟨g, 0, none⟩) 0 0) := c1
 have mixed := L.mixed
 have t72 := L.t72; have a72 := L.a72; have z72 := L.z72; have v72 := L.v72; have u72 := run_underlying L.t72
 have t70 := L.t70; have a70 := L.a70; have z70 := L.z70; have v70 := L.v70; have u70 := run_underlying L.t70
 have t37 := L.t37; have a37 := L.a37; have z37 := L.z37; have v37 := L.v37; have u37 := run_underlying L.t37
 have t127 := L.t127; have a127 := L.a127; have z127 := L.z127; have v127 := L.v127; have u127 := run_underlying L.t127
 have t3 := L.t3; have a3 := L.a3; have z3 := L.z3; have v3 := L.v3; have u3 := run_underlying L.t3
 have t9 := L.t9; have a9 := L.a9; have z9 := L.z9; have v9 := L.v9; have u9 := run_underlying L.t9
 have t5 := X.t5; have a5 := X.a5; have z5 := X.z5; have v5 := X.v5; have u5 := run_underlying X.t5
 go_enter L.f169, Body.n169_ntmps ρ
 go_wp2
 go_region_o
 all_goals (go_wp2; go_ret; exact ⟨rfl, ((Frm.refl [] w).drew).alloc _⟩)
set_option maxHeartbeats 2000000 in
set_option maxRecDepth 100000 in
theorem bld_read4 (L : Lays.n169 P ρ) (X : Builder.Extra P ρ) (b g cap : Nat) (p : Value) (w : World) (hc0 : cap ≠ 0) (hb : Blk w b (ρ.t 72) #[p, .slice (some ⟨g, 0, none⟩) 0 cap]) : Calls P (ρ.f 169) #[.pointer (some ⟨b, 0, none⟩)] w fun e w' => e = .returned (.string ⟨#[]⟩) ∧ Frm [] w w' := by
 have hUS := Any.unsafeString_none L X
 have c1 : w.drew.cell? ⟨b, 1, none⟩ = some (.slice (some ⟨g, 0, none⟩) 0 cap) := hb.drew.cell 1 _ rfl
 have hSD : (Builtin.unsafeSliceData_ #[(ρ.t 37)] (ρ.t 127) #[.slice (some ⟨g, 0, none⟩) 0 cap]).run P w.drew = .ok (.pointer (some ⟨g, 0, none⟩)) w.drew :=
  Lib.run_unsafeSliceData_row _ _ _ _ _ _ hc0
 clear hc0
 have mixed := L.mixed
 have t72 := L.t72; have a72 := L.a72; have z72 := L.z72; have v72 := L.v72; have u72 := run_underlying L.t72
 have t70 := L.t70; have a70 := L.a70; have z70 := L.z70; have v70 := L.v70; have u70 := run_underlying L.t70
 have t37 := L.t37; have a37 := L.a37; have z37 := L.z37; have v37 := L.v37; have u37 := run_underlying L.t37
 have t127 := L.t127; have a127 := L.a127; have z127 := L.z127; have v127 := L.v127; have u127 := run_underlying L.t127
 have t3 := L.t3; have a3 := L.a3; have z3 := L.z3; have v3 := L.v3; have u3 := run_underlying L.t3
 have t9 := L.t9; have a9 := L.a9; have z9 := L.z9; have v9 := L.v9; have u9 := run_underlying L.t9
 have t5 := X.t5; have a5 := X.a5; have z5 := X.z5; have v5 := X.v5; have u5 := run_underlying X.t5
 go_enter L.f169, Body.n169_ntmps ρ
 go_wp2
 go_region_o
 all_goals (go_wp2; go_ret; exact ⟨rfl, (Frm.refl [] w).drew⟩)
theorem bld_read (L : Lays.n169 P ρ) (X : Builder.Extra P ρ) (b : Nat) (p : Value) {A : Option Addr} {c : Nat} (out : ByteArray) (w : World) (hb : Blk w b (ρ.t 72) #[p, .slice A out.size c]) (hown : Own w (ρ.t 5) 1 A out.size c (Lib.strCells out)) :
  Calls P (ρ.f 169) #[.pointer (some ⟨b, 0, none⟩)] w fun e w' => e = .returned (.string out) ∧ Frm (fpo A) w w' := by
 have hemp : out.size = 0 → out = ⟨#[]⟩ := fun h => by
  cases out with
  | mk d =>
   have : d.size = 0 := h
   rw [Array.eq_empty_of_size_eq_zero this]
 rcases hown.cases_ with ⟨rfl, h0, rfl, _⟩ | ⟨g, cur, rfl, hg, r1, r2, r3, r4⟩
 ·rw [h0] at hb
  rw [hemp h0]
  exact bld_read2 L X b p w hb
 ·by_cases h0 : out.size = 0
  ·rw [h0] at hb
   rw [hemp h0]
   by_cases hc : c = 0
   ·subst hc
    exact (bld_read3 L X b g p cur w hb hg).mono fun e w' h => ⟨h.1, h.2.mono (by simp)⟩
   ·exact (bld_read4 L X b g c p w hc hb).mono fun e w' h => ⟨h.1, h.2.mono (by simp)⟩
  ·refine bld_read1 L X b g c p cur out w hb hg h0 r1 r2 (by simpa using r3) fun j u hu => ?_
   rw [← r4, List.getElem?_take] at hu
   split at hu
   ·rw [Array.getElem?_toList] at hu; exact hu
   ·cases hu
theorem bldString_ok (L : Lays.n169 P ρ) (X : Builder.Extra P ρ) : FnOk P (ρ.f 169) (spec (fun _ : ByteArray × AV => [.ptr 0 0]) (fun i => [.blk (ρ.t 72) [i.2, .hd 1], .row (ρ.t 5) 1 (bytA i.1)]) (fun _ => True) (fun i => .str i.1) fun _ => [.blk (ρ.t 72) [.any, .any], .dead]) := by
 intro args H K ⟨⟨out, x⟩, ha, hH, _, hK⟩ w r pub vals hm hv
 subst ha
 subst hH
 obtain ⟨b, A, c, p, h0, h1, hb, hp, hown, hd, hpb, hpA⟩ := bld_open hm
 obtain ⟨u, us, he, q1, q2⟩ := hv.cons_inv
 have q4 := q2.nil_inv
 subst q4
 have hu : u = .pointer (some ⟨b, 0, none⟩) := by
  cases q1 with
  | ptr _ h2 => rw [h0] at h2; cases h2; rfl
 have hvals : vals = #[.pointer (some ⟨b, 0, none⟩)] := Array.toList_inj.1 (by rw [he, hu])
 subst hvals
 refine (bld_read L X b p out w hb hown).mono fun e w' ⟨he, hf⟩ => ?_
 have hfr : Fr (· ∈ fpo A) pub w pub w' := Fr.of_frm hf hpA
 have hk0 : ∀ k, k ≠ 0 → (fun k => if k = 0 then r 0 else none : Rho) k = none := fun k hk => if_neg hk
 refine ⟨_, _, _, fun k => if k = 0 then r 0 else none, pub, he, hK, .str _, ⟨fun k e he => ?_, fun k hk => if_neg (by simp at hk; omega), fun i j u v hij hu hv => ?_, fun g hg => hm.fresh g (Nat.le_trans hf.size hg), fun g i hi => ?_, hm.glob.ext hfr.ext⟩, hfr.mono (fun g hg => .inl ⟨1, _, h1, by simpa [foot] using hg⟩), fun g hg => ?_, fun k z hz hs => ?_, Nat.le_refl _⟩
 ·match k, he with
  | 0, he =>
   cases he
   simp only [if_true]
   rw [h0]
   exact .blk (hb.frm hf hd) (.cons (.any _) (.cons (.any _) .nil)) hpb
  | 1, he =>
   cases he
   exact .dead
  | k + 2, he => simp at he
 ·exfalso
  have a1 : i = 0 := Classical.byContradiction fun h => by rw [if_neg h] at hu; cases hu
  have a2 : j = 0 := Classical.byContradiction fun h => by rw [if_neg h] at hv; cases hv
  exact hij (a1.trans a2.symm)
 ·obtain ⟨u, hu⟩ := hm.there g i hi
  exact ⟨u, hfr.ext.cell g i u hi hu⟩
 ·obtain ⟨k, z, hz, hg⟩ := hg
  replace hz : (if k = 0 then r 0 else none) = some z := hz
  have a1 : k = 0 := Classical.byContradiction fun h => by rw [if_neg h] at hz; cases hz
  subst a1
  exact .inl ⟨0, z, by simpa using hz, hg⟩
 ·match k, hz with
  | 0, hz => simpa using hz
  | 1, hz => rw [h1] at hz; cases hz; cases hs
  | k + 2, hz => rw [hm.none_ (k + 2) (by simp)] at hz; cases hz
end
end Go.Proofs.YtooioahiijbomaaGreatDoor
namespace Go.Proofs.YtooioahiijbomaaGreatDoor
open Go.RowKit Go.Shelf
section
variable {P : Program} {ρ : Ren}
set_option maxHeartbeats 2000000 in
set_option maxRecDepth 100000 in
theorem bld_writeB (L : Lays.n167 P ρ) (X : Builder.Extra P ρ) (b : Nat) (p : Value) {A : Option Addr} {n c : Nat} {us : List Value} (ch : Int) (w : World) (hb : Blk w b (ρ.t 72) #[p, .slice A n c]) (hp : p = .pointer none ∨ p = .pointer (some ⟨b, 0, none⟩))
  (hown : Own w (ρ.t 5) 1 A n c us) (hd : b ∉ fpo A) (hlen : n + 1 ≤ 140737488355328) :
  Calls P (ρ.f 167) #[.pointer (some ⟨b, 0, none⟩), .int .u8 ch] w fun e w' => e = .returned .nilIface ∧ ∃ A2 c2, Blk w' b (ρ.t 72) #[.pointer (some ⟨b, 0, none⟩), .slice A2 (n + 1) c2] ∧ Own w' (ρ.t 5) 1 A2 (n + 1) c2 (us ++ [.int .u8 ch]) ∧
   Frm (b :: fpo A) w w' ∧ ∀ g ∈ fpo A2, g ∈ fpo A ∨ w.heap.size ≤ g := by
 obtain ⟨i0, hi, hz0, hz1, hz2⟩ := info_parts X.infoByte
 have mixed := L.mixed
 have t72 := L.t72; have a72 := L.a72; have z72 := L.z72; have v72 := L.v72; have u72 := run_underlying L.t72
 have t70 := L.t70; have a70 := L.a70; have z70 := L.z70; have v70 := L.v70; have u70 := run_underlying L.t70
 have t5 := L.t5; have a5 := L.a5; have z5 := L.z5; have v5 := L.v5; have u5 := run_underlying L.t5
 have t37 := L.t37; have a37 := L.a37; have z37 := L.z37; have v37 := L.v37; have u37 := run_underlying L.t37
 have t9 := L.t9; have a9 := L.a9; have z9 := L.z9; have v9 := L.v9; have u9 := run_underlying L.t9
 have t4 := L.t4; have a4 := L.a4; have z4 := L.z4; have v4 := L.v4; have u4 := run_underlying L.t4
 have t164 := L.t164; have a164 := L.a164; have z164 := L.z164; have v164 := L.v164; have u164 := run_underlying L.t164
 have e240 : ∀ args w, (callFunc (ρ.f 240) args).run P w = .ok (.enter (ρ.f 240) args) w := enters_of L.f240 (by kernel_rfl) rfl
 go_enter L.f167, Body.n167_ntmps ρ
 go_wp2_with (go_at_fn (ρ.f 240); refine (bld_copy { L with } X.toX72 b p _ _ hb hp).mono ?_)
 rintro e w1 ⟨rfl, hb1, hf1, hsz⟩
 have c0 : w1.cell? ⟨b, 0, none⟩ = some (.pointer (some ⟨b, 0, none⟩)) := hb1.cell 0 _ rfl
 have c1 : w1.cell? ⟨b, 1, none⟩ = some (.slice A n c) := hb1.cell 1 _ rfl
 have hown1 : Own w1 (ρ.t 5) 1 A n c us := hown.frS (S := (· ∈ [b])) (pub := fun _ => 0) (Fr.of_frm hf1 (fun _ _ => rfl)) (fun g hg => by simp; rintro rfl; exact hd hg)
 go_wp2_with (at_builtin; go_loud (refine wpList_app _ rfl _ _ (ρ.t 37) rfl (ρ.t 5) i0 (.int .u8 0) 1 1 L.t37 hi hz0 hz1 hz2 rfl (by decide) rfl rfl (hown1.alloc _) (Rd.lit w1 (ρ.t 5) 1 #[.int .u8 ch] 1 (by simp [maxLen]) rfl _ hsz.symm) ?c2 (n + 1) rfl (us ++ [.int .u8 ch]) rfl ?c3 ?c4 ?_))
 case c2 => first | rfl | (intro u hu; simp at hu; subst hu; rfl) | simp
 case c3 => unfold maxLen; omega
 case c4 => omega
 intro A2 c2 w2 hown2 hf2 hfp
 have hb2 : Blk w2 b (ρ.t 72) #[.pointer (some ⟨b, 0, none⟩), .slice A n c] := (hb1.alloc _).frm hf2 hd
 have d0 : w2.cell? ⟨b, 0, none⟩ = some (.pointer (some ⟨b, 0, none⟩)) := hb2.cell 0 _ rfl
 have d1 : w2.cell? ⟨b, 1, none⟩ = some (.slice A n c) := hb2.cell 1 _ rfl
 have f1 : w2.frozen? ⟨b, 1, none⟩ = false := hb2.free 1
 have hd2 : b ∉ fpo A2 := fun h => by
  rcases hfp b h with h1 | h1
  ·exact hd h1
  ·have := hb1.lt; (try simp at h1); omega
 go_wp2
 go_ret
 refine ⟨rfl, A2, c2, hb2.set_ 1 _, hown2.frS (S := (· ∈ [b])) (pub := fun _ => 0) (Fr.of_frm ((Frm.refl [b] w2).setCell (.inl (by simp)) _) (fun _ _ => rfl)) (fun g hg => by simp; rintro rfl; exact hd2 hg), ?_, fun g hg => ?_⟩
 ·exact (((hf1.mono (by simp)).alloc _).trans (hf2.mono (S' := b :: fpo A) (by simp +contextual)) (by simp +contextual)).setCell (.inl (by simp)) _
 ·rcases hfp g hg with h1 | h1
  ·exact .inl h1
  ·exact .inr (by (try simp at h1); omega)
theorem bldWriteB_ok (L : Lays.n167 P ρ) (X : Builder.Extra P ρ) : FnOk P (ρ.f 167) (spec (fun i : ByteArray × UInt8 => [.ptr 0 0, .int .u8 i.2.toNat]) (fun i => [.blk (ρ.t 72) [slfA i.1, .hd 1], .row (ρ.t 5) 1 (bytA i.1)])
  (fun i => i.1.size + 1 ≤ 140737488355328) (fun _ => .v .nilIface) fun i => [.blk (ρ.t 72) [slfA (i.1 ++ ⟨#[i.2]⟩), .hd 1], .row (ρ.t 5) 1 (bytA (i.1 ++ ⟨#[i.2]⟩))]) := by
 intro args H K ⟨⟨out, ch⟩, ha, hH, hlen, hK⟩ w r pub vals hm hv
 subst ha
 subst hH
 obtain ⟨b, A, c, p, h0, h1, hb, hp, hown, hd, hpb, hpA⟩ := bld_open hm
 obtain ⟨u, us, he, q1, q2⟩ := hv.cons_inv
 obtain ⟨u2, us', he', q3, q4⟩ := q2.cons_inv
 have q5 := q4.nil_inv
 subst q5
 cases q3
 have hu : u = .pointer (some ⟨b, 0, none⟩) := by
  cases q1 with
  | ptr _ h2 => rw [h0] at h2; cases h2; rfl
 have hvals : vals = #[.pointer (some ⟨b, 0, none⟩), .int .u8 ch.toNat] := Array.toList_inj.1 (by rw [he, he', hu])
 subst hvals
 have hp' : p = .pointer none ∨ p = .pointer (some ⟨b, 0, none⟩) := by
  unfold slfA at hp
  split at hp
  ·cases hp; exact .inl rfl
  ·cases hp with
   | ptr _ h2 => rw [h0] at h2; cases h2; exact .inr rfl
 dsimp only at hlen
 refine (bld_writeB L X b p ch.toNat w hb hp' hown hd hlen).mono fun e w' ⟨he, A2, c2, hb2, hown2, hf, hA⟩ => ?_
 have hsz : (out ++ ⟨#[ch]⟩).size = out.size + 1 := ByteArray.size_append
 have hd2 : b ∉ fpo A2 := fun h => by
  rcases hA b h with h3 | h3
  ·exact hd h3
  ·have := hb.lt; omega
 rw [← hsz] at hb2 hown2
 have hcat : Lib.strCells out ++ [.int .u8 ch.toNat] = Lib.strCells (out ++ ⟨#[ch]⟩) := by simp [Lib.strCells]
 rw [hcat] at hown2
 obtain ⟨k1, k2, k3, k4⟩ := bld_close (q := .pointer (some ⟨b, 0, none⟩)) hm h0 h1 hb2 (fun r' hr' => by
  unfold slfA
  rw [if_neg (by rw [hsz]; omega)]
  exact .ptr 0 (by rw [hr', h0])) hown2 hf hA hpb hpA hd2
 exact ⟨_, _, _, _, pub, he, hK, .v _ rfl, k1, k2, k3, k4, Nat.le_refl _⟩
end
end Go.Proofs.YtooioahiijbomaaGreatDoor
namespace Go.Proofs.YtooioahiijbomaaGreatDoor
open Go.RowKit
set_option maxHeartbeats 4000000
set_option maxRecDepth 100000
def BldH (s : ByteArray) : List Ent := [.blk 133 [slfA s, .hd 1], .row 5 1 (bytA s)]
def WriteC : Ctr := spec (fun i : ByteArray × ByteArray => [.ptr 0 0, .str i.2]) (fun i => BldH i.1) (fun i => i.1.size + i.2.size ≤ 140737488355328 ∧ i.2.size ≠ 0) (fun i => .tup [.int .i64 i.2.size, .v .nilIface]) fun i => BldH (i.1 ++ i.2)
def WriteBC : Ctr := spec (fun i : ByteArray × UInt8 => [.ptr 0 0, .int .u8 i.2.toNat]) (fun i => BldH i.1) (fun i => i.1.size + 1 ≤ 140737488355328) (fun _ => .v .nilIface) fun i => BldH (i.1 ++ ⟨#[i.2]⟩)
def StringC : Ctr := spec (fun _ : ByteArray × AV => [.ptr 0 0]) (fun i => [.blk 133 [i.2, .hd 1], .row 5 1 (bytA i.1)]) (fun _ => True) (fun i => .str i.1) fun _ => [.blk 133 [.any, .any], .dead]
def BldE : List Ent := [.blk 133 [.v (.pointer none), .hd 1], .row 5 1 []]
def BldT (xs : List AV) : List Ent := [.blk 133 [.ptr 0 0, .hd 1], .row 5 1 xs]
structure BI where
 o : ByteArray
 xs : List AV
 s : ByteArray
structure BOk (i : BI) : Prop where
 x : i.xs = bytA i.o
 o : i.o.size ≠ 0
 s : i.s.size ≠ 0
 l : i.o.size + i.s.size ≤ 140737488355328
def WrEC : Ctr := specN (fun s : ByteArray => [.ptr 0 0, .str s]) (fun _ => BldE) (fun s => s.size ≠ 0 ∧ s.size ≤ 140737488355328) (fun s (ys : List AV) => ys = bytA s) (fun s _ => .tup [.int .i64 s.size, .v .nilIface]) fun _ ys => BldT ys
def WrC : Ctr := specN (fun i : BI => [.ptr 0 0, .str i.s]) (fun i => BldT i.xs) BOk (fun i (ys : List AV) => ys = bytA (i.o ++ i.s)) (fun i _ => .tup [.int .i64 i.s.size, .v .nilIface]) fun _ ys => BldT ys
structure BBI where
 o : ByteArray
 xs : List AV
 c : UInt8
structure BBOk (i : BBI) : Prop where
 x : i.xs = bytA i.o
 o : i.o.size ≠ 0
 l : i.o.size + 1 ≤ 140737488355328
def WbC (c : Int) : Ctr := specN (fun _ : BBI => [.ptr 0 0, .int .u8 c]) (fun i => BldT i.xs) (fun i => BBOk i ∧ c = i.c.toNat) (fun i (ys : List AV) => ys = bytA (i.o ++ ⟨#[i.c]⟩)) (fun _ _ => .v .nilIface) fun _ ys => BldT ys
def StrTC : Ctr := spec (fun _ : BI => [.ptr 0 0]) (fun i => BldT i.xs) (fun i => i.xs = bytA i.o) (fun i => .str i.o) fun _ => [.blk 133 [.any, .any], .dead]
theorem bld_e : BldH ⟨#[]⟩ = BldE := rfl
theorem bld_t {s : ByteArray} (h : s.size ≠ 0) : BldH s = BldT (bytA s) := by
 unfold BldH BldT slfA
 rw [if_neg h]
theorem wrE_of {P : Program} {f : Nat} (h : FnOk P f WriteC) : FnOk P f WrEC := fun args H K ⟨s, ha, hH, ⟨h1, h2⟩, hK⟩ => h args H K ⟨(⟨#[]⟩, s), ha, hH.trans bld_e.symm, ⟨by dsimp only; rw [show (ByteArray.mk #[]).size = 0 from rfl]; omega, h1⟩, by
 have e : (ByteArray.mk #[]) ++ s = s := ByteArray.empty_append
 dsimp only
 rw [e, bld_t h1]
 exact hK _ rfl⟩
theorem wr_of {P : Program} {f : Nat} (h : FnOk P f WriteC) : FnOk P f WrC := fun args H K ⟨i, ha, hH, hp, hK⟩ => h args H K ⟨(i.o, i.s), ha, hH.trans (show BldT i.xs = BldH i.o by rw [hp.x, bld_t hp.o]), ⟨hp.l, hp.s⟩, by
 have e : (i.o ++ i.s).size ≠ 0 := by have := hp.o; rw [ByteArray.size_append]; omega
 dsimp only
 rw [bld_t e]
 exact hK _ rfl⟩
theorem wb_of {P : Program} {f : Nat} (c : Int) (h : FnOk P f WriteBC) : FnOk P f (WbC c) := fun args H K ⟨i, ha, hH, ⟨hp, hc⟩, hK⟩ => h args H K ⟨(i.o, i.c), by rw [ha, hc], hH.trans (show BldT i.xs = BldH i.o by rw [hp.x, bld_t hp.o]), hp.l, by
 have e : (i.o ++ ⟨#[i.c]⟩).size ≠ 0 := by have := hp.o; rw [ByteArray.size_append]; omega
 dsimp only
 rw [bld_t e]
 exact hK _ rfl⟩
theorem strT_of {P : Program} {f : Nat} (h : FnOk P f StringC) : FnOk P f StrTC := fun args H K ⟨i, ha, hH, hp, hK⟩ => h args H K ⟨(i.o, .ptr 0 0), ha, hH.trans (show BldT i.xs = BldT (bytA i.o) by rw [show i.xs = bytA i.o from hp]), trivial, hK⟩
theorem HoldsW.adoptC {C : Ctx} {st : St} {a : Act} {w : World} {r : Rho} {pub : Pub} (h : HoldsW C st a w r pub) (k j t sz : Nat) {t0 : TypeId} {cs : List AV} (hk : st.H[k]? = some (.blk t0 cs)) (hj : cs[j]? = some (.v (.slice none 0 0))) :
  HoldsW C ⟨st.T, (st.H ++ [Ent.row t sz []]).set k (.blk t0 (cs.set j (.hd st.H.length)))⟩ a w (rset r st.H.length (.slice none 0 0)) pub := by
 have hkl := (List.getElem?_eq_some_iff.1 hk).1
 have hd := h.room 1
 have hq : (st.H ++ List.replicate 1 Ent.dead)[st.H.length]? = some .dead := by simp
 have h1 := hd.adopt hq t sz
 have hset : (st.H ++ List.replicate 1 Ent.dead).set st.H.length (.row t sz []) = st.H ++ [.row t sz []] := by simp
 dsimp only at h1
 rw [hset] at h1
 have hk1 : (st.H ++ [Ent.row t sz []])[k]? = some (.blk t0 cs) := by rw [List.getElem?_append_left hkl]; exact hk
 obtain ⟨b, arr, hr, hb, hc, hp⟩ := h1.ent_blk hk1
 have he : ERel pub w (rset r st.H.length (.slice none 0 0)) (some (.pointer (some ⟨b, 0, none⟩))) (.blk t0 (cs.set j (.hd st.H.length))) := by
  refine .blk hb ⟨by rw [List.length_set]; exact hc.len, fun i x u hx hu => ?_⟩ hp
  rw [List.getElem?_set] at hx
  split at hx
  ·rename_i e
   subst e
   have := hc.at_ j _ u hj hu
   cases this
   split at hx
   ·cases hx; exact .hd (rset_self _ _ _) rfl
   ·cases hx
  ·exact hc.at_ i x u hx hu
 exact ⟨h1.mod.set hr (Fr.refl (fun _ => False) _ _) (fun b hb => hb.elim) h1.mod.fresh h1.mod.there he, h1.own, h1.fr, h1.slots, h1.defers, h1.size, h1.stab, by simpa using h1.low⟩
theorem callG_adoptC {P : Program} {f : Nat} {keep : List Nat} {args : List AV} {st : St} {K : AV → St → Prop} (k j t sz : Nat) {t0 : TypeId} {cs : List AV} (hk : st.H[k]? = some (.blk t0 cs)) (hj : cs[j]? = some (.v (.slice none 0 0))) (hkeep : (keep.all fun q => q != st.H.length) = true)
  (h : CallG P keep f args ⟨st.T, (st.H ++ [Ent.row t sz []]).set k (.blk t0 (cs.set j (.hd st.H.length)))⟩ K) : CallG P keep f args st K := by
 refine ⟨fun C a w r pub vals hh hv => ?_⟩
 have h1 := hh.adoptC k j t sz hk hj
 have hnone : r st.H.length = none := hh.mod.none_ _ (Nat.le_refl _)
 have hmono : ∀ n y, r n = some y → rset r st.H.length (.slice none 0 0) n = some y := fun n y hn => by
  rw [rset_ne _ _ (fun e => by rw [e, hnone] at hn; cases hn)]
  exact hn
 refine (h.out C a w _ pub vals h1 ⟨hv.len, fun i x u hx hu => (hv.at_ i x u hx hu).mono hmono⟩).mono fun e w' hw => ?_
 obtain ⟨v, x, st', r', pub', e1, e2, e3, e4, e5, e6⟩ := hw
 refine ⟨v, x, st', r', pub', e1, e2, e3, e4, e5, fun q hq => ?_⟩
 have hne : q ≠ st.H.length := by
  have := List.all_eq_true.1 hkeep q hq
  simpa using this
 have h6 := e6 q hq
 rw [rset_ne _ _ hne] at h6
 exact h6
set_option maxHeartbeats 8000000
structure OX where
 o : ByteArray
 xs : List AV
structure OxOk (k : OX) : Prop where
 x : k.xs = bytA k.o
 z : k.o.size ≠ 0
 l : k.o.size ≤ 1099511627776
structure OxTo (n : Nat) (k : OX) : Prop where
 x : k.xs = bytA k.o
 z : k.o.size ≠ 0
 l : k.o.size ≤ n
def ShAEC : Ctr := specN (fun n : Nd => [.ptr 0 0, NdA n]) (fun _ => BldE) NdSz (fun _ k => OxTo 4194304 k) (fun _ _ => .tup []) fun _ k => BldT k.xs
def ShATC : Ctr := specN (fun i : Nd × OX => [.ptr 0 0, NdA i.1]) (fun i => BldT i.2.xs) (fun i => NdSz i.1 ∧ OxOk i.2) (fun i k => OxTo (i.2.o.size + 4194304) k) (fun _ _ => .tup []) fun _ k => BldT k.xs
theorem sz_sp : (ByteArray.mk #[32, 61, 32, 34]).size = 4 ∧ (ByteArray.mk #[34]).size = 1 ∧ (ByteArray.mk #[32, 60, 61, 32]).size = 4 ∧ (ByteArray.mk #[32, 62, 61, 32]).size = 4 := ⟨rfl, rfl, rfl, rfl⟩
theorem showAE_body (P : Program) (hf : FnOk P 99 FmtC) (hw : FnOk P 56 WrEC) : BodyOk P x112 ShAEC := by
 intro args H K hcc
 obtain ⟨⟨kind, field, text, num⟩, rfl, rfl, ⟨hk, hfs, hts, hi⟩, hK⟩ := hcc
 refine ⟨nb9, ?_⟩
 unfold plainN at hk
 try dsimp only at hk hfs hts hi hK
 obtain ⟨s1, s2, s3, s4⟩ := sz_sp
 have hz := itoZ_sz num hi
 obtain ⟨w, hw1⟩ : ∃ w, w = itoZ num := ⟨_, rfl⟩
 rw [← hw1] at hz
 rcases hk with h1 | h1 | h1 <;> subst h1
 ·cbv; repeat' ((first | refine .n fun h => ?_ | refine .y fun h => ?_ | refine .u fun u hu hul => ?_ | fail) <;> cbv)
  refine callG_specN hw u [0, 1] ⟨by omega, by omega⟩ rfl rfl (by decide) rfl rfl rfl rfl rfl fun ys hys => ?_
  have hK := hK ⟨u, ys⟩ ⟨hys, by (try dsimp only); omega, by (try dsimp only); omega⟩
  cbv
  (refine .r9 (Gh.refl _) ?_; cbv; exact .inl (.f9 hK))
 all_goals
  cbv; repeat' ((first | refine .n fun h => ?_ | refine .y fun h => ?_ | refine .u fun u hu hul => ?_ | fail) <;> cbv)
  (refine c09 hf num hi ?_; try dsimp only)
  rw [← hw1]
  cbv; repeat' ((first | refine .u fun u hu hul => ?_ | fail) <;> cbv)
  refine callG_specN hw u [0, 1] ⟨by omega, by omega⟩ rfl rfl (by decide) rfl rfl rfl rfl rfl fun ys hys => ?_
  have hK := hK ⟨u, ys⟩ ⟨hys, by (try dsimp only); omega, by (try dsimp only); omega⟩
  cbv
  (refine .r9 (Gh.refl _) ?_; cbv; exact .inl (.f9 hK))
theorem showAT_body (P : Program) (hf : FnOk P 99 FmtC) (hw : FnOk P 56 WrC) : BodyOk P x112 ShATC := by
 intro args H K hcc
 obtain ⟨⟨⟨kind, field, text, num⟩, ⟨o, xs⟩⟩, rfl, rfl, ⟨⟨hk, hfs, hts, hi⟩, ⟨hx, ho, hl⟩⟩, hK⟩ := hcc
 refine ⟨nb9, ?_⟩
 unfold plainN at hk
 try dsimp only at hk hfs hts hi hx ho hl hK
 obtain ⟨s1, s2, s3, s4⟩ := sz_sp
 have hz := itoZ_sz num hi
 obtain ⟨w, hw1⟩ : ∃ w, w = itoZ num := ⟨_, rfl⟩
 rw [← hw1] at hz
 rcases hk with h1 | h1 | h1 <;> subst h1
 ·cbv; repeat' ((first | refine .n fun h => ?_ | refine .y fun h => ?_ | refine .u fun u hu hul => ?_ | fail) <;> cbv)
  refine callG_specN hw (⟨o, xs, u⟩ : BI) [0, 1] ⟨hx, ho, by (try dsimp only); omega, by (try dsimp only); omega⟩ rfl rfl (by decide) rfl rfl rfl rfl rfl fun ys hys => ?_
  obtain ⟨o2, ho2⟩ : ∃ o2, o2 = o ++ u := ⟨_, rfl⟩
  have hz2 : o2.size = o.size + u.size := by rw [ho2]; exact ByteArray.size_append
  have hK := hK ⟨o2, ys⟩ ⟨by rw [ho2]; exact hys, by (try dsimp only); omega, by (try dsimp only); omega⟩
  cbv
  (refine .r9 (Gh.refl _) ?_; cbv; exact .inl (.f9 hK))
 all_goals
  cbv; repeat' ((first | refine .n fun h => ?_ | refine .y fun h => ?_ | refine .u fun u hu hul => ?_ | fail) <;> cbv)
  (refine c09 hf num hi ?_; try dsimp only)
  rw [← hw1]
  cbv; repeat' ((first | refine .u fun u hu hul => ?_ | fail) <;> cbv)
  refine callG_specN hw (⟨o, xs, u⟩ : BI) [0, 1] ⟨hx, ho, by (try dsimp only); omega, by (try dsimp only); omega⟩ rfl rfl (by decide) rfl rfl rfl rfl rfl fun ys hys => ?_
  obtain ⟨o2, ho2⟩ : ∃ o2, o2 = o ++ u := ⟨_, rfl⟩
  have hz2 : o2.size = o.size + u.size := by rw [ho2]; exact ByteArray.size_append
  have hK := hK ⟨o2, ys⟩ ⟨by rw [ho2]; exact hys, by (try dsimp only); omega, by (try dsimp only); omega⟩
  cbv
  (refine .r9 (Gh.refl _) ?_; cbv; exact .inl (.f9 hK))
def BrAEC : Ctr := specN (fun n : Nd => [.ptr 0 0, .i 0, NdA n]) (fun _ => BldE) NdSz (fun _ k => OxTo 4194304 k) (fun _ _ => .tup []) fun _ k => BldT k.xs
def BrATC : Ctr := specN (fun i : Nd × OX => [.ptr 0 0, .i 0, NdA i.1]) (fun i => BldT i.2.xs) (fun i => NdSz i.1 ∧ OxOk i.2) (fun i k => OxTo (i.2.o.size + 4194304) k) (fun _ _ => .tup []) fun _ k => BldT k.xs
theorem brAE_body (P : Program) (hs : FnOk P 112 ShAEC) : BodyOk P x203 BrAEC := by
 intro args H K hcc
 obtain ⟨⟨kind, field, text, num⟩, rfl, rfl, hp, hK⟩ := hcc
 refine ⟨nb9, ?_⟩
 have hk := hp.p
 unfold plainN at hk
 try dsimp only at hk hK
 rcases hk with h1 | h1 | h1 <;> subst h1
 all_goals
  cbv; repeat' ((first | refine .n fun h => ?_ | fail) <;> cbv)
  first
   | refine callG_specN hs (⟨3, field, text, num⟩ : Nd) [0, 1] hp rfl rfl (by decide) rfl rfl rfl rfl rfl fun k hk => ?_
   | refine callG_specN hs (⟨5, field, text, num⟩ : Nd) [0, 1] hp rfl rfl (by decide) rfl rfl rfl rfl rfl fun k hk => ?_
   | refine callG_specN hs (⟨6, field, text, num⟩ : Nd) [0, 1] hp rfl rfl (by decide) rfl rfl rfl rfl rfl fun k hk => ?_
   | fail
  have hK := hK k hk
  obtain ⟨o, xs⟩ := k
  cbv
  (refine .r9 (Gh.refl _) ?_; cbv; exact .inl (.f9 hK))
theorem brAT_body (P : Program) (hs : FnOk P 112 ShATC) : BodyOk P x203 BrATC := by
 intro args H K hcc
 obtain ⟨⟨⟨kind, field, text, num⟩, ⟨o, xs⟩⟩, rfl, rfl, hp, hK⟩ := hcc
 refine ⟨nb9, ?_⟩
 have hk := hp.1.p
 unfold plainN at hk
 try dsimp only at hk hK
 rcases hk with h1 | h1 | h1 <;> subst h1
 all_goals
  cbv; repeat' ((first | refine .n fun h => ?_ | fail) <;> cbv)
  first
   | refine callG_specN hs ((⟨3, field, text, num⟩, ⟨o, xs⟩) : Nd × OX) [0, 1] hp rfl rfl (by decide) rfl rfl rfl rfl rfl fun k hk => ?_
   | refine callG_specN hs ((⟨5, field, text, num⟩, ⟨o, xs⟩) : Nd × OX) [0, 1] hp rfl rfl (by decide) rfl rfl rfl rfl rfl fun k hk => ?_
   | refine callG_specN hs ((⟨6, field, text, num⟩, ⟨o, xs⟩) : Nd × OX) [0, 1] hp rfl rfl (by decide) rfl rfl rfl rfl rfl fun k hk => ?_
   | fail
  have hK := hK k hk
  obtain ⟨o, xs⟩ := k
  cbv
  (refine .r9 (Gh.refl _) ?_; cbv; exact .inl (.f9 hK))
def RwC : Ctr := specN (fun l : List Nd => [.ptr 0 0, AllA l, .str ⟨#[32, 97, 110, 100, 32]⟩]) (fun _ => BldE) NdL (fun _ k => OxTo 1073741824 k) (fun _ _ => .tup []) fun _ k => BldT k.xs
inductive RwS : Nat → AV → ByteArray → List AV → Prop where
 | e : RwS 0 (.v (.pointer none)) ⟨#[]⟩ []
 | t {k : Nat} {o : ByteArray} {xs : List AV} (h : OxTo (k * 8388608) ⟨o, xs⟩) (hk : k ≠ 0) : RwS k (.ptr 0 0) o xs
structure RwI (l : List Nd) where
 k : Nat
 sl : AV
 o : ByteArray
 xs : List AV
 hk : k ≤ l.length
 h : RwS k sl o xs
theorem row_body (P : Program) (hw : FnOk P 56 WrC) (he : FnOk P 203 BrAEC) (ht : FnOk P 203 BrATC) : BodyOk P x202 RwC := by
 intro args H K hcc
 obtain ⟨l, rfl, rfl, ⟨hn, hl, hl2⟩, hK⟩ := hcc
 refine ⟨nb9, ?_⟩
 try dsimp only at hn hl hl2 hK
 have hml := mapA_len NdA l
 have h5 : (ByteArray.mk #[32, 97, 110, 100, 32]).size = 5 := rfl
 cbv; repeat' ((first | refine .k fun z hz => ?_ | fail) <;> cbv)
 refine xloopV [0, 1] (fun q : RwI l => [(0, .ptr 0 0), (11, .i (nI q.k))]) (fun q => [.blk 133 [q.sl, .hd 1], .row 5 1 q.xs, .blk 100 [.i 0, .i 0, .str ⟨#[]⟩, .str ⟨#[]⟩, .i 0, .sl 6 (mapA NdA l)]]) (fun q => lft 65 q.k) ⟨0, .v (.pointer none), ⟨#[]⟩, [], Nat.zero_le _, .e⟩ ?_
 rintro ⟨k, sl, o, xs, hk, h⟩
 try dsimp only at hk h ⊢
 rcases Nat.lt_or_ge k l.length with hks | hks
 ·obtain ⟨x, hx⟩ := some_at hks
  have hxs := hn x (List.mem_of_getElem? hx)
  obtain ⟨kind, field, text, num⟩ := x
  cases h with
  | e =>
   cbv; repeat' ((first | refine .e ?_ | refine .n fun h => ?_ | refine .y fun h => ?_ | fail) <;> cbv)
   refine callG_specN he (⟨kind, field, text, num⟩ : Nd) [0, 1] hxs rfl rfl (by decide) rfl rfl rfl rfl rfl fun k hk => ?_
   obtain ⟨o, xs⟩ := k
   cbv; repeat' ((first | refine .k fun z hz => ?_ | fail) <;> cbv)
   obtain rfl : z = nI (0 + 1) := om9
   exact roundV ⟨0 + 1, .ptr 0 0, o, xs, by exact om9, .t ⟨hk.x, hk.z, by have := hk.l; dsimp only at this ⊢; omega⟩ (by decide)⟩ (lft_lt om9)
  | t hT hk0 =>
   have hTl := hT.l
   have hTz := hT.z
   have hTx := hT.x
   dsimp only at hTl hTz hTx
   cbv; repeat' ((first | refine .e ?_ | refine .y fun h => ?_ | fail) <;> cbv)
   ·refine callG_specN hw (⟨o, xs, ⟨#[32, 97, 110, 100, 32]⟩⟩ : BI) [0, 1] ⟨hTx, hTz, (show (5 : Nat) ≠ 0 by decide), (show o.size + 5 ≤ 140737488355328 by omega)⟩ rfl rfl (by decide) rfl rfl rfl rfl rfl fun ys hys => ?_
    obtain ⟨o2, ho2⟩ : ∃ o2, o2 = o ++ ⟨#[32, 97, 110, 100, 32]⟩ := ⟨_, rfl⟩
    have hz2 : o2.size = o.size + 5 := by rw [ho2]; exact ByteArray.size_append
    replace hys : ys = bytA o2 := by rw [ho2]; exact hys
    cbv
    refine callG_specN ht ((⟨kind, field, text, num⟩, ⟨o2, ys⟩) : Nd × OX) [0, 1] ⟨hxs, hys, by (try dsimp only); omega, by (try dsimp only); omega⟩ rfl rfl (by decide) rfl rfl rfl rfl rfl fun k2 hk2 => ?_
    obtain ⟨o3, xs3⟩ := k2
    cbv; repeat' ((first | refine .k fun z hz => ?_ | fail) <;> cbv)
    obtain rfl : z = nI (k + 1) := om9
    exact roundV ⟨k + 1, .ptr 0 0, o3, xs3, by exact om9, .t ⟨hk2.x, hk2.z, by have := hk2.l; dsimp only at this ⊢; omega⟩ (by omega)⟩ (lft_lt om9)
 ·cases h with
  | e => exfalso; omega
  | t hT hk0 =>
   have hTl := hT.l
   dsimp only at hTl
   have hK := hK ⟨o, xs⟩ ⟨hT.x, hT.z, by (try dsimp only); omega⟩
   cbv; repeat' ((first | refine .n fun h => ?_ | fail) <;> cbv)
   (refine .r9 (Gh.refl _) ?_; cbv; exact .inl (.f9 hK))
def ShNC : Ctr := specN (fun l : List Nd => [.ptr 0 0, AllA l]) (fun _ => BldE) NdL (fun _ k => OxTo 1073741824 k) (fun _ _ => .tup []) fun _ k => BldT k.xs
theorem showN_body (P : Program) (hr : FnOk P 202 RwC) : BodyOk P x112 ShNC := by
 intro args H K hcc
 obtain ⟨l, rfl, rfl, hp, hK⟩ := hcc
 refine ⟨nb9, ?_⟩
 try dsimp only at hK
 cbv; repeat' ((first | refine .y fun h => ?_ | fail) <;> cbv)
 refine callG_specN hr l [0, 1] hp rfl rfl (by decide) rfl rfl rfl rfl rfl fun k hk => ?_
 have hK := hK k hk
 obtain ⟨o, xs⟩ := k
 cbv
 (refine .r9 (Gh.refl _) ?_; cbv; exact .inl (.f9 hK))
def ShowC : Ctr := specN (fun l : List Nd => [AllA l]) (fun _ => []) NdL (fun _ (t : ByteArray) => t.size ≤ 1073741824) (fun _ t => .str t) fun _ _ => []
theorem Show_body (P : Program) (hr : FnOk P 111 RmNC) (hs : FnOk P 112 ShNC) (ht : FnOk P 62 StrTC) : BodyOk P x59 ShowC := by
 intro args H K hcc
 obtain ⟨l, rfl, rfl, hp, hK⟩ := hcc
 refine ⟨nb9, ?_⟩
 try dsimp only at hK
 cbv
 (refine callG_bo hr l hp (by rfl) (by rfl) (by rfl) fun b => ?_)
 cases b
 ·have hK := hK ⟨#[]⟩ (Nat.zero_le _)
  cbv
  (refine .r9 (Gh.refl _) ?_; cbv; exact .inl (.f9 hK))
 ·cbv
  refine callG_adoptC 1 1 5 1 rfl rfl rfl ?_
  cbv
  refine callG_specN hs l [1, 2] hp rfl rfl (by decide) rfl rfl rfl rfl rfl fun k hk => ?_
  obtain ⟨o, xs⟩ := k
  have hx := hk.x
  have hl := hk.l
  try dsimp only at hx hl
  have hK := hK o (by omega)
  cbv
  (refine cs9 ht (⟨o, xs, ⟨#[]⟩⟩ : BI) [1, 2] hx ?_; try dsimp only)
  cbv
  (refine .r9 (Gh.refl _) ?_; cbv; exact .inl (.f9 hK))
set_option maxHeartbeats 2000000
def laysLot_ren : Go.Shelf.Ren := ⟨fun | 6 => 326 | 14 => 335 | 15 => 205 | 20 => 339 | 21 => 340 | 22 => 341 | 23 => 342 | 24 => 343 | 25 => 344 | 26 => 345 | 27 => 346 | 28 => 276 | 29 => 277 | 46 => 347 | 47 => 310 | 48 => 311 | 49 => 348 | 50 => 349 | 57 => 350 | n => n, fun | 0 => 0 | 3 => 3 | 4 => 4 | 5 => 5 | 9 => 9 | 22 => 81 | 24 => 295 | 25 => 359 | 39 => 209 | 45 => 313 | 46 => 314 | 50 => 289 | 53 => 269 | 55 => 271 | 66 => 339 | 70 => 343 | 76 => 354 | 77 => 355 | n => n, fun | n => n⟩
theorem laysLot : Go.Proofs.SlLaysF0.n6 Tryz.prog laysLot_ren := {
 mixed := by kernel_rfl
 f6 := ⟨"slices.SortFunc[[]supercargo/api.Lot,supercargo/api.Lot]", by kernel_rfl, Tryz.func326.trans (congrArg some (by kernel_rfl))⟩
 f14 := ⟨"slices.pdqsortCmpFunc[supercargo/api.Lot]", by kernel_rfl, Tryz.func335.trans (congrArg some (by kernel_rfl))⟩
 f15 := Tryz.func205.trans (congrArg some (by kernel_rfl))
 f20 := ⟨"slices.insertionSortCmpFunc[supercargo/api.Lot]", by kernel_rfl, Tryz.func339.trans (congrArg some (by kernel_rfl))⟩
 f21 := ⟨"slices.heapSortCmpFunc[supercargo/api.Lot]", by kernel_rfl, Tryz.func340.trans (congrArg some (by kernel_rfl))⟩
 f22 := ⟨"slices.breakPatternsCmpFunc[supercargo/api.Lot]", by kernel_rfl, Tryz.func341.trans (congrArg some (by kernel_rfl))⟩
 f23 := ⟨"slices.choosePivotCmpFunc[supercargo/api.Lot]", by kernel_rfl, Tryz.func342.trans (congrArg some (by kernel_rfl))⟩
 f24 := ⟨"slices.reverseRangeCmpFunc[supercargo/api.Lot]", by kernel_rfl, Tryz.func343.trans (congrArg some (by kernel_rfl))⟩
 f25 := ⟨"slices.partialInsertionSortCmpFunc[supercargo/api.Lot]", by kernel_rfl, Tryz.func344.trans (congrArg some (by kernel_rfl))⟩
 f26 := ⟨"slices.partitionEqualCmpFunc[supercargo/api.Lot]", by kernel_rfl, Tryz.func345.trans (congrArg some (by kernel_rfl))⟩
 f27 := ⟨"slices.partitionCmpFunc[supercargo/api.Lot]", by kernel_rfl, Tryz.func346.trans (congrArg some (by kernel_rfl))⟩
 f28 := Tryz.func276.trans (congrArg some (by kernel_rfl))
 f29 := Tryz.func277.trans (congrArg some (by kernel_rfl))
 f46 := ⟨"slices.siftDownCmpFunc[supercargo/api.Lot]", by kernel_rfl, Tryz.func347.trans (congrArg some (by kernel_rfl))⟩
 f47 := Tryz.func310.trans (congrArg some (by kernel_rfl))
 f48 := Tryz.func311.trans (congrArg some (by kernel_rfl))
 f49 := ⟨"slices.medianAdjacentCmpFunc[supercargo/api.Lot]", by kernel_rfl, Tryz.func348.trans (congrArg some (by kernel_rfl))⟩
 f50 := ⟨"slices.medianCmpFunc[supercargo/api.Lot]", by kernel_rfl, Tryz.func349.trans (congrArg some (by kernel_rfl))⟩
 f57 := ⟨"slices.order2CmpFunc[supercargo/api.Lot]", by kernel_rfl, Tryz.func350.trans (congrArg some (by kernel_rfl))⟩
 t0 := Tryz.underlying0
 a0 := Tryz.isAgg0
 z0 := Tryz.sizeOf0
 v0 := Tryz.zeroValue0
 t3 := Tryz.underlying3
 a3 := Tryz.isAgg3
 z3 := Tryz.sizeOf3
 v3 := Tryz.zeroValue3
 t4 := Tryz.underlying4
 a4 := Tryz.isAgg4
 z4 := Tryz.sizeOf4
 v4 := Tryz.zeroValue4
 t5 := Tryz.underlying5
 a5 := Tryz.isAgg5
 z5 := Tryz.sizeOf5
 v5 := Tryz.zeroValue5
 t9 := Tryz.underlying9
 a9 := Tryz.isAgg9
 z9 := Tryz.sizeOf9
 v9 := Tryz.zeroValue9
 t22 := Tryz.underlying81
 a22 := Tryz.isAgg81
 z22 := Tryz.sizeOf81
 v22 := Tryz.zeroValue81
 t25 := Tryz.underlying359
 a25 := Tryz.isAgg359
 z25 := Tryz.sizeOf359
 v25 := Tryz.zeroValue359
 t39 := Tryz.underlying209
 a39 := Tryz.isAgg209
 z39 := Tryz.sizeOf209
 v39 := Tryz.zeroValue209
 t45 := Tryz.underlying313
 a45 := Tryz.isAgg313
 z45 := Tryz.sizeOf313
 v45 := Tryz.zeroValue313
 t46 := Tryz.underlying314
 a46 := Tryz.isAgg314
 z46 := Tryz.sizeOf314
 v46 := Tryz.zeroValue314
 t50 := Tryz.underlying289
 a50 := Tryz.isAgg289
 z50 := Tryz.sizeOf289
 v50 := Tryz.zeroValue289
 t53 := Tryz.underlying269
 a53 := Tryz.isAgg269
 z53 := Tryz.sizeOf269
 v53 := Tryz.zeroValue269
 t55 := Tryz.underlying271
 a55 := Tryz.isAgg271
 z55 := Tryz.sizeOf271
 v55 := Tryz.zeroValue271
 t66 := Tryz.underlying339
 a66 := Tryz.isAgg339
 z66 := Tryz.sizeOf339
 v66 := Tryz.zeroValue339
 t70 := Tryz.underlying343
 a70 := Tryz.isAgg343
 z70 := Tryz.sizeOf343
 v70 := Tryz.zeroValue343
 t76 := Tryz.underlying354
 a76 := Tryz.isAgg354
 z76 := Tryz.sizeOf354
 v76 := Tryz.zeroValue354
 t77 := Tryz.underlying355
 a77 := Tryz.isAgg355
 z77 := Tryz.sizeOf355
 v77 := Tryz.zeroValue355 }
def encLo (x : Lo) : List Value := [.string x.good, .int .i64 x.count]
instance : Inhabited Lo := ⟨⟨⟨#[]⟩, 0⟩⟩
def cmpS (x y : ByteArray) : Int := if Op.bytesLess x.toList y.toList = true then -1 else if (x.toList == y.toList) = true then 0 else 1
def cmpLo (x y : Lo) : Int := cmpS x.good y.good
theorem bl_irr : ∀ l : List UInt8, Op.bytesLess l l = false
 | [] => rfl
 | a :: l => by
  show (decide (a < a) || (a == a && Op.bytesLess l l)) = false
  rw [bl_irr l]
  simp
theorem bl_iff : ∀ l m : List UInt8, Op.bytesLess l m = true ↔ l < m
 | [], [] => by simp [Op.bytesLess]
 | [], b :: m => by simp [Op.bytesLess]
 | a :: l, [] => by simp [Op.bytesLess]
 | a :: l, b :: m => by
  show (decide (a < b) || (a == b && Op.bytesLess l m)) = true ↔ _
  rw [List.cons_lt_cons_iff, ← bl_iff l m]
  simp
theorem swo_lo : Sort.SWO (ltOf cmpLo) := by
 have key : ∀ x y : Lo, ltOf cmpLo x y = Op.bytesLess x.good.toList y.good.toList := fun x y => by
  unfold ltOf cmpLo cmpS
  split
  ·rename_i h; rw [h]; rfl
  ·rename_i h
   rw [Bool.eq_false_iff.2 h]
   split <;> rfl
 refine ⟨fun x => ?_, fun x y z h1 h2 => ?_, fun x y z h1 h2 => ?_⟩
 ·rw [key]; exact bl_irr _
 ·rw [key] at h1 h2 ⊢
  rw [bl_iff] at h1 h2 ⊢
  exact List.lt_trans h1 h2
 ·rw [key] at h1 h2 ⊢
  rw [Bool.eq_false_iff, ne_eq, bl_iff] at h1 h2 ⊢
  exact fun h => by
   have h3 := List.not_lt.1 h1
   have h4 := List.not_lt.1 h2
   exact List.not_lt.2 (List.le_trans h4 h3) h
theorem k_nanS (x : ByteArray) (w : World) : Calls Tryz.prog 336 #[.string x] w fun e w' => e = .returned (.bool false) ∧ w' = w := by
 go_enter Tryz.func336, Tryz.ntmps336
 go_wp2
 go_ret
 exact ⟨by simp, rfl⟩
theorem k_cmpS (x y : ByteArray) (w : World) : Calls Tryz.prog 328 #[.string x, .string y] w fun e w' => e = .returned (.int .i64 (cmpS x y)) ∧ w' = w := by
 have e1 : ∀ W, (Go.binOp .gtr 9 (.string x) (.string y)).run Tryz.prog W = .ok (.bool (!(Op.bytesLess x.toList y.toList || x.toList == y.toList))) W := fun _ => by kernel_rfl
 unfold cmpS
 obtain ⟨b1, hb1⟩ : ∃ b, b = Op.bytesLess x.toList y.toList := ⟨_, rfl⟩
 obtain ⟨b2, hb2⟩ : ∃ b, b = (x.toList == y.toList) := ⟨_, rfl⟩
 rw [← hb1, ← hb2]
 rw [← hb1, ← hb2] at e1
 go_enter Tryz.func328, Tryz.ntmps328
 go_wp2_with (go_at_call 336; refine (k_nanS _ _).mono ?_; rintro e w' ⟨rfl, hw⟩; rw [hw])
 all_goals
  go_ret
  refine ⟨?_, rfl⟩
  first | rfl | (simp_all; done) | (cases b1 <;> cases b2 <;> simp_all)
set_option maxHeartbeats 1000000 in
theorem k_cmpLo (x y : Lo) (W : World) : Calls Tryz.prog 327 #[.agg #[.string x.good, .int .i64 x.count], .agg #[.string y.good, .int .i64 y.count]] W fun e w' => e = .returned (.int .i64 (cmpLo x y)) ∧ ∃ q os', w' = Sort.grow (W.drewN q) os' := by
 have hcon := fun W' => k_cmpS x.good y.good W'
 unfold cmpLo
 generalize cmpS x.good y.good = r at hcon ⊢
 go_enter Tryz.func327, Tryz.ntmps327
 go_wp2_with (go_at_call 328; refine (hcon _).mono ?_; rintro e w' ⟨rfl, rfl⟩)
 go_ret
 exact ⟨rfl, 0, _, by rw [Sort.alloc_eq_grow, Sort.alloc_eq_grow, Sort.grow_grow]; rfl⟩
theorem heap_sortedV {w : World} {g n : Nat} {os : Array Obj} {cur : Array Value} {e : TypeId} {fr : Nat × Nat} (d : Array Value) (hb : w.heap[g]? = some (.cells cur e fr)) :
  (Sort.grow (Sort.putRow id (Sort.ahead w n) g 0 d) os).heap[g]? = some (.cells (Sort.putCells id 0 d cur) e fr) := by
 have hg : g < w.heap.size := (Array.getElem?_eq_some_iff.1 hb).1
 rw [Sort.heap_grow_old _ _ (by simpa using hg)]
 simp [Sort.putRow, Sort.mapBlock, Sort.ahead, Array.getElem?_modify, hb, Sort.onCells]
theorem grownBy_sortedV {w : World} {g n : Nat} {os : Array Obj} (d : Array Value) : w.grownBy (Sort.grow (Sort.putRow id (Sort.ahead w n) g 0 d) os) (some g) := by
 refine ⟨rfl, rfl, rfl, by simp, fun k hk hne => ?_⟩
 rw [Sort.heap_grow_old _ _ (by simpa using hk)]
 have : g ≠ k := fun e => hne (by rw [e])
 simp [Sort.putRow, Sort.mapBlock, Sort.ahead, Array.getElem?_modify, this]
theorem take_putCellsV (cur : Array Value) (ts : Array Value) (h : ts.size ≤ cur.size) : (Sort.putCells id 0 ts cur).toList.take ts.size = ts.toList := by
 apply List.ext_getElem?
 intro j
 by_cases hj : j < ts.size
 ·rw [List.getElem?_take_of_lt hj, Array.getElem?_toList]
  simp [Sort.putCells, hj, show j < cur.size by omega]
 ·rw [List.getElem?_take_eq_none (by omega), List.getElem?_eq_none (by simp; omega)]
theorem flat_lo : ∀ L : List Lo, (L.flatMap encLo).length = L.length * 2
 | [] => rfl
 | x :: L => by rw [List.flatMap_cons, List.length_append, flat_lo L, List.length_cons]; show 2 + _ = _; omega
theorem flat_lo_at : ∀ (L : List Lo) (t : Nat) (h : t / 2 < L.length), (L.flatMap encLo)[t]? = (encLo (L[t / 2]'h))[t % 2]?
 | x :: L, 0, _ => rfl
 | x :: L, 1, _ => rfl
 | x :: L, t + 2, h => by
  have e1 : (t + 2) / 2 = t / 2 + 1 := by omega
  have e2 : (t + 2) % 2 = t % 2 := by omega
  have h' : t / 2 < L.length := by rw [e1] at h; simpa using h
  rw [List.flatMap_cons, List.getElem?_append_right (by show 2 ≤ _; omega)]
  show (L.flatMap encLo)[t + 2 - 2]? = _
  rw [Nat.add_sub_cancel, flat_lo_at L t h', e2]
  simp only [e1]
  rfl
theorem flatK_lo (L : List Lo) : (Sort.flatK encLo 2 L.toArray).toList = L.flatMap encLo := by
 apply List.ext_getElem?
 intro t
 rcases Nat.lt_or_ge t (L.length * 2) with h | h
 ·have h2 : t / 2 < L.length := by omega
  rw [flat_lo_at L t h2]
  have h3 : t < (Sort.flatK encLo 2 L.toArray).size := by simpa using h
  have h4 := Sort.get_flatK encLo 2 L.toArray t (by simpa using h)
  rw [Array.getElem?_toList, Array.getElem?_eq_getElem h3]
  rw [getElem!_pos _ t h3] at h4
  rw [h4]
  have h5 : t % 2 < (encLo L[t / 2]).length := by show t % 2 < 2; omega
  rw [List.getElem?_eq_getElem h5]
  have h6 : L.toArray[t / 2]! = L[t / 2] := by simp [h2]
  rw [h6, getElem!_pos (encLo (L[t / 2]'h2)) (t % 2) h5]
 ·rw [List.getElem?_eq_none (by simp; omega), List.getElem?_eq_none (by rw [flat_lo]; omega)]
structure SortLoOk (P : Program) (f g : Nat) : Prop where
 out : ∀ (A : Option Addr) (L : List Lo) (c : Nat) (w : World) (pub : Pub), L.length ≤ 2000000 → Own w 295 2 A L.length c (L.flatMap encLo) → (∀ b ∈ fpo A, pub b = 0) → (∀ b, w.heap.size ≤ b → pub b = 0) →
  Calls P f #[.slice A L.length c, .func (.func g) #[] #[]] w fun e w' => e = .returned (.tuple #[]) ∧ Fr (fun b => b ∈ fpo A) pub w pub w' ∧ ∃ L' : List Lo, L'.length = L.length ∧ (∀ x ∈ L', x ∈ L) ∧ Own w' 295 2 A L.length c (L'.flatMap encLo)
theorem sortLo_ok : SortLoOk Tryz.prog 326 327 := ⟨fun A L c w pub hp ho hpb hfresh => by
 rcases ho.cases_ with ⟨rfl, hl0, rfl, _⟩ | ⟨g, cur, rfl, hb, h1, h2, h3, h4⟩
 ·obtain rfl : L = [] := List.eq_nil_of_length_eq_zero hl0
  refine (AnyF.slices_SortFunc_none laysLot none 0 _ w).mono fun e w' h => ?_
  obtain ⟨rfl, rfl⟩ := h
  exact ⟨rfl, .refl _ _ _, [], rfl, (fun x h => nomatch h), ho⟩
 ·have hgp : pub g = 0 := hpb g (by simp)
  have hblk : g < w.heap.size := hb.lt
  have hH : Sort.HoldsK encLo 2 w g 0 L.toArray := by
   intro j hj
   have hj' : j < (L.flatMap encLo).length := by rw [flat_lo]; simpa using hj
   refine ⟨?_, hb.free _⟩
   rw [Nat.zero_add]
   have e1 := hb.all j
   rw [e1]
   have e2 : cur.toList[j]? = (L.flatMap encLo)[j]? := by rw [← h4, List.getElem?_take_of_lt (by rw [flat_lo] at hj'; omega)]
   rw [← Array.getElem?_toList, e2, ← flatK_lo, Array.getElem?_toList, Array.getElem?_eq_getElem (by simpa using hj)]
   show _ = some ((Sort.flatK encLo 2 L.toArray)[j]!)
   rw [getElem!_pos _ j hj]
  have eg : ∀ args w, (callFunc 327 args).run Tryz.prog w = .ok (.enter 327 args) w := Go.Proofs.enters_of Tryz.func327 (by kernel_rfl) rfl
  have hcmp : CmpLays Tryz.prog 327 #[] encLo 2 cmpLo g 0 L.toArray.size w := fun m os dk _ x y => k_cmpLo x y _
  have hcon := AnyQ.slices_SortFunc laysLot 2 Tryz.isAgg295 Tryz.sizeOf295 encLo (fun _ => rfl) (fun x v hv => by unfold encLo at hv; simp only [List.mem_cons, List.not_mem_nil, or_false] at hv; rcases hv with rfl | rfl <;> rfl) cmpLo swo_lo 327 #[] g 0 c L.toArray w eg hcmp hH hblk (by simp; omega)
  rw [List.size_toArray] at hcon
  change Calls Tryz.prog 326 _ _ _ at hcon
  refine hcon.mono fun e w' h => ?_
  obtain ⟨rfl, d', n, os, ⟨hsz, _, hpm⟩, _, rfl⟩ := h
  have hsz : d'.size = L.length := by simpa using hsz
  have hx1 : (d'.extract 0 L.length).toList = d'.toList := by rw [← hsz]; simp
  have hx2 : (L.toArray.extract 0 L.length).toList = L := by simp
  rw [hx1, hx2] at hpm
  have hw : sortWorldK encLo 2 w g 0 n d' os = Sort.grow (Sort.putRow id (Sort.ahead w n) g 0 (Sort.flatK encLo 2 d')) os := rfl
  rw [hw]
  obtain ⟨F, hF⟩ : ∃ F, F = Sort.flatK encLo 2 d' := ⟨_, rfl⟩
  have hFl : F.toList = d'.toList.flatMap encLo := by rw [hF, ← flatK_lo d'.toList]
  have hFs : F.size = L.length * 2 := by rw [hF, Sort.size_flatK, hsz]
  rw [← hF]
  have hgb := grownBy_sortedV (w := w) (g := g) (n := n) (os := os) F
  have hh := heap_sortedV (n := n) (os := os) F hb
  obtain ⟨w', hw'⟩ : ∃ w', w' = Sort.grow (Sort.putRow id (Sort.ahead w n) g 0 F) os := ⟨_, rfl⟩
  rw [← hw'] at hgb hh ⊢
  obtain ⟨g1, g2, g3, g4, g5⟩ := hgb
  have hkeep : ∀ b, b < w.heap.size → ¬ b = g → w'.heap[b]? = w.heap[b]? := fun b hb hn => g5 b hb fun e => hn (Option.some.inj e)
  have hcell : ∀ b i v, i < pub b → w.cell? ⟨b, i, none⟩ = some v → w'.cell? ⟨b, i, none⟩ = some v := fun b i v hi hv => by
   have hbs : b < w.heap.size := by
    rcases Nat.lt_or_ge b w.heap.size with h | h
    ·exact h
    ·rw [hfresh b h] at hi
     exact absurd hi (Nat.not_lt_zero _)
   have hbg : ¬ b = g := fun e => by
    subst e
    rw [hgp] at hi
    exact absurd hi (Nat.not_lt_zero _)
   have e := hkeep b hbs hbg
   unfold World.cell? at hv ⊢
   dsimp only at hv ⊢
   rw [e]
   exact hv
  refine ⟨rfl, ⟨g1, g2, g3, g4, fun b hb hn => ⟨hkeep b hb fun e => hn (by subst e; simp), rfl⟩, fun _ => Nat.le_refl _, hcell, fun b n hp hn => lenW_of (hkeep b (lenW_lt hn) fun e => by subst e; rw [hgp] at hp; exact absurd hp (Nat.lt_irrefl 0)) hn⟩, d'.toList, by rw [Array.length_toList, hsz], fun x hx => hpm.mem_iff.1 hx, ?_⟩
  refine Own.of_blk (cur := Sort.putCells id 0 F cur) hh h1 h2 (by simp [Sort.putCells, h3]) ?_
  rw [← hFs, take_putCellsV _ _ (by rw [hFs, h3]; omega)]
  exact hFl⟩
theorem lo_us {pub : Pub} {w : World} {r : Rho} : ∀ {L : List Lo} {us : List Value}, VRels pub w r ((mapA LoA L).flatMap AV.cells) us → us = L.flatMap encLo
 | [], us, h => h.nil_inv
 | ⟨g, c⟩ :: L, us, h => by
  have h' : VRels pub w r (.str g :: .int .i64 c :: (mapA LoA L).flatMap AV.cells) us := h
  obtain ⟨us', rfl, h2⟩ := h'.str_inv
  obtain ⟨us2, rfl, h3⟩ := h2.int_inv
  rw [lo_us h3]
  rfl
theorem us_lo {pub : Pub} {w : World} {r : Rho} : ∀ (L : List Lo), VRels pub w r ((mapA LoA L).flatMap AV.cells) (L.flatMap encLo)
 | [] => .nil
 | ⟨g, c⟩ :: L => by
  show VRels pub w r (.str g :: .int .i64 c :: (mapA LoA L).flatMap AV.cells) (.string g :: .int .i64 c :: L.flatMap encLo)
  exact .cons (.str _) (.cons (.int _ _) (us_lo L))
theorem callG_sortLo {P : Program} {f g : Nat} (hs : SortLoOk P f g) (k : Nat) (L : List Lo) {keep : List Nat} {st : St} {K : AV → St → Prop} (hk : st.H[k]? = some (.row 295 2 (mapA LoA L))) (hl : L.length ≤ 2000000) (hkeep : (keep.all fun j => j != k) = true)
  (hK : ∀ L' : List Lo, L'.length = L.length → (∀ x ∈ L', x ∈ L) → K (.tup []) ⟨st.T, st.H.set k (.row 295 2 (mapA LoA L'))⟩) : CallG P keep f [.hd k, .clo g []] st K := by
 refine ⟨fun C a w r pub vals h hv => ?_⟩
 obtain ⟨u, us', hvals, hu, hv2⟩ := hv.cons_inv
 obtain ⟨u2, us2, hvals2, hu2, hnil⟩ := hv2.cons_inv
 have hn0 := hnil.nil_inv
 subst hn0
 have hr : r k = some u := by cases hu with | hd h _ => exact h
 have hc2 : u2 = .func (.func g) #[] #[] := by
  cases hu2 with
  | clo f hl h =>
   rename_i a
   have : a = #[] := Array.eq_empty_of_size_eq_zero (by simpa using hl)
   rw [this]
 subst hc2
 obtain rfl : vals = #[u, .func (.func g) #[] #[]] := Array.toList_inj.1 (by rw [hvals, hvals2])
 obtain ⟨A, c, us, hrk, ho, hcs, hst, hpb⟩ := h.ent_row hk
 rw [hr] at hrk
 cases hrk
 have hus := lo_us hcs
 subst hus
 rw [mapA_len] at ho hr ⊢
 refine (hs.out A L c w pub hl ho hpb h.mod.fresh).mono fun e w' hw => ?_
 obtain ⟨rfl, hf, L', hL', hmem, ho'⟩ := hw
 have hE : ERel pub w' r (some (.slice A (mapA LoA L').length c)) (.row 295 2 (mapA LoA L')) := by
  refine .row (us := L'.flatMap encLo) (by rw [mapA_len, hL']; exact ho') (us_lo _) (fun x hx => ?_) hpb
  rw [mapA_eq] at hx
  obtain ⟨⟨g, c⟩, _, rfl⟩ := List.mem_map.1 hx
  exact ⟨rfl, rfl⟩
 rw [mapA_len, hL'] at hE
 refine ⟨_, _, _, r, pub, rfl, .tup rfl (fun i x v hx _ => by cases hx), hK L' hL' hmem, ⟨h.mod.set hr hf (fun b hb => hb) (fun b hb => h.mod.fresh b (Nat.le_trans hf.size hb)) (fun b i hi => ?_) hE, h.own, h.fr.trans hf (fun b hb => h.own k _ hr b hb), h.slots.ext hf.ext, h.defers, h.size, h.stab, ⟨h.low.1, by simpa using h.low.2⟩⟩, hf.ext, fun j hj => ⟨rfl, fun y hy b hb => ?_⟩⟩
 ·obtain ⟨v, hv⟩ := h.mod.there b i hi
  exact ⟨v, hf.ext.cell b i v hi hv⟩
 ·have hjk : j ≠ k := by
   have := List.all_eq_true.1 hkeep j hj
   simpa using this
  exact (hf.keep b (h.mod.foot_lt hy b hb) fun hbA => h.mod.disj j k y _ hjk hy hr b hb hbA).1
set_option maxHeartbeats 8000000
def CtM : ByteArray × Int → AV × AV
 | (k, v) => (.str k, .i v)
theorem findA_ct (s : ByteArray) : ∀ (A : List (ByteArray × Int)) (i : Nat), (∃ j v, findA (.str s) (mapA CtM A) i = some (some (i + j)) ∧ A[j]? = some (s, v)) ∨ (findA (.str s) (mapA CtM A) i = some none ∧ ∀ p ∈ A, p.1 ≠ s)
 | [], i => .inr ⟨rfl, fun p h => nomatch h⟩
 | (k, v) :: A, i => by
  have e : mapA CtM ((k, v) :: A) = (.str k, .i v) :: mapA CtM A := rfl
  rw [e]
  unfold findA
  by_cases h : k = s
  ·have h2 : keyIs (.str s) (.str k) = some true := by rw [h]; show some (s == s) = _; rw [(MapKept.bytes_beq s s).2 rfl]
   rw [h2]
   exact .inl ⟨0, v, rfl, by rw [h]; rfl⟩
  ·have h2 : keyIs (.str s) (.str k) = some false := by
    show some (s == k) = _
    rw [show (s == k) = false from Bool.eq_false_iff.2 fun hb => h ((MapKept.bytes_beq s k).1 hb).symm]
   rw [h2]
   dsimp only
   rcases findA_ct s A (i + 1) with ⟨j, v2, h1, h3⟩ | ⟨h1, h3⟩
   ·exact .inl ⟨j + 1, v2, by rw [h1]; congr 2; omega, by simpa using h3⟩
   ·refine .inr ⟨h1, fun p hp => ?_⟩
    rcases List.mem_cons.1 hp with rfl | hp
    ·exact h
    ·exact h3 p hp
theorem findK_ct {s : ByteArray} {A : List (ByteArray × Int)} {K : Option (Nat × AV) → Prop} (hs : ∀ (i : Nat) (v : Int), A[i]? = some (s, v) → K (some (i, .i v))) (hn : (∀ p ∈ A, Prod.fst p ≠ s) → K none) : FindK (.str s) (mapA CtM A) K := by
 rcases findA_ct s A 0 with ⟨j, v, h1, h2⟩ | ⟨h1, h2⟩
 ·refine ⟨.inl ⟨j, .str s, .i v, by rw [h1, Nat.zero_add], ?_, hs j v h2⟩⟩
  rw [mapA_eq, List.getElem?_map, h2]
  rfl
 ·exact ⟨.inr ⟨h1, hn h2⟩⟩
structure LoOk (l : List Lo) : Prop where
 n : l.length ≤ 524288
 g : ∀ x ∈ l, x.good.size ≤ 1048576
 c : ∀ x ∈ l, i64 x.count
structure CtOk (m : Nat) (E : List (ByteArray × Int)) : Prop where
 n : E.length ≤ m
 g : ∀ p ∈ E, p.1.size ≤ 1048576
 c : ∀ p ∈ E, i64 p.2
theorem wrap_i64 (z : Int) : i64 (IntKind.i64.wrap z) := by
 unfold i64 IntKind.wrap
 simp [IntKind.bits, IntKind.signed]
 omega
def CountsC : Ctr := specN (fun l : List Lo => [.sl 2 (mapA LoA l)]) (fun _ => []) LoOk (fun l (E : List (ByteArray × Int)) => CtOk l.length E) (fun _ _ => .hd 0) fun _ E => [.map 349 (mapA CtM E)]
structure CtI (l : List Lo) where
 E : List (ByteArray × Int)
 k : Nat
 hk : k ≤ l.length
 ok : CtOk k E
theorem ct_set {m : Nat} {E : List (ByteArray × Int)} (h : CtOk m E) {i : Nat} {s : ByteArray} {v w : Int} (hi : E[i]? = some (s, v)) (hw : i64 w) : CtOk (m + 1) (E.set i (s, w)) := by
 have hm := List.mem_of_getElem? hi
 refine ⟨by rw [List.length_set]; exact Nat.le_succ_of_le h.n, fun p hp => ?_, fun p hp => ?_⟩
 ·rcases List.mem_or_eq_of_mem_set hp with hp | rfl
  ·exact h.g p hp
  ·exact (show s.size ≤ 1048576 from h.g (s, v) hm)
 ·rcases List.mem_or_eq_of_mem_set hp with hp | rfl
  ·exact h.c p hp
  ·exact hw
theorem ct_app {m : Nat} {E : List (ByteArray × Int)} (h : CtOk m E) {s : ByteArray} {w : Int} (hs : s.size ≤ 1048576) (hw : i64 w) : CtOk (m + 1) (E ++ [(s, w)]) := by
 refine ⟨by rw [List.length_append]; exact Nat.succ_le_succ h.n, fun p hp => ?_, fun p hp => ?_⟩
 ·rcases List.mem_append.1 hp with hp | hp
  ·exact h.g p hp
  ·rw [List.mem_singleton.1 hp]; exact hs
 ·rcases List.mem_append.1 hp with hp | hp
  ·exact h.c p hp
  ·rw [List.mem_singleton.1 hp]; exact hw
theorem ct_same {m : Nat} {E : List (ByteArray × Int)} (h : CtOk m E) : CtOk (m + 1) E := ⟨Nat.le_succ_of_le h.n, h.g, h.c⟩
theorem ct_mapset (E : List (ByteArray × Int)) (i : Nat) (x : ByteArray × Int) : (mapA CtM E).set i (CtM x) = mapA CtM (E.set i x) := by rw [mapA_eq, mapA_eq, List.map_set]
theorem counts_body (P : Program) : BodyOk P x319 CountsC := by
 intro args H K hcc
 obtain ⟨l, rfl, rfl, ⟨hn, hg, hc⟩, hK⟩ := hcc
 refine ⟨nb9, ?_⟩
 try dsimp only at hn hg hc hK
 obtain ⟨n, hnl⟩ : ∃ n, n = l.length := ⟨_, rfl⟩
 cbv; repeat' ((first | refine .k fun z hz => ?_ | fail) <;> cbv)
 refine xloopV [0] (fun p : CtI l => [(3, .hd 0), (9, .i (nI p.k))]) (fun p => [.map 349 (mapA CtM p.E)]) (fun p => lft n p.k) ⟨[], 0, Nat.zero_le _, ⟨Nat.le_refl _, (fun p h => nomatch h), (fun p h => nomatch h)⟩⟩ ?_
 rintro ⟨E, k, hk, hok⟩
 try dsimp only at hk hok ⊢
 rcases Nat.lt_or_ge k l.length with hks | hks
 ·obtain ⟨⟨good, count⟩, hx⟩ := some_at hks
  have hgs := hg _ (List.mem_of_getElem? hx)
  have hcs := hc _ (List.mem_of_getElem? hx)
  try dsimp only at hgs hcs
  cbv; repeat' ((first | refine .e ?_ | refine .y fun h => ?_ | refine .mk (fun h => ?_) fun h => ?_ | refine .k fun z hz => ?_ | fail) <;> cbv)
  ·refine findK_ct (s := good) (A := E) (fun i v hv => ?_) (fun hno => ?_)
   ·cbv; repeat' ((first | (first | fail) | refine AddK.w fun z hz => ?_) <;> cbv)
    refine findK_ct (s := good) (A := E) (fun i2 v2 hv2 => ?_) (fun hno => absurd rfl (hno _ (List.mem_of_getElem? hv)))
    cbv; repeat' ((first | (first | refine .k fun z hz => ?_ | refine .ms fun ms hms => ?_ | fail) | refine AddK.w fun z hz => ?_) <;> cbv)
    obtain rfl : z = nI (k + 1) := om9
    have hi : i64 z := by (have e := ‹z = IntKind.i64.wrap _›; rw [e]; exact wrap_i64 _)
    obtain ⟨E2, hE2⟩ : ∃ E2, E2 = E.set i2 (good, z) := ⟨_, rfl⟩
    obtain rfl : ms = mapA CtM E2 := by rw [hms, hE2, ← ct_mapset]; rfl
    exact roundV ⟨E2, k + 1, by exact om9, by rw [hE2]; exact ct_set hok hv2 hi⟩ (lft_lt om9)
   ·cbv; repeat' ((first | (first | fail) | refine AddK.w fun z hz => ?_) <;> cbv)
    refine findK_ct (s := good) (A := E) (fun i2 v2 hv2 => absurd rfl (hno _ (List.mem_of_getElem? hv2))) (fun _ => ?_)
    cbv; repeat' ((first | (first | refine .k fun z hz => ?_ | refine .ms fun ms hms => ?_ | fail) | refine AddK.w fun z hz => ?_) <;> cbv)
    obtain rfl : z = nI (k + 1) := om9
    have hi : i64 z := by (have e := ‹z = IntKind.i64.wrap _›; rw [e]; exact wrap_i64 _)
    obtain ⟨E2, hE2⟩ : ∃ E2, E2 = E ++ [(good, z)] := ⟨_, rfl⟩
    obtain rfl : ms = mapA CtM E2 := by rw [hms, hE2, mapA_app, mapA_one]; rfl
    exact roundV ⟨E2, k + 1, by exact om9, by rw [hE2]; exact ct_app hok hgs hi⟩ (lft_lt om9)
  ·obtain rfl : z = nI (k + 1) := om9
   exact roundV ⟨E, k + 1, by exact om9, ct_same hok⟩ (lft_lt om9)
 ·have hke : k = l.length := by omega
  have hK := hK E (by rw [← hke]; exact hok)
  cbv; repeat' ((first | refine .n fun h => ?_ | fail) <;> cbv)
  (refine .r9 (Gh.refl _) ?_; cbv; exact .inl (.f9 hK))
theorem nxtM_ct {L : List (ByteArray × Int)} {since : Nat} {seen : List Nat} {K : Nat → AV → AV → Prop} {D : Unit → Prop} (hs : since = L.length) (h : ∀ i s v, L[i]? = some (s, v) → i ∉ seen → K i (.str s) (.i v)) (hd : (∀ i, i < L.length → i ∈ seen) → D ()) : NxtM (mapA CtM L) since seen K D := by
 refine ⟨by rw [mapA_len]; exact hs, fun i k v he hn => ?_, fun h => hd fun i hi => h i (by rw [mapA_len]; exact hi)⟩
 rw [mapA_eq, List.getElem?_map] at he
 cases hy : L[i]? with
 | none => rw [hy] at he; cases he
 | some y =>
  obtain ⟨s, c⟩ := y
  rw [hy] at he
  cases he
  exact h i s c hy hn
theorem entM_ct {L : List (ByteArray × Int)} {since i : Nat} {seen s : List Nat} {x : ByteArray} {v : Int} {K : AV → AV → Prop} (e : s = seen ++ [i]) (hs : since = L.length) (hx : L[i]? = some (x, v)) (h : K (.str x) (.i v)) : EntM (mapA CtM L) since s K := by
 subst e
 exact ⟨i, .str x, .i v, by rw [mapA_len]; exact hs, by simp, by rw [mapA_eq, List.getElem?_map, hx]; rfl, h⟩
structure SeenI (n : Nat) (seen : List Nat) : Prop where
 nd : seen.Nodup
 lt : ∀ i ∈ seen, i < n
theorem SeenI.len {n : Nat} {seen : List Nat} (h : SeenI n seen) : seen.length ≤ n := by
 have := (List.nodup_range (n := n))
 have h2 := h.nd.length_le_of_subset (l₂ := List.range n) fun i hi => List.mem_range.2 (h.lt i hi)
 rwa [List.length_range] at h2
theorem SeenI.snoc {n i : Nat} {seen : List Nat} (h : SeenI n seen) (hi : i < n) (hn : i ∉ seen) : SeenI n (seen ++ [i]) := by
 refine ⟨?_, fun j hj => ?_⟩
 ·rw [List.nodup_append]
  exact ⟨h.nd, by simp, fun a ha b hb e => by obtain rfl := List.mem_singleton.1 hb; subst e; exact hn ha⟩
 ·rcases List.mem_append.1 hj with h1 | h1
  ·exact h.lt j h1
  ·obtain rfl := List.mem_singleton.1 h1; exact hi
structure RiI (E : List (ByteArray × Int)) (n : Nat) where
 seen : List Nat
 L : List Lo
 k : Nat
 hs : SeenI n seen
 hk : k = seen.length
 hl : L.length = seen.length
 ok : ∀ x ∈ L, x.good.size ≤ 1048576 ∧ i64 x.count
structure LoO (m : Nat) (L : List Lo) : Prop where
 n : L.length ≤ m
 g : ∀ x ∈ L, x.good.size ≤ 1048576 ∧ i64 x.count
def RisingC : Ctr := specN (fun _ : List (ByteArray × Int) => [.hd 0]) (fun E => [.map 349 (mapA CtM E)]) (fun E => CtOk 524288 E) (fun E (L : List Lo) => LoO E.length L) (fun _ L => .sl 2 (mapA LoA L)) fun E _ => [.map 349 (mapA CtM E)]
theorem rising_body (P : Program) (hs : SortLoOk P 326 327) : BodyOk P x318 RisingC := by
 intro args H K hcc
 obtain ⟨E, rfl, rfl, ⟨hn, hg, hc⟩, hK⟩ := hcc
 refine ⟨nb9, ?_⟩
 try dsimp only at hn hg hc hK
 obtain ⟨nn, hnn⟩ : ∃ n : Nat, n = E.length := ⟨_, rfl⟩
 cbv; repeat' ((first | refine .k fun z hz => ?_ | fail) <;> cbv)
 obtain rfl : z = nI nn := om9
 refine xloopG (Gh.adopt 3 295 2 rfl) ?_
 cbv
 refine xloopV [2] (fun q : RiI E nn => [(3, .hd 2)]) (fun q => [.map 349 (mapA CtM E), .iter (.hd 0) nn q.seen, .row 295 2 (mapA LoA q.L)]) (fun q => lft (nn + 1) q.k) ⟨[], [], 0, ⟨.nil, fun i hi => by cases hi⟩, rfl, rfl, fun x h => nomatch h⟩ ?_
 rintro ⟨seen, L, k, hse, hk, hl, hok⟩
 try dsimp only at hse hk hl hok ⊢
 have hsl := hse.len
 cbv
 refine nxtM_ct hnn (fun i s v hx hni => ?_) (fun hall => ?_)
 ·have hil := (List.getElem?_eq_some_iff.1 hx).1
  have hse2 := hse.snoc (by omega) hni
  obtain ⟨s2, hs2⟩ : ∃ s, s = seen ++ [i] := ⟨_, rfl⟩
  rw [← hs2] at hse2 ⊢
  have hsk : s2.length = k + 1 := by rw [hs2, hk]; simp
  have hgs := hg _ (List.mem_of_getElem? hx)
  have hcs := hc _ (List.mem_of_getElem? hx)
  try dsimp only at hgs hcs
  have hlt : k < nn + 1 := by omega
  cbv
  refine entM_ct hs2 hnn hx ?_
  cbv; repeat' ((first | refine .zl fun zs hzs hzl => ?_ | fail) <;> cbv)
  obtain ⟨L2, hL2⟩ : ∃ L2, L2 = L ++ [(⟨s, v⟩ : Lo)] := ⟨_, rfl⟩
  have hL2n : L2.length = s2.length := by rw [hL2, List.length_append, hl, hsk, hk]; rfl
  have hok2 : ∀ x ∈ L2, x.good.size ≤ 1048576 ∧ i64 x.count := fun x hx => by
   rw [hL2] at hx
   rcases List.mem_append.1 hx with hx | hx
   ·exact hok x hx
   ·rw [List.mem_singleton.1 hx]; exact ⟨hgs, hcs⟩
  obtain rfl : zs = mapA LoA L2 := by rw [hL2, mapA_app, mapA_one]; exact hzs
  exact roundV ⟨s2, L2, k + 1, hse2, hsk.symm, hL2n, hok2⟩ (lft_lt hlt)
 ·cbv
  refine callG_sortLo hs 2 L rfl (by omega) rfl fun L' hL' hm' => ?_
  have hK := hK L' ⟨by omega, fun x hx => hok x (hm' x hx)⟩
  cbv
  (refine .r9 (Gh.plain 2 rfl) ?_; cbv; exact .inl (.g9 hK))
def LJoinC : Ctr := specN (fun l : List Lo => [.sl 2 (mapA LoA l)]) (fun _ => []) LoOk (fun l (L : List Lo) => LoO l.length L) (fun _ L => .sl 2 (mapA LoA L)) fun _ _ => []
theorem ljoin_body (P : Program) (hc : FnOk P 319 CountsC) (hr : FnOk P 318 RisingC) : BodyOk P x297 LJoinC := by
 intro args H K hcc
 obtain ⟨l, rfl, rfl, hp, hK⟩ := hcc
 refine ⟨nb9, ?_⟩
 try dsimp only at hK
 have hpn := hp.n
 cbv
 refine callG_specN hc l [] hp rfl rfl (by decide) rfl rfl rfl rfl rfl fun E hE => ?_
 have hEn := hE.n
 cbv
 refine callG_specN hr E [0] ⟨by omega, hE.g, hE.c⟩ rfl rfl (by decide) rfl rfl rfl rfl rfl fun L hL => ?_
 have hK := hK L ⟨by have := hL.n; omega, hL.g⟩
 cbv
 (refine .r9 (Gh.refl _) ?_; cbv; exact .inl (.f9 hK))
def allLo (l : List Bx) : List Lo := l.flatMap Bx.lots
def ContC : Ctr := specN (fun l : List Bx => [.sl 3 (mapA BxA l)]) (fun _ => []) (fun l => l.length ≤ 1048576 ∧ LoOk (allLo l)) (fun l (L : List Lo) => LoO (allLo l).length L) (fun _ L => .sl 2 (mapA LoA L)) fun _ _ => []
theorem content_body (P : Program) (hj : FnOk P 297 LJoinC) : BodyOk P x252 ContC := by
 intro args H K hcc
 obtain ⟨l, rfl, rfl, ⟨hl, hp⟩, hK⟩ := hcc
 refine ⟨nb9, ?_⟩
 try dsimp only at hl hp hK
 have hml := mapA_len BxA l
 have hpn := hp.n
 obtain ⟨n, hn⟩ : ∃ n, n = l.length := ⟨_, rfl⟩
 have hall : ∀ k, (allLo (l.take k)).length ≤ (allLo l).length := fun k => by
  have e : allLo l = allLo (l.take k) ++ allLo (l.drop k) := by
   unfold allLo
   rw [← List.flatMap_append, List.take_append_drop]
  rw [e, List.length_append]
  omega
 cbv; repeat' ((first | refine .k fun z hz => ?_ | fail) <;> cbv)
 refine xloopG (Gh.adopt 3 295 2 rfl) ?_
 cbv
 refine xloopV [0] (fun q : { q : Nat × List Lo // q.1 ≤ n ∧ q.2 = allLo (l.take q.1) } => [(3, .hd 0), (8, .i (nI q.1.1))]) (fun q => [.row 295 2 (mapA LoA q.1.2)]) (fun q => lft n q.1.1) ⟨(0, []), Nat.zero_le _, rfl⟩ ?_
 rintro ⟨⟨k, L⟩, hk, hL⟩
 try dsimp only at hk hL ⊢
 have hLn := hall k
 rw [← hL] at hLn
 rcases Nat.lt_or_ge k l.length with hks | hks
 ·obtain ⟨⟨mark, kind, lots⟩, hx⟩ := some_at hks
  have hnx : allLo (l.take (k + 1)) = L ++ lots := by rw [take_some hx, hL]; unfold allLo; rw [List.flatMap_append]; simp
  have hLn2 := hall (k + 1)
  rw [hnx, List.length_append] at hLn2
  have hml2 := mapA_len LoA lots
  have hml3 := mapA_len LoA L
  cbv; repeat' ((first | refine .e ?_ | refine .y fun h => ?_ | refine .k fun z hz => ?_ | refine .l fun ys hys hyl => ?_ | fail) <;> cbv)
  obtain rfl : z = nI (k + 1) := om9
  have hy2 : ys = allLo (l.take (k + 1)) := by rw [hnx]; exact hys
  exact roundV ⟨(k + 1, ys), by exact om9, hy2⟩ (lft_lt om9)
 ·have hke : k = l.length := by omega
  rw [hke, List.take_length] at hL
  have hp2 : LoOk L := by rw [hL]; exact hp
  rw [← hL] at hK
  cbv; repeat' ((first | refine .n fun h => ?_ | fail) <;> cbv)
  refine callG_plain 0 rfl ?_
  cbv
  refine callG_specN hj L [] hp2 rfl rfl (by decide) rfl rfl rfl rfl rfl fun L3 hL3 => ?_
  have hK := hK L3 hL3
  cbv
  (refine .r9 (Gh.refl _) ?_; cbv; exact .inl (.f9 hK))
def SizeC : Ctr := specN (fun k : Int => [.i k]) (fun _ => []) (fun _ => True) (fun _ (s : ByteArray) => s.size ≤ 5) (fun _ s => .str s) fun _ _ => []
theorem size_body (P : Program) : BodyOk P x251 SizeC := by
 intro args H K hcc
 obtain ⟨k, rfl, rfl, _, hK⟩ := hcc
 refine ⟨nb9, ?_⟩
 try dsimp only at hK
 have h1 := hK ⟨#[115, 109, 97, 108, 108]⟩ (by decide)
 have h2 := hK ⟨#[108, 97, 114, 103, 101]⟩ (by decide)
 have h3 := hK ⟨#[111, 116, 104, 101, 114]⟩ (by decide)
 cbv; repeat' ((first | refine .mk (fun h => ?_) fun h => ?_ | fail) <;> cbv)
 all_goals first | (refine .r9 (Gh.refl _) ?_; cbv; exact .inl (.f9 h1)) | (refine .r9 (Gh.refl _) ?_; cbv; exact .inl (.f9 h2)) | (refine .r9 (Gh.refl _) ?_; cbv; exact .inl (.f9 h3))
structure OxB (k : OX) : Prop where
 x : k.xs = bytA k.o
 z : k.o.size ≠ 0
 l : k.o.size ≤ 8796093022208
def TellPC : Ctr := specN (fun i : List Lo × OX => [.sl 2 (mapA LoA i.1), .ptr 0 0]) (fun i => BldT i.2.xs) (fun i => LoOk i.1 ∧ OxB i.2) (fun i k => OxTo (i.2.o.size + i.1.length * 1048600 + 1) k) (fun _ _ => .tup []) fun _ k => BldT k.xs
structure TeI (l : List Lo) (z0 : Nat) where
 k : Nat
 o : ByteArray
 xs : List AV
 hk : k ≤ l.length
 x : xs = bytA o
 z : o.size ≠ 0
 l : o.size ≤ z0 + k * 1048600
theorem tellP_body (P : Program) (hi : FnOk P 109 ItoC) (hw : FnOk P 56 WrC) (hb : FnOk P 250 (WbC 10)) : BodyOk P x249 TellPC := by
 intro args H K hcc
 obtain ⟨⟨l, ⟨o0, xs0⟩⟩, rfl, rfl, ⟨⟨hn, hg, hc⟩, ⟨hx0, hz0, hl0⟩⟩, hK⟩ := hcc
 refine ⟨nb9, ?_⟩
 try dsimp only at hn hg hc hx0 hz0 hl0 hK
 have hml := mapA_len LoA l
 have s1 : (ByteArray.mk #[32]).size = 1 := rfl
 have s2 : (ByteArray.mk #[58]).size = 1 := rfl
 obtain ⟨n, hnn⟩ : ∃ n, n = l.length := ⟨_, rfl⟩
 obtain ⟨z0, hz00⟩ : ∃ n, n = o0.size := ⟨_, rfl⟩
 cbv; repeat' ((first | refine .k fun z hz => ?_ | fail) <;> cbv)
 refine xloopV [1] (fun q : TeI l z0 => [(1, .ptr 0 0), (7, .i (nI q.k))]) (fun q => [.blk 133 [.ptr 0 0, .hd 1], .row 5 1 q.xs]) (fun q => lft n q.k) ⟨0, o0, xs0, Nat.zero_le _, hx0, hz0, by omega⟩ ?_
 rintro ⟨k, o, xs, hk, hx, hz, hl⟩
 try dsimp only at hk hx hz hl ⊢
 rcases Nat.lt_or_ge k l.length with hks | hks
 ·obtain ⟨⟨good, count⟩, hxx⟩ := some_at hks
  have hgs := hg _ (List.mem_of_getElem? hxx)
  have hcs := hc _ (List.mem_of_getElem? hxx)
  try dsimp only at hgs hcs
  have hiz := itoZ_sz count hcs
  obtain ⟨w, hw1⟩ : ∃ w, w = itoZ count := ⟨_, rfl⟩
  rw [← hw1] at hiz
  cbv; repeat' ((first | refine .e ?_ | refine .y fun h => ?_ | refine .u fun u hu hul => ?_ | fail) <;> cbv)
  (refine c09 hi count hcs ?_; try dsimp only)
  rw [← hw1]
  cbv; repeat' ((first | refine .u fun u hu hul => ?_ | fail) <;> cbv)
  refine callG_specN hw (⟨o, xs, u⟩ : BI) [0, 1] ⟨hx, hz, (show u.size ≠ 0 by omega), (show o.size + u.size ≤ 140737488355328 by omega)⟩ rfl rfl (by decide) rfl rfl rfl rfl rfl fun ys hys => ?_
  obtain ⟨o2, ho2⟩ : ∃ o2, o2 = o ++ u := ⟨_, rfl⟩
  have hz2 : o2.size = o.size + u.size := by rw [ho2]; exact ByteArray.size_append
  replace hys : ys = bytA o2 := by rw [ho2]; exact hys
  cbv; repeat' ((first | refine .k fun z hz => ?_ | fail) <;> cbv)
  obtain rfl : z = nI (k + 1) := om9
  exact roundV ⟨k + 1, o2, ys, by exact om9, hys, by omega, by omega⟩ (lft_lt om9)
 ·have hke : k = l.length := by omega
  rw [hke] at hl
  cbv; repeat' ((first | refine .n fun h => ?_ | fail) <;> cbv)
  refine callG_specN hb (⟨o, xs, 10⟩ : BBI) [0, 1] ⟨⟨hx, hz, (show o.size + 1 ≤ 140737488355328 by omega)⟩, rfl⟩ rfl rfl (by decide) rfl rfl rfl rfl rfl fun ys hys => ?_
  obtain ⟨o2, ho2⟩ : ∃ o2, o2 = o ++ ⟨#[10]⟩ := ⟨_, rfl⟩
  have hz2 : o2.size = o.size + 1 := by rw [ho2]; exact ByteArray.size_append
  replace hys : ys = bytA o2 := by rw [ho2]; exact hys
  have hK := hK ⟨o2, ys⟩ ⟨hys, by (try dsimp only); omega, by (try dsimp only); omega⟩
  cbv
  (refine .r9 (Gh.refl _) ?_; cbv; exact .inl (.f9 hK))
theorem lo_len : ∀ l : List Lo, 3 * l.length ≤ loW l
 | [] => Nat.le_refl _
 | x :: l => by
  have := lo_len l
  have e : loW (x :: l) = x.good.size + 3 + loW l := by unfold loW; rw [List.map_cons, List.sum_cons]
  rw [e, List.length_cons]
  omega
theorem lo_mem : ∀ (l : List Lo) (x : Lo), x ∈ l → x.good.size + 3 ≤ loW l
 | y :: l, x, h => by
  have e : loW (y :: l) = y.good.size + 3 + loW l := by unfold loW; rw [List.map_cons, List.sum_cons]
  rcases List.mem_cons.1 h with rfl | h
  ·omega
  ·have := lo_mem l x h; omega
theorem boW_cons (b : Bx) (l : List Bx) : boW (b :: l) = b.mark.size + 3 + loW b.lots + boW l := by unfold boW; rw [List.map_cons, List.sum_cons]
theorem boW_app (l m : List Bx) : boW (l ++ m) = boW l + boW m := by unfold boW; rw [List.map_append, List.sum_append]
theorem bo_mem : ∀ (l : List Bx) (b : Bx), b ∈ l → b.mark.size + 3 + loW b.lots ≤ boW l
 | y :: l, b, h => by
  rw [boW_cons]
  rcases List.mem_cons.1 h with rfl | h
  ·omega
  ·have := bo_mem l b h; omega
theorem bo_len : ∀ l : List Bx, 3 * l.length ≤ boW l
 | [] => Nat.le_refl _
 | x :: l => by
  have := bo_len l
  rw [boW_cons, List.length_cons]
  omega
theorem bo_all : ∀ l : List Bx, 3 * (allLo l).length ≤ boW l
 | [] => Nat.le_refl _
 | x :: l => by
  have := bo_all l
  have h2 := lo_len x.lots
  have e : allLo (x :: l) = x.lots ++ allLo l := by unfold allLo; rw [List.flatMap_cons]
  rw [boW_cons, e, List.length_append]
  omega
theorem lo_ok {l : List Bx} (h : BxW l) {b : Bx} (hb : b ∈ l) : LoOk b.lots := by
 have h1 := bo_mem l b hb
 have h2 := lo_len b.lots
 have h3 := h.w
 exact ⟨by omega, fun x hx => by have := lo_mem _ x hx; omega, fun x hx => h.c b hb x hx⟩
theorem all_ok {l : List Bx} (h : BxW l) : LoOk (allLo l) := by
 have h1 := bo_all l
 have h3 := h.w
 refine ⟨by omega, fun x hx => ?_, fun x hx => ?_⟩
 ·obtain ⟨b, hb, hx⟩ := List.mem_flatMap.1 hx
  exact (lo_ok h hb).g x hx
 ·obtain ⟨b, hb, hx⟩ := List.mem_flatMap.1 hx
  exact h.c b hb x hx
inductive LiS : AV → ByteArray → List AV → Nat → Nat → Prop
 | e {m : Nat} : LiS (.v (.pointer none)) ⟨#[]⟩ [] 0 m
 | t {o : ByteArray} {xs : List AV} {k m : Nat} (h : OxTo m ⟨o, xs⟩) : 0 < k → LiS (.ptr 0 0) o xs k m
structure LiI (l : List Bx) where
 k : Nat
 sl : AV
 o : ByteArray
 xs : List AV
 hk : k ≤ l.length
 h : LiS sl o xs k (boW (l.take k) * 1048600)
structure ListF (P : Program) : Prop where
 ml : MayCall P 249
 tl : FnOk P 249 TellPC
 sz : FnOk P 251 SizeC
 ct : FnOk P 252 ContC
 we : FnOk P 56 WrEC
 wt : FnOk P 56 WrC
 st : FnOk P 62 StrTC
theorem list_body (P : Program) (F : ListF P) : BodyOk P x174 ListC := by
 intro args H K hcc
 obtain ⟨l, rfl, rfl, hp, hK⟩ := hcc
 refine ⟨nb9, ?_⟩
 try dsimp only at hK
 have hpw := hp.w
 have hbl := bo_len l
 have hal := bo_all l
 have hml := mapA_len BxA l
 have s1 : (ByteArray.mk #[32]).size = 1 := rfl
 obtain ⟨n, hnn⟩ : ∃ n, n = l.length := ⟨_, rfl⟩
 cbv; repeat' ((first | refine .k fun z hz => ?_ | fail) <;> cbv)
 refine xloopG (Gh.adoptC 0 1 5 1 rfl rfl) ?_
 cbv
 refine xloopV [0, 1] (fun q : LiI l => [(3, .ptr 0 0), (4, .clo 249 [.ptr 0 0]), (10, .i (nI q.k))]) (fun q => [.blk 133 [q.sl, .hd 1], .row 5 1 q.xs]) (fun q => lft n q.k) ⟨0, .v (.pointer none), ⟨#[]⟩, [], Nat.zero_le _, .e⟩ ?_
 rintro ⟨k, sl, o, xs, hk, h⟩
 try dsimp only at hk h ⊢
 rcases Nat.lt_or_ge k l.length with hks | hks
 ·obtain ⟨⟨mark, kind, lots⟩, hx⟩ := some_at hks
  have hm := List.mem_of_getElem? hx
  have hlo := lo_ok hp hm
  have hbm := bo_mem l _ hm
  have hw1 := lo_len lots
  dsimp only at hlo hbm
  have htk : boW (l.take (k + 1)) = boW (l.take k) + (mark.size + 3 + loW lots) := by
   rw [take_some hx, boW_app, boW_cons]; rfl
  have htl : boW (l.take (k + 1)) ≤ boW l := by
   have e : l = l.take (k + 1) ++ l.drop (k + 1) := (List.take_append_drop _ _).symm
   have := boW_app (l.take (k + 1)) (l.drop (k + 1))
   rw [← e] at this
   omega
  cases h with
  | e =>
   cbv; repeat' ((first | refine .e ?_ | refine .y fun h => ?_ | refine .u fun u hu hul => ?_ | fail) <;> cbv)
   refine callG_specN F.sz kind [] trivial rfl rfl (by decide) rfl rfl rfl rfl rfl fun t ht => ?_
   cbv; repeat' ((first | refine .u fun u hu hul => ?_ | fail) <;> cbv)
   refine callG_specN F.we u [0, 1] ⟨by omega, by omega⟩ rfl rfl (by decide) rfl rfl rfl rfl rfl fun ys hys => ?_
   cbv; repeat' ((first | refine And.intro ?_ ?_ | fail) <;> cbv)
   ·exact F.ml
   refine callG_specN F.tl ((lots, ⟨u, ys⟩) : List Lo × OX) [0, 1] ⟨hlo, hys, (show u.size ≠ 0 by omega), (show u.size ≤ 8796093022208 by omega)⟩ rfl rfl (by decide) rfl rfl rfl rfl rfl fun k2 hk2 => ?_
   obtain ⟨o3, xs3⟩ := k2
   cbv; repeat' ((first | refine .k fun z hz => ?_ | fail) <;> cbv)
   obtain rfl : z = nI (0 + 1) := om9
   exact roundV ⟨0 + 1, .ptr 0 0, o3, xs3, by exact om9, .t ⟨hk2.x, hk2.z, by have := hk2.l; dsimp only at this ⊢; omega⟩ (by decide)⟩ (lft_lt om9)
  | t hT hk0 =>
   have hTl := hT.l
   have hTz := hT.z
   have hTx := hT.x
   dsimp only at hTl hTz hTx
   cbv; repeat' ((first | refine .e ?_ | refine .y fun h => ?_ | refine .u fun u hu hul => ?_ | fail) <;> cbv)
   refine callG_specN F.sz kind [] trivial rfl rfl (by decide) rfl rfl rfl rfl rfl fun t ht => ?_
   cbv; repeat' ((first | refine .u fun u hu hul => ?_ | fail) <;> cbv)
   refine callG_specN F.wt (⟨o, xs, u⟩ : BI) [0, 1] ⟨hTx, hTz, (show u.size ≠ 0 by omega), (show o.size + u.size ≤ 140737488355328 by omega)⟩ rfl rfl (by decide) rfl rfl rfl rfl rfl fun ys hys => ?_
   obtain ⟨o2, ho2⟩ : ∃ o2, o2 = o ++ u := ⟨_, rfl⟩
   have hz2 : o2.size = o.size + u.size := by rw [ho2]; exact ByteArray.size_append
   replace hys : ys = bytA o2 := by rw [ho2]; exact hys
   cbv; repeat' ((first | refine And.intro ?_ ?_ | fail) <;> cbv)
   ·exact F.ml
   refine callG_specN F.tl ((lots, ⟨o2, ys⟩) : List Lo × OX) [0, 1] ⟨hlo, hys, (show o2.size ≠ 0 by omega), (show o2.size ≤ 8796093022208 by omega)⟩ rfl rfl (by decide) rfl rfl rfl rfl rfl fun k2 hk2 => ?_
   obtain ⟨o3, xs3⟩ := k2
   cbv; repeat' ((first | refine .k fun z hz => ?_ | fail) <;> cbv)
   obtain rfl : z = nI (k + 1) := om9
   exact roundV ⟨k + 1, .ptr 0 0, o3, xs3, by exact om9, .t ⟨hk2.x, hk2.z, by have := hk2.l; dsimp only at this ⊢; omega⟩ (by omega)⟩ (lft_lt om9)
 ·have hke : k = l.length := by omega
  have hao := all_ok hp
  have htk : boW (l.take k) = boW l := by rw [hke, List.take_length]
  rw [htk] at h
  obtain ⟨w, hw⟩ : ∃ w : ByteArray, w = ⟨#[97, 108, 108]⟩ := ⟨_, rfl⟩
  cases h with
  | e =>
   cbv; repeat' ((first | refine .n fun h => ?_ | fail) <;> cbv)
   refine callG_specN F.we (⟨#[97, 108, 108]⟩ : ByteArray) [0, 1] ⟨(show (3 : Nat) ≠ 0 by decide), (show (3 : Nat) ≤ 140737488355328 by decide)⟩ rfl rfl (by decide) rfl rfl rfl rfl rfl fun ys hys => ?_
   cbv
   refine callG_specN F.ct l [] ⟨by omega, hao⟩ rfl rfl (by decide) rfl rfl rfl rfl rfl fun L hL => ?_
   have hLn := hL.n
   cbv; repeat' ((first | refine And.intro ?_ ?_ | fail) <;> cbv)
   ·exact F.ml
   refine callG_specN F.tl ((L, ⟨⟨#[97, 108, 108]⟩, ys⟩) : List Lo × OX) [0, 1] ⟨⟨(show L.length ≤ 524288 by omega), fun x hx => (hL.g x hx).1, fun x hx => (hL.g x hx).2⟩, hys, (show (3 : Nat) ≠ 0 by decide), (show (3 : Nat) ≤ 8796093022208 by decide)⟩ rfl rfl (by decide) rfl rfl rfl rfl rfl fun k2 hk2 => ?_
   obtain ⟨o3, xs3⟩ := k2
   have h3l := hk2.l
   have h3x := hk2.x
   have s3 : (ByteArray.mk #[97, 108, 108]).size = 3 := rfl
   dsimp only at h3l h3x
   have hK := hK o3 (by omega)
   cbv
   (refine cs9 F.st (⟨o3, xs3, ⟨#[]⟩⟩ : BI) [0, 1] h3x ?_; try dsimp only)
   cbv
   (refine .r9 (Gh.refl _) ?_; cbv; exact .inl (.f9 hK))
  | t hT hk0 =>
   have hTl := hT.l
   have hTz := hT.z
   have hTx := hT.x
   dsimp only at hTl hTz hTx
   cbv; repeat' ((first | refine .n fun h => ?_ | fail) <;> cbv)
   refine callG_specN F.wt (⟨o, xs, ⟨#[97, 108, 108]⟩⟩ : BI) [0, 1] ⟨hTx, hTz, (show (3 : Nat) ≠ 0 by decide), (show o.size + 3 ≤ 140737488355328 by omega)⟩ rfl rfl (by decide) rfl rfl rfl rfl rfl fun ys hys => ?_
   obtain ⟨o2, ho2⟩ : ∃ o2, o2 = o ++ ⟨#[97, 108, 108]⟩ := ⟨_, rfl⟩
   have hz2 : o2.size = o.size + 3 := by rw [ho2]; exact ByteArray.size_append
   replace hys : ys = bytA o2 := by rw [ho2]; exact hys
   cbv
   refine callG_specN F.ct l [] ⟨by omega, hao⟩ rfl rfl (by decide) rfl rfl rfl rfl rfl fun L hL => ?_
   have hLn := hL.n
   cbv; repeat' ((first | refine And.intro ?_ ?_ | fail) <;> cbv)
   ·exact F.ml
   refine callG_specN F.tl ((L, ⟨o2, ys⟩) : List Lo × OX) [0, 1] ⟨⟨(show L.length ≤ 524288 by omega), fun x hx => (hL.g x hx).1, fun x hx => (hL.g x hx).2⟩, hys, (show o2.size ≠ 0 by omega), (show o2.size ≤ 8796093022208 by omega)⟩ rfl rfl (by decide) rfl rfl rfl rfl rfl fun k2 hk2 => ?_
   obtain ⟨o3, xs3⟩ := k2
   have h3l := hk2.l
   have h3x := hk2.x
   dsimp only at h3l h3x
   have hK := hK o3 (by omega)
   cbv
   (refine cs9 F.st (⟨o3, xs3, ⟨#[]⟩⟩ : BI) [0, 1] h3x ?_; try dsimp only)
   cbv
   (refine .r9 (Gh.refl _) ?_; cbv; exact .inl (.f9 hK))
theorem joinB_size : ∀ (l : List ByteArray) (sep : ByteArray) (n : Nat), (∀ s ∈ l, s.size ≤ n) → (joinB l sep).size ≤ l.length * (n + sep.size)
 | [], sep, n, _ => Nat.zero_le _
 | y :: r, sep, n, h => by
  have e : (joinB (y :: r) sep).size = y.size + (Lib.joinTail sep.data.toList (r.map (·.data.toList))).length := by
   show (List.toArray _).size = _
   rw [List.size_toArray, List.map_cons, Lib.join_cons, List.length_append, Array.length_toList]
   rfl
  have h2 : ∀ r : List ByteArray, (∀ s ∈ r, s.size ≤ n) → (Lib.joinTail sep.data.toList (r.map (·.data.toList))).length ≤ r.length * (n + sep.size) := by
   intro r
   induction r with
   | nil => intro _; exact Nat.zero_le _
   | cons a r ih =>
    intro hr
    have h3 := ih fun s hs => hr s (List.mem_cons_of_mem _ hs)
    have h4 := hr a (List.mem_cons_self ..)
    have e2 : (Lib.joinTail sep.data.toList ((a :: r).map (·.data.toList))).length = sep.size + a.size + (Lib.joinTail sep.data.toList (r.map (·.data.toList))).length := by
     unfold Lib.joinTail
     rw [List.map_cons, List.map_cons, List.flatten_cons, List.length_append, List.length_append, Array.length_toList, Array.length_toList]
     rfl
    rw [e2, List.length_cons, Nat.add_mul, Nat.one_mul]
    omega
  have h5 := h2 r fun s hs => h s (List.mem_cons_of_mem _ hs)
  have h6 := h y (List.mem_cons_self ..)
  rw [e, List.length_cons, Nat.add_mul, Nat.one_mul]
  omega
structure WsOk (ws : List ByteArray) : Prop where
 n : ws.length ≤ 16
 z : ∀ w ∈ ws, w.size ≤ 1073741824
theorem WsOk.j {ws : List ByteArray} (h : WsOk ws) : (joinB ws ⟨#[32]⟩).size ≤ 17179869200 := by
 have h1 := joinB_size ws ⟨#[32]⟩ 1073741824 h.z
 have h2 : (ByteArray.mk #[32]).size = 1 := rfl
 rw [h2] at h1
 have h3 : ws.length * (1073741824 + 1) ≤ 16 * (1073741824 + 1) := Nat.mul_le_mul h.n (Nat.le_refl _)
 omega
def LiEC : Ctr := specN (fun ws : List ByteArray => [.sl 1 (mapA (fun s => .str s) ws), .ptr 0 0]) (fun _ => BldE) WsOk (fun _ k => OxTo 17179869210 k) (fun _ _ => .tup []) fun _ k => BldT k.xs
def LiTC : Ctr := specN (fun i : List ByteArray × OX => [.sl 1 (mapA (fun s => .str s) i.1), .ptr 0 0]) (fun i => BldT i.2.xs) (fun i => WsOk i.1 ∧ OxOk i.2) (fun i k => OxTo (i.2.o.size + 17179869210) k) (fun _ _ => .tup []) fun _ k => BldT k.xs
theorem lineE_body (P : Program) (hj : FnOk P 110 JoinC) (hw : FnOk P 56 WrEC) : BodyOk P x147 LiEC := by
 intro args H K hcc
 obtain ⟨ws, rfl, rfl, hp, hK⟩ := hcc
 refine ⟨nb9, ?_⟩
 try dsimp only at hK
 have hjs := hp.j
 have hn := hp.n
 obtain ⟨j, hj1⟩ : ∃ j, j = joinB ws ⟨#[32]⟩ := ⟨_, rfl⟩
 rw [← hj1] at hjs
 have h2 : (ByteArray.mk #[59, 10]).size = 2 := rfl
 cbv
 (refine c09 hj ((ws, ⟨#[32]⟩) : List ByteArray × ByteArray) ⟨by (try dsimp only); rw [← hj1]; omega, by (try dsimp only); omega⟩ ?_; try dsimp only)
 rw [← hj1]
 cbv; repeat' ((first | refine .u fun u hu hul => ?_ | fail) <;> cbv)
 refine callG_specN hw u [0, 1] ⟨by omega, by omega⟩ rfl rfl (by decide) rfl rfl rfl rfl rfl fun ys hys => ?_
 have hK := hK ⟨u, ys⟩ ⟨hys, by (try dsimp only); omega, by (try dsimp only); omega⟩
 cbv
 (refine .r9 (Gh.refl _) ?_; cbv; exact .inl (.f9 hK))
theorem lineT_body (P : Program) (hj : FnOk P 110 JoinC) (hw : FnOk P 56 WrC) : BodyOk P x147 LiTC := by
 intro args H K hcc
 obtain ⟨⟨ws, ⟨o, xs⟩⟩, rfl, rfl, ⟨hp, hx, ho, hl⟩, hK⟩ := hcc
 refine ⟨nb9, ?_⟩
 try dsimp only at hp hx ho hl hK
 have hjs := hp.j
 have hn := hp.n
 obtain ⟨j, hj1⟩ : ∃ j, j = joinB ws ⟨#[32]⟩ := ⟨_, rfl⟩
 rw [← hj1] at hjs
 have h2 : (ByteArray.mk #[59, 10]).size = 2 := rfl
 cbv
 (refine c09 hj ((ws, ⟨#[32]⟩) : List ByteArray × ByteArray) ⟨by (try dsimp only); rw [← hj1]; omega, by (try dsimp only); omega⟩ ?_; try dsimp only)
 rw [← hj1]
 cbv; repeat' ((first | refine .u fun u hu hul => ?_ | fail) <;> cbv)
 refine callG_specN hw (⟨o, xs, u⟩ : BI) [0, 1] ⟨hx, ho, (show u.size ≠ 0 by omega), (show o.size + u.size ≤ 140737488355328 by omega)⟩ rfl rfl (by decide) rfl rfl rfl rfl rfl fun ys hys => ?_
 obtain ⟨o2, ho2⟩ : ∃ o2, o2 = o ++ u := ⟨_, rfl⟩
 have hz2 : o2.size = o.size + u.size := by rw [ho2]; exact ByteArray.size_append
 have hK := hK ⟨o2, ys⟩ ⟨by rw [ho2]; exact hys, by (try dsimp only); omega, by (try dsimp only); omega⟩
 cbv
 (refine .r9 (Gh.refl _) ?_; cbv; exact .inl (.f9 hK))
def YnC : Ctr := spec (fun b : Bool => [.bl b]) (fun _ => []) (fun _ => True) (fun b => .str (yn b)) fun _ => []
theorem yesNo_body (P : Program) : BodyOk P x148 YnC := by
 intro args H K hc; obtain ⟨b, rfl, rfl, hp, hK⟩ := hc; refine ⟨nb9, ?_⟩; dsimp only at hp hK ⊢
 cases b
 all_goals
  cbv
  (refine .r9 (Gh.refl _) ?_; cbv; exact .inl (.f9 hK))
def AlFC : Ctr := spec (fun l : List Nd => [AllA l]) (fun _ => []) NdL (fun _ => .bl false) fun _ => []
theorem alwaysF_body (P : Program) : BodyOk P x149 AlFC := by
 intro args H K hc; obtain ⟨l, rfl, rfl, hp, hK⟩ := hc; refine ⟨nb9, ?_⟩; dsimp only at hp hK ⊢
 obtain ⟨_, _, hl2⟩ := hp
 have hml := mapA_len NdA l
 cbv; repeat' ((first | refine .n fun h => ?_ | refine .y fun h => ?_ | refine .mk (fun h => ?_) fun h => ?_ | refine .k fun z hz => ?_ | fail) <;> cbv)
 all_goals first
  | (refine .r9 (Gh.refl _) ?_; cbv; exact .inl (.f9 hK))
  | (exfalso; exact absurd rfl ‹¬ _›)
  | (exfalso; ((try simp only [vn] at *) <;> omega))
structure WrF (P : Program) : Prop where
 ml : MayCall P 147
 le : FnOk P 147 LiEC
 lt : FnOk P 147 LiTC
 fm : FnOk P 99 FmtC
 it : FnOk P 109 ItoC
 yn : FnOk P 148 YnC
 al : FnOk P 149 AlFC
 sh : FnOk P 59 ShowC
 st : FnOk P 62 StrTC
def WrtC : Ctr := specN (fun c : Cr => [CrA c]) (fun _ => []) CrSz (fun _ (t : ByteArray) => t.size ≤ 1099511627776) (fun _ t => .str t) fun _ _ => []
structure WsL (n : Nat) (ws : List ByteArray) : Prop where
 n : ws.length = n
 z : ∀ w ∈ ws, w.size ≤ 1073741824
theorem ws0 : WsL 0 [] := ⟨rfl, fun w h => nomatch h⟩
theorem wsc {n : Nat} {a : ByteArray} {ws : List ByteArray} (ha : a.size ≤ 1073741824) (h : WsL n ws) : WsL (n + 1) (a :: ws) := ⟨by rw [List.length_cons, h.n], fun w hw => by
 rcases List.mem_cons.1 hw with rfl | hw
 ·exact ha
 ·exact h.z w hw⟩
theorem wsk {n : Nat} {l : List UInt8} {ws : List ByteArray} (h : WsL n ws) (ha : Nat.ble l.length 1073741824 = true := by rfl) : WsL (n + 1) (⟨⟨l⟩⟩ :: ws) := wsc (Nat.le_of_ble_eq_true ha) h
theorem WsL.ok {n : Nat} {ws : List ByteArray} (h : WsL n ws) (hn : n ≤ 16 := by decide) : WsOk ws := ⟨by rw [h.n]; exact hn, h.z⟩
theorem yn_sz (b : Bool) : (yn b).size ≤ 3 := by cases b <;> decide
structure WrI (needs : List Ne) where
 k : Nat
 o : ByteArray
 xs : List AV
 hk : k ≤ needs.length
 x : xs = bytA o
 z : o.size ≠ 0
 l : o.size ≤ 274877907360 + k * 17179869210
theorem write_body (P : Program) (F : WrF P) : BodyOk P x75 WrtC := by
 intro args H K hcc
 obtain ⟨⟨number, applicant, beneficiary, issuer, confirmer, frm, to, cur, amt, above, below, latest, expiry, within, tenor, partial_, change, needs⟩, rfl, rfl, hp, hK⟩ := hcc
 refine ⟨nb9, ?_⟩
 obtain ⟨hnu, hap, hbe, his, hcf, hfr, hto, hcu, hamt, hab, hbw, hla, hex, hwi, hte, hm, hn⟩ := hp
 try dsimp only at hnu hap hbe his hcf hfr hto hcu hamt hab hbw hla hex hwi hte hm hn hK
 subst hcf hab hbw hwi
 have hmn := mapA_len NeA needs
 have zA := itoZ_sz amt hamt
 have zL := itoZ_sz latest hla
 have zE := itoZ_sz expiry hex
 have zT := itoZ_sz tenor hte
 have z0 := itoZ_sz 0 ⟨by decide, by decide⟩
 have z1 := itoZ_sz 1 ⟨by decide, by decide⟩
 have z21 := itoZ_sz 21 ⟨by decide, by decide⟩
 obtain ⟨wA, hwA⟩ : ∃ w, w = itoZ amt := ⟨_, rfl⟩
 obtain ⟨wL, hwL⟩ : ∃ w, w = itoZ latest := ⟨_, rfl⟩
 obtain ⟨wE, hwE⟩ : ∃ w, w = itoZ expiry := ⟨_, rfl⟩
 obtain ⟨wT, hwT⟩ : ∃ w, w = itoZ tenor := ⟨_, rfl⟩
 obtain ⟨w0, hw0⟩ : ∃ w, w = itoZ 0 := ⟨_, rfl⟩
 obtain ⟨w1, hw1⟩ : ∃ w, w = itoZ 1 := ⟨_, rfl⟩
 obtain ⟨w21, hw21⟩ : ∃ w, w = itoZ 21 := ⟨_, rfl⟩
 obtain ⟨wP, hwP⟩ : ∃ w, w = yn partial_ := ⟨_, rfl⟩
 obtain ⟨wC, hwC⟩ : ∃ w, w = yn change := ⟨_, rfl⟩
 have zP : wP.size ≤ 3 := by rw [hwP]; exact yn_sz partial_
 have zC : wC.size ≤ 3 := by rw [hwC]; exact yn_sz change
 rw [← hwA] at zA
 rw [← hwL] at zL
 rw [← hwE] at zE
 rw [← hwT] at zT
 rw [← hw0] at z0
 rw [← hw1] at z1
 rw [← hw21] at z21
 cbv; repeat' ((first | refine And.intro ?_ ?_ | fail) <;> cbv)
 ·exact F.ml
 refine callG_plain 2 rfl ?_
 cbv
 refine callG_adoptC 1 1 5 1 rfl rfl rfl ?_
 cbv
 refine callG_specN F.le ([⟨#[99, 114, 101, 100, 105, 116]⟩, number] : List ByteArray) [1, 3] (wsk (wsc (by omega) ws0)).ok rfl rfl (by decide) rfl rfl rfl rfl rfl fun ⟨o1, xs1⟩ ho1 => ?_
 try dsimp only
 have hl1 := ho1.l
 dsimp only at hl1
 cbv; repeat' ((first | refine And.intro ?_ ?_ | fail) <;> cbv)
 ·exact F.ml
 (refine callG_plain 4 rfl ?_; cbv; refine callG_specN F.lt (([⟨#[97, 112, 112, 108, 105, 99, 97, 110, 116]⟩, applicant], ⟨o1, xs1⟩) : List ByteArray × OX) [1, 3] ⟨(wsk (wsc (by omega) ws0)).ok, ⟨ho1.x, ho1.z, (show o1.size ≤ 1099511627776 by omega)⟩⟩ rfl rfl (by decide) rfl rfl rfl rfl rfl fun ⟨o2, xs2⟩ ho2 => ?_; try dsimp only; have hl2 := ho2.l; dsimp only at hl2)
 cbv; repeat' ((first | refine And.intro ?_ ?_ | fail) <;> cbv)
 ·exact F.ml
 (refine callG_plain 5 rfl ?_; cbv; refine callG_specN F.lt (([⟨#[98, 101, 110, 101, 102, 105, 99, 105, 97, 114, 121]⟩, beneficiary], ⟨o2, xs2⟩) : List ByteArray × OX) [1, 3] ⟨(wsk (wsc (by omega) ws0)).ok, ⟨ho2.x, ho2.z, (show o2.size ≤ 1099511627776 by omega)⟩⟩ rfl rfl (by decide) rfl rfl rfl rfl rfl fun ⟨o3, xs3⟩ ho3 => ?_; try dsimp only; have hl3 := ho3.l; dsimp only at hl3)
 cbv; repeat' ((first | refine And.intro ?_ ?_ | fail) <;> cbv)
 ·exact F.ml
 (refine callG_plain 6 rfl ?_; cbv; refine callG_specN F.lt (([⟨#[105, 115, 115, 117, 101, 114]⟩, issuer], ⟨o3, xs3⟩) : List ByteArray × OX) [1, 3] ⟨(wsk (wsc (by omega) ws0)).ok, ⟨ho3.x, ho3.z, (show o3.size ≤ 1099511627776 by omega)⟩⟩ rfl rfl (by decide) rfl rfl rfl rfl rfl fun ⟨o4, xs4⟩ ho4 => ?_; try dsimp only; have hl4 := ho4.l; dsimp only at hl4)
 cbv; repeat' ((first | refine .mk (fun h => ?_) fun h => ?_ | refine And.intro ?_ ?_ | fail) <;> cbv)
 rotate_left 1
 rotate_left 1
 ·exact absurd rfl ‹¬ _›
 ·exact absurd rfl ‹¬ _›
 ·exact F.ml
 (refine callG_plain 7 rfl ?_; cbv; refine callG_specN F.lt (([⟨#[102, 114, 111, 109]⟩, frm], ⟨o4, xs4⟩) : List ByteArray × OX) [1, 3] ⟨(wsk (wsc (by omega) ws0)).ok, ⟨ho4.x, ho4.z, (show o4.size ≤ 1099511627776 by omega)⟩⟩ rfl rfl (by decide) rfl rfl rfl rfl rfl fun ⟨o5, xs5⟩ ho5 => ?_; try dsimp only; have hl5 := ho5.l; dsimp only at hl5)
 cbv; repeat' ((first | refine And.intro ?_ ?_ | fail) <;> cbv)
 ·exact F.ml
 (refine callG_plain 8 rfl ?_; cbv; refine callG_specN F.lt (([⟨#[116, 111]⟩, to], ⟨o5, xs5⟩) : List ByteArray × OX) [1, 3] ⟨(wsk (wsc (by omega) ws0)).ok, ⟨ho5.x, ho5.z, (show o5.size ≤ 1099511627776 by omega)⟩⟩ rfl rfl (by decide) rfl rfl rfl rfl rfl fun ⟨o6, xs6⟩ ho6 => ?_; try dsimp only; have hl6 := ho6.l; dsimp only at hl6)
 cbv
 (refine c09 F.fm amt hamt ?_; try dsimp only)
 rw [← hwA]
 cbv
 (refine c09 F.it 0 ⟨by decide, by decide⟩ ?_; try dsimp only)
 rw [← hw0]
 cbv
 (refine c09 F.it 0 ⟨by decide, by decide⟩ ?_; try dsimp only)
 rw [← hw0]
 cbv; repeat' ((first | refine And.intro ?_ ?_ | fail) <;> cbv)
 ·exact F.ml
 (refine callG_plain 9 rfl ?_; cbv; refine callG_specN F.lt (([⟨#[115, 117, 109]⟩, cur, wA, ⟨#[97, 98, 111, 118, 101]⟩, w0, ⟨#[98, 101, 108, 111, 119]⟩, w0], ⟨o6, xs6⟩) : List ByteArray × OX) [1, 3] ⟨(wsk (wsc (by omega) (wsc (by omega) (wsk (wsc (by omega) (wsk (wsc (by omega) ws0))))))).ok, ⟨ho6.x, ho6.z, (show o6.size ≤ 1099511627776 by omega)⟩⟩ rfl rfl (by decide) rfl rfl rfl rfl rfl fun ⟨o7, xs7⟩ ho7 => ?_; try dsimp only; have hl7 := ho7.l; dsimp only at hl7)
 cbv
 (refine c09 F.it latest hla ?_; try dsimp only)
 rw [← hwL]
 cbv; repeat' ((first | refine And.intro ?_ ?_ | fail) <;> cbv)
 ·exact F.ml
 (refine callG_plain 10 rfl ?_; cbv; refine callG_specN F.lt (([⟨#[108, 97, 116, 101, 115, 116]⟩, wL], ⟨o7, xs7⟩) : List ByteArray × OX) [1, 3] ⟨(wsk (wsc (by omega) ws0)).ok, ⟨ho7.x, ho7.z, (show o7.size ≤ 1099511627776 by omega)⟩⟩ rfl rfl (by decide) rfl rfl rfl rfl rfl fun ⟨o8, xs8⟩ ho8 => ?_; try dsimp only; have hl8 := ho8.l; dsimp only at hl8)
 cbv
 (refine c09 F.it expiry hex ?_; try dsimp only)
 rw [← hwE]
 cbv; repeat' ((first | refine And.intro ?_ ?_ | fail) <;> cbv)
 ·exact F.ml
 (refine callG_plain 11 rfl ?_; cbv; refine callG_specN F.lt (([⟨#[101, 120, 112, 105, 114, 121]⟩, wE], ⟨o8, xs8⟩) : List ByteArray × OX) [1, 3] ⟨(wsk (wsc (by omega) ws0)).ok, ⟨ho8.x, ho8.z, (show o8.size ≤ 1099511627776 by omega)⟩⟩ rfl rfl (by decide) rfl rfl rfl rfl rfl fun ⟨o9, xs9⟩ ho9 => ?_; try dsimp only; have hl9 := ho9.l; dsimp only at hl9)
 cbv
 (refine c09 F.it 21 ⟨by decide, by decide⟩ ?_; try dsimp only)
 rw [← hw21]
 cbv; repeat' ((first | refine And.intro ?_ ?_ | fail) <;> cbv)
 ·exact F.ml
 (refine callG_plain 12 rfl ?_; cbv; refine callG_specN F.lt (([⟨#[119, 105, 116, 104, 105, 110]⟩, w21, ⟨#[100, 97, 121, 115]⟩], ⟨o9, xs9⟩) : List ByteArray × OX) [1, 3] ⟨(wsk (wsc (by omega) (wsk ws0))).ok, ⟨ho9.x, ho9.z, (show o9.size ≤ 1099511627776 by omega)⟩⟩ rfl rfl (by decide) rfl rfl rfl rfl rfl fun ⟨o10, xs10⟩ ho10 => ?_; try dsimp only; have hl10 := ho10.l; dsimp only at hl10)
 cbv; repeat' ((first | refine .mk (fun h => ?_) fun h => ?_ | refine And.intro ?_ ?_ | fail) <;> cbv)
 ·exact F.ml
 rotate_left 1
 (refine c09 F.it tenor hte ?_; try dsimp only)
 rw [← hwT]
 cbv; repeat' ((first | refine And.intro ?_ ?_ | fail) <;> cbv)
 ·exact F.ml
 (refine callG_plain 13 rfl ?_; cbv; refine callG_specN F.lt (([⟨#[116, 101, 110, 111, 114]⟩, wT, ⟨#[100, 97, 121, 115]⟩], ⟨o10, xs10⟩) : List ByteArray × OX) [1, 3] ⟨(wsk (wsc (by omega) (wsk ws0))).ok, ⟨ho10.x, ho10.z, (show o10.size ≤ 1099511627776 by omega)⟩⟩ rfl rfl (by decide) rfl rfl rfl rfl rfl fun ⟨o11, xs11⟩ ho11 => ?_; try dsimp only; have hl11 := ho11.l; dsimp only at hl11)
 cbv
 rotate_left 1
 (refine callG_plain 13 rfl ?_; cbv; refine callG_specN F.lt (([⟨#[116, 101, 110, 111, 114]⟩, ⟨#[115, 105, 103, 104, 116]⟩], ⟨o10, xs10⟩) : List ByteArray × OX) [1, 3] ⟨(wsk (wsk ws0)).ok, ⟨ho10.x, ho10.z, (show o10.size ≤ 1099511627776 by omega)⟩⟩ rfl rfl (by decide) rfl rfl rfl rfl rfl fun ⟨o11, xs11⟩ ho11 => ?_; try dsimp only; have hl11 := ho11.l; dsimp only at hl11)
 cbv
 all_goals
  (refine c09 F.yn partial_ trivial ?_; try dsimp only)
  rw [← hwP]
  cbv; repeat' ((first | refine And.intro ?_ ?_ | fail) <;> cbv)
  ·exact F.ml
  (refine callG_plain 14 rfl ?_; cbv; refine callG_specN F.lt (([⟨#[112, 97, 114, 116, 105, 97, 108]⟩, wP], ⟨o11, xs11⟩) : List ByteArray × OX) [1, 3] ⟨(wsk (wsc (by omega) ws0)).ok, ⟨ho11.x, ho11.z, (show o11.size ≤ 1099511627776 by omega)⟩⟩ rfl rfl (by decide) rfl rfl rfl rfl rfl fun ⟨o12, xs12⟩ ho12 => ?_; try dsimp only; have hl12 := ho12.l; dsimp only at hl12)
  cbv
  (refine c09 F.yn change trivial ?_; try dsimp only)
  rw [← hwC]
  cbv; repeat' ((first | refine And.intro ?_ ?_ | fail) <;> cbv)
  ·exact F.ml
  (refine callG_plain 15 rfl ?_; cbv; refine callG_specN F.lt (([⟨#[99, 104, 97, 110, 103, 101]⟩, wC], ⟨o12, xs12⟩) : List ByteArray × OX) [1, 3] ⟨(wsk (wsc (by omega) ws0)).ok, ⟨ho12.x, ho12.z, (show o12.size ≤ 1099511627776 by omega)⟩⟩ rfl rfl (by decide) rfl rfl rfl rfl rfl fun ⟨o13, xs13⟩ ho13 => ?_; try dsimp only; have hl13 := ho13.l; dsimp only at hl13)
  cbv; repeat' ((first | refine .k fun z hz => ?_ | fail) <;> cbv)
 all_goals
  have hx13 := ho13.x
  have hz13 := ho13.z
  dsimp only at hx13 hz13
  have hl14 : o13.size ≤ 274877907360 := by omega
  clear hl1 hl2 hl3 hl4 hl5 hl6 hl7 hl8 hl9 hl10 hl11 hl12 hl13 ho1 ho2 ho3 ho4 ho5 ho6 ho7 ho8 ho9 ho10 ho11 ho12 ho13
  refine xloopV [3] (fun q : WrI needs => [(4, .clo 147 [.ptr 1 0]), (108, .i (nI q.k))]) (fun q => [.blk 33 [.str number, .str applicant, .str beneficiary, .str issuer, .str ⟨#[]⟩, .str frm, .str to, .str cur, .i amt, .i 0, .i 0, .i latest, .i expiry, .i 21, .i tenor, .bl partial_, .bl change, .sl 8 (mapA NeA needs)], .blk 133 [.ptr 1 0, .hd 3], .tip 9 1 [.str ⟨#[99, 114, 101, 100, 105, 116]⟩, .str number], .row 5 1 q.xs]) (fun q => lft 9 q.k) ⟨0, o13, xs13, Nat.zero_le _, hx13, hz13, by omega⟩ ?_
  rintro ⟨k, o, xs, hk, hx, hz, hl⟩
  try dsimp only at hk hx hz hl ⊢
  rcases Nat.lt_or_ge k needs.length with hks | hks
  ·obtain ⟨ne, hne⟩ := some_at hks
   have hns := hn ne (List.mem_of_getElem? hne)
   obtain ⟨kind, l⟩ := ne
   obtain ⟨hnk, hnr, hnl⟩ := hns
   try dsimp only at hnk hnr hnl
   have hL : NdL l := ⟨hnr, by omega, hnl.1⟩
   cbv; repeat' ((first | refine .e ?_ | refine .y fun h => ?_ | refine .mk (fun h => ?_) fun h => ?_ | refine .o ?_ | fail) <;> cbv)
   all_goals
    (refine c09 F.it 1 ⟨by decide, by decide⟩ ?_; try dsimp only)
    rw [← hw1]
    cbv
    (refine c09 F.al l hL ?_; try dsimp only)
    cbv
    refine callG_specN F.sh l [] hL rfl rfl (by decide) rfl rfl rfl rfl rfl fun t ht => ?_
    cbv; repeat' ((first | refine .zl fun zs hzs hzl => ?_ | refine And.intro ?_ ?_ | fail) <;> cbv)
    ·exact F.ml
    subst hzs
    refine callG_plain 5 rfl ?_
    cbv
    first
     | refine callG_specN F.lt (([⟨#[119, 97, 110, 116, 115]⟩, ⟨#[105, 110, 118, 111, 105, 99, 101]⟩, ⟨#[99, 111, 112, 105, 101, 115]⟩, w1, ⟨#[119, 105, 116, 104]⟩, t], ⟨o, xs⟩) : List ByteArray × OX) [1, 3] ⟨(wsk (wsk (wsk (wsc (by omega) (wsk (wsc (by omega) ws0)))))).ok, ⟨hx, hz, (show o.size ≤ 1099511627776 by omega)⟩⟩ rfl rfl (by decide) rfl rfl rfl rfl rfl fun ⟨o2, xs2⟩ ho2 => ?_
     | refine callG_specN F.lt (([⟨#[119, 97, 110, 116, 115]⟩, ⟨#[112, 97, 99, 107, 105, 110, 103]⟩, ⟨#[99, 111, 112, 105, 101, 115]⟩, w1, ⟨#[119, 105, 116, 104]⟩, t], ⟨o, xs⟩) : List ByteArray × OX) [1, 3] ⟨(wsk (wsk (wsk (wsc (by omega) (wsk (wsc (by omega) ws0)))))).ok, ⟨hx, hz, (show o.size ≤ 1099511627776 by omega)⟩⟩ rfl rfl (by decide) rfl rfl rfl rfl rfl fun ⟨o2, xs2⟩ ho2 => ?_
     | refine callG_specN F.lt (([⟨#[119, 97, 110, 116, 115]⟩, ⟨#[108, 97, 100, 105, 110, 103]⟩, ⟨#[99, 111, 112, 105, 101, 115]⟩, w1, ⟨#[119, 105, 116, 104]⟩, t], ⟨o, xs⟩) : List ByteArray × OX) [1, 3] ⟨(wsk (wsk (wsk (wsc (by omega) (wsk (wsc (by omega) ws0)))))).ok, ⟨hx, hz, (show o.size ≤ 1099511627776 by omega)⟩⟩ rfl rfl (by decide) rfl rfl rfl rfl rfl fun ⟨o2, xs2⟩ ho2 => ?_
     | refine callG_specN F.lt (([⟨#[119, 97, 110, 116, 115]⟩, ⟨#[105, 110, 115, 117, 114, 97, 110, 99, 101]⟩, ⟨#[99, 111, 112, 105, 101, 115]⟩, w1, ⟨#[119, 105, 116, 104]⟩, t], ⟨o, xs⟩) : List ByteArray × OX) [1, 3] ⟨(wsk (wsk (wsk (wsc (by omega) (wsk (wsc (by omega) ws0)))))).ok, ⟨hx, hz, (show o.size ≤ 1099511627776 by omega)⟩⟩ rfl rfl (by decide) rfl rfl rfl rfl rfl fun ⟨o2, xs2⟩ ho2 => ?_
     | refine callG_specN F.lt (([⟨#[119, 97, 110, 116, 115]⟩, ⟨#[111, 114, 105, 103, 105, 110]⟩, ⟨#[99, 111, 112, 105, 101, 115]⟩, w1, ⟨#[119, 105, 116, 104]⟩, t], ⟨o, xs⟩) : List ByteArray × OX) [1, 3] ⟨(wsk (wsk (wsk (wsc (by omega) (wsk (wsc (by omega) ws0)))))).ok, ⟨hx, hz, (show o.size ≤ 1099511627776 by omega)⟩⟩ rfl rfl (by decide) rfl rfl rfl rfl rfl fun ⟨o2, xs2⟩ ho2 => ?_
     | refine callG_specN F.lt (([⟨#[119, 97, 110, 116, 115]⟩, ⟨#[100, 114, 97, 102, 116]⟩, ⟨#[99, 111, 112, 105, 101, 115]⟩, w1, ⟨#[119, 105, 116, 104]⟩, t], ⟨o, xs⟩) : List ByteArray × OX) [1, 3] ⟨(wsk (wsk (wsk (wsc (by omega) (wsk (wsc (by omega) ws0)))))).ok, ⟨hx, hz, (show o.size ≤ 1099511627776 by omega)⟩⟩ rfl rfl (by decide) rfl rfl rfl rfl rfl fun ⟨o2, xs2⟩ ho2 => ?_
     | fail
    have hx2 := ho2.x
    have hz2 := ho2.z
    have hl2 := ho2.l
    dsimp only at hx2 hz2 hl2
    cbv; repeat' ((first | refine .k fun z hz => ?_ | fail) <;> cbv)
    obtain rfl : z = nI (k + 1) := om9
    exact roundV ⟨k + 1, o2, xs2, by exact om9, hx2, hz2, by omega⟩ (lft_lt om9)
  ·cbv; repeat' ((first | refine .n fun h => ?_ | fail) <;> cbv)
   (refine cs9 F.st (⟨o, xs, ⟨#[]⟩⟩ : BI) [1, 3] hx ?_; try dsimp only)
   have hK := hK o (by omega)
   cbv
   (refine .r9 (Gh.refl _) ?_; cbv; exact .inl (.f9 hK))
structure PrO where
 t : ByteArray
 e : Int
def PrintC : Ctr := specN (fun c : Cr => [CrA c]) (fun _ => []) CrSz (fun c (o : PrO) => o.e = 0 → MayOk c) (fun _ o => .tup [.str o.t, .i o.e]) fun _ _ => []
theorem print_body (P : Program) (hc : FnOk P 74 CrMayC) (hw : FnOk P 75 WrtC) : BodyOk P x25 PrintC := by
 intro args H K hcc
 obtain ⟨⟨number, applicant, beneficiary, issuer, confirmer, frm, to, cur, amt, above, below, latest, expiry, within, tenor, partial_, change, needs⟩, rfl, rfl, hp, hK⟩ := hcc
 refine ⟨nb9, ?_⟩
 try dsimp only at hK
 cbv
 refine callG_specN hc (⟨number, applicant, beneficiary, issuer, confirmer, frm, to, cur, amt, above, below, latest, expiry, within, tenor, partial_, change, needs⟩ : Cr) [] hp rfl rfl (by decide) rfl rfl rfl rfl rfl fun b hb => ?_
 cases b
 ·have hK := hK ⟨⟨#[]⟩, 1⟩ (fun h => absurd (show (1 : Int) = 0 from h) (by decide))
  cbv
  (refine .r9 (Gh.refl _) ?_; cbv; exact .inl (.f9 hK))
 ·have hm := hb rfl
  cbv
  refine callG_specN hw (⟨number, applicant, beneficiary, issuer, confirmer, frm, to, cur, amt, above, below, latest, expiry, within, tenor, partial_, change, needs⟩ : Cr) [] hp rfl rfl (by decide) rfl rfl rfl rfl rfl fun t ht => ?_
  have hK7 := hK ⟨⟨#[]⟩, 7⟩ (fun h => absurd (show (7 : Int) = 0 from h) (by decide))
  have hK0 := hK ⟨t, 0⟩ (fun _ => hm)
  cbv; repeat' ((first | refine .mk (fun h => ?_) fun h => ?_ | refine .k fun z hz => ?_ | fail) <;> cbv)
  ·(refine .r9 (Gh.refl _) ?_; cbv; exact .inl (.f9 hK7))
  ·(refine .r9 (Gh.refl _) ?_; cbv; exact .inl (.f9 hK0))
theorem may_body (P : Program) (hp : FnOk P 25 PrintC) : BodyOk P x30 MayC := by
 intro args H K hcc
 obtain ⟨⟨number, applicant, beneficiary, issuer, confirmer, frm, to, cur, amt, above, below, latest, expiry, within, tenor, partial_, change, needs⟩, rfl, rfl, hp1, hK⟩ := hcc
 refine ⟨nb9, ?_⟩
 try dsimp only at hK
 cbv
 refine callG_specN hp (⟨number, applicant, beneficiary, issuer, confirmer, frm, to, cur, amt, above, below, latest, expiry, within, tenor, partial_, change, needs⟩ : Cr) [] hp1 rfl rfl (by decide) rfl rfl rfl rfl rfl fun ⟨t, e⟩ ho => ?_
 try dsimp only at ho
 by_cases h0 : e = 0
 ·have hK := hK true (fun _ => ho h0)
  subst h0
  cbv; repeat' ((first | refine .y fun h => ?_ | fail) <;> cbv)
  (refine .r9 (Gh.refl _) ?_; cbv; exact .inl (.f9 hK))
 ·have hK := hK false (fun h => nomatch h)
  cbv; repeat' ((first | refine .n fun h => ?_ | fail) <;> cbv)
  (refine .r9 (Gh.refl _) ?_; cbv; exact .inl (.f9 hK))
end Go.Proofs.YtooioahiijbomaaGreatDoor
namespace Go.Proofs.YtooioahiijbomaaGreatDoor
open Go.RowKit Go.Shelf Go.Lib
set_option maxHeartbeats 4000000
set_option maxRecDepth 1000000
def zDoc : List Value := [.int .i64 0, .string ⟨#[]⟩, .string ⟨#[]⟩, .slice none 0 0]
theorem z_doc (w : World) : (zeroValue 88).run Tryz.prog w = .ok (.agg #[.int .i64 0, .string ⟨#[]⟩, .string ⟨#[]⟩, .slice none 0 0]) w := Tryz.zeroValue88 w
theorem clear_doc (w : World) (ty : TypeId) (b o c : Nat) (hc : ∀ j, j < 4 → (w.cell? ⟨b, o + j, none⟩).isSome = true) (hf : ∀ j, j < 4 → w.frozen? ⟨b, o + j, none⟩ = false) :
  (Builtin.clear_ #[34] ty #[.slice (some ⟨b, o, none⟩) 1 c]).run Tryz.prog w = .ok (.tuple #[]) (w.setCells b o zDoc) := by
 have hst := run_storeCells_cells (P := Tryz.prog) b o zDoc 0 w (by simpa [zDoc] using hc) (by simpa [zDoc] using hf) (by intro v hv; unfold zDoc at hv; simp only [List.mem_cons, List.not_mem_nil, or_false] at hv; rcases hv with rfl | rfl | rfl | rfl <;> rfl)
 simp only [Nat.add_zero] at hst
 have ht : Tryz.prog.underlying 34 = some (.slice 88) := Tryz.underlying34
 have hzc : (Builtin.zeroCells (Value.cells (.agg #[.int .i64 0, .string ⟨#[]⟩, .string ⟨#[]⟩, .slice none 0 0])) 1).toList = zDoc := by kernel_rfl
 simp [Builtin.clear_, run_underlying ht, z_doc, hzc, hst]
theorem k_del (g n c i j : Nat) (us : List Value) (w : World) (ho : Own w 88 4 (some ⟨g, 0, none⟩) n c us) (h1 : ∀ u ∈ us, u.oneCell' = true) (hi : j = i + 1) (hj : j ≤ n) :
  Calls Tryz.prog 44 #[.slice (some ⟨g, 0, none⟩) n c, .int .i64 i, .int .i64 j] w fun e w' => e = .returned (.slice (some ⟨g, 0, none⟩) (n - 1) c) ∧ w' = (w.drew.setCells g (i * 4) (us.drop (j * 4))).setCells g ((n - 1) * 4) zDoc := by
 have hlen := ho.len
 obtain ⟨cur, hb, r1, r2, r3, r4⟩ : ∃ cur, Blk w g 88 cur ∧ n ≤ c ∧ c ≤ maxLen ∧ cur.size = c * 4 ∧ cur.toList.take (n * 4) = us := by
  rcases ho.cases_ with ⟨h, _⟩ | ⟨g', cur, h, hb, h2⟩
  ·cases h
  ·cases h
   exact ⟨cur, hb, h2⟩
 have hmx : maxLen = 9223372036854775807 := rfl
 obtain ⟨news, hnews⟩ : ∃ news, news = us.drop (j * 4) := ⟨_, rfl⟩
 have hnl : news.length = (n - j) * 4 := by rw [hnews, List.length_drop, hlen, Nat.sub_mul]
 have hget : ∀ t u, us[t]? = some u → w.cell? ⟨g, t, none⟩ = some u := fun t u hu => by
  rw [← r4, List.getElem?_take] at hu
  split at hu
  ·exact hb.cell _ _ (by simpa using hu)
  ·cases hu
 have hsome : ∀ t, t < c * 4 → (w.cell? ⟨g, t, none⟩).isSome = true := fun t ht => by
  rw [hb.cell t (cur[t]'(by omega)) (Array.getElem?_eq_getElem (by omega))]; rfl
 obtain ⟨A, hA, hsrc⟩ : ∃ A : Addr, (if c = j then some (⟨g, 0, none⟩ : Addr) else some ⟨g, j * 4, none⟩) = some A ∧ Hid (∀ t u, news[t]? = some u → w.drew.cell? (A.add t) = some u) := by
  by_cases h : c = j
  ·refine ⟨⟨g, 0, none⟩, by simp [h], fun t u hu => ?_⟩
   have h0 : news.length = 0 := by rw [hnl, show n - j = 0 by omega]
   rw [List.length_eq_zero_iff.1 h0] at hu
   simp at hu
  ·refine ⟨⟨g, j * 4, none⟩, by simp [h], fun t u hu => ?_⟩
   rw [hnews, List.getElem?_drop] at hu
   rw [Addr.add_lit]
   exact hget _ _ hu
 have s1 : Hid (news.length = (n - j) * 4) := hnl
 have s2 : Hid (∀ u ∈ news, u.oneCell' = true) := fun u hu => h1 u (List.mem_of_mem_drop (by rw [← hnews]; exact hu))
 have s3 : Hid (∀ t, t < news.length → (w.drew.cell? ⟨g, 0 + i * 4 + t, none⟩).isSome = true ∧ w.drew.frozen? ⟨g, 0 + i * 4 + t, none⟩ = false) := fun t ht => by
  rw [hnl] at ht
  exact ⟨hsome _ (by omega), hb.free _⟩
 obtain ⟨W1, hW1⟩ : ∃ W1, W1 = w.drew.setCells g (0 + i * 4) news := ⟨_, rfl⟩
 have hcl : ∀ ty, (Builtin.clear_ #[34] ty #[.slice (some ⟨g, (i + (n - j)) * 4, none⟩) (n - (i + (n - j))) (c - (i + (n - j)))]).run Tryz.prog W1 = .ok (.tuple #[]) (W1.setCells g ((i + (n - j)) * 4) zDoc) := fun ty => by
  rw [show n - (i + (n - j)) = 1 by omega]
  refine clear_doc W1 ty g _ _ (fun t ht => ?_) (fun t ht => ?_)
  ·rw [hW1]
   exact isSome_setCells g news _ w.drew _ (hsome _ (by omega))
  ·rw [hW1, World.frozen?_setCells]
   exact hb.free _
 have X : Aside (W1 = w.drew.setCells g (0 + i * 4) news) := hW1
 have hW : Hid (W1 = w.drew.setCells g (0 + i * 4) news) := hW1
 have hic : i ≤ c := by omega
 have hjc : j ≤ c := by omega
 have hne : ¬ i = j := by omega
 have hij : i < j := by omega
 have hi' : Hid (j = i + 1) := hi
 have mixed : Tryz.prog.follows Departure.mixedOrders = true := by kernel_rfl
 obtain ⟨i0, hi0, hz4⟩ : ∃ i0, Tryz.prog.info? 88 = some i0 ∧ i0.size = 4 := by
  have e : (Tryz.prog.info? 88).map TypeInfo.size = some 4 := by kernel_rfl
  cases h : Tryz.prog.info? 88 with
  | none => rw [h] at e; cases e
  | some i0 => rw [h] at e; exact ⟨i0, rfl, Option.some.inj e⟩
 have hnews' : Hid (news = us.drop (j * 4)) := hnews
 clear hW1 hnews hnl hi
 go_enter Tryz.func44, Tryz.ntmps44
 go_wp2_with fail
 go_region_law_o (refine step_append_room rfl (.tmp 22) (.tmp 25) 34 rfl 88 i0 4 Tryz.underlying34 hi0 hz4 g 0 i c (by simp [Act.eval, Act.put]) A (n - j) (c - j) news (by simp [Act.eval, Act.put, hA]) s1.out hsrc.out s2.out (by omega) s3.out ?_; rw [← hW.out])
 go_wp2
 go_ret
 have hi2 := hi'.out
 refine ⟨by rw [show n - 1 = i + (n - j) by omega]; rfl, ?_⟩
 rw [show n - 1 = i + (n - j) by omega, ← hnews'.out, X.out, Nat.zero_add]
def layL : List Value → Nat → List Value → List Value
 | xs, _, [] => xs
 | xs, o, v :: r => layL (xs.set o v) (o + 1) r
theorem layL_eq : ∀ (vs xs : List Value) (o : Nat), o + vs.length ≤ xs.length → layL xs o vs = xs.take o ++ vs ++ xs.drop (o + vs.length)
 | [], xs, o, _ => by show xs = _; rw [List.append_nil, List.length_nil, Nat.add_zero, List.take_append_drop]
 | v :: r, xs, o, h => by
  rw [List.length_cons] at h
  have h1 := layL_eq r (xs.set o v) (o + 1) (by rw [List.length_set]; omega)
  show layL (xs.set o v) (o + 1) r = _
  rw [h1, List.length_cons, show o + 1 + r.length = o + (r.length + 1) by omega, List.drop_set_of_lt (by omega), List.take_add_one, List.take_set, List.set_eq_of_length_le (by rw [List.length_take]; omega), List.getElem?_set_self (by omega)]
  simp
theorem own_setCells {e : TypeId} {size g n c : Nat} : ∀ (vs : List Value) (o : Nat) (w : World) (xs : List Value), Own w e size (some ⟨g, 0, none⟩) n c xs → Own (w.setCells g o vs) e size (some ⟨g, 0, none⟩) n c (layL xs o vs)
 | [], _, _, _, h => h
 | v :: r, o, w, xs, h => own_setCells r (o + 1) _ _ (h.set_ o v)
theorem frm_setCells {g : Nat} {w0 : World} : ∀ (vs : List Value) (o : Nat) (w : World), Frm [g] w0 w → Frm [g] w0 (w.setCells g o vs)
 | [], _, _, h => h
 | v :: r, o, w, h => frm_setCells r (o + 1) _ (h.setCell (.inl (List.mem_singleton.2 rfl)) v)
theorem own_cut {w : World} {e : TypeId} {size g n m c : Nat} {xs : List Value} (h : Own w e size (some ⟨g, 0, none⟩) n c xs) (hm : m ≤ n) : Own w e size (some ⟨g, 0, none⟩) m c (xs.take (m * size)) := by
 rcases h.cases_ with ⟨h, _⟩ | ⟨g', cur, hA, hb, h1, h2, h3, rfl⟩
 ·cases h
 ·cases hA
  refine Own.of_blk hb (Nat.le_trans hm h1) h2 h3 ?_
  rw [List.take_take, Nat.min_eq_left (Nat.mul_le_mul_right _ hm)]
theorem flat_td : ∀ (xs : List AV) (i : Nat), (∀ x ∈ xs, x.cells.length = 4) → (xs.take i).flatMap AV.cells = (xs.flatMap AV.cells).take (i * 4) ∧ (xs.drop i).flatMap AV.cells = (xs.flatMap AV.cells).drop (i * 4)
 | xs, 0, _ => by rw [Nat.zero_mul]; exact ⟨rfl, rfl⟩
 | [], i + 1, _ => by simp
 | x :: xs, i + 1, h => by
  have hx := h x List.mem_cons_self
  have ih := flat_td xs i fun y hy => h y (List.mem_cons_of_mem _ hy)
  rw [List.take_succ_cons, List.drop_succ_cons, List.flatMap_cons, List.flatMap_cons, ih.1, ih.2]
  have e : (i + 1) * 4 = x.cells.length + i * 4 := by omega
  rw [e, List.take_length_add_append, List.drop_length_add_append]
  exact ⟨rfl, rfl⟩
theorem del_ok : FnOk Tryz.prog 44 DelC := by
 intro args H K hcc w r pub vals hm hv
 obtain ⟨⟨l, i⟩, rfl, rfl, ⟨hi, hl⟩, hK⟩ := hcc
 dsimp only at hi hl hK hm hv
 obtain ⟨u, us1, hvals, hu, hv2⟩ := hv.cons_inv
 obtain ⟨us2, e2, hv3⟩ := hv2.int_inv
 obtain ⟨us3, e3, hv4⟩ := hv3.int_inv
 have hn0 := hv4.nil_inv
 subst hn0 e3 e2
 have hr : r 0 = some u := by cases hu with | hd h _ => exact h
 have hent := hm.ent 0 _ rfl
 rw [hr] at hent
 obtain rfl : vals = #[u, .int .i64 (nI i), .int .i64 (nI (i + 1))] := Array.toList_inj.1 (by rw [hvals])
 have hml := mapA_len DcA l
 have hmle := mapA_len DcA (l.eraseIdx i)
 cases hent with
 | row ho hc hs hp =>
  rename_i A c us
  rw [hml] at ho hr ⊢
  obtain ⟨g, rfl⟩ : ∃ g, A = some ⟨g, 0, none⟩ := by
   rcases ho.cases_ with ⟨_, h, _⟩ | ⟨g, _, h, _⟩
   ·omega
   ·exact ⟨g, h⟩
  have hg0 : pub g = 0 := hp g (by simp)
  have h1 : ∀ u ∈ us, u.oneCell' = true := fun u hu => by
   obtain ⟨j, hj, rfl⟩ := List.getElem_of_mem hu
   have hlen := hc.len
   obtain ⟨x, hx⟩ : ∃ x, ((mapA DcA l).flatMap AV.cells)[j]? = some x := ⟨_, List.getElem?_eq_getElem (by omega)⟩
   have h2 := hc.at_ j x _ hx (List.getElem?_eq_getElem hj)
   obtain ⟨y, hy, hyx⟩ := List.mem_flatMap.1 (List.mem_of_getElem? hx)
   exact h2.one_ (List.all_eq_true.1 (hs y hy).2 x hyx)
  refine (k_del g l.length c i (i + 1) us w ho h1 rfl hi).mono fun e w' hw => ?_
  obtain ⟨rfl, hw'⟩ := hw
  have hul := ho.len
  have hfrm : Frm [g] w w' := by
   rw [hw']
   exact frm_setCells _ _ _ (frm_setCells _ _ _ (Frm.refl [g] w).drew)
  have hf : Fr (· ∈ [g]) pub w pub w' := Fr.of_frm hfrm fun b hb => by rw [List.mem_singleton.1 hb]; exact hg0
  have hel : (l.eraseIdx i).length = l.length - 1 := List.length_eraseIdx_of_lt hi
  have ho' : Own w' 88 4 (some ⟨g, 0, none⟩) (mapA DcA (l.eraseIdx i)).length c (us.take (i * 4) ++ us.drop ((i + 1) * 4)) := by
   have h2 : Own w' 88 4 (some ⟨g, 0, none⟩) l.length c (layL (layL us (i * 4) (us.drop ((i + 1) * 4))) ((l.length - 1) * 4) zDoc) := by
    rw [hw']
    exact own_setCells _ _ _ _ (own_setCells _ _ _ _ ho.drew)
   have h3 := own_cut h2 (m := l.length - 1) (by omega)
   have hd : (us.drop ((i + 1) * 4)).length = (l.length - (i + 1)) * 4 := by rw [List.length_drop, hul, Nat.sub_mul]
   have e1 := layL_eq (us.drop ((i + 1) * 4)) us (i * 4) (by rw [hd, hul]; omega)
   have e1l : (layL us (i * 4) (us.drop ((i + 1) * 4))).length = l.length * 4 := by
    rw [e1]
    simp only [List.length_append, List.length_take, List.length_drop, hul]
    omega
   have e2 := layL_eq zDoc (layL us (i * 4) (us.drop ((i + 1) * 4))) ((l.length - 1) * 4) (by rw [e1l]; show _ + 4 ≤ _; omega)
   rw [hmle, hel]
   rw [e2, List.append_assoc, List.take_append_of_le_length (by rw [List.length_take, e1l]; omega), List.take_take, Nat.min_self, e1, List.take_append_of_le_length (by rw [List.length_append, List.length_take, hd, hul]; omega)] at h3
   rw [List.take_of_length_le (by rw [List.length_append, List.length_take, hd, hul]; omega)] at h3
   exact h3
  have h4 : ∀ x ∈ mapA DcA l, x.cells.length = 4 := fun x hx => (hs x hx).1
  have hce : (mapA DcA (l.eraseIdx i)).flatMap AV.cells = ((mapA DcA l).flatMap AV.cells).take (i * 4) ++ ((mapA DcA l).flatMap AV.cells).drop ((i + 1) * 4) := by
   rw [← (flat_td _ i h4).1, ← (flat_td _ (i + 1) h4).2, ← List.flatMap_append, mapA_eq, mapA_eq, List.eraseIdx_eq_take_drop_succ, List.map_append, List.map_take, List.map_drop]
  have hc' : VRels pub w' rho0 ((mapA DcA (l.eraseIdx i)).flatMap AV.cells) (us.take (i * 4) ++ us.drop ((i + 1) * 4)) := by
   rw [hce]
   exact ((hc.take _).app (hc.drop _)).ext hf.ext
  have hsub : ∀ x ∈ mapA DcA (l.eraseIdx i), x ∈ mapA DcA l := fun x hx => by
   rw [mapA_eq] at hx ⊢
   obtain ⟨y, hy, rfl⟩ := List.mem_map.1 hx
   exact List.mem_map.2 ⟨y, List.mem_of_mem_eraseIdx hy, rfl⟩
  have hE : ∀ q, ERel pub w' q (some (.slice (some ⟨g, 0, none⟩) (mapA DcA (l.eraseIdx i)).length c)) (.row 88 4 (mapA DcA (l.eraseIdx i))) := fun q => .row ho' hc' (fun x hx => hs x (hsub x hx)) hp
  have hT := Mod.turn (y := .any) hm hr hf (fun b hb => by rw [List.mem_singleton.1 hb]; simp [foot]) (fun b hb => hm.fresh b (Nat.le_trans hf.size hb)) (fun b i hi => by
   obtain ⟨v, hv⟩ := hm.there b i hi
   exact ⟨v, hf.ext.cell b i v hi hv⟩) (x' := .slice (some ⟨g, 0, none⟩) (mapA DcA (l.eraseIdx i)).length c) (fun b hb => .inl hb) (.any _) (hE _)
  refine ⟨_, .hd 0, [.row 88 4 (mapA DcA (l.eraseIdx i))], rset r 0 (.slice (some ⟨g, 0, none⟩) (mapA DcA (l.eraseIdx i)).length c), pub, rfl, hK, ?_, hT, hf.mono (fun b hb => .inl ⟨0, _, hr, by rw [List.mem_singleton.1 hb]; simp [foot]⟩), fun b hb => ?_, fun k y hy hns => ?_, Nat.le_refl _⟩
  ·rw [hmle, hel]
   exact .hd (by rw [rset_self]) rfl
  ·obtain ⟨k, y, hk, hby⟩ := hb
   by_cases h : k = 0
   ·subst h
    rw [rset_self] at hk
    cases hk
    exact .inl ⟨0, _, hr, hby⟩
   ·rw [rset_ne _ _ h] at hk
    exact .inl ⟨k, y, hk, hby⟩
  ·by_cases h : k = 0
   ·subst h
    rw [hr] at hy
    cases hy
    cases hns
   ·rw [rset_ne _ _ h]
    exact hy
end Go.Proofs.YtooioahiijbomaaGreatDoor
namespace Go.Proofs.YtooioahiijbomaaGreatDoor
open Go.Shelf Go.RowKit
set_option maxRecDepth 100000
def laysM173_ren : Go.Shelf.Ren := ⟨fun | 173 => 99 | 246 => 189 | 283 => 262 | 284 => 263 | 285 => 264 | 286 => 265 | 129 => 277 | 317 => 304 | 318 => 305 | 319 => 306 | 320 => 307 | 337 => 321 | 338 => 322 | n => n, fun | 2 => 2 | 3 => 3 | 9 => 9 | 4 => 4 | 171 => 307 | 0 => 0 | 53 => 271 | 37 => 131 | 5 => 5 | 173 => 309 | 212 => 336 | 51 => 269 | 20 => 20 | 213 => 337 | 46 => 209 | 232 => 361 | 233 => 362 | n => n, fun | 17 => 8 | 18 => 10 | 19 => 11 | n => n⟩
theorem laysM173 : Go.Proofs.LaysM.n173 Tryz.prog laysM173_ren := {
  mixed := by kernel_rfl
  f129 := Tryz.func277.trans (congrArg some (by kernel_rfl))
  f173 := Tryz.func99.trans (congrArg some (by kernel_rfl))
  f246 := Tryz.func189.trans (congrArg some (by kernel_rfl))
  f283 := Tryz.func262.trans (congrArg some (by kernel_rfl))
  f284 := Tryz.func263.trans (congrArg some (by kernel_rfl))
  f285 := Tryz.func264.trans (congrArg some (by kernel_rfl))
  f286 := Tryz.func265.trans (congrArg some (by kernel_rfl))
  f317 := Tryz.func304.trans (congrArg some (by kernel_rfl))
  f318 := Tryz.func305.trans (congrArg some (by kernel_rfl))
  f319 := Tryz.func306.trans (congrArg some (by kernel_rfl))
  f320 := Tryz.func307.trans (congrArg some (by kernel_rfl))
  f337 := Tryz.func321.trans (congrArg some (by kernel_rfl))
  f338 := Tryz.func322.trans (congrArg some (by kernel_rfl))
  t0 := Tryz.underlying0
  a0 := Tryz.isAgg0
  z0 := Tryz.sizeOf0
  v0 := Tryz.zeroValue0
  t2 := Tryz.underlying2
  a2 := Tryz.isAgg2
  z2 := Tryz.sizeOf2
  v2 := Tryz.zeroValue2
  t3 := Tryz.underlying3
  a3 := Tryz.isAgg3
  z3 := Tryz.sizeOf3
  v3 := Tryz.zeroValue3
  t4 := Tryz.underlying4
  a4 := Tryz.isAgg4
  z4 := Tryz.sizeOf4
  v4 := Tryz.zeroValue4
  t5 := Tryz.underlying5
  a5 := Tryz.isAgg5
  z5 := Tryz.sizeOf5
  v5 := Tryz.zeroValue5
  t9 := Tryz.underlying9
  a9 := Tryz.isAgg9
  z9 := Tryz.sizeOf9
  v9 := Tryz.zeroValue9
  t20 := Tryz.underlying20
  a20 := Tryz.isAgg20
  z20 := Tryz.sizeOf20
  v20 := Tryz.zeroValue20
  t37 := Tryz.underlying131
  a37 := Tryz.isAgg131
  z37 := Tryz.sizeOf131
  v37 := Tryz.zeroValue131
  t46 := Tryz.underlying209
  a46 := Tryz.isAgg209
  z46 := Tryz.sizeOf209
  v46 := Tryz.zeroValue209
  t51 := Tryz.underlying269
  a51 := Tryz.isAgg269
  z51 := Tryz.sizeOf269
  v51 := Tryz.zeroValue269
  t53 := Tryz.underlying271
  a53 := Tryz.isAgg271
  z53 := Tryz.sizeOf271
  v53 := Tryz.zeroValue271
  t171 := Tryz.underlying307
  a171 := Tryz.isAgg307
  z171 := Tryz.sizeOf307
  v171 := Tryz.zeroValue307
  t173 := Tryz.underlying309
  a173 := Tryz.isAgg309
  z173 := Tryz.sizeOf309
  v173 := Tryz.zeroValue309
  t212 := Tryz.underlying336
  a212 := Tryz.isAgg336
  z212 := Tryz.sizeOf336
  v212 := Tryz.zeroValue336
  t213 := Tryz.underlying337
  a213 := Tryz.isAgg337
  z213 := Tryz.sizeOf337
  t232 := Tryz.underlying361
  a232 := Tryz.isAgg361
  z232 := Tryz.sizeOf361
  v232 := Tryz.zeroValue361
  t233 := Tryz.underlying362
  a233 := Tryz.isAgg362
  z233 := Tryz.sizeOf362
  v233 := Tryz.zeroValue362
  g17 := by kernel_rfl
  g18 := by kernel_rfl
  g19 := by kernel_rfl
  i0 := by kernel_rfl
  i2 := by kernel_rfl
  i3 := by kernel_rfl
  i4 := by kernel_rfl
  i5 := by kernel_rfl
  i9 := by kernel_rfl
  i20 := by kernel_rfl
  i37 := by kernel_rfl
  i46 := by kernel_rfl
  i51 := by kernel_rfl
  i53 := by kernel_rfl
  i171 := by kernel_rfl
  i173 := by kernel_rfl
  i212 := by kernel_rfl
  i232 := by kernel_rfl
  i233 := by kernel_rfl
  m17 := by kernel_rfl
  m18 := by kernel_rfl
  m19 := by kernel_rfl }
def laysC174_ren : Go.Shelf.Ren := ⟨fun | 174 => 98 | 247 => 187 | 245 => 188 | 287 => 257 | 279 => 258 | 280 => 259 | 281 => 260 | 282 => 261 | 321 => 300 | 322 => 301 | 316 => 302 | 171 => 109 | 205 => 303 | 243 => 196 | 246 => 189 | 283 => 262 | 284 => 263 | 285 => 264 | 286 => 265 | 129 => 277 | 317 => 304 | 318 => 305 | 319 => 306 | 320 => 307 | 337 => 321 | 338 => 322 | n => n, fun | 9 => 9 | 3 => 3 | 2 => 2 | 75 => 135 | 85 => 196 | 4 => 4 | 167 => 301 | 5 => 5 | 53 => 271 | 175 => 302 | 46 => 209 | 168 => 304 | 37 => 131 | 0 => 0 | 210 => 333 | 21 => 21 | 127 => 218 | 145 => 353 | 143 => 351 | 171 => 307 | 173 => 309 | 212 => 336 | 51 => 269 | 20 => 20 | 213 => 337 | 232 => 361 | 233 => 362 | 80 => 144 | n => n, fun | 15 => 6 | 16 => 7 | 17 => 8 | 18 => 10 | 19 => 11 | n => n⟩
theorem laysC174 : Go.Proofs.LaysC.n174 Tryz.prog laysC174_ren := {
  mixed := by kernel_rfl
  f129 := Tryz.func277.trans (congrArg some (by kernel_rfl))
  f171 := Tryz.func109.trans (congrArg some (by kernel_rfl))
  f174 := Tryz.func98.trans (congrArg some (by kernel_rfl))
  f205 := Tryz.func303.trans (congrArg some (by kernel_rfl))
  f243 := Tryz.func196.trans (congrArg some (by kernel_rfl))
  f245 := Tryz.func188.trans (congrArg some (by kernel_rfl))
  f246 := Tryz.func189.trans (congrArg some (by kernel_rfl))
  f247 := Tryz.func187.trans (congrArg some (by kernel_rfl))
  f279 := Tryz.func258.trans (congrArg some (by kernel_rfl))
  f280 := Tryz.func259.trans (congrArg some (by kernel_rfl))
  f281 := Tryz.func260.trans (congrArg some (by kernel_rfl))
  f282 := Tryz.func261.trans (congrArg some (by kernel_rfl))
  f283 := Tryz.func262.trans (congrArg some (by kernel_rfl))
  f284 := Tryz.func263.trans (congrArg some (by kernel_rfl))
  f285 := Tryz.func264.trans (congrArg some (by kernel_rfl))
  f286 := Tryz.func265.trans (congrArg some (by kernel_rfl))
  f287 := Tryz.func257.trans (congrArg some (by kernel_rfl))
  f316 := Tryz.func302.trans (congrArg some (by kernel_rfl))
  f317 := Tryz.func304.trans (congrArg some (by kernel_rfl))
  f318 := Tryz.func305.trans (congrArg some (by kernel_rfl))
  f319 := Tryz.func306.trans (congrArg some (by kernel_rfl))
  f320 := Tryz.func307.trans (congrArg some (by kernel_rfl))
  f321 := Tryz.func300.trans (congrArg some (by kernel_rfl))
  f322 := Tryz.func301.trans (congrArg some (by kernel_rfl))
  f337 := Tryz.func321.trans (congrArg some (by kernel_rfl))
  f338 := Tryz.func322.trans (congrArg some (by kernel_rfl))
  t0 := Tryz.underlying0
  a0 := Tryz.isAgg0
  z0 := Tryz.sizeOf0
  v0 := Tryz.zeroValue0
  t2 := Tryz.underlying2
  a2 := Tryz.isAgg2
  z2 := Tryz.sizeOf2
  v2 := Tryz.zeroValue2
  t3 := Tryz.underlying3
  a3 := Tryz.isAgg3
  z3 := Tryz.sizeOf3
  v3 := Tryz.zeroValue3
  t4 := Tryz.underlying4
  a4 := Tryz.isAgg4
  z4 := Tryz.sizeOf4
  v4 := Tryz.zeroValue4
  t5 := Tryz.underlying5
  a5 := Tryz.isAgg5
  z5 := Tryz.sizeOf5
  v5 := Tryz.zeroValue5
  t9 := Tryz.underlying9
  a9 := Tryz.isAgg9
  z9 := Tryz.sizeOf9
  v9 := Tryz.zeroValue9
  t20 := Tryz.underlying20
  a20 := Tryz.isAgg20
  z20 := Tryz.sizeOf20
  v20 := Tryz.zeroValue20
  t21 := Tryz.underlying21
  a21 := Tryz.isAgg21
  z21 := Tryz.sizeOf21
  v21 := Tryz.zeroValue21
  t37 := Tryz.underlying131
  a37 := Tryz.isAgg131
  z37 := Tryz.sizeOf131
  v37 := Tryz.zeroValue131
  t46 := Tryz.underlying209
  a46 := Tryz.isAgg209
  z46 := Tryz.sizeOf209
  v46 := Tryz.zeroValue209
  t51 := Tryz.underlying269
  a51 := Tryz.isAgg269
  z51 := Tryz.sizeOf269
  v51 := Tryz.zeroValue269
  t53 := Tryz.underlying271
  a53 := Tryz.isAgg271
  z53 := Tryz.sizeOf271
  v53 := Tryz.zeroValue271
  t75 := Tryz.underlying135
  a75 := Tryz.isAgg135
  z75 := Tryz.sizeOf135
  v75 := Tryz.zeroValue135
  t85 := Tryz.underlying196
  a85 := Tryz.isAgg196
  z85 := Tryz.sizeOf196
  v85 := Tryz.zeroValue196
  t127 := Tryz.underlying218
  a127 := Tryz.isAgg218
  z127 := Tryz.sizeOf218
  v127 := Tryz.zeroValue218
  t143 := Tryz.underlying351
  a143 := Tryz.isAgg351
  z143 := Tryz.sizeOf351
  v143 := Tryz.zeroValue351
  t145 := Tryz.underlying353
  a145 := Tryz.isAgg353
  z145 := Tryz.sizeOf353
  v145 := Tryz.zeroValue353
  t167 := Tryz.underlying301
  a167 := Tryz.isAgg301
  z167 := Tryz.sizeOf301
  v167 := Tryz.zeroValue301
  t168 := Tryz.underlying304
  a168 := Tryz.isAgg304
  z168 := Tryz.sizeOf304
  v168 := Tryz.zeroValue304
  t171 := Tryz.underlying307
  a171 := Tryz.isAgg307
  z171 := Tryz.sizeOf307
  v171 := Tryz.zeroValue307
  t173 := Tryz.underlying309
  a173 := Tryz.isAgg309
  z173 := Tryz.sizeOf309
  v173 := Tryz.zeroValue309
  t175 := Tryz.underlying302
  a175 := Tryz.isAgg302
  z175 := Tryz.sizeOf302
  v175 := Tryz.zeroValue302
  t210 := Tryz.underlying333
  a210 := Tryz.isAgg333
  z210 := Tryz.sizeOf333
  v210 := Tryz.zeroValue333
  t212 := Tryz.underlying336
  a212 := Tryz.isAgg336
  z212 := Tryz.sizeOf336
  v212 := Tryz.zeroValue336
  t213 := Tryz.underlying337
  a213 := Tryz.isAgg337
  z213 := Tryz.sizeOf337
  t232 := Tryz.underlying361
  a232 := Tryz.isAgg361
  z232 := Tryz.sizeOf361
  v232 := Tryz.zeroValue361
  t233 := Tryz.underlying362
  a233 := Tryz.isAgg362
  z233 := Tryz.sizeOf362
  v233 := Tryz.zeroValue362
  g15 := by kernel_rfl
  g16 := by kernel_rfl
  g17 := by kernel_rfl
  g18 := by kernel_rfl
  g19 := by kernel_rfl
  t80 := Tryz.underlying144
  a80 := Tryz.isAgg144
  z80 := Tryz.sizeOf144
  v80 := Tryz.zeroValue144
  i0 := by kernel_rfl
  i2 := by kernel_rfl
  i3 := by kernel_rfl
  i4 := by kernel_rfl
  i5 := by kernel_rfl
  i9 := by kernel_rfl
  i20 := by kernel_rfl
  i21 := by kernel_rfl
  i37 := by kernel_rfl
  i46 := by kernel_rfl
  i51 := by kernel_rfl
  i53 := by kernel_rfl
  i75 := by kernel_rfl
  i80 := by kernel_rfl
  i85 := by kernel_rfl
  i127 := by kernel_rfl
  i143 := by kernel_rfl
  i145 := by kernel_rfl
  i167 := by kernel_rfl
  i168 := by kernel_rfl
  i171 := by kernel_rfl
  i173 := by kernel_rfl
  i175 := by kernel_rfl
  i210 := by kernel_rfl
  i212 := by kernel_rfl
  i232 := by kernel_rfl
  i233 := by kernel_rfl
  m15 := by kernel_rfl
  m16 := by kernel_rfl
  m17 := by kernel_rfl
  m18 := by kernel_rfl
  m19 := by kernel_rfl
  c0 := by kernel_rfl
  c2 := by kernel_rfl
  c3 := by kernel_rfl
  c4 := by kernel_rfl
  c5 := by kernel_rfl
  c9 := by kernel_rfl
  c20 := by kernel_rfl
  c21 := by kernel_rfl
  c37 := by kernel_rfl
  c46 := by kernel_rfl
  c51 := by kernel_rfl
  c53 := by kernel_rfl
  c75 := by kernel_rfl
  c80 := by kernel_rfl
  c85 := by kernel_rfl
  c127 := by kernel_rfl
  c143 := by kernel_rfl
  c145 := by kernel_rfl
  c167 := by kernel_rfl
  c168 := by kernel_rfl
  c171 := by kernel_rfl
  c173 := by kernel_rfl
  c175 := by kernel_rfl
  c210 := by kernel_rfl
  c212 := by kernel_rfl
  c213 := by kernel_rfl
  c232 := by kernel_rfl
  c233 := by kernel_rfl }
end Go.Proofs.YtooioahiijbomaaGreatDoor
namespace Go.Proofs.YtooioahiijbomaaGreatDoor
open Go.Shelf Go.RowKit
structure NumVars (w : World) : Prop where
  tab : Lib.TabIs Tryz.prog w "internal/strconv.uint64pow10" .u64 Lib.pow10Tab
  syn : ∃ tp p, w.var? Tryz.prog "strconv.ErrSyntax" = some #[.iface tp p]
  rng : ∃ tp p, w.var? Tryz.prog "strconv.ErrRange" = some #[.iface tp p]
theorem var_below {P : Program} {w w' : World} {n : String} {cs : Array Value} (h : w.var? P n = some cs) (hb : Below w.heap.size w w') : w'.var? P n = some cs := by
  unfold World.var? at h ⊢
  cases hg : P.globalNamed n with
  | none => rw [hg] at h; cases h
  | some g =>
    rw [hg] at h
    simp only [Option.bind_some] at h ⊢
    have hlt : g < w.heap.size := by
      by_cases hlt : g < w.heap.size
      · exact hlt
      · rw [Array.getElem?_eq_none (by omega)] at h; cases h
    rw [hb.block g hlt]
    exact h
theorem NumVars.below {w w' : World} (h : NumVars w) (hb : Below w.heap.size w w') : NumVars w' := by
  obtain ⟨h1, ⟨t2, p2, h2⟩, ⟨t3, p3, h3⟩⟩ := h
  exact ⟨var_below h1 hb, ⟨t2, p2, var_below h2 hb⟩, ⟨t3, p3, var_below h3 hb⟩⟩
theorem below_grow (w : World) (k : Nat) (os : Array Obj) : Below w.heap.size w (Sort.grow (w.drewN k) os) :=
  ⟨rfl, rfl, rfl, by simp [Sort.grow, World.drewN], fun j hj => by
    show ((w.drewN k).heap ++ os)[j]? = _
    rw [Array.getElem?_append_left (by exact hj)]
    rfl⟩
def IsErr (w : World) (e : Ending) (w' : World) : Prop := ∃ (n : Int) (t : TypeId) (p : Value), e = .returned (.tuple #[.int .i64 n, .iface t p]) ∧ Below w.heap.size w w'
theorem parse_err (s : ByteArray) (hs : s.size ≤ 281474976710656) (w : World) (h : NumVars w) (hp : ∀ v, Lib.parseIntB 64 s.data.toList ≠ .ok v) :
    Calls Tryz.prog 98 #[.string s, .int .i64 10, .int .i64 64] w (IsErr w) := by
  rcases hl : Lib.parseIntB 64 s.data.toList with v | _ | _
  · exact absurd hl (hp v)
  · obtain ⟨tp, p, hv⟩ := h.syn
    exact (Any.strconv_ParseInt_10_at64_syntax_var laysC174 s hs hl tp p w hv).mono fun e w' ⟨N, he, _, _, hb⟩ => ⟨_, _, _, he, hb⟩
  · obtain ⟨tp, p, hv⟩ := h.rng
    exact (Any.strconv_ParseInt_10_at64_range_var laysC174 s hs hl tp p w hv).mono fun e w' ⟨N, he, _, _, hb⟩ => ⟨_, _, _, he, hb⟩
theorem parse_ok (s : ByteArray) (hs : s.size ≤ 281474976710656) (w : World) (v : Int) (hl : Lib.parseIntB 64 s.data.toList = .ok v) :
    Calls Tryz.prog 98 #[.string s, .int .i64 10, .int .i64 64] w fun e w' => e = .returned (.tuple #[.int .i64 v, .nilIface]) ∧ Below w.heap.size w w' :=
  (Any.strconv_ParseInt_10_at64_ok laysC174 s (by omega) v hl w).mono fun e w' ⟨he, hw⟩ => ⟨he, by
    rcases hw with rfl | ⟨t, rfl⟩
    · exact Below.refl _ _
    · exact Lib.bytesWorld_below _ _ _⟩
theorem format_any (n : Int) (h0 : -9223372036854775808 ≤ n) (h1 : n ≤ 9223372036854775807) (w : World) (h : NumVars w) :
    Calls Tryz.prog 99 #[.int .i64 n, .int .i64 10] w fun e w' => e = .returned (.string ⟨(Lib.itoa n).toArray⟩) ∧ Below w.heap.size w w' :=
  (Any.strconv_FormatInt_10 laysM173 n h0 h1 w h.tab).mono fun e w' ⟨he, k, os, hw⟩ => ⟨he, by subst hw; exact below_grow _ _ _⟩
def NumPost (o : Option Int) (w : World) (e : Ending) (w' : World) : Prop := e = .returned (.tuple #[.int .i64 (o.getD 0), .bool o.isSome]) ∧ Below w.heap.size w w'
set_option maxRecDepth 100000 in
set_option maxHeartbeats 4000000 in
theorem number_any (s : ByteArray) (hs : s.size ≤ 281474976710656) (w : World) (h : NumVars w) :
    Calls Tryz.prog 41 #[.string s] w (NumPost (numP s.data.toList) w) := by
  have HV := Lib.hid h
  clear h
  have HS := Lib.hid hs
  clear hs
  by_cases hok : ∃ v, Lib.parseIntB 64 s.data.toList = .ok v
  · obtain ⟨v, hv⟩ := hok
    have hbd := Lib.parseIntB_bounds hv
    have hb0 : -9223372036854775808 ≤ v := by have := hbd.1; omega
    have hb1 : v ≤ 9223372036854775807 := by have := hbd.2; omega
    clear hbd
    have hn : numP s.data.toList = if inR v ∧ Lib.itoa v = s.data.toList then some v else none := by unfold numP; rw [hv]
    rw [hn]
    have HP := Lib.hid hv
    clear hn hv
    by_cases h1 : v < -4611686018427387904
    · rw [if_neg (by unfold inR; omega)]
      go_enter Tryz.func41, Tryz.ntmps41
      go_wp2_with (go_at_call 98; refine (parse_ok s HS.out _ v HP.out).mono ?_; rintro e w1 ⟨rfl, hb⟩)
      go_ret2
      exact ⟨rfl, hb⟩
    by_cases h2 : 4611686018427387904 < v
    · rw [if_neg (by unfold inR; omega)]
      go_enter Tryz.func41, Tryz.ntmps41
      go_wp2_with (go_at_call 98; refine (parse_ok s HS.out _ v HP.out).mono ?_; rintro e w1 ⟨rfl, hb⟩)
      go_ret2
      exact ⟨rfl, hb⟩
    have HI : Hid (inR v) := Lib.hid (by unfold inR; omega)
    by_cases h3 : Lib.itoa v = s.data.toList
    · rw [if_pos ⟨HI.out, h3⟩]
      have HQ := Lib.hid h3
      have h4 : (⟨(Lib.itoa v).toArray⟩ : ByteArray) = s := by rw [h3]
      have H4 := Lib.hid h4
      clear h3 h4
      go_enter Tryz.func41, Tryz.ntmps41
      go_wp2_with (first | (go_at_call 98; refine (parse_ok s HS.out _ v HP.out).mono ?_; rintro e w1 ⟨rfl, hb⟩) | (go_at_call 99; refine (format_any v hb0 hb1 _ (HV.out.below hb)).mono ?_; rw [H4.out]; rintro e w2 ⟨rfl, hb2⟩; have hw2 := Below.go hb hb2))
      go_ret2
      exact ⟨rfl, hw2⟩
    · rw [if_neg (fun h => h3 h.2)]
      have h4 : ((⟨(Lib.itoa v).toArray⟩ : ByteArray).toList == s.toList) = false := by
        rw [beq_eq_false_iff_ne]
        intro h
        apply h3
        rw [Go.ByteArray.toList_eq, Go.ByteArray.toList_eq] at h
        exact h
      have h5 : ((⟨(Lib.itoa v).toArray⟩ : ByteArray).toList != s.toList) = true := by unfold bne; rw [h4]; rfl
      clear h3
      obtain ⟨T, hT⟩ : ∃ T : ByteArray, T = ⟨(Lib.itoa v).toArray⟩ := ⟨_, rfl⟩
      rw [← hT] at h4 h5
      have HT := Lib.hid hT
      clear hT
      go_enter Tryz.func41, Tryz.ntmps41
      go_wp2_with (first | (go_at_call 98; refine (parse_ok s HS.out _ v HP.out).mono ?_; rintro e w1 ⟨rfl, hb⟩) | (go_at_call 99; refine (format_any v hb0 hb1 _ (HV.out.below hb)).mono ?_; rw [← HT.out]; rintro e w2 ⟨rfl, hb2⟩; have hw2 := Below.go hb hb2))
      go_ret2
      exact ⟨rfl, hw2⟩
  · have hn : numP s.data.toList = none := by
      unfold numP
      split
      · rename_i v hv; exact absurd ⟨v, hv⟩ hok
      · rfl
    rw [hn]
    have HE := Lib.hid (fun W hW => parse_err s HS.out W hW (fun v hv => hok ⟨v, hv⟩))
    clear hn hok
    go_enter Tryz.func41, Tryz.ntmps41
    go_wp2_with (go_at_call 98; refine (HE.out _ HV.out).mono ?_; rintro e w1 ⟨n, t, p, rfl, hb⟩)
    go_ret2
    exact ⟨rfl, hb⟩
end Go.Proofs.YtooioahiijbomaaGreatDoor
namespace Go.Proofs.YtooioahiijbomaaGreatDoor
open Go.Shelf Go.RowKit
set_option maxRecDepth 100000
def laysM171_ren : Go.Shelf.Ren := ⟨fun | 171 => 109 | 243 => 196 | 246 => 189 | 283 => 262 | 284 => 263 | 285 => 264 | 286 => 265 | 129 => 277 | 317 => 304 | 318 => 305 | 319 => 306 | 320 => 307 | 337 => 321 | 338 => 322 | n => n, fun | 3 => 3 | 9 => 9 | 2 => 2 | 4 => 4 | 171 => 307 | 0 => 0 | 53 => 271 | 37 => 131 | 5 => 5 | 173 => 309 | 212 => 336 | 51 => 269 | 20 => 20 | 213 => 337 | 46 => 209 | 232 => 361 | 233 => 362 | n => n, fun | 17 => 8 | 18 => 10 | 19 => 11 | n => n⟩
theorem laysM171 : Go.Proofs.LaysM.n171 Tryz.prog laysM171_ren := {
 mixed := by kernel_rfl
 f129 := Tryz.func277.trans (congrArg some (by kernel_rfl))
 f171 := Tryz.func109.trans (congrArg some (by kernel_rfl))
 f243 := Tryz.func196.trans (congrArg some (by kernel_rfl))
 f246 := Tryz.func189.trans (congrArg some (by kernel_rfl))
 f283 := Tryz.func262.trans (congrArg some (by kernel_rfl))
 f284 := Tryz.func263.trans (congrArg some (by kernel_rfl))
 f285 := Tryz.func264.trans (congrArg some (by kernel_rfl))
 f286 := Tryz.func265.trans (congrArg some (by kernel_rfl))
 f317 := Tryz.func304.trans (congrArg some (by kernel_rfl))
 f318 := Tryz.func305.trans (congrArg some (by kernel_rfl))
 f319 := Tryz.func306.trans (congrArg some (by kernel_rfl))
 f320 := Tryz.func307.trans (congrArg some (by kernel_rfl))
 f337 := Tryz.func321.trans (congrArg some (by kernel_rfl))
 f338 := Tryz.func322.trans (congrArg some (by kernel_rfl))
 t0 := Tryz.underlying0
 a0 := Tryz.isAgg0
 z0 := Tryz.sizeOf0
 v0 := Tryz.zeroValue0
 t2 := Tryz.underlying2
 a2 := Tryz.isAgg2
 z2 := Tryz.sizeOf2
 v2 := Tryz.zeroValue2
 t3 := Tryz.underlying3
 a3 := Tryz.isAgg3
 z3 := Tryz.sizeOf3
 v3 := Tryz.zeroValue3
 t4 := Tryz.underlying4
 a4 := Tryz.isAgg4
 z4 := Tryz.sizeOf4
 v4 := Tryz.zeroValue4
 t5 := Tryz.underlying5
 a5 := Tryz.isAgg5
 z5 := Tryz.sizeOf5
 v5 := Tryz.zeroValue5
 t9 := Tryz.underlying9
 a9 := Tryz.isAgg9
 z9 := Tryz.sizeOf9
 v9 := Tryz.zeroValue9
 t20 := Tryz.underlying20
 a20 := Tryz.isAgg20
 z20 := Tryz.sizeOf20
 v20 := Tryz.zeroValue20
 t37 := Tryz.underlying131
 a37 := Tryz.isAgg131
 z37 := Tryz.sizeOf131
 v37 := Tryz.zeroValue131
 t46 := Tryz.underlying209
 a46 := Tryz.isAgg209
 z46 := Tryz.sizeOf209
 v46 := Tryz.zeroValue209
 t51 := Tryz.underlying269
 a51 := Tryz.isAgg269
 z51 := Tryz.sizeOf269
 v51 := Tryz.zeroValue269
 t53 := Tryz.underlying271
 a53 := Tryz.isAgg271
 z53 := Tryz.sizeOf271
 v53 := Tryz.zeroValue271
 t171 := Tryz.underlying307
 a171 := Tryz.isAgg307
 z171 := Tryz.sizeOf307
 v171 := Tryz.zeroValue307
 t173 := Tryz.underlying309
 a173 := Tryz.isAgg309
 z173 := Tryz.sizeOf309
 v173 := Tryz.zeroValue309
 t212 := Tryz.underlying336
 a212 := Tryz.isAgg336
 z212 := Tryz.sizeOf336
 v212 := Tryz.zeroValue336
 t213 := Tryz.underlying337
 a213 := Tryz.isAgg337
 z213 := Tryz.sizeOf337
 t232 := Tryz.underlying361
 a232 := Tryz.isAgg361
 z232 := Tryz.sizeOf361
 v232 := Tryz.zeroValue361
 t233 := Tryz.underlying362
 a233 := Tryz.isAgg362
 z233 := Tryz.sizeOf362
 v233 := Tryz.zeroValue362
 g17 := by kernel_rfl
 g18 := by kernel_rfl
 g19 := by kernel_rfl
 i0 := by kernel_rfl
 i2 := by kernel_rfl
 i3 := by kernel_rfl
 i4 := by kernel_rfl
 i5 := by kernel_rfl
 i9 := by kernel_rfl
 i20 := by kernel_rfl
 i37 := by kernel_rfl
 i46 := by kernel_rfl
 i51 := by kernel_rfl
 i53 := by kernel_rfl
 i171 := by kernel_rfl
 i173 := by kernel_rfl
 i212 := by kernel_rfl
 i232 := by kernel_rfl
 i233 := by kernel_rfl
 m17 := by kernel_rfl
 m18 := by kernel_rfl
 m19 := by kernel_rfl }
theorem tab_of_glob {pub : Pub} {w : World} (h : GlobOk pub w) : Lib.TabIs Tryz.prog w "internal/strconv.uint64pow10" .u64 Lib.pow10Tab := by
 obtain ⟨t, fz, hb⟩ := h.block (g := 8) (by show 0 < 20; omega)
 have hg : Tryz.prog.globalNamed "internal/strconv.uint64pow10" = some 8 := by kernel_rfl
 unfold Lib.TabIs World.var?
 rw [hg]
 simp only [Option.bind_some]
 rw [hb]
 rfl
theorem err_of_glob {pub : Pub} {w : World} (h : GlobOk pub w) {g : Nat} {n : String} (hn : Tryz.prog.globalNamed n = some g) (hg : globI g = true) : ∃ tp p, w.var? Tryz.prog n = some #[.iface tp p] := by
 obtain ⟨t, p, t', fz, hb⟩ := h.errBlock hg
 refine ⟨t, p, ?_⟩
 unfold World.var?
 rw [hn]
 simp only [Option.bind_some]
 rw [hb]
theorem vars_of_glob {pub : Pub} {w : World} (h : GlobOk pub w) : NumVars w :=
 ⟨tab_of_glob h, err_of_glob h (g := 6) (by kernel_rfl) (by rfl), err_of_glob h (g := 7) (by kernel_rfl) (by rfl)⟩
theorem k_itoa : FnOk Tryz.prog 109 ItoC := fn_add fun n hp pub w vals hf hg hv => by
 obtain ⟨u, us', hl, h1, h2⟩ := hv.cons_inv
 have h3 := h2.nil_inv
 subst h3
 cases h1
 have h4 : vals = #[.int .i64 n] := Array.toList_inj.1 (by simpa using hl)
 subst h4
 refine (Any.strconv_Itoa laysM171 n hp.1 hp.2 w (tab_of_glob hg)).mono fun e w' ⟨he, k, os, hw⟩ => ?_
 subst hw
 exact AddPost.plain he (below_grow w k os) hf (.str _)
theorem k_fmt : FnOk Tryz.prog 99 FmtC := fn_add fun n hp pub w vals hf hg hv => by
 obtain ⟨us2, e2, hv3⟩ := hv.int_inv
 obtain ⟨us3, e3, hv4⟩ := hv3.int_inv
 have hn0 := hv4.nil_inv
 subst hn0 e3
 obtain rfl : vals = #[.int .i64 n, .int .i64 10] := Array.toList_inj.1 (by rw [e2])
 exact (format_any n hp.1 hp.2 w (vars_of_glob hg)).mono fun e w' ⟨he, hb⟩ => AddPost.plain he hb hf (.str _)
theorem tup2 {pub : Pub} {w : World} {r : Rho} {a b : AV} {u v : Value} (h1 : VRel pub w r a u) (h2 : VRel pub w r b v) : VRel pub w r (.tup [a, b]) (.tuple #[u, v]) :=
 .tup rfl fun i x y hx hy => match i with
  | 0 => by cases hx; cases hy; exact h1
  | 1 => by cases hx; cases hy; exact h2
  | i + 2 => by simp at hx
theorem k_fnumber : FnOk Tryz.prog 41 NumC := fn_add fun s hp pub w vals hf hg hv => by
 obtain ⟨us, h1, hv⟩ := VRels.str_inv hv |>.imp fun _ h => h
 have h3 := hv.nil_inv
 have e : vals = #[.string s] := Array.toList_inj.1 (by rw [h1, h3])
 rw [e]
 exact (number_any s hp w (vars_of_glob hg)).mono fun e w' ⟨he, hb⟩ => AddPost.plain he hb hf (tup2 (.int ..) (.bl ..))
end Go.Proofs.YtooioahiijbomaaGreatDoor
namespace Go.Proofs.YtooioahiijbomaaGreatDoor
open Go.Shelf Go.RowKit
set_option maxRecDepth 100000
def bldRen : Go.Shelf.Ren := ⟨fun | 156 => 110 | 165 => 197 | 166 => 56 | 167 => 250 | 169 => 62 | 240 => 108 | 241 => 266 | 276 => 195 | 277 => 308 | n => n, fun | 0 => 0 | 3 => 3 | 4 => 4 | 5 => 5 | 9 => 9 | 20 => 20 | 31 => 64 | 37 => 131 | 70 => 130 | 72 => 133 | 75 => 135 | 80 => 144 | 76 => 136 | 127 => 218 | 164 => 261 | n => n, fun | n => n⟩
theorem bldn156 : Lays.n156 Tryz.prog bldRen := {
 mixed := by kernel_rfl
 f156 := Tryz.func110.trans (congrArg some (by kernel_rfl))
 f165 := Tryz.func197.trans (congrArg some (by kernel_rfl))
 f166 := Tryz.func56.trans (congrArg some (by kernel_rfl))
 f169 := Tryz.func62.trans (congrArg some (by kernel_rfl))
 f240 := Tryz.func108.trans (congrArg some (by kernel_rfl))
 f241 := Tryz.func266.trans (congrArg some (by kernel_rfl))
 f276 := Tryz.func195.trans (congrArg some (by kernel_rfl))
 f277 := Tryz.func308.trans (congrArg some (by kernel_rfl))
 t0 := Tryz.underlying0
 a0 := Tryz.isAgg0
 z0 := Tryz.sizeOf0
 v0 := Tryz.zeroValue0
 t3 := Tryz.underlying3
 a3 := Tryz.isAgg3
 z3 := Tryz.sizeOf3
 v3 := Tryz.zeroValue3
 t4 := Tryz.underlying4
 a4 := Tryz.isAgg4
 z4 := Tryz.sizeOf4
 v4 := Tryz.zeroValue4
 t9 := Tryz.underlying9
 a9 := Tryz.isAgg9
 z9 := Tryz.sizeOf9
 v9 := Tryz.zeroValue9
 t20 := Tryz.underlying20
 a20 := Tryz.isAgg20
 z20 := Tryz.sizeOf20
 v20 := Tryz.zeroValue20
 t31 := Tryz.underlying64
 a31 := Tryz.isAgg64
 z31 := Tryz.sizeOf64
 v31 := Tryz.zeroValue64
 t37 := Tryz.underlying131
 a37 := Tryz.isAgg131
 z37 := Tryz.sizeOf131
 v37 := Tryz.zeroValue131
 t70 := Tryz.underlying130
 a70 := Tryz.isAgg130
 z70 := Tryz.sizeOf130
 v70 := Tryz.zeroValue130
 t72 := Tryz.underlying133
 a72 := Tryz.isAgg133
 z72 := Tryz.sizeOf133
 v72 := Tryz.zeroValue133
 t75 := Tryz.underlying135
 a75 := Tryz.isAgg135
 z75 := Tryz.sizeOf135
 v75 := Tryz.zeroValue135
 t76 := Tryz.underlying136
 a76 := Tryz.isAgg136
 z76 := Tryz.sizeOf136
 v76 := Tryz.zeroValue136
 t127 := Tryz.underlying218
 a127 := Tryz.isAgg218
 z127 := Tryz.sizeOf218
 v127 := Tryz.zeroValue218
 t164 := Tryz.underlying261
 a164 := Tryz.isAgg261
 z164 := Tryz.sizeOf261
 v164 := Tryz.zeroValue261 }
theorem bldn166 : Lays.n166 Tryz.prog bldRen := {
 mixed := by kernel_rfl
 f166 := Tryz.func56.trans (congrArg some (by kernel_rfl))
 f240 := Tryz.func108.trans (congrArg some (by kernel_rfl))
 f276 := Tryz.func195.trans (congrArg some (by kernel_rfl))
 t0 := Tryz.underlying0
 a0 := Tryz.isAgg0
 z0 := Tryz.sizeOf0
 v0 := Tryz.zeroValue0
 t3 := Tryz.underlying3
 a3 := Tryz.isAgg3
 z3 := Tryz.sizeOf3
 v3 := Tryz.zeroValue3
 t4 := Tryz.underlying4
 a4 := Tryz.isAgg4
 z4 := Tryz.sizeOf4
 v4 := Tryz.zeroValue4
 t9 := Tryz.underlying9
 a9 := Tryz.isAgg9
 z9 := Tryz.sizeOf9
 v9 := Tryz.zeroValue9
 t20 := Tryz.underlying20
 a20 := Tryz.isAgg20
 z20 := Tryz.sizeOf20
 v20 := Tryz.zeroValue20
 t37 := Tryz.underlying131
 a37 := Tryz.isAgg131
 z37 := Tryz.sizeOf131
 v37 := Tryz.zeroValue131
 t70 := Tryz.underlying130
 a70 := Tryz.isAgg130
 z70 := Tryz.sizeOf130
 v70 := Tryz.zeroValue130
 t72 := Tryz.underlying133
 a72 := Tryz.isAgg133
 z72 := Tryz.sizeOf133
 v72 := Tryz.zeroValue133
 t75 := Tryz.underlying135
 a75 := Tryz.isAgg135
 z75 := Tryz.sizeOf135
 v75 := Tryz.zeroValue135
 t164 := Tryz.underlying261
 a164 := Tryz.isAgg261
 z164 := Tryz.sizeOf261
 v164 := Tryz.zeroValue261 }
theorem bldn169 : Lays.n169 Tryz.prog bldRen := {
 mixed := by kernel_rfl
 f169 := Tryz.func62.trans (congrArg some (by kernel_rfl))
 t0 := Tryz.underlying0
 a0 := Tryz.isAgg0
 z0 := Tryz.sizeOf0
 v0 := Tryz.zeroValue0
 t3 := Tryz.underlying3
 a3 := Tryz.isAgg3
 z3 := Tryz.sizeOf3
 v3 := Tryz.zeroValue3
 t9 := Tryz.underlying9
 a9 := Tryz.isAgg9
 z9 := Tryz.sizeOf9
 v9 := Tryz.zeroValue9
 t37 := Tryz.underlying131
 a37 := Tryz.isAgg131
 z37 := Tryz.sizeOf131
 v37 := Tryz.zeroValue131
 t70 := Tryz.underlying130
 a70 := Tryz.isAgg130
 z70 := Tryz.sizeOf130
 v70 := Tryz.zeroValue130
 t72 := Tryz.underlying133
 a72 := Tryz.isAgg133
 z72 := Tryz.sizeOf133
 v72 := Tryz.zeroValue133
 t127 := Tryz.underlying218
 a127 := Tryz.isAgg218
 z127 := Tryz.sizeOf218
 v127 := Tryz.zeroValue218 }
theorem bldn167 : Lays.n167 Tryz.prog bldRen := {
 mixed := by kernel_rfl
 f167 := Tryz.func250.trans (congrArg some (by kernel_rfl))
 f240 := Tryz.func108.trans (congrArg some (by kernel_rfl))
 f276 := Tryz.func195.trans (congrArg some (by kernel_rfl))
 t0 := Tryz.underlying0
 a0 := Tryz.isAgg0
 z0 := Tryz.sizeOf0
 v0 := Tryz.zeroValue0
 t4 := Tryz.underlying4
 a4 := Tryz.isAgg4
 z4 := Tryz.sizeOf4
 v4 := Tryz.zeroValue4
 t5 := Tryz.underlying5
 a5 := Tryz.isAgg5
 z5 := Tryz.sizeOf5
 v5 := Tryz.zeroValue5
 t9 := Tryz.underlying9
 a9 := Tryz.isAgg9
 z9 := Tryz.sizeOf9
 v9 := Tryz.zeroValue9
 t20 := Tryz.underlying20
 a20 := Tryz.isAgg20
 z20 := Tryz.sizeOf20
 v20 := Tryz.zeroValue20
 t37 := Tryz.underlying131
 a37 := Tryz.isAgg131
 z37 := Tryz.sizeOf131
 v37 := Tryz.zeroValue131
 t70 := Tryz.underlying130
 a70 := Tryz.isAgg130
 z70 := Tryz.sizeOf130
 v70 := Tryz.zeroValue130
 t72 := Tryz.underlying133
 a72 := Tryz.isAgg133
 z72 := Tryz.sizeOf133
 v72 := Tryz.zeroValue133
 t75 := Tryz.underlying135
 a75 := Tryz.isAgg135
 z75 := Tryz.sizeOf135
 v75 := Tryz.zeroValue135
 t164 := Tryz.underlying261
 a164 := Tryz.isAgg261
 z164 := Tryz.sizeOf261
 v164 := Tryz.zeroValue261 }
theorem bldX : Builder.Extra Tryz.prog bldRen := {
 sizeBuilder := by kernel_rfl
 liesBuilder := by kernel_rfl
 t5 := Tryz.underlying5
 a5 := Tryz.isAgg5
 z5 := Tryz.sizeOf5
 v5 := Tryz.zeroValue5
 infoByte := by kernel_rfl
 cellsByte := by kernel_rfl
 sizeByte := by kernel_rfl
 neB5 := by decide }
theorem k_write : FnOk Tryz.prog 56 WriteC := bldWrite_ok bldn166 bldX
theorem k_writeB : FnOk Tryz.prog 250 WriteBC := bldWriteB_ok bldn167 bldX
theorem k_string : FnOk Tryz.prog 62 StringC := bldString_ok bldn169 bldX
theorem k_join : FnOk Tryz.prog 110 JoinC := join_ok bldn156 bldX
end Go.Proofs.YtooioahiijbomaaGreatDoor
namespace Go.Proofs.YtooioahiijbomaaGreatDoor
open Go.RowKit Go.Shelf
set_option maxHeartbeats 2000000
set_option maxRecDepth 100000
def idxL_ren : Go.Shelf.Ren := ⟨fun | 15 => 235 | 20 => 290 | n => n, fun | 0 => 0 | 3 => 3 | 4 => 4 | 9 => 9 | 21 => 21 | 23 => 285 | n => n, fun | n => n⟩
theorem idxL : LaysGw.n15 Tryz.prog idxL_ren := {
 mixed := by kernel_rfl
 f15 := Tryz.func235.trans (congrArg some (by kernel_rfl))
 f20 := Tryz.func290.trans (congrArg some (by kernel_rfl))
 t0 := Tryz.underlying0
 a0 := Tryz.isAgg0
 z0 := Tryz.sizeOf0
 v0 := Tryz.zeroValue0
 i0 := by kernel_rfl
 t3 := Tryz.underlying3
 a3 := Tryz.isAgg3
 z3 := Tryz.sizeOf3
 v3 := Tryz.zeroValue3
 i3 := by kernel_rfl
 t4 := Tryz.underlying4
 a4 := Tryz.isAgg4
 z4 := Tryz.sizeOf4
 v4 := Tryz.zeroValue4
 i4 := by kernel_rfl
 t9 := Tryz.underlying9
 a9 := Tryz.isAgg9
 z9 := Tryz.sizeOf9
 v9 := Tryz.zeroValue9
 i9 := by kernel_rfl
 t21 := Tryz.underlying21
 a21 := Tryz.isAgg21
 z21 := Tryz.sizeOf21
 v21 := Tryz.zeroValue21
 i21 := by kernel_rfl
 t23 := Tryz.underlying285
 a23 := Tryz.isAgg285
 z23 := Tryz.sizeOf285
 v23 := Tryz.zeroValue285
 i23 := by kernel_rfl }
theorem k_ranked1 (x : Nat) (W : World) (hx : x ≤ 1114111) : Calls Tryz.prog 236 #[.int .i32 x] W fun e w' => e = .returned (.bool (digR x)) ∧ ∃ q, w' = W.drewN q := by
 unfold digR
 by_cases h1 : x < 48
 ·go_enter Tryz.func236, Tryz.ntmps236
  go_wp2
  go_ret
  exact ⟨by simp [h1], 0, rfl⟩
 ·go_enter Tryz.func236, Tryz.ntmps236
  go_wp2
  go_ret
  exact ⟨by
   simp only [Nat.not_lt] at h1
   have e1 : decide (x < 48) = false := decide_eq_false (by omega)
   have e2 : decide ((x : Int) < 48) = false := decide_eq_false (by omega)
   have e3 : decide ((57 : Int) < x) = decide (57 < x) := by rw [Bool.eq_iff_iff, decide_eq_true_iff, decide_eq_true_iff]; omega
   simp [e1, e2, e3], 0, rfl⟩
theorem k_idx : FnOk Tryz.prog 235 IdxSC := fn_below fun s _ pub w vals hv => by
 obtain ⟨us, h1, hv⟩ := VRels.str_inv hv |>.imp fun _ h => h
 obtain ⟨u2, us2, h2, hu2, hnil⟩ := hv.cons_inv
 have hn0 := hnil.nil_inv
 subst hn0
 have hc2 : u2 = .func (.func 236) #[] #[] := by
  cases hu2 with
  | clo f hl h =>
   rename_i a
   have : a = #[] := Array.eq_empty_of_size_eq_zero (by simpa using hl)
   rw [this]
 subst hc2
 obtain rfl : vals = #[.string s, .func (.func 236) #[] #[]] := Array.toList_inj.1 (by rw [h1, h2])
 have hC := Any.strings_IndexFunc_runes idxL 236 #[] (enters_of Tryz.func236 (by kernel_rfl) rfl) digR s w (fun W x hx _ => k_ranked1 x W hx)
 exact hC.mono fun e w' ⟨he, hb⟩ => ⟨hb, _, he, fun _ _ => .int _ _⟩
end Go.Proofs.YtooioahiijbomaaGreatDoor
namespace Go.Proofs.YtooioahiijbomaaGreatDoor
open Go.RowKit
set_option maxRecDepth 100000
theorem k_digits : FnOk Tryz.prog 43 ItoC := body_ok (by kernel_rfl) (digits_body _ k_fmt)
theorem k_count : FnOk Tryz.prog 173 ItoC := body_ok (by kernel_rfl) (count_body _ k_itoa)
theorem k_fields : FnOk Tryz.prog 89 FieldsC := body_ok (by kernel_rfl) (fields_body _)
theorem k_inv : FnOk Tryz.prog 84 InvC := body_ok (by kernel_rfl) (inv_body _ k_digits k_count k_fields)
theorem k_marks : FnOk Tryz.prog 87 MarksC := body_ok (by kernel_rfl) (marks_body _ k_join)
theorem k_tellP : FnOk Tryz.prog 249 TellPC := body_ok (by kernel_rfl) (tellP_body _ k_itoa (wr_of k_write) (wb_of 10 k_writeB))
theorem k_size : FnOk Tryz.prog 251 SizeC := body_ok (by kernel_rfl) (size_body _)
theorem k_counts : FnOk Tryz.prog 319 CountsC := body_ok (by kernel_rfl) (counts_body _)
theorem k_rising : FnOk Tryz.prog 318 RisingC := body_ok (by kernel_rfl) (rising_body _ sortLo_ok)
theorem k_ljoin : FnOk Tryz.prog 297 LJoinC := body_ok (by kernel_rfl) (ljoin_body _ k_counts k_rising)
theorem k_content : FnOk Tryz.prog 252 ContC := body_ok (by kernel_rfl) (content_body _ k_ljoin)
theorem k_list : FnOk Tryz.prog 174 ListC := body_ok (by kernel_rfl) (list_body _ ⟨⟨by kernel_rfl⟩, k_tellP, k_size, k_content, (wrE_of k_write), (wr_of k_write), (strT_of k_string)⟩)
theorem k_pak : FnOk Tryz.prog 85 PakC := body_ok (by kernel_rfl) (pak_body _ k_count k_marks k_list k_fields)
theorem k_ori : FnOk Tryz.prog 88 OriC := body_ok (by kernel_rfl) (ori_body _ k_count k_fields)
theorem k_place1 : FnOk Tryz.prog 186 PlC1 := body_ok (by kernel_rfl) (place1_body _)
theorem k_idxF : FnOk Tryz.prog 185 IdxFC := body_ok (by kernel_rfl) (idxF_body _ ⟨by kernel_rfl⟩ k_place1)
theorem k_place : FnOk Tryz.prog 97 PlaceC := body_ok (by kernel_rfl) (place_body _ k_idxF)
theorem k_get : FnOk Tryz.prog 40 GetC := body_ok (by kernel_rfl) (get_body _ k_place)
theorem k_is : FnOk Tryz.prog 86 IsC := body_ok (by kernel_rfl) (is_body _)
theorem k_alike : FnOk Tryz.prog 83 AlikeC := body_ok (by kernel_rfl) (alike_body _ k_get k_is)
theorem k_need : FnOk Tryz.prog 82 NeedC := body_ok (by kernel_rfl) (need_body _)
theorem k_want : FnOk Tryz.prog 29 WantC := body_ok (by kernel_rfl) (want_body _ ⟨k_inv, k_pak, k_ori, k_alike, k_need, k_is, k_marks⟩)
theorem k_asks : FnOk Tryz.prog 7 AsksC := body_ok (by kernel_rfl) (asks_body _ k_want)
theorem k_isLetter : FnOk Tryz.prog 283 (ByC letB) := body_ok (by kernel_rfl) (isLetter_body _)
theorem k_isDigit : FnOk Tryz.prog 284 (ByC digB) := body_ok (by kernel_rfl) (isDigit_body _)
theorem k_name : FnOk Tryz.prog 222 (StrC (fun _ => True) nameB) := body_ok (by kernel_rfl) (name_body _ k_isLetter k_isDigit)
theorem k_tblank : FnOk Tryz.prog 79 (ByC blB) := body_ok (by kernel_rfl) (tblank_body _)
theorem k_run_1 : FnOk Tryz.prog 78 (RunC 79 blB) := body_ok (by kernel_rfl) (run_body _ 79 blB ⟨by kernel_rfl⟩ k_tblank)
theorem k_tdigit : FnOk Tryz.prog 234 (ByC digB) := body_ok (by kernel_rfl) (tdigit_body _)
theorem k_tsmall : FnOk Tryz.prog 163 (ByC smB) := body_ok (by kernel_rfl) (tsmall_body _ k_tdigit)
theorem k_tlarge : FnOk Tryz.prog 165 (ByC lgB) := body_ok (by kernel_rfl) (tlarge_body _)
theorem k_run_2 : FnOk Tryz.prog 78 (RunC 163 smB) := body_ok (by kernel_rfl) (run_body _ 163 smB ⟨by kernel_rfl⟩ k_tsmall)
theorem k_run_3 : FnOk Tryz.prog 78 (RunC 165 lgB) := body_ok (by kernel_rfl) (run_body _ 165 lgB ⟨by kernel_rfl⟩ k_tlarge)
theorem k_bounded : FnOk Tryz.prog 237 BoundC := body_ok (by kernel_rfl) (bounded_body _)
theorem k_treserved : FnOk Tryz.prog 238 (StrC (fun _ => True) resB) := body_ok (by kernel_rfl) (treserved_body _)
theorem k_ranked : FnOk Tryz.prog 164 RankC := body_ok (by kernel_rfl) (ranked_body _ k_idx k_bounded k_treserved k_name)
theorem k_tquote : FnOk Tryz.prog 239 (ByC txB) := body_ok (by kernel_rfl) (tquote_body _)
theorem k_run_4 : FnOk Tryz.prog 78 (RunC 239 txB) := body_ok (by kernel_rfl) (run_body _ 239 txB ⟨by kernel_rfl⟩ k_tquote)
theorem k_quoted : FnOk Tryz.prog 166 (NxC quotM) := body_ok (by kernel_rfl) (quoted_body _ ⟨by kernel_rfl⟩ k_run_4)
theorem k_sign : FnOk Tryz.prog 167 (NxC signM) := body_ok (by kernel_rfl) (sign_body _)
theorem k_next : FnOk Tryz.prog 80 NextC := body_ok (by kernel_rfl) (next_body _ ⟨⟨by kernel_rfl⟩, k_tsmall, ⟨by kernel_rfl⟩, k_tlarge, k_run_2, k_run_3, k_ranked, k_quoted, k_sign⟩)
theorem k_scan : FnOk Tryz.prog 27 ScanC := body_ok (by kernel_rfl) (scan_body _ ⟨by kernel_rfl⟩ k_run_1 k_next)
theorem k_named : FnOk Tryz.prog 223 NamedC := body_ok (by kernel_rfl) (named_body _)
theorem k_isName : FnOk Tryz.prog 141 IsNmC := body_ok (by kernel_rfl) (isName_body _ k_name k_scan k_named)
theorem k_isCode : FnOk Tryz.prog 142 IsCdC := body_ok (by kernel_rfl) (isCode_body _ k_scan)
theorem k_between : FnOk Tryz.prog 143 BtwC := body_ok (by kernel_rfl) (between_body _)
theorem k_isPaper : FnOk Tryz.prog 201 IsPaC := body_ok (by kernel_rfl) (isPaper_body _)
theorem k_always : FnOk Tryz.prog 149 AlC := body_ok (by kernel_rfl) (always_body _)
theorem k_withinA : FnOk Tryz.prog 225 WiAC := body_ok (by kernel_rfl) (withinA_body _)
theorem k_wi1 : FnOk Tryz.prog 285 Wi1C := body_ok (by kernel_rfl) (wi1_body _ k_withinA)
theorem k_ixW : FnOk Tryz.prog 267 IxWC := body_ok (by kernel_rfl) (ixW_body _ ⟨by kernel_rfl⟩ k_wi1)
theorem k_cfW : FnOk Tryz.prog 198 CfWC := body_ok (by kernel_rfl) (cfW_body _ k_ixW)
theorem k_withinN : FnOk Tryz.prog 225 WiNC := body_ok (by kernel_rfl) (withinN_body _ k_cfW)
theorem k_isText : FnOk Tryz.prog 200 IsTxC := body_ok (by kernel_rfl) (isText_body _)
theorem k_ruleMayA : FnOk Tryz.prog 111 RmAC := body_ok (by kernel_rfl) (ruleMayA_body _ k_isName k_isText)
theorem k_rm1 : FnOk Tryz.prog 199 RmAC := body_ok (by kernel_rfl) (rm1_body _ k_ruleMayA)
theorem k_ixR : FnOk Tryz.prog 267 IxRC := body_ok (by kernel_rfl) (ixR_body _ ⟨by kernel_rfl⟩ k_rm1)
theorem k_cfR : FnOk Tryz.prog 198 CfRC := body_ok (by kernel_rfl) (cfR_body _ k_ixR)
theorem k_ruleMayN : FnOk Tryz.prog 111 RmNC := body_ok (by kernel_rfl) (ruleMayN_body _ k_cfR)
theorem k_needMay : FnOk Tryz.prog 146 NmC := body_ok (by kernel_rfl) (needMay_body _ ⟨k_isPaper, k_between, k_always, k_withinN, k_ruleMayN⟩)
theorem k_cm1 : FnOk Tryz.prog 145 NmC := body_ok (by kernel_rfl) (cm1_body _ k_needMay)
theorem k_ixNe : FnOk Tryz.prog 224 IxNeC := body_ok (by kernel_rfl) (ixNe_body _ ⟨by kernel_rfl⟩ k_cm1)
theorem k_cfNe : FnOk Tryz.prog 144 CfNeC := body_ok (by kernel_rfl) (cfNe_body _ k_ixNe)
theorem k_creditMay : FnOk Tryz.prog 74 CrMayC := body_ok (by kernel_rfl) (creditMay_body _ ⟨k_isName, k_isCode, k_between, k_cfNe⟩)
theorem k_lineE : FnOk Tryz.prog 147 LiEC := body_ok (by kernel_rfl) (lineE_body _ k_join (wrE_of k_write))
theorem k_lineT : FnOk Tryz.prog 147 LiTC := body_ok (by kernel_rfl) (lineT_body _ k_join (wr_of k_write))
theorem k_yesNo : FnOk Tryz.prog 148 YnC := body_ok (by kernel_rfl) (yesNo_body _)
theorem k_alwaysF : FnOk Tryz.prog 149 AlFC := body_ok (by kernel_rfl) (alwaysF_body _)
theorem k_showAE : FnOk Tryz.prog 112 ShAEC := body_ok (by kernel_rfl) (showAE_body _ k_fmt (wrE_of k_write))
theorem k_brAE : FnOk Tryz.prog 203 BrAEC := body_ok (by kernel_rfl) (brAE_body _ k_showAE)
theorem k_showAT : FnOk Tryz.prog 112 ShATC := body_ok (by kernel_rfl) (showAT_body _ k_fmt (wr_of k_write))
theorem k_brAT : FnOk Tryz.prog 203 BrATC := body_ok (by kernel_rfl) (brAT_body _ k_showAT)
theorem k_row : FnOk Tryz.prog 202 RwC := body_ok (by kernel_rfl) (row_body _ (wr_of k_write) k_brAE k_brAT)
theorem k_showN : FnOk Tryz.prog 112 ShNC := body_ok (by kernel_rfl) (showN_body _ k_row)
theorem k_Show : FnOk Tryz.prog 59 ShowC := body_ok (by kernel_rfl) (Show_body _ k_ruleMayN k_showN (strT_of k_string))
theorem k_synWrite : FnOk Tryz.prog 75 WrtC := body_ok (by kernel_rfl) (write_body _ ⟨⟨by kernel_rfl⟩, k_lineE, k_lineT, k_fmt, k_itoa, k_yesNo, k_alwaysF, k_Show, (strT_of k_string)⟩)
theorem k_print : FnOk Tryz.prog 25 PrintC := body_ok (by kernel_rfl) (print_body _ k_creditMay k_synWrite)
theorem k_may : FnOk Tryz.prog 30 MayC := body_ok (by kernel_rfl) (may_body _ k_print)
theorem k_lad : FnOk Tryz.prog 90 LadC := body_ok (by kernel_rfl) (lad_body _ k_count k_join k_fields)
theorem k_cloneF : FnOk Tryz.prog 53 CloneFC := body_ok (by kernel_rfl) (cloneF_body _)
theorem k_copyD : FnOk Tryz.prog 36 CopyDC := body_ok (by kernel_rfl) (copyD_body _ k_cloneF)
theorem k_docSet : FnOk Tryz.prog 32 DocSetC := body_ok (by kernel_rfl) (docSet_body _ k_inv k_pak k_lad k_ori k_copyD)
theorem k_cov : FnOk Tryz.prog 31 CovC := body_ok (by kernel_rfl) (cov_body _ k_digits k_fields)
theorem k_papers : FnOk Tryz.prog 8 PapersC := body_ok (by kernel_rfl) (papers_body _ k_want k_may k_docSet k_cov)
theorem k_isC : FnOk Tryz.prog 175 IsCC := body_ok (by kernel_rfl) (isC_body _)
theorem k_isW : FnOk Tryz.prog 176 IsWC := body_ok (by kernel_rfl) (isW_body _)
theorem k_tell : FnOk Tryz.prog 33 TellC := body_ok (by kernel_rfl) (tell_body _)
theorem k_askI : FnOk Tryz.prog 177 AskIC := body_ok (by kernel_rfl) (askI_body _ k_get ⟨by kernel_rfl⟩ k_isW ⟨by kernel_rfl⟩ k_tell)
theorem k_tol : FnOk Tryz.prog 298 TolC := body_ok (by kernel_rfl) (tol_body _)
theorem k_bnd : FnOk Tryz.prog 253 BndC := body_ok (by kernel_rfl) (bnd_body _ k_tol)
theorem k_most1 : FnOk Tryz.prog 254 MostC1 := body_ok (by kernel_rfl) (most1_body _)
theorem k_most : FnOk Tryz.prog 179 MostC := body_ok (by kernel_rfl) (most_body _ k_bnd k_most1)
theorem k_least1 : FnOk Tryz.prog 255 LeastC1 := body_ok (by kernel_rfl) (least1_body _)
theorem k_least : FnOk Tryz.prog 180 MostC := body_ok (by kernel_rfl) (least_body _ k_bnd k_least1)
theorem k_sumW : FnOk Tryz.prog 178 (WCtr 178 sumW) := body_ok (by kernel_rfl) (sumW_body _ k_fnumber k_most k_least)
theorem k_askX_5 : FnOk Tryz.prog 177 (AskXC 178 sumW) := body_ok (by kernel_rfl) (askX_body _ 178 sumW k_get ⟨by kernel_rfl⟩ k_sumW ⟨by kernel_rfl⟩ k_tell)
theorem k_xinvoice : FnOk Tryz.prog 91 InvoiceXC := body_ok (by kernel_rfl) (xinvoice_body _ ⟨by kernel_rfl⟩ k_isC k_askI k_askX_5)
theorem k_beh : FnOk Tryz.prog 182 BehC := body_ok (by kernel_rfl) (beh_body _)
theorem k_issW : FnOk Tryz.prog 181 (WCtr 181 issW) := body_ok (by kernel_rfl) (issW_body _ k_fnumber k_beh)
theorem k_askX_6 : FnOk Tryz.prog 177 (AskXC 181 issW) := body_ok (by kernel_rfl) (askX_body _ 181 issW k_get ⟨by kernel_rfl⟩ k_issW ⟨by kernel_rfl⟩ k_tell)
theorem k_xlading : FnOk Tryz.prog 92 LadingC := body_ok (by kernel_rfl) (xlading_body _ k_askX_6)
theorem k_atom : FnOk Tryz.prog 184 AtomC := body_ok (by kernel_rfl) (atom_body _ k_fnumber)
theorem k_holds : FnOk Tryz.prog 95 HoldsC := body_ok (by kernel_rfl) (holds_body _ k_get k_atom)
theorem k_isAtom : FnOk Tryz.prog 96 IsAC := body_ok (by kernel_rfl) (isAtom_body _)
theorem k_rule : FnOk Tryz.prog 94 RuleC := body_ok (by kernel_rfl) (rule_body _ k_holds k_isAtom ⟨by kernel_rfl⟩ k_tell)
theorem k_partsA : FnOk Tryz.prog 93 PartsAC := body_ok (by kernel_rfl) (partsA_body _ ⟨by kernel_rfl⟩ k_rule)
theorem k_partsN : FnOk Tryz.prog 93 PartsNC := body_ok (by kernel_rfl) (partsN_body _ k_partsA)
theorem k_paper : FnOk Tryz.prog 34 PaperC := body_ok (by kernel_rfl) (paper_body _ k_xinvoice k_xlading k_partsN)
theorem k_others : FnOk Tryz.prog 35 OthersC := body_ok (by kernel_rfl) (others_body _ k_get ⟨by kernel_rfl⟩ k_tell)
theorem k_examine : FnOk Tryz.prog 10 ExamineC := body_ok (by kernel_rfl) (examine_body _ k_paper k_others ⟨by kernel_rfl⟩ k_tell)
theorem k_fine : FnOk Tryz.prog 9 FineC := body_ok (by kernel_rfl) (fine_body _ k_examine)
theorem k_kd1 : FnOk Tryz.prog 39 KdC1 := body_ok (by kernel_rfl) (kd1_body _)
theorem k_idxV : FnOk Tryz.prog 38 IdxVC := body_ok (by kernel_rfl) (idxV_body _ ⟨by kernel_rfl⟩ k_kd1)
theorem k_placeV : FnOk Tryz.prog 37 PlaceVC := body_ok (by kernel_rfl) (placeV_body _ k_idxV)
theorem k_set : FnOk Tryz.prog 55 SetC := body_ok (by kernel_rfl) (set_body _ k_place k_cloneF)
theorem k_spoil : FnOk Tryz.prog 42 SpoilC := body_ok (by kernel_rfl) (spoil_body _ k_set)
theorem k_spoilt : FnOk Tryz.prog 11 SpoiltC := body_ok (by kernel_rfl) (spoilt_body _ ⟨k_copyD, ⟨by kernel_rfl⟩, k_placeV, k_get, k_fnumber, k_digits, k_spoil, del_ok⟩)
theorem k_so : FnOk Tryz.prog 12 SoC := body_ok (by kernel_rfl) (so_body _ k_get k_spoil)
theorem k_tc : FnOk Tryz.prog 3 TcC := body_ok (by kernel_rfl) (tc_body _ ⟨k_asks, k_papers, k_fine, k_examine, k_spoilt, k_so⟩)
end Go.Proofs.YtooioahiijbomaaGreatDoor
namespace Go.Proofs.YtooioahiijbomaaGreatDoor
open Go.ChangeShapes Go.WideShapes Go.Deep Go.RowKit
inductive Sh where
 | int (k : IntKind)
 | str
 | bl
 | sl (sz : Nat) (e : Sh)
 | st (l : List Sh)
mutual
def Sh.width : Sh → Nat
 | .int _ => 1
 | .str => 1
 | .bl => 1
 | .sl _ _ => 1
 | .st l => Sh.widthL l
def Sh.widthL : List Sh → Nat
 | [] => 0
 | s :: l => s.width + Sh.widthL l
end
mutual
def Op (B : Nat) : Sh → List AV → Prop
 | .int k, cs => ∃ n, cs = [.int k n] ∧ (Lit.int k n).wf = true
 | .str, cs => ∃ s, cs = [.str s] ∧ s.size ≤ maxLen ∧ s.size ≤ B
 | .bl, cs => ∃ b, cs = [.bl b]
 | .sl sz e, cs => ∃ xs, cs = [.sl sz xs] ∧ xs.length ≤ maxLen ∧ ∀ x ∈ xs, x = elemAV sz x.cells ∧ Op B e x.cells
 | .st l, cs => OpL B l cs
def OpL (B : Nat) : List Sh → List AV → Prop
 | [], cs => cs = []
 | s :: l, cs => ∃ a b, cs = a ++ b ∧ Op B s a ∧ OpL B l b
end
mutual
theorem Op.one {B : Nat} : ∀ (s : Sh) (cs : List AV), Op B s cs → cs.all AV.one = true
 | .int k, cs, h => by unfold Op at h; obtain ⟨n, rfl, _⟩ := h; rfl
 | .str, cs, h => by unfold Op at h; obtain ⟨n, rfl, _⟩ := h; rfl
 | .bl, cs, h => by unfold Op at h; obtain ⟨n, rfl⟩ := h; rfl
 | .sl sz e, cs, h => by unfold Op at h; obtain ⟨xs, rfl, _⟩ := h; rfl
 | .st l, cs, h => by unfold Op at h; exact OpL.one l cs h
theorem OpL.one {B : Nat} : ∀ (l : List Sh) (cs : List AV), OpL B l cs → cs.all AV.one = true
 | [], cs, h => by unfold OpL at h; subst h; rfl
 | s :: l, cs, h => by
  unfold OpL at h
  obtain ⟨a, b, rfl, h1, h2⟩ := h
  rw [List.all_append, Op.one s a h1, OpL.one l b h2]
  rfl
end
def shFs (P : Program) (g : TypeId → Option Sh) : List Field → Nat → Nat → Option (List Sh)
 | [], off, tot => if off = tot then some [] else none
 | f :: l, off, tot => if f.offset = off then match g f.type, shFs P g l (off + P.cellsOf f.type) tot with
   | some s, some r => some (s :: r)
   | _, _ => none
  else none
mutual
theorem Op.len {B : Nat} : ∀ (s : Sh) (cs : List AV), Op B s cs → cs.length = s.width
 | .int k, cs, h => by unfold Op at h; obtain ⟨n, rfl, _⟩ := h; rfl
 | .str, cs, h => by unfold Op at h; obtain ⟨n, rfl, _⟩ := h; rfl
 | .bl, cs, h => by unfold Op at h; obtain ⟨n, rfl⟩ := h; rfl
 | .sl sz e, cs, h => by unfold Op at h; obtain ⟨xs, rfl, _⟩ := h; rfl
 | .st l, cs, h => by unfold Op at h; exact OpL.len l cs h
theorem OpL.len {B : Nat} : ∀ (l : List Sh) (cs : List AV), OpL B l cs → cs.length = Sh.widthL l
 | [], cs, h => by unfold OpL at h; subst h; rfl
 | s :: l, cs, h => by
  unfold OpL at h
  obtain ⟨a, b, rfl, h1, h2⟩ := h
  rw [List.length_append, Op.len s a h1, OpL.len l b h2]
  rfl
end
def shOf (P : Program) : Nat → TypeId → Option Sh
 | 0, _ => none
 | n + 1, t => match P.underlying t with
  | some .bool => some .bl
  | some (.int k) => some (.int k)
  | some .string => some .str
  | some (.slice e) => match shOf P n e with
   | some s => if s.width = P.cellsOf e then some (.sl (P.cellsOf e) s) else none
   | none => none
  | some (.struct fs) => (shFs P (shOf P n) fs.toList 0 (P.cellsOf t)).map .st
  | _ => none
def pubW (w : World) : Pub := fun b => match w.heap[b]? with
 | some (.cells arr _ _) => arr.size
 | _ => 0
theorem pubW_cell {w : World} {b i : Nat} {u : Value} (h : w.cell? ⟨b, i, none⟩ = some u) : i < pubW w b := by
 unfold World.cell? at h
 unfold pubW
 cases hb : w.heap[b]? with
 | none => simp [hb] at h
 | some o =>
  cases o <;> simp [hb] at h ⊢
  rename_i arr _ _
  rcases Nat.lt_or_ge i arr.size with h1 | h1
  ·exact h1
  ·rw [Array.getElem?_eq_none h1] at h; simp at h
theorem pubW_there {w : World} {b i : Nat} (h : i < pubW w b) : ∃ u, w.cell? ⟨b, i, none⟩ = some u := by
 unfold pubW at h
 cases hb : w.heap[b]? with
 | none => simp [hb] at h
 | some o =>
  cases o <;> simp [hb] at h
  rename_i arr _ _
  exact ⟨arr[i], by unfold World.cell?; simp [hb, Array.getElem?_eq_getElem h]⟩
theorem Mod.door (w : World) (hg : GlobOk (pubW w) w) : Mod (pubW w) w rho0 [] :=
 ⟨fun k e he => (by simp at he), fun _ _ => rfl, (fun _ _ _ _ _ h => by cases h), (fun b hb => by unfold pubW; rw [Array.getElem?_eq_none hb]), fun b i hi => pubW_there hi, hg⟩
theorem elemAV_cells_ {sz : Nat} {l : List AV} (hl : l.length = sz) (h1 : l.all AV.one = true) : (elemAV sz l).cells = l := elemAV_cells hl h1
theorem of_each_ {α : Type} {p : Nat → α → Prop} : ∀ (n : Nat), (∀ i, i < n → ∃ a, p i a) → ∃ l : List α, l.length = n ∧ ∀ i (h : i < l.length), p i l[i]
 | 0, _ => ⟨[], rfl, fun i h => by simp at h⟩
 | n + 1, h => by
  obtain ⟨l, hl, hp⟩ := of_each_ n (fun i hi => h i (by omega))
  obtain ⟨a, ha⟩ := h n (by omega)
  refine ⟨l ++ [a], by simp [hl], fun i hi => ?_⟩
  by_cases h1 : i < l.length
  ·rw [List.getElem_append_left h1]; exact hp i h1
  ·simp at hi
   obtain rfl : i = n := by omega
   subst hl
   simpa using ha
theorem Addr_add_none (b o n : Nat) : (⟨b, o, none⟩ : Addr).add n = ⟨b, o + n, none⟩ := by unfold Addr.add; split <;> simp_all
section
variable {B : Nat}
variable {H : Type} {enc : TypeId × Value → H} {P : Program} {w : World} {base : Nat} {spare : Nat → Bool} {held : Bool}
theorem VRels.single {x : AV} {u : Value} {pub : Pub} {r : Rho} (h : VRel pub w r x u) : VRels pub w r [x] [u] := .cons h .nil
def topAV : Sh → List AV → AV
 | .st _, cz => .agg cz
 | _, cz => cz.headD .any
theorem cells_one_ {v : Value} (h : ∀ cs, v ≠ .agg cs) : v.cells.toList = [v] := by
 cases v with
 | agg cs => exact absurd rfl (h cs)
 | _ => rfl
theorem op_list {α : Type} {sz : Nat} {e : Sh} {f : α → AV} {q : α → Prop} (h : ∀ cz, Op B e cz → ∃ x : α, elemAV sz cz = f x ∧ q x) {cs : List AV} (ho : Op B (.sl sz e) cs) : ∃ L : List α, cs = [.sl sz (mapA f L)] ∧ L.length ≤ maxLen ∧ ∀ x ∈ L, q x := by
 unfold Op at ho
 obtain ⟨xs, rfl, hl, hx⟩ := ho
 have key : ∀ xs : List AV, (∀ x ∈ xs, x = elemAV sz x.cells ∧ Op B e x.cells) → ∃ L : List α, xs = mapA f L ∧ ∀ x ∈ L, q x := fun xs => by
  induction xs with
  | nil => exact fun _ => ⟨[], rfl, fun x hx => by cases hx⟩
  | cons y ys ih =>
   intro hx
   obtain ⟨L, rfl, hL⟩ := ih fun x hm => hx x (List.mem_cons_of_mem _ hm)
   obtain ⟨e1, e2⟩ := hx y (List.mem_cons_self ..)
   obtain ⟨x, hf, hq⟩ := h _ e2
   refine ⟨x :: L, ?_, fun z hz => ?_⟩
   ·show y :: mapA f L = f x :: mapA f L
    rw [e1, hf]
   ·rcases List.mem_cons.1 hz with rfl | hz
    ·exact hq
    ·exact hL z hz
 obtain ⟨L, rfl, hL⟩ := key xs hx
 exact ⟨L, rfl, by rwa [mapA_len] at hl, hL⟩
theorem wf_i64 {n : Int} (h : (Lit.int .i64 n).wf = true) : -9223372036854775808 ≤ n ∧ n ≤ 9223372036854775807 := by
 simp only [Lit.wf, Bool.and_eq_true, decide_eq_true_eq] at h
 have h1 : IntKind.i64.min = -9223372036854775808 := rfl
 have h2 : IntKind.i64.max = 9223372036854775807 := rfl
 omega
theorem wf_u8 {n : Int} (h : (Lit.int .u8 n).wf = true) : 0 ≤ n ∧ n ≤ 255 := by
 simp only [Lit.wf, Bool.and_eq_true, decide_eq_true_eq] at h
 have h1 : IntKind.u8.min = 0 := rfl
 have h2 : IntKind.u8.max = 255 := rfl
 omega
theorem walk_of {f : Nat} {c : Ctr} (hf : FnOk P f c) {args : List AV} {vals : Array Value} (hv : VRels (pubW w) w rho0 args vals.toList) (hc : c args [] fun x _ => x = .bl true) (hg : GlobOk (pubW w) w) :
  Calls P f vals w fun e w' => e = .returned (.bool true) ∧ Below w.heap.size w w' := by
 refine (hf args [] _ hc w rho0 (pubW w) vals (Mod.door w hg) hv).mono fun e w' ⟨v, x, H', r', pub', he, hx, hvx, _, hfr, _⟩ => ?_
 subst he
 subst hx
 cases hvx
 exact ⟨rfl, hfr.os, hfr.tape, hfr.output, hfr.size, fun j hj => (hfr.keep j hj (fun ⟨_, _, h, _⟩ => by cases h)).1⟩
end
end Go.Proofs.YtooioahiijbomaaGreatDoor
namespace Go.Proofs.YtooioahiijbomaaGreatDoor
open Go.ChangeShapes Go.WideShapes Go.Deep Go.RowKit
mutual
def AV.wt : AV → Nat
 | .str s => s.size + 1
 | .sl _ xs => AV.wtL xs + 1
 | .agg l => AV.wtL l + 1
 | _ => 1
def AV.wtL : List AV → Nat
 | [] => 0
 | x :: l => AV.wt x + AV.wtL l
end
theorem wtL_app : ∀ (l m : List AV), AV.wtL (l ++ m) = AV.wtL l + AV.wtL m
 | [], m => by rw [List.nil_append]; unfold AV.wtL; omega
 | x :: l, m => by
  rw [List.cons_append]
  show AV.wt x + AV.wtL (l ++ m) = AV.wt x + AV.wtL l + AV.wtL m
  rw [wtL_app l m]
  omega
def Sh.sb : Sh → Nat
 | .st _ => 1
 | _ => 0
theorem wt_elem {e : Sh} {cz : List AV} (ho : Op maxLen e cz) : AV.wt (elemAV e.width cz) ≤ AV.wtL cz + e.sb := by
 have hl := Op.len _ _ ho
 unfold elemAV
 split
 ·match cz, hl with
  | [], _ => simp_all
  | [c], _ => exact Nat.le_add_right _ _
  | _ :: _ :: _, _ => simp_all
 ·cases e with
  | st l => exact Nat.le_refl _
  | _ => exact absurd rfl ‹_›
theorem wtL_elems {H : Type} {sz : Nat} : ∀ (A : List (List AV)) (E : List (DataW H)), A.length = E.length → (∀ (i : Nat) (cz : List AV) (d : DataW H), A[i]? = some cz → E[i]? = some d → AV.wt (elemAV sz cz) ≤ Rows.uptoBulk d) → AV.wtL (A.map (elemAV sz)) ≤ Rows.uptoBulkAll E
 | [], _, _, _ => Nat.zero_le _
 | cz :: A, [], h, _ => by cases h
 | cz :: A, d :: E, h, hp => by
  have h1 := hp 0 cz d rfl rfl
  have h2 := wtL_elems A E (by simpa using h) fun i c e hc he => hp (i + 1) c e (by simpa using hc) (by simpa using he)
  show AV.wt (elemAV sz cz) + AV.wtL (A.map (elemAV sz)) ≤ Rows.uptoBulk d + Rows.uptoBulkAll E
  omega
section
variable {H : Type} {enc : TypeId × Value → H} {P : Program} {w : World} {base : Nat} {spare : Nat → Bool} {held : Bool}
theorem open_fsW {g : TypeId → Option Sh} {cs : List Value} (hg : ∀ t s, g t = some s → ∀ fuel cs x, DataW.trod enc P w base spare held fuel t cs = some x → ∃ cz, Op maxLen s cz ∧ VRels (pubW w) w rho0 cz cs ∧ AV.wtL cz + s.sb ≤ Rows.uptoBulk x.1) :
  ∀ (l : List Field) (ds : List (DataW H)) (off tot : Nat) (ss : List Sh), shFs P g l off tot = some ss → cs.length = tot → ds.length = l.length → (∀ (j : Nat) (f : Field), l[j]? = some f → ∃ fuel y, ds[j]? = some y.1 ∧ DataW.trod enc P w base spare held fuel f.type ((cs.drop f.offset).take (P.cellsOf f.type)) = some y) →
   ∃ cz, OpL maxLen ss cz ∧ VRels (pubW w) w rho0 cz (cs.drop off) ∧ AV.wtL cz ≤ Rows.uptoBulkAll ds
 | [], ds, off, tot, ss, h, hl, hd, _ => by
  unfold shFs at h
  split at h
  ·cases h
   rename_i e
   refine ⟨[], by unfold OpL; rfl, ?_, Nat.zero_le _⟩
   rw [List.drop_eq_nil_of_le (by omega)]
   exact .nil
  ·cases h
 | f :: l, [], off, tot, ss, h, hl, hd, hf => by cases hd
 | f :: l, d :: ds, off, tot, ss, h, hl, hd, hf => by
  unfold shFs at h
  split at h
  ·rename_i e
   split at h
   ·rename_i s r hs hr
    cases h
    obtain ⟨fuel, y, hdy, hy⟩ := hf 0 f rfl
    obtain rfl : d = y.1 := Option.some.inj hdy
    obtain ⟨cz1, h1, h2, hw1⟩ := hg _ _ hs _ _ _ hy
    obtain ⟨cz2, h3, h4, hw2⟩ := open_fsW hg l ds _ tot r hr hl (by simpa using hd) (fun j f hm => hf (j + 1) f (by simpa using hm))
    refine ⟨cz1 ++ cz2, by unfold OpL; exact ⟨cz1, cz2, rfl, h1, h3⟩, ?_, ?_⟩
    ·rw [e] at h2
     have := h2.app h4
     rw [← List.drop_drop, List.take_append_drop] at this
     exact this
    ·rw [wtL_app]
     show _ ≤ Rows.uptoBulk y.1 + Rows.uptoBulkAll ds
     omega
   ·cases h
  ·cases h
theorem open_cellsW : ∀ (n : Nat) (t : TypeId) (s : Sh), shOf P n t = some s → ∀ (fuel : Nat) (cs : List Value) (x : DataW H × List MemPlace), DataW.trod enc P w base spare held fuel t cs = some x → ∃ cz, Op maxLen s cz ∧ VRels (pubW w) w rho0 cz cs ∧ AV.wtL cz + s.sb ≤ Rows.uptoBulk x.1
 | 0, t, s, h => by cases h
 | n + 1, t, s, h => by
  intro fuel cs x hx
  have ih := open_cellsW n
  unfold shOf at h
  split at h
  ·rename_i ht
   cases h
   obtain ⟨b, rfl, rfl⟩ := DataW.trod_bool ht hx
   exact ⟨[.bl b], by unfold Op; exact ⟨b, rfl⟩, .single (.bl b), by show 1 + 0 + 0 ≤ 1; omega⟩
  ·rename_i k ht
   cases h
   obtain ⟨b, rfl, rfl, hw⟩ := DataW.trod_int ht hx
   exact ⟨[.int k b], by unfold Op; exact ⟨b, rfl, hw⟩, .single (.int k b), by show 1 + 0 + 0 ≤ 1; omega⟩
  ·rename_i ht
   cases h
   obtain ⟨b, rfl, rfl, hw⟩ := DataW.trod_string ht hx
   have h4 : b.data.toList.length = b.size := by rw [Array.length_toList]; rfl
   exact ⟨[.str b], by unfold Op; exact ⟨b, rfl, hw, hw⟩, .single (.str b), by show b.size + 1 + 0 + 0 ≤ b.data.toList.length + 1; omega⟩
  ·rename_i e ht
   split at h
   ·rename_i se hse
    split at h
    ·rename_i hwd
     cases h
     rcases open_slice ht hx with ⟨rfl, rfl⟩ | ⟨a, len, cap, m, n', D, Pl, rfl, _, hl, hm, hmm, rfl, hi⟩
     ·refine ⟨[.sl (P.cellsOf e) []], by unfold Op; exact ⟨[], rfl, Nat.zero_le _, fun x hx => by cases hx⟩, .single (.sl (A := none) (c := 0) (xs := []) (Nat.le_refl _) (by unfold maxLen; omega) (fun _ => ⟨rfl, rfl⟩) (fun x hx => by cases hx) (fun _ _ => undef) (fun i x j u hx => by simp at hx) (fun i x j u hx => by simp at hx)), by show 0 + 1 + 0 + 0 ≤ 1; omega⟩
     ·have hle : len ≤ m := by rw [hmm]; split <;> omega
      have each : ∀ i, i < len → ∃ cz, Op maxLen se cz ∧ AV.wtL cz + se.sb ≤ Rows.uptoBulk (D i) ∧ ∃ vs : List Value, VRels (pubW w) w rho0 cz vs ∧ ∀ j v, vs[j]? = some v → w.cell? ((a.add (i * P.cellsOf e)).add j) = some v := fun i hil => by
       obtain ⟨cs', hc, ht'⟩ := hi i (by omega)
       obtain ⟨cz, h1, h2, hwz⟩ := ih e se hse _ _ _ ht'
       obtain ⟨_, hcl, hat⟩ := World.cells?_some hc
       exact ⟨cz, h1, hwz, cs', h2, fun j v hv => by rw [hat j (by rw [← hcl]; exact (List.getElem?_eq_some_iff.1 hv).1), hv]⟩
      obtain ⟨A, hAl, hA⟩ : ∃ A : List (List AV), A.length = len ∧ ∀ i (h : i < A.length), Op maxLen se A[i] ∧ AV.wtL A[i] + se.sb ≤ Rows.uptoBulk (D i) ∧ ∃ vs : List Value, VRels (pubW w) w rho0 A[i] vs ∧ ∀ j v, vs[j]? = some v → w.cell? ((a.add (i * P.cellsOf e)).add j) = some v := of_each_ len (p := fun i cz => Op maxLen se cz ∧ AV.wtL cz + se.sb ≤ Rows.uptoBulk (D i) ∧ ∃ vs : List Value, VRels (pubW w) w rho0 cz vs ∧ ∀ j v, vs[j]? = some v → w.cell? ((a.add (i * P.cellsOf e)).add j) = some v) each
      have hcells : ∀ (cz : List AV), Op maxLen se cz → (elemAV (P.cellsOf e) cz).cells = cz := fun cz ho => elemAV_cells_ ((Op.len _ _ ho).trans hwd) (Op.one _ _ ho)
      refine ⟨[.sl (P.cellsOf e) (A.map (elemAV (P.cellsOf e)))], ?_, ?_, ?_⟩
      ·unfold Op
       refine ⟨_, rfl, by rw [List.length_map, hAl]; omega, fun x hx => ?_⟩
       obtain ⟨cz, has, rfl⟩ := List.mem_map.1 hx
       obtain ⟨i, hil, rfl⟩ := List.getElem_of_mem has
       rw [hcells _ (hA i hil).1]
       exact ⟨rfl, (hA i hil).1⟩
      ·refine .single ?_
       rw [← hAl, ← List.length_map (f := elemAV (P.cellsOf e))]
       have get : ∀ (i : Nat) (x : AV) (j : Nat) (u : AV), (A.map (elemAV (P.cellsOf e)))[i]? = some x → x.cells[j]? = some u → ∃ v, w.cell? ((a.add (i * P.cellsOf e)).add j) = some v ∧ VRel (pubW w) w rho0 u v := fun i x j u hx hu => by
        rw [List.getElem?_map] at hx
        rcases Nat.lt_or_ge i A.length with hil | hil
        ·rw [List.getElem?_eq_getElem hil] at hx
         cases hx
         obtain ⟨ho, _, vs, hvs, hc⟩ := hA i hil
         rw [hcells _ ho] at hu
         obtain ⟨v, hv, hr⟩ := hvs.get hu
         exact ⟨v, hc j v hv, hr⟩
        ·rw [List.getElem?_eq_none hil] at hx; cases hx
       refine .sl (by rw [List.length_map]; omega) (by omega) (fun h => by cases h) (fun x hx => ?_) (fun i j => (w.cell? ((a.add (i * P.cellsOf e)).add j)).getD undef) (fun i x j u hx hu => ?_) (fun i x j u hx hu => ?_)
       ·obtain ⟨cz, has, rfl⟩ := List.mem_map.1 hx
        obtain ⟨i, hil, rfl⟩ := List.getElem_of_mem has
        rw [hcells _ (hA i hil).1]
        exact ⟨(Op.len _ _ (hA i hil).1).trans hwd, Op.one _ _ (hA i hil).1⟩
       ·obtain ⟨v, hv, hr⟩ := get i x j u hx hu
        rw [hv]
        exact hr
       ·obtain ⟨v, hv, hr⟩ := get i x j u hx hu
        have hsp : a.spot = none := by
         rw [List.getElem?_map] at hx
         cases hAi : A[i]? with
         | none => rw [hAi] at hx; cases hx
         | some cz =>
          rw [hAi] at hx
          cases hx
          obtain ⟨hil, rfl⟩ := List.getElem?_eq_some_iff.1 hAi
          have hju : j < A[i].length := by rw [hcells _ (hA i hil).1] at hu; exact (List.getElem?_eq_some_iff.1 hu).1
          have hli := Op.len _ _ (hA i hil).1
          obtain ⟨ho, _, vs, hvs, hc⟩ := hA 0 (by omega)
          have hl0 := Op.len _ _ ho
          have hv0 : 0 < vs.length := by rw [hvs.len]; omega
          have := World.cell?_spot (hc 0 vs[0] (List.getElem?_eq_getElem hv0))
          simpa [Addr.add] using this
        obtain ⟨b, o, spot⟩ := a
        dsimp only at hsp
        subst hsp
        rw [hv]
        have e1 : ((⟨b, o, none⟩ : Addr).add (i * P.cellsOf e)).add j = ⟨b, o + i * P.cellsOf e + j, none⟩ := by
         rw [Addr_add_none, Addr_add_none]
        rw [e1] at hv
        exact ⟨b, o, rfl, pubW_cell hv, hv⟩
      ·have h5 := wtL_elems (sz := P.cellsOf e) A ((List.range len).map D) (by rw [hAl, List.length_map, List.length_range]) fun i cz d hc hd => by
        obtain ⟨hil, rfl⟩ := List.getElem?_eq_some_iff.1 hc
        rw [List.getElem?_map, List.getElem?_range (by omega)] at hd
        cases hd
        have h6 := hA i hil
        exact Nat.le_trans (by rw [← hwd]; exact wt_elem h6.1) h6.2.1
       show AV.wtL (A.map (elemAV (P.cellsOf e))) + 1 + 0 + 0 ≤ Rows.uptoBulkAll _ + Rows.uptoBulkAll _ + 1
       omega
    ·cases h
   ·cases h
  ·rename_i fs ht
   obtain ⟨ss, hss, rfl⟩ := map_some h
   obtain ⟨xs, n', _, hxa, hl, hlen, hf⟩ := DataW.trod_struct ht hx
   obtain ⟨cz, h1, h2, hwz⟩ := open_fsW (cs := cs) ih fs.toList (xs.map (·.1)) 0 _ ss hss hl (by rw [List.length_map, hlen]; simp) (fun j f hj => by
    have hjl : j < xs.length := by rw [hlen]; simpa using (List.getElem?_eq_some_iff.1 hj).1
    exact ⟨n', xs[j], by rw [List.getElem?_map, List.getElem?_eq_getElem hjl]; rfl, by rw [hf j f (by simpa using hj), List.getElem?_eq_getElem hjl]⟩)
   refine ⟨cz, by unfold Op; exact h1, by simpa using h2, ?_⟩
   rw [hxa]
   show _ ≤ Rows.uptoBulkAll _ + 1
   exact Nat.succ_le_succ hwz
  ·cases h
theorem open_valW {n : Nat} {t : TypeId} {s : Sh} {r : Reach} {b0 : Nat} {v : Value} {d : DataW H} {p : List MemPlace} (hs : shOf P n t = some s) (hv : Value.okWide P w r b0 t v) (hd : DataW.Trod enc P w base spare held t v d p) :
  ∃ cz, Op maxLen s cz ∧ VRel (pubW w) w rho0 (topAV s cz) v ∧ AV.wtL cz + s.sb ≤ Rows.uptoBulk d := by
 obtain ⟨fuel, hf⟩ := hd
 obtain ⟨cz, h1, h2, hwz⟩ := open_cellsW n t s hs _ _ _ hf
 refine ⟨cz, h1, ?_, hwz⟩
 have scal : (∀ cs, v ≠ .agg cs) → ∀ a, cz = [a] → VRel (pubW w) w rho0 a v := fun hne a ha => by
  rw [cells_one_ hne, ha] at h2
  exact h2.at_ 0 a v rfl rfl
 cases n with
 | zero => cases hs
 | succ n =>
  unfold shOf at hs
  split at hs
  ·rename_i ht
   cases hs
   unfold Op at h1
   obtain ⟨b, rfl⟩ := h1
   exact scal (fun cs hc => by subst hc; simp [Value.okWide, ht, Cell.okWide, Cell.ok] at hv) _ rfl
  ·rename_i k ht
   cases hs
   unfold Op at h1
   obtain ⟨b, rfl, _⟩ := h1
   exact scal (fun cs hc => by subst hc; simp [Value.okWide, ht, Cell.okWide, Cell.ok] at hv) _ rfl
  ·rename_i ht
   cases hs
   unfold Op at h1
   obtain ⟨b, rfl, _⟩ := h1
   exact scal (fun cs hc => by subst hc; simp [Value.okWide, ht, Cell.okWide, Cell.ok] at hv) _ rfl
  ·rename_i e ht
   split at hs
   ·split at hs
    ·cases hs
     unfold Op at h1
     obtain ⟨b, rfl, _⟩ := h1
     exact scal (fun cs hc => by subst hc; simp [Value.okWide, ht, Cell.okWide, Cell.ok] at hv) _ rfl
    ·cases hs
   ·cases hs
  ·rename_i fs ht
   obtain ⟨ss, hss, rfl⟩ := map_some hs
   simp only [Value.okWide, ht] at hv
   obtain ⟨cs, rfl, _⟩ := hv
   exact .agg (by simpa [Value.cells] using h2.len) fun i x u hx hu => h2.at_ i x u hx (by simpa [Value.cells] using hu)
  ·cases hs
end
end Go.Proofs.YtooioahiijbomaaGreatDoor
namespace Go.Proofs.YtooioahiijbomaaGreatDoor
open Go.RowKit
set_option maxHeartbeats 2000000
set_option maxRecDepth 100000
def lotSh : Sh := .st [.str, .int .i64]
def boxSh : Sh := .st [.str, .int .i64, .sl 2 lotSh]
def dealSh : Sh := .st [.str, .str, .str, .str, .str, .str, .str, .str, .str, .st [.str, .int .i64], .sl 3 boxSh, .int .i64, .int .i64, .int .i64, .int .i64, .int .i64]
def tradeSh : Sh := .st [dealSh, .int .u16, .int .u16]
theorem sh_trade : shOf Tryz.prog 9 29 = some tradeSh := by kernel_rfl
theorem wf_u16 {n : Int} (h : (Lit.int .u16 n).wf = true) : 0 ≤ n ∧ n ≤ 65535 := by
 simp only [Lit.wf, Bool.and_eq_true, decide_eq_true_eq] at h
 have h1 : IntKind.u16.min = 0 := rfl
 have h2 : IntKind.u16.max = 65535 := rfl
 omega
theorem op_lot (cz : List AV) (h : Op maxLen lotSh cz) : ∃ x : Lo, elemAV 2 cz = LoA x ∧ i64 x.count := by
 unfold lotSh Op at h
 (unfold OpL at h; obtain ⟨_, _, rfl, h1, h⟩ := h; unfold Op at h1; obtain ⟨a0, rfl, w0⟩ := h1)
 (unfold OpL at h; obtain ⟨_, _, rfl, h1, h⟩ := h; unfold Op at h1; obtain ⟨a1, rfl, w1⟩ := h1)
 (unfold OpL at h; subst h)
 exact ⟨⟨a0, a1⟩, rfl, wf_i64 w1⟩
theorem op_box (cz : List AV) (h : Op maxLen boxSh cz) : ∃ x : Bx, elemAV 3 cz = BxA x ∧ ∀ y ∈ x.lots, i64 y.count := by
 unfold boxSh Op at h
 (unfold OpL at h; obtain ⟨_, _, rfl, h1, h⟩ := h; unfold Op at h1; obtain ⟨a0, rfl, w0⟩ := h1)
 (unfold OpL at h; obtain ⟨_, _, rfl, h1, h⟩ := h; unfold Op at h1; obtain ⟨a1, rfl, w1⟩ := h1)
 unfold OpL at h
 obtain ⟨_, _, rfl, h1, h⟩ := h
 obtain ⟨L, rfl, hl, hL⟩ := op_list op_lot h1
 (unfold OpL at h; subst h)
 exact ⟨⟨a0, a1, L⟩, rfl, hL⟩
def TrL : Tr → List AV
 | ⟨⟨number, seller, buyer, carrier, issuer, house, insurer, frm, to, cur, amt, boxes, term, latest, expiry, tenor, duty⟩, issued, presented⟩ => [.str number, .str seller, .str buyer, .str carrier, .str issuer, .str house, .str insurer, .str frm, .str to, .str cur, .i amt, .sl 3 (mapA BxA boxes), .i term, .i latest, .i expiry, .i tenor, .i duty, .int .u16 issued, .int .u16 presented]
theorem TrA_L (x : Tr) : AV.agg (TrL x) = TrA x := by obtain ⟨⟨number, seller, buyer, carrier, issuer, house, insurer, frm, to, cur, amt, boxes, term, latest, expiry, tenor, duty⟩, issued, presented⟩ := x; rfl
structure TrIn (x : Tr) : Prop where
 amt : i64 x.d.amt
 term : i64 x.d.term
 latest : i64 x.d.latest
 expiry : i64 x.d.expiry
 tenor : i64 x.d.tenor
 c : ∀ b ∈ x.d.boxes, ∀ y ∈ b.lots, i64 y.count
 i : 0 ≤ x.issued ∧ x.issued ≤ 65535
 p : 0 ≤ x.presented ∧ x.presented ≤ 65535
theorem op_trade (cz : List AV) (h : Op maxLen tradeSh cz) : ∃ x : Tr, cz = TrL x ∧ TrIn x := by
 unfold tradeSh Op OpL at h
 obtain ⟨_, _, rfl, hd, h⟩ := h
 (unfold OpL at h; obtain ⟨_, _, rfl, h1, h⟩ := h; unfold Op at h1; obtain ⟨is_, rfl, wi⟩ := h1)
 (unfold OpL at h; obtain ⟨_, _, rfl, h1, h⟩ := h; unfold Op at h1; obtain ⟨pr, rfl, wp⟩ := h1)
 (unfold OpL at h; subst h)
 have h := hd
 unfold dealSh Op at h
 (unfold OpL at h; obtain ⟨_, _, rfl, h1, h⟩ := h; unfold Op at h1; obtain ⟨a0, rfl, w0⟩ := h1)
 (unfold OpL at h; obtain ⟨_, _, rfl, h1, h⟩ := h; unfold Op at h1; obtain ⟨a1, rfl, w1⟩ := h1)
 (unfold OpL at h; obtain ⟨_, _, rfl, h1, h⟩ := h; unfold Op at h1; obtain ⟨a2, rfl, w2⟩ := h1)
 (unfold OpL at h; obtain ⟨_, _, rfl, h1, h⟩ := h; unfold Op at h1; obtain ⟨a3, rfl, w3⟩ := h1)
 (unfold OpL at h; obtain ⟨_, _, rfl, h1, h⟩ := h; unfold Op at h1; obtain ⟨a4, rfl, w4⟩ := h1)
 (unfold OpL at h; obtain ⟨_, _, rfl, h1, h⟩ := h; unfold Op at h1; obtain ⟨a5, rfl, w5⟩ := h1)
 (unfold OpL at h; obtain ⟨_, _, rfl, h1, h⟩ := h; unfold Op at h1; obtain ⟨a6, rfl, w6⟩ := h1)
 (unfold OpL at h; obtain ⟨_, _, rfl, h1, h⟩ := h; unfold Op at h1; obtain ⟨a7, rfl, w7⟩ := h1)
 (unfold OpL at h; obtain ⟨_, _, rfl, h1, h⟩ := h; unfold Op at h1; obtain ⟨a8, rfl, w8⟩ := h1)
 unfold OpL at h
 obtain ⟨_, _, rfl, hm, h'⟩ := h
 have h := hm
 unfold Op at h
 (unfold OpL at h; obtain ⟨_, _, rfl, h1, h⟩ := h; unfold Op at h1; obtain ⟨b0, rfl, v0⟩ := h1)
 (unfold OpL at h; obtain ⟨_, _, rfl, h1, h⟩ := h; unfold Op at h1; obtain ⟨b1, rfl, v1⟩ := h1)
 (unfold OpL at h; subst h)
 have h := h'
 unfold OpL at h
 obtain ⟨_, _, rfl, h1, h⟩ := h
 obtain ⟨L, rfl, hl, hL⟩ := op_list op_box h1
 (unfold OpL at h; obtain ⟨_, _, rfl, h1, h⟩ := h; unfold Op at h1; obtain ⟨c0, rfl, u0⟩ := h1)
 (unfold OpL at h; obtain ⟨_, _, rfl, h1, h⟩ := h; unfold Op at h1; obtain ⟨c1, rfl, u1⟩ := h1)
 (unfold OpL at h; obtain ⟨_, _, rfl, h1, h⟩ := h; unfold Op at h1; obtain ⟨c2, rfl, u2⟩ := h1)
 (unfold OpL at h; obtain ⟨_, _, rfl, h1, h⟩ := h; unfold Op at h1; obtain ⟨c3, rfl, u3⟩ := h1)
 (unfold OpL at h; obtain ⟨_, _, rfl, h1, h⟩ := h; unfold Op at h1; obtain ⟨c4, rfl, u4⟩ := h1)
 (unfold OpL at h; subst h)
 exact ⟨⟨⟨a0, a1, a2, a3, a4, a5, a6, a7, a8, b0, b1, L, c0, c1, c2, c3, c4⟩, is_, pr⟩, rfl, ⟨wf_i64 v1, wf_i64 u0, wf_i64 u1, wf_i64 u2, wf_i64 u3, hL, wf_u16 wi, wf_u16 wp⟩⟩
theorem wt_lots : ∀ L : List Lo, AV.wtL (mapA LoA L) = loW L
 | [] => rfl
 | ⟨g, c⟩ :: L => by
  have ih := wt_lots L
  have e : loW (⟨g, c⟩ :: L) = g.size + 3 + loW L := by unfold loW; rw [List.map_cons, List.sum_cons]
  rw [e, ← ih]
  show g.size + 1 + (1 + 0) + 1 + AV.wtL (mapA LoA L) = _
  omega
theorem wt_boxes : ∀ L : List Bx, boW L ≤ AV.wtL (mapA BxA L)
 | [] => Nat.le_refl _
 | ⟨m, k, l⟩ :: L => by
  have ih := wt_boxes L
  have hl := wt_lots l
  have e : boW (⟨m, k, l⟩ :: L) = m.size + 3 + loW l + boW L := by rw [boW_cons]
  rw [e]
  show _ ≤ m.size + 1 + (1 + (AV.wtL (mapA LoA l) + 1 + 0)) + 1 + AV.wtL (mapA BxA L)
  omega
theorem joinB_sum : ∀ (l : List ByteArray) (sep : ByteArray), (joinB l sep).size ≤ (l.map fun s => s.size + sep.size).sum
 | [], sep => Nat.le_refl _
 | y :: r, sep => by
  have e : (joinB (y :: r) sep).size = y.size + (Lib.joinTail sep.data.toList (r.map (·.data.toList))).length := by
   show (List.toArray _).size = _
   rw [List.size_toArray, List.map_cons, Lib.join_cons, List.length_append, Array.length_toList]
   rfl
  have h2 : ∀ r : List ByteArray, (Lib.joinTail sep.data.toList (r.map (·.data.toList))).length = (r.map fun s => s.size + sep.size).sum := by
   intro r
   induction r with
   | nil => rfl
   | cons a r ih =>
    have e2 : (Lib.joinTail sep.data.toList ((a :: r).map (·.data.toList))).length = sep.size + a.size + (Lib.joinTail sep.data.toList (r.map (·.data.toList))).length := by
     unfold Lib.joinTail
     rw [List.map_cons, List.map_cons, List.flatten_cons, List.length_append, List.length_append, Array.length_toList, Array.length_toList]
     rfl
    rw [e2, ih, List.map_cons, List.sum_cons]
    omega
  rw [e, h2, List.map_cons, List.sum_cons]
  omega
theorem marks_boW : ∀ l : List Bx, ((l.map Bx.mark).map fun s => s.size + kComma.size).sum ≤ boW l
 | [] => Nat.le_refl _
 | b :: l => by
  have ih := marks_boW l
  have h1 : kComma.size = 1 := rfl
  rw [List.map_cons, List.map_cons, List.sum_cons, boW_cons]
  omega
theorem tr_ok {x : Tr} (hi : TrIn x) (hw : AV.wtL (TrL x) ≤ 1048576) : TrOk x := by
 obtain ⟨⟨number, seller, buyer, carrier, issuer, house, insurer, frm, to, cur, amt, boxes, term, latest, expiry, tenor, duty⟩, issued, presented⟩ := x
 obtain ⟨i1, i2, i3, i4, i5, i6, i7, i8⟩ := hi
 try dsimp only at i1 i2 i3 i4 i5 i6 i7 i8
 have hw : number.size + 1 + (seller.size + 1 + (buyer.size + 1 + (carrier.size + 1 + (issuer.size + 1 + (house.size + 1 + (insurer.size + 1 + (frm.size + 1 + (to.size + 1 + (cur.size + 1 + (1 + (AV.wtL (mapA BxA boxes) + 1 + (1 + (1 + (1 + (1 + (1 + (1 + (1 + 0)))))))))))))))))) ≤ 1048576 := hw
 have hb := wt_boxes boxes
 have hl := bo_len boxes
 have hm : (marksM boxes).size ≤ boW boxes := Nat.le_trans (joinB_sum _ _) (marks_boW boxes)
 have hbx : BxW boxes := ⟨by omega, i6⟩
 exact ⟨⟨⟨(show boxes.length ≤ 1048576 by omega), (show (marksM boxes).size ≤ 140737488355328 by omega)⟩, i1, i2, (show number.size ≤ 1048576 by omega), hbx⟩, i7, i8, (show boW boxes ≤ 1048576 by omega), ⟨(show number.size ≤ 1048576 by omega), (show seller.size ≤ 1048576 by omega), (show buyer.size ≤ 1048576 by omega), (show carrier.size ≤ 1048576 by omega), (show issuer.size ≤ 1048576 by omega), (show insurer.size ≤ 1048576 by omega), (show frm.size ≤ 1048576 by omega), (show to.size ≤ 1048576 by omega), (show cur.size ≤ 1048576 by omega), (show (marksM boxes).size ≤ 2097152 by omega), i3, i4, i5⟩⟩
end Go.Proofs.YtooioahiijbomaaGreatDoor
namespace Go.Proofs.YtooioahiijbomaaGreatDoor
open Go
theorem and_tt {a b : Bool} (ha : a = true) (hb : b = true) : (a && b) = true := by rw [ha, hb]; rfl
theorem jf_all {P : Program} {f : FuncId} {fn : Func} {s : ChangeSpec} {c : OpenClaim} (h0 : (c.wf (OpenSpec.ofChange s)) = true) (h1 : (laidOutB P) = true) (h2 : (mapsRowed P) = true) (h3 : (fn.params.all (P.readableRec ·)) = true) (h4 : (namedTie P c.named s.vars) = true) (h5 : ((c.stops == [])) = true) (h6 : ((P.stops == [])) = true) (h7 : ((c.knobs == [])) = true) (h8 : ((P.stopKnobs == [])) = true) (h9 : ((c.inPlace == P.inPlace f)) = true) (h10 : ((c.unfollowed == P.unfollowed f)) = true) (h11 : ((c.recurses == P.recurses f)) = true) (h12 : ((c.named == P.varsNamed f)) = true) (h13 : ((c.maps == (fn.params.toList ++ s.plain.varTypes P).any (P.mapsRec ·))) = true) (h14 : ((c.ifaces == (fn.params.toList ++ s.plain.varTypes P).any (P.ifacesRec ·))) = true) (h15 : ((c.mapsOut == P.mapsAmong fn.resultTypes.toList)) = true) (h16 : ((c.loops == (fn.params.toList ++ s.plain.varTypes P).any (P.loopsFrom ·))) = true) (h17 : ((c.wideKeys == (fn.params.toList ++ s.plain.varTypes P ++ fn.resultTypes.toList).any (P.wideKeysFrom ·))) = true) (h18 : (s.vars.all (P.varReadable ·)) = true) (h19 : (fn.resultTypes.all (fun t => P.readableRec t && decide (t < P.types.size))) = true) (h20 : ((c.ifacesOut == fn.resultTypes.toList.any (P.ifacesRec ·))) = true) (h21 : ((c.loopsOut == fn.resultTypes.toList.any (P.loopsFrom ·))) = true) (h22 : ((c.plainKeys == P.plainKeys)) = true) (h23 : (c.shortTexts.isNone) = true) (h24 : (P.stopsHeard) = true) (h25 : (P.mayEnter) = true) (h26 : ((c.lifted == P.liftsFinal)) = true) (h27 : ((P.make == some c.make)) = true) (h28 : ((c.kinds == (if c.domain.isEmpty then [] else fn.params.toList.map fun t => match P.underlying t with | some (.int k) => some k | _ => none))) = true) (h29 : ((c.pinned == c.pinnedBy)) = true) (h30 : ((c.veiled == (fn.params.toList ++ s.plain.varTypes P ++ fn.resultTypes.toList).any (P.veiledRec ·))) = true) (h31 : (c.veiledFits P fn.params.toList (fn.params.toList ++ s.plain.varTypes P ++ fn.resultTypes.toList)) = true) : joinedFacts P f fn s c = true := (and_tt (and_tt (and_tt (and_tt (and_tt (and_tt (and_tt (and_tt (and_tt (and_tt (and_tt (and_tt (and_tt (and_tt (and_tt (and_tt (and_tt (and_tt (and_tt (and_tt (and_tt (and_tt (and_tt (and_tt (and_tt (and_tt (and_tt (and_tt (and_tt (and_tt (and_tt h0 h1) h2) h3) h4) h5) h6) h7) h8) h9) h10) h11) h12) h13) h14) h15) h16) h17) h18) h19) h20) h21) h22) h23) h24) h25) h26) h27) h28) h29) h30) h31)
theorem jf_laid : laidOutB Tryz.pinned.checked.prog = true := by kernel_rfl
theorem jf_rowed : mapsRowed Tryz.pinned.checked.prog = true := by kernel_rfl
theorem jf_heard : Tryz.pinned.checked.prog.stopsHeard = true := by kernel_rfl
theorem jf_enter : Tryz.pinned.checked.prog.mayEnter = true := by kernel_rfl
end Go.Proofs.YtooioahiijbomaaGreatDoor
end
