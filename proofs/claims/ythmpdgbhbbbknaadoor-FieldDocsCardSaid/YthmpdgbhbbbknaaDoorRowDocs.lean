/-
  FieldDocs: for every input the call returns true, and the argument reads afterwards as it read before; the kinds' names are as the program's text lays them.
-/
import Derived.Test.YthmpdgbhbbbknaaDoorFOpen
import Derived.Test.YthmpdgbhbbbknaaDoorFLawDocs
import Derived.Test.YthmpdgbhbbbknaaDoorRows
import Derived.Test.YthmpdgbhbbbknaaDoorCards
import Derived.Test.YthmpdgbhbbbknaaDoorTie
import Derived.WalkKit
import Derived.ProofKit
import Derived.LaidMore
import Derived.OpenShut
import Derived.ShutString
import Derived.ChangeOld
import Derived.Below
import Derived.Stop.Joined
import Derived.SevenTiedAt
namespace Go.Proofs.YthmpdgbhbbbknaaDoor.doneDocs
open Go Go.ChangeShapes Go.WideShapes Go.ChangeAt Go.RowKit

def laid1 : List (String × DataW Unit) := [("supercargo/field.kinds", Rows.laid_supercargo_field_kinds)]
theorem gKinds : Tryd.prog.globalNamed "supercargo/field.kinds" = some 0 := by kernel_rfl
theorem tKinds : (Tryd.prog.globals[0]?).map (·.type) = some 46 := by kernel_rfl

/-- The door's own heap meets the condition. -/
theorem door_met (os : Os) (args : Array Value) : laidMetH Tryd.prog laid1 ((World.doorLaid Tryd.prog 400 os).forCall (fun _ _ => 0) ⟨#[], args, []⟩).memory :=
  laidMetH_of_parts3 (fuel := 8) (laidMet_of_run' 8 (by kernel_rfl) (by kernel_rfl)) (by kernel_rfl) (by kernel_rfl)

theorem of_laid {W : World} (h : laidMetH Tryd.prog laid1 W) : KindsAt W := by
  rw [MakeChecks.laidMetH_plain _ _ _ (by kernel_rfl)] at h
  obtain ⟨ps, ⟨g0, t0, cs0, f0, p0, q0, hg0, ht0, hv0, hd0, _, _⟩, _, _⟩ := h
  obtain rfl := Option.some.inj (gKinds.symm.trans hg0)
  obtain rfl := Option.some.inj (tKinds.symm.trans ht0)
  obtain ⟨xs, m1, rfl, hx1, hlen, hn3, hel⟩ := DataW.trod_array Tryd.underlying46 hd0
  have c9 : Tryd.prog.cellsOf 9 = 1 := by kernel_rfl
  have c46 : Tryd.prog.cellsOf 46 = 6 := by kernel_rfl
  rw [c46] at hlen
  simp only [Prod.mk.injEq, DataW.agg.injEq] at hx1
  intro i hi
  rw [World.var?_cell hg0 hv0 i]
  have hxi : xs[i]? = some (xs[i]'(by omega)) := List.getElem?_eq_getElem _
  have h1 := hel i hi
  rw [c9, hxi, Nat.mul_one] at h1
  obtain ⟨l0⟩ := cs0
  have hci : i < l0.length := by simpa using (show i < l0.length by simp at hlen; omega)
  have e1 : (l0.drop i).take 1 = [l0[i]] := by rw [List.drop_eq_getElem_cons hci]; rfl
  have h1 : DataW.trod (fun _ => ()) Tryd.prog W 0 (fun _ => true) false m1 9 ((l0.drop i).take 1) = some (xs[i]'(by omega)) := h1
  rw [e1] at h1
  obtain ⟨s, hs1, hs2, _⟩ := DataW.trod_string Tryd.underlying9 h1
  have hs1 : l0[i] = .string s := by simpa using hs1
  have hx : [.lit (.string [105, 110, 118, 111, 105, 99, 101]), .lit (.string [112, 97, 99, 107, 105, 110, 103]), .lit (.string [108, 97, 100, 105, 110, 103]), .lit (.string [105, 110, 115, 117, 114, 97, 110, 99, 101]), .lit (.string [111, 114, 105, 103, 105, 110]), .lit (.string [100, 114, 97, 102, 116])] = xs.map (·.1) := by
    have h7 := hx1.1
    unfold Rows.laid_supercargo_field_kinds at h7
    exact DataW.agg.inj h7
  have hxs : (xs.map (·.1))[i]? = some (.lit (.string s.data.toList)) := by rw [List.getElem?_map, hxi, hs2]; rfl
  have hk : s = kindS i := by
    rw [← hx] at hxs
    have h6 : i = 0 ∨ i = 1 ∨ i = 2 ∨ i = 3 ∨ i = 4 ∨ i = 5 := by omega
    obtain ⟨⟨l⟩⟩ := s
    rcases h6 with rfl | rfl | rfl | rfl | rfl | rfl
    all_goals
      simp at hxs
      subst hxs
      rfl
  show (l0.toArray)[i]? = _
  rw [List.getElem?_toArray, List.getElem?_eq_getElem hci, hs1, hk]

set_option maxRecDepth 100000 in
theorem lifted (os : Os) (started : os.Started) (H : Type) (enc : TypeId × Value → H) :
    ReturnsInHanded {} Tryd.checked os 3 .any (fun w args => (Rows.fieldDocsSpec.pre enc Tryd.prog Tryd.f3 [] false w args ∧ laidMetH Tryd.prog laid1 w) ∧ sizedMet enc Tryd.prog Tryd.f3 (OpenSpec.ofChange Rows.fieldDocsSpec) false w args)
      (Rows.fieldDocsSpec.post enc Tryd.prog Tryd.f3 false true false false) := by
  refine returnsInHanded_of_change_and (C := Tryd.checked) (X := fun w _ => laidMetH Tryd.prog laid1 w) (fun _ _ _ hh h => h.of_heap hh) own started (by kernel_rfl) Tryd.func3
    (ChangeSpec.witness_shaped (enc := enc) (C := Tryd.checked) (os := os) (X := fun w _ => laidMetH Tryd.prog laid1 w) false (World.doorLaid Tryd.prog 400 os) #[.agg #[.int .i64 0, .string ⟨#[]⟩, .string ⟨#[]⟩, .slice none 0 0]] 8 rfl (World.shaped_of_RefB (by kernel_rfl) (by kernel_rfl)) (by kernel_rfl) (by kernel_rfl) (by kernel_rfl) (door_met os _)) ?_
  intro W base args ds gs before hval0 hW _ _ hL _
  have hval : ∀ (j : Nat) t v, Tryd.f3.params[j]? = some t → args[j]? = some v → Value.okWide Tryd.prog W .any base t v := hval0
  have hW' := hW
  obtain ⟨p, q, hA0, hV, rfl, hfz, hnd⟩ := hW
  have hA : DataW.TrodAll enc Tryd.prog W 0 (fun _ => true) true Tryd.f3.params.toList args.toList ds p := hA0
  rw [Tryd.params3] at hA hval
  obtain ⟨v0, vs0, d0, ds0, p0, q0, hargs, rfl, rfl, h0, r0⟩ := trodAll_cons hA
  obtain ⟨rfl, rfl, rfl⟩ := trodAll_nil r0
  obtain rfl : args = #[v0] := by cases args; simp_all
  obtain ⟨rfl, rfl⟩ := trodVars_none hV
  have k0 := h0
  have lt0 : ∀ x ∈ p0, x.block < W.heap.size := by obtain ⟨m, hm⟩ := k0; exact DataW.trod_lt m _ _ _ hm
  obtain ⟨y0, A0, c0, rfl, ha0, hb0, hc0, hd0, he0, hf0, hg0⟩ := open_doc (hval 0 24 v0 rfl rfl) h0
  clear hA0 hval0
  refine (docs_any y0 A0 c0 W ha0 he0 hf0 hg0 hd0.names (of_laid hL)).mono fun e W' ⟨he, bel⟩ => ?_
  subst he
  exact ⟨_, rfl, _, _, _, [], _, [], hW', trodAll_mk1 (shut_bool Tryd.underlying4 _), (trodAll_cons_mk (Below.trod laidOut (by kernel_rfl) (of_decide_eq_true (by kernel_rfl)) k0 bel lt0) trodAll_mk0), rfl, bel.frame _, fun h => by cases h⟩

theorem over : Rows.fieldDocsRow.holds Tryd.pinned (OpenSpec.ofChange Rows.fieldDocsSpec) :=
  OpenClaim.holds_of_wide 3 Tryd.f3 rfl rfl rfl rfl rfl rfl rfl ⟨rfl, rfl, rfl, rfl, rfl⟩ rfl rfl rfl rfl rfl (by kernel_rfl) Tryd.func3 (by kernel_rfl)
    (of_decide_eq_true (by kernel_rfl)) (by unfold Func.isWrapper; first | (rw [if_pos (by decide +kernel)]; kernel_rfl) | (rw [if_neg (by decide +kernel)]; exact ⟨rfl, rfl⟩))
    (fun os started H enc _ => lifted os started H enc)

/-- THE STATEMENT: the tied card. -/
theorem proved : Rows.FieldDocsCardSaid :=
  Claim7.holds_tied_plain_at .later [] [.data] true (true, "c79c2002c3df9ce69a62f0a5c6e2ed40066b3f6178142154542b63fd7abe5476") true
    over (fun _ h => by cases h) (by kernel_rfl) (fun _ h => by cases h) fieldDocs_row_tie rfl ⟨rfl, rfl⟩ (by kernel_rfl) rfl
    (fun f fn hf hfn => by
      obtain rfl : f = 3 := Option.some.inj ((show Tryd.prog.funcNamed "supercargo/supercargolaw05.FieldDocs" = some 3 by kernel_rfl).symm.trans hf) |>.symm
      obtain rfl : fn = Tryd.f3 := (Option.some.inj (Tryd.func3.symm.trans hfn)).symm
      exact ⟨by kernel_rfl, fun j t ht => by
        rw [Tryd.params3] at ht
        have hm : t ∈ [24] := by simpa using Array.mem_of_getElem? ht
        have hall : ([24].all fun u => !Tryd.prog.wantsStandIn u) = true := by kernel_rfl
        exact (show Tryd.prog.wantsStandIn t = false by simpa using List.all_eq_true.1 hall t hm)⟩)
    (by kernel_rfl)
#print axioms proved
end Go.Proofs.YthmpdgbhbbbknaaDoor.doneDocs
