/-
  Texts of this proof, joined: VT, GlobOc, JF.
-/
import Derived.Test.YtooioahiijbomaaGreatDoorA7
import Derived.Lib.LaidTab
import Derived.MakeChecks
import Derived.Stop.LaidErr
import Derived.Test.YtooioahiijbomaaGreatDoorRows
import Derived.KernelRfl
import Derived.Test.YtooioahiijbomaaGreatDoorChecked
import Derived.JoinedOf
set_option linter.unusedVariables false
set_option linter.unusedSimpArgs false
noncomputable section
namespace Go.Proofs.YtooioahiijbomaaGreatDoor
open Go.RowKit Go.Lib
def valD {H : Type} : Value → DataW H
 | .int k z => .lit (.int k z)
 | .string s => .lit (.string s.data.toList)
 | _ => .nil
theorem cells_of_arr {H : Type} {enc : TypeId × Value → H} {P : Program} {w : World} {base : Nat} {sp : Nat → Bool} {held : Bool} {fuel : Nat} {t e : TypeId} {n : Nat} {cs vs : List Value} {p : List MemPlace}
  (ht : P.underlying t = some (.array n e)) (he : (∃ k, P.underlying e = some (.int k)) ∨ P.underlying e = some .string) (hce : P.cellsOf e = 1) (hct : P.cellsOf t = n)
  (h : DataW.trod enc P w base sp held fuel t cs = some (.agg (vs.map valD), p)) : cs = vs := by
 cases fuel with
 | zero => simp [DataW.trod] at h
 | succ fuel =>
  simp only [DataW.trod, ht, hce, hct, Nat.mul_one] at h
  split at h
  ·rename_i hl
   obtain ⟨xs, hm, hx⟩ := Option.map_eq_some_iff.1 h
   have hxs : xs.map (·.1) = vs.map valD := by
    have := congrArg Prod.fst hx
    simpa using this
   have hxl : xs.length = n := by simpa using mapM_length hm
   have hzl : vs.length = n := by
    have := congrArg List.length hxs
    simp at this
    omega
   apply List.ext_getElem?
   intro i
   by_cases hi : i < n
   ·obtain ⟨b, hb, hf⟩ := mapM_at hm i i (by simp [hi])
    have hvi : vs[i]? = some vs[i] := List.getElem?_eq_getElem (by omega)
    have h2 : b.1 = valD vs[i] := by
     have e1 : (xs.map (·.1))[i]? = some b.1 := by simp [hb]
     rw [hxs, List.getElem?_map, hvi] at e1
     exact (Option.some.inj e1).symm
    rcases he with ⟨k, he⟩ | he
    ·obtain ⟨z, hc, rfl, _⟩ := DataW.trod_int he hf
     have h1 : cs[i]? = some (.int k z) := by
      have := congrArg (·[0]?) hc
      simpa [List.getElem?_take, List.getElem?_drop] using this
     rw [h1, hvi]
     dsimp only at h2
     cases hv : vs[i] with
     | int k' z' => rw [hv] at h2; simp only [valD, DataW.lit.injEq, Lit.int.injEq] at h2; obtain ⟨rfl, rfl⟩ := h2; rfl
     | string s => rw [hv] at h2; simp [valD] at h2
     | _ => rw [hv] at h2; simp [valD] at h2
    ·obtain ⟨s, hc, hs, _⟩ := DataW.trod_string he hf
     have h1 : cs[i]? = some (.string s) := by
      have := congrArg (·[0]?) hc
      simpa [List.getElem?_take, List.getElem?_drop] using this
     rw [h1, hvi]
     rw [hs] at h2
     dsimp only at h2
     cases hv : vs[i] with
     | int k' z' => rw [hv] at h2; simp [valD] at h2
     | string s' =>
      rw [hv] at h2
      simp only [valD, DataW.lit.injEq, Lit.string.injEq] at h2
      have : s = s' := ByteArray.ext (Array.toList_inj.1 h2)
      rw [this]
     | _ => rw [hv] at h2; simp [valD] at h2
   ·rw [List.getElem?_eq_none (by omega), List.getElem?_eq_none (by omega)]
  ·cases h
theorem var_of_head {P : Program} {W : World} {name : String} {vs : List Value} {d : DataW Unit} {rest : List (String × DataW Unit)} {g : Nat} {t e : TypeId} {n : Nat}
  (hg : P.globalNamed name = some g) (hty : (P.globals[g]?).map (·.type) = some t) (ht : P.underlying t = some (.array n e)) (he : (∃ k, P.underlying e = some (.int k)) ∨ P.underlying e = some .string) (hce : P.cellsOf e = 1) (hct : P.cellsOf t = n)
  (hd : d = .agg (vs.map valD)) (h : laidMet P ((name, d) :: rest) W) : ∃ t' f, W.heap[g]? = some (.cells vs.toArray t' f) := by
 obtain ⟨ps, ⟨g', t', cs, fuel, p, q, hg', ht', hvar, hdd, _, _⟩, _⟩ := h
 obtain rfl := Option.some.inj (hg.symm.trans hg')
 obtain rfl := Option.some.inj (hty.symm.trans ht')
 subst hd
 have hcs := cells_of_arr ht he hce hct hdd
 unfold World.var? at hvar
 rw [hg] at hvar
 simp only [Option.bind_some] at hvar
 split at hvar
 ·rename_i c t2 f hb
  refine ⟨t2, f, ?_⟩
  rw [hb]
  have e1 : c = cs := by simpa using hvar
  rw [e1, ← hcs]
 ·cases hvar
theorem globOk_at {w : World} {g : Nat} {vs : List Value} (h : ∃ t f, w.heap[g]? = some (.cells vs.toArray t f)) : ∀ i u, vs[i]? = some u → i < pubW w g ∧ w.cell? ⟨g, i, none⟩ = some u ∧ lenW w g = some vs.length := fun i u hu => by
 obtain ⟨t, f, hb⟩ := h
 have hi : i < vs.length := (List.getElem?_eq_some_iff.1 hu).1
 refine ⟨?_, ?_, ?_⟩
 ·unfold pubW; rw [hb]; simpa using hi
 ·unfold World.cell?; simp [hb, hu]
 ·unfold lenW; rw [hb]; simp
theorem errOk_at {P : Program} {w : World} {name : String} {g : Nat} {t : TypeId} {p : Value} (hg : P.globalNamed name = some g) (h : w.var? P name = some #[.iface t p]) : 0 < pubW w g ∧ w.cell? ⟨g, 0, none⟩ = some (.iface t p) ∧ lenW w g = some 1 := by
 unfold World.var? at h
 rw [hg] at h
 simp only [Option.bind_some] at h
 split at h
 ·rename_i c t2 f hb
  have e1 : c = #[.iface t p] := by simpa using h
  subst e1
  refine ⟨?_, ?_, ?_⟩
  ·unfold pubW; rw [hb]; simp
  ·unfold World.cell?; simp [hb]
  ·unfold lenW; rw [hb]; simp
 ·cases h
end Go.Proofs.YtooioahiijbomaaGreatDoor
namespace Go.Proofs.YtooioahiijbomaaGreatDoor
open Go Go.Lib
theorem star_err : "*" ++ "errors.errorString" = "*errors.errorString" := by decide
theorem row_err (u : TypeId) (h : Tryz.prog.typeName? 3 u = some "*errors.errorString") : u = 351 :=
 typeName_ptr_named (nm := "errors.errorString") (by rw [star_err]; kernel_rfl) (by kernel_rfl) (by decide) u (by rw [star_err]; exact h)
theorem cells_err : Tryz.prog.cellsOf 353 = 1 := by kernel_rfl
theorem cells_str : Tryz.prog.cellsOf 9 = 1 := by kernel_rfl
theorem laid_tail {P : Program} {W : World} {x : String × DataW Unit} {rest : List (String × DataW Unit)} (h : laidMet P (x :: rest) W) : laidMet P rest W := by
 obtain ⟨ps, ⟨g, t, cs, fuel, p, q, _, _, _, _, hr, rfl⟩, hnd, hc⟩ := h
 exact ⟨q, hr, (List.nodup_append.1 hnd).2.1, fun b off hm => hc b off (List.mem_append_right _ hm)⟩
theorem glob_oc {W : World} (h : laidMetH Tryz.prog [("math/bits.deBruijn32tab", Rows.laid_math_bits_deBruijn32tab), ("math/bits.deBruijn64tab", Rows.laid_math_bits_deBruijn64tab), ("internal/strconv.uint64pow10", Rows.laid_internal_strconv_uint64pow10), ("strconv.ErrRange", Rows.laid_strconv_ErrRange), ("strconv.ErrSyntax", Rows.laid_strconv_ErrSyntax), ("supercargo/examine.kinds", Rows.laid_supercargo_examine_kinds), ("supercargo/examine.whys", Rows.laid_supercargo_examine_whys), ("supercargo/examine.alike", Rows.laid_supercargo_examine_alike), ("supercargo/token.words", Rows.laid_supercargo_token_words), ("supercargo/syntax.papers", Rows.laid_supercargo_syntax_papers), ("supercargo/core.alike", Rows.laid_supercargo_core_alike)] W) : GlobOk (pubW W) W := by
 rw [MakeChecks.laidMetH_plain _ _ _ (by kernel_rfl)] at h
 have h0 := var_of_head (vs := glob 10) (g := 10) (t := 361) (e := 5) (n := 32) (by kernel_rfl) (by kernel_rfl) (by kernel_rfl) (.inl ⟨.u8, by kernel_rfl⟩) (by kernel_rfl) (by kernel_rfl) (by rfl) h
 replace h := laid_tail h
 have h1 := var_of_head (vs := glob 11) (g := 11) (t := 362) (e := 5) (n := 64) (by kernel_rfl) (by kernel_rfl) (by kernel_rfl) (.inl ⟨.u8, by kernel_rfl⟩) (by kernel_rfl) (by kernel_rfl) (by rfl) h
 replace h := laid_tail h
 have h2 := var_of_head (vs := glob 8) (g := 8) (t := 336) (e := 271) (n := 20) (by kernel_rfl) (by kernel_rfl) (by kernel_rfl) (.inl ⟨.u64, by kernel_rfl⟩) (by kernel_rfl) (by kernel_rfl) (by rfl) h
 replace h := laid_tail h
 obtain ⟨a3, s3, v3, _⟩ := laid_sentinel h (show Tryz.prog.globalNamed "strconv.ErrRange" = some 7 by kernel_rfl) (show (Tryz.prog.globals[7]?).map (·.type) = some 135 by kernel_rfl) Tryz.underlying135 row_err Tryz.underlying351 Tryz.underlying353 rfl rfl Tryz.underlying9 cells_err cells_str
 have h3 := errOk_at (show Tryz.prog.globalNamed "strconv.ErrRange" = some 7 by kernel_rfl) v3
 replace h := laid_tail h
 obtain ⟨a4, s4, v4, _⟩ := laid_sentinel h (show Tryz.prog.globalNamed "strconv.ErrSyntax" = some 6 by kernel_rfl) (show (Tryz.prog.globals[6]?).map (·.type) = some 135 by kernel_rfl) Tryz.underlying135 row_err Tryz.underlying351 Tryz.underlying353 rfl rfl Tryz.underlying9 cells_err cells_str
 have h4 := errOk_at (show Tryz.prog.globalNamed "strconv.ErrSyntax" = some 6 by kernel_rfl) v4
 replace h := laid_tail h
 have h5 := var_of_head (vs := glob 1) (g := 1) (t := 194) (e := 9) (n := 6) (by kernel_rfl) (by kernel_rfl) (by kernel_rfl) (.inr (by kernel_rfl)) (by kernel_rfl) (by kernel_rfl) (by rfl) h
 replace h := laid_tail h
 have h6 := var_of_head (vs := glob 2) (g := 2) (t := 155) (e := 9) (n := 7) (by kernel_rfl) (by kernel_rfl) (by kernel_rfl) (.inr (by kernel_rfl)) (by kernel_rfl) (by kernel_rfl) (by rfl) h
 replace h := laid_tail h
 have h7 := var_of_head (vs := glob 0) (g := 0) (t := 194) (e := 9) (n := 6) (by kernel_rfl) (by kernel_rfl) (by kernel_rfl) (.inr (by kernel_rfl)) (by kernel_rfl) (by kernel_rfl) (by rfl) h
 replace h := laid_tail h
 have h8 := var_of_head (vs := glob 5) (g := 5) (t := 322) (e := 9) (n := 35) (by kernel_rfl) (by kernel_rfl) (by kernel_rfl) (.inr (by kernel_rfl)) (by kernel_rfl) (by kernel_rfl) (by rfl) h
 replace h := laid_tail h
 have h9 := var_of_head (vs := glob 3) (g := 3) (t := 194) (e := 9) (n := 6) (by kernel_rfl) (by kernel_rfl) (by kernel_rfl) (.inr (by kernel_rfl)) (by kernel_rfl) (by kernel_rfl) (by rfl) h
 replace h := laid_tail h
 have h10 := var_of_head (vs := glob 4) (g := 4) (t := 194) (e := 9) (n := 6) (by kernel_rfl) (by kernel_rfl) (by kernel_rfl) (.inr (by kernel_rfl)) (by kernel_rfl) (by kernel_rfl) (by rfl) h
 refine ⟨fun g i u hu => ?_, fun g hg => ?_⟩
 ·by_cases e0 : g = 10
  ·subst e0; exact globOk_at h0 i u hu
  by_cases e1 : g = 11
  ·subst e1; exact globOk_at h1 i u hu
  by_cases e2 : g = 8
  ·subst e2; exact globOk_at h2 i u hu
  by_cases e5 : g = 1
  ·subst e5; exact globOk_at h5 i u hu
  by_cases e6 : g = 2
  ·subst e6; exact globOk_at h6 i u hu
  by_cases e7 : g = 0
  ·subst e7; exact globOk_at h7 i u hu
  by_cases e8 : g = 5
  ·subst e8; exact globOk_at h8 i u hu
  by_cases e9 : g = 3
  ·subst e9; exact globOk_at h9 i u hu
  by_cases e10 : g = 4
  ·subst e10; exact globOk_at h10 i u hu
  have e : glob g = [] := by unfold glob; split <;> first | rfl | contradiction
  rw [e] at hu; cases hu
 ·unfold globI at hg
  simp only [List.contains_cons, List.contains_nil, Bool.or_false, Bool.or_eq_true, beq_iff_eq] at hg
  rcases hg with rfl | rfl
  ·exact ⟨_, _, h4⟩
  ·exact ⟨_, _, h3⟩
end Go.Proofs.YtooioahiijbomaaGreatDoor
namespace Go.Proofs.YtooioahiijbomaaGreatDoor
open Go
theorem and_tt {a b : Bool} (ha : a = true) (hb : b = true) : (a && b) = true := by rw [ha, hb]; rfl
theorem jf_all {P : Program} {f : FuncId} {fn : Func} {s : ChangeSpec} {c : OpenClaim} (h0 : (c.wf (OpenSpec.ofChange s)) = true) (h1 : (laidOutB P) = true) (h2 : (mapsRowed P) = true) (h3 : (fn.params.all (P.readableRec ·)) = true) (h4 : (namedTie P c.named s.vars) = true) (h5 : ((c.stops == [])) = true) (h6 : ((P.stops == [])) = true) (h7 : ((c.knobs == [])) = true) (h8 : ((P.stopKnobs == [])) = true) (h9 : ((c.inPlace == P.inPlace f)) = true) (h10 : ((c.unfollowed == P.unfollowed f)) = true) (h11 : ((c.recurses == P.recurses f)) = true) (h12 : ((c.named == P.varsNamed f)) = true) (h13 : ((c.maps == (fn.params.toList ++ s.plain.varTypes P).any (P.mapsRec ·))) = true) (h14 : ((c.ifaces == (fn.params.toList ++ s.plain.varTypes P).any (P.ifacesRec ·))) = true) (h15 : ((c.mapsOut == P.mapsAmong fn.resultTypes.toList)) = true) (h16 : ((c.loops == (fn.params.toList ++ s.plain.varTypes P).any (P.loopsFrom ·))) = true) (h17 : ((c.wideKeys == (fn.params.toList ++ s.plain.varTypes P ++ fn.resultTypes.toList).any (P.wideKeysFrom ·))) = true) (h18 : (s.vars.all (P.varReadable ·)) = true) (h19 : (fn.resultTypes.all (fun t => P.readableRec t && decide (t < P.types.size))) = true) (h20 : ((c.ifacesOut == fn.resultTypes.toList.any (P.ifacesRec ·))) = true) (h21 : ((c.loopsOut == fn.resultTypes.toList.any (P.loopsFrom ·))) = true) (h22 : ((c.plainKeys == P.plainKeys)) = true) (h23 : (c.shortTexts.isNone) = true) (h24 : (P.stopsHeard) = true) (h25 : (P.mayEnter) = true) (h26 : ((c.lifted == P.liftsFinal)) = true) (h27 : ((P.make == some c.make)) = true) (h28 : ((c.kinds == (if c.domain.isEmpty then [] else fn.params.toList.map fun t => match P.underlying t with | some (.int k) => some k | _ => none))) = true) (h29 : ((c.pinned == c.pinnedBy)) = true) (h30 : ((c.veiled == (fn.params.toList ++ s.plain.varTypes P ++ fn.resultTypes.toList).any (P.veiledRec ·))) = true) (h31 : (c.veiledFits P fn.params.toList (fn.params.toList ++ s.plain.varTypes P ++ fn.resultTypes.toList)) = true) : joinedFacts P f fn s c = true := (and_tt (and_tt (and_tt (and_tt (and_tt (and_tt (and_tt (and_tt (and_tt (and_tt (and_tt (and_tt (and_tt (and_tt (and_tt (and_tt (and_tt (and_tt (and_tt (and_tt (and_tt (and_tt (and_tt (and_tt (and_tt (and_tt (and_tt (and_tt (and_tt (and_tt (and_tt h0 h1) h2) h3) h4) h5) h6) h7) h8) h9) h10) h11) h12) h13) h14) h15) h16) h17) h18) h19) h20) h21) h22) h23) h24) h25) h26) h27) h28) h29) h30) h31)
theorem jf_laid : laidOutB Tryz.pinned.checked.prog = true := by kernel_rfl
theorem jf_rowed : mapsRowed Tryz.pinned.checked.prog = true := by kernel_rfl
theorem jf_heard : Tryz.pinned.checked.prog.stopsHeard = true := by kernel_rfl
theorem jf_enter : Tryz.pinned.checked.prog.mayEnter = true := by kernel_rfl
end Go.Proofs.YtooioahiijbomaaGreatDoor
end
