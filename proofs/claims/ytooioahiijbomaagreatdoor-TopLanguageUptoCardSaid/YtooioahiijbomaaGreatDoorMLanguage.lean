/-
  Texts of this proof,joined: VT,GlobOf.
-/
import Derived.Test.YtooioahiijbomaaGreatDoorA8
import Derived.Lib.LaidTab
import Derived.MakeChecks
import Derived.Stop.LaidErr
import Derived.Test.YtooioahiijbomaaGreatDoorRows
import Derived.KernelRfl
set_option linter.unusedVariables false
set_option linter.unusedSimpArgs false
noncomputable section
namespace Go.Proofs.YtooioahiijbomaaGreatDoor
open Go.RowKit Go.Lib
def vY {H:Type}:Value→DataW H
 |.int k z=>.lit (.int k z)
 |.string s=>.lit (.string s.data.toList)
 |_=>.nil
theorem yN {H:Type}{enc:TypeId×Value→H}{P:bG}{w:World}{base:Nat}{sp:Nat→Bool}{held:Bool}{fuel:Nat}{t e:TypeId}{n:Nat}{cs vs:List Value}{p:List MemPlace}
  (ht:P.underlying t=some (.array n e)) (he:(∃k,P.underlying e=some (.int k))∨P.underlying e=some .string) (hce:P.cellsOf e=1) (hct:P.cellsOf t=n)
  (h:DataW.trod enc P w base sp held fuel t cs=some (.agg (vs.map vY),p)):cs=vs:=by
 cases fuel with
 |zero=>simp[DataW.trod]at h
 |succ fuel=>
  simp only[DataW.trod,ht,hce,hct,Nat.mul_one]at h
  split at h
  ·rename_i hl;obtain⟨xs,hm,hx⟩:=Option.map_eq_some_iff.1 h;have hxs:xs.map (·.1)=vs.map vY:=by
    have:=congrArg Prod.fst hx;simpa using this
   have hxl:xs.length=n:=by simpa using mapM_length hm
   have hzl:vs.length=n:=by
    have:=congrArg List.length hxs;simp at this;omega
   apply List.ext_getElem?;intro i;by_cases hi:i < n
   ·obtain⟨b,hb,hf⟩:=mapM_at hm i i (by simp[hi]);have hvi:vs[i]?=some vs[i]:=aB (by omega);have h2:b.1=vY vs[i]:=by
     have e1:(xs.map (·.1))[i]?=some b.1:=by simp[hb]
     rw[hxs,aD,hvi]at e1;exact(Option.some.inj e1).symm
    rcases he with ⟨k,he⟩|he
    ·obtain⟨z,hc,rfl,_⟩:=DataW.trod_int he hf;have h1:cs[i]?=some (.int k z):=by
      have:=congrArg (·[0]?) hc;simpa [List.getElem?_take,List.getElem?_drop]using this
     rw[h1,hvi];dsimp only at h2;cases hv:vs[i] with
     |int k' z'=>rw[hv]at h2;simp only[vY,DataW.lit.injEq,Lit.int.injEq]at h2;obtain⟨rfl,rfl⟩:=h2;rfl
     |string s=>rw[hv]at h2;simp[vY]at h2
     |_=>rw[hv]at h2;simp[vY]at h2
    ·obtain⟨s,hc,hs,_⟩:=DataW.trod_string he hf;have h1:cs[i]?=some (.string s):=by
      have:=congrArg (·[0]?) hc;simpa [List.getElem?_take,List.getElem?_drop]using this
     rw[h1,hvi];rw[hs]at h2;dsimp only at h2;cases hv:vs[i] with
     |int k' z'=>rw[hv]at h2;simp[vY]at h2
     |string s'=>
      rw[hv]at h2;simp only[vY,DataW.lit.injEq,Lit.string.injEq]at h2;have:s=s':=ByteArray.ext (Array.toList_inj.1 h2);rw[this]
     |_=>rw[hv]at h2;simp[vY]at h2
   ·rw[List.getElem?_eq_none (by omega),List.getElem?_eq_none (by omega)]
  ·cases h
theorem eL {P:bG}{W:World}{name:String}{vs:List Value}{d:DataW Unit}{rest:List (String×DataW Unit)}{g:Nat}{t e:TypeId}{n:Nat}
  (hg:P.globalNamed name=some g) (hty:(P.globals[g]?).map (·.type)=some t) (ht:P.underlying t=some (.array n e)) (he:(∃k,P.underlying e=some (.int k))∨P.underlying e=some .string) (hce:P.cellsOf e=1) (hct:P.cellsOf t=n)
  (hd:d=.agg (vs.map vY)) (h:laidMet P ((name,d) :: rest) W):∃t' f,W.heap[g]?=some (.cells vs.toArray t' f):=by
 obtain⟨ps,⟨g',t',cs,fuel,p,q,hg',ht',hvar,hdd,_,_⟩,_⟩:=h;obtain rfl:=Option.some.inj (hg.symm.trans hg');obtain rfl:=Option.some.inj (hty.symm.trans ht');subst hd;have hcs:=yN ht he hce hct hdd;unfold World.var? at hvar;rw[hg]at hvar;simp only[Option.bind_some]at hvar
 split at hvar
 ·rename_i c t2 f hb;refine⟨t2,f,?_⟩;rw[hb];have e1:c=cs:=by simpa using hvar
  rw[e1,←hcs]
 ·cases hvar
theorem fX {w:World}{g:Nat}{vs:List Value}(h:∃t f,w.heap[g]?=some (.cells vs.toArray t f)):∀i u,vs[i]?=some u→i < jC w g∧w.cell? ⟨g,i,none⟩=some u∧mI w g=some vs.length:=fun i u hu=>by
 obtain⟨t,f,hb⟩:=h;have hi:i < vs.length:=(aA.1 hu).1;refine⟨?_,?_,?_⟩
 ·unfold jC;rw[hb];simpa using hi
 ·unfold World.cell?;simp[hb,hu]
 ·unfold mI;rw[hb];simp
theorem Bd {P:bG}{w:World}{name:String}{g:Nat}{t:TypeId}{p:Value}(hg:P.globalNamed name=some g) (h:w.var? P name=some #[.iface t p]):0 < jC w g∧w.cell? ⟨g,0,none⟩=some (.iface t p)∧mI w g=some 1:=by
 unfold World.var? at h;rw[hg]at h;simp only[Option.bind_some]at h
 split at h
 ·rename_i c t2 f hb;have e1:c=#[.iface t p]:=by simpa using h
  subst e1;refine⟨?_,?_,?_⟩
  ·unfold jC;rw[hb];simp
  ·unfold World.cell?;simp[hb]
  ·unfold mI;rw[hb];simp
 ·cases h
end Go.Proofs.YtooioahiijbomaaGreatDoor
namespace Go.Proofs.YtooioahiijbomaaGreatDoor
open Go Go.Lib
theorem B3 : "*" ++ "errors.errorString" = "*errors.errorString" := by decide
theorem Fh (u : TypeId) (h : Tryz.prog.typeName? 3 u = some "*errors.errorString") : u = 351 :=
 typeName_ptr_named (nm := "errors.errorString") (by rw [B3]; kernel_rfl) (by kernel_rfl) (by decide) u (by rw [B3]; exact h)
theorem xJ:Tryz.prog.cellsOf 353=1:=by kernel_rfl
theorem wZ:Tryz.prog.cellsOf 9=1:=by kernel_rfl
theorem fF {P:bG}{W:World}{x:String×DataW Unit}{rest:List (String×DataW Unit)}(h:laidMet P (x :: rest) W):laidMet P rest W:=by
 obtain⟨ps,⟨g,t,cs,fuel,p,q,_,_,_,_,hr,rfl⟩,hnd,hc⟩:=h;exact⟨q,hr,(List.nodup_append.1 hnd).2.1,fun b off hm=>hc b off (List.mem_append_right _ hm)⟩
theorem aiP {W : World} (h : laidMetH Tryz.prog [("math/bits.deBruijn32tab", Rows.laid_math_bits_deBruijn32tab), ("math/bits.deBruijn64tab", Rows.laid_math_bits_deBruijn64tab), ("internal/strconv.uint64pow10", Rows.laid_internal_strconv_uint64pow10), ("strconv.ErrRange", Rows.laid_strconv_ErrRange), ("strconv.ErrSyntax", Rows.laid_strconv_ErrSyntax), ("supercargo/examine.alike", Rows.laid_supercargo_examine_alike), ("supercargo/token.words", Rows.laid_supercargo_token_words), ("supercargo/syntax.papers", Rows.laid_supercargo_syntax_papers)] W) : gB (jC W) W := by
 rw[MakeChecks.laidMetH_plain _ _ _ (by kernel_rfl)]at h;have h0:=eL (vs:=glob 10) (g:=10) (t:=361) (e:=5) (n:=32) (by kernel_rfl) (by kernel_rfl) (by kernel_rfl) (.inl ⟨.u8,by kernel_rfl⟩) (by kernel_rfl) (by kernel_rfl) (by rfl) h;replace h:=fF h;have h1:=eL (vs:=glob 11) (g:=11) (t:=362) (e:=5) (n:=64) (by kernel_rfl) (by kernel_rfl) (by kernel_rfl) (.inl ⟨.u8,by kernel_rfl⟩) (by kernel_rfl) (by kernel_rfl) (by rfl) h;replace h:=fF h;have h2:=eL (vs:=glob 8) (g:=8) (t:=336) (e:=271) (n:=20) (by kernel_rfl) (by kernel_rfl) (by kernel_rfl) (.inl ⟨.u64,by kernel_rfl⟩) (by kernel_rfl) (by kernel_rfl) (by rfl) h;replace h:=fF h
 obtain ⟨a3, s3, v3, _⟩ := laid_sentinel h (show Tryz.prog.globalNamed "strconv.ErrRange" = some 7 by kernel_rfl) (show (Tryz.prog.globals[7]?).map (·.type) = some 135 by kernel_rfl) Tryz.underlying135 Fh Tryz.underlying351 Tryz.underlying353 rfl rfl Tryz.underlying9 xJ wZ
 have h3 := Bd (show Tryz.prog.globalNamed "strconv.ErrRange" = some 7 by kernel_rfl) v3
 replace h:=fF h
 obtain ⟨a4, s4, v4, _⟩ := laid_sentinel h (show Tryz.prog.globalNamed "strconv.ErrSyntax" = some 6 by kernel_rfl) (show (Tryz.prog.globals[6]?).map (·.type) = some 135 by kernel_rfl) Tryz.underlying135 Fh Tryz.underlying351 Tryz.underlying353 rfl rfl Tryz.underlying9 xJ wZ
 have h4 := Bd (show Tryz.prog.globalNamed "strconv.ErrSyntax" = some 6 by kernel_rfl) v4
 replace h:=fF h;have h5:=eL (vs:=glob 0) (g:=0) (t:=194) (e:=9) (n:=6) (by kernel_rfl) (by kernel_rfl) (by kernel_rfl) (.inr (by kernel_rfl)) (by kernel_rfl) (by kernel_rfl) (by rfl) h;replace h:=fF h;have h6:=eL (vs:=glob 5) (g:=5) (t:=322) (e:=9) (n:=35) (by kernel_rfl) (by kernel_rfl) (by kernel_rfl) (.inr (by kernel_rfl)) (by kernel_rfl) (by kernel_rfl) (by rfl) h;replace h:=fF h;have h7:=eL (vs:=glob 3) (g:=3) (t:=194) (e:=9) (n:=6) (by kernel_rfl) (by kernel_rfl) (by kernel_rfl) (.inr (by kernel_rfl)) (by kernel_rfl) (by kernel_rfl) (by rfl) h;refine⟨fun g i u hu=>?_,fun g hg=>?_⟩
 ·by_cases e0:g=10
  ·subst e0;exact fX h0 i u hu
  by_cases e1:g=11
  ·subst e1;exact fX h1 i u hu
  by_cases e2:g=8
  ·subst e2;exact fX h2 i u hu
  by_cases e5:g=0
  ·subst e5;exact fX h5 i u hu
  by_cases e6:g=5
  ·subst e6;exact fX h6 i u hu
  by_cases e7:g=3
  ·subst e7;exact fX h7 i u hu
  have e:glob g=[]:=by unfold glob;split<;>first|rfl|contradiction
  rw[e]at hu;cases hu
 ·unfold FF at hg;simp only[List.contains_cons,List.contains_nil,Bool.or_false,Bool.or_eq_true,beq_iff_eq]at hg;rcases hg with rfl|rfl
  ·exact⟨_,_,h4⟩
  ·exact⟨_,_,h3⟩
end Go.Proofs.YtooioahiijbomaaGreatDoor
end
