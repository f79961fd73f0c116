/-
  Texts of this proof,joined: CKPlays,GlobOf.
-/
import Derived.Test.YtigdiekbiphhmaaGreatDoorP8
import Derived.KernelRfl
import Derived.Lib.LaidTab
import Derived.MakeChecks
import Derived.Test.YtigdiekbiphhmaaGreatDoorRows
set_option linter.unusedVariables false
set_option linter.unusedSimpArgs false
noncomputable section
namespace Go.Proofs.YtigdiekbiphhmaaGreatDoor
open Go.RowKit
set_option maxRecDepth 100000
theorem Mi:bK Tryz.prog 5 Wp:=bL (by kernel_rfl) (Gz _ B2 RT NV Jo Fd OC Mw Jp)
end Go.Proofs.YtigdiekbiphhmaaGreatDoor
namespace Go.Proofs.YtigdiekbiphhmaaGreatDoor
open Go Go.Lib
open Go.RowKit
def aaP {H:Type}:Value→DataW H
 |.int k z=>.lit (.int k z)
 |.string s=>.lit (.string s.data.toList)
 |_=>.nil
theorem aaO {H:Type}{enc:TypeId×Value→H}{P:bI}{w:World}{base:Nat}{sp:Nat→Bool}{held:Bool}{fuel:Nat}{t e:TypeId}{n:Nat}{cs vs:List Value}{p:List MemPlace}(ht:P.underlying t=some (.array n e)) (he:(∃k,P.underlying e=some (.int k))∨P.underlying e=some .string) (hce:P.cellsOf e=1) (hct:P.cellsOf t=n) (h:DataW.trod enc P w base sp held fuel t cs=some (.agg (vs.map aaP),p)):cs=vs:=by
 cases fuel with
 |zero=>simp[DataW.trod]at h
 |succ fuel=>
  simp only[DataW.trod,ht,hce,hct,Nat.mul_one]at h
  split at h
  · rename_i hl
    obtain⟨xs,hm,hx⟩:=Option.map_eq_some_iff.1 h;have hxs:xs.map (·.1)=vs.map aaP:=by simpa using congrArg Prod.fst hx
    have hxl:=mapM_length hm;have hzl:=congrArg List.length hxs;simp at hxl hzl;apply List.ext_getElem?;intro i;by_cases hi:i < n
    · obtain⟨b,hb,hf⟩:=mapM_at hm i i (by simp[hi])
      have hvi:vs[i]?=some vs[i]:=aB (by omega);have h2:=congrArg (·[i]?) hxs;simp only[aD,hb,hvi,Option.map_some,bE]at h2;rw[hvi];rcases he with ⟨k,he⟩|he
      · obtain⟨z,hc,h3,_⟩:=DataW.trod_int he hf
        have h1:=congrArg (·[0]?) hc;simp[List.getElem?_take,List.getElem?_drop]at h1;rw[h1];rw[h3]at h2;cases hv:vs[i]<;>simp[hv,aaP]at h2<;>simp[h2]
      · obtain⟨s,hc,h3,_⟩:=DataW.trod_string he hf
        have h1:=congrArg (·[0]?) hc;simp[List.getElem?_take,List.getElem?_drop]at h1;rw[h1];rw[h3]at h2;cases hv:vs[i]<;>simp only[hv,aaP,DataW.lit.injEq,Lit.string.injEq,reduceCtorEq]at h2;rw[ByteArray.ext (Array.toList_inj.1 h2)]
    · rw[List.getElem?_eq_none (by omega),List.getElem?_eq_none (by omega)]
  · cases h
theorem aaM {P:bI}{W:World}{name:String}{vs:List Value}{d:DataW Unit}{rest:List (String×DataW Unit)}{g:Nat}{t e:TypeId}{n:Nat}(he:(∃k,P.underlying e=some (.int k))∨P.underlying e=some .string) (h:laidMet P ((name,d) :: rest) W) (hg:P.globalNamed name=some g:=by kernel_rfl) (hty:(P.globals[g]?).map (·.type)=some t:=by kernel_rfl) (ht:P.underlying t=some (.array n e):=by kernel_rfl) (hce:P.cellsOf e=1:=by kernel_rfl) (hct:P.cellsOf t=n:=by kernel_rfl) (hd:d=.agg (vs.map aaP):=by rfl):∃t' f,W.heap[g]?=some (.cells vs.toArray t' f):=by
 obtain⟨ps,⟨g',t',cs,fuel,p,q,hg',ht',hvar,hdd,_,_⟩,_⟩:=h;cases hg.symm.trans hg';cases hty.symm.trans ht';subst hd;have hcs:=aaO ht he hce hct hdd;unfold World.var? at hvar;simp only[hg,Option.bind_some]at hvar
 split at hvar
 · rename_i c t2 f hb
   exact⟨t2,f,by rw[hb,←hcs];simp at hvar;rw[hvar]⟩
 · cases hvar
theorem aaN {w:World}{g:Nat}{vs:List Value}(h:∃t f,w.heap[g]?=some (.cells vs.toArray t f)):∀i u,vs[i]?=some u→i < nJ w g∧w.cell? ⟨g,i,none⟩=some u∧xB w g=some vs.length:=fun i u hu=>by
 obtain⟨t,f,hb⟩:=h;have hi:=(aA.1 hu).1;exact⟨by simpa [nJ,hb]using hi,by simp[World.cell?,hb,hu],by simp[xB,hb]⟩
theorem gG {P:bI}{W:World}{x:String×DataW Unit}{rest:List (String×DataW Unit)}(h:laidMet P (x :: rest) W):laidMet P rest W:=by
 obtain⟨ps,⟨g,t,cs,fuel,p,q,_,_,_,_,hr,rfl⟩,hnd,hc⟩:=h;exact⟨q,hr,(List.nodup_append.1 hnd).2.1,fun b off hm=>hc b off (List.mem_append_right _ hm)⟩
theorem DL {W : World} (h : laidMetH Tryz.prog [("math/bits.deBruijn32tab", Rows.laid_math_bits_deBruijn32tab), ("math/bits.deBruijn64tab", Rows.laid_math_bits_deBruijn64tab), ("internal/strconv.uint64pow10", Rows.laid_internal_strconv_uint64pow10), ("supercargo/post.kinds", Rows.laid_supercargo_post_kinds), ("supercargo/carrier.stateWords", Rows.laid_supercargo_carrier_stateWords), ("supercargo/carrier.originalWords", Rows.laid_supercargo_carrier_originalWords)] W) : kL (nJ W) W := by
 rw[MakeChecks.laidMetH_plain _ _ _ (by kernel_rfl)]at h;have h0:=aaM (vs:=glob 5) (g:=5) (t:=292) (e:=5) (n:=32) (.inl ⟨.u8,by kernel_rfl⟩) h;replace h:=gG h;have h1:=aaM (vs:=glob 6) (g:=6) (t:=293) (e:=5) (n:=64) (.inl ⟨.u8,by kernel_rfl⟩) h;replace h:=gG h;have h2:=aaM (vs:=glob 4) (g:=4) (t:=281) (e:=260) (n:=20) (.inl ⟨.u64,by kernel_rfl⟩) h;replace h:=gG h;have h3:=aaM (vs:=glob 2) (g:=2) (t:=272) (e:=9) (n:=29) (.inr (by kernel_rfl)) h;replace h:=gG h;have h4:=aaM (vs:=glob 0) (g:=0) (t:=159) (e:=9) (n:=5) (.inr (by kernel_rfl)) h;replace h:=gG h;have h5:=aaM (vs:=glob 1) (g:=1) (t:=159) (e:=9) (n:=5) (.inr (by kernel_rfl)) h;refine⟨fun g i u hu=>?_,fun g hg=>?_⟩
 ·by_cases e0:g=5
  ·subst e0;exact aaN h0 i u hu
  by_cases e1:g=6
  ·subst e1;exact aaN h1 i u hu
  by_cases e2:g=4
  ·subst e2;exact aaN h2 i u hu
  by_cases e3:g=2
  ·subst e3;exact aaN h3 i u hu
  by_cases e4:g=0
  ·subst e4;exact aaN h4 i u hu
  by_cases e5:g=1
  ·subst e5;exact aaN h5 i u hu
  have e:glob g=[]:=by unfold glob;split<;>first|rfl|contradiction
  rw[e]at hu;cases hu
 ·exact absurd hg (by unfold Mf;simp)
end Go.Proofs.YtigdiekbiphhmaaGreatDoor
end
