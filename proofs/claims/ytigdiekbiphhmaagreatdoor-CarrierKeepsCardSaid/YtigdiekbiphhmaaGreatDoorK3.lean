/-
  Texts of this proof,joined: VG,VH,VI,VJ,Lst,Src,VS,VK,VL,VM,Name.
-/
import Derived.Test.YtigdiekbiphhmaaGreatDoorK2
import Derived.IntWalk
set_option linter.unusedVariables false
set_option linter.unusedSimpArgs false
noncomputable section
namespace Go.Proofs.YtigdiekbiphhmaaGreatDoor
open Go.RowKit
theorem oJ {l:List Nat}(h:l.Nodup) {i j:Nat}{hi:i < l.length}{hj:j < l.length}(e:l[i]=l[j]):i=j:=by
 rcases Nat.lt_trichotomy i j with h1|h1|h1
 ·exact absurd e (List.pairwise_iff_getElem.1 h i j hi hj h1)
 ·exact h1
 ·exact absurd e.symm (List.pairwise_iff_getElem.1 h j i hj hi h1)
theorem Lu {s:List Nat}{H0:List cG}{i:Nat}{e:cG}(h:H0[i]?=some e) (ht:e.turns=true) (hi:i < s.length):s[i]∈fV s H0:=by
 induction s generalizing i H0 with
 |nil=>simp at hi
 |cons k s ih=>
  cases H0 with
  |nil=>simp at h
  |cons d l=>
   cases i with
   |zero=>
    simp at h;subst h;simp[fV,ht]
   |succ i=>
    have:=ih (i:=i) (H0:=l) (by simpa using h) (by simpa using hi);unfold fV;cases d.turns
    ·exact this
    ·exact aW _ this
theorem uU {P:bI}{f:Nat}{c:dA}(hf:bK P f c) (sel:List Nat) {args0:List AV}{H0:List cG}{keep:List Nat}{args:List AV}{st:St}{K:AV→St→Prop}
  (ha:args=AV.renL sel st.H.length args0) (hlen:sel.length=H0.length) (hnd:sel.Nodup) (hlt:∀k∈sel,k < st.H.length) (hH:sel.map (fun k=>st.H[k]?)=(gA sel st.H.length H0).map some)
  (hb:AV.bndL H0.length args0=true) (hbH:fD H0.length H0=true) (hkeep:∀k∈keep,k∉sel∧k < st.H.length)
  (hc:c args0 H0 fun x H'=>K (x.ren sel st.H.length) ⟨iO st.T (fV sel H0),rZ (gO st.H (fV sel H0)) sel (gA sel st.H.length H')⟩):fY P keep f args st K:=by
 refine⟨fun C a w r pub vals h hv=>?_⟩
 let r0:cT:=fun i=>if i < sel.length then r (dU sel st.H.length i) else none
 have hr0:∀i y,r0 i=some y→i < sel.length∧r (dU sel st.H.length i)=some y:=fun i y hy=>by
  by_cases hi:i < sel.length
  ·simp only[r0,aF hi]at hy;exact⟨hi,hy⟩
  ·simp only[r0,aE hi]at hy;cases hy
 have hr0':∀i,i < sel.length→r0 i=r (dU sel st.H.length i):=fun i hi=>aF hi
 have hsi:∀i (hi:i < sel.length),dU sel st.H.length i=sel[i]:=fun i hi=>qU hi
 have hinj:∀i j,i < sel.length→j < sel.length→dU sel st.H.length i=dU sel st.H.length j→i=j:=fun i j hi hj e=>by
  rw[hsi i hi,hsi j hj]at e;exact oJ hnd e
 have hent:∀i e,H0[i]?=some e→st.H[dU sel st.H.length i]?=some (e.ren sel st.H.length):=fun i e he=>by
  have hi:i < sel.length:=by rw[hlen];exact(aA.1 he).1
  have h1:=congrArg (fun l=>l[i]?) hH;simp only[aD,gC,he,Option.map_some,aB hi]at h1;rw[hsi i hi];simpa using h1
 -- what the callee is handed
 have hm0:nU pub w r0 H0:=by
  refine⟨fun i e he=>?_,fun i hi=>aE (by omega),fun i j x y hij hx hy=>?_,h.mod.fresh,h.mod.there,h.mod.glob⟩
  ·have hi:i < sel.length:=by rw[hlen];exact(aA.1 he).1
   have he1:=h.mod.ent _ _ (hent i e he);have hbe:=lY hbH i e he;rw[hr0' i hi];exact he1.unren hbe fun k y hkb hy=>by rw[hr0' k (by omega)];exact hy
  ·obtain⟨hi,hx⟩:=hr0 i x hx;obtain⟨hj,hy⟩:=hr0 j y hy;exact h.mod.disj _ _ x y (fun e=>hij (hinj i j hi hj e)) hx hy
 have hv0:bR pub w r0 args0 vals.toList:=by
  subst ha;refine⟨by have:=hv.len;rw[AV.renL_map,aJ]at this;exact this,fun q x u hx hu=>?_⟩;refine(hv.at_ q (x.ren sel st.H.length) u (by rw[AV.renL_map,aD,hx];rfl) hu).unren x rfl fun k y hk hy=>?_
  have hkb:k < H0.length:=AV.bnd_has _ (AV.bndL_mem hx hb) hk;rw[hr0' k (by omega)];exact hy
 refine(hf args0 H0 _ hc w r0 pub vals hm0 hv0).mono fun e w' hpost=>?_
 obtain⟨v,x,H',r1,pub',rfl,hK,hvx,hm1,hfr,hown,hstab,hlen'⟩:=hpost
 -- the handles behind the call
 let r':cT:=fun k=>match sel.idxOf? k with
  |some i=>r1 i
  |none=>if st.H.length≤k then r1 (sel.length+(k - st.H.length)) else r k
 have hr'sel:∀i (hi:i < sel.length),r' sel[i]=r1 i:=fun i hi=>by
  have:sel.idxOf? sel[i]=some i:=by
   rw[List.idxOf?_eq_some_iff];exact⟨hi,rfl,fun j hj=>by
    intro e;have:=oJ hnd e;omega⟩
  simp only[r',this]
 have hidx:∀k,k∉sel→sel.idxOf? k=none:=fun k hk=>by rw[List.idxOf?_eq_none_iff];exact hk
 have hr'new:∀k,st.H.length≤k→r' k=r1 (sel.length+(k - st.H.length)):=fun k hk=>by
  have hkn:k∉sel:=fun hk'=>by have:=hlt k hk';omega
  simp only[r',hidx k hkn,aF hk]
 have hr'old:∀k,k∉sel→k < st.H.length→r' k=r k:=fun k hk hkl=>by
  simp only[r',hidx k hk,aE (by omega:¬st.H.length≤k)]
 have hsig:∀i,r' (dU sel st.H.length i)=r1 i:=fun i=>by
  by_cases hi:i < sel.length
  ·rw[hsi i hi];exact hr'sel i hi
  ·rw[nX (by omega),hr'new _ (by omega)];congr 1;omega
 have hcase:∀k,(∃i,dU sel st.H.length i=k)∨(k∉sel∧k < st.H.length):=fun k=>by
  by_cases hk:k∈sel
  ·obtain⟨i,hi,rfl⟩:=List.getElem_of_mem hk;exact .inl ⟨i,hsi i hi⟩
  ·by_cases hkl:k < st.H.length
   ·exact .inr ⟨hk,hkl⟩
   ·exact .inl ⟨sel.length+(k - st.H.length),by rw[nX (by omega)];omega⟩
 have hsinj:∀i j,dU sel st.H.length i=dU sel st.H.length j→i=j:=fun i j e=>by
  by_cases hi:i < sel.length
  ·by_cases hj:j < sel.length
   ·exact hinj i j hi hj e
   ·rw[hsi i hi,nX (by omega)]at e;have:=hlt sel[i] (List.getElem_mem hi);omega
  ·by_cases hj:j < sel.length
   ·rw[hsi j hj,nX (by omega)]at e;have:=hlt sel[j] (List.getElem_mem hj);omega
   ·rw[nX (by omega),nX (by omega)]at e;omega
 -- the other entries' blocks
 have hfoot:∀k y,k∉sel→r k=some y→∀b∈cH y,¬vP r0 b:=fun k y hk hy b hb' ⟨i,z,hz,hbz⟩=>by
  obtain⟨hi,hz⟩:=hr0 i z hz;rw[hsi i hi]at hz;exact h.mod.disj k sel[i] y z (fun e=>hk (by rw[e];exact List.getElem_mem hi)) hy hz b hb' hbz
 have hkeepr:∀n y,eI r (fV sel H0) n=some y→r' n=some y:=fun n y hy=>by
  unfold eI at hy
  split at hy
  ·cases hy
  ·rename_i hnr;by_cases hn:n∈sel
   ·obtain⟨i,hi,rfl⟩:=List.getElem_of_mem hn;rw[hr'sel i hi];refine hstab i y (by rw[hr0' i hi,hsi i hi];exact hy) ?_
    -- a slice's handle is a row's
    have hi0:i < H0.length:=by omega
    have he:=hm0.ent i _ (aB hi0);rw[hr0' i hi,hsi i hi,hy]at he;refine he.turns ?_;cases ht:H0[i].turns with
    |false=>rfl
    |true=>exact absurd (Lu (aB hi0) ht hi) hnr
   ·have hnl:n < st.H.length:=by
     rcases aL n st.H.length with h1|h1
     ·exact h1
     ·rw[h.mod.none_ n h1]at hy;cases hy
    rw[hr'old n hn hnl];exact hy
 have hsl:sel.length≤(gA sel st.H.length H').length:=by rw[gC,aJ];omega
 have hkl:=sV (fV sel H0) st.H;have hnl:(rZ (gO st.H (fV sel H0)) sel (gA sel st.H.length H')).length=st.H.length+(H'.length - sel.length):=by
  rw[EP _ _ _ hsl,hkl,gC,aJ]
 have hownb:∀b,vP r0 b→C.S b∨C.w.heap.size≤b:=fun b ⟨i,z,hz,hbz⟩=>by
  obtain⟨hi,hz⟩:=hr0 i z hz;exact h.own _ z hz b hbz
 have hmod:nU pub' w' r' (rZ (gO st.H (fV sel H0)) sel (gA sel st.H.length H')):=by
  refine⟨fun k e he=>?_,fun k hk=>?_,fun i j x y hij hx hy=>?_,hm1.fresh,hm1.there,hm1.glob⟩
  ·rcases Gi sel _ _ k e hnd (fun q hq=>by rw[hkl];exact hlt q hq) hsl he with ⟨i,hi,hL⟩|⟨hk,hkl2,he2⟩
   ·rw[hkl]at hi;subst hi;rw[hsig i];rw[gC,aD]at hL;cases hq:H'[i]? with
    |none=>rw[hq]at hL;cases hL
    |some e1=>
     rw[hq]at hL;cases hL;have he1:=hm1.ent i e1 hq;exact he1.ren fun m y hy=>by rw[hsig m];exact hy
   ·rw[hkl]at hkl2;rw[hr'old k hk hkl2];obtain⟨e0,h0,h1⟩:=pK (pub:=pub') (w:=w') (hd:=r k) (fV sel H0) st.H r k e he2;have he0:=(h.mod.ent k e0 h0).frm (r':=r) hfr (fun y hy b hb=>hfoot k y hk hy b hb) (fun _ _ h=>h);exact(h1 he0).frm (S:=fun _=>False) (Fr.refl _ _ _) (fun _ _ _ _ h=>h) hkeepr
  ·rw[hnl]at hk;rw[hr'new k (by omega)];exact hm1.none_ _ (by omega)
  ·-- apart
   have far:∀i k y z,r1 i=some y→k∉sel→k < st.H.length→r k=some z→∀b∈cH y,b∉cH z:=fun i k y z hy hk hkl hz b hb' hbz=>by
    rcases hown b ⟨i,y,hy,hb'⟩with h1|h1
    ·exact hfoot k z hk hz b hbz h1
    ·have:=h.mod.foot_lt hz b hbz;omega
   rcases hcase i with ⟨i0,rfl⟩|⟨hi1,hi2⟩
   ·rw[hsig i0]at hx;rcases hcase j with ⟨j0,rfl⟩|⟨hj1,hj2⟩
    ·rw[hsig j0]at hy;exact hm1.disj i0 j0 x y (fun e=>hij (by rw[e])) hx hy
    ·rw[hr'old j hj1 hj2]at hy;exact far i0 j x y hx hj1 hj2 hy
   ·rw[hr'old i hi1 hi2]at hx;rcases hcase j with ⟨j0,rfl⟩|⟨hj1,hj2⟩
    ·rw[hsig j0]at hy;exact fun b hb' hby=>far j0 i y x hy hi1 hi2 hx b hby hb'
    ·rw[hr'old j hj1 hj2]at hy;exact h.mod.disj i j x y hij hx hy
 refine⟨v,_,_,r',pub',rfl,hvx.ren (fun k y hy=>by rw[hsig k];exact hy),hK,⟨hmod,fun k y hy b hb'=>?_,h.fr.trans hfr (fun b hb'=>hownb b hb'),fun n=>?_,h.defers,h.size,fun k y hy hs=>?_,⟨h.low.1,by dsimp only;rw[hnl];have:=h.low.2;omega⟩⟩,hfr.ext,fun k hk=>?_⟩
 ·rcases hcase k with ⟨i0,rfl⟩|⟨hk1,hk2⟩
  ·rw[hsig i0]at hy;rcases hown b ⟨i0,y,hy,hb'⟩with h1|h1
   ·exact hownb b h1
   ·right;have:=h.fr.size;omega
  ·rw[hr'old k hk1 hk2]at hy;exact h.own k y hy b hb'
 ·exact((sT (fV sel H0) st.T r (h.slots n)).ext hfr.ext).mono hkeepr
 ·have h1:=h.stab k y hy hs;have hkl3:k < st.H.length:=by
   rcases aL k st.H.length with h2|h2
   ·exact h2
   ·rw[h.mod.none_ k h2]at h1;cases h1
  by_cases hk:k∈sel
  ·obtain⟨i,hi,rfl⟩:=List.getElem_of_mem hk;rw[hr'sel i hi];exact hstab i y (by rw[hr0' i hi,hsi i hi];exact h1) hs
  ·rw[hr'old k hk hkl3];exact h1
 ·obtain⟨hk1,hk2⟩:=hkeep k hk;refine⟨hr'old k hk1 hk2,fun y hy b hb'=>(hfr.keep b (h.mod.foot_lt hy b hb') (hfoot k y hk1 hy b hb')).1⟩
mutual
theorem AV.ren_id {s:List Nat}{base:Nat}:∀(x:AV),x.bnd 0=true→x.ren s base=x
 |.any,_=>by unfold AV.ren;rfl
 |.bl _,_=>by unfold AV.ren;rfl
 |.int _ _,_=>by unfold AV.ren;rfl
 |.str _,_=>by unfold AV.ren;rfl
 |.v _,_=>by unfold AV.ren;rfl
 |.sl _ _,_=>by unfold AV.ren;rfl
 |.rp _ _,_=>by unfold AV.ren;rfl
 |.ptr k _,h=>by simp[AV.bnd]at h
 |.hd k,h=>by simp[AV.bnd]at h
 |.ph k,h=>by simp[AV.bnd]at h
 |.re k _ _ _,h=>by simp[AV.bnd]at h
 |.agg l,h=>by unfold AV.ren;rw[AV.renL_id l (by simpa [AV.bnd]using h)]
 |.tup l,h=>by unfold AV.ren;rw[AV.renL_id l (by simpa [AV.bnd]using h)]
 |.clo f l,h=>by unfold AV.ren;rw[AV.renL_id l (by simpa [AV.bnd]using h)]
theorem AV.renL_id {s:List Nat}{base:Nat}:∀(l:List AV),AV.bndL 0 l=true→AV.renL s base l=l
 |[],_=>by unfold AV.renL;rfl
 |x :: l,h=>by
  simp only[AV.bndL,aO]at h;unfold AV.renL;rw[AV.ren_id x h.1,AV.renL_id l h.2]
end
theorem GI {P:bI}{f:Nat}{c:dA}(hf:bK P f c) (hmono:∀args H (K K':AV→List cG→Prop),(∀x H,K x H→K' x H)→c args H K→c args H K') {keep:List Nat}{args:List AV}{st:St}{K:AV→St→Prop}(hb:AV.bndL 0 args=true) (hk:∀k∈keep,k < st.H.length)
  (hc:c args [] fun x H'=>H'=[]∧x.bnd 0=true∧K x st):fY P keep f args st K:=by
 refine uU hf [] (args0:=args) (H0:=[]) (AV.renL_id args hb).symm rfl List.nodup_nil (by simp) rfl hb rfl (fun k hkk=>⟨by simp,hk k hkk⟩) (hmono _ _ _ _ (fun x H' h=>?_) hc);obtain⟨rfl,hx,hK⟩:=h;rw[AV.ren_id x hx];simpa [fV,iO,gO,rZ,gA]using hK
def spec {ι:Type}(a:ι→List AV) (h:ι→List cG) (p:ι→Prop) (r:ι→AV) (h':ι→List cG):dA:=fun args H K=>∃i,args=a i∧H=h i∧p i∧K (r i) (h' i)
theorem Ku {ι:Type}{a:ι→List AV}{h:ι→List cG}{p:ι→Prop}{r:ι→AV}{h':ι→List cG}:∀args H (K K':AV→List cG→Prop),(∀x H,K x H→K' x H)→spec a h p r h' args H K→spec a h p r h' args H K':=
 fun _ _ _ _ hk ⟨i,h1,h2,h3,h4⟩=>⟨i,h1,h2,h3,hk _ _ h4⟩
theorem nA {P:bI}{f:Nat}{ι:Type}{a:ι→List AV}{p:ι→Prop}{r:ι→AV}(hf:bK P f (spec a (fun _=>[]) p r fun _=>[])) (i:ι) {keep:List Nat}{st:St}{K:AV→St→Prop}(hp:p i) (hb:AV.bndL 0 (a i)=true) (hr:(r i).bnd 0=true) (hk:(keep.all fun k=>Nat.blt k st.H.length)=true) (hK:K (r i) st):fY P keep f (a i) st K:=
 GI hf Ku hb (fun k hkk=>by have:=aT.1 hk k hkk;simpa [Nat.blt_eq]using this) ⟨i,rfl,rfl,hp,rfl,hr,hK⟩
inductive N1:AV→AV→Prop
 |refl (x:AV):N1 x x
 |nil (sz:Nat):N1 (.v (.slice none 0 0)) (.sl sz [])
inductive xQ:List AV→List AV→Prop
 |nil:xQ [] []
 |cons {x y:AV}{l m:List AV}(h:N1 x y) (hl:xQ l m):xQ (x :: l) (y :: m)
inductive Jj:AV→AV→Prop
 |one {x y:AV}(h:N1 x y):Jj x y
 |agg {l m:List AV}(h:xQ l m):Jj (.agg l) (.agg m)
inductive qB:List AV→List AV→Prop
 |nil:qB [] []
 |cons {x y:AV}{l m:List AV}(h:Jj x y) (hl:qB l m):qB (x :: l) (y :: m)
inductive Le:AV→AV→Prop
 |one {x y:AV}(h:Jj x y):Le x y
 |tup {l m:List AV}(h:qB l m):Le (.tup l) (.tup m)
inductive Gr:cG→cG→Prop
 |refl (e:cG):Gr e e
 |blk {t:TypeId}{l m:List AV}(h:xQ l m):Gr (.blk t l) (.blk t m)
 |row {t:TypeId}{sz:Nat}{l m:List AV}(h:qB l m):Gr (.row t sz l) (.row t sz m)
inductive jW:List cG→List cG→Prop
 |nil:jW [] []
 |cons {x y:cG}{l m:List cG}(h:Gr x y) (hl:jW l m):jW (x :: l) (y :: m)
section
variable {pub:cY}{w:World}{r:cT}
theorem Le.refl (x:AV):Le x x:=.one (.one (.refl x))
theorem jW.refl:∀l,jW l l
 |[]=>.nil
 |e :: l=>.cons (.refl e) (jW.refl l)
theorem N1.to {x y:AV}(h:N1 x y) {v:Value}(hv:bU pub w r x v):bU pub w r y v:=by
 cases h with
 |refl=>exact hv
 |nil sz=>
  cases hv;exact .sl (A:=none) (c:=0) (xs:=[]) (aN _) (by unfold maxLen;omega) (fun _=>⟨rfl,rfl⟩) (fun x hx=>by cases hx) (fun _ _=>undef) (fun i x j u hx=>by simp at hx) (fun i x j u hx=>by simp at hx)
theorem xQ.to {l m:List AV}(h:xQ l m):∀{us:List Value},bR pub w r l us→bR pub w r m us:=by
 induction h with
 |nil=>exact fun h=>h
 |cons h1 _ ih=>
  intro us hu;obtain⟨u,us',rfl,h2,h3⟩:=hu.cons_inv;exact .cons (h1.to h2) (ih h3)
theorem Jj.to {x y:AV}(h:Jj x y) {v:Value}(hv:bU pub w r x v):bU pub w r y v:=by
 cases h with
 |one h=>exact h.to hv
 |agg h=>
  cases hv with
  |agg hl h1=>
   have:=h.to (us:=_) ⟨(bB).trans hl,fun i x u hx hu=>h1 i x u hx (by simpa using hu)⟩;exact .agg (by simpa using this.len) fun i x u hx hu=>this.at_ i x u hx (by simpa using hu)
theorem qB.to {l m:List AV}(h:qB l m):∀{us:List Value},bR pub w r l us→bR pub w r m us:=by
 induction h with
 |nil=>exact fun h=>h
 |cons h1 _ ih=>
  intro us hu;obtain⟨u,us',rfl,h2,h3⟩:=hu.cons_inv;exact .cons (h1.to h2) (ih h3)
theorem Le.to {x y:AV}(h:Le x y) {v:Value}(hv:bU pub w r x v):bU pub w r y v:=by
 cases h with
 |one h=>exact h.to hv
 |tup h=>
  cases hv with
  |tup hl h1=>
   have:=h.to (us:=_) ⟨(bB).trans hl,fun i x u hx hu=>h1 i x u hx (by simpa using hu)⟩;exact .tup (by simpa using this.len) fun i x u hx hu=>this.at_ i x u hx (by simpa using hu)
theorem xQ.refl:∀l,xQ l l
 |[]=>.nil
 |x :: l=>.cons (.refl x) (xQ.refl l)
theorem xQ.app {a b:List AV}(h:xQ a b) {c d:List AV}(k:xQ c d):xQ (a++c) (b++d):=by
 induction h with
 |nil=>exact k
 |cons h1 _ ih=>exact .cons h1 ih
theorem xQ.len {a b:List AV}(h:xQ a b):b.length=a.length:=by
 induction h with
 |nil=>rfl
 |cons _ _ ih=>simp[ih]
theorem xQ.one {a b:List AV}(h:xQ a b):a.all AV.one=true→b.all AV.one=true:=by
 induction h with
 |nil=>exact fun h=>h
 |cons h1 _ ih=>
  intro h2;simp only[List.all_cons,aO]at h2⊢;exact⟨by cases h1 with|refl=>exact h2.1|nil=>rfl,ih h2.2⟩
theorem Jj.cells {x y:AV}(h:Jj x y):xQ x.cells y.cells:=by
 cases h with
 |one h=>cases h with
  |refl=>exact xQ.refl _
  |nil sz=>exact .cons (.nil sz) .nil
 |agg h=>exact h
theorem qB.flat {a b:List AV}(h:qB a b):xQ (a.flatMap AV.cells) (b.flatMap AV.cells):=by
 induction h with
 |nil=>exact .nil
 |cons h1 _ ih=>simp only[List.flatMap_cons];exact h1.cells.app ih
theorem qB.len {a b:List AV}(h:qB a b):b.length=a.length:=by
 induction h with
 |nil=>rfl
 |cons _ _ ih=>simp[ih]
theorem qB.each {a b:List AV}(h:qB a b) {sz:Nat}:(∀x∈a,x.cells.length=sz∧x.cells.all AV.one=true)→∀x∈b,x.cells.length=sz∧x.cells.all AV.one=true:=by
 induction h with
 |nil=>exact fun h=>h
 |cons h1 _ ih=>
  intro h2 y hy;rcases List.mem_cons.1 hy with rfl|hy
  ·have:=h2 _ (bD ..);exact⟨by rw[h1.cells.len];exact this.1,h1.cells.one this.2⟩
  ·exact ih (fun x hx=>h2 x (aW _ hx)) y hy
theorem Gr.to {x y:cG}(h:Gr x y) {v:Option Value}(hv:eF pub w r v x):eF pub w r v y:=by
 cases h with
 |refl=>exact hv
 |blk h=>cases hv with|blk hb hc hp=>exact .blk hb (h.to hc) hp
 |row h=>cases hv with|row ho hc hs hp=>rw[←h.len]at ho⊢;exact .row ho (h.flat.to hc) (h.each hs) hp
theorem jW.get {l m:List cG}(h:jW l m):∀{i:Nat}{e:cG},m[i]?=some e→∃d,l[i]?=some d∧Gr d e:=by
 induction h with
 |nil=>intro i e h;simp at h
 |cons h1 _ ih=>
  intro i e he;cases i with
  |zero=>simp at he;subst he;exact⟨_,rfl,h1⟩
  |succ i=>simpa using ih (by simpa using he)
theorem jW.len {l m:List cG}(h:jW l m):m.length=l.length:=by
 induction h with
 |nil=>rfl
 |cons _ _ ih=>simp[ih]
theorem nU.le {H H2:List cG}(h:nU pub w r H) (hl:jW H H2):nU pub w r H2:=by
 refine⟨fun i e he=>?_,fun i hi=>h.none_ i (by rw[←hl.len];exact hi),h.disj,h.fresh,h.there,h.glob⟩;obtain⟨d,hd,hde⟩:=hl.get he;exact hde.to (h.ent i d hd)
end
def Ay (s:List Nat):Nat→List cG→Bool
 |_,[]=>true
 |n,e :: H=>((match s[n]? with|some k=>k == n|none=>false) || e.turns) && Ay s (n+1) H
theorem Gf {s:List Nat}:∀{n:Nat}{H:List cG},Ay s n H=true→∀(k:Nat) (e:cG),H[k]?=some e→s[n+k]?=some (n+k)∨e.turns=true
 |n,[],h,k,e,he=>by simp at he
 |n,d :: H,h,k,e,he=>by
  unfold Ay at h;simp only[aO]at h;cases k with
  |zero=>
   simp at he;subst he;rw[Bool.or_eq_true]at h;rcases h.1 with h1|h1
   ·left
    split at h1
    ·rename_i q hq;simp at h1;subst h1;exact hq
    ·cases h1
   ·exact .inr h1
  |succ k=>
   have:=Gf h.2 k e (by simpa using he);rw[show n+(k+1)=n+1+k by omega];exact this
structure eN (H:List cG) (K:AV→List cG→Prop) (x:AV) (H':List cG):Prop where
 out:∃(s:List Nat) (x2:AV) (H2:List cG) (x3:AV) (H3:List cG),x=x2.ren s 0∧s.map (fun k=>H'[k]?)=(gA s 0 H2).map some∧s.Nodup∧Ay s 0 H=true∧H.length≤s.length∧x2.bnd H2.length=true∧fD H2.length H2=true∧Le x2 x3∧jW H2 H3∧K x3 H3
theorem tD.cut {K:AV→List cG→Prop}{H:List cG}{w w':World}{r:cT}{pub:cY}{e:Ending}(hm:nU pub w r H) (h:tD (eN H K) H w r pub e w'):tD K H w r pub e w':=by
 obtain⟨v,x,H',r1,pub',rfl,⟨⟨s,x2,H2,x3,H3,rfl,hH,hnd,htk,hM,hbx,hbH,hx3,hH3,hK⟩⟩,hvx,hm1,hfr,hown,hstab,hlen'⟩:=h;have hlen:s.length=H2.length:=by have:=congrArg List.length hH;simpa [gC]using this
 have hsi:∀i (hi:i < s.length),dU s 0 i=s[i]:=fun i hi=>qU hi
 let r0:cT:=fun i=>if i < s.length then r1 (dU s 0 i) else none
 have hr0:∀i y,r0 i=some y→i < s.length∧r1 (dU s 0 i)=some y:=fun i y hy=>by
  by_cases hi:i < s.length
  ·simp only[r0,aF hi]at hy;exact⟨hi,hy⟩
  ·simp only[r0,aE hi]at hy;cases hy
 have hr0':∀i,i < s.length→r0 i=r1 (dU s 0 i):=fun i hi=>aF hi
 have hinj:∀i j,i < s.length→j < s.length→dU s 0 i=dU s 0 j→i=j:=fun i j hi hj e=>by
  rw[hsi i hi,hsi j hj]at e;exact oJ hnd e
 have hent:∀i e,H2[i]?=some e→H'[dU s 0 i]?=some (e.ren s 0):=fun i e he=>by
  have hi:i < s.length:=by rw[hlen];exact(aA.1 he).1
  have h1:=congrArg (fun l=>l[i]?) hH;simp only[aD,gC,he,Option.map_some,aB hi]at h1;rw[hsi i hi];simpa using h1
 have hm0:nU pub' w' r0 H2:=by
  refine⟨fun i e he=>?_,fun i hi=>aE (by omega),fun i j x y hij hx hy=>?_,hm1.fresh,hm1.there,hm1.glob⟩
  ·have hi:i < s.length:=by rw[hlen];exact(aA.1 he).1
   have he1:=hm1.ent _ _ (hent i e he);have hbe:=lY hbH i e he;rw[hr0' i hi];exact he1.unren hbe fun k y hkb hy=>by rw[hr0' k (by omega)];exact hy
  ·obtain⟨hi,hx⟩:=hr0 i x hx;obtain⟨hj,hy⟩:=hr0 j y hy;exact hm1.disj _ _ x y (fun e=>hij (hinj i j hi hj e)) hx hy
 refine⟨v,x3,H3,r0,pub',rfl,hK,hx3.to (hvx.unren x2 rfl fun k y hk hy=>?_),hm0.le hH3,hfr,fun b ⟨k,y,hy,hb⟩=>hown b ⟨_,y,(hr0 k y hy).2,hb⟩,fun k y hy hs=>?_,by have:=hH3.len;omega⟩
 ·have hkb:=AV.bnd_has _ hbx hk;rw[hr0' k (by omega)];exact hy
 ·have h1:=hstab k y hy hs;have hk:k < H.length:=by
   rcases aL k H.length with h2|h2
   ·exact h2
   ·rw[hm.none_ k h2]at hy;cases hy
  have he:=aB hk;rcases Gf htk k _ he with h2|h2
  ·rw[Nat.zero_add]at h2;have hks:=(aA.1 h2)
   obtain⟨h3,h4⟩:=hks;rw[hr0' k h3,hsi k h3,h4];exact h1
  ·exfalso;have h3:=hm.ent k _ he;rw[hy]at h3;generalize H[k]=en at h2 h3;cases h3<;>first|(cases h2;done)|(cases hs;done)
theorem mV {n k:Nat}(h:k < n):dU (List.range n) 0 k=k:=by
 rw[qU (by rw[List.length_range];exact h),List.getElem_range]
mutual
theorem AV.ren_range {n:Nat}:∀(x:AV),x.bnd n=true→x.ren (List.range n) 0=x
 |.any,_=>by unfold AV.ren;rfl
 |.bl _,_=>by unfold AV.ren;rfl
 |.int _ _,_=>by unfold AV.ren;rfl
 |.str _,_=>by unfold AV.ren;rfl
 |.v _,_=>by unfold AV.ren;rfl
 |.sl _ _,_=>by unfold AV.ren;rfl
 |.rp _ _,_=>by unfold AV.ren;rfl
 |.ptr k o,h=>by unfold AV.ren;rw[mV (by simpa [AV.bnd]using h)]
 |.hd k,h=>by unfold AV.ren;rw[mV (by simpa [AV.bnd]using h)]
 |.ph k,h=>by unfold AV.ren;rw[mV (by simpa [AV.bnd]using h)]
 |.re k _ _ _,h=>by unfold AV.ren;rw[mV (by simpa [AV.bnd]using h)]
 |.agg l,h=>by unfold AV.ren;rw[AV.renL_range l (by simpa [AV.bnd]using h)]
 |.tup l,h=>by unfold AV.ren;rw[AV.renL_range l (by simpa [AV.bnd]using h)]
 |.clo f l,h=>by unfold AV.ren;rw[AV.renL_range l (by simpa [AV.bnd]using h)]
theorem AV.renL_range {n:Nat}:∀(l:List AV),AV.bndL n l=true→AV.renL (List.range n) 0 l=l
 |[],_=>by unfold AV.renL;rfl
 |x :: l,h=>by
  simp only[AV.bndL,aO]at h;unfold AV.renL;rw[AV.ren_range x h.1,AV.renL_range l h.2]
end
theorem AE {n:Nat}:∀(l:List cG),fD n l=true→gA (List.range n) 0 l=l
 |[],_=>by unfold gA;rfl
 |e :: l,h=>by
  simp only[fD,aO]at h;unfold gA;rw[AE l h.2];congr 1;cases e with
  |blk t cs=>show cG.blk t (AV.renL (List.range n) 0 cs)=_;rw[AV.renL_range cs (by simpa [qD]using h.1)]
  |hrow t sz m cs=>show cG.hrow t sz m (AV.renL (List.range n) 0 cs)=_;rw[AV.renL_range cs (by simpa [qD]using h.1)]
  |iter x a b=>show cG.iter (AV.ren (List.range n) 0 x) a b=_;rw[AV.ren_range x (by simpa [qD]using h.1)]
  |pool t es outs=>
   show cG.pool t es (outs.map fun p=>(p.1,AV.ren (List.range n) 0 p.2))=_;have h1:AV.bndL n (outs.map fun(p:Nat×AV)=>p.2)=true:=h.1;clear h;congr 1
   induction outs with
   |nil=>rfl
   |cons p outs ih=>
    simp only[List.map_cons,AV.bndL,aO]at h1⊢;rw[ih h1.2,AV.ren_range p.2 h1.1]
  |_=>rfl
theorem eN.pre {H:List cG}{K:AV→List cG→Prop}{x:AV}{H':List cG}(H2:List cG) {x3:AV}{H3:List cG}(hH:H'.take H2.length=H2) (hM:H.length≤H2.length) (hb:x.bnd H2.length=true) (hbH:fD H2.length H2=true) (hx:Le x x3) (hl:jW H2 H3) (hK:K x3 H3):eN H K x H':=by
 refine⟨⟨List.range H2.length,x,H2,x3,H3,(AV.ren_range x hb).symm,?_,List.nodup_range,?_,by rw[List.length_range];exact hM,hb,hbH,hx,hl,hK⟩⟩
 ·rw[AE _ hbH];refine List.ext_getElem? fun i=>?_
  rw[aD,aD];by_cases hi:i < H2.length
  ·rw[List.getElem?_range hi];have:=congrArg (fun l=>l[i]?) hH;simp only[List.getElem?_take,aF hi]at this;rw[aB hi]at this⊢;simpa using this
  ·rw[List.getElem?_eq_none (by rw[List.length_range];omega),List.getElem?_eq_none (by omega)];rfl
 ·have key:∀(n:Nat) (L:List cG),n+L.length≤H2.length→Ay (List.range H2.length) n L=true:=fun n L=>by
   induction L generalizing n with
   |nil=>intro _;rfl
   |cons e L ih=>
    intro hl;simp only[List.length_cons]at hl;unfold Ay;rw[List.getElem?_range (by omega),ih (n+1) (by omega)];simp
  exact key 0 H (by omega)
theorem eN.val {K:AV→List cG→Prop}{x:AV}{H':List cG}{x3:AV}(hb:x.bnd 0=true) (hx:Le x x3) (hK:K x3 []):eN [] K x H':=.pre [] (by simp) (aN _) hb rfl hx .nil hK
def bM (P:bI) (x:cW) (c:dA):Prop:=∀args H K,c args H K→args.length≤x.n∧XW P x.n H.length x.body (OE H.length x.res (eN H K)) ⟨Bq 0 args,H⟩
theorem bL {P:bI}{f:Nat}{x:cW}{c:dA}(hx:U0 P f=some x) (h:bM P x c):bK P f c:=fun args H K hc w r pub vals hm hv=>
 Calls.mono (Wq (fun args H K'=>∃K,c args H K∧K'=eN H K) hx (fun args H K' ⟨K,hc,e⟩=>by subst e;exact h args H K hc) args H _ ⟨K,hc,rfl⟩ w r pub vals hm hv) fun _ _ hp=>tD.cut hm hp
def IY (P:bI) (x:cW) (c:dA):Prop:=∀args H K,c args H K→args.length≤x.n∧dL P x.n H.length x.body (OE H.length x.res (eN H K)) ⟨Bq 0 args,H⟩
theorem Pz {P:bI}{f:Nat}{x:cW}{c:dA}(hx:U0 P f=some x) (h:IY P x c):bK P f c:=fun args H K hc w r pub vals hm hv=>
 Calls.mono (M5 (fun args H K'=>∃K,c args H K∧K'=eN H K) hx (fun args H K' ⟨K,hc,e⟩=>by subst e;exact h args H K hc) args H _ ⟨K,hc,rfl⟩ w r pub vals hm hv) fun _ _ hp=>tD.cut hm hp
abbrev bJ {α β:Type}(f:α→β) (l:List α):List β:=List.rec (motive:=fun _=>List β) [] (fun a _=>List.cons (f a)) l
theorem dV {α β:Type}(f:α→β) (l:List α):bJ f l=l.map f:=by
 induction l with
 |nil=>rfl
 |cons a l ih=>
  show f a :: bJ f l=f a :: l.map f;rw[ih]
theorem bY {α β:Type}(f:α→β) (l:List α):(bJ f l).length=l.length:=by rw[dV];exact aJ f
theorem cD {α β:Type}(f:α→β) (l m:List α):bJ f (l++m)=bJ f l++bJ f m:=by rw[dV,dV,dV];exact List.map_append
theorem cF {α β:Type}(f:α→β) (x:α):bJ f [x]=[f x]:=rfl
theorem JK {P:bI}{f:Nat}{ι:Type}{a:ι→List AV}{p:ι→Prop}{r:ι→AV}{h':ι→List cG}(hf:bK P f (spec a (fun _=>[]) p r h')) (i:ι) {keep:List Nat}{st:St}{K:AV→St→Prop}(hp:p i) (hb:AV.bndL 0 (a i)=true) (hk:(keep.all fun k=>Nat.blt k st.H.length)=true)
  (hK:K ((r i).ren [] st.H.length) ⟨st.T,st.H++gA [] st.H.length (h' i)⟩):fY P keep f (a i) st K:=by
 refine uU hf [] (args0:=a i) (H0:=[]) (AV.renL_id _ hb).symm rfl List.nodup_nil (by simp) rfl hb rfl (fun k hkk=>⟨by simp,by have:=aT.1 hk k hkk;simpa [Nat.blt_eq]using this⟩) ⟨i,rfl,rfl,hp,?_⟩;simpa [fV,iO,gO,rZ]using hK
abbrev nI (n:Nat):Int:=Int.ofNat n
abbrev eW (n i:Nat):Ms:=⟨n,i⟩
theorem bO {n i:Nat}(h:i < n):(eW n (i+1)).val < (eW n i).val:=by unfold Ms.val;dsimp only;omega
theorem sU {P:bI}{f:Nat}{ι:Type}{a:ι→List AV}{h:ι→List cG}{p:ι→Prop}{r:ι→AV}{h':ι→List cG}(hf:bK P f (spec a h p r h')) (i:ι) (sel:List Nat) {keep:List Nat}{args:List AV}{st:St}{K:AV→St→Prop}
  (hp:p i) (ha:args=AV.renL sel st.H.length (a i)) (hlen:sel.length=(h i).length) (hnd:sel.Nodup) (hlt:(sel.all fun k=>Nat.blt k st.H.length)=true) (hH:sel.map (fun k=>st.H[k]?)=(gA sel st.H.length (h i)).map some)
  (hb:AV.bndL (h i).length (a i)=true) (hbH:fD (h i).length (h i)=true) (hkeep:(keep.all fun k=>!sel.contains k && Nat.blt k st.H.length)=true)
  (hK:K ((r i).ren sel st.H.length) ⟨iO st.T (fV sel (h i)),rZ (gO st.H (fV sel (h i))) sel (gA sel st.H.length (h' i))⟩):fY P keep f args st K:=
 uU hf sel ha hlen hnd (fun k hk=>by simpa [Nat.blt_eq]using aT.1 hlt k hk) hH hb hbH (fun k hk=>by
  have:=aT.1 hkeep k hk;simp only[aO,Bool.not_eq_true',Nat.blt_eq]at this;exact⟨fun h=>by rw[List.contains_eq_mem]at this;simp[h]at this,this.2⟩) ⟨i,rfl,rfl,hp,hK⟩
theorem fF {P:bI}{f:Nat}{keep:List Nat}{args:List AV}{st:St}{K:AV→St→Prop}(k:Nat) {t sz:Nat}{xs:List AV}(hk:vD st.H[k]?=some (t,sz,xs))
  (h:fY P keep f (args.map (St.view ⟨st.T,st.H.set k (.tip t sz xs)⟩)) ⟨st.T,st.H.set k (.tip t sz xs)⟩ K):fY P keep f args st K:=by
 refine⟨fun C a w r pub vals hh hv=>?_⟩;have hk':st.H[k]?=some (.row t sz xs):=by
  unfold vD at hk
  split at hk
  ·rename_i e he;cases hk;exact he
  ·cases hk
 obtain⟨pub',h1,he⟩:=hh.publish hk';have hv1:bR pub' w r (args.map (St.view ⟨st.T,st.H.set k (.tip t sz xs)⟩)) vals.toList:=⟨by rw[aJ];exact hv.len,fun i x u hx hu=>by
  rw[aD]at hx;cases hq:args[i]? with
  |none=>rw[hq]at hx;cases hx
  |some q=>rw[hq]at hx;cases hx;exact h1.view ((hv.at_ i q u hq hu).ext he)⟩
 refine(h.out C a w r pub' vals h1 hv1).mono fun e w' ⟨v,x,st',r',pub2,e1,e2,e3,e4,e5,e6⟩=>⟨v,x,st',r',pub2,e1,e2,e3,e4,he.trans e5,e6⟩
def Ap (st:St) (x:Nat→Value) (j:Nat) (c:AV):AV:=match st.view1 c with
 |.ptr ..=>.v (x j)
 |.hd _=>.v (x j)
 |.ph _=>.v (x j)
 |.re ..=>.v (x j)
 |.clo ..=>.v (x j)
 |y=>y
def kT (st:St) (x:Nat→Value):Nat→List AV→List AV
 |_,[]=>[]
 |j,c :: l=>Ap st x j c :: kT st x (j+1) l
def Ol:AV→Bool
 |.bl _=>true
 |.int _ _=>true
 |.str _=>true
 |.v _=>true
 |_=>false
theorem Hs {pub pub':cY}{w w':World}{r r':cT}{x:AV}{v:Value}(hs:Ol x=true) (h:bU pub w r x v):bU pub' w' r' x v:=by
 cases h with
 |bl b=>exact .bl b
 |int k n=>exact .int k n
 |str s=>exact .str s
 |v=>exact .v _ (by assumption)
 |_=>cases hs
theorem qY (st:St) (x:Nat→Value):∀(l:List AV) (j i:Nat),(kT st x j l)[i]?=(l[i]?).map (Ap st x (j+i))
 |[],j,i=>by simp[kT]
 |c :: l,j,0=>by simp[kT]
 |c :: l,j,i+1=>by simp[kT,qY st x l (j+1) i];rw[show j+1+i=j+(i+1) by omega]
theorem yA (st:St) (x:Nat→Value):∀(l:List AV) (j:Nat),(kT st x j l).length=l.length
 |[],j=>rfl
 |c :: l,j=>by simp[kT,yA st x l (j+1)]
theorem Et {P:bI}{f:Nat}{ι:Type}{a:ι→List AV}{p:ι→Prop}{r:ι→AV}(hf:bK P f (spec a (fun _=>[]) p r fun _=>[])) (k:Nat) {keep:List Nat}{rest:List AV}{st:St}{K:AV→St→Prop}(i:(Nat→Value)→ι) {t:TypeId}{cs:List AV}
  (hk:st.H[k]?=some (.blk t cs)) (hcs:cs.all AV.one=true) (hbr:AV.bndL 0 rest=true) (_hkeep:(keep.all fun k=>Nat.blt k st.H.length)=true) (hres:∀x,Ol (r (i x))=true)
  (h:∀x:Nat→Value,(∀j,(x j).oneCell'=true)→a (i x)=.rp (kT st x 0 cs) 0 :: rest∧p (i x)∧K (r (i x)) st):fY P keep f (.ptr k 0 :: rest) st K:=by
 refine⟨fun C act w rh pub vals hh hv=>?_⟩;obtain⟨b,arr,hr,hb,hc,hp⟩:=hh.ent_blk hk;obtain⟨v0,vs,hvals,hv0,hvs⟩:=hv.cons_inv;have hv0':v0=.pointer (some ⟨b,0,none⟩):=by
  cases hv0 with
  |ptr off h1=>rw[hr]at h1;simp only[bE,Value.pointer.injEq,Addr.mk.injEq,and_true]at h1;subst h1;rfl
 subst hv0'
 let x:Nat→Value:=fun j=>if (arr.toList.getD j undef).oneCell'=true then arr.toList.getD j undef else .bool true
 have hx:∀j,(x j).oneCell'=true:=fun j=>by
  dsimp only[x]
  split
  ·assumption
  ·rfl
 obtain⟨ha,hpi,hKi⟩:=h x hx
 let pub0:cY:=fun q=>if q=b then cs.length else pub q
 have hal:arr.size=cs.length:=by have:=hc.len;simpa using this
 have hcell:∀q,w.cell? ⟨b,q,none⟩=arr[q]?:=fun q=>hb.all q
 have hblt:b < w.heap.size:=hb.lt;have ext0:oM pub w pub0 w:=⟨fun q=>by dsimp only[pub0];split;(· rename_i e;subst e;omega);exact aN _,fun _ _ _ _ h=>h,fun _ _ _ h=>h⟩
 have rel0:∀(c:AV) (u:Value) (j:Nat),AV.one c=true→cs[j]?=some c→arr.toList[j]?=some u→bU pub w rh c u→bU pub0 w dD (Ap st x j c) u:=fun c u j h1 hcj huj hcu=>by
  have hone:=hcu.one_ h1;have hxj:x j=u:=by
   dsimp only[x];rw[List.getD_eq_getElem?_getD,huj];exact aF hone
  have hvw:=hh.view1 hcu;unfold Ap;generalize st.view1 c=c' at hvw;cases hvw with
  |any=>exact .any _
  |bl=>exact .bl _
  |int=>exact .int _ _
  |str=>exact .str _
  |v _ h=>exact .v _ h
  |agg hl hq=>cases hone
  |tup hl hq=>cases hone
  |ptr off h=>rw[hxj];exact .v _ rfl
  |hd h hh1=>rw[hxj];exact .v _ hone
  |ph h h0 hh1=>rw[hxj];exact .v _ hone
  |sl hc1 hm1 hn1 hs1 g hr1 hg1=>exact(bU.sl (r:=dD) hc1 hm1 hn1 hs1 g hr1 hg1).ext ext0
  |rp j ho g hr1 hg1=>exact(bU.rp (r:=dD) j ho g hr1 hg1).ext ext0
  |re sz i j h=>rw[hxj];exact .v _ rfl
  |clo f hl h=>rw[hxj];exact .v _ hone
 have hroOne:(kT st x 0 cs).all AV.one=true:=by
  rw[aT];intro y hy;obtain⟨j,hj⟩:=aV hy;rw[qY]at hj;cases hq:cs[j]? with
  |none=>rw[hq]at hj;cases hj
  |some c=>
   rw[hq]at hj;have hc1:=(aT.1 hcs) c (aC hq);obtain⟨u,hu,hcu⟩:=hc.get hq;have:=rel0 c u j hc1 hq hu hcu;simp only[Option.map_some,bE,Nat.zero_add]at hj;rw[←hj];have hvw:=hh.view1 hcu;unfold Ap;have hv1:(st.view1 c).one=true:=by
    unfold St.view1
    split
    ·split<;>rfl
    ·exact hc1
   revert hv1
   cases st.view1 c<;>intro hv1<;>first|rfl|exact hv1
 have hrp:bU pub0 w dD (.rp (kT st x 0 cs) 0) (.pointer (some ⟨b,0,none⟩)):=by
  refine .rp (o:=0) 0 hroOne (fun j=>arr.toList.getD j undef) (fun j u hj=>?_) (fun j u hj=>?_)
  ·rw[qY]at hj;cases hq:cs[j]? with
   |none=>rw[hq]at hj;cases hj
   |some c=>
    rw[hq]at hj;simp only[Option.map_some,bE,Nat.zero_add]at hj;subst hj;obtain⟨u,hu,hcu⟩:=hc.get hq;have:=rel0 c u j ((aT.1 hcs) c (aC hq)) hq hu hcu;rw[List.getD_eq_getElem?_getD,hu];exact this
  ·have hj1:=(aA.1 hj).1;rw[yA]at hj1;refine⟨by dsimp only[pub0];rw[aF rfl];omega,?_⟩;rw[Nat.zero_add,hcell,List.getD_eq_getElem?_getD,aY,aK (by omega)];rfl
 have hvs0:bR pub0 w dD (a (i x)) vals.toList:=by
  rw[ha,hvals];refine .cons hrp ?_;have h1:bR pub w dD rest vs:=hvs.congr (fun n hn=>by have:=AV.bndL_has _ hbr hn;omega);exact h1.ext ext0
 have hm0:nU pub0 w dD []:=by
  refine⟨fun k e he=>by simp at he,fun _ _=>rfl,fun _ _ _ _ _ h=>(by cases h),fun q hq=>?_,fun q j hj=>?_,?_⟩
  ·dsimp only[pub0];rw[aE (by rintro rfl;omega)];exact hh.mod.fresh q hq
  ·dsimp only[pub0]at hj
   split at hj
   ·rename_i e;subst e;exact⟨arr[j]'(by omega),by rw[hcell];exact aK _⟩
   ·exact hh.mod.there q j hj
  ·exact hh.mod.glob.ext ext0
 refine(hf (a (i x)) [] (fun y H'=>y=r (i x)∧H'=[]) ⟨i x,rfl,rfl,hpi,rfl,rfl⟩ w dD pub0 vals hm0 hvs0).mono fun e w' hpost=>?_
 obtain⟨v,y,H',r1,pub1,rfl,⟨rfl,rfl⟩,hvy,hm1,hfr,_,_,_⟩:=hpost;have hnf:∀q,¬vP dD q:=fun q ⟨_,_,hh1,_⟩=>by cases hh1
 let pub2:cY:=fun q=>if q=b then pub b else pub1 q
 have hkeepw:∀q,q < w.heap.size→w'.heap[q]?=w.heap[q]?∧pub2 q=pub q:=fun q hq=>by
  obtain⟨h1,h2⟩:=hfr.keep q hq (hnf q);refine⟨h1,?_⟩;dsimp only[pub2]
  split
  ·rename_i e;rw[e]
  ·rename_i e;rw[h2];dsimp only[pub0];rw[aE e]
 have hfr2:Fr (fun _=>False) pub w pub2 w':=by
  refine⟨hfr.os,hfr.tape,hfr.output,hfr.size,fun q hq _=>hkeepw q hq,fun q=>?_,fun q j u hj hu=>?_,fun q n _ hn=>kS (hkeepw q (mM hn)).1 hn⟩
  ·rcases aL q w.heap.size with h1|h1
   ·rw[(hkeepw q h1).2];exact aN _
   ·rw[hh.mod.fresh q h1];exact aI _
  ·have hq:=World.block_lt_of_cell? w _ hu;rw[World.cell?_of_block (w:=w) (a:=⟨q,j,none⟩) (hkeepw q hq).1];exact hu
 have hmod2:nU pub2 w' rh st.H:=hh.mod.frm hfr2 (fun _ _ _ _ _ h=>h) (fun q hq=>by
   dsimp only[pub2];rw[aE (by rintro rfl;have:=hfr.size;omega)];exact hm1.fresh q hq) (fun q j hj=>by
   dsimp only[pub2]at hj
   split at hj
   ·rename_i e;subst e;obtain⟨u,hu⟩:=hh.mod.there q j hj;exact⟨u,hfr2.ext.cell q j u hj hu⟩
   ·exact hm1.there q j hj)
 refine⟨v,_,st,rh,pub2,rfl,Hs (hres x) hvy,hKi,⟨hmod2,hh.own,hh.fr.trans hfr2 (fun _ h=>h.elim),hh.slots.ext hfr2.ext,hh.defers,hh.size,hh.stab,hh.low⟩,hfr2.ext,fun q hq=>⟨rfl,fun y hy b' hb'=>(hkeepw b' (hh.mod.foot_lt hy b' hb')).1⟩⟩
theorem ER {pub:cY}{w:World}{r:cT}(h:nU pub w r []):r=dD:=funext fun k=>h.none_ k (aI _)
theorem bR.str_inv {pub:cY}{w:World}{r:cT}{s:bH}{l:List AV}{us:List Value}(h:bR pub w r (.str s :: l) us):∃us',us=.string s :: us'∧bR pub w r l us':=by
 obtain⟨u,us',rfl,h1,h2⟩:=h.cons_inv;cases h1;exact⟨us',rfl,h2⟩
theorem Gh.adoptC {M:Nat}{st:St}(k j t sz:Nat) {t0:TypeId}{cs:List AV}(hk:st.H[k]?=some (.blk t0 cs)) (hj:cs[j]?=some (.v (.slice none 0 0))) :
  Gh M st ⟨st.T,(st.H++[cG.row t sz []]).set k (.blk t0 (cs.set j (.hd st.H.length)))⟩:=fun C a w r pub _ h=>by
 have hkl:=(aA.1 hk).1;have hd:=h.room 1;have hq:(st.H++List.replicate 1 cG.dead)[st.H.length]?=some .dead:=by simp
 have h1:=hd.adopt hq t sz;have hset:(st.H++List.replicate 1 cG.dead).set st.H.length (.row t sz [])=st.H++[.row t sz []]:=by simp
 dsimp only at h1;rw[hset]at h1;have hk1:(st.H++[cG.row t sz []])[k]?=some (.blk t0 cs):=by rw[List.getElem?_append_left hkl];exact hk
 obtain⟨b,arr,hr,hb,hc,hp⟩:=h1.ent_blk hk1;have he:eF pub w (fX r st.H.length (.slice none 0 0)) (some (.pointer (some ⟨b,0,none⟩))) (.blk t0 (cs.set j (.hd st.H.length))):=by
  refine .blk hb ⟨by rw[bA];exact hc.len,fun i x u hx hu=>?_⟩ hp;rw[List.getElem?_set]at hx
  split at hx
  ·rename_i e;subst e;have:=hc.at_ j _ u hj hu;cases this
   split at hx
   ·cases hx;exact .hd (cB _ _ _) rfl
   ·cases hx
  ·exact hc.at_ i x u hx hu
 exact⟨_,pub,h1.mod.set hr (Fr.refl (fun _=>False) _ _) (fun b hb=>hb.elim) h1.mod.fresh h1.mod.there he,h1.own,h1.fr,h1.slots,h1.defers,h1.size,h1.stab,by simpa using h1.low⟩
section
variable {α:Type}{f:α→List Value}{k:Nat}{w w':World}{A:Option Addr}{n:Nat}{l:List α}
end
section
variable {P:bI}(w:World)
end
def zE (pub:cY) (w:World) (x:AV) (e:Ending) (w':World):Prop:=
 ∃v pub',e=.returned v∧Below w.heap.size w w'∧(∀b,b < w.heap.size→pub' b=pub b)∧(∀b,w'.heap.size≤b→pub' b=0)∧
  (∀b i,w.heap.size≤b→i < pub' b→∃u,w'.cell? ⟨b,i,none⟩=some u)∧bU pub' w' dD x v
theorem TP {P:bI}{f:Nat}{ι:Type}{a:ι→List AV}{p:ι→Prop}{r:ι→AV}
  (h:∀i,p i→∀(pub:cY) (w:World) (vals:Array Value),(∀b,w.heap.size≤b→pub b=0)→lF pub w→bR pub w dD (a i) vals.toList→Calls P f vals w (zE pub w (r i))) :
  bK P f (spec a (fun _=>[]) p r fun _=>[]):=by
 intro args H K ⟨i,ha,hH,hp,hK⟩ w rh pub vals hm hv;subst ha;subst hH;have:=ER hm;subst this;refine(h i hp pub w vals hm.fresh hm.glob hv).mono fun e w' ⟨v,pub',he,hb,h1,h2,h3,hr⟩=>?_
 have hc:∀b i,b < w.heap.size→w'.cell? ⟨b,i,none⟩=w.cell? ⟨b,i,none⟩:=fun b i hlt=>World.cell?_of_block (hb.block b hlt)
 have hlt:∀b i,i < pub b→b < w.heap.size:=fun b i hi=>by
  rcases aL b w.heap.size with h4|h4
  ·exact h4
  ·rw[hm.fresh b h4]at hi;omega
 have hle:∀b,pub b≤pub' b:=fun b=>by
  rcases aL b w.heap.size with h4|h4
  ·rw[h1 b h4];exact aN _
  ·rw[hm.fresh b h4];exact aI _
 have hcl:∀b j u,j < pub b→w.cell? ⟨b,j,none⟩=some u→w'.cell? ⟨b,j,none⟩=some u:=fun b j u hj hu=>by rw[hc b j (hlt b j hj)];exact hu
 have hln:∀b n,0 < pub b→xB w b=some n→xB w' b=some n:=fun b n _ hn=>kS (hb.block b (mM hn)) hn
 refine⟨v,r i,[],dD,pub',he,hK,hr,⟨fun k e he=>(by simp at he),fun _ _=>rfl,(fun _ _ _ _ _ h=>by cases h),h2,fun b j hj=>?_,hm.glob.ext ⟨hle,hcl,hln⟩⟩,⟨hb.os,hb.tape,hb.output,hb.size,fun b hlt _=>⟨hb.block b hlt,h1 b hlt⟩,⟨hle,hcl,hln⟩⟩,fun b hb=>.inl hb,fun _ _ h _=>h,aN _⟩
 ·rcases aL b w.heap.size with h4|h4
  ·rw[h1 b h4]at hj;obtain⟨u,hu⟩:=hm.there b j hj;exact⟨u,by rw[hc b j h4];exact hu⟩
  ·exact h3 b j h4 hj
theorem zE.plain {pub:cY}{w w':World}{x:AV}{v:Value}{e:Ending}(he:e=.returned v) (hb:Below w.heap.size w w') (hf:∀b,w.heap.size≤b→pub b=0) (hr:bU pub w' dD x v):zE pub w x e w':=
 ⟨v,pub,he,hb,fun _ _=>rfl,fun b h=>hf b (Nat.le_trans hb.size h),fun b i h hi=>(by rw[hf b h]at hi;omega),hr⟩
theorem bW.i0 {u:AV}{l:List AV}{K:Nat→AV→Prop}(k:K 0 u):bW (u :: l) 0 K:=⟨0,u,rfl,rfl,k⟩
theorem bW.i1 {a u:AV}{l:List AV}{K:Nat→AV→Prop}(k:K 1 u):bW (a :: u :: l) 1 K:=⟨1,u,rfl,rfl,k⟩
theorem bW.i2 {a b u:AV}{l:List AV}{K:Nat→AV→Prop}(k:K 2 u):bW (a :: b :: u :: l) 2 K:=⟨2,u,rfl,rfl,k⟩
theorem aaA.i0 {u:AV}{l:List AV}{K:Nat→Prop}(k:K 0):aaA (u :: l) 0 K:=⟨0,rfl,Nat.succ_pos _,k⟩
theorem aaA.i1 {a u:AV}{l:List AV}{K:Nat→Prop}(k:K 1):aaA (a :: u :: l) 1 K:=⟨1,rfl,Nat.succ_lt_succ (Nat.succ_pos _),k⟩
theorem aaA.i2 {a b u:AV}{l:List AV}{K:Nat→Prop}(k:K 2):aaA (a :: b :: u :: l) 2 K:=⟨2,rfl,Nat.succ_lt_succ (Nat.succ_lt_succ (Nat.succ_pos _)),k⟩
def My (s:dM):List Nat:=match s.d with
 |some d=>[d]
 |none=>[]
def cV.wr:cV→List Nat
 |.nil=>[]
 |.take _ s p=>My s++p.wr
 |.eff _ _ _ s p=>My s++p.wr
 |.fork p q=>p.wr++q.wr
 |.phase _ p=>p.wr
 |.more _ p=>p.wr
def Zj:List dM→List Nat
 |[]=>[]
 |s :: l=>My s++Zj l
def fM.wr:fM→List Nat
 |.reg l=>Zj l
 |.dreg p _ _=>p.wr
 |.seq a b=>a.wr++b.wr
 |.cond _ a b=>a.wr++b.wr
 |.block _ a=>a.wr
 |.loop a=>a.wr
 |.scope a=>a.wr
 |_=>[]
def OU:List Nat→AV→Bool
 |[],_=>false
 |h :: l,x=>x.has h || OU l x
def jL (hs:List Nat):List Nat→List (Nat×AV)→List (Nat×AV)
 |_,[]=>[]
 |ws,(n,x) :: T=>if ws.contains n=true then jL hs ws T else if OU hs x=true then jL hs (n :: ws) T else (n,x) :: jL hs (n :: ws) T
def weakG (T T':List (Nat×AV)):Prop:=∀m,dR T' m=.any∨dR T' m=dR T m
theorem nJ (hs:List Nat):∀(T:List (Nat×AV)) (ws:List Nat) (m:Nat),dR (jL hs ws T) m=.any∨(m∉ws∧dR (jL hs ws T) m=dR T m)
 |[],ws,m=>.inl rfl
 |(n,x) :: T,ws,m=>by
  unfold jL
  split
  ·rename_i h;rw[List.contains_eq_mem]at h;simp only[decide_eq_true_eq]at h;rcases nJ hs T ws m with h1|⟨h1,h2⟩
   ·exact .inl h1
   ·refine .inr ⟨h1,h2.trans ?_⟩;show _=if n=m then x else dR T m
    rw[aE (by rintro rfl;exact h1 h)]
  ·rename_i h;rw[List.contains_eq_mem]at h;simp only[decide_eq_true_eq]at h
   split
   ·rcases nJ hs T (n :: ws) m with h1|⟨h1,h2⟩
    ·exact .inl h1
    ·simp only[List.mem_cons,not_or]at h1;refine .inr ⟨h1.2,h2.trans ?_⟩;show _=if n=m then x else dR T m
     rw[aE (fun e=>h1.1 e.symm)]
   ·show (if n=m then x else dR (jL hs (n :: ws) T) m)=.any∨m∉ws∧(if n=m then x else dR (jL hs (n :: ws) T) m)=if n=m then x else dR T m
    by_cases e:n=m
    ·subst e;rw[aF rfl,aF rfl];exact .inr ⟨h,rfl⟩
    ·rw[aE e,aE e];rcases nJ hs T (n :: ws) m with h1|⟨h1,h2⟩
     ·exact .inl h1
     ·simp only[List.mem_cons,not_or]at h1;exact .inr ⟨h1.2,h2⟩
theorem Cg {T F G:List (Nat×AV)}(h:sK T F) (hg:weakG T G):weakG T (F++G):=by
 induction F with
 |nil=>exact hg
 |cons p F ih=>
  obtain⟨n,x⟩:=p;intro m;show (if n=m then x else dR (F++G) m)=.any∨(if n=m then x else dR (F++G) m)=dR T m
  split
  ·rename_i e;subst e;rcases h.1 with h1|h1
   ·exact .inr h1.symm
   ·exact .inl h1
  ·exact ih h.2 m
theorem Gh.weakG {M:Nat}{st st':St}(hT:weakG st.T st'.T) (hH:st.H.take st'.H.length=st'.H) (hb:vQ st'.H.length st'.T=true) (hbH:fD st'.H.length st'.H=true) (hM:M≤st'.H.length):Gh M st st':=fun C a w r pub hCm h=>by
 obtain⟨r',pub',h1⟩:=Gh.weak (M:=M) (st:=⟨[],st.H⟩) (st':=⟨[],st'.H⟩) trivial hH rfl hbH hM C a w r pub hCm ⟨h.mod,h.own,h.fr,fun n=>.any _,h.defers,h.size,h.stab,h.low⟩;have hget:∀k e,st'.H[k]?=some e→st.H[k]?=some e:=fun k e he=>by
  have hk:=(aA.1 he).1;rw[←hH,List.getElem?_take,aF hk]at he;exact he
 let r2:cT:=fun k=>if k < st'.H.length then r k else none
 have hr2:∀k,k < st'.H.length→r2 k=r k:=fun k hk=>aF hk
 have hsome:∀k y,r2 k=some y→r k=some y:=fun k y hy=>by
  by_cases hk:k < st'.H.length
  ·rw[hr2 k hk]at hy;exact hy
  ·simp only[r2,aE hk]at hy;cases hy
 refine⟨r2,pub,⟨fun k e he=>?_,fun k hk=>aE (by omega),fun i j x y hij hx hy=>h.mod.disj i j x y hij (hsome _ _ hx) (hsome _ _ hy),h.mod.fresh,h.mod.there,h.mod.glob⟩,fun k x hx=>h.own k x (hsome _ _ hx),h.fr,fun m=>?_,h.defers,h.size,fun k y hy hs=>?_,⟨h.low.1,by omega⟩⟩
 ·have hk:=(aA.1 he).1;have h0:=h.mod.ent k e (hget k e he);have hbe:=lY hbH k e he;rw[hr2 k hk];exact h0.congr hbe hr2
 ·rcases hT m with e|e
  ·rw[e];exact .any _
  ·have hbm:=AM hb m;rw[e]at hbm⊢;exact(h.slots m).congr fun n hn=>hr2 n (AV.bnd_has _ hbm hn)
 ·have hk:k < st'.H.length:=by
   rcases aL k C.m with h1|h1
   ·omega
   ·rw[h.low.1 k h1]at hy;cases hy
  rw[hr2 k hk];exact h.stab k y hy hs
theorem eN.sel {H:List cG}{K:AV→List cG→Prop}{x:AV}{H':List cG}(s:List Nat) (H2:List cG) (x2:AV) {x3:AV}{H3:List cG}(hx:x=x2.ren s 0) (hH:s.map (fun k=>H'[k]?)=(gA s 0 H2).map some) (hnd:s.Nodup) (hs:Ay s 0 H=true) (hl:H.length≤s.length)
  (hb:x2.bnd H2.length=true) (hbH:fD H2.length H2=true) (h1:Le x2 x3) (h2:jW H2 H3) (hK:K x3 H3):eN H K x H':=⟨s,x2,H2,x3,H3,hx,hH,hnd,hs,hl,hb,hbH,h1,h2,hK⟩
theorem aaJ {P:bI}{keep:List Nat}{f:Nat}{args:List AV}(args2:List AV) {st:St}{K:AV→St→Prop}(h:qB args args2) (hc:fY P keep f args2 st K):fY P keep f args st K:=
 ⟨fun C a w r pub vals hh hv=>hc.out C a w r pub vals hh (h.to hv)⟩
theorem UK {P:bI}{N M:Nat}{c:fM}{Q:vC→St→Prop}{T:List (Nat×AV)}{H:List cG}{ι:Type}(hs:List Nat) (F:ι→List (Nat×AV)) (G:ι→List cG) (μ:ι→Ms) (i0:ι)
  (hw:sK T (F i0)) (hH:H.take (G i0).length=G i0) (hb:vQ (G i0).length (F i0++jL hs c.wr T)=true) (hbH:fD (G i0).length (G i0)=true) (hM:M≤(G i0).length)
  (hr:∀i,XW P N M c (Af M (fun i=>⟨F i++jL hs c.wr T,G i⟩) μ (μ i) Q) ⟨F i++jL hs c.wr T,G i⟩):qI P N M c Q ⟨T,H⟩:=
 Wu (fun i=>⟨F i++jL hs c.wr T,G i⟩) μ i0 (Gh.weakG (Cg hw fun m=>by rcases nJ hs T c.wr m with h|h;(· exact .inl h);exact .inr h.2) hH hb hbH hM) hr
theorem gH {P:bI}{N M:Nat}{c:fM}{Q:vC→St→Prop}{st st1:St}(hg:Gh M st st1) (h:qI P N M c Q st1):qI P N M c Q st:=
 ⟨fun code C a w r pub hc hN hM hh=>by
  obtain⟨r1,p1,h1⟩:=hg C a w r pub hM hh;exact h.out code C a w r1 p1 hc hN hM h1⟩
theorem SP {ι:Type}{M:Nat}{F:ι→St}{μ:ι→Ms}{n:Ms}{st:St}(j:ι) (hw:sK st.T (F j).T) (hH:st.H.take (F j).H.length=(F j).H) (hb:vQ (F j).H.length (F j).T=true) (hbH:fD (F j).H.length (F j).H=true) (hM:M≤(F j).H.length) (hl:(μ j).val < n.val):wK M F μ n st:=
 ⟨_,j,Gh.weak hw hH hb hbH hM,rfl,hl⟩
theorem dK {ι:Type}{M:Nat}{F:ι→St}{μ:ι→Ms}{n:Ms}{st st1:St}(hg:Gh M st st1) (h:wK M F μ n st1):wK M F μ n st:=by
 obtain⟨⟨st',j,h1,h2,h3⟩⟩:=h;exact⟨st',j,hg.trans h1,h2,h3⟩
theorem tX.mk' {xs ys:List AV}{bytes:Nat}{K:List AV→Prop}(owed:xs.length+ys.length≤maxLen∧(xs.length+ys.length) * bytes≤140737488355328) (rest:∀zs,zs=xs++ys→zs.length=xs.length+ys.length→K zs):tX xs ys bytes K:=
 ⟨owed,fun zs h=>rest zs h (by rw[h,aM])⟩
theorem Kn {α:Type}{f:α→AV}{L:List α}{lo hi:Option Int}{K:List AV→Prop}(owed:0≤lo.getD 0∧lo.getD 0≤hi.getD L.length∧hi.getD L.length≤L.length)
  (rest:∀L',L'=(L.take (hi.getD L.length).toNat).drop (lo.getD 0).toNat→(L'.length:Int)=hi.getD L.length - lo.getD 0→K (bJ f L')):KQ (bJ f L) lo hi K:=by
 refine⟨by rw[bY];exact owed,fun ys hys=>?_⟩;rw[bY,dV,←List.map_take,←List.map_drop,←dV]at hys;subst hys;refine rest _ rfl ?_;rw[List.length_drop,aS];omega
theorem Ki {α:Type}{f:α→AV}{L L2:List α}{bytes:Nat}{K:List AV→Prop}(owed:L.length+L2.length≤maxLen∧(L.length+L2.length) * bytes≤140737488355328)
  (rest:∀L',L'=L++L2→L'.length=L.length+L2.length→K (bJ f L')):tX (bJ f L) (bJ f L2) bytes K:=
 ⟨by rw[bY,bY];exact owed,fun zs h=>by rw[h,←cD];exact rest _ rfl aM⟩
theorem LO {α:Type}{f:α→AV}{L2:List α}{bytes:Nat}{K:List AV→Prop}(owed:L2.length≤maxLen∧L2.length * bytes≤140737488355328)
  (rest:K (bJ f L2)):tX [] (bJ f L2) bytes K:=
 ⟨by rw[bY,List.length_nil,Nat.zero_add];exact owed,fun zs h=>by rw[h,List.nil_append];exact rest⟩
theorem J9.pos {m n:Int}{K:Int→Prop}(hm:0≤m) (hn:0 < n) (rest:∀z,z=m.tmod n→0≤z→z < n→K z):J9 m n K:=
 ⟨by omega,fun z hz=>rest z hz (by rw[hz];exact Int.tmod_nonneg _ hm) (by rw[hz];exact Int.tmod_lt_of_pos _ hn)⟩
theorem J5.pos {m n:Int}{K:Int→Prop}(hm:0≤m) (hn:0 < n) (hM:m≤9223372036854775807) (rest:∀z,z=m.tdiv n→0≤z→z≤m→K z):J5 .i64 m n K:=by
 have h0:0≤m.tdiv n:=Int.tdiv_nonneg hm (by omega);have h1:m.tdiv n≤m:=Int.tdiv_le_self _ hm;exact⟨⟨by omega,IntWalk.i64_in _ (by omega)⟩,fun z hz=>rest z hz (by omega) (by omega)⟩
theorem Kq.of {xs:List AV}{K:bH→Prop}(ns:List Int) (h:qZ xs=some ns) (hk:∀s,s=strOf ns→s.size=ns.length→K s):Kq 1 xs K:=
 ⟨ns,rfl,h,fun s hs=>hk s hs (by rw[hs];simp[strOf,ByteArray.size])⟩
theorem KY.mk' {s t:bH}{K:bH→Prop}(owed:s.size+t.size≤maxLen) (rest:∀u,u=s++t→u.size=s.size+t.size→K u):KY s t K:=
 ⟨owed,fun u hu=>rest u hu (by rw[hu,ByteArray.size_append])⟩
theorem tB {α:Type}{f:α→AV}{L:List α}{i:Nat}{l:α}{K:Nat→AV→Prop}(h:L[i]?=some l) (hk:K i (f l)):bW (bJ f L) (nI i) K:=
 ⟨i,_,rfl,by rw[dV,aD,h];rfl,hk⟩
theorem Fl {α:Type}{f:α→AV}{L:List α}{i:Nat}{l:α}{K:Nat→Prop}(h:L[i]?=some l) (hk:K i):aaA (bJ f L) (nI i) K:=
 ⟨i,rfl,by rw[bY];exact(aA.1 h).1,hk⟩
theorem dC {α:Type}{L:List α}{i:Nat}{l:α}(h:L[i]?=some l):L.take (i+1)=L.take i++[l]:=by
 obtain⟨hi,rfl⟩:=aA.1 h;exact List.take_succ_eq_append_getElem hi
theorem cK {α:Type}{L:List α}{i:Nat}(h:i < L.length):∃l,L[i]?=some l:=⟨_,aB h⟩
theorem dI {s:bH}{i:Nat}{K:Int→Prop}(h:i < s.size) (hk:∀z:Int,z=(s.data[i]'h).toNat→K z):zA s (nI i) K:=
 ⟨i,rfl,h,fun c hc z hz=>hk z (by rw[aK h]at hc;cases hc;exact hz)⟩
theorem Gh.freeze {M:Nat}{st:St}(k:Nat) {t sz:Nat}{xs:List AV}(hk:st.H[k]?=some (.tip t sz xs)):Gh M st ⟨jI k (.sl sz xs) st.T,st.H.map (cG.kill k (.sl sz xs))⟩:=fun C a w r pub _ h=>by
 have hy:∀z,r k=some z→bU pub w r (.sl sz xs) z:=fun z hz=>by
  obtain⟨A,d,c,x,us,hr,_⟩:=h.ent_tip hk;rw[hr]at hz;cases hz;have h1:=h.view1 (x:=.hd k) (.hd hr rfl);simp only[St.view1,hk]at h1;exact h1
 refine⟨r,pub,⟨fun j e he=>?_,fun j hj=>h.mod.none_ j (by simpa using hj),h.mod.disj,h.mod.fresh,h.mod.there,h.mod.glob⟩,h.own,h.fr,h.slots.kill (fun _ _=>rfl) hy,h.defers,h.size,h.stab,by simpa using h.low⟩;rw[aD]at he;cases hj:st.H[j]? with
 |none=>rw[hj]at he;cases he
 |some e0=>
  rw[hj]at he;cases he;exact(h.mod.ent j e0 hj).kill (Fr.refl (fun _=>False) _ _) (fun _ _ _ _ h=>h) (fun _ _=>rfl) hy
theorem Gh.cast {M:Nat}{T:List (Nat×AV)}{H:List cG}(H2:List cG) (h:H=H2):Gh M ⟨T,H⟩ ⟨T,H2⟩:=by subst h;exact Gh.refl _
theorem Gh.le {M:Nat}{st:St}(H2:List cG) (hl:jW st.H H2):Gh M st ⟨st.T,H2⟩:=fun C a w r pub _ h=>
 ⟨r,pub,h.mod.le hl,h.own,h.fr,h.slots,h.defers,h.size,h.stab,h.low.1,by rw[hl.len];exact h.low.2⟩
theorem Gh.plain {M:Nat}{st:St}(k:Nat) {t sz:Nat}{xs:List AV}(hk:vD st.H[k]?=some (t,sz,xs)):Gh M st ⟨jI k (.sl sz xs) st.T,(st.H.set k (.tip t sz xs)).map (cG.kill k (.sl sz xs))⟩:=
 (Gh.publish k hk).trans (Gh.freeze (st:=⟨st.T,st.H.set k (.tip t sz xs)⟩) (t:=t) k (by
  have hl:k < st.H.length:=by
   unfold vD at hk
   split at hk
   ·rename_i he;exact(aA.1 he).1
   ·cases hk
  exact aQ hl))
theorem vn:(∀n:Nat,(NatCast.natCast n:Int)=(n:Int))∧(∀{α β:Type}(f:α→β) (l:List α),(bJ f l).length=l.length)∧(∀n:Nat,nI n=(n:Int))∧(∀{α:Type},([]:List α).length=0)∧
  (∀{α:Type}(a:α) (l:List α),(a :: l).length=l.length+1)∧(∀{α:Type}(a b:α),(some a).getD b=a)∧(∀{α:Type}(b:α),(none:Option α).getD b=b):=
 ⟨fun _=>rfl,fun f l=>bY f l,fun _=>rfl,rfl,fun _ _=>rfl,fun _ _=>rfl,fun _=>rfl⟩
section
variable {a b:Unit→Prop}{x1 x2:Int}{K:Int→Prop}
theorem HT.n (k:x1≠x2→b ()) (d:x1≠x2:=by(try simp only[vn]at *)<;>omega):HT x1 x2 a b:=⟨fun h=>absurd h d,k⟩
theorem HT.y (k:x1=x2→a ()) (d:x1=x2:=by(try simp only[vn]at *)<;>omega):HT x1 x2 a b:=⟨k,fun h=>absurd d h⟩
theorem LN.n (k:x2≤x1→b ()) (d:x2≤x1:=by(try simp only[vn]at *)<;>omega):LN x1 x2 a b:=⟨fun h=>absurd h (by omega),k⟩
theorem LN.y (k:x1 < x2→a ()) (d:x1 < x2:=by(try simp only[vn]at *)<;>omega):LN x1 x2 a b:=⟨k,fun h=>absurd h (by omega)⟩
theorem KN.n (k:x2 < x1→b ()) (d:x2 < x1:=by(try simp only[vn]at *)<;>omega):KN x1 x2 a b:=⟨fun h=>absurd h (by omega),k⟩
theorem KN.y (k:x1≤x2→a ()) (d:x1≤x2:=by(try simp only[vn]at *)<;>omega):KN x1 x2 a b:=⟨k,fun h=>absurd h (by omega)⟩
theorem Qu.k {xs:List AV}(k:∀z:Int,z=(xs.length:Int)→K z):Qu xs K:=⟨k⟩
theorem TE.k {s:bH}(k:∀z:Int,z=(s.size:Int)→K z):TE s K:=⟨k⟩
theorem TR.k (k:∀z,z=x1+x2→K z) (d:-9223372036854775808≤x1+x2∧x1+x2≤9223372036854775807:=by(try simp only[vn]at *)<;>omega):TR .i64 x1 x2 K:=⟨fun z hz=>k z (hz.trans (IntWalk.i64_in _ d))⟩
theorem H7.k (k:∀z,z=x1 * x2→K z) (d:-9223372036854775808≤x1 * x2∧x1 * x2≤9223372036854775807:=by(try simp only[vn]at *)<;>omega):H7 .i64 x1 x2 K:=⟨fun z hz=>k z (hz.trans (IntWalk.i64_in _ d))⟩
theorem Ub.k (k:∀z,z=x1 - x2→K z) (d:-9223372036854775808≤x1 - x2∧x1 - x2≤9223372036854775807:=by(try simp only[vn]at *)<;>omega):Ub .i64 x1 x2 K:=⟨fun z hz=>k z (hz.trans (IntWalk.i64_in _ d))⟩
theorem Yl.o {K:Prop}(k:K) (d:-9223372036854775808≤x1∧x1≤9223372036854775807:=by(try simp only[vn]at *)<;>omega):Yl .i64 x1 K:=⟨IntWalk.i64_in _ d,k⟩
theorem UV.k {i:IntKind}(k:∀z,z=i.wrap x1→K z):UV i x1 K:=⟨k⟩
theorem Nq.k {i:IntKind}(k:∀z,z=i.wrap (x1 - x2)→K z):Nq i x1 x2 K:=⟨k⟩
theorem J9.q (k:∀z,z=x1.tmod x2→0≤z→z < x2→K z) (d:0≤x1∧0 < x2:=by(try simp only[vn]at *)<;>omega):J9 x1 x2 K:=.pos d.1 d.2 k
theorem J5.q (k:∀z,z=x1.tdiv x2→0≤z→z≤x1→K z) (d:0≤x1∧0 < x2∧x1≤9223372036854775807:=by(try simp only[vn]at *)<;>omega):J5 .i64 x1 x2 K:=.pos d.1 d.2.1 d.2.2 k
theorem tX.o {α:Type}{f:α→AV}{L2:List α}{bytes:Nat}{K:List AV→Prop}(k:K (bJ f L2)) (d:L2.length≤maxLen∧L2.length * bytes≤140737488355328:=by(try simp only[vn]at *)<;>(try unfold maxLen)<;>omega):tX [] (bJ f L2) bytes K:=LO d k
theorem tX.l {α:Type}{f:α→AV}{L L2:List α}{bytes:Nat}{K:List AV→Prop}(k:∀L',L'=L++L2→L'.length=L.length+L2.length→K (bJ f L')) (d:L.length+L2.length≤maxLen∧(L.length+L2.length) * bytes≤140737488355328:=by(try simp only[vn]at *)<;>(try unfold maxLen)<;>omega):tX (bJ f L) (bJ f L2) bytes K:=Ki d k
theorem tX.zl {xs ys:List AV}{bytes:Nat}{K:List AV→Prop}(k:∀zs,zs=xs++ys→zs.length=xs.length+ys.length→K zs) (d:xs.length+ys.length≤maxLen∧(xs.length+ys.length) * bytes≤140737488355328:=by(try simp only[vn]at *)<;>(try unfold maxLen)<;>omega):tX xs ys bytes K:=.mk' d k
theorem KY.u {s t:bH}{K:bH→Prop}(k:∀u,u=s++t→u.size=s.size+t.size→K u) (d:s.size+t.size≤maxLen:=by(try simp only[vn]at *)<;>(try unfold maxLen)<;>omega):KY s t K:=.mk' d k
theorem Uc.z {xs:List AV}{i:Nat}{x2:AV}{K:List AV→Prop}(k:∀zs,zs=xs.set i x2→K zs):Uc xs i x2 K:=⟨k⟩
theorem Te.ms {es:List (AV×AV)}{i:Nat}{e:AV×AV}{K:List (AV×AV)→Prop}(k:∀ms,ms=es.set i e→K ms):Te es i e K:=⟨k⟩
theorem OJ.ms {es:List (AV×AV)}{e:AV×AV}{K:List (AV×AV)→Prop}(k:∀ms,ms=es++[e]→K ms):OJ es e K:=⟨k⟩
theorem KQ.l {α:Type}{f:α→AV}{L:List α}{lo hi:Option Int}{K:List AV→Prop}(k:∀L',L'=(L.take (hi.getD L.length).toNat).drop (lo.getD 0).toNat→(L'.length:Int)=hi.getD L.length - lo.getD 0→K (bJ f L'))
  (d:0≤lo.getD 0∧lo.getD 0≤hi.getD L.length∧hi.getD L.length≤L.length:=by(try dsimp only[Option.getD]);(try simp only[vn]at *)<;>omega):KQ (bJ f L) lo hi K:=Kn d k
theorem Td.u {s:bH}{lo hi:Option Int}{K:bH→Prop}(k:∀u,u=s.extract (lo.getD 0).toNat (hi.getD s.size).toNat→(u.size:Int)=hi.getD s.size - lo.getD 0→K u)
  (d:0≤lo.getD 0∧lo.getD 0≤hi.getD s.size∧hi.getD s.size≤s.size:=by(try dsimp only[Option.getD]);(try simp only[vn]at *)<;>omega):Td s lo hi K:=
 ⟨d,fun u hu=>k u hu (by rw[hu,ByteArray.size_extract];omega)⟩
theorem Kq.s {xs:List AV}{K:bH→Prop}{ns:List Int}(k:∀s,s=strOf ns→s.size=ns.length→K s) (d:qZ xs=some ns:=by rfl):Kq 1 xs K:=.of ns d k
theorem bW.e {α:Type}{f:α→AV}{L:List α}{i:Nat}{l:α}{K:Nat→AV→Prop}(k:K i (f l)) (h:L[i]?=some l:=by assumption):bW (bJ f L) (nI i) K:=tB h k
theorem aaA.e {α:Type}{f:α→AV}{L:List α}{i:Nat}{l:α}{K:Nat→Prop}(k:K i) (h:L[i]?=some l:=by assumption):aaA (bJ f L) (nI i) K:=Fl h k
end
theorem cM {α:Type}{f:α→AV}{L:List α}{z:Int}{K:Nat→AV→Prop}(h0:0≤z) (h1:z < L.length) (k:∀i l,z=nI i→L[i]?=some l→K i (f l)):bW (bJ f L) z K:=by
 obtain⟨i,rfl⟩:=Int.eq_ofNat_of_zero_le h0;obtain⟨l,hl⟩:=cK (L:=L) (i:=i) (by omega);exact tB hl (k i l rfl hl)
theorem bN {ι:Type}{M:Nat}{F:ι→St}{μ:ι→Ms}{n:Ms}{st:St}(j:ι) (hl:(μ j).val < n.val) (hw:sK st.T (F j).T:=by repeat'(first|exact trivial|refine⟨.inl rfl,?_⟩|refine⟨.inr rfl,?_⟩))
  (hH:st.H.take (F j).H.length=(F j).H:=by rfl) (hb:vQ (F j).H.length (F j).T=true:=by rfl) (hbH:fD (F j).H.length (F j).H=true:=by rfl) (hM:M≤(F j).H.length:=by exact Nat.le_of_ble_eq_true rfl):wK M F μ n st:=
 SP j hw hH hb hbH hM hl
theorem bS {P:bI}{N M:Nat}{c:fM}{Q:vC→St→Prop}{T:List (Nat×AV)}{H:List cG}{ι:Type}(hs:List Nat) (F:ι→List (Nat×AV)) (G:ι→List cG) (μ:ι→Ms) (i0:ι)
  (hr:∀i,XW P N M c (Af M (fun i=>⟨F i++jL hs c.wr T,G i⟩) μ (μ i) Q) ⟨F i++jL hs c.wr T,G i⟩)
  (hw:sK T (F i0):=by repeat'(first|exact trivial|refine⟨.inl rfl,?_⟩|refine⟨.inr rfl,?_⟩)) (hH:H.take (G i0).length=G i0:=by rfl) (hb:vQ (G i0).length (F i0++jL hs c.wr T)=true:=by rfl) (hbH:fD (G i0).length (G i0)=true:=by rfl) (hM:M≤(G i0).length:=by exact Nat.le_of_ble_eq_true rfl):qI P N M c Q ⟨T,H⟩:=
 UK hs F G μ i0 hw hH hb hbH hM hr
theorem bQ {p:Prop}(h:p:=by(try simp only[vn]at *)<;>omega):p:=h
theorem Bh {p:Prop}(h:p:=by repeat'(first|exact xQ.nil|exact qB.nil|exact jW.nil|exact Gr.refl _|exact Le.refl _|exact Jj.one (.refl _)|exact Jj.one (.nil _)|exact N1.refl _|exact N1.nil _|refine jW.cons ?_ ?_|refine Gr.row ?_|refine Gr.blk ?_|refine qB.cons ?_ ?_|refine xQ.cons ?_ ?_|refine Jj.agg ?_|refine Le.tup ?_|exact Le.one (.one (.nil _))|refine Le.one (.agg ?_))):p:=h
theorem cL {a b:Nat}(h:Nat.ble a b=true:=by rfl):a≤b:=Nat.le_of_ble_eq_true h
theorem bZ.r9 {M:Nat}{res:List aaM}{K:AV→List cG→Prop}{st st':St}(g:Gh M st st') (h:GF st' res fun l=>K (B6 l) st'.H∨K (Jc st' (B6 l)) st'.H):bZ M res K st:=⟨_,g,h⟩
theorem bZ.q9 {M:Nat}{res:List aaM}{K:AV→List cG→Prop}{st:St}(h:GF st res fun l=>K (B6 l) st.H∨K (Jc st (B6 l)) st.H):bZ M res K st:=.r9 (Gh.refl _) h
theorem eN.f9 {H:List cG}{K:AV→List cG→Prop}{x:AV}{H' H2:List cG}(hK:K x H2) (hH:H'.take H2.length=H2:=by rfl) (hM:H.length≤H2.length:=by exact Nat.le_of_ble_eq_true rfl) (hb:x.bnd H2.length=true:=by rfl) (hbH:fD H2.length H2=true:=by rfl):eN H K x H':=.pre H2 hH hM hb hbH (Le.refl _) (jW.refl _) hK
theorem eN.g9 {H:List cG}{K:AV→List cG→Prop}{x x3:AV}{H' H2:List cG}(hK:K x3 H2) (hH:H'.take H2.length=H2:=by rfl) (hM:H.length≤H2.length:=by exact Nat.le_of_ble_eq_true rfl) (hb:x.bnd H2.length=true:=by rfl) (hbH:fD H2.length H2=true:=by rfl) (hx:Le x x3:=by repeat'(first|exact xQ.nil|exact qB.nil|exact jW.nil|exact Gr.refl _|exact Le.refl _|exact Jj.one (.refl _)|exact Jj.one (.nil _)|exact N1.refl _|exact N1.nil _|refine jW.cons ?_ ?_|refine Gr.row ?_|refine Gr.blk ?_|refine qB.cons ?_ ?_|refine xQ.cons ?_ ?_|refine Jj.agg ?_|refine Le.tup ?_|exact Le.one (.one (.nil _))|refine Le.one (.agg ?_))):eN H K x H':=.pre H2 hH hM hb hbH hx (jW.refl _) hK
theorem eN.v9 {K:AV→List cG→Prop}{x:AV}{H':List cG}(hK:K x []) (hb:x.bnd 0=true:=by rfl):eN [] K x H':=.val hb (Le.refl _) hK
theorem bX {P:bI}{f:Nat}{ι:Type}{a:ι→List AV}{p:ι→Prop}{r:ι→AV}(hf:bK P f (spec a (fun _=>[]) p r fun _=>[])) (i:ι) {keep:List Nat}{st:St}{K:AV→St→Prop}(hp:p i) (hK:K (r i) st) (hb:AV.bndL 0 (a i)=true:=by rfl) (hr:(r i).bnd 0=true:=by rfl) (hk:(keep.all fun k=>Nat.blt k st.H.length)=true:=by rfl):fY P keep f (a i) st K:=nA hf i hp hb hr hk hK
theorem yV {P:bI}{f:Nat}{ι:Type}{a:ι→List AV}{p:ι→Prop}{r:ι→AV}{h':ι→List cG}(hf:bK P f (spec a (fun _=>[]) p r h')) (i:ι) {keep:List Nat}{st:St}{K:AV→St→Prop}(hp:p i) (hK:K ((r i).ren [] st.H.length) ⟨st.T,st.H++gA [] st.H.length (h' i)⟩) (hb:AV.bndL 0 (a i)=true:=by rfl) (hk:(keep.all fun k=>Nat.blt k st.H.length)=true:=by rfl):fY P keep f (a i) st K:=JK hf i hp hb hk hK
theorem fI {P:bI}{f:Nat}{ι:Type}{a:ι→List AV}{h:ι→List cG}{p:ι→Prop}{r:ι→AV}{h':ι→List cG}(hf:bK P f (spec a h p r h')) (i:ι) (sel:List Nat) {keep:List Nat}{args:List AV}{st:St}{K:AV→St→Prop}(hp:p i) (hK:K ((r i).ren sel st.H.length) ⟨iO st.T (fV sel (h i)),rZ (gO st.H (fV sel (h i))) sel (gA sel st.H.length (h' i))⟩)
 (ha:args=AV.renL sel st.H.length (a i):=by rfl) (hlen:sel.length=(h i).length:=by rfl) (hnd:sel.Nodup:=by decide) (hlt:(sel.all fun k=>Nat.blt k st.H.length)=true:=by rfl) (hH:sel.map (fun k=>st.H[k]?)=(gA sel st.H.length (h i)).map some:=by rfl) (hb:AV.bndL (h i).length (a i)=true:=by rfl) (hbH:fD (h i).length (h i)=true:=by rfl) (hkeep:(keep.all fun k=>!sel.contains k && Nat.blt k st.H.length)=true:=by rfl):fY P keep f args st K:=sU hf i sel hp ha hlen hnd hlt hH hb hbH hkeep hK
def MZ (s:List Nat):List (Nat×AV)→List (Nat×AV)
 |[]=>[]
 |(n,x) :: l=>(n,x.ren s 0) :: MZ s l
theorem vF (s:List Nat) (n:Nat):∀T:List (Nat×AV),dR (MZ s T) n=(dR T n).ren s 0
 |[]=>by unfold MZ dR AV.ren;rfl
 |(m,x) :: T=>by
  show (if m=n then x.ren s 0 else dR (MZ s T) n)=(if m=n then x else dR T n).ren s 0
  split
  ·rfl
  ·exact vF s n T
theorem Ch {n:Nat}(m:Nat):∀T:List (Nat×AV),vQ n T=true→(dR T m).bnd n=true
 |[],_=>by unfold dR AV.bnd;rfl
 |(k,x) :: T,h=>by
  simp only[vQ,aO]at h;show (if k=m then x else dR T m).bnd n=true
  split
  ·exact h.1
  ·exact Ch m T h.2
theorem Gh.sel {st st':St}(s:List Nat) (hw:sK st.T (MZ s st'.T)) (hH:s.map (fun k=>st.H[k]?)=(gA s 0 st'.H).map some) (hnd:s.Nodup) (hbT:vQ st'.H.length st'.T=true) (hbH:fD st'.H.length st'.H=true):Gh 0 st st':=fun C a w r pub hCm h=>by
 have hlen:s.length=st'.H.length:=by have:=congrArg List.length hH;simpa [gC]using this
 have hsi:∀i (hi:i < s.length),dU s 0 i=s[i]:=fun i hi=>qU hi
 let r0:cT:=fun i=>if i < s.length then r (dU s 0 i) else none
 have hr0:∀i y,r0 i=some y→i < s.length∧r (dU s 0 i)=some y:=fun i y hy=>by
  by_cases hi:i < s.length
  ·simp only[r0,aF hi]at hy;exact⟨hi,hy⟩
  ·simp only[r0,aE hi]at hy;cases hy
 have hr0':∀i,i < s.length→r0 i=r (dU s 0 i):=fun i hi=>aF hi
 have hinj:∀i j,i < s.length→j < s.length→dU s 0 i=dU s 0 j→i=j:=fun i j hi hj e=>by
  rw[hsi i hi,hsi j hj]at e;exact oJ hnd e
 have hent:∀i e,st'.H[i]?=some e→st.H[dU s 0 i]?=some (e.ren s 0):=fun i e he=>by
  have hi:i < s.length:=by rw[hlen];exact(aA.1 he).1
  have h1:=congrArg (fun l=>l[i]?) hH;simp only[aD,gC,he,Option.map_some,aB hi]at h1;rw[hsi i hi];simpa using h1
 refine⟨r0,pub,⟨fun i e he=>?_,fun i hi=>aE (by omega),fun i j x y hij hx hy=>?_,h.mod.fresh,h.mod.there,h.mod.glob⟩,fun k x hx=>h.own _ x (hr0 k x hx).2,h.fr,fun m=>?_,h.defers,h.size,fun k y hy _=>?_,h.low.1,by omega⟩
 ·have hi:i < s.length:=by rw[hlen];exact(aA.1 he).1
  have he1:=h.mod.ent _ _ (hent i e he);have hbe:=lY hbH i e he;rw[hr0' i hi];exact he1.unren hbe fun k y hkb hy=>by rw[hr0' k (by omega)];exact hy
 ·obtain⟨hi,hx⟩:=hr0 i x hx;obtain⟨hj,hy⟩:=hr0 j y hy;exact h.mod.disj _ _ x y (fun e=>hij (hinj i j hi hj e)) hx hy
 ·rcases wO hw m with h1|h1
  ·rw[vF]at h1;have:dR st'.T m=.any:=by
    cases hx:dR st'.T m<;>rw[hx]at h1<;>unfold AV.ren at h1<;>first|rfl|cases h1
   rw[this];exact .any _
  ·have h2:=h.slots m;rw[←h1,vF]at h2;refine h2.unren _ rfl fun k y hk hy=>?_
   have hkb:=AV.bnd_has _ (Ch m _ hbT) hk;rw[hr0' k (by omega)];exact hy
 ·rw[h.low.1 k (by omega)]at hy;cases hy
def Bu:List cG→List Nat→List cG
 |H,[]=>H
 |H,q :: s=>Bu (H.set q .dead) s
theorem AN:∀(s:List Nat) (H:List cG),(Bu H s).length=H.length
 |[],H=>rfl
 |q :: s,H=>by unfold Bu;rw[AN s,bA]
theorem FS:∀(s:List Nat) (H:List cG) (n:Nat) (e:cG),(Bu H s)[n]?=some e→(n∈s∧e=.dead)∨(n∉s∧H[n]?=some e)
 |[],H,n,e,h=>.inr ⟨by simp,h⟩
 |q :: s,H,n,e,h=>by
  unfold Bu at h;rcases FS s _ n e h with ⟨h1,h2⟩|⟨h1,h2⟩
  ·exact .inl ⟨aW _ h1,h2⟩
  ·by_cases hq:q=n
   ·subst hq;have hl:=(aA.1 h2).1;rw[bA]at hl;rw[aQ hl]at h2;cases h2;exact .inl ⟨bD ..,rfl⟩
   ·rw[aU hq]at h2;refine .inr ⟨fun hm=>?_,h2⟩;rcases List.mem_cons.1 hm with hm|hm
    ·exact hq hm.symm
    ·exact h1 hm
theorem tA {α:Type}(f:α→List Nat):∀(l:List α),(∀(i:Nat) (x:α),l[i]?=some x→(f x).Nodup)→(∀(i j:Nat) (x y:α),i≠j→l[i]?=some x→l[j]?=some y→∀b∈f x,b∉f y)→(l.flatMap f).Nodup
 |[],_,_=>by simp
 |z :: l,h1,h2=>by
  rw[List.flatMap_cons,List.nodup_append];refine⟨h1 0 z rfl,tA f l (fun i x hx=>h1 (i+1) x (by simpa using hx)) (fun i j x y hij hx hy=>h2 (i+1) (j+1) x y (by omega) (by simpa using hx) (by simpa using hy)),fun b hb c hc e=>?_⟩;subst e;obtain⟨u,hu,hb'⟩:=List.mem_flatMap.1 hc;obtain⟨q,hq⟩:=aV hu;exact h2 0 (q+1) z u (by omega) rfl (by simpa using hq) b hb hb'
theorem Fh (v:Value):(jB v).Nodup:=by
 cases v with
 |pointer A=>cases A<;>simp[jB]
 |slice A _ _=>cases A<;>simp[jB]
 |map b=>cases b<;>simp[jB]
 |_=>simp[jB]
def vR:cG→Bool
 |.dead=>false
 |.pool ..=>false
 |_=>true
theorem eF.plain_ {pub:cY}{w:World}{r:cT}{h:Option Value}{e:cG}(he:eF pub w r h e) (hp:vR e=true):∃y,h=some y∧xP y=false:=by
 cases he<;>first|exact⟨_,rfl,rfl⟩|cases hp
theorem Gh.putIn {M:Nat}{st:St}(k p:Nat) (sel:List Nat) (hd:AV) (l:List cG) {t:TypeId}{es:List A3}{outs:List (Nat×AV)}{i:Nat}{x key:AV}(hk:st.H[k]?=some (.pool t es outs)) (ho:outs[p]?=some (i,x)) (hu:∀y,(i,y)∉outs.eraseIdx p)
  (hke:(es[i]?).map (·.1)=some key) (hx:x=hd.ren sel 0) (hH:sel.map (fun q=>st.H[q]?)=(gA sel 0 l).map some) (hnd:sel.Nodup) (hsel:sel.all (fun q=>Nat.ble M q && q != k)=true) (hb:hd.bnd sel.length=true) (hbH:fD sel.length l=true) (hpl:l.all vR=true) :
  Gh M st ⟨iO st.T sel,Bu (gO (st.H.set k (.pool t (es.set i (key,hd,l)) (outs.eraseIdx p))) sel) sel⟩:=fun C a w r pub hCm h=>by
 have hlen:sel.length=l.length:=by have:=congrArg List.length hH;simpa [gC]using this
 have hkl:k < st.H.length:=(aA.1 hk).1;have hksel:k∉sel:=fun hm=>by have:=aT.1 hsel k hm;simp at this
 obtain⟨b,ms,inner,hrk,R⟩:=h.ent_pool hk;have hom:(i,x)∈outs:=aC ho;obtain⟨hi0,hix⟩:=R.hout i x hom;have hil:i < es.length:=by rw[←R.hn];exact(aA.1 hi0).1
 obtain⟨mi,hmi⟩:∃m,ms[i]?=some m:=⟨_,aK (by rw[R.hl];exact hil)⟩
 have hsi:∀j (hj:j < sel.length),dU sel 0 j=sel[j]:=fun j hj=>qU hj
 have hent:∀j d,l[j]?=some d→∃(hj:j < sel.length),st.H[sel[j]]?=some (d.ren sel 0):=fun j d hd0=>by
  have hj:j < sel.length:=by rw[hlen];exact(aA.1 hd0).1
  have h1:=congrArg (fun l=>l[j]?) hH;simp only[aD,gC,hd0,Option.map_some,aB hj]at h1;exact⟨hj,by simpa using h1⟩
 have hval:∀j (hj:j < sel.length),∃y,r sel[j]=some y∧xP y=false:=fun j hj=>by
  have hjl:j < l.length:=by omega
  obtain⟨_,h1⟩:=hent j _ (aB hjl);have h2:=h.mod.ent _ _ h1;refine h2.plain_ ?_;have:=aT.1 hpl _ (List.getElem_mem hjl)
  revert this
  cases l[j]<;>exact fun h=>h
 obtain⟨vs,hvs⟩:∃vs:List Value,vs=sel.map fun q=>(r q).getD undef:=⟨_,rfl⟩
 have hvl:vs.length=sel.length:=by rw[hvs,aJ]
 have hvg:∀j (hj:j < sel.length),vs[j]?=r sel[j]:=fun j hj=>by
  obtain⟨y,hy,_⟩:=hval j hj;rw[hvs,aD,aB hj,Option.map_some,hy];rfl
 have hvt:∀v∈vs,∃j,∃(hj:j < sel.length),r sel[j]=some v∧xP v=false:=fun v hv=>by
  obtain⟨j,hj⟩:=aV hv;have hjl:j < sel.length:=by rw[←hvl];exact(aA.1 hj).1
  obtain⟨y,hy,ht⟩:=hval j hjl;rw[hvg j hjl,hy]at hj;cases hj;exact⟨j,hjl,hy,ht⟩
 have hvt2:∀v∈vs,xP v=false:=fun v hv=>by obtain⟨_,_,_,h⟩:=hvt v hv;exact h
 have hunr:∀q y,q < sel.length→r (dU sel 0 q)=some y→JZ vs q=some y:=fun q y hq hy=>by
  rw[hsi q hq]at hy;exact(hvg q hq).trans hy
 have hfo:∀n,n∈cH (cO b (inner.set i vs))→n∈cH (cO b inner)∨∃j,∃(hj:j < sel.length),∃y,r sel[j]=some y∧n∈cH y:=fun n hn=>by
  rcases dX.1 hn with h1|⟨j,us,v,h1,h2,h3⟩
  ·exact .inl (dX.2 (.inl h1))
  ·by_cases e:i=j
   ·subst e;rw[aQ (by rw[R.hn];exact hil)]at h1;cases h1;obtain⟨j,hj,h4,h5⟩:=hvt v h2;exact .inr ⟨j,hj,v,h4,by rw[gR h5];exact h3⟩
   ·rw[aU e]at h1;exact .inl (dX.2 (.inr ⟨j,us,v,h1,h2,h3⟩))
 have hP:eF pub w r (some (cO b (inner.set i vs))) (.pool t (es.set i (key,hd,l)) (outs.eraseIdx p)):=by
  have hmem:∀{j:Nat}{y:AV},(j,y)∈outs.eraseIdx p→(j,y)∈outs:=fun hm=>List.mem_of_mem_eraseIdx hm
  have hne:∀{j:Nat}{y:AV},(j,y)∈outs.eraseIdx p→i≠j:=fun {j y} hm e=>by subst e;exact hu y hm
  have hback:∀{j:Nat},i≠j→(∀y,(j,y)∉outs.eraseIdx p)→∀y,(j,y)∉outs:=fun {j} hij hn y hy=>by
   obtain⟨q,hq⟩:=aV hy;have hqp:q≠p:=by rintro rfl;rw[ho]at hq;cases hq;exact hij rfl
   refine hn y ?_;rcases aL q p with h1|h1
   ·exact aC (i:=q) (by rw[List.getElem?_eraseIdx,aF h1];exact hq)
   ·exact aC (i:=q - 1) (by rw[List.getElem?_eraseIdx,aE (by omega)];rw[show q - 1+1=q by omega];exact hq)
  have hndo:=R.hnd;rw[dJ,List.nodup_cons]at hndo;refine .pool R.hb (by rw[bA];exact R.hl) (by rw[bA,bA];exact R.hn) R.hborn ?_ (fun j y hy=>?_) (fun j e us m hno he hus hm=>?_) (fun j e us q d hno he hus hd0=>?_) ?_ R.hp
  ·have:(es.set i (key,hd,l)).map (·.1)=es.map (·.1):=by
    rw[List.map_set];have h1:(es.map (·.1))[i]?=some key:=by rw[aD];exact hke
    exact List.ext_getElem? fun q=>by
     rw[List.getElem?_set]
     split
     ·rename_i e;subst e;rw[aJ,aF hil,h1]
     ·rfl
   rw[this];exact R.hk
  ·have hij:=hne hy;rw[aU hij];exact R.hout j y (hmem hy)
  ·by_cases hij:i=j
   ·subst hij;rw[aQ hil]at he;rw[aQ (by rw[R.hn];exact hil)]at hus;cases he;cases hus;rw[hmi]at hm;cases hm;refine⟨by rw[hvl,hlen],hvt2,?_⟩;refine(hix mi hmi).unren hd hx fun q y hq hy=>hunr q y (AV.bnd_has _ hb hq) hy
   ·rw[aU hij]at he hus;exact R.hin j e us m (hback hij hno) he hus hm
  ·by_cases hij:i=j
   ·subst hij;rw[aQ hil]at he;rw[aQ (by rw[R.hn];exact hil)]at hus;cases he;cases hus;obtain⟨hql,h1⟩:=hent q d hd0;have h2:=h.mod.ent _ _ h1;rw[hvg q hql];exact h2.unren (lY hbH q d hd0) fun q y hq hy=>hunr q y hq hy
   ·rw[aU hij]at he hus;exact R.hie j e us q d (hback hij hno) he hus hd0
  ·have hself:∀(j:Nat) (us:List Value),(inner.set i vs)[j]?=some us→(i=j∧us=vs)∨(i≠j∧inner[j]?=some us):=fun j us hus=>by
    by_cases hij:i=j
    ·subst hij;rw[aQ (by rw[R.hn];exact hil)]at hus;cases hus;exact .inl ⟨rfl,rfl⟩
    ·rw[aU hij]at hus;exact .inr ⟨hij,hus⟩
   have hfar:∀n,n∈vs.flatMap jB→n∉cH (cO b inner):=fun n hn hn2=>by
    obtain⟨v,hv,h1⟩:=List.mem_flatMap.1 hn;obtain⟨j,hj,h2,h3⟩:=hvt v hv;exact h.mod.disj k sel[j] _ _ (fun e=>hksel (by rw[e];exact List.getElem_mem hj)) hrk h2 n hn2 (by rw[gR h3];exact h1)
   have hin2:∀(j:Nat) (us:List Value) (n:Nat),inner[j]?=some us→n∈us.flatMap jB→n∈cH (cO b inner):=fun j us n hus hn=>by
    obtain⟨v,hv,h1⟩:=List.mem_flatMap.1 hn;exact dX.2 (.inr ⟨j,us,v,hus,hv,h1⟩)
   rw[dJ,List.nodup_cons];refine⟨fun hm=>?_,tA _ _ (fun j us hus=>?_) (fun j j' us us' hjj hus hus' n hn hn'=>?_)⟩
   ·obtain⟨us,hus,h1⟩:=List.mem_flatMap.1 hm;obtain⟨j,hj⟩:=aV hus;rcases hself j us hj with ⟨_,rfl⟩|⟨_,h2⟩
    ·exact hfar b h1 (dX.2 (.inl rfl))
    ·exact hndo.1 (List.mem_flatMap.2 ⟨us,aC h2,h1⟩)
   ·rcases hself j us hus with ⟨_,rfl⟩|⟨_,h2⟩
    ·refine tA _ _ (fun q v _=>Fh v) (fun q q' v v' hqq hv hv' n hn hn'=>?_);have hql:q < sel.length:=by rw[←hvl];exact(aA.1 hv).1
     have hql':q' < sel.length:=by rw[←hvl];exact(aA.1 hv').1
     have ht:=hvt2 v (aC hv);have ht':=hvt2 v' (aC hv');rw[hvg q hql]at hv;rw[hvg q' hql']at hv';exact h.mod.disj sel[q] sel[q'] v v' (fun e=>hqq (oJ hnd e)) hv hv' n (by rw[gR ht];exact hn) (by rw[gR ht'];exact hn')
    ·have:(us.flatMap jB).Sublist (inner.flatMap fun vs=>vs.flatMap jB):=List.sublist_flatten_of_mem (aX.2 ⟨us,aC h2,rfl⟩);exact this.nodup hndo.2
   ·rcases hself j us hus with ⟨e1,rfl⟩|⟨e1,h2⟩
    ·rcases hself j' us' hus' with ⟨e2,rfl⟩|⟨e2,h2'⟩
     ·omega
     ·exact hfar n hn (hin2 j' us' n h2' hn')
    ·rcases hself j' us' hus' with ⟨e2,rfl⟩|⟨e2,h2'⟩
     ·exact hfar n hn' (hin2 j us n h2 hn)
     ·exact rO _ _ hndo.2 j j' us us' hjj h2 h2' n hn hn'
 let r':cT:=fun q=>if q=k then some (cO b (inner.set i vs)) else eI r sel q
 have rk:r' k=some (cO b (inner.set i vs)):=aF rfl;have rw_:∀q,q≠k→r' q=eI r sel q:=fun q hq=>aE hq
 have rold:∀q,q≠k→q∉sel→r' q=r q:=fun q h1 h2=>by rw[rw_ q h1];simp[eI,h2]
 have rsel:∀q,q∈sel→r' q=none:=fun q hq=>by rw[rw_ q (by rintro rfl;exact hksel hq)];simp[eI,hq]
 have hwk:eI r sel k=some (cO b inner):=by simp[eI,hksel,hrk]
 obtain⟨a1,q1,q2⟩:=dE b inner;obtain⟨a2,q3,q4⟩:=dE b (inner.set i vs);have hsub:∀z v,bU pub w (eI r sel) z v→bU pub w r' z v:=fun z v hv=>hv.super (by rw[hwk,q1]) (by rw[rk,q3]) (q4.trans q2.symm) (fun q y hq hy=>by rw[rw_ q hq];exact hy)
 have hsome:∀q y,r' q=some y→(q=k∧y=cO b (inner.set i vs))∨(q≠k∧q∉sel∧r q=some y):=fun q y hy=>by
  by_cases h1:q=k
  ·subst h1;rw[rk]at hy;cases hy;exact .inl ⟨rfl,rfl⟩
  ·by_cases h2:q∈sel
   ·rw[rsel q h2]at hy;cases hy
   ·rw[rold q h1 h2]at hy;exact .inr ⟨h1,h2,hy⟩
 have hkill:=sV sel (st.H.set k (.pool t (es.set i (key,hd,l)) (outs.eraseIdx p)));refine⟨r',pub,⟨⟨fun q e he=>?_,fun q hq=>?_,fun p' q y z hpq hy hz n hn hn2=>?_,h.mod.fresh,h.mod.there,h.mod.glob⟩,fun q y hy n hn=>?_,h.fr,fun n=>hsub _ _ (sT sel st.T r (h.slots n)),h.defers,h.size,fun q y hy hs=>?_,⟨h.low.1,?_⟩⟩⟩
 ·rcases FS sel _ q e he with ⟨hq,rfl⟩|⟨hq,he⟩
  ·rw[rsel q hq];exact .dead
  ·by_cases h1:q=k
   ·subst h1;obtain⟨e0,h2,h3⟩:=pK (pub:=pub) (w:=w) (hd:=some (cO b (inner.set i vs))) sel _ r q e he;rw[aQ hkl]at h2;cases h2;rw[rk];exact(h3 hP).sub hsub
   ·obtain⟨e0,h2,h3⟩:=pK (pub:=pub) (w:=w) (hd:=r q) sel _ r q e he;rw[aU (Ne.symm h1)]at h2;rw[rold q h1 hq];exact(h3 (h.mod.ent q e0 h2)).sub hsub
 ·rw[AN,hkill,bA]at hq;rw[rw_ q (by omega)];unfold eI
  split
  ·rfl
  ·exact h.mod.none_ q hq
 ·rcases hsome p' y hy with ⟨rfl,rfl⟩|⟨h1,h2,h3⟩
  ·rcases hsome q z hz with ⟨rfl,rfl⟩|⟨h4,h5,h6⟩
   ·exact hpq rfl
   ·rcases hfo n hn with h7|⟨j,hj,y,h7,h8⟩
    ·exact h.mod.disj _ _ _ _ hpq hrk h6 n h7 hn2
    ·exact h.mod.disj _ _ _ _ (fun e=>h5 (by rw[←e];exact List.getElem_mem hj)) h7 h6 n h8 hn2
  ·rcases hsome q z hz with ⟨rfl,rfl⟩|⟨h4,h5,h6⟩
   ·rcases hfo n hn2 with h7|⟨j,hj,y,h7,h8⟩
    ·exact h.mod.disj _ _ _ _ (Ne.symm hpq) hrk h3 n h7 hn
    ·exact h.mod.disj _ _ _ _ (fun e=>h2 (by rw[←e];exact List.getElem_mem hj)) h7 h3 n h8 hn
   ·exact h.mod.disj _ _ _ _ hpq h3 h6 n hn hn2
 ·rcases hsome q y hy with ⟨rfl,rfl⟩|⟨h1,h2,h3⟩
  ·rcases hfo n hn with h7|⟨j,hj,y,h7,h8⟩
   ·exact h.own _ _ hrk n h7
   ·exact h.own _ _ h7 n h8
  ·exact h.own q y h3 n hn
 ·have h1:=h.stab q y hy hs;have hqm:q < C.m:=by
   rcases aL q C.m with h2|h2
   ·exact h2
   ·rw[h.low.1 q h2]at hy;cases hy
  have hqk:q≠k:=by
   rintro rfl;rw[hrk]at h1;cases h1;cases hs
  have hqs:q∉sel:=fun hm=>by
   have:=aT.1 hsel q hm;simp only[aO,Nat.ble_eq]at this;omega
  rw[rold q hqk hqs];exact h1
 ·have:=h.low.2;dsimp only;rw[AN,hkill,bA];exact this
def lL (n:Int):Bool:=decide (97≤n) && decide (n≤122)
def iU (n:Int):Bool:=decide (48≤n) && decide (n≤57)
def Uk (c:UInt8):Bool:=lL c.toNat || iU c.toNat || decide ((c.toNat:Int)=45)
def bT (s:bH):Bool:=decide (1≤s.size) && decide (s.size≤16) && s.data.toList.all Uk
def jQ (s:bH) (k:Nat):Prop:=∀j (h:j < s.size),j < k→Uk s[j]=true
theorem kV (s:bH):jQ s 0:=fun _ _ h=>absurd h (by omega)
theorem fE {s:bH}{k:Nat}(hk:k < s.size) (h:jQ s k) (hc:Uk s[k]=true):jQ s (k+1):=fun j hj hjk=>by
  by_cases e:j=k
  · subst e;exact hc
  · exact h j hj (by omega)
theorem LA {s:bH}(h:jQ s s.size):bT s=(decide (1≤s.size) && decide (s.size≤16)):=by
  have:s.data.toList.all Uk=true:=by
    rw[aT];intro c hc;obtain⟨j,hj,rfl⟩:=List.getElem_of_mem hc;exact h j (by simpa using hj) (by simpa using hj)
  simp[bT,this]
theorem rT {s:bH}{k:Nat}(hk:k < s.size) (h:Uk s[k]=false):bT s=false:=by
  have:s.data.toList.all Uk=false:=by
    rw[←Bool.not_eq_true,aT];intro hh;have:=hh (s[k]) (by exact List.getElem_mem (l:=s.data.toList) (by simpa using hk));rw[h]at this;cases this
  simp[bT,this]
end Go.Proofs.YtigdiekbiphhmaaGreatDoor
end
