/-
  Texts of this proof,joined: V9,VA,VAM,VBS,VAP,VB,Plan,Plan2,VC,VD.
-/
import Derived.Test.YtooioahiijbomaaGreatDoorA1
import Derived.MapKept
import Derived.WideKeyRuns
import Derived.Laws.BytesArg
import Derived.Maps.RangeRun
import Derived.Laws.MakeOwn
import Derived.Deep.RegionHeld
import Derived.WalkKit
set_option linter.unusedVariables false
set_option linter.unusedSimpArgs false
noncomputable section
namespace Go.Proofs.YtooioahiijbomaaGreatDoor
open Go.RowKit
def eG (keep:List Nat) (r:cF) (w:World) (r':cF) (w':World):Prop:=∀k∈keep,r' k=r k∧∀y,r k=some y→∀b∈bY y,w'.heap[b]?=w.heap[b]?
theorem eG.refl (keep:List Nat) (r:cF) (w:World):eG keep r w r w:=fun _ _=>⟨rfl,fun _ _ _ _=>rfl⟩
theorem eG.trans {keep:List Nat}{r1 r2 r3:cF}{w1 w2 w3:World}(h:eG keep r1 w1 r2 w2) (k:eG keep r2 w2 r3 w3):eG keep r1 w1 r3 w3:=fun n hn=>by
 obtain⟨h1,h2⟩:=h n hn;obtain⟨k1,k2⟩:=k n hn;exact⟨k1.trans h1,fun y hy b hb=>(k2 y (h1.trans hy) b hb).trans (h2 y hy b hb)⟩
def kG (C:kN) (keep:List Nat) (q:Bool) (r:cF) (pub:cI) (w:World) (K:St→Prop) (a':Act) (w':World):Prop:=
 ∃st' r' pub',K st'∧bM C st' a' w' r' pub'∧lV pub w pub' w'∧eG keep r w r' w'∧(q=true→pub'=pub)
def pR (P:bG) (o:Oper) (x:fT):Prop:=
 ∀(C:kN) (st:St) (a:Act) (w:World) (r:cF) (pub:cI) (keep:List Nat) (al:Option Nat) (K:St→Prop) (Q:Exit→Act→World→Prop),(∀n,o.dst=some n→n < C.n)→(∀k∈keep,(r k).isSome=true)→bM C st a w r pub →
  dB P keep al o.dst st K x→Oper.wp P o a w (kG C keep x.quiet r pub w K) Q
section
variable {P:bG}{o:Oper}
theorem cH {C:kN}{st':St}{a:Act}{w w':World}{r r':cF}{pub pub':cI}{keep:List Nat}{q:Bool}{K:St→Prop}{Q:Exit→Act→World→Prop}{v:Value}{y:AV}(hd:∀n,o.dst=some n→n < C.n)
  (hrun:(execOp a.eval o).run P w=.ok (.value v) w') (h:bM C st' a w' r' pub') (hy:bS pub' w' r' y v) (hK:K (st'.put o.dst y)) (he:lV pub w pub' w') (hk:eG keep r w r' w') (hq:q=true→pub'=pub):Oper.wp P o a w (kG C keep q r pub w K) Q:=by
 unfold Oper.wp;rw[hrun];exact⟨_,r',pub',hK,h.put hd hy,he,hk,hq⟩
theorem kV {C:kN}{st':St}{a:Act}{w w':World}{r r':cF}{pub pub':cI}{keep:List Nat}{q:Bool}{K:St→Prop}{Q:Exit→Act→World→Prop}(hd:∀n,o.dst=some n→n < C.n)
  (hrun:(execOp a.eval o).run P w=.ok .skip w') (h:bM C st' a w' r' pub') (hK:K (st'.put o.dst .any)) (he:lV pub w pub' w') (hk:eG keep r w r' w') (hq:q=true→pub'=pub):Oper.wp P o a w (kG C keep q r pub w K) Q:=by
 unfold Oper.wp;rw[hrun];exact⟨_,r',pub',hK,h.put hd (.any _),he,hk,hq⟩
theorem Cc {x:fT}(h:dM P o x):pR P o x:=by
 intro C st a w r pub keep al K Q hd _ hh hK;obtain⟨v,y,hy,hKy,hrun⟩:=h C st a w r pub keep al K hh hK;exact cH hd (hrun w (fun _=>oG.refl _ _ _ _ _)) hh hy hKy (lV.refl _ _) (eG.refl _ _ _) (fun _=>rfl)
theorem eH {e:Option cC}(h:KZ e=true):e=some .dead:=by
 cases e with
 |none=>cases h
 |some e=>cases e<;>first|rfl|cases h
theorem bM.grow_ {C:kN}{st:St}{a:Act}{w:World}{r:cF}{pub:cI}(h:bM C st a w r pub) (al:Option Nat):bM C (st.grow al) a w r pub:=by
 cases al with
 |none=>exact h.room 1
 |some k=>exact h
theorem iG (st:St) (al:Option Nat):(st.grow al).T=st.T:=by cases al<;>rfl
theorem dP {C:kN}{st:St}{a:Act}{w:World}{r:cF}{pub:cI}{keep:List Nat}(h:bM C st a w r pub) {q:Nat}(hq:st.H[q]?=some .dead) (hk:∀k∈keep,(r k).isSome=true) (x:Value) (ob:Obj):eG keep r w (eN r q x) (w.alloc ob):=fun k hkk=>by
 have h1:=hk k hkk;refine⟨cG _ _ ?_,fun y hy b hb=>Below.heap_alloc w ob b (h.mod.foot_lt hy b hb)⟩;rintro rfl;rw[h.mod.dead_none hq]at h1;cases h1
theorem Rt {t:TypeId}{x:Operand}{x':XA}(ho:o.op=.box t x) (hx:cA x=some x'):pR P o (.box t x'):=by
 intro C st a w r pub keep al K Q hd hk h hK;simp only[dB]at hK;obtain⟨hf,hdd,hK⟩:=hK;have hdd:=eH hdd;obtain⟨hc,_⟩:=(h.ev hx).cells_ hf;have hb:=(h.grow_ al).box hdd t _ (a.eval x).cells hc;rw[iG]at hb;refine cH (v:=.pointer (some ⟨w.heap.size,0,none⟩)) hd ?_ hb (.ptr 0 (bW _ _ _)) hK (Fr.alloc_ (fun _=>False) pub w _).ext (dP (h.grow_ al) hdd hk _ _) (fun _=>rfl);unfold execOp;simp[ho,Instr.box,newVar,newRow]
theorem MZ {t:TypeId}{it:TypeInfo}{z:Value}{zs:List AV}(hi:P.info? t=some it) (hz:it.zero=some z) (hc:gH z.cells.toList=some zs) (ho:o.op=.alloc t):pR P o (.alloc t zs):=by
 intro C st a w r pub keep al K Q hd hk h hK;simp only[dB]at hK;obtain⟨hdd,hK⟩:=hK;have hdd:=eH hdd;have hb:=(h.grow_ al).box hdd t zs z.cells (fG hc);rw[iG]at hb;refine cH (v:=.pointer (some ⟨w.heap.size,0,none⟩)) hd ?_ hb (.ptr 0 (bW _ _ _)) hK (Fr.alloc_ (fun _=>False) pub w _).ext (dP (h.grow_ al) hdd hk _ _) (fun _=>rfl);unfold execOp;simp[ho,Instr.alloc,zeroValue,typeInfo,hi,hz,newVar,newRow,Sem.run_bind]
theorem RF {t:TypeId}(ho:o.op=.makeMap t none):pR P o (.mkm t):=by
 intro C st a w r pub keep al K Q hd hk h hK;simp only[dB]at hK;obtain⟨hdd,hK⟩:=hK;have hdd:=eH hdd;have hb:=(h.grow_ al).newmap hdd t;rw[iG]at hb;refine cH (v:=.map (some w.heap.size)) hd ?_ hb (.hd (bW _ _ _) rfl) hK (Fr.alloc_ (fun _=>False) pub w _).ext (dP (h.grow_ al) hdd hk _ _) (fun _=>rfl);unfold execOp;simp[ho,Instr.makeMap]
theorem xE {C:kN}{st:St}{a:Act}{w:World}{r:cF}{pub:cI}{keep:List Nat}(h:bM C st a w r pub) {k g:Nat}{x:Value}(hx:r k=some x) (hg:g∈bY x) (hk:keep.contains k=false) (arr:Array Value):eG keep r w r (w.setRow g arr):=fun n hn=>by
 refine⟨rfl,fun y hy b hb=>setRow_other w g b arr ?_⟩;rintro rfl;have hne:k≠n:=by
  rintro rfl;rw[List.contains_eq_mem]at hk;simp at hk;exact hk hn
 exact h.mod.disj k n x y hne hx hy b hg hb
theorem mE {t:TypeId}{it:TypeInfo}(hi:P.info? t=some it) {x y:Operand}{a:Act}(ho:o.op=.store t x y) {b off:Nat}{tt:TypeId}{arr:Array Value}{w:World}(hv:a.eval x=.pointer (some ⟨b,off,none⟩)) (hb:gF w b tt arr)
  (hsz:(a.eval y).cells.size=it.size) (hfit:off+it.size≤arr.size) (h1:(a.eval y).cells.all (·.oneCell')=true) :
  (execOp a.eval o).run P w=.ok .skip (w.setRow b (arr.toList.take off++(a.eval y).cells.toList++arr.toList.drop (off+(a.eval y).cells.toList.length)).toArray):=by
 have hst:=run_storeCells_at P b off tt (a.eval y).cells.toList 0 arr w hb (by simp;omega) (fun v hv=>(Array.all_eq_true_iff_forall_mem.1 h1) v (by simpa using hv));simp only[Nat.add_zero]at hst;unfold execOp;simp[ho,hv,Instr.storeAt,Instr.sureAddr,storeVar,Sem.run_bind,sizeOf,typeInfo,hi,hsz];simp only[bA]at hst;simp[hst,hsz]
theorem eM {sz:Nat}{l:List AV}(hl:l.length=sz) (h1:l.all AV.one=true):(cO sz l).cells=l:=by
 unfold cO
 split
 ·rename_i e;subst e;cases l with
  |nil=>simp at hl
  |cons x l=>
   cases l with
   |nil=>simp at h1;exact AV.cells_one h1
   |cons _ _=>simp at hl
 ·rfl
theorem bM.ent_hrowP {C:kN}{st:St}{a:Act}{w:World}{r:cF}{pub:cI}(h:bM C st a w r pub) {k:Nat}{t sz n:Nat}{cs:List AV}(hk:st.H[k]?=some (.hrow t sz n cs)):∃A c us,r k=some (.slice A n c)∧fP w t sz A n c us∧bO pub w r cs us∧∀b∈gC A,pub b=0:=by
 have:=h.mod.ent k _ hk;generalize hv:r k=v at this;cases this with
 |hrow ho hc hp=>exact⟨_,_,_,rfl,ho,hc,hp⟩
theorem bM.storeH {C:kN}{st:St}{a:Act}{w:World}{r:cF}{pub:cI}(h:bM C st a w r pub) {k:Nat}{t:TypeId}{sz n:Nat}{cs:List AV}(hk:st.H[k]?=some (.hrow t sz n cs)) {p:Nat}{m:List AV}{vs:List Value}(hm:bO pub w r m vs)
  (hj:p+m.length≤cs.length) (h0:0 < m.length) :
  ∃g c arr,r k=some (.slice (some ⟨g,0,none⟩) n c)∧gF w g t arr∧p+vs.length≤arr.size∧pub g=0∧
   bM C ⟨st.T,st.H.set k (.hrow t sz n (cs.take p++m++cs.drop (p+m.length)))⟩ a (w.setRow g (arr.toList.take p++vs++arr.toList.drop (p+vs.length)).toArray) r pub:=by
 obtain⟨A,c,us,hr,ho,hc,hp⟩:=h.ent_hrowP hk;have hul:us.length=n * sz:=ho.len;have hcl:=hc.len;have hvl:=hm.len;rcases ho.cases_ with ⟨rfl,h1,_,h2⟩|⟨g,cur,rfl,hb,r1,r2,r3,r4⟩
 ·subst h2;simp at hcl;omega
 ·have hcap:n * sz≤c * sz:=Nat.mul_le_mul_right sz r1;refine⟨g,c,cur,hr,hb,by omega,hp g (by simp),h.turn hr (by simp[bY]) hb pub (fun _ _=>rfl) (aN _) (fun q hq=>?_) (fun q=>?_) (fun q hq=>?_) fun hf=>?_⟩
  ·have:=hp g (by simp);omega
  ·have:=hp g (by simp);omega
  ·have:=hp g (by simp);omega
  ·refine .hrow (us:=us.take p++vs++us.drop (p+vs.length)) ?_ ((hc.seg hm p).ext hf.ext) hp;refine fP.of_blk (setRow_heap w g cur _ t _ hb) r1 r2 ?_ ?_
   ·simp;omega
   ·rw[←r4];simp only[];exact J8 cur.toList vs p (n * sz) (by omega) (by have:=bA (xs:=cur);omega)
theorem Tl {t:TypeId}{it:TypeInfo}{x y:Operand}{x' y':XA}(hi:P.info? t=some it) (ho:o.op=.store t x y) (hx:cA x=some x') (hy:cA y=some y'):pR P o (.st it.size x' y'):=by
 intro C st a w r pub keep al K Q hd hk h hK;simp only[dB]at hK;obtain⟨hf,hlen,hK⟩:=hK;obtain⟨hc,h1⟩:=(h.ev hy).cells_ hf;have hvs:(a.eval y).cells.size=it.size:=by have:=hc.len;rw[hlen]at this;simpa using this
 have hv1:=h.ev hx;generalize hcv:st.ev x'=cv at hK hv1;generalize hv:a.eval x=v at hv1;cases hv1 with
 |@ptr _ k b off hr=>
  obtain⟨hkk,hK⟩:=hK;cases hkq:st.H[k]? with
  |none=>rw[hkq]at hK;exact hK.elim
  |some e=>
   rw[hkq]at hK;cases e with
   |blk t' cs=>
    obtain⟨hoff,hK⟩:=hK;obtain⟨b',arr,hr2,hb,hcs,hp⟩:=h.ent_blk hkq;rw[hr2]at hr;simp only[bD,Value.pointer.injEq,Addr.mk.injEq,and_true]at hr;subst hr;have hal:arr.size=cs.length:=by have:=hcs.len;simpa using this
    have hst:=h.store (t:=t') hr2 hb hcs hp hc off;refine kV hd (mE hi ho hv hb hvs (by omega) h1) hst hK ?_ (xE h hr2 (by simp[bY]) hkk _) (fun _=>rfl);exact(Fr.setRow_ hb pub (fun _ _=>rfl) (aN _) (fun q hq=>by omega) (fun h=>by omega)).ext
   |_=>exact hK.elim
 |@re _ k b n c sz m j hr=>
  obtain⟨hkk,hK⟩:=hK;cases hkq:st.H[k]? with
  |none=>rw[hkq]at hK;exact hK.elim
  |some e=>
   rw[hkq]at hK;cases e with
   |row t' sz' xs=>
    obtain⟨rfl,hfr,hbn,q0,u0,hq0,hu0,hjn,⟨hK⟩⟩:=hK;have hK:=hK _ rfl;obtain rfl:m=q0:=by omega
    obtain⟨hc2,h12⟩:=(h.rd hy).cells_ hfr;have hc0:bO pub w cM (st.rd y').cells (a.eval y).cells.toList:=hc2.congr (fun n hn=>by
     have:=AV.bndL_has _ hbn hn;omega)
    have hone:(st.rd y').cells.all AV.one=true:=by
     cases hq:st.rd y' with
     |agg l=>rw[hq]at hfr;exact hfr
     |_=>rw[hq]at hfr;first|(simp[AV.flat,AV.one]at hfr;done)|rfl
    have hl2:(st.rd y').cells.length=it.size:=by have:=hc2.len;simp at this;omega
    have hu0m:=aC hu0;obtain⟨A,c2,us,hr3,ho3,_,hs3,_⟩:=h.ent_row hkq;have hul:=(hs3 u0 hu0m).1;have huo:=(hs3 u0 hu0m).2;have hspl:(gV u0.cells (st.rd y').cells j).length=sz':=by unfold gV;simp;omega
    have hsplo:(gV u0.cells (st.rd y').cells j).all AV.one=true:=by
     unfold gV;rw[List.all_append,List.all_append,hone];rw[aS]at huo;simp only[aO,and_true,aS];exact⟨fun z hz=>huo z (List.mem_of_mem_take hz),fun z hz=>huo z (List.mem_of_mem_drop hz)⟩
    have hj2:j+(st.rd y').cells.length≤sz':=by omega
    obtain⟨g,n',c',arr,hr2,hb,hfit,hst⟩:=h.storeRow hkq hu0 hc0 hj2 hone (cO sz' (gV u0.cells (st.rd y').cells j)) (by rw[eM hspl hsplo];rfl);rw[hr2]at hr;simp only[bD,Value.slice.injEq,Addr.mk.injEq,and_true]at hr;obtain⟨rfl,rfl,rfl⟩:=hr;refine kV hd (mE hi ho hv hb hvs (by simp at hfit;omega) h1) hst hK ?_ (xE h hr2 (by simp[bY]) hkk _) (fun _=>rfl);have hp:=(h.ent_row hkq)
    obtain⟨A,c3,us3,hr4,_,_,_,hp4⟩:=hp;rw[hr2]at hr4;simp only[bD,Value.slice.injEq]at hr4;obtain⟨rfl,_⟩:=hr4;have hp5:=hp4 g (by simp);exact(Fr.setRow_ hb pub (fun _ _=>rfl) (aN _) (fun q hq=>by omega) (fun h=>by omega)).ext
   |hrow t' sz' n' cs=>
    obtain⟨rfl,hn0,hjn,hle,hK⟩:=hK;have hcl2:(st.ev y').cells.length=it.size:=hlen;obtain⟨g,c',arr,hr2,hb,hfit,hp5,hst⟩:=h.storeH hkq (p:=m * sz'+j) hc (by omega) (by omega);rw[hr2]at hr;simp only[bD,Value.slice.injEq,Addr.mk.injEq,and_true]at hr;obtain⟨rfl,rfl,rfl⟩:=hr;refine kV hd (mE hi ho hv hb hvs (by simp at hfit;omega) h1) hst hK ?_ (xE h hr2 (by simp[bY]) hkk _) (fun _=>rfl);exact(Fr.setRow_ hb pub (fun _ _=>rfl) (aN _) (fun q hq=>by omega) (fun h=>by omega)).ext
   |_=>exact hK.elim
 |_=>exact hK.elim
end
theorem BN {sz:Nat}{xs:List AV}(hs:∀x∈xs,x.cells.length=sz) {i:Nat}(hi:i < xs.length) {y:AV}(hy:y.cells.length=sz):(xs.set i y).flatMap AV.cells=gV (xs.flatMap AV.cells) y.cells (i * sz):=by
 have e1:xs=xs.take i++[xs[i]]++xs.drop (i+1):=by simp
 have hpre:(((xs.take i).flatMap AV.cells)).length=i * sz:=by
  rw[eA _ (fun z hz=>hs z (List.mem_of_mem_take hz)),aR];congr 1;omega
 have e2:xs.flatMap AV.cells=(xs.take i).flatMap AV.cells++xs[i].cells++(xs.drop (i+1)).flatMap AV.cells:=by
  have:=congrArg (List.flatMap AV.cells) e1;rw[this];simp only[List.flatMap_append,List.flatMap_cons,List.flatMap_nil,List.append_nil]
 have hxi:=hs xs[i] (List.getElem_mem hi);have:=Fx ((xs.take i).flatMap AV.cells) xs[i].cells ((xs.drop (i+1)).flatMap AV.cells) y.cells 0 (by omega);rw[List.set_eq_take_append_cons_drop,aF hi,List.flatMap_append,List.flatMap_cons,←bE];unfold gV;rw[e2,←hpre];simp only[List.take_zero,List.nil_append,Nat.add_zero,Nat.zero_add]at this;rw[List.drop_eq_nil_of_le (by omega),List.append_nil]at this;exact this
theorem rC {sz:Nat}:∀(ps:List (Nat×AV)) (xs:List AV),(∀x∈xs,x.cells.length=sz∧x.cells.all AV.one=true)→(∀p∈ps,p.1 < xs.length∧p.2.cells.length=sz∧p.2.cells.all AV.one=true) →
  (lW xs ps).flatMap AV.cells=pD (xs.flatMap AV.cells) (ps.map fun p=>(p.1 * sz,p.2.cells))∧(lW xs ps).length=xs.length∧∀x∈lW xs ps,x.cells.length=sz∧x.cells.all AV.one=true
 |[],xs,hs,_=>⟨rfl,rfl,hs⟩
 |(i,y) :: ps,xs,hs,hp=>by
  obtain⟨h1,h2,h3⟩:=hp (i,y) (by simp);have hs':∀x∈xs.set i y,x.cells.length=sz∧x.cells.all AV.one=true:=fun x hx=>by
   rcases List.mem_or_eq_of_mem_set hx with hx|rfl
   ·exact hs x hx
   ·exact⟨h2,h3⟩
  obtain⟨k1,k2,k3⟩:=rC ps (xs.set i y) hs' (fun p hp'=>by
   obtain⟨q1,q2⟩:=hp p (by simp[hp']);exact⟨by simpa using q1,q2⟩)
  unfold lW;refine⟨?_,by simpa using k2,k3⟩;rw[k1,BN (fun x hx=>(hs x hx).1) h1 h2];rfl
def nN:List (Nat×Operand)→Option (List (Nat×XA))
 |[]=>some []
 |(i,x) :: l=>match cA x,nN l with
  |some x',some r=>some ((i,x') :: r)
  |_,_=>none
theorem nH:∀{l:List (Nat×Operand)}{r:List (Nat×XA)},nN l=some r→l.length=r.length∧
  ∀(i:Nat) (q:Nat×Operand) (p:Nat×XA),l[i]?=some q→r[i]?=some p→q.1=p.1∧cA q.2=some p.2
 |[],r,h=>by cases h;exact⟨rfl,fun i q p h=>by simp at h⟩
 |(i,x) :: l,r,h=>by
  unfold nN at h
  split at h
  ·rename_i x' r' h2 h3;cases h;obtain⟨h4,h5⟩:=nH h3;refine⟨by simp[h4],fun j q p hq hp=>?_⟩;cases j with
   |zero=>simp at hq hp;subst hq hp;exact⟨rfl,h2⟩
   |succ j=>exact h5 j q p (by simpa using hq) (by simpa using hp)
  ·cases h
theorem mQ (n:Nat) (l:List AV) (x:AV) (hx:x.cells=l) (q:Nat) (hq:q < n * l.length):((List.replicate n x).flatMap AV.cells)[q]?=l[q % l.length]?:=by
 induction n generalizing q with
 |zero=>simp at hq
 |succ n ih=>
  rw[List.replicate_succ,List.flatMap_cons,hx];by_cases h:q < l.length
  ·rw[List.getElem?_append_left h,Nat.mod_eq_of_lt h]
  ·rw[List.getElem?_append_right (by omega),ih _ (by rw[Nat.succ_mul]at hq;omega)];rw[Nat.mod_eq_sub_mod (a:=q) (by omega)]
section
variable {P:bG}{o:Oper}
theorem PU {t e n:Nat}{parts:Array (Nat×Operand)}{it:TypeInfo}{z:Value}{zs:List AV}{ps:List (Nat×XA)}(ht:P.underlying t=some (.slice e)) (hi:P.info? e=some it) (hz:it.zero=some z) (hc:gH z.cells.toList=some zs) (hzs:zs.length=it.size) (hz0:it.size≠0)
  (hsm:n * it.size≤2 ^ 24) (hps:nN parts.toList=some ps) (ho:o.op=.buildSlice t n parts):∀(C:kN) (st:St) (a:Act) (w:World) (r:cF) (pub:cI) (keep:List Nat) (al:Option Nat) (K:St→Prop) (Q:Exit→Act→World→Prop),(∀n,o.dst=some n→n < C.n)→(∀k∈keep,(r k).isSome=true)→bM C st a w r pub →
  (ps.all (fun p=>(st.rd p.2).flat && (st.rd p.2).cells.length == it.size && decide (p.1 < n))=true∧
   st.new al (.hrow e it.size n (pD (vZ n zs) (ps.map fun p=>(p.1 * it.size,(st.rd p.2).cells)))) fun st' k=>K (st'.put o.dst (.hd k)))→Oper.wp P o a w (kG C keep true r pub w K) Q:=by
 intro C st a w r pub keep al K Q hd hk h hK;obtain⟨hall,hdd,hK⟩:=hK;have hdd:=eH hdd;obtain⟨hl,hg⟩:=nH hps;rw[aS]at hall;have hzl:=(fG (pub:=pub) (w:=w) (r:=r) hc).len;have hzsz:z.cells.size=it.size:=by simp at hzl;omega
 have hpart:∀p∈ps,(st.rd p.2).flat=true∧(st.rd p.2).cells.length=it.size∧p.1 < n:=fun p hp=>by
  have h3:=hall p hp;simp only[aO,beq_iff_eq,decide_eq_true_eq]at h3;exact⟨h3.1.1,h3.1.2,h3.2⟩
 have hrl:∀m,(vZ m zs).length=m * it.size:=fun m=>by
  induction m with
  |zero=>simp[vZ]
  |succ m ih=>rw[vZ,aM,ih,hzs,Nat.succ_mul,Nat.add_comm]
 have hrg:∀m q,q < m * it.size→(vZ m zs)[q]?=zs[q % it.size]?:=fun m=>by
  induction m with
  |zero=>intro q hq;simp at hq
  |succ m ih=>
   intro q hq;rw[vZ];by_cases hh:q < zs.length
   ·rw[List.getElem?_append_left hh,Nat.mod_eq_of_lt (by omega)]
   ·rw[List.getElem?_append_right (by omega),ih _ (by rw[Nat.succ_mul]at hq;omega),hzs,Nat.mod_eq_sub_mod (a:=q) (by omega)]
 have hbase:bO pub w r (vZ n zs) ((Array.range (n * it.size)).map (z.cells[· % z.cells.size]!)).toList:=by
  refine⟨by simp[hrl],fun q x u hx hu=>?_⟩;have hq:q < n * it.size:=by rw[←hrl];exact(aA.1 hx).1
  rw[hrg n q hq]at hx;obtain⟨y,hy,hvy⟩:=(fG (pub:=pub) (w:=w) (r:=r) hc).get hx;have hm:q % it.size < z.cells.size:=by rw[hzsz];exact Nat.mod_lt _ (by omega)
  simp only[Array.toList_map,Array.toList_range,aD]at hu;rw[List.getElem?_range hq]at hu;cases hu;rw[hzsz];dsimp only;rw[getElem!_pos z.cells (q % it.size) hm];have:z.cells.toList[q % it.size]?=some z.cells[q % it.size]:=by rw[aX];exact aK hm
  rw[this]at hy;cases hy;exact hvy
 have:=sC (pub:=pub) (w:=w) (r:=r) (fun i=>some (i * it.size,it.size)) (parts.toList.map fun p=>(p.1,a.eval p.2)) (ps.map fun p=>(p.1 * it.size,(st.rd p.2).cells)) _ _ hbase (by simpa using hl) (fun i q p hq hp'=>by
  rw[aD]at hq hp';cases hq1:parts.toList[i]? with
  |none=>rw[hq1]at hq;cases hq
  |some q1=>
   cases hp1:ps[i]? with
   |none=>rw[hp1]at hp';cases hp'
   |some p1=>
    rw[hq1]at hq;rw[hp1]at hp';cases hq;cases hp';obtain⟨h1,h2⟩:=hg i q1 p1 hq1 hp1;obtain⟨h3,h5,h6⟩:=hpart p1 (aC hp1);dsimp only;rw[h5,h1];refine⟨rfl,?_,((h.rd h2).cells_ h3).1⟩;rw[hrl];have:=Nat.mul_le_mul_right it.size (show p1.1+1≤n by omega);rw[Nat.succ_mul]at this;exact this)
 obtain⟨cells,hf,hv⟩:=this;have hfl:∀(l:List (Nat×List AV)) (zs:List AV),(∀p∈l,p.1+p.2.length≤zs.length)→(pD zs l).length=zs.length:=fun l=>by
  induction l with
  |nil=>intro zs _;rfl
  |cons p l ih=>
   intro zs hh;obtain⟨off,m⟩:=p;have h1:=hh (off,m) (by simp);dsimp only at h1;have h2:(gV zs m off).length=zs.length:=by simp[gV];omega
   rw[pD,ih _ (fun q hq=>by rw[h2];exact hh q (by simp[hq])),h2]
 have hcs:cells.size=n * it.size:=by
  have:=hv.len;rw[hfl _ _ (fun p hp=>by
   obtain⟨q,hq,rfl⟩:=aW.1 hp;obtain⟨_,h5,h6⟩:=hpart q hq;dsimp only;rw[hrl,h5];have:=Nat.mul_le_mul_right it.size (show q.1+1≤n by omega);rw[Nat.succ_mul]at this;exact this),hrl]at this
  simpa using this
 have hown:fP (w.alloc (.cells cells e)) e it.size (some ⟨w.heap.size,0,none⟩) n n cells.toList:=fP.of_blk (gF.new w e cells) (aN _) (by have:n≤n * it.size:=Nat.le_mul_of_pos_right n (by omega);unfold maxLen;omega) hcs (bB (by simp;omega));have hb:=(h.grow_ al).alloc (q:=st.spot al) hdd (.cells cells e) (.slice (some ⟨w.heap.size,0,none⟩) n n) (.hrow e it.size n (pD (vZ n zs) (ps.map fun p=>(p.1 * it.size,(st.rd p.2).cells)))) (by simp[bY])
  (.hrow hown ⟨hv.len,fun i x u hx hu=>((hv.at_ i x u hx hu).ext (Fr.alloc_ (fun _=>False) pub w _).ext).mono (jG ((h.grow_ al).mod.dead_none hdd))⟩ (fun b hb=>by simp at hb;subst hb;exact h.mod.fresh _ (aN _)))
 rw[iG]at hb;refine cH (v:=.slice (some ⟨w.heap.size,0,none⟩) n n) hd ?_ hb (.hd (bW _ _ _) rfl) hK (Fr.alloc_ (fun _=>False) pub w _).ext (dP (h.grow_ al) hdd hk _ _) (fun _=>rfl)
 ·have hbig:¬(2 ^ 24 < n * it.size):=by omega
  unfold execOp;simp only[ho,Instr.buildSlice,Sem.run_bind,run_underlying ht,Result.andThen_ok];by_cases h0:n * it.size=0
  ·have hn0:n=0:=by
    rcases Nat.mul_eq_zero.1 h0 with h1|h1
    ·exact h1
    ·exact absurd h1 hz0
   have hps0:parts=#[]:=by
    have:ps=[]:=List.eq_nil_iff_forall_not_mem.2 fun p hp=>by
     have:=(hpart p hp).2.2;omega
    rw[this]at hl;have:parts.toList=[]:=aQ (by simpa using hl);simpa using this
   subst hps0;have hc0:cells=#[]:=by
    have:cells.size=0:=by omega
    simpa using this
   subst hc0;have ha:Array.range 0=#[]:=rfl;simp[sizeOf,typeInfo,hi,Sem.run_bind,h0,Instr.fill,newRow,ha]
  ·simp[sizeOf,typeInfo,zeroValue,hi,hz,Sem.run_bind,hbig,h0,hf,newRow]
theorem Rm {t e n:Nat}{parts:Array (Nat×Operand)}{it:TypeInfo}{z:Value}{zs:List AV}{ps:List (Nat×XA)}(ht:P.underlying t=some (.slice e)) (hi:P.info? e=some it) (hz:it.zero=some z) (hc:gH z.cells.toList=some zs) (hzs:zs.length=it.size) (hz0:it.size≠0)
  (hsm:n * it.size≤2 ^ 24) (hps:nN parts.toList=some ps) (ho:o.op=.buildSlice t n parts):pR P o (.bsl e it.size n zs ps):=by
 intro C st a w r pub keep al K Q hd hk h hK;simp only[dB]at hK;unfold sW at hK
 split at hK
 rotate_left
 ·exact PU ht hi hz hc hzs hz0 hsm hps ho C st a w r pub keep al K Q hd hk h hK
 obtain⟨hall,hdd,hK⟩:=hK;have hdd:=eH hdd;obtain⟨hl,hg⟩:=nH hps;rw[aS]at hall;have hz1:=(oM hc).1;have hzl:=(fG (pub:=pub) (w:=w) (r:=cM) hc).len;have hzsz:z.cells.size=it.size:=by simp at hzl;omega
 have hrep:∀x∈List.replicate n (cO it.size zs),x.cells.length=it.size∧x.cells.all AV.one=true:=fun x hx=>by
  obtain⟨_,rfl⟩:=List.mem_replicate.1 hx;rw[eM hzs hz1];exact⟨hzs,hz1⟩
 have hpart:∀p∈ps,(st.rd p.2).flat=true∧AV.bndL 0 (st.rd p.2).cells=true∧(st.rd p.2).cells.length=it.size∧p.1 < n:=fun p hp=>by
  have h3:=hall p hp;simp only[aO,beq_iff_eq,decide_eq_true_eq]at h3;exact⟨h3.1.1.1,h3.1.1.2,h3.1.2,h3.2⟩
 have hone:∀x:AV,x.flat=true→x.cells.all AV.one=true:=fun x hx=>by
  cases x with
  |agg l=>exact hx
  |_=>first|(simp[AV.flat,AV.one]at hx;done)|rfl
 obtain⟨k1,k2,k3⟩:=rC (sz:=it.size) (ps.map fun p=>(p.1,cO it.size (st.rd p.2).cells)) _ hrep (fun p hp=>by
  obtain⟨q,hq,rfl⟩:=aW.1 hp;obtain⟨h1,_,h3,h4⟩:=hpart q hq;dsimp only;rw[eM h3 (hone _ h1)];exact⟨by simpa using h4,h3,hone _ h1⟩)
 -- the zero cells
 have hbase:bO pub w cM ((List.replicate n (cO it.size zs)).flatMap AV.cells) ((Array.range (n * it.size)).map (z.cells[· % z.cells.size]!)).toList:=by
  have hlen:((List.replicate n (cO it.size zs)).flatMap AV.cells).length=n * it.size:=by rw[eA _ (fun z hz=>(hrep z hz).1),List.length_replicate]
  refine⟨by simp[hlen],fun q x u hx hu=>?_⟩;have hq:q < n * it.size:=by rw[←hlen];exact(aA.1 hx).1
  rw[mQ n zs _ (eM hzs hz1) q (by rw[hzs];exact hq)]at hx;have hzq:=fG (pub:=pub) (w:=w) (r:=cM) hc;obtain⟨y,hy,hvy⟩:=hzq.get hx;have hm:q % it.size < z.cells.size:=by rw[hzsz];exact Nat.mod_lt _ (by omega)
  simp only[Array.toList_map,Array.toList_range,aD]at hu;rw[List.getElem?_range hq]at hu;cases hu;rw[hzs]at hy;rw[hzsz];dsimp only;rw[getElem!_pos z.cells (q % it.size) hm];have:z.cells.toList[q % it.size]?=some z.cells[q % it.size]:=by rw[aX];exact aK hm
  rw[this]at hy;cases hy;exact hvy
 have:=sC (pub:=pub) (w:=w) (r:=cM) (fun i=>some (i * it.size,it.size)) (parts.toList.map fun p=>(p.1,a.eval p.2)) ((ps.map fun p=>(p.1,cO it.size (st.rd p.2).cells)).map fun p=>(p.1 * it.size,p.2.cells)) _ _ hbase (by simpa using hl) (fun i q p hq hp'=>by
  rw[aD]at hq;rw[List.map_map,aD]at hp';cases hq1:parts.toList[i]? with
  |none=>rw[hq1]at hq;cases hq
  |some q1=>
   cases hp1:ps[i]? with
   |none=>rw[hp1]at hp';cases hp'
   |some p1=>
    rw[hq1]at hq;rw[hp1]at hp';cases hq;cases hp';obtain⟨h1,h2⟩:=hg i q1 p1 hq1 hp1;obtain⟨h3,h4,h5,h6⟩:=hpart p1 (aC hp1);dsimp only[Function.comp];rw[eM h5 (hone _ h3),h5,h1];refine⟨rfl,?_,?_⟩
    ·rw[eA _ (fun z hz=>(hrep z hz).1),List.length_replicate];have:=Nat.mul_le_mul_right it.size (show p1.1+1≤n by omega);rw[Nat.succ_mul]at this;exact this
    ·exact((h.rd h2).cells_ h3).1.congr (fun n hn=>by
      have:=AV.bndL_has _ h4 hn;omega))
 obtain⟨cells,hf,hv⟩:=this;rw[←k1]at hv;rw[List.length_replicate]at k2;have hcs:cells.size=n * it.size:=by
  have:=hv.len;rw[eA _ (fun z hz=>(k3 z hz).1),k2]at this;simpa using this
 have hb:=(h.grow_ al).newrow hdd e it.size n n _ cells k2 (aN _) (by have:n≤n * it.size:=Nat.le_mul_of_pos_right n (by omega);unfold maxLen;omega) hcs (by rw[bB (by simp;omega)];exact hv) k3;rw[iG]at hb;refine cH (v:=.slice (some ⟨w.heap.size,0,none⟩) n n) hd ?_ hb (.hd (bW _ _ _) rfl) hK (Fr.alloc_ (fun _=>False) pub w _).ext (dP (h.grow_ al) hdd hk _ _) (fun _=>rfl)
 ·have hbig:¬(2 ^ 24 < n * it.size):=by omega
  unfold execOp;simp only[ho,Instr.buildSlice,Sem.run_bind,run_underlying ht,Result.andThen_ok];by_cases h0:n * it.size=0
  ·have hn0:n=0:=by
    rcases Nat.mul_eq_zero.1 h0 with h1|h1
    ·exact h1
    ·exact absurd h1 hz0
   have hps0:parts=#[]:=by
    have:ps=[]:=List.eq_nil_iff_forall_not_mem.2 fun p hp=>by
     have:=(hpart p hp).2.2.2;omega
    rw[this]at hl;have:parts.toList=[]:=aQ (by simpa using hl);simpa using this
   subst hps0;have hc0:cells=#[]:=by
    have:cells.size=0:=by omega
    simpa using this
   subst hc0;have ha:Array.range 0=#[]:=rfl;simp[sizeOf,typeInfo,hi,Sem.run_bind,h0,Instr.fill,newRow,ha]
  ·simp[sizeOf,typeInfo,zeroValue,hi,hz,Sem.run_bind,hbig,h0,hf,newRow]
theorem Ey {pub:cI}{w:World}{r:cF}{v:Value}(h:bS pub w r (.v (.slice none 0 0)) v):v=.slice none 0 0:=by cases h;rfl
def zX (st:St) (sz:Nat) (y:AV) (ys:List AV):Prop:=y=.sl sz ys∨(∃k2 t,y=.hd k2∧st.H[k2]?=some (.row t sz ys))∨(y=.v (.slice none 0 0)∧ys=[])
theorem zX.cells {C:kN}{st:St}{a:Act}{w:World}{r:cF}{pub:cI}(h:bM C st a w r pub) {sz:Nat}{y:AV}{ys:List AV}{v:Value}(hs:zX st sz y ys) (hv:bS pub w r y v) :
  ∃A c us,v=.slice A ys.length c∧(A=none→ys=[])∧tP w sz A ys.length us∧bO pub w cM (ys.flatMap AV.cells) us∧∀x∈ys,x.cells.length=sz∧x.cells.all AV.one=true:=by
 rcases hs with rfl|⟨k2,t,rfl,hk2⟩|⟨rfl,rfl⟩
 ·obtain⟨A,c,us,rfl,_,_,hn,hs,hc,hv,_⟩:=hv.sl_cells;exact⟨A,c,us,rfl,fun hA=>(hn hA).1,hc,hv,hs⟩
 ·obtain⟨A,c,us,hr,ho,hc,hs,_⟩:=h.ent_row hk2;cases hv with
  |hd hr2 _=>
   rw[hr]at hr2;cases hr2;refine⟨A,c,us,rfl,fun hA=>?_,ho.cells_,hc,hs⟩;rcases ho.cases_ with ⟨_,h2,_⟩|⟨g,cur,h0,_⟩
   ·exact aQ h2
   ·rw[hA]at h0;cases h0
 ·rw[Ey hv];exact⟨none,0,[],rfl,fun _=>rfl,⟨by simp,fun _=>rfl,fun j u hu=>by simp at hu⟩,.nil,by simp⟩
theorem Bh {C:kN}{st:St}{a:Act}{w w':World}{r r':cF}{pub pub':cI}{keep:List Nat}(h:bM C st a w r pub) {k:Nat}{x:Value}(hx:r k=some x) (hkk:keep.contains k=false) (_hk:∀k∈keep,(r k).isSome=true) (hf:Fr (fun b=>b∈bY x) pub w pub' w')
  (hr:∀j,j≠k→r' j=r j):eG keep r w r' w':=fun n hn=>by
 have hne:n≠k:=by
  rintro rfl;rw[List.contains_eq_mem]at hkk;simp at hkk;exact hkk hn
 exact⟨hr n hne,fun y hy b hb=>(hf.keep b (h.mod.foot_lt hy b hb) (fun hb'=>h.mod.disj k n x y (Ne.symm hne) hx hy b hb' hb)).1⟩
theorem QP {t sz n:Nat}{zs:List AV}{ps:List (Nat×XA)}(h0:pR P o (.bsl t sz n zs ps)):pR P o (.bsp t sz n zs ps):=by
 intro C st a w r pub keep al K Q hdst hk h hK;simp only[dB]at hK;obtain⟨hall,hdd,hK⟩:=hK;obtain⟨xs,hxs⟩:∃xs,xs=lW (List.replicate n (cO sz zs)) (ps.map fun p=>(p.1,cO sz (st.rd p.2).cells)):=⟨_,rfl⟩
 rw[←hxs]at hK;have hb0:(ps.all fun p=>AV.bndL 0 (st.rd p.2).cells)=true:=by
  rw[aS]at hall⊢;intro p hp;have:=hall p hp;simp only[aO]at this;exact this.1.1.2
 obtain⟨k,hk0⟩:∃k,k=st.spot al:=⟨_,rfl⟩
 obtain⟨H1,hH1⟩:∃H1,H1=(st.grow al).H:=⟨_,rfl⟩
 rw[←hk0,←hH1]at hK hdd;have hkl:k < H1.length:=by
  have:=eH hdd;exact(aA.1 this).1
 refine Oper.wp_mono (fun a' w' hp=>?_) (h0 C st a w r pub keep al (fun st2=>st2=St.put ⟨st.T,H1.set k (.row t sz xs)⟩ o.dst (.hd k)) Q hdst hk h ?_)
 ·obtain⟨st',r',pub',rfl,hh,he,hkp,_⟩:=hp;have hput:∀(st:St) (d:Option Nat) (x:AV),(st.put d x).H=st.H:=fun st d x=>by cases d<;>rfl
  have hk2:(St.put ⟨st.T,H1.set k (.row t sz xs)⟩ o.dst (.hd k)).H[k]?=some (.row t sz xs):=by rw[hput];exact aP hkl
  obtain⟨pub2,h2,he2⟩:=hh.publish hk2;have hset:(St.put ⟨st.T,H1.set k (.row t sz xs)⟩ o.dst (.hd k)).H.set k (.tip t sz xs)=H1.set k (.tip t sz xs):=by rw[hput];exact List.set_set ..
  rw[hset]at h2;refine⟨_,r',pub2,hK,?_,he.trans he2,hkp,fun h=>by cases h⟩;have hv:∀v,bS pub2 w' r' (.hd k) v→bS pub2 w' r' (.sl sz xs) v:=fun v hx=>by
   have:=h2.view1 hx;simp only[St.view1,aP hkl]at this;exact this
  refine⟨by rw[hput];exact h2.mod,h2.own,h2.fr,fun m=>?_,h2.defers,h2.size,h2.stab,by rw[hput];exact h2.low⟩;have hs:=h2.slots m;cases hd:o.dst with
  |none=>rw[hd]at hs;exact hs
  |some d=>
   rw[hd]at hs;simp only[St.put]at hs⊢;rw[vQ]at hs⊢
   split
   ·rename_i e;rw[aF e]at hs;exact hv _ hs
   ·rename_i e;rw[aE e]at hs;exact hs
 ·simp only[dB];rw[hb0];refine⟨hall,?_⟩;unfold St.new;rw[←hk0,←hH1,←hxs];refine⟨hdd,?_⟩;have:(st.grow al).T=st.T:=by cases al<;>rfl
  first|rfl|(rw[←this])
theorem QS {x q:Operand}{x' q':XA}{t e:TypeId}{i:TypeInfo}(hd:P.underlying t=some (.slice e)) (hi0:P.info? e=some i) (h0:i.size≠0) (ho:o.op=.slice t x (some q) none none) (hx:cA x=some x') (hq:cA q=some q'):pR P o (.slt i.size x' q'):=by
 intro C st a w r pub keep al K Q hdst hk h hK;have base:dB P keep al o.dst st K (.sli i.size x' (some q') none)→Oper.wp P o a w (kG C keep (fT.quiet (.slt i.size x' q')) r pub w K) Q:=fun hK'=>
  Cc (BH hd hi0 h0 ho hx (lo':=some q') (hi':=none) (by simp[hq]) rfl rfl rfl) C st a w r pub keep al K Q hdst hk h hK'
 have h1:=h.ev hx;have h2:=h.ev hq;simp only[dB]at hK;generalize hcv:st.ev x'=cv at hK h1;generalize hv:a.eval x=v at h1;cases h1 with
 |@hd _ k _ hr hone=>
  cases hkq:st.H[k]? with
  |none=>simp only[hkq]at hK
  |some en=>
   simp only[hkq]at hK;cases en with
   |tip t2 sz2 xs=>
    obtain⟨rfl,hK⟩:=hK;unfold rY at hK;dsimp only at hK;generalize hcq:st.ev q'=cq at hK h2;generalize hvq:a.eval q=vq at h2;cases h2 with
    |int kq n=>
     rcases hK.out with h4|⟨b0,b1,h4⟩
     ·refine base ?_;simp only[dB,St.rd,hcv,St.view,St.view1,hkq,rY,hcq];exact⟨trivial,h4⟩
     ·obtain⟨hkk,h4⟩:=h4 _ rfl;simp only[Option.getD]at b0 b1 h4;obtain⟨A,c,hr2,hle,hh⟩:=h.tail hkq (n:=n.toNat) (by omega);have hb:=fun w'=>oH (P:=P) (isSlice:=true) (cap:=c) (lo:=some q) (hi:=none) (l:=n) (hh:=xs.length) (.inr ⟨q,kq,rfl,hvq⟩) (.inl ⟨rfl,rfl⟩) b0 b1 (Int.le_refl _) hle w'
      rw[hr2]at hr;cases hr;simp only[Option.map_some,hvq,Option.map_none,Int.toNat_natCast]at hb;refine cH hdst ?_ hh (.hd (bW _ _ _) rfl) h4 (lV.refl _ _) (Bh h hr2 hkk hk (Fr.refl _ _ _) fun j hj=>cG _ _ hj) (fun _=>rfl);unfold execOp;simp[ho,hv,hvq,Instr.sliceAt,Instr.slice,Sem.run_bind,run_underlying hd,hb,sizeOf,typeInfo,hi0]
    |_=>exact hK.elim
   |_=>exact hK.elim
 |sl _ _ _ _ _ _ _=>
  refine base ?_;simp only[dB,St.rd,hcv,St.view,St.view1,rY];unfold rY at hK;exact hK
 |_=>exact hK.elim
theorem pJ {C:kN}{st:St}{a:Act}{w:World}{r:cF}{pub:cI}{keep:List Nat}{K:St→Prop}{Q:Exit→Act→World→Prop}{t e:Nat}{it:TypeInfo}{z:Value}{x y:Operand}(ht:P.underlying t=some (.slice e)) (hi:P.info? e=some it) (hz:it.zero=some z) (hzs:z.cells.size=it.size)
  (ho:o.op=.call ⟨.builtin .append,#[x,y],#[t,t]⟩) (hd:∀n,o.dst=some n→n < C.n) (hk:∀k∈keep,(r k).isSome=true) (h:bM C st a w r pub) {k:Nat}(hx:bS pub w r (.hd k) (a.eval x)) {ay:AV}(hy:bS pub w r ay (a.eval y)) (tip:Bool) {xs ys:List AV}
  (hkk:keep.contains k=false) (hent:st.H[k]?=some (if tip then .tip e it.size xs else .row e it.size xs)) (hs:zX st it.size ay ys) (h63:xs.length+ys.length≤maxLen) (hbytes:(xs.length+ys.length) * it.bytes≤140737488355328)
  (hK:K (St.put ⟨Ws k (if tip then .sl it.size xs else .any) st.T,(st.H.map (cC.kill k (if tip then .sl it.size xs else .any))).set k (if tip then .tip e it.size (xs++ys) else .row e it.size (xs++ys))⟩ o.dst (.hd k))) :
  Oper.wp P o a w (kG C keep false r pub w K) Q:=by
 obtain⟨A,c,us,hv,hA,hc,hvs,hys⟩:=hs.cells h hy;obtain⟨v,v',w',r',pub',hr,hrun,hr',hone,hro,hf,hh⟩:=h.append (P:=P) (c':=c) t o.type e it z it.size it.bytes ht hi hz rfl rfl hzs tip hent hc hA hvs hys h63 hbytes;have hxv:a.eval x=v:=by
  generalize a.eval x=q at hx;cases hx with
  |hd h1 _=>rw[hr]at h1;cases h1;rfl
 refine cH hd (v:=v') ?_ hh (.hd hr' hone) hK hf.ext (Bh h hr hkk hk hf hro) (fun h=>by cases h);unfold execOp;simp[ho,resolve,hxv,hv,invoke,builtin,hrun]
theorem QE {t e:Nat}{it:TypeInfo}{z:Value}{x y:Operand}{x' y':XA}(ht:P.underlying t=some (.slice e)) (hi:P.info? e=some it) (hz:it.zero=some z) (hzs:z.cells.size=it.size) (hz0:it.size≠0)
  (ho:o.op=.call ⟨.builtin .append,#[x,y],#[t,t]⟩) (hx:cA x=some x') (hy:cA y=some y'):pR P o (.app t o.type e it.size it.bytes x' y'):=by
 intro C st a w r pub keep al K Q hd hk h hK;have h1:=h.ev hx;have h2:=h.rd hy;simp only[dB]at hK;generalize hcv:st.ev x'=cv at hK h1;generalize hcu:st.rd y'=cu at hK h2;have h1':=h1;generalize hv:a.eval x=v at h1;cases h1 with
 |@hd _ k _ hr hone=>
  obtain⟨hkk,hK⟩:=hK;have h1'':bS pub w r (.hd k) (a.eval x):=h1'
  -- an append of nothing
  have hnil:∀(xs:List AV) (tip:Bool),st.H[k]?=some (if tip then .tip e it.size xs else .row e it.size xs)→cu=.v (.slice none 0 0)→K (st.put o.dst (.hd k))→Oper.wp P o a w (kG C keep false r pub w K) Q:=fun xs tip hent hc hK1=>by
   clear hK;subst hc;have hu:=Ey h2;have hb:∃A c,v=.slice A xs.length c∧xs.length≤c:=by
    cases tip with
    |true=>
     obtain⟨A,d,c,x,us,hr2,ho2,_⟩:=h.ent_tip (by simpa using hent);rw[hr2]at hr;cases hr;exact⟨A,c,rfl,ho2.caps.1⟩
    |false=>
     obtain⟨A,c,us,hr2,ho2,_⟩:=h.ent_row (by simpa using hent);rw[hr2]at hr;cases hr;exact⟨A,c,rfl,ho2.rd.cap⟩
   obtain⟨A,c,rfl,hle⟩:=hb;refine cH (v:=.slice A xs.length c) hd ?_ h (.hd hr hone) hK1 (lV.refl _ _) (eG.refl _ _ _) (fun h=>by cases h);unfold execOp;cases A<;>simp[ho,resolve,hv,hu,invoke,builtin,Sem.run_bind,Builtin.append_,run_underlying ht,sizeOf,typeInfo,hi,Builtin.lenOf,Builtin.firstCells,hle,storeCells]
  cases hkq:st.H[k]? with
  |none=>rw[hkq]at hK;exact hK.elim
  |some en=>
   rw[hkq]at hK;cases en with
   |row e' sz' xs=>
    obtain⟨rfl,rfl,hK⟩:=hK;cases cu with
    |sl sz2 ys=>
     obtain⟨rfl,⟨⟨b1,b2⟩,hK⟩⟩:=hK;exact pJ ht hi hz hzs ho hd hk h h1'' h2 false hkk (by simpa using hkq) (.inl rfl) b1 b2 (hK _ rfl)
    |hd k2=>
     try dsimp only at hK
     cases hk2:st.H[k2]? with
     |none=>rw[hk2]at hK;exact hK.elim
     |some en2=>
      rw[hk2]at hK;cases en2 with
      |row t2 sz2 ys=>
       obtain⟨rfl,⟨⟨b1,b2⟩,hK⟩⟩:=hK;exact pJ ht hi hz hzs ho hd hk h h1'' h2 false hkk (by simpa using hkq) (.inr (.inl ⟨k2,t2,rfl,hk2⟩)) b1 b2 (hK _ rfl)
      |_=>exact hK.elim
    |v q=>
     cases q with
     |slice A n c=>
      cases A with
      |none=>
       cases n with
       |zero=>
        cases c with
        |zero=>exact hnil xs false (by simpa using hkq) rfl hK
        |succ _=>exact hK.elim
       |succ _=>exact hK.elim
      |some _=>exact hK.elim
     |_=>exact hK.elim
    |_=>exact hK.elim
   |tip e' sz' xs=>
    obtain⟨rfl,rfl,hK⟩:=hK;cases cu with
    |sl sz2 ys=>
     obtain⟨rfl,⟨⟨b1,b2⟩,hK⟩⟩:=hK;exact pJ ht hi hz hzs ho hd hk h h1'' h2 true hkk (by simpa using hkq) (.inl rfl) b1 b2 (hK _ rfl)
    |hd k2=>
     try dsimp only at hK
     cases hk2:st.H[k2]? with
     |none=>rw[hk2]at hK;exact hK.elim
     |some en2=>
      rw[hk2]at hK;cases en2 with
      |row t2 sz2 ys=>
       obtain⟨rfl,⟨⟨b1,b2⟩,hK⟩⟩:=hK;exact pJ ht hi hz hzs ho hd hk h h1'' h2 true hkk (by simpa using hkq) (.inr (.inl ⟨k2,t2,rfl,hk2⟩)) b1 b2 (hK _ rfl)
      |_=>exact hK.elim
    |v q=>
     cases q with
     |slice A n c=>
      cases A with
      |none=>
       cases n with
       |zero=>
        cases c with
        |zero=>exact hnil xs true (by simpa using hkq) rfl hK
        |succ _=>exact hK.elim
       |succ _=>exact hK.elim
      |some _=>exact hK.elim
     |_=>exact hK.elim
    |_=>exact hK.elim
   |_=>exact hK.elim
 |v hone=>
  cases v with
  |slice A0 n0 c0=>
   cases A0 with
   |some _=>exact hK.elim
   |none=>
    cases n0 with
    |succ _=>exact hK.elim
    |zero=>
     cases c0 with
     |succ _=>exact hK.elim
     |zero=>
      have main:∀ys,zX st it.size cu ys→ys.length≤maxLen→ys.length * it.bytes≤140737488355328→(st.new al (.row e it.size ys) fun st' k=>K (st'.put o.dst (.hd k)))→Oper.wp P o a w (kG C keep false r pub w K) Q:=fun ys hs b1 b2 hK=>by
       obtain⟨hdd,hK⟩:=hK;have hdd:=eH hdd;obtain⟨A,c,us,hu,hA,hc,hvs,hys⟩:=hs.cells h h2;have h11:∀u∈us,u.oneCell'=true:=fun u hu'=>by
        obtain⟨q,hq⟩:=aU hu';have hql:q < (ys.flatMap AV.cells).length:=by rw[←hvs.len];exact(aA.1 hq).1
        refine(hvs.at_ q _ u (aB hql) hq).one_ ?_;obtain⟨y,hy,hm⟩:=List.mem_flatMap.1 (List.getElem_mem hql);exact(aS.1 (hys y hy).2) _ hm
       obtain⟨A2,d2,c2,w',hrun,ho2,hcase⟩:=BJ (P:=P) (w:=w) (c':=c) t o.type e it z it.size it.bytes ht hi hz rfl rfl hzs (x:=true) (n:=0) (fP.offs (fP.nil w e it.size)) hc (fun hA'=>by rw[hA hA'];rfl) h11 (by omega) (by rw[Nat.zero_add];exact b2);rw[Nat.zero_add]at hrun ho2;rw[List.nil_append]at ho2;have ho2:=ho2.own.1;have hex:(execOp a.eval o).run P w=.ok (.value (.slice A2 ys.length c2)) w':=by
        unfold execOp;simp[ho,resolve,hv,hu,invoke,builtin,hrun]
       rcases hcase with ⟨rfl,_,_,hw0,hn0⟩|⟨g,cur,h0,_⟩|⟨rfl,_,arr,rfl⟩
       ·have hy0:ys=[]:=by
         have h4:ys.length * it.size=0:=by have:=hc.len;rw[hn0]at this;simpa using this.symm
         rcases Nat.mul_eq_zero.1 h4 with h3|h3
         ·exact aQ h3
         ·exact absurd h3 hz0
        clear hc hvs;subst hy0;rw[hw0]at hex;have hz2:c2=0:=by
         rcases ho2.cases_ with ⟨_,_,h3,_⟩|⟨g,cur,h3,_⟩
         ·exact h3
         ·cases h3
        subst hz2;have hkp:eG keep r w (eN r (st.spot al) (.slice none 0 0)) w:=fun k hkk=>by
         refine⟨cG _ _ ?_,fun _ _ _ _=>rfl⟩;rintro rfl;have:=hk _ hkk;rw[(h.grow_ al).mod.dead_none hdd]at this;cases this
        have hb:=(h.grow_ al).adopt hdd e it.size;rw[iG]at hb;exact cH hd hex hb (.hd (bW _ _ _) rfl) hK (lV.refl _ _) hkp (fun h=>by cases h)
       ·cases h0
       ·rcases ho2.cases_ with ⟨h3,_⟩|⟨g,cur,h3,hb,r1,r2,r3,r4⟩
        ·cases h3
        ·simp only[bD,Addr.mk.injEq,and_true]at h3;subst h3;have hcur:cur=arr:=by
          have:=heap_alloc_new w.drew (.cells arr e);have e1:w.drew.heap.size=w.heap.size:=rfl;rw[e1]at this;rw[gF,this]at hb;simp only[bD,Obj.cells.injEq]at hb;exact hb.1.symm
         subst hcur;have hd2:bM C (st.grow al) a w.drew r pub:=(h.grow_ al).draws;have hb2:=hd2.newrow hdd e it.size ys.length c2 ys cur rfl r1 r2 r3 (by rw[r4];exact hvs.ext (pub':=pub) (w:=w) (w':=w.drew) ⟨fun _=>aN _,fun _ _ _ _ h=>h,fun _ _ _ h=>h⟩) hys;rw[iG]at hb2;refine cH hd hex hb2 (.hd (bW _ _ _) rfl) hK ?_ ?_ (fun h=>by cases h)
         ·exact lV.trans (b:=w.drew) ⟨fun _=>aN _,fun _ _ _ _ h=>h,fun _ _ _ h=>h⟩ (Fr.alloc_ (fun _=>False) pub w.drew _).ext
         ·exact dP (w:=w.drew) hd2 hdd hk _ _
      cases cu with
      |sl sz2 ys=>
       obtain⟨rfl,⟨⟨b1,b2⟩,hK⟩⟩:=hK;exact main ys (.inl rfl) b1 b2 hK
      |hd k2=>
       try dsimp only at hK
       cases hk2:st.H[k2]? with
       |none=>rw[hk2]at hK;exact hK.elim
       |some en2=>
        rw[hk2]at hK;cases en2 with
        |row t2 sz2 ys=>
         obtain⟨rfl,⟨⟨b1,b2⟩,hK⟩⟩:=hK;exact main ys (.inr (.inl ⟨k2,t2,rfl,hk2⟩)) b1 b2 hK
        |_=>exact hK.elim
      |_=>exact hK.elim
  |_=>exact hK.elim
 |_=>exact hK.elim
theorem lI {f:Nat}(h:nA P f=true) (args:Array Value) (w:World):(callFunc f args).run P w=.ok (.enter f args) w:=by
 unfold nA at h;cases hf:P.funcs[f]? with
 |none=>rw[hf]at h;cases h
 |some fn=>
  rw[hf]at h;simp only[aO,bne_iff_ne,ne_eq]at h;obtain⟨h1,h2⟩:=h;unfold callFunc;have h3:fn.body≠none:=by intro e;rw[e]at h2;cases h2
  simp[Sem.run_bind,hf,h1,h3]
theorem vM {C:kN}{st:St}{a:Act}{w:World}{r:cF}{pub:cI}{keep:List Nat}{K:St→Prop}{Q:Exit→Act→World→Prop}{f:Nat}{vals:Array Value}{args:List AV}(hd:∀n,o.dst=some n→n < C.n) (h:bM C st a w r pub)
  (hrun:(execOp a.eval o).run P w=.ok (.enter f vals) w) (hv:bO pub w r args vals.toList) (hK:fZ P keep f args st fun x st'=>K (st'.put o.dst x)):Oper.wp P o a w (kG C keep false r pub w K) Q:=by
 unfold Oper.wp;rw[hrun];refine(hK.out C a w r pub vals h hv).mono fun e w' hp=>?_
 obtain⟨v,x,st',r',pub',rfl,hx,hk,hh,he,hkp⟩:=hp;exact⟨_,r',pub',hk,hh.put hd hx,he,hkp,fun h=>by cases h⟩
theorem O7 {f:Nat}{args:Array Operand}{ats:Array TypeId}{args':List XA}(hf:nA P f=true) (ho:o.op=.call ⟨.value (.func f),args,ats⟩) (ha:Hk args.toList=some args'):pR P o (.call f args'):=by
 intro C st a w r pub keep al K Q hd hk h hK;simp only[dB]at hK;refine vM (vals:=args.map a.eval) hd h ?_ (by rw[Array.toList_map];exact h.rds ha) hK;unfold execOp;simp[ho,resolve,Deferred.ofValue,Act.eval,invoke,lI hf]
theorem QK {x:Operand}{x':XA}{args:Array Operand}{ats:Array TypeId}{args':List XA}(ho:o.op=.call ⟨.value x,args,ats⟩) (hx:cA x=some x') (ha:Hk args.toList=some args'):pR P o (.cav x' args'):=by
 intro C st a w r pub keep al K Q hd hk h hK;simp only[dB]at hK;have h1:=h.ev hx;generalize hcv:st.ev x'=cv at hK h1;generalize hv:a.eval x=v at h1;cases h1 with
 |clo f hl hc=>
  obtain⟨⟨hf⟩,hK⟩:=hK;rename_i l arr;refine vM (vals:=args.map a.eval++arr) hd h ?_ ?_ hK
  ·unfold execOp;simp[ho,resolve,Deferred.ofValue,hv,invoke,lI hf]
  ·rw[Array.toList_append,Array.toList_map];exact(h.rds ha).app ⟨by simpa using hl,fun i x u hx hu=>hc i x u hx (by simpa using hu)⟩
 |mth f hl hc=>
  obtain⟨⟨hf⟩,hK⟩:=hK;rename_i l arr;refine vM (vals:=arr++args.map a.eval) hd h ?_ ?_ hK
  ·unfold execOp;simp[ho,resolve,Deferred.ofValue,hv,invoke,lI hf]
  ·rw[Array.toList_append,Array.toList_map];exact bO.app ⟨by simpa using hl,fun i x u hx hu=>hc i x u hx (by simpa using hu)⟩ (h.rds ha)
 |_=>exact hK.elim
end
end Go.Proofs.YtooioahiijbomaaGreatDoor
namespace Go.Proofs.YtooioahiijbomaaGreatDoor
open Go.RowKit Go.MapKept
section
variable {P:bG}{o:Oper}
theorem Bl {x y:Operand}{x' y':XA}{ts:Array TypeId}(mx:Bool) (ho:o.op=.call ⟨.builtin (if mx then .max else .min),#[x,y],ts⟩) (hx:cA x=some x') (hy:cA y=some y'):dM P o (.mnx mx x' y'):=by
 intro C st a w r pub keep al K h hK;have h1:=h.ev hx;have h2:=h.ev hy;simp only[dB]at hK;generalize hcv:st.ev x'=cv at hK h1;generalize hcu:st.ev y'=cu at hK h2;generalize hv:a.eval x=v at h1;generalize hu:a.eval y=u at h2;cases h1 with
 |int k m=>
  cases h2 with
  |int k2 n=>
   obtain⟨rfl,hK⟩:=hK;cases mx with
   |true=>
    refine⟨_,_,.int k2 _,hK.rest _ rfl,fun w' _=>?_⟩;unfold execOp;simp only[if_true]at ho;simp[ho,resolve,hv,hu,invoke,builtin,Builtin.max_,Builtin.max2];by_cases hh:m < n
    ·rw[aF hh,Int.max_eq_right (by omega)]
    ·rw[aE hh,Int.max_eq_left (by omega)]
   |false=>
    refine⟨_,_,.int k2 _,hK.rest _ rfl,fun w' _=>?_⟩;unfold execOp;simp only[aY,if_false]at ho;simp[ho,resolve,hv,hu,invoke,builtin,Builtin.min_,Builtin.min2];by_cases hh:n < m
    ·rw[aF hh,Int.min_eq_right (by omega)]
    ·rw[aE hh,Int.min_eq_left (by omega)]
  |_=>exact hK.elim
 |_=>exact hK.elim
theorem wQ {x y:Operand}{x':XA}{t e t':TypeId}{op:BinOp}(ne:Bool) (hop:op=if ne then .neq else .eql) (hd:P.underlying t=some (.slice e)) (ho:o.op=.binOp op t x y t') (hx:cA x=some x') (hy:y=.const (.slice none 0 0)):dM P o (.nils ne x'):=by
 intro C st a w r pub keep al K h hK;have h1:=h.rd hx;simp only[dB]at hK;generalize hcv:st.rd x'=cv at hK h1;generalize hv:a.eval x=v at h1;have hu:a.eval y=.slice none 0 0:=by subst hy;rfl
 have go:∀A n c,v=.slice A n c→∀w':World,(execOp a.eval o).run P w'=.ok (.value (.bool (A.isNone != ne))) w':=fun A n c hA w'=>by
  subst hA;have hg:(eqGuard op t x y (.slice A n c) (.slice none 0 0)).run P w'=.ok () w':=by unfold eqGuard;cases op<;>rfl
  have e1:(Op.equal t (.slice A n c) (.slice none 0 0)).run P w'=.ok A.isNone w':=by
   show (Op.equalIn (9999+1) t _ _).run P w'=_;unfold Op.equalIn;cases A<;>simp[Sem.run_bind,run_underlying hd]
  unfold execOp;cases ne<;>simp only[aY,if_false,if_true]at hop<;>subst hop<;>simp[ho,hv,hu,Sem.run_bind,hg,binOp,e1]
 cases h1 with
 |@sl _ sz xs A c hc hm hn hs g hr hg=>
  cases A with
  |none=>exact⟨_,_,.bl _,hK.yes (hn rfl).1,fun w' _=>by rw[go _ _ _ rfl w'];simp⟩
  |some A=>exact⟨_,_,.bl _,hK.no,fun w' _=>by rw[go _ _ _ rfl w'];simp⟩
 |v hz=>
  cases v with
  |slice A n c=>
   cases A with
   |none=>
    cases n with
    |zero=>cases c with
     |zero=>exact⟨_,_,.bl _,hK,fun w' _=>by rw[go _ _ _ rfl w'];simp⟩
     |succ c=>exact hK.elim
    |succ n=>exact hK.elim
   |some A=>exact hK.elim
  |_=>exact hK.elim
 |@hd _ k _ hr _=>
  try dsimp only at hK
  cases hk:st.H[k]? with
  |none=>rw[hk]at hK;exact hK.elim
  |some e=>
   rw[hk]at hK;cases e with
   |row t sz xs=>
    obtain⟨A,c,us,hr2,ho',_,_,_⟩:=h.ent_row hk;rw[hr2]at hr;cases hr;cases A with
    |none=>exact⟨_,_,.bl _,hK.yes (by
     rcases ho'.cases_ with ⟨_,h0,_⟩|⟨g,cur,hA,_⟩
     ·exact aQ h0
     ·cases hA),fun w' _=>by rw[go _ _ _ rfl w'];simp⟩
    |some A=>exact⟨_,_,.bl _,hK.no,fun w' _=>by rw[go _ _ _ rfl w'];simp⟩
   |_=>exact hK.elim
 |_=>exact hK.elim
theorem xP {x y:Operand}{x':XA}{t k0 e t':TypeId}{op:BinOp}(ne:Bool) (hop:op=if ne then .neq else .eql) (hd:P.underlying t=some (.map k0 e)) (ho:o.op=.binOp op t x y t') (hx:cA x=some x') (hy:y=.const (.map none)):dM P o (.nilm ne x'):=by
 intro C st a w r pub keep al K h hK;have h1:=h.ev hx;simp only[dB]at hK;generalize hcv:st.ev x'=cv at hK h1;generalize hv:a.eval x=v at h1;have hu:a.eval y=.map none:=by subst hy;rfl
 have go:∀A,v=.map A→∀w':World,(execOp a.eval o).run P w'=.ok (.value (.bool (A.isNone != ne))) w':=fun A hA w'=>by
  subst hA;have hg:(eqGuard op t x y (.map A) (.map none)).run P w'=.ok () w':=by unfold eqGuard;cases op<;>rfl
  have e1:(Op.equal t (.map A) (.map none)).run P w'=.ok A.isNone w':=by
   show (Op.equalIn (9999+1) t _ _).run P w'=_;unfold Op.equalIn;cases A<;>simp[Sem.run_bind,run_underlying hd]
  unfold execOp;cases ne<;>simp only[aY,if_false,if_true]at hop<;>subst hop<;>simp[ho,hv,hu,Sem.run_bind,hg,binOp,e1]
 cases h1 with
 |v hz=>
  cases v with
  |map A=>
   cases A with
   |none=>exact⟨_,_,.bl _,hK,fun w' _=>by rw[go _ rfl w'];simp⟩
   |some A=>exact hK.elim
  |_=>exact hK.elim
 |@hd _ k _ hr _=>
  try dsimp only at hK
  cases hk:st.H[k]? with
  |none=>rw[hk]at hK;exact hK.elim
  |some e=>
   rw[hk]at hK;cases e with
   |map t es=>
    obtain⟨b,ms,clock,hr2,_⟩:=h.ent_map hk;rw[hr2]at hr;cases hr;exact⟨_,_,.bl _,hK,fun w' _=>by rw[go _ rfl w'];simp⟩
   |_=>exact hK.elim
 |@ph _ k arr _ hr h0 _=>
  try dsimp only at hK
  cases hk:st.H[k]? with
  |none=>rw[hk]at hK;exact hK.elim
  |some e=>
   rw[hk]at hK;cases e with
   |pool t es outs=>
    obtain⟨b,ms,inner,hr2,R⟩:=h.ent_pool hk;obtain⟨a0,ha0,ha1⟩:=dO b inner;have hb0:=hr.symm.trans hr2;rw[ha0]at hb0;cases hb0;rw[ha1]at h0;cases h0;exact⟨_,_,.bl _,hK,fun w' _=>by rw[go _ rfl w'];simp⟩
   |_=>exact hK.elim
 |_=>exact hK.elim
def rV (P:bG) (kt:TypeId):TypeDesc→Option GV
 |.int k=>some (.some k)
 |.string=>some .none
 |.struct fs=>if P.stoodInHeld kt=false then (kJ P fs.toList 0).map .wide else none
 |_=>none
structure LT (P:bG) (kt:TypeId) (key:AV) (k:Value):Prop where
 chk:∀(em:Bool) (w:World),(Instr.checkKey em 10000 kt k).run P w=.ok () w
 emp:∀(w:World),(Instr.findKey kt k []).run P w=.ok none w
 find:∀{pub:cI}{w:World}(es:List (AV×AV)) (ms:List MapEntry) (q:Option Nat),bO pub w cM (es.map (·.1)) (ms.map (·.key))→fY key es 0=some q →
  match q with
  |none=>∀w':World,(Instr.findKey kt k ms).run P w'=.ok none w'
  |some j=>∃e,ms[j]?=some e∧(∀w':World,(Instr.findKey kt k ms).run P w'=.ok (some (j,e.val)) w')∧e.key=k
 stays:∀(w:World),(Instr.keyThatStays k k).run P w=.ok k w
 own:∀{pub:cI}{w:World},bS pub w cM key k
theorem xQ {pub:cI}{w:World}{r:cF}{d:TypeDesc}{key:AV}{k:Value}(hd:IsKey d k) (hv:bS pub w r key k):∀(es:List (AV×AV)) (ms:List MapEntry) (i:Nat) (q:Option Nat),(∀l,key≠.agg l)→bO pub w cM (es.map (·.1)) (ms.map (·.key))→fY key es i=some q →
  match q with
  |none=>Instr.findNow d k ms i=some none
  |some j=>∃n e,j=i+n∧ms[n]?=some e∧Instr.findNow d k ms i=some (some (j,e.val))∧e.key=k
 |[],ms,i,q,_,h,hq=>by
  cases hq;have:ms=[]:=by have:=h.len;simpa using this
  subst this;rfl
 |e :: es,ms,i,q,ha,h,hq=>by
  obtain⟨u,us,hu,h1,h2⟩:=h.cons_inv;cases ms with
  |nil=>cases hu
  |cons m ms=>
   cases hu;have hs:∀b,gE key e.1=some b→Instr.sameNow d k m.key=some b∧(b=true→m.key=k):=fun b hb=>by
    obtain⟨ek,ev⟩:=e;dsimp only at h1 hb;cases hv with
    |int j x=>
     generalize hmk:m.key=mk at h1;cases h1 with
     |int j2 y=>
      simp only[gE]at hb
      split at hb
      ·rename_i hj;subst hj;cases hb;cases d<;>simp[IsKey]at hd;simp[Instr.sameNow];intro h;exact h.symm
      ·cases hb
     |_=>simp[gE]at hb
    |str s=>
     generalize hmk:m.key=mk at h1;cases h1 with
     |str y=>
      simp only[gE]at hb;cases hb;cases d<;>simp[IsKey]at hd;refine⟨rfl,fun h=>?_⟩;rw[(bytes_beq _ _).1 h]
     |_=>simp[gE]at hb
    |agg=>exact absurd rfl (ha _)
    |_=>simp[gE]at hb
   unfold fY at hq
   split at hq
   ·rename_i hb;cases hq;obtain⟨h3,h4⟩:=hs _ hb;exact⟨0,m,rfl,rfl,by simp[Instr.findNow,h3],h4 rfl⟩
   ·rename_i hb;have h3:=(hs _ hb).1;have:=xQ hd hv es ms (i+1) q ha h2 hq;cases q with
    |none=>simpa [Instr.findNow,h3]using this
    |some j=>
     obtain⟨n,e',rfl,h5,h6,h7⟩:=this;exact⟨n+1,e',by omega,by simpa using h5,by simpa [Instr.findNow,h3]using h6,h7⟩
   ·cases hq
theorem uL {d:TypeDesc}{kt:TypeId}{key:AV}{k:Value}(hkt:P.underlying kt=some d) (hk:IsKey d k) (ha:∀l,key≠.agg l) (ho:∀{pub:cI}{w:World},bS pub w cM key k):LT P kt key k:=by
 refine⟨fun em w=>run_checkKey hkt hk em 9999,fun w=>run_findKey hkt rfl,fun {pub w} es ms q h hq=>?_,fun w=>run_keyThatStays hk,ho⟩;have:=xQ hk (ho (pub:=pub) (w:=w)) es ms 0 q ha h hq;cases q with
 |none=>exact fun w'=>run_findKey hkt this
 |some j=>
  obtain⟨n,e,hn,h1,h2,h3⟩:=this;have hn:j=n:=by omega
  subst hn;exact⟨e,h1,fun w'=>run_findKey hkt h2,h3⟩
theorem sO:∀{ks:List Nat}{l m:List AV}{b:Bool},gZ ks l l=true→xV l m=some b→gZ ks l m=true∧(b=true↔iP l m)
 |ks,l,m,b,h1,h2=>by
  unfold xV at h2
  split at h2
  ·cases h2;exact⟨h1,by simp[iP]⟩
  ·rename_i j x l k y m
   split at h2
   ·rename_i e;subst e;obtain⟨b1,hb1,rfl⟩:=Option.map_eq_some_iff.1 h2;rcases ks with _|⟨_|_|_|q,ks⟩<;>simp only[gZ,aO,decide_true,Bool.true_and,aY]at h1
    obtain⟨q1,q2⟩:=sO h1 hb1;exact⟨by simp[gZ,q1],by simp[iP,q2]⟩
   ·cases h2
  ·rename_i x l y m;obtain⟨b1,hb1,rfl⟩:=Option.map_eq_some_iff.1 h2;rcases ks with _|⟨_|_|_|q,ks⟩<;>first|(cases h1;done)|skip
   replace h1:gZ ks l l=true:=h1;obtain⟨q1,q2⟩:=sO h1 hb1;exact⟨by simp[gZ,q1],by simp only[iP,aO,q2,bytes_beq]⟩
  ·rename_i x l y m;obtain⟨b1,hb1,rfl⟩:=Option.map_eq_some_iff.1 h2;rcases ks with _|⟨_|_|_|q,ks⟩<;>first|(cases h1;done)|skip
   replace h1:gZ ks l l=true:=h1;obtain⟨q1,q2⟩:=sO h1 hb1;exact⟨by simp[gZ,q1],by simp[iP,q2]⟩
  ·cases h2
theorem kO {pub pub':cI}{w w':World}{r r':cF}:∀{ks:List Nat}{l m:List AV}{us:List Value},gZ ks l m=true→bO pub w r l us→bO pub' w' r' l us∧∀u∈us,∀n,Instr.sameBits n u u=true
 |ks,l,m,us,h,hv=>by
  unfold gZ at h
  split at h
  ·have:=hv.nil_inv;subst this;exact⟨.nil,fun u hu=>by cases hu⟩
  ·simp only[aO]at h;obtain⟨u,us',rfl,h1,h2⟩:=hv.cons_inv;obtain⟨q1,q2⟩:=kO (pub':=pub') (w':=w') (r':=r') h.2 h2;cases h1;refine⟨.cons (.int _ _) q1,fun u hu n=>?_⟩;rcases List.mem_cons.1 hu with rfl|hu
   ·simp[Instr.sameBits]
   ·exact q2 u hu n
  ·obtain⟨u,us',rfl,h1,h2⟩:=hv.cons_inv;obtain⟨q1,q2⟩:=kO (pub':=pub') (w':=w') (r':=r') h h2;cases h1;refine⟨.cons (.str _) q1,fun u hu n=>?_⟩;rcases List.mem_cons.1 hu with rfl|hu
   ·simp[Instr.sameBits,bytes_beq]
   ·exact q2 u hu n
  ·obtain⟨u,us',rfl,h1,h2⟩:=hv.cons_inv;obtain⟨q1,q2⟩:=kO (pub':=pub') (w':=w') (r':=r') h h2;cases h1;refine⟨.cons (.bl _) q1,fun u hu n=>?_⟩;rcases List.mem_cons.1 hu with rfl|hu
   ·simp[Instr.sameBits]
   ·exact q2 u hu n
  ·cases h
theorem pA {pub:cI}{w:World}{r r':cF}:∀{ks:List Nat}{l m:List AV}{us vs:List Value},gZ ks l m=true→iP l m→bO pub w r l us→bO pub w r' m vs→us=vs
 |ks,l,m,us,vs,h,he,hu,hv=>by
  unfold gZ at h
  split at h
  ·rw[hu.nil_inv,hv.nil_inv]
  all_goals first|(cases h;done)|skip
  all_goals
   obtain⟨u,us',rfl,h1,h2⟩:=hu.cons_inv;obtain⟨v,vs',rfl,h3,h4⟩:=hv.cons_inv;simp only[iP]at he
   try simp only[aO,decide_eq_true_eq]at h
   cases h1;cases h3
  ·rw[he.1,h.1,pA h.2 he.2 h2 h4]
  ·rw[he.1,pA h he.2 h2 h4]
  ·rw[he.1,pA h he.2 h2 h4]
theorem uW (em:Bool) (w':World) {xs:Array Value}{pub:cI}{w:World}{r:cF}:∀(fs:List Field) (i:Nat) (ks:List Nat) (l m:List AV),kJ P fs i=some ks→gZ ks l m=true→bO pub w r l (xs.toList.drop i) →
  ∀ g : Field → PUnit → Sem (ForInStep PUnit), (∀ f u a, f.name ≠ "_" → (part f.type xs f.offset).run P w' = .ok a w' → (Instr.checkKey em 9999 f.type a).run P w' = .ok () w' → (g f u).run P w' = .ok (.yield PUnit.unit) w') →
  (forIn fs PUnit.unit g).run P w'=.ok PUnit.unit w'
 |[],i,ks,l,m,hf,hok,hx,g,hg=>by simp
 |f :: fs,i,ks,l,m,hf,hok,hx,g,hg=>by
  unfold kJ at hf
  split at hf
  ·rename_i hno;obtain⟨hname,hoff⟩:=hno
   split at hf
   ·rename_i k ks' hk hks;cases hf;cases hd:P.underlying f.type with
    |none=>rw[hd]at hk;cases hk
    |some d0=>
     rw[hd]at hk;simp only[Option.bind_some]at hk;have hrow:iZ P f.type=some false:=by
      unfold iZ;rw[hd];cases d0<;>simp[uK]at hk<;>rfl
     cases l with
     |nil=>simp[gZ]at hok
     |cons x l=>
      obtain⟨u,us,hu,hxu,hxs⟩:=hx.cons_inv;have h0:xs[i]?=some u:=by
       have:=congrArg (fun l=>l[0]?) hu;simpa using this
      have h1:xs.toList.drop (i+1)=us:=by rw[←List.drop_drop,hu];rfl
      have pr:(part f.type xs f.offset).run P w'=.ok u w':=by
       rw[hoff];simp[part,Sem.run_bind,fD hrow,h0]
      have ck:(Instr.checkKey em 9999 f.type u).run P w'=.ok () w':=by
       show (Instr.checkKey em (9998+1) f.type u).run P w'=_;unfold Instr.checkKey;simp only[Sem.run_bind,run_underlying hd,Result.andThen_ok];cases d0<;>simp[uK]at hk<;>cases u<;>simp
      have hm:∃m',gZ ks' l m'=true:=by
       unfold gZ at hok
       split at hok
       ·rename_i e _;cases e
       ·rename_i e1 e2;cases e1;cases e2;simp only[aO]at hok;exact⟨_,hok.2⟩
       ·rename_i e1 e2;cases e1;cases e2;exact⟨_,hok⟩
       ·rename_i e1 e2;cases e1;cases e2;exact⟨_,hok⟩
       ·cases hok
      obtain⟨m',hm⟩:=hm;rw[←h1]at hxs;have ih:=uW em w' fs (i+1) ks' l m' hks hm hxs g hg;simp only[List.forIn_cons,Sem.run_bind,hg f PUnit.unit u hname pr ck,Result.andThen_ok];exact ih
   ·cases hf
  ·cases hf
theorem Gm {fs:Array Field}{kt:TypeId}{ks:List Nat}{l:List AV}{xs:Array Value}(hkt:P.underlying kt=some (.struct fs)) (hp:P.stoodInHeld kt=false) (hf:kJ P fs.toList 0=some ks) (hok:gZ ks l l=true) (ho:∀{pub:cI}{w:World},bS pub w cM (.agg l) (.agg xs)):LT P kt (.agg l) (.agg xs):=by
 have hl:∀{pub:cI}{w:World},bO pub w cM l xs.toList:=fun {pub w}=>by
  cases ho (pub:=pub) (w:=w) with
  |agg hl hc=>exact⟨by simpa using hl,fun i x u hx hu=>hc i x u hx (by simpa using hu)⟩
 have hfo:P.fieldsOf kt=fs:=by unfold Program.fieldsOf;rw[hkt]
 have hwide:(match P.underlying kt with|some (.array _ _)|some (.struct _)=>true|_=>false)=true:=by rw[hkt]
 refine⟨fun em w=>?_,fun w=>?_,fun {pub w} es ms q h hq=>?_,fun w=>?_,ho⟩
 ·show (Instr.checkKey em (9999+1) kt (.agg xs)).run P w=_;unfold Instr.checkKey;simp only[Sem.run_bind,run_underlying hkt,Result.andThen_ok];rw[←Array.forIn_toList];rw[uW em w fs.toList 0 ks l l hf hok (hl (pub:=fun _=>0) (w:=w)) _ (fun f u a hn h1 h2=>by simp[hn,Sem.run_bind,h1,h2])];rfl
 ·rw[run_findKey_eq w hwide];simp[Instr.findAsking]
 ·have main:∀(es:List (AV×AV)) (ms:List MapEntry) (i:Nat) (q:Option Nat),bO pub w cM (es.map (·.1)) (ms.map (·.key))→fY (.agg l) es i=some q →
    match q with
    |none=>∀w':World,(Instr.findAsking kt (.agg xs) ms i).run P w'=.ok none w'
    |some j=>∃n e,j=i+n∧ms[n]?=some e∧(∀w':World,(Instr.findAsking kt (.agg xs) ms i).run P w'=.ok (some (j,e.val)) w')∧e.key=.agg xs:=by
   intro es
   induction es with
   |nil=>
    intro ms i q h hq;cases hq;have:ms=[]:=by have:=h.len;simpa using this
    subst this;exact fun w'=>by simp[Instr.findAsking]
   |cons e es ih=>
    intro ms i q h hq;obtain⟨u,us,hu,h1,h2⟩:=h.cons_inv;cases ms with
    |nil=>cases hu
    |cons mm ms=>
     cases hu;have hs:∀b,gE (.agg l) e.1=some b→(∀w':World,(Op.equal kt (.agg xs) mm.key).run P w'=.ok b w')∧(b=true→mm.key=.agg xs):=fun b hb=>by
      obtain⟨ek,ev⟩:=e;dsimp only at h1 hb;generalize hmk:mm.key=mk at h1;cases h1 with
      |@agg _ m ys hm2 hc2=>
       simp only[gE]at hb;obtain⟨ho1,ho2⟩:=sO hok hb;have hys:bO pub w cM m ys.toList:=⟨by simpa using hm2,fun i x u hx hu=>hc2 i x u hx (by simpa using hu)⟩
       refine⟨fun w'=>?_,fun h=>?_⟩
       ·obtain⟨b',hb1,hb2⟩:=mC (P:=P) (pub:=pub) (w:=w) (r:=cM) 9998 w' fs.toList 0 ks l m hf ho1 (hl (pub:=pub) (w:=w)) hys;have hbb:b'=b:=by
         cases b<;>cases b'<;>simp at hb2 ho2<;>first|rfl|exact absurd hb2 ho2|exact absurd ho2 hb2
        subst hbb;show (Op.equalIn 10000 kt (.agg xs) (.agg ys)).run P w'=_;rw[run_equalIn_struct w' 9999 kt xs ys (by rw[hfo];exact hkt) hp,hfo];exact hb1
       ·have:=pA ho1 (ho2.1 h) (hl (pub:=pub) (w:=w)) hys;rw[Array.toList_inj.1 this]
      |_=>simp[gE]at hb
     unfold fY at hq
     split at hq
     ·rename_i hb;cases hq;obtain⟨h3,h4⟩:=hs _ hb;exact⟨0,mm,rfl,rfl,fun w'=>by simp[Instr.findAsking,Sem.run_bind,h3 w'],h4 rfl⟩
     ·rename_i hb;have h3:=(hs _ hb).1;have:=ih ms (i+1) q h2 hq;cases q with
      |none=>exact fun w'=>by simp[Instr.findAsking,Sem.run_bind,h3 w',this w']
      |some j=>
       obtain⟨n,e',rfl,h5,h6,h7⟩:=this;exact⟨n+1,e',by omega,by simpa using h5,fun w'=>by simp[Instr.findAsking,Sem.run_bind,h3 w',h6 w'],h7⟩
     ·cases hq
  have:=main es ms 0 q h hq;cases q with
  |none=>exact fun w'=>by rw[run_findKey_eq w' hwide];exact this w'
  |some j=>
   obtain⟨n,e,hn,h1,h2,h3⟩:=this;have hn:j=n:=by omega
   subst hn;exact⟨e,h1,fun w'=>by rw[run_findKey_eq w' hwide];exact h2 w',h3⟩
 ·have hs:Instr.sameBits 10000 (.agg xs) (.agg xs)=true:=by
   show Instr.sameBits (9999+1) (.agg xs) (.agg xs)=true;simp only[Instr.sameBits,beq_self_eq_true,Bool.true_and,aS];rintro ⟨u,v⟩ huv;obtain⟨i,hi⟩:=aU huv;rw[List.getElem?_zip_eq_some]at hi;have e:u=v:=by have:=hi.1.symm.trans hi.2;exact Option.some.inj this
   subst e;exact(kO (pub':=fun _=>0) (w':=w) (r':=cM) hok (hl (pub:=fun _=>0) (w:=w))).2 u (aC hi.1) 9999
  simp[Instr.keyThatStays,hs]
theorem nD {pub:cI}{w:World}{r:cF}{d:TypeDesc}{kt:TypeId}{ky:GV}{key:AV}{k:Value}(hkt:P.underlying kt=some d) (hd:rV P kt d=some ky) (hk:mK ky key=true) (hv:bS pub w r key k):LT P kt key k:=by
 cases hv with
 |int j x=>
  cases ky with
  |some q=>
   simp only[mK,decide_eq_true_eq]at hk;subst hk;refine uL hkt ?_ (fun l h=>by cases h) (.int _ _);unfold rV at hd
   split at hd
   ·cases hd;simp[IsKey]
   ·cases hd
   ·split at hd
    ·obtain⟨_,_,h⟩:=Option.map_eq_some_iff.1 hd;cases h
    ·cases hd
   ·cases hd
  |_=>simp[mK]at hk
 |str s=>
  cases ky with
  |none=>
   refine uL hkt ?_ (fun l h=>by cases h) (.str _);unfold rV at hd
   split at hd
   ·cases hd
   ·simp[IsKey]
   ·split at hd
    ·obtain⟨_,_,h⟩:=Option.map_eq_some_iff.1 hd;cases h
    ·cases hd
   ·cases hd
  |_=>simp[mK]at hk
 |@agg _ l xs hl hc=>
  cases ky with
  |wide ks=>
   unfold rV at hd
   split at hd
   ·cases hd
   ·cases hd
   rotate_left
   ·cases hd
   ·split at hd
    ·rename_i hp;obtain⟨_,hf,h⟩:=Option.map_eq_some_iff.1 hd;cases h;have h0:bO pub w r l xs.toList:=⟨by simpa using hl,fun i x u hx hu=>hc i x u hx (by simpa using hu)⟩
     refine Gm hkt hp hf hk fun {pub' w'}=>?_
     have h1:=(kO (pub':=pub') (w':=w') (r':=cM) hk h0).1;exact .agg (by simpa using h1.len) fun i x u hx hu=>h1.at_ i x u hx (by simpa using hu)
    ·cases hd
  |_=>simp[mK]at hk
 |_=>cases ky<;>simp[mK]at hk
theorem Ju {x y:Operand}{x' y':XA}{t kt e:TypeId}{d:TypeDesc}{ky:GV}{it:TypeInfo}{z:Value}{za:AV}(ok:Bool) (hd:P.underlying t=some (.map kt e)) (hkt:P.underlying kt=some d) (hky:rV P kt d=some ky) (hi:P.info? e=some it) (hz:it.zero=some z)
  (hza:∀(pub:cI) (w:World) (r:cF),bS pub w r za z) (ho:o.op=.lookup t x y ok) (hx:cA x=some x') (hy:cA y=some y'):dM P o (.lkp ky ok za x' y'):=by
 intro C st a w r pub keep al K h hK;have h1:=h.ev hx;have h2:=h.ev hy;simp only[dB]at hK;obtain⟨hko,hK⟩:=hK;have hik:=nD hkt hky hko h2;have hrd:(fT.lkp ky ok za x' y').reads st=(match st.ev x' with|.hd k=>[k]|_=>[]):=rfl;generalize hcv:st.ev x'=cv at hK h1 hrd;generalize hcu:st.ev y'=cu at hK h2 hik;generalize hv:a.eval x=v at h1;generalize hu:a.eval y=u at h2 hik;have fin:∀(b:Bool) (v0:Value) (y0:AV),bS pub w r y0 v0→(if ok=true then K (st.put o.dst (.tup [y0,.bl b])) else K (st.put o.dst y0)) →
   (∀w',((fT.lkp ky ok za x' y').loads=true→oG ((fT.lkp ky ok za x' y').reads st) ((fT.lkp ky ok za x' y').pubs st) r pub w w')→(Instr.lookup t v u ok).run P w'=.ok (if ok=true then .tuple #[v0,.bool b] else v0) w') →
   ∃v y,bS pub w r y v∧K (st.put o.dst y)∧∀w',((fT.lkp ky ok za x' y').loads=true→oG ((fT.lkp ky ok za x' y').reads st) ((fT.lkp ky ok za x' y').pubs st) r pub w w')→(execOp a.eval o).run P w'=.ok (.value v) w':=fun b v0 y0 hv0 hK0 hrun=>by
  have go:∀w',((fT.lkp ky ok za x' y').loads=true→oG ((fT.lkp ky ok za x' y').reads st) ((fT.lkp ky ok za x' y').pubs st) r pub w w')→(execOp a.eval o).run P w'=.ok (.value (if ok=true then .tuple #[v0,.bool b] else v0)) w':=fun w' hw'=>by
   unfold execOp;simp[ho,hv,hu,hrun w' hw']
  cases ok with
  |true=>
   refine⟨_,_,.tup (l:=[y0,.bl b]) (a:=#[v0,.bool b]) rfl (fun i p q hp hq=>?_),hK0,go⟩;rcases i with _|_|i
   ·simp at hp hq;subst hp hq;exact hv0
   ·simp at hp hq;subst hp hq;exact .bl b
   ·simp at hp
  |false=>exact⟨_,_,hv0,hK0,go⟩
 have zrun:∀w':World,(zeroValue e).run P w'=.ok z w':=fun w'=>by simp[zeroValue,typeInfo,hi,hz,Sem.run_bind]
 cases h1 with
 |v hz1=>
  cases v with
  |map A=>
   cases A with
   |none=>
    refine fin false z za (hza _ _ _) hK fun w' _=>?_
    simp only[Instr.lookup,Sem.run_bind,run_underlying hd,Sem.run_pure,Result.andThen_ok];have e1:(Instr.checkKey (#[]:Array MapEntry).isEmpty 10000 kt u).run P w'=.ok () w':=hik.chk _ _;rw[e1];have e2:(Instr.findKey kt u (#[]:Array MapEntry).toList).run P w'=.ok none w':=hik.emp _;simp only[Result.andThen_ok,e2,zrun,Sem.run_bind,Sem.run_pure]
   |some A=>exact hK.elim
  |_=>exact hK.elim
 |@hd _ k _ hr _=>
  try dsimp only at hK
  cases hk:st.H[k]? with
  |none=>rw[hk]at hK;exact hK.elim
  |some en=>
   rw[hk]at hK;cases en with
   |map tt es=>
    obtain⟨b,ms,clock,hr2,hb,hl,hks,hvs,_⟩:=h.ent_map hk;rw[hr2]at hr;cases hr;have hb':∀w',((fT.lkp ky ok za x' y').loads=true→oG ((fT.lkp ky ok za x' y').reads st) ((fT.lkp ky ok za x' y').pubs st) r pub w w')→w'.heap[b]?=some (.map ms clock):=fun w' hw'=>
     ((hw' rfl).ent k (by rw[hrd];simp) _ hr2 b (by simp[bY])).trans hb
    rcases hK.out with ⟨i,k',v0,hf,hes,hK⟩|⟨hf,hK⟩
    ·obtain⟨m,hm,hnow,_⟩:=hik.find es ms.toList (some i) hks hf;have hv0:bS pub w cM v0 m.val:=hvs.at_ i _ _ (by rw[aD,hes];rfl) (by rw[aD,hm];rfl);refine fin true m.val v0 (hv0.mono fun _ _ hn=>by cases hn) hK fun w' hw'=>?_
     have e1:(Instr.checkKey ms.isEmpty 10000 kt u).run P w'=.ok () w':=hik.chk _ _;have e2:(Instr.findKey kt u ms.toList).run P w'=.ok (some (i,m.val)) w':=hnow _;simp only[Instr.lookup,Sem.run_bind,run_underlying hd,Sem.run_pure,Result.andThen_ok,MapKept.run_getObj_map (hb' w' hw'),e1,e2]
    ·have hnow:=hik.find es ms.toList none hks hf;refine fin false z za (hza _ _ _) hK fun w' hw'=>?_
     have e1:(Instr.checkKey ms.isEmpty 10000 kt u).run P w'=.ok () w':=hik.chk _ _;have e2:(Instr.findKey kt u ms.toList).run P w'=.ok none w':=hnow _;simp only[Instr.lookup,Sem.run_bind,run_underlying hd,Sem.run_pure,Result.andThen_ok,MapKept.run_getObj_map (hb' w' hw'),e1,e2,zrun]
   |_=>exact hK.elim
 |_=>exact hK.elim
theorem jV {α β:Type}(f:α→β):∀(l:List α) (i:Nat),(l.eraseIdx i).map f=(l.map f).eraseIdx i
 |[],_=>rfl
 |x :: l,0=>rfl
 |x :: l,i+1=>by simp[jV f l i]
theorem bO.erase_ {pub:cI}{w:World}{r:cF}{l:List AV}{us:List Value}(h:bO pub w r l us) (i:Nat):bO pub w r (l.eraseIdx i) (us.eraseIdx i):=by
 have hl:=h.len;refine⟨by rw[List.length_eraseIdx,List.length_eraseIdx,hl],fun j y v hy hv=>?_⟩;rw[List.getElem?_eraseIdx]at hy hv
 split at hy
 ·rename_i e;rw[aF e]at hv;exact h.at_ _ _ _ hy hv
 ·rename_i e;rw[aE e]at hv;exact h.at_ _ _ _ hy hv
theorem qG {C:kN}{st:St}{a:Act}{w:World}{r:cF}{pub:cI}{keep:List Nat}(h:bM C st a w r pub) {k g:Nat}{x:Value}(hx:r k=some x) (hg:g∈bY x) (hk:keep.contains k=false) (ob:Obj):eG keep r w r (fO w g ob):=fun n hn=>by
 refine⟨rfl,fun y hy b hb=>lL ob ?_⟩;rintro rfl;have hne:k≠n:=by
  rintro rfl;rw[List.contains_eq_mem]at hk;simp at hk;exact hk hn
 exact h.mod.disj k n x y hne hx hy b hg hb
theorem Og {x y z:Operand}{x' y' z':XA}{t kt e:TypeId}{d:TypeDesc}{ky:GV}(hd:P.underlying t=some (.map kt e)) (hkt:P.underlying kt=some d) (hky:rV P kt d=some ky) (ho:o.op=.mapUpdate t x y z) (hx:cA x=some x') (hy:cA y=some y') (hz:cA z=some z'):pR P o (.upd ky x' y' z'):=by
 intro C st a w r pub keep al K Q hdst hkeep h hK;simp only[dB]at hK;obtain⟨hko,hK⟩:=hK;have h1:=h.ev hx;have h2:=h.ev hy;have h3:=h.rd hz;have hik:=nD hkt hky hko h2;have h20:bS pub w cM (st.ev y') (a.eval y):=hik.own;generalize hcv:st.ev x'=cv at hK h1;generalize hcu:st.ev y'=cu at hK h2 hik h20;generalize hcz:st.rd z'=cz at hK h3;generalize hv:a.eval x=v at h1;generalize hu:a.eval y=u at h2 hik h20;generalize hvz:a.eval z=vz at h3;cases h1 with
 |@hd _ k _ hr _=>
  obtain⟨hkk,hK⟩:=hK;cases hk:st.H[k]? with
  |none=>rw[hk]at hK;exact hK.elim
  |some en=>
   rw[hk]at hK;cases en with
   |map tt es=>
    obtain⟨hbnd,hK⟩:=hK;obtain⟨b,ms,clock,hr2,hb,hl,hks,hvs,hp,hbo⟩:=h.ent_mapB hk;rw[hr2]at hr;cases hr;have h30:bS pub w cM cz vz:=h3.congr fun n hn=>absurd (AV.bnd_has _ hbnd hn) (by omega)
    have e1:(Instr.checkKey false 10000 kt u).run P w=.ok () w:=hik.chk _ _;have hblt:b < w.heap.size:=lt_of_block hb;rcases hK.out with ⟨i,k',v0,hf,hes,hK⟩|⟨hf,hK⟩
    ·obtain⟨m,hm,hnow,hmk⟩:=hik.find es ms.toList (some i) hks hf;have e2:(Instr.findKey kt u ms.toList).run P w=.ok (some (i,m.val)) w:=hnow _;have hm':ms[i]?=some m:=by simpa using hm
     have e3:((ms[i]?).map (·.key)).getD u=u:=by rw[hm'];exact hmk
     have hms:(ms.modify i fun e=>{ e with key:=u,val:=vz }).toList=ms.toList.set i { m with key:=u,val:=vz }:=by
      refine List.ext_getElem? fun j=>?_
      rw[aX,Array.getElem?_modify,List.getElem?_set];by_cases hij:i=j
      ·subst hij;have:i < ms.size:=by have:=(aA.1 hm).1;simpa using this
       obtain rfl:ms[i]=m:=by rw[aK this]at hm';exact Option.some.inj hm'
       simp[this]
      ·simp[hij]
     refine kV hdst (w':=fO w b (.map (ms.modify i fun e=>{ e with key:=u,val:=vz }) clock)) ?_ (h.mapSet (t:=tt) (es:=es.set i (cu,cz)) hr2 hblt hp (by simp[hl]) ?_ ?_ ?_) (hK.rest _ rfl) (Fr.objW_ _ pub hp).ext (qG h hr2 (by simp[bY]) hkk _) (fun _=>rfl)
     ·unfold execOp;simp[ho,hv,hu,hvz,Instr.mapUpdate,Sem.run_bind,run_underlying hd,MapKept.run_getObj_map hb,e1,e2,e3,hik.stays,MapKept.run_setObj_map _ hb,fO]
     ·rw[hms,List.map_set,List.map_set];exact hks.set i h20
     ·rw[hms,List.map_set,List.map_set];exact hvs.set i h30
     ·intro ht;obtain⟨q1,q2⟩:=hbo ht;refine⟨by rw[q1,Array.size_modify],fun j m2 hm2=>?_⟩;rw[Array.getElem?_modify]at hm2
      split at hm2
      ·rename_i e;subst e;rw[hm']at hm2;cases hm2;exact q2 i m hm'
      ·exact q2 j m2 hm2
    ·have hnow:=hik.find es ms.toList none hks hf;have e2:(Instr.findKey kt u ms.toList).run P w=.ok none w:=hnow _;refine kV hdst (w':=fO w b (.map (ms.push { key:=u,val:=vz,born:=clock }) (clock+1))) ?_ (h.mapSet (t:=tt) (es:=es++[(cu,cz)]) hr2 hblt hp (by simp[hl]) ?_ ?_ ?_) (hK.rest _ rfl) (Fr.objW_ _ pub hp).ext (qG h hr2 (by simp[bY]) hkk _) (fun _=>rfl)
     ·unfold execOp;simp[ho,hv,hu,hvz,Instr.mapUpdate,Sem.run_bind,run_underlying hd,MapKept.run_getObj_map hb,e1,e2,MapKept.run_setObj_map _ hb,fO]
     ·simpa using hks.app (.cons h20 .nil)
     ·simpa using hvs.app (.cons h30 .nil)
     ·intro ht;obtain⟨q1,q2⟩:=hbo ht;refine⟨by rw[q1,Array.size_push],fun j m2 hm2=>?_⟩;rw[Array.getElem?_push]at hm2
      split at hm2
      ·rename_i e;cases hm2;rw[q1,e]
      ·exact q2 j m2 hm2
   |_=>exact hK.elim
 |_=>exact hK.elim
theorem RE {x y:Operand}{x' y':XA}{t kt e t2:TypeId}{d:TypeDesc}{ky:GV}(hd:P.underlying t=some (.map kt e)) (hkt:P.underlying kt=some d) (hky:rV P kt d=some ky) (ho:o.op=.call ⟨.builtin .delete,#[x,y],#[t,t2]⟩) (hx:cA x=some x') (hy:cA y=some y'):pR P o (.del ky x' y'):=by
 intro C st a w r pub keep al K Q hdst hkeep h hK;simp only[dB]at hK;obtain⟨hko,hK⟩:=hK;have h1:=h.ev hx;have h2:=h.ev hy;have hik:=nD hkt hky hko h2;generalize hcv:st.ev x'=cv at hK h1;generalize hcu:st.ev y'=cu at hK h2 hik;generalize hv:a.eval x=v at h1;generalize hu:a.eval y=u at h2 hik;have tup0:∀(w:World) (pub:cI) (r:cF),bS pub w r (.tup []) (.tuple #[]):=fun w pub r=>.tup rfl fun i x u hx _=>by simp at hx
 cases h1 with
 |v hz1=>
  cases v with
  |map A=>
   cases A with
   |none=>
    have e1:(Instr.checkKey true 10000 kt u).run P w=.ok () w:=hik.chk _ _;refine cH hdst (w':=w) (v:=.tuple #[]) ?_ h (tup0 _ _ _) hK (lV.refl _ _) (eG.refl _ _ _) (fun _=>rfl);unfold execOp;simp[ho,hv,hu,resolve,invoke,builtin,Builtin.delete_,Sem.run_bind,run_underlying hd,e1]
   |some A=>exact hK.elim
  |_=>exact hK.elim
 |@hd _ k _ hr _=>
  obtain⟨hkk,hK⟩:=hK;cases hk:st.H[k]? with
  |none=>rw[hk]at hK;exact hK.elim
  |some en=>
   rw[hk]at hK;cases en with
   |map tt es=>
    obtain⟨b,ms,clock,hr2,hb,hl,hks,hvs,hp⟩:=h.ent_map hk;rw[hr2]at hr;cases hr;have e1:(Instr.checkKey ms.isEmpty 10000 kt u).run P w=.ok () w:=hik.chk _ _;have hblt:b < w.heap.size:=lt_of_block hb;rcases hK.out with ⟨i,k',v0,hf,hes,hK⟩|⟨hf,hK⟩
    ·obtain⟨m,hm,hnow,hmk⟩:=hik.find es ms.toList (some i) hks hf;have e2:(Instr.findKey kt u ms.toList).run P w=.ok (some (i,m.val)) w:=hnow _;have him:i < ms.size:=by have:=(aA.1 hm).1;simpa using this
     have hms:(ms.eraseIdxIfInBounds i).toList=ms.toList.eraseIdx i:=by
      rw[Array.eraseIdxIfInBounds,dif_pos him];simp
     refine cH hdst (v:=.tuple #[]) (w':=fO w b (.map (ms.eraseIdxIfInBounds i) clock)) ?_ (h.mapSet (t:=MB tt) (es:=es.eraseIdx i) hr2 hblt hp ?_ ?_ ?_ (fun ht=>absurd ht (Jx tt))) (tup0 _ _ _) (hK.rest _ rfl) (Fr.objW_ _ pub hp).ext (qG h hr2 (by simp[bY]) hkk _) (fun _=>rfl)
     ·unfold execOp;simp[ho,hv,hu,resolve,invoke,builtin,Builtin.delete_,Sem.run_bind,run_underlying hd,MapKept.run_getObj_map hb,e1,e2,MapKept.run_setObj_map _ hb,fO]
     ·have:=congrArg List.length hms;rw[bA]at this;rw[this,List.length_eraseIdx,List.length_eraseIdx,bA,hl]
     ·rw[hms,jV,jV];exact hks.erase_ i
     ·rw[hms,jV,jV];exact hvs.erase_ i
    ·have hnow:=hik.find es ms.toList none hks hf;have e2:(Instr.findKey kt u ms.toList).run P w=.ok none w:=hnow _;have hself:fO w b (.map ms clock)=w:=by
      unfold fO;have:w.heap.setIfInBounds b (.map ms clock)=w.heap:=by
       refine Array.ext_getElem? fun j=>?_
       by_cases hj:b=j
       ·subst hj;rw[Array.getElem?_setIfInBounds_self_of_lt hblt,hb]
       ·rw[Array.getElem?_setIfInBounds_ne hj]
      rw[this]
     refine cH hdst (v:=.tuple #[]) (w':=w) ?_ h (tup0 _ _ _) hK (lV.refl _ _) (eG.refl _ _ _) (fun _=>rfl);unfold execOp;have e4:(setObj b (.map ms clock)).run P w=.ok () w:=by rw[MapKept.run_setObj_map _ hb];exact congrArg _ hself
     simp[ho,hv,hu,resolve,invoke,builtin,Builtin.delete_,Sem.run_bind,run_underlying hd,MapKept.run_getObj_map hb,e1,e2,e4]
   |_=>exact hK.elim
 |_=>exact hK.elim
end
end Go.Proofs.YtooioahiijbomaaGreatDoor
namespace Go.Proofs.YtooioahiijbomaaGreatDoor
open Go.RowKit
theorem qN:∀{l:List AV}{ns:List Int},qU l=some ns→l=ns.map (AV.int .u8)
 |[],ns,h=>by simp[qU]at h;subst h;rfl
 |x :: l,ns,h=>by
  unfold qU at h
  split at h
  ·rename_i e;cases e
  ·rename_i n l' e;cases e;cases hq:qU l with
   |none=>rw[hq]at h;cases h
   |some ms=>
    rw[hq]at h;cases h;rw[qN hq];rfl
  ·cases h
theorem DS (ns:List Int):(ns.map (AV.int .u8)).flatMap AV.cells=ns.map (AV.int .u8):=by
 induction ns with
 |nil=>rfl
 |cons n ns ih=>rw[List.map_cons,List.flatMap_cons,ih];rfl
variable {P:bG}{o:Oper}
theorem LJ {x:Operand}{x':XA}{s t e:TypeId}(hs:P.underlying s=some (.slice e)) (he:P.underlying e=some (.int .u8)) (ht:P.underlying t=some .string) (ho:o.op=.convert s t x) (hx:cA x=some x'):dM P o (.b2s x'):=by
 intro C st a w r pub keep al K h hK;have h1:=h.view (h.ev hx);have hrd:(fT.b2s x').reads st=(match st.rd x' with|.hd k=>[k]|_=>[]):=rfl;have hpb:(fT.b2s x').pubs st=(match st.rd x' with|.sl _ _=>true|_=>false):=rfl;simp only[dB]at hK;have e0:st.view (st.ev x')=st.rd x':=rfl;rw[e0]at h1;generalize hcv:st.rd x'=cv at hK h1 hrd hpb;generalize hv:a.eval x=v at h1;have fin:∀(ns:List Int) (w':World),(convert s t v).run P w'=.ok (.string (aeT ns)) w'→(execOp a.eval o).run P w'=.ok (.value (.string (aeT ns))) w':=fun ns w' hrun=>by
  unfold execOp;simp[ho,hv,hrun]
 cases h1 with
 |@hd _ k _ hr hh1=>
  dsimp only at hK hrd;cases hk:st.H[k]? with
  |none=>rw[hk]at hK;exact hK.elim
  |some en=>
   rw[hk]at hK;cases en with
   |row t0 sz xs=>
    obtain⟨⟨ns,rfl,hb,hK⟩⟩:=hK;have hxs:=qN hb;obtain⟨A,c,us,hr',hown,hc,_,_⟩:=h.ent_row hk;rw[hr]at hr';cases hr';subst hxs;rw[DS]at hc;refine⟨_,_,.str _,hK _ rfl,fun w' hl=>fin ns w' ?_⟩;have hl:=(hl rfl).ent k (by rw[hrd];simp) _ hr;rcases hown.cases_ with ⟨rfl,h0,_,_⟩|⟨g,cur,rfl,hblk,_⟩
    ·have hns:ns=[]:=aQ (by simpa using h0);subst hns;exact run_convert_bytes_nil w' s e hs he _ _ t ht
    ·have hrdw:=hown.rd;refine run_convert_bytes_arg w' s e hs he g 0 _ c ns (by simp) (fun i hi=>?_) t ht;have hi':i < ns.length:=by simpa using hi
     obtain⟨u,hu,hru⟩:=hc.get (i:=i) (x:=.int .u8 ns[i]) (by rw[aD,aB hi'];rfl);obtain⟨b0,o0,hA,hcell⟩:=hrdw.get i u hu;simp only[bD,Addr.mk.injEq,and_true]at hA;obtain⟨rfl,rfl⟩:=hA;cases hru;rw[World.cell?_of_block (w:=w) (a:=⟨g,0+i,none⟩) (hl g (by simp[bY]))];rw[hcell];simp[List.getD,aB hi']
   |_=>exact hK.elim
 |@sl _ sz xs A c hc hm hn hsz g hr hg=>
  dsimp only at hK hpb;obtain⟨⟨ns,rfl,hb,hK⟩⟩:=hK;have hxs:=qN hb;subst hxs;refine⟨_,_,.str _,hK _ rfl,fun w' hl=>fin ns w' ?_⟩;have hl:=(hl rfl).cell hpb;cases A with
  |none=>
   have hns:ns=[]:=by simpa using(hn rfl).1
   subst hns;exact run_convert_bytes_nil w' s e hs he _ _ t ht
  |some ad=>
   by_cases h0:ns=[]
   ·subst h0;obtain⟨b,off,et⟩:=ad;have:=run_convert_bytes_string (P:=P) w' s t e (some ⟨b,off,et⟩) 0 c hs he ht;refine this.trans ?_;rw[run_bytesToString w' _ 0 c [] (by simpa using run_loadCells_list (P:=P) w' ⟨b,off,et⟩ [] (by simp))];rfl
   ·obtain⟨n0,hn0⟩:=List.exists_mem_of_ne_nil _ h0;obtain⟨i0,hi0⟩:=aU hn0;obtain⟨b,off,hA,_,_⟩:=hg i0 (.int .u8 n0) 0 (.int .u8 n0) (by rw[aD,hi0];rfl) rfl;cases hA;refine run_convert_bytes_arg w' s e hs he b off _ c ns (by simp) (fun i hi=>?_) t ht;have hi':i < ns.length:=by simpa using hi
    have hxi:(ns.map (AV.int .u8))[i]?=some (.int .u8 ns[i]):=by rw[aD,aB hi'];rfl
    obtain⟨b2,o2,hA,hp,hcell⟩:=hg i _ 0 (.int .u8 ns[i]) hxi rfl;cases hA;have hrv:=hr i _ 0 (.int .u8 ns[i]) hxi rfl;generalize g i 0=gv at hrv hcell;cases hrv;simp only[Nat.mul_one,Nat.add_zero]at hcell hp;rw[hl b _ _ hp hcell];simp[List.getD,aB hi']
 |v hh=>
  split at hK
  ·rename_i e;cases e
  ·rename_i e;cases e
  ·rename_i e;cases e;refine⟨_,_,.str _,hK,fun w' hl=>fin [] w' ?_⟩;exact run_convert_bytes_nil w' s e hs he _ _ t ht
  ·exact hK.elim
 |_=>exact hK.elim
end Go.Proofs.YtooioahiijbomaaGreatDoor
namespace Go.Proofs.YtooioahiijbomaaGreatDoor
open Go.RowKit Go.MapKept
theorem Fi (key:AV):∀(ks:List AV) (i:Nat),fY key (ks.map fun k=>(k,AV.any)) i=nX key ks i
 |[],i=>rfl
 |k :: ks,i=>by
  simp only[List.map_cons,fY,nX];rw[Fi key ks (i+1)]
theorem nK {P:bG}{kt:TypeId}{pub:cI}{w:World}{key:AV}{k:Value}(hd:LT P kt key k) (ks:List AV) (ms:List MapEntry) (q:Option Nat) (h:bO pub w cM ks (ms.map (·.key))) (hf:nX key ks 0=some q) :
  match q with
  |none=>∀w':World,(Instr.findKey kt k ms).run P w'=.ok none w'
  |some j=>∃e,ms[j]?=some e∧(∀w':World,(Instr.findKey kt k ms).run P w'=.ok (some (j,e.val)) w')∧e.key=k:=by
 rw[←Fi]at hf;have h':bO pub w cM ((ks.map fun k=>(k,AV.any)).map (·.1)) (ms.map (·.key)):=by
  have:(ks.map fun k=>(k,AV.any)).map (·.1)=ks:=by simp[Function.comp_def]
  rw[this];exact h
 have:=hd.find (ks.map fun k=>(k,AV.any)) ms q h' hf;cases q with
 |none=>exact this
 |some j=>exact this
section
variable {C:kN}{st:St}{a:Act}{w:World}{r:cF}{pub:cI}
theorem bM.objSet (h:bM C st a w r pub) {k g:Nat}{x:Value}{e:cC}(o:Obj) (hx:r k=some x) (hg:g∈bY x) (hp:pub g=0) (he:Fr (fun b=>b=g) pub w pub (fO w g o)→dR pub (fO w g o) r (some x) e):bM C ⟨st.T,st.H.set k e⟩ a (fO w g o) r pub:=by
 have hf:=Fr.objW_ (w:=w) (b:=g) o pub hp;refine⟨h.mod.set hx hf (fun n hn=>by subst hn;exact hg) (fun n hn=>by rw[nJ]at hn;exact h.mod.fresh n hn) (fun n i hi=>?_) (he hf),h.own,h.fr.trans hf (fun n hn=>?_),h.slots.ext hf.ext,h.defers,h.size,h.stab,⟨h.low.1,by simpa using h.low.2⟩⟩
 ·obtain⟨u,hu⟩:=h.mod.there n i hi;exact⟨u,hf.ext.cell n i u hi hu⟩
 ·subst hn;exact h.own k _ hx _ hg
theorem bM.repool (h:bM C st a w r pub) {k b:Nat}{inner inner':List (List Value)}{e:cC}(o:Obj) (hrk:r k=some (cN b inner)) (hb:b < w.heap.size) (hp:pub b=0) (hsub:∀n,n∈bY (cN b inner')→n∈bY (cN b inner))
  (he:Fr (fun n=>n=b) pub w pub (fO w b o)→(∀x v,bS pub w r x v→bS pub (fO w b o) (eN r k (cN b inner')) x v)→dR pub (fO w b o) (eN r k (cN b inner')) (some (cN b inner')) e) :
  bM C ⟨st.T,st.H.set k e⟩ a (fO w b o) (eN r k (cN b inner')) pub:=by
 have hf:=Fr.objW_ (w:=w) (b:=b) o pub hp;have hkl:=xY h hrk;have hbf:b∈bY (cN b inner):=by rw[dA];simp
 obtain⟨a1,h1,h2⟩:=dO b inner;obtain⟨a2,h3,h4⟩:=dO b inner';have hrk':=hrk;rw[h1]at hrk';have rk:eN r k (cN b inner') k=some (.tuple a2):=by rw[bW,h3]
 have rsome:∀q y,q≠k→r q=some y→eN r k (cN b inner') q=some y:=fun q y hq hy=>by rw[cG _ _ hq];exact hy
 have hsub2:∀x v,bS pub (fO w b o) r x v→bS pub (fO w b o) (eN r k (cN b inner')) x v:=fun x v hv=>hv.super hrk' rk (h4.trans h2.symm) rsome
 refine⟨⟨fun q e' hq=>?_,fun q hq=>?_,fun p q x y hpq hx hy=>?_,fun n hn=>by rw[nJ]at hn;exact h.mod.fresh n hn,fun n i hi=>?_,h.mod.glob.ext hf.ext⟩,fun q x hx n hn=>?_,h.fr.trans hf (fun n hn=>by subst hn;exact h.own k _ hrk _ hbf),fun m=>hsub2 _ _ ((h.slots m).ext hf.ext),h.defers,h.size,fun q y hy hs=>?_,⟨h.low.1,by simpa using h.low.2⟩⟩
 ·by_cases e1:k=q
  ·subst e1;rw[aP hkl]at hq;cases hq;rw[bW];exact he hf fun x v hv=>hsub2 x v (hv.ext hf.ext)
  ·rw[aT e1]at hq;rw[cG _ _ (Ne.symm e1)];exact((h.mod.ent q e' hq).frm hf (fun y hy n hn e2=>by subst e2;exact h.mod.disj k q _ _ e1 hrk hy _ hbf hn) (fun _ _ h=>h)).sub hsub2
 ·rw[aZ]at hq;rw[cG _ _ (by omega)];exact h.mod.none_ q hq
 ·have old:∀q x,eN r k (cN b inner') q=some x→∃x0,r q=some x0∧∀n∈bY x,n∈bY x0:=fun q x hx=>by
   by_cases e1:q=k
   ·subst e1;rw[bW]at hx;cases hx;exact⟨_,hrk,hsub⟩
   ·rw[cG _ _ e1]at hx;exact⟨_,hx,fun _ h=>h⟩
  obtain⟨x0,hx0,hx1⟩:=old p x hx;obtain⟨y0,hy0,hy1⟩:=old q y hy;exact fun n hn hn2=>h.mod.disj p q x0 y0 hpq hx0 hy0 n (hx1 n hn) (hy1 n hn2)
 ·obtain⟨u,hu⟩:=h.mod.there n i hi;exact⟨u,hf.ext.cell n i u hi hu⟩
 ·by_cases e1:q=k
  ·subst e1;rw[bW]at hx;cases hx;exact h.own _ _ hrk n (hsub n hn)
  ·rw[cG _ _ e1]at hx;exact h.own q x hx n hn
 ·have h5:=h.stab q y hy hs;refine rsome q y ?_ h5;rintro rfl;rw[hrk]at h5;cases h5;cases hs
end
section
variable {P:bG}{o:Oper}
theorem Ri {x y:Operand}{x' y':XA}{t kt e:TypeId}{d:TypeDesc}{ky:GV}{it:TypeInfo}{z:Value}{za:AV}(ok:Bool) (hd:P.underlying t=some (.map kt e)) (hkt:P.underlying kt=some d) (hky:rV P kt d=some ky) (hi:P.info? e=some it) (hz:it.zero=some z)
  (hza:∀(pub:cI) (w:World) (r:cF),bS pub w r za z) (ho:o.op=.lookup t x y ok) (hx:cA x=some x') (hy:cA y=some y'):pR P o (.plk ky ok za x' y'):=by
 intro C st a w r pub keep al K Q hdst hkeep h hK;simp only[dB]at hK;obtain⟨hko,hK⟩:=hK;have h1:=h.ev hx;have h2:=h.ev hy;have hik:=nD hkt hky hko h2;generalize hcv:st.ev x'=cv at hK h1;generalize hcu:st.ev y'=cu at hK h2 hik;generalize hv:a.eval x=v at h1;generalize hu:a.eval y=u at h2 hik;have zrun:∀w':World,(zeroValue e).run P w'=.ok z w':=fun w'=>by simp[zeroValue,typeInfo,hi,hz,Sem.run_bind]
 have fin:∀(st1:St) (r1:cF) (b:Bool) (v0:Value) (y0:AV),bM C st1 a w r1 pub→bS pub w r1 y0 v0→K (st1.put o.dst (if ok=true then .tup [y0,.bl b] else y0))→eG keep r w r1 w →
   (Instr.lookup t v u ok).run P w=.ok (if ok=true then .tuple #[v0,.bool b] else v0) w→Oper.wp P o a w (kG C keep true r pub w K) Q:=fun st1 r1 b v0 y0 hh hv0 hK0 hkp hrun=>by
  refine cH (v:=if ok=true then .tuple #[v0,.bool b] else v0) hdst ?_ hh ?_ hK0 (lV.refl _ _) hkp (fun _=>rfl)
  ·unfold execOp;simp[ho,hv,hu,hrun]
  ·cases ok with
   |true=>
    refine .tup (l:=[y0,.bl b]) (a:=#[v0,.bool b]) rfl (fun i p q hp hq=>?_);rcases i with _|_|i
    ·simp at hp hq;subst hp hq;exact hv0
    ·simp at hp hq;subst hp hq;exact .bl b
    ·simp at hp
   |false=>exact hv0
 cases h1 with
 |v hz1=>
  cases v with
  |map A=>
   cases A with
   |none=>
    refine fin st r false z za h (hza _ _ _) (by cases ok<;>exact hK) (eG.refl _ _ _) ?_;simp only[Instr.lookup,Sem.run_bind,run_underlying hd,Sem.run_pure,Result.andThen_ok];have e1:(Instr.checkKey (#[]:Array MapEntry).isEmpty 10000 kt u).run P w=.ok () w:=hik.chk _ _;rw[e1];have e2:(Instr.findKey kt u (#[]:Array MapEntry).toList).run P w=.ok none w:=hik.emp _;simp only[Result.andThen_ok,e2,zrun,Sem.run_bind,Sem.run_pure]
   |some A=>exact hK.elim
  |_=>exact hK.elim
 |@ph _ k arr _ hr h0 _=>
  obtain⟨hkk,hK⟩:=hK;cases hk:st.H[k]? with
  |none=>rw[hk]at hK;exact hK.elim
  |some en=>
   rw[hk]at hK;cases en with
   |pool tt es outs=>
    obtain⟨b,ms,inner,hr2,R⟩:=h.ent_pool hk;obtain⟨a0,ha0,ha1⟩:=dO b inner;have hb0:=hr.symm.trans hr2;rw[ha0]at hb0;cases hb0;rw[ha1]at h0;cases h0;have e1:(Instr.checkKey ms.isEmpty 10000 kt u).run P w=.ok () w:=hik.chk _ _;have found:∀i,nX cu (es.map (·.1)) 0=some (some i)→∃m,ms[i]?=some m∧(Instr.lookup t (.map (some b)) u ok).run P w=.ok (if ok=true then .tuple #[m.val,.bool true] else m.val) w:=fun i hf=>by
     obtain⟨m,hm,hnow,_⟩:=nK hik _ ms.toList (some i) R.hk hf;have e2:(Instr.findKey kt u ms.toList).run P w=.ok (some (i,m.val)) w:=hnow _;refine⟨m,by simpa using hm,?_⟩;simp only[Instr.lookup,Sem.run_bind,run_underlying hd,Sem.run_pure,Result.andThen_ok,MapKept.run_getObj_map R.hb,e1,e2]
    rcases hK.out with ⟨i,k',hd',l,hf,hes,hno,hK⟩|⟨i,x0,hf,hxo,hK⟩|⟨hf,hK⟩
    ·obtain⟨m,hm,hrun⟩:=found i hf;obtain⟨b2,ms2,inner2,r2,q1,R2,q2,q3,q4,q5⟩:=h.focus hk hes hno;rw[hr2]at q1;have hbm:b2=b:=by
      have:=Option.some.inj q1;unfold cN at this;simp only[Value.tuple.injEq,List.toArray_eq_toArray_eq,List.cons.injEq,Value.map.injEq,bD]at this;exact this.1.symm
     subst hbm;have hms:ms2=ms:=by
      have:=R2.hb.symm.trans R.hb;simp only[bD,Obj.map.injEq]at this;exact this.1
     subst hms;refine fin _ r2 true m.val _ q5 (q2 m hm) hK (fun n hn=>?_) hrun;have hnk:n≠k:=by
      rintro rfl;rw[List.contains_eq_mem]at hkk;simp at hkk;exact hkk hn
     have hs:=hkeep n hn;obtain⟨y1,hy1⟩:=Option.isSome_iff_exists.1 hs;exact⟨q4 n hnk (xY h hy1),fun _ _ _ _=>rfl⟩
    ·obtain⟨m,hm,hrun⟩:=found i hf;exact fin st r true m.val x0 h ((R.hout i x0 hxo).2 m hm) hK (eG.refl _ _ _) hrun
    ·have hnow:=nK hik _ ms.toList none R.hk hf;refine fin st r false z za h (hza _ _ _) hK (eG.refl _ _ _) ?_;have e2:(Instr.findKey kt u ms.toList).run P w=.ok none w:=hnow _;simp only[Instr.lookup,Sem.run_bind,run_underlying hd,Sem.run_pure,Result.andThen_ok,MapKept.run_getObj_map R.hb,e1,e2,zrun]
   |_=>exact hK.elim
 |_=>exact hK.elim
theorem N4 {x y z:Operand}{x' y' z':XA}{t kt e:TypeId}{d:TypeDesc}{ky:GV}(hd:P.underlying t=some (.map kt e)) (hkt:P.underlying kt=some d) (hky:rV P kt d=some ky) (ho:o.op=.mapUpdate t x y z) (hx:cA x=some x') (hy:cA y=some y') (hz:cA z=some z'):pR P o (.pup ky x' y' z'):=by
 intro C st a w r pub keep al K Q hdst hkeep h hK;simp only[dB]at hK;obtain⟨hko,hK⟩:=hK;have h1:=h.ev hx;have h2:=h.ev hy;have h3:=h.ev hz;have hik:=nD hkt hky hko h2;have h20:bS pub w cM (st.ev y') (a.eval y):=hik.own;generalize hcv:st.ev x'=cv at hK h1;generalize hcu:st.ev y'=cu at hK h2 hik h20;generalize hcz:st.ev z'=cz at hK h3;generalize hv:a.eval x=v at h1;generalize hu:a.eval y=u at h2 hik h20;generalize hvz:a.eval z=vz at h3;cases h1 with
 |@ph _ k arr _ hr h0 _=>
  obtain⟨hkk,hK⟩:=hK;cases hk:st.H[k]? with
  |none=>rw[hk]at hK;exact hK.elim
  |some en=>
   rw[hk]at hK;cases en with
   |pool tt es outs=>
    obtain⟨hone,hK⟩:=hK;obtain⟨b,ms,inner,hr2,R⟩:=h.ent_pool hk;obtain⟨a0,ha0,ha1⟩:=dO b inner;have hb0:=hr.symm.trans hr2;rw[ha0]at hb0;cases hb0;rw[ha1]at h0;cases h0;have hblt:b < w.heap.size:=lt_of_block R.hb;have e1:(Instr.checkKey false 10000 kt u).run P w=.ok () w:=hik.chk _ _;have hkp:∀(ob:Obj) (y:Value),eG keep r w (eN r k y) (fO w b ob):=fun ob y n hn=>by
     have hnk:n≠k:=by
      rintro rfl;rw[List.contains_eq_mem]at hkk;simp at hkk;exact hkk hn
     refine⟨cG _ _ hnk,fun y hy b' hb'=>lL ob ?_⟩;rintro rfl;exact h.mod.disj k n _ y (Ne.symm hnk) hr2 hy b' (by rw[dA];simp) hb'
    rcases hK.out with ⟨hf,hK⟩|⟨i,x0,rest,hf,rfl,hno,hK⟩
    ·have hnow:=nK hik _ ms.toList none R.hk hf;have e2:(Instr.findKey kt u ms.toList).run P w=.ok none w:=hnow _;have hfoot:bY (cN b (inner++[[]]))=bY (cN b inner):=by rw[dA,dA];simp
     have hsz:ms.size+1=(ms.push { key:=u,val:=vz,born:=ms.size }).size:=by simp
     refine kV hdst (w':=fO w b (.map (ms.push { key:=u,val:=vz,born:=ms.size }) (ms.size+1))) (r':=eN r k (cN b (inner++[[]]))) ?_
      (h.repool (e:=.pool tt (es++[(cu,.any,[])]) ((es.length,cz) :: outs)) (.map (ms.push { key:=u,val:=vz,born:=ms.size }) (ms.size+1)) hr2 hblt R.hp (fun n hn=>by rw[hfoot]at hn;exact hn) ?_) (hK _ _ rfl rfl) (Fr.objW_ _ pub R.hp).ext (hkp _ _) (fun _=>rfl)
     ·unfold execOp;simp[ho,hv,hu,hvz,Instr.mapUpdate,Sem.run_bind,run_underlying hd,MapKept.run_getObj_map R.hb,e1,e2,MapKept.run_setObj_map _ R.hb,fO]
     ·intro hfr hsub;have getp:∀(i:Nat) (m:MapEntry),i < ms.size→(ms.push { key:=u,val:=vz,born:=ms.size })[i]?=some m→ms[i]?=some m:=fun i m hi hm=>by
       rw[Array.getElem?_push_lt hi]at hm;rw[aK hi];exact hm
      have gete:∀{i:Nat}{el:AV×AV×List cC},i≠es.length→(es++[(cu,AV.any,[])])[i]?=some el→i < es.length∧es[i]?=some el:=fun {i el} hi he=>by
       have:=(aA.1 he).1;simp only[aM,List.length_cons,List.length_nil]at this;rw[List.getElem?_append_left (by omega)]at he;exact⟨by omega,he⟩
      have geti:∀{i:Nat}{vs:List Value},i < es.length→(inner++[[]])[i]?=some vs→inner[i]?=some vs:=fun {i vs} hi he=>by
       rw[List.getElem?_append_left (by rw[R.hn];exact hi)]at he;exact he
      refine .pool (by rw[←hsz];exact W1 _ hblt) (by simp[R.hl]) (by simp[R.hn]) (fun i m hm=>?_) ?_ (fun i x hx=>?_) (fun i el vs m hn he hi hm=>?_) (fun i el vs j dd hn he hi hj=>?_) (by rw[hfoot];exact R.hnd) R.hp
      ·by_cases e3:i < ms.size
       ·exact R.hborn i m (getp i m e3 hm)
       ·have:=(Array.getElem?_eq_some_iff.1 hm).1;simp only[Array.size_push]at this;have e4:i=ms.size:=by omega
        subst e4;simp at hm;subst hm;rfl
      ·have:=(R.hk.ext hfr.ext).app (bO.cons (h20.ext hfr.ext) .nil);simpa using this
      ·rcases List.mem_cons.1 hx with hx|hx
       ·cases hx;refine⟨by rw[List.getElem?_append_right (by rw[R.hn];exact aN _),R.hn];simp,fun m hm=>?_⟩;rw[←R.hl]at hm;simp at hm;subst hm;exact hsub _ _ h3
       ·have hio:=(R.hout i x hx).1;have hil:=(aA.1 hio).1;refine⟨by rw[List.getElem?_append_left hil];exact hio,fun m hm=>hsub _ _ ((R.hout i x hx).2 m (getp i m (by rw[R.hl,←R.hn];exact hil) hm))⟩
      ·have hil:i≠es.length:=by rintro rfl;exact hn _ (bC ..)
       obtain⟨h5,h6⟩:=gete hil he;obtain⟨k1,k2,k3⟩:=R.hin i el vs m (fun x hx=>hn x (aV _ hx)) h6 (geti h5 hi) (getp i m (by rw[R.hl];exact h5) hm);exact⟨k1,k2,k3.ext hfr.ext⟩
      ·have hil:i≠es.length:=by rintro rfl;exact hn _ (bC ..)
       obtain⟨h5,h6⟩:=gete hil he;have hno:∀x,(i,x)∉outs:=fun x hx=>hn x (aV _ hx)
       refine(R.hie i el vs j dd hno h6 (geti h5 hi) hj).frm hfr (fun v hvj n hn2 e5=>?_) (fun _ _ h=>h);subst e5;have hvm:=aC hvj;have hi5:i < ms.size:=by rw[R.hl];exact h5
       obtain⟨_,k2,_⟩:=R.hin i el vs (ms[i]'hi5) hno h6 (geti h5 hi) (aK hi5);have hnd:=R.hnd;rw[dA,List.nodup_cons]at hnd;rw[iM (k2 v hvm)]at hn2;exact hnd.1 (List.mem_flatMap.2 ⟨vs,aC (geti h5 hi),List.mem_flatMap.2 ⟨v,hvm,hn2⟩⟩)
    ·obtain⟨m0,hm0,hnow,hmk⟩:=nK hik _ ms.toList (some i) R.hk hf;have hm':ms[i]?=some m0:=by simpa using hm0
     have him:i < ms.size:=(Array.getElem?_eq_some_iff.1 hm').1;have e2:(Instr.findKey kt u ms.toList).run P w=.ok (some (i,m0.val)) w:=hnow _;have e3:((ms[i]?).map (·.key)).getD u=u:=by rw[hm'];exact hmk
     have hget:∀j,(ms.modify i fun e=>{ e with key:=u,val:=vz })[j]?=if i=j then some { m0 with key:=u,val:=vz } else ms[j]?:=fun j=>by
      rw[Array.getElem?_modify]
      split
      ·rename_i e4;subst e4;rw[hm'];rfl
      ·rfl
     have hms:(ms.modify i fun e=>{ e with key:=u,val:=vz }).toList=ms.toList.set i { m0 with key:=u,val:=vz }:=by
      refine List.ext_getElem? fun j=>?_
      rw[aX,hget,List.getElem?_set];by_cases hij:i=j
      ·subst hij;simp[him]
      ·simp[hij]
     have hszm:(ms.modify i fun e=>{ e with key:=u,val:=vz }).size=ms.size:=by simp
     refine kV hdst (w':=fO w b (.map (ms.modify i fun e=>{ e with key:=u,val:=vz }) ms.size)) (r':=eN r k (cN b inner)) ?_
      (h.repool (e:=.pool tt es ((i,cz) :: rest)) (.map (ms.modify i fun e=>{ e with key:=u,val:=vz }) ms.size) hr2 hblt R.hp (fun n hn=>hn) ?_) hK (Fr.objW_ _ pub R.hp).ext (hkp _ _) (fun _=>rfl)
     ·unfold execOp;simp[ho,hv,hu,hvz,Instr.mapUpdate,Sem.run_bind,run_underlying hd,MapKept.run_getObj_map R.hb,e1,e2,e3,hik.stays,MapKept.run_setObj_map _ R.hb,fO]
     ·intro hfr hsub;have hmem:∀{j:Nat}{x:AV},(j,x)∈rest→(j,x)∈(i,x0) :: rest:=fun h=>aV _ h
      have hni:∀{j:Nat},(∀x,(j,x)∉(i,cz) :: rest)→i≠j∧∀x,(j,x)∉(i,x0) :: rest:=fun {j} hn=>by
       have hij:i≠j:=by rintro rfl;exact hn _ (bC ..)
       refine⟨hij,fun x hx=>?_⟩;rcases List.mem_cons.1 hx with hx|hx
       ·cases hx;exact hij rfl
       ·exact hn x (aV _ hx)
      refine .pool (by rw[hszm];exact W1 _ hblt) (by rw[hszm];exact R.hl) R.hn (fun j m hm=>?_) ?_ (fun j x hx=>?_) (fun j el vs m hn he hi hm=>?_) (fun j el vs q dd hn he hi hj=>?_) R.hnd R.hp
      ·rw[hget]at hm
       split at hm
       ·rename_i e4;subst e4;cases hm;exact R.hborn i m0 hm'
       ·exact R.hborn j m hm
      ·rw[hms,List.map_set];have hki:(es.map (·.1))[i]?=some ((es.map (·.1))[i]'(by rw[aJ,←R.hl];exact him)):=aB _;have:=(R.hk.ext hfr.ext).set i (x:=(es.map (·.1))[i]'(by rw[aJ,←R.hl];exact him)) (u:=u) ?_
       ·rw[List.set_getElem_self]at this;exact this
       ·have h7:=(R.hk.at_ i _ m0.key hki (by rw[aD,hm0];rfl)).ext hfr.ext;rw[hmk]at h7;exact h7
      ·rcases List.mem_cons.1 hx with hx|hx
       ·cases hx;refine⟨(R.hout i x0 (bC ..)).1,fun m hm=>?_⟩;rw[hget,aF rfl]at hm;cases hm;exact hsub _ _ h3
       ·have hij:i≠j:=by rintro rfl;exact hno x hx
        refine⟨(R.hout j x (hmem hx)).1,fun m hm=>?_⟩;rw[hget,aE hij]at hm;exact hsub _ _ ((R.hout j x (hmem hx)).2 m hm)
      ·obtain⟨hij,hn'⟩:=hni hn;rw[hget,aE hij]at hm;obtain⟨k1,k2,k3⟩:=R.hin j el vs m hn' he hi hm;exact⟨k1,k2,k3.ext hfr.ext⟩
      ·obtain⟨hij,hn'⟩:=hni hn;refine(R.hie j el vs q dd hn' he hi hj).frm hfr (fun v hvj n hn2 e5=>?_) (fun _ _ h=>h);subst e5;have hvm:=aC hvj;have hjl:j < ms.size:=by rw[R.hl];exact(aA.1 he).1
       obtain⟨_,k2,_⟩:=R.hin j el vs ms[j] hn' he hi (aK hjl);have hnd:=R.hnd;rw[dA,List.nodup_cons]at hnd;rw[iM (k2 v hvm)]at hn2;exact hnd.1 (List.mem_flatMap.2 ⟨vs,aC hi,List.mem_flatMap.2 ⟨v,hvm,hn2⟩⟩)
   |_=>exact hK.elim
 |_=>exact hK.elim
theorem Rn {x:Operand}{x':XA}{t kt e:TypeId}(hd:P.underlying t=some (.map kt e)) (ho:o.op=.range t x) (hx:cA x=some x'):pR P o (.rng x'):=by
 intro C st a w r pub keep al K Q hdst hkeep h hK;simp only[dB]at hK;have h1:=h.ev hx;generalize hcv:st.ev x'=cv at hK h1;generalize hv:a.eval x=v at h1;cases h1 with
 |@ph _ k arr _ hr h0 _=>
  try dsimp only at hK
  cases hk:st.H[k]? with
  |none=>rw[hk]at hK;exact hK.elim
  |some en=>
   rw[hk]at hK;cases en with
   |pool tt es outs=>
    obtain⟨b,ms,inner,hr2,R⟩:=h.ent_pool hk;obtain⟨a0,ha0,ha1⟩:=dO b inner;have hb0:=hr.symm.trans hr2;rw[ha0]at hb0;cases hb0;rw[ha1]at h0;cases h0;obtain⟨hdd,hK⟩:=hK.rest _ rfl;have hdd:=eH hdd;have hkq:k≠st.spot al:=by
     intro e1;have:=(h.grow_ al).mod.dead_none hdd;rw[←e1,hr2]at this;cases this
    have hb:=(h.grow_ al).alloc hdd (.mapIter (some b) ms.size #[] ms.size) (.pointer (some ⟨w.heap.size,0,none⟩)) (.iter (.ph k) ms.size []) (by simp[bY])
     (.iter (heap_alloc_new w _) (.ph (by rw[cG _ _ hkq,hr2,ha0]) ha1 rfl) (h.mod.fresh _ (aN _)))
    rw[iG]at hb;have e2:((es.length:Int)).toNat=ms.size:=by rw[R.hl];simp
    rw[e2]at hK;refine cH (v:=.pointer (some ⟨w.heap.size,0,none⟩)) hdst ?_ hb (.ptr 0 (bW _ _ _)) hK (Fr.alloc_ (fun _=>False) pub w _).ext (dP (h.grow_ al) hdd hkeep _ _) (fun _=>rfl);unfold execOp;simp[ho,hv,run_range_map (P:=P) w t kt e b ms ms.size hd R.hb,Sem.run_bind]
   |_=>exact hK.elim
 |@hd _ k _ hr hone=>
  try dsimp only at hK
  cases hk:st.H[k]? with
  |none=>rw[hk]at hK;exact hK.elim
  |some en=>
   rw[hk]at hK;cases en with
   |map tt es=>
    obtain⟨htt,hK⟩:=hK;obtain⟨b,ms,clock,hr2,hb,hl,_,_,hp,hbo⟩:=h.ent_mapB hk;obtain⟨hcl,hborn⟩:=hbo htt;subst hcl;have hb0:=hr.symm.trans hr2;cases hb0;obtain⟨hdd,hK⟩:=hK.rest _ rfl;have hdd:=eH hdd;have hkq:k≠st.spot al:=by
     intro e1;have:=(h.grow_ al).mod.dead_none hdd;rw[←e1,hr2]at this;cases this
    have hb1:=(h.grow_ al).alloc hdd (.mapIter (some b) ms.size #[] ms.size) (.pointer (some ⟨w.heap.size,0,none⟩)) (.iter (.hd k) ms.size []) (by simp[bY])
     (.iter (heap_alloc_new w _) (.hd (by rw[cG _ _ hkq];exact hr2) rfl) (h.mod.fresh _ (aN _)))
    rw[iG]at hb1;have e2:((es.length:Int)).toNat=ms.size:=by rw[hl];simp
    rw[e2]at hK;refine cH (v:=.pointer (some ⟨w.heap.size,0,none⟩)) hdst ?_ hb1 (.ptr 0 (bW _ _ _)) hK (Fr.alloc_ (fun _=>False) pub w _).ext (dP (h.grow_ al) hdd hkeep _ _) (fun _=>rfl);unfold execOp;simp[ho,hv,run_range_map (P:=P) w t kt e b ms ms.size hd hb,Sem.run_bind]
   |_=>exact hK.elim
 |_=>exact hK.elim
theorem Rr {x:Operand}{x':XA}{ty:TypeId}(hty:o.type=ty) (ho:o.op=.next x false) (hx:cA x=some x'):pR P o (.nxt x'):=by
 intro C st a w r pub keep al K Q hdst hkeep h hK;simp only[dB]at hK;have h1:=h.ev hx;generalize hcv:st.ev x'=cv at hK h1;generalize hv:a.eval x=v at h1;cases h1 with
 |@ptr _ q g off hr=>
  cases off with
  |succ _=>exact hK.elim
  |zero=>
  obtain⟨hkq,hK⟩:=hK;cases hq:st.H[q]? with
  |none=>rw[hq]at hK;exact hK.elim
  |some en=>
   rw[hq]at hK;cases en with
   |iter xk since seen=>
    cases xk with
    |ph k=>
     obtain⟨hkk,hK⟩:=hK;cases hk:st.H[k]? with
     |none=>rw[hk]at hK;exact hK.elim
     |some en2=>
      rw[hk]at hK;cases en2 with
      |pool tt es outs=>
       cases outs with
       |cons _ _=>exact hK.elim
       |nil=>
       obtain⟨b,ms,inner,hr2,R⟩:=h.ent_pool hk;obtain⟨a0,ha0,ha1⟩:=dO b inner;have hit:=h.mod.ent q _ hq;rw[hr]at hit;cases hit with
       |@iter _ _ _ _ _ mm hib hix hip=>
       have hmb:mm=b:=by
        cases hix with
        |ph hh hh0 _=>
         rw[hr2,ha0]at hh;cases hh;rw[ha1]at hh0;cases hh0;rfl
       subst hmb;have hsince:=hK.owed;have hms:ms.size=since:=by rw[hsince,R.hl]
       have hold:∀x∈ms.toList,x.born < since:=fun x hx=>by
        obtain⟨i,hi⟩:=aU hx;rw[aX]at hi;rw[R.hborn i x hi,←hms];exact(Array.getElem?_eq_some_iff.1 hi).1
       have hqk:q≠k:=by rintro rfl;rw[hq]at hk;cases hk
       rcases run_next_at (P:=P) w ty g mm since since seen.toArray ms ms.size hib R.hb hold (aN _)with ⟨h0,hrun⟩|⟨en,hen,w1,hw1,hrun⟩
       ·have hover:∀i,i < es.length→i∈seen:=fun i hi=>by
         apply Classical.byContradiction;intro hns;have him:i < ms.size:=by rw[R.hl];exact hi
         have hm:ms[i]∈leftOf ms seen.toArray:=by
          unfold leftOf;rw[Array.mem_filter];refine⟨Array.getElem_mem him,?_⟩;rw[R.hborn i ms[i] (aK him)];simp[hns]
         have:=Array.eq_empty_of_size_eq_zero h0;rw[this]at hm;simp at hm
        refine cH (v:=.tuple #[.bool false]) hdst ?_ h (.tup (l:=[.bl false]) rfl (fun i u z hu hz=>?_)) (hK.over hover) (lV.refl _ _) (eG.refl _ _ _) (fun _=>rfl)
        ·unfold execOp;simp[ho,hv,hty,hrun,Sem.run_bind]
        ·cases i with
         |zero=>simp at hu hz;subst hu hz;exact .bl _
         |succ i=>simp at hu
       ·have hen':en∈ms.toList∧en.born∉seen:=by
         unfold leftOf at hen;simp only[Array.toList_filter,List.mem_filter,Bool.not_eq_true']at hen;refine⟨hen.1,fun hm=>?_⟩;have:=hen.2;simp[hm]at this
        obtain⟨i,hi⟩:=aU hen'.1;rw[aX]at hi;have hbi:=R.hborn i en hi;have him:i < ms.size:=(Array.getElem?_eq_some_iff.1 hi).1;have hil:i < es.length:=by rw[←R.hl];exact him
        obtain⟨⟨key,hd',l⟩,he⟩:∃el,es[i]?=some el:=⟨_,aB hil⟩
        have hK:=hK.next i key hd' l he (by rw[←hbi];exact hen'.2)
        obtain⟨b2,ms2,inner2,r2,q1,R2,q2,q3,q4,q5⟩:=h.focus hk he (by simp);rw[hr2]at q1;have hbm:b2=mm:=by
         have:=Option.some.inj q1;unfold cN at this;simp only[Value.tuple.injEq,List.toArray_eq_toArray_eq,List.cons.injEq,Value.map.injEq,bD]at this;exact this.1.symm
        subst hbm;have hms2:ms2=ms:=by
         have:=R2.hb.symm.trans R.hb;simp only[bD,Obj.map.injEq]at this;exact this.1
        subst hms2;have hql:q < st.H.length:=(aA.1 hq).1;have hkl:k < st.H.length:=(aA.1 hk).1;have hq5:bM C ⟨st.T,st.H.set k (.pool tt es [(i,hd'.ren [] st.H.length)])++gY [] st.H.length l⟩ a w1 r2 pub:=by
         rcases hw1 with rfl|rfl
         ·exact q5
         ·exact q5.draws
        have hr2q:r2 q=some (.pointer (some ⟨g,0,none⟩)):=(q4 q hqk hql).trans hr;have hnew:=hq5.objSet (k:=q) (g:=g) (e:=.iter (.ph k) since (seen++[i])) (.mapIter (some b2) since (seen.toArray.push en.born) ms2.size) hr2q (by simp[bY]) hip (fun hfr=>by
         have hglt:g < w1.heap.size:=by
          have:=lt_of_block hib;rcases hw1 with rfl|rfl<;>exact this
         obtain⟨a3,h3,h4⟩:=dO b2 (inner2.set i []);refine .iter (m:=b2) ?_ (.ph (by rw[q3,h3]) h4 rfl) hip;have:=W1 (w:=w1) (.mapIter (some b2) since (seen.toArray.push en.born) ms2.size) hglt;rw[this,hms,hbi];simp)
        have hH:(st.H.set k (.pool tt es [(i,hd'.ren [] st.H.length)])++gY [] st.H.length l).set q (.iter (.ph k) since (seen++[i]))=(st.H.set q (.iter (.ph k) since (seen++[i]))).set k (.pool tt es [(i,hd'.ren [] st.H.length)])++gY [] st.H.length l:=by
         rw[List.set_append_left _ _ (by rw[aZ];exact hql),List.set_comm _ _ (Ne.symm hqk)]
        dsimp only at hnew;rw[hH]at hnew;have hkey:bS pub w cM key en.key:=R.hk.at_ i _ _ (by rw[aD,he];rfl) (by rw[aD,aX,hi];rfl);have hfr1:lV pub w pub w1:=by rcases hw1 with rfl|rfl;(· exact lV.refl _ _);exact⟨fun _=>aN _,fun _ _ _ _ h=>h,fun _ _ _ h=>h⟩
        have hfr2:=(Fr.objW_ (w:=w1) (b:=g) (.mapIter (some b2) since (seen.toArray.push en.born) ms2.size) pub hip).ext;refine cH (v:=.tuple #[.bool true,en.key,en.val]) hdst (w':=fO w1 g (.mapIter (some b2) since (seen.toArray.push en.born) ms2.size)) ?_ hnew (.tup (l:=[.bl true,key,hd'.ren [] st.H.length]) rfl (fun j u z hu hz=>?_)) hK (hfr1.trans hfr2) (fun n hn=>?_) (fun _=>rfl)
        ·unfold execOp;simp[ho,hv,hty,hrun,Sem.run_bind,fO,ChangeMaps.setBlock]
        ·have h5:bS pub (fO w1 g (.mapIter (some b2) since (seen.toArray.push en.born) ms2.size)) r2 key en.key:=((hkey.mono fun _ _ hn=>by cases hn).ext hfr1).ext hfr2;have h6:bS pub (fO w1 g (.mapIter (some b2) since (seen.toArray.push en.born) ms2.size)) r2 (hd'.ren [] st.H.length) en.val:=((q2 en hi).ext hfr1).ext hfr2;rcases j with _|_|_|j
         ·simp at hu hz;subst hu hz;exact .bl _
         ·simp at hu hz;subst hu hz;exact h5
         ·simp at hu hz;subst hu hz;exact h6
         ·simp at hu
        ·have hnk:n≠k:=by
          rintro rfl;rw[List.contains_eq_mem]at hkk;simp at hkk;exact hkk hn
         have hnq:n≠q:=by
          rintro rfl;rw[List.contains_eq_mem]at hkq;simp at hkq;exact hkq hn
         obtain⟨y1,hy1⟩:=Option.isSome_iff_exists.1 (hkeep n hn);refine⟨q4 n hnk (xY h hy1),fun y hy b' hb'=>?_⟩;have hne:b'≠g:=by
          rintro rfl;exact h.mod.disj n q y _ hnq hy hr b' hb' (by simp[bY])
         rw[lL _ hne];rcases hw1 with rfl|rfl<;>rfl
      |_=>exact hK.elim
    |hd k=>
     try dsimp only at hK
     cases hk:st.H[k]? with
     |none=>rw[hk]at hK;exact hK.elim
     |some en2=>
      rw[hk]at hK;cases en2 with
      |map tt es=>
       obtain⟨htt,hK⟩:=hK;obtain⟨b,ms,clock,hr2,hb,hl,hks,hvs,hp,hbo⟩:=h.ent_mapB hk;obtain⟨hcl,hborn⟩:=hbo htt;subst hcl;have hit:=h.mod.ent q _ hq;rw[hr]at hit;cases hit with
       |@iter _ _ _ _ _ mm hib hix hip=>
       have hmb:mm=b:=by
        cases hix with
        |hd hh _=>
         rw[hr2]at hh;cases hh;rfl
       subst hmb;have hsince:=hK.owed;have hms:ms.size=since:=by rw[hsince,hl]
       have hold:∀x∈ms.toList,x.born < since:=fun x hx=>by
        obtain⟨i,hi⟩:=aU hx;rw[aX]at hi;rw[hborn i x hi,←hms];exact(Array.getElem?_eq_some_iff.1 hi).1
       rcases run_next_at (P:=P) w ty g mm since since seen.toArray ms ms.size hib hb hold (aN _)with ⟨h0,hrun⟩|⟨en,hen,w1,hw1,hrun⟩
       ·have hover:∀i,i < es.length→i∈seen:=fun i hi=>by
         apply Classical.byContradiction;intro hns;have him:i < ms.size:=by rw[hl];exact hi
         have hm:ms[i]∈leftOf ms seen.toArray:=by
          unfold leftOf;rw[Array.mem_filter];refine⟨Array.getElem_mem him,?_⟩;rw[hborn i ms[i] (aK him)];simp[hns]
         have:=Array.eq_empty_of_size_eq_zero h0;rw[this]at hm;simp at hm
        refine cH (v:=.tuple #[.bool false]) hdst ?_ h (.tup (l:=[.bl false]) rfl (fun i u z hu hz=>?_)) (hK.over hover) (lV.refl _ _) (eG.refl _ _ _) (fun _=>rfl)
        ·unfold execOp;simp[ho,hv,hty,hrun,Sem.run_bind]
        ·cases i with
         |zero=>simp at hu hz;subst hu hz;exact .bl _
         |succ i=>simp at hu
       ·have hen':en∈ms.toList∧en.born∉seen:=by
         unfold leftOf at hen;simp only[Array.toList_filter,List.mem_filter,Bool.not_eq_true']at hen;refine⟨hen.1,fun hm=>?_⟩;have:=hen.2;simp[hm]at this
        obtain⟨i,hi⟩:=aU hen'.1;rw[aX]at hi;have hbi:=hborn i en hi;have him:i < ms.size:=(Array.getElem?_eq_some_iff.1 hi).1;have hil:i < es.length:=by rw[←hl];exact him
        obtain⟨⟨key,v0⟩,he⟩:∃el,es[i]?=some el:=⟨_,aB hil⟩
        have hK:=hK.next i key v0 he (by rw[←hbi];exact hen'.2)
        have hq5:bM C st a w1 r pub:=by
         rcases hw1 with rfl|rfl
         ·exact h
         ·exact h.draws
        have hnew:=hq5.objSet (k:=q) (g:=g) (e:=.iter (.hd k) since (seen++[i])) (.mapIter (some mm) since (seen.toArray.push en.born) ms.size) hr (by simp[bY]) hip (fun hfr=>by
         have hglt:g < w1.heap.size:=by
          have:=lt_of_block hib;rcases hw1 with rfl|rfl<;>exact this
         refine .iter (m:=mm) ?_ (.hd hr2 rfl) hip;have:=W1 (w:=w1) (.mapIter (some mm) since (seen.toArray.push en.born) ms.size) hglt;rw[this,hms,hbi];simp)
        have hkey:bS pub w cM key en.key:=hks.at_ i _ _ (by rw[aD,he];rfl) (by rw[aD,aX,hi];rfl);have hval:bS pub w cM v0 en.val:=hvs.at_ i _ _ (by rw[aD,he];rfl) (by rw[aD,aX,hi];rfl);have hfr1:lV pub w pub w1:=by rcases hw1 with rfl|rfl;(· exact lV.refl _ _);exact⟨fun _=>aN _,fun _ _ _ _ h=>h,fun _ _ _ h=>h⟩
        have hfr2:=(Fr.objW_ (w:=w1) (b:=g) (.mapIter (some mm) since (seen.toArray.push en.born) ms.size) pub hip).ext;refine cH (v:=.tuple #[.bool true,en.key,en.val]) hdst (w':=fO w1 g (.mapIter (some mm) since (seen.toArray.push en.born) ms.size)) ?_ hnew (.tup (l:=[.bl true,key,v0]) rfl (fun j u z hu hz=>?_)) hK (hfr1.trans hfr2) (fun n hn=>?_) (fun _=>rfl)
        ·unfold execOp;simp[ho,hv,hty,hrun,Sem.run_bind,fO,ChangeMaps.setBlock]
        ·have h5:bS pub (fO w1 g (.mapIter (some mm) since (seen.toArray.push en.born) ms.size)) r key en.key:=((hkey.mono fun _ _ hn=>by cases hn).ext hfr1).ext hfr2;have h6:bS pub (fO w1 g (.mapIter (some mm) since (seen.toArray.push en.born) ms.size)) r v0 en.val:=((hval.mono fun _ _ hn=>by cases hn).ext hfr1).ext hfr2;rcases j with _|_|_|j
         ·simp at hu hz;subst hu hz;exact .bl _
         ·simp at hu hz;subst hu hz;exact h5
         ·simp at hu hz;subst hu hz;exact h6
         ·simp at hu
        ·have hnq:n≠q:=by
          rintro rfl;rw[List.contains_eq_mem]at hkq;simp at hkq;exact hkq hn
         refine⟨rfl,fun y hy b' hb'=>?_⟩;have hne:b'≠g:=by
          rintro rfl;exact h.mod.disj n q y _ hnq hy hr b' hb' (by simp[bY])
         rw[lL _ hne];rcases hw1 with rfl|rfl<;>rfl
      |_=>exact hK.elim
    |_=>exact hK.elim
   |_=>exact hK.elim
 |_=>exact hK.elim
theorem K5 {x:Operand}{x':XA}(ho:o.op=.entry x) (hx:cA x=some x'):dM P o (.ent x'):=by
 intro C st a w r pub keep al K h hK;simp only[dB]at hK;have h1:=h.ev hx;have hrd:(fT.ent x').reads st=(match st.ev x' with|.ptr q _=>(match st.H[q]? with|some (.iter (.ph k) _ _)=>[q,k]|some (.iter (.hd k) _ _)=>[q,k]|_=>[])|_=>[]):=rfl;generalize hcv:st.ev x'=cv at hK h1 hrd;generalize hv:a.eval x=v at h1;cases h1 with
 |@ptr _ q g off hr=>
  cases off with
  |succ _=>exact hK.elim
  |zero=>
  dsimp only at hrd;replace hK:match st.H[q]? with
   |some (.iter (.ph k) since seen)=>match st.H[k]? with
    |some (.pool _ es outs)=>Q2 es outs since seen fun key y=>K (st.put o.dst (.tup [key,y]))
    |_=>False
   |some (.iter (.hd k) since seen)=>match st.H[k]? with
    |some (.map t es)=>Nat.blt 0 t=true∧Qs es since seen fun key y=>K (st.put o.dst (.tup [key,y]))
    |_=>False
   |_=>False:=hK
  cases hq:st.H[q]? with
  |none=>rw[hq]at hK;exact hK.elim
  |some en=>
   rw[hq]at hK hrd;cases en with
   |iter xk since seen=>
    cases xk with
    |ph k=>
     dsimp only at hK hrd;cases hk:st.H[k]? with
     |none=>rw[hk]at hK;exact hK.elim
     |some en2=>
      rw[hk]at hK;cases en2 with
      |pool tt es outs=>
       obtain⟨b,ms,inner,hr2,R⟩:=h.ent_pool hk;obtain⟨a0,ha0,ha1⟩:=dO b inner;have hit:=h.mod.ent q _ hq;rw[hr]at hit;cases hit with
       |@iter _ _ _ _ _ mm hib hix hip=>
       have hmb:mm=b:=by
        cases hix with
        |ph hh hh0 _=>
         rw[hr2,ha0]at hh;cases hh;rw[ha1]at hh0;cases hh0;rfl
       subst hmb;obtain⟨i,key,x0,hsince,hlast,hkey,hout,hK⟩:=hK.out;have hms:ms.size=since:=by rw[hsince,R.hl]
       obtain⟨hio,hiv⟩:=R.hout i x0 hout;have him:i < ms.size:=by rw[R.hl,←R.hn];exact(aA.1 hio).1
       have hi:ms[i]?=some ms[i]:=aK him;have hbi:=R.hborn i _ hi;obtain⟨pre,hpre⟩:∃pre,seen=pre++[i]:=List.getLast?_eq_some_iff.1 hlast;have hnd:(ms.toList.map (·.born)).Nodup:=by
        rw[List.nodup_iff_pairwise_ne,List.pairwise_iff_getElem];intro p q hp hq hpq;simp only[aJ,bA]at hp hq;simp only[List.getElem_map,Array.getElem_toList];rw[R.hborn p _ (aK hp),R.hborn q _ (aK hq)];omega
       obtain⟨el,hel,hke⟩:∃el,es[i]?=some el∧el.1=key:=by
        cases he:es[i]? with
        |none=>rw[he]at hkey;cases hkey
        |some el=>rw[he]at hkey;cases hkey;exact⟨el,rfl,rfl⟩
       have hk0:bS pub w cM key ms[i].key:=by
        rw[←hke];exact R.hk.at_ i _ _ (by rw[aD,hel];rfl) (by rw[aD,aX,hi];rfl)
       refine⟨.tuple #[ms[i].key,ms[i].val],_,.tup (l:=[key,x0]) rfl (fun j u z hu hz=>?_),hK,fun w' hw'=>?_⟩
       ·rcases j with _|_|j
        ·simp at hu hz;subst hu hz;exact hk0.mono fun _ _ hn=>by cases hn
        ·simp at hu hz;subst hu hz;exact hiv _ hi
        ·simp at hu
       ·have hL:=hw' rfl;have hib':w'.heap[g]?=some (.mapIter (some mm) since (pre.toArray.push ms[i].born) ms.size):=by
         have:=(hL.ent q (by rw[hrd];simp) _ hr g (by simp[bY])).trans hib;rw[this,hpre,hbi,hms];simp
        have hb':w'.heap[mm]?=some (.map ms ms.size):=(hL.ent k (by rw[hrd];simp) _ hr2 mm (by rw[dA];simp)).trans R.hb;have hrun:=run_entry_at (P:=P) w' g mm since pre.toArray ms ms.size ms[i] hib' hb' (by simp) hnd;unfold execOp;simp[ho,hv,hrun,Sem.run_bind]
      |_=>exact hK.elim
    |hd k=>
     dsimp only at hK hrd;cases hk:st.H[k]? with
     |none=>rw[hk]at hK;exact hK.elim
     |some en2=>
      rw[hk]at hK;cases en2 with
      |map tt es=>
       obtain⟨htt,hK⟩:=hK;obtain⟨b,ms,clock,hr2,hb,hl,hks,hvs,hp,hbo⟩:=h.ent_mapB hk;obtain⟨hcl,hborn⟩:=hbo htt;subst hcl;have hit:=h.mod.ent q _ hq;rw[hr]at hit;cases hit with
       |@iter _ _ _ _ _ mm hib hix hip=>
       have hmb:mm=b:=by
        cases hix with
        |hd hh _=>
         rw[hr2]at hh;cases hh;rfl
       subst hmb;obtain⟨i,key,v0,hsince,hlast,hes,hK⟩:=hK.out;have hms:ms.size=since:=by rw[hsince,hl]
       have him:i < ms.size:=by rw[hl];exact(aA.1 hes).1
       have hi:ms[i]?=some ms[i]:=aK him;have hbi:=hborn i _ hi;obtain⟨pre,hpre⟩:∃pre,seen=pre++[i]:=List.getLast?_eq_some_iff.1 hlast;have hnd:(ms.toList.map (·.born)).Nodup:=by
        rw[List.nodup_iff_pairwise_ne,List.pairwise_iff_getElem];intro p q hp hq hpq;simp only[aJ,bA]at hp hq;simp only[List.getElem_map,Array.getElem_toList];rw[hborn p _ (aK hp),hborn q _ (aK hq)];omega
       have hk0:bS pub w cM key ms[i].key:=hks.at_ i _ _ (by rw[aD,hes];rfl) (by rw[aD,aX,hi];rfl);have hv0:bS pub w cM v0 ms[i].val:=hvs.at_ i _ _ (by rw[aD,hes];rfl) (by rw[aD,aX,hi];rfl);refine⟨.tuple #[ms[i].key,ms[i].val],_,.tup (l:=[key,v0]) rfl (fun j u z hu hz=>?_),hK,fun w' hw'=>?_⟩
       ·rcases j with _|_|j
        ·simp at hu hz;subst hu hz;exact hk0.mono fun _ _ hn=>by cases hn
        ·simp at hu hz;subst hu hz;exact hv0.mono fun _ _ hn=>by cases hn
        ·simp at hu
       ·have hL:=hw' rfl;have hib':w'.heap[g]?=some (.mapIter (some mm) since (pre.toArray.push ms[i].born) ms.size):=by
         have:=(hL.ent q (by rw[hrd];simp) _ hr g (by simp[bY])).trans hib;rw[this,hpre,hbi,hms];simp
        have hb':w'.heap[mm]?=some (.map ms ms.size):=(hL.ent k (by rw[hrd];simp) _ hr2 mm (by simp[bY])).trans hb;have hrun:=run_entry_at (P:=P) w' g mm since pre.toArray ms ms.size ms[i] hib' hb' (by simp) hnd;unfold execOp;simp[ho,hv,hrun,Sem.run_bind]
      |_=>exact hK.elim
    |_=>exact hK.elim
   |_=>exact hK.elim
 |_=>exact hK.elim
theorem QZ {t e:TypeId}{x y:Operand}{x' y':XA}{it:TypeInfo}{z:Value}{zs:List AV}(ht:P.underlying t=some (.slice e)) (hi:P.info? e=some it) (hz:it.zero=some z) (hc:gH z.cells.toList=some zs) (hzs:zs.length=it.size) (hz0:it.size≠0)
  (ho:o.op=.makeSlice t x y) (hx:cA x=some x') (hy:cA y=some y'):pR P o (.mks e it.size it.bytes zs x' y'):=by
 intro C st a w r pub keep al K Q hdst hkeep h hK;simp only[dB]at hK;have h1:=h.ev hx;have h2:=h.ev hy;generalize hcv:st.ev x'=cv at hK h1;generalize hcu:st.ev y'=cu at hK h2;generalize hv:a.eval x=v at h1;generalize hu:a.eval y=u at h2;cases h1 with
 |int k1 n=>
  cases h2 with
  |int k2 c=>
   obtain⟨⟨h0,hnc,hcm,hby⟩,hK⟩:=hK;obtain⟨hdd,hK⟩:=hK _ rfl;have hdd:=eH hdd;obtain⟨n,rfl⟩:=Int.eq_ofNat_of_zero_le h0;obtain⟨c,rfl⟩:=Int.eq_ofNat_of_zero_le (show 0≤c by omega);have hz1:=(oM hc).1;have hzl:=(fG (pub:=pub) (w:=w) (r:=cM) hc).len;have hzsz:z.cells.size=it.size:=by simp at hzl;omega
   have hrep:∀x∈List.replicate n (cO it.size zs),x.cells.length=it.size∧x.cells.all AV.one=true:=fun x hx=>by
    obtain⟨_,rfl⟩:=List.mem_replicate.1 hx;rw[eM hzs hz1];exact⟨hzs,hz1⟩
   have hle:n * it.size≤c * it.size:=Nat.mul_le_mul_right _ (by omega);have hbase:bO pub w cM ((List.replicate n (cO it.size zs)).flatMap AV.cells) ((madeCells z.cells (c * it.size)).toList.take (n * it.size)):=by
    have hlen:((List.replicate n (cO it.size zs)).flatMap AV.cells).length=n * it.size:=by rw[eA _ (fun z hz=>(hrep z hz).1),List.length_replicate]
    refine⟨by rw[aR,bA,size_madeCells,hlen,Nat.min_eq_left hle],fun q x u hx hu=>?_⟩;have hq:q < n * it.size:=by rw[←hlen];exact(aA.1 hx).1
    rw[mQ n zs _ (eM hzs hz1) q (by rw[hzs];exact hq)]at hx;obtain⟨y,hy,hvy⟩:=(fG (pub:=pub) (w:=w) (r:=cM) hc).get hx;have hm:q % it.size < z.cells.size:=by rw[hzsz];exact Nat.mod_lt _ (by omega)
    rw[List.getElem?_take,aF hq]at hu;simp only[madeCells,Array.toList_map,Array.toList_range,aD]at hu;rw[List.getElem?_range (by omega)]at hu;cases hu;rw[hzs]at hy;rw[hzsz];dsimp only;rw[getElem!_pos z.cells (q % it.size) hm];have:z.cells.toList[q % it.size]?=some z.cells[q % it.size]:=by rw[aX];exact aK hm
    rw[this]at hy;cases hy;exact hvy
   have hcm':c≤maxLen:=by omega
   have hb:=(h.grow_ al).newrow hdd e it.size n c _ (madeCells z.cells (c * it.size)) (List.length_replicate) (by omega) hcm' (size_madeCells _ _) hbase hrep;rw[iG]at hb;have hrun:=run_make (P:=P) w t e it z ht hi hz k1 k2 (n:Int) (c:Int) (by omega) hnc (by omega) (by unfold maxLen at hcm;omega);simp only[Int.toNat_natCast]at hrun;refine cH (v:=.slice (some ⟨w.heap.size,0,none⟩) n c) hdst ?_ hb (.hd (bW _ _ _) rfl) hK (Fr.alloc_ (fun _=>False) pub w _).ext (dP (h.grow_ al) hdd hkeep _ _) (fun _=>rfl);unfold execOp;simp[ho,hv,hu,hrun,Sem.run_bind]
  |_=>exact hK.elim
 |_=>cases h2<;>exact hK.elim
theorem Cs {pub:cI}{w:World}{r:cF}(t:TypeId) (hp:pub w.heap.size=0):dR pub (w.alloc (.map #[] 0)) r (some (cN w.heap.size [])) (.pool t [] []):=
 .pool (ms:=#[]) (heap_alloc_new w _) rfl rfl (fun i m h=>by simp at h) .nil (fun i x h=>by cases h) (fun i e vs m _ h=>by simp at h) (fun i e vs j d _ h=>by simp at h) (by rw[dA];simp) hp
theorem Rb {t:TypeId}(ho:o.op=.makeMap t none):pR P o (.mkp t):=by
 intro C st a w r pub keep al K Q hd hk h hK;simp only[dB]at hK;obtain⟨hdd,hK⟩:=hK;have hdd:=eH hdd;have hb:=(h.grow_ al).alloc hdd (.map #[] 0) (cN w.heap.size []) (.pool t [] []) (by rw[dA];simp) (Cs t (h.mod.fresh _ (aN _)));rw[iG]at hb;obtain⟨a0,ha0,ha1⟩:=dO w.heap.size [];refine cH (v:=.map (some w.heap.size)) hd ?_ hb (.ph (by rw[bW,ha0]) ha1 rfl) hK (Fr.alloc_ (fun _=>False) pub w _).ext (dP (h.grow_ al) hdd hk _ _) (fun _=>rfl);unfold execOp;simp[ho,Instr.makeMap]
theorem Ru {t:TypeId}{x:Operand}{x':XA}{kt e:TypeId}(hd:P.underlying t=some (.map kt e)) (ho:o.op=.makeMap t (some x)) (hx:cA x=some x'):pR P o (.mkq t x'):=by
 intro C st a w r pub keep al K Q hdst hk h hK;simp only[dB]at hK;have h1:=h.ev hx;generalize hcv:st.ev x'=cv at hK h1;generalize hv:a.eval x=v at h1;cases h1 with
 |int k n=>
  obtain⟨hdd,hK⟩:=hK;have hdd:=eH hdd;have hb:=(h.grow_ al).alloc hdd (.map #[] 0) (cN w.heap.size []) (.pool t [] []) (by rw[dA];simp) (Cs t (h.mod.fresh _ (aN _)));rw[iG]at hb;obtain⟨a0,ha0,ha1⟩:=dO w.heap.size [];refine cH (v:=.map (some w.heap.size)) hdst ?_ hb (.ph (by rw[bW,ha0]) ha1 rfl) hK (Fr.alloc_ (fun _=>False) pub w _).ext (dP (h.grow_ al) hdd hk _ _) (fun _=>rfl);unfold execOp;simp[ho,hv,Instr.makeMap,Sem.run_bind,run_underlying hd,asInt,asIntOf]
 |_=>exact hK.elim
theorem QQ {t:TypeId}{x:Operand}{x':XA}{kt e:TypeId}(hd:P.underlying t=some (.map kt e)) (ho:o.op=.makeMap t (some x)) (hx:cA x=some x'):pR P o (.mkr t x'):=by
 intro C st a w r pub keep al K Q hdst hk h hK;simp only[dB]at hK;have h1:=h.ev hx;generalize hcv:st.ev x'=cv at hK h1;generalize hv:a.eval x=v at h1;cases h1 with
 |int k n=>
  obtain⟨hdd,hK⟩:=hK;have hdd:=eH hdd;have hb:=(h.grow_ al).newmap hdd t;rw[iG]at hb;refine cH (v:=.map (some w.heap.size)) hdst ?_ hb (.hd (bW _ _ _) rfl) hK (Fr.alloc_ (fun _=>False) pub w _).ext (dP (h.grow_ al) hdd hk _ _) (fun _=>rfl);unfold execOp;simp[ho,hv,Instr.makeMap,Sem.run_bind,run_underlying hd,asInt,asIntOf]
 |_=>exact hK.elim
end
end Go.Proofs.YtooioahiijbomaaGreatDoor
namespace Go.Proofs.YtooioahiijbomaaGreatDoor
open Go.RowKit
def fT.isPure:fT→Bool
 |.box ..=>false
 |.alloc ..=>false
 |.bsl ..=>false
 |.bsp ..=>false
 |.st ..=>false
 |.app ..=>false
 |.call ..=>false
 |.cav ..=>false
 |.mkm ..=>false
 |.upd ..=>false
 |.del ..=>false
 |.plk ..=>false
 |.pup ..=>false
 |.rng ..=>false
 |.nxt ..=>false
 |.mks ..=>false
 |.mkr ..=>false
 |.mkp ..=>false
 |.bad=>false
 |.slt ..=>false
 |.mkq ..=>false
 |_=>true
def Nc:Option Operand→Option (Option XA)
 |none=>some none
 |some x=>(cA x).map some
theorem Gg {x:Option Operand}{y:Option XA}(h:Nc x=some y):y=x.bind cA∧y.isSome=x.isSome:=by
 cases x with
 |none=>cases h;exact⟨rfl,rfl⟩
 |some x=>
  simp only[Nc,Option.map_eq_some_iff]at h;obtain⟨z,hz,rfl⟩:=h;exact⟨by simp[hz],rfl⟩
def sR:Operand→Bool
 |.const .nilFunc=>true
 |_=>false
theorem uE {x:Operand}(h:sR x=true):x=.const .nilFunc:=by
 unfold sR at h
 split at h
 ·rfl
 ·cases h
def Xg:Operand→Bool
 |.const .nilIface=>true
 |_=>false
theorem Xl {x:Operand}(h:Xg x=true):x=.const .nilIface:=by
 unfold Xg at h
 split at h
 ·rfl
 ·cases h
def oZ:Operand→Bool
 |.const (.pointer none)=>true
 |_=>false
theorem qZ {x:Operand}(h:oZ x=true):x=.const (.pointer none):=by
 unfold oZ at h
 split at h
 ·rfl
 ·cases h
def sD:Operand→Bool
 |.const (.slice none 0 0)=>true
 |_=>false
theorem tM {x:Operand}(h:sD x=true):x=.const (.slice none 0 0):=by
 unfold sD at h
 split at h
 ·rfl
 ·cases h
def oX:Operand→Bool
 |.const (.map none)=>true
 |_=>false
theorem rK {x:Operand}(h:oX x=true):x=.const (.map none):=by
 unfold oX at h
 split at h
 ·rfl
 ·cases h
def Ep:Value→Option AV
 |.agg cs=>(gH cs.toList).map .agg
 |v=>lT v
theorem xM {z:Value}{x:AV}(h:Ep z=some x) (pub:cI) (w:World) (r:cF):bS pub w r x z:=by
 unfold Ep at h
 split at h
 ·rename_i cs;simp only[Option.map_eq_some_iff]at h;obtain⟨l,hl,rfl⟩:=h;have:=fG (pub:=pub) (w:=w) (r:=r) hl;exact .agg (by simpa using this.len) fun i x u hx hu=>this.at_ i x u hx (by simpa using hu)
 ·exact oN h
def Lu (P:bG) (e:TypeId):Bool:=
 match P.underlying e with
 |some (.pointer _)=>true
 |some (.slice _)=>true
 |_=>false
def Lf (P:bG) (t:TypeId):Bool:=match P.underlying t with
 |some (.map _ e)=>Lu P e
 |_=>false
def RO (P:bG) (t:TypeId) (x y:Operand) (ok:Bool):Option fT:=
 match P.underlying t with
 |some (.map kt e)=>match P.underlying kt with
  |some d=>match rV P kt d with
   |some ky=>match P.info? e with
    |some it=>match it.zero with
     |some z=>match Ep z,cA x,cA y with
      |some za,some x',some y'=>if Lu P e=true then some (.plk ky ok za x' y') else some (.lkp ky ok za x' y')
      |_,_,_=>none
     |none=>none
    |none=>none
   |none=>none
  |none=>none
 |_=>none
def LZ (P:bG) (t:TypeId) (x y z:Operand):Option fT:=
 match P.underlying t with
 |some (.map kt e)=>match P.underlying kt with
  |some d=>match rV P kt d with
   |some ky=>match cA x,cA y,cA z with
    |some x',some y',some z'=>if Lu P e=true then some (.pup ky x' y' z') else some (.upd ky x' y' z')
    |_,_,_=>none
   |none=>none
  |none=>none
 |_=>none
def Rj (P:bG) (t:TypeId) (x y:Operand):Option fT:=
 match P.underlying t with
 |some (.map kt _)=>match P.underlying kt with
  |some d=>match rV P kt d with
   |some ky=>match cA x,cA y with
    |some x',some y'=>some (.del ky x' y')
    |_,_=>none
   |none=>none
  |none=>none
 |_=>none
def P5 (P:bG) (op:BinOp) (t:TypeId) (x y:Operand):Option fT:=
 match cA x with
 |none=>none
 |some x'=>match cA y with
  |none=>none
  |some y'=>match op with
   |.eql=>match P.underlying t with
    |some (.pointer _)=>if oZ y then some (.cmn false x') else none
    |some (.func _ _ _)=>if sR y then some (.cmf false x') else none
    |some (.slice _)=>if sD y then some (.nils false x') else none
    |some (.map _ _)=>if oX y then some (.nilm false x') else none
    |some .bool=>some (.cmb .eql x' y')
    |some (.int _)=>some (.cmp .eql x' y')
    |some .string=>some (.cmp .eql x' y')
    |some (.struct fs)=>if P.stoodInHeld t=false∧P.eqGuardType P.depth t=false then (kJ P fs.toList 0).map fun ks=>.cms false ks x' y' else none
    |some (.interface _)=>if Xg y then some (.cmi false x') else none
    |some (.array n e)=>match P.info? e,(P.underlying e).bind uK with
     |some it,some k=>if it.size=1∧P.eqGuardType P.depth t=false then some (.cms false (List.replicate n k) x' y') else none
     |_,_=>none
    |_=>none
   |.neq=>match P.underlying t with
    |some (.pointer _)=>if oZ y then some (.cmn true x') else none
    |some (.func _ _ _)=>if sR y then some (.cmf true x') else none
    |some (.slice _)=>if sD y then some (.nils true x') else none
    |some (.map _ _)=>if oX y then some (.nilm true x') else none
    |some .bool=>some (.cmb .neq x' y')
    |some (.int _)=>some (.cmp .neq x' y')
    |some .string=>some (.cmp .neq x' y')
    |some (.struct fs)=>if P.stoodInHeld t=false∧P.eqGuardType P.depth t=false then (kJ P fs.toList 0).map fun ks=>.cms true ks x' y' else none
    |some (.interface _)=>if Xg y then some (.cmi true x') else none
    |some (.array n e)=>match P.info? e,(P.underlying e).bind uK with
     |some it,some k=>if it.size=1∧P.eqGuardType P.depth t=false then some (.cms true (List.replicate n k) x' y') else none
     |_,_=>none
    |_=>none
   |.lss=>some (.cmp .lss x' y')
   |.leq=>some (.cmp .leq x' y')
   |.gtr=>some (.cmp .gtr x' y')
   |.geq=>some (.cmp .geq x' y')
   |.shl=>match P.underlying t with
    |some (.int k)=>some (.shf .shl k x' y')
    |_=>none
   |.shr=>match P.underlying t with
    |some (.int k)=>some (.shf .shr k x' y')
    |_=>none
   |op=>match P.underlying t with
    |some (.int k)=>some (.ari op k x' y')
    |some .string=>some (.ari op .i64 x' y')
    |_=>none
def Ka (P:bG) (s t:TypeId) (x:Operand):Option fT:=
 match P.underlying s with
 |none=>none
 |some _=>match P.underlying t with
  |some (.int k)=>(cA x).map (.cvi k)
  |some .string=>match P.underlying s with
   |some (.slice e)=>match P.underlying e with
    |some (.int .u8)=>(cA x).map .b2s
    |_=>none
   |_=>(cA x).map .cvs
  |_=>none
def Pv (P:bG) (s:TypeId) (x:Operand) (f:Nat):Option fT:=
 match P.underlying s with
 |some (.struct fields)=>match fields[f]? with
  |some fd=>match P.info? fd.type with
   |some i=>if i.size=0 then none else (cA x).map (.fad fd.offset)
   |none=>none
  |none=>none
 |_=>none
def PT (P:bG) (s:TypeId) (x:Operand) (f:Nat):Option fT:=
 match P.underlying s with
 |some (.struct fields)=>match fields[f]? with
  |some fd=>match P.info? fd.type with
   |some i=>match iZ P fd.type with
    |some ag=>(cA x).map (.fld ag fd.offset i.size)
    |none=>none
   |none=>none
  |none=>none
 |_=>none
def OB (P:bG) (t:TypeId) (x y:Operand):Option fT:=
 match P.underlying t with
 |some (.array n e)=>match P.info? e with
  |some i=>match cA x,cA y with
   |some x',some y'=>some (.aia i.size n x' y')
   |_,_=>none
  |none=>none
 |some (.slice e)=>match P.info? e with
  |some i=>if i.size=0 then none else match cA x,cA y with
   |some x',some y'=>some (.iad i.size x' y')
   |_,_=>none
  |none=>none
 |_=>none
def Ph (P:bG) (t:TypeId) (x:Operand) (lo hi:Option Operand):Option fT:=
 match cA x,Nc lo,Nc hi with
 |some x',some lo',some hi'=>match P.underlying t with
  |some .string=>some (.sls x' lo' hi')
  |some (.slice e)=>match P.info? e with
   |some i=>if i.size=0 then none else some (.sli i.size x' lo' hi')
   |none=>none
  |_=>none
 |_,_,_=>none
def Ti (P:bG) (t:TypeId) (x:Operand):Option fT:=
 match P.info? t,iZ P t,cA x with
 |some i,some ag,some x'=>if ag=false∧i.size≠1 then none else some (.ld ag i.size x')
 |_,_,_=>none
def PP (P:bG) (t:TypeId) (parts:Array (Nat×Operand)):Option fT:=
 match P.info? t with
 |none=>none
 |some it=>match it.zero with
  |none=>none
  |some z=>match sH P t with
   |none=>none
   |some place=>match gH z.cells.toList,vA place parts.toList with
    |some zs,some ps=>some (.bld zs ps)
    |_,_=>none
def OH (P:bG) (t n:Nat) (parts:Array (Nat×Operand)):Option fT:=
 match P.underlying t with
 |some (.slice e)=>match P.info? e with
  |none=>none
  |some it=>match it.zero with
   |none=>none
   |some z=>match gH z.cells.toList,nN parts.toList with
    |some zs,some ps=>if zs.length=it.size∧it.size≠0∧n * it.size≤16777216 then some (.bsl e it.size n zs ps) else none
    |_,_=>none
 |_=>none
def Pw (P:bG) (ty t:Nat) (x y:Operand):Option fT:=
 match P.underlying t with
 |some (.slice e)=>match P.info? e with
  |none=>none
  |some it=>match it.zero with
   |none=>none
   |some z=>match cA x,cA y with
    |some x',some y'=>if z.cells.size=it.size∧it.size≠0 then some (.app t ty e it.size it.bytes x' y') else none
    |_,_=>none
 |_=>none
def QC (P:bG) (t:Nat) (x:Operand):Option fT:=
 match P.underlying t with
 |some .string=>(cA x).map .lens
 |some (.slice _)=>(cA x).map .lenl
 |some (.map _ _)=>(cA x).map .lenm
 |_=>none
def I8 (P:bG) (ty:TypeId) (c:Call):Option fT:=
 match c.callee with
 |.builtin .len=>match c.args.toList,c.argTypes.toList with
  |[x],[t]=>QC P t x
  |_,_=>none
 |.builtin .append=>match c.args.toList,c.argTypes.toList with
  |[x,y],[t,t']=>if t=t' then Pw P ty t x y else none
  |_,_=>none
 |.builtin .min=>match c.args.toList with
  |[x,y]=>match cA x,cA y with
   |some x',some y'=>some (.mnx false x' y')
   |_,_=>none
  |_=>none
 |.builtin .max=>match c.args.toList with
  |[x,y]=>match cA x,cA y with
   |some x',some y'=>some (.mnx true x' y')
   |_,_=>none
  |_=>none
 |.builtin .delete=>match c.args.toList,c.argTypes.toList with
  |[x,y],[t,_]=>Rj P t x y
  |_,_=>none
 |.value (.func f)=>if nA P f=true then (Hk c.args.toList).map (.call f) else none
 |.value x=>match cA x,Hk c.args.toList with
  |some x',some l=>some (.cav x' l)
  |_,_=>none
 |_=>none
def Oh (P:bG) (o:Oper):Option fT:=
 match o.op with
 |.move x=>(cA x).map .mov
 |.assign x=>(cA x).map .mov
 |.pick c a b=>match cA c,cA a,cA b with
  |some c',some a',some b'=>some (.pick c' a' b')
  |_,_,_=>none
 |.alloc t=>match P.info? t with
  |some it=>match it.zero with
   |some z=>(gH z.cells.toList).map (.alloc t)
   |none=>none
  |none=>none
 |.box t x=>(cA x).map (.box t)
 |.build t parts=>PP P t parts
 |.buildSlice t n parts=>OH P t n parts
 |.load t x=>Ti P t x
 |.store t x y=>match P.info? t,cA x,cA y with
  |some i,some x',some y'=>some (.st i.size x' y')
  |_,_,_=>none
 |.nilCheck x=>(cA x).map .nck
 |.binOp op t x y _=>P5 P op t x y
 |.unOp .not _ x=>(cA x).map .not
 |.unOp .neg t x=>match P.underlying t with
  |some (.int k)=>(cA x).map (.neg k)
  |_=>none
 |.convert s t x=>Ka P s t x
 |.fieldAddr s x f=>Pv P s x f
 |.field s x f=>PT P s x f
 |.indexAddr t x y=>OB P t x y
 |.index t x y=>match P.underlying t with
  |some (.array n e)=>match P.info? e,iZ P e,cA x,cA y with
   |some i,some ag,some x',some y'=>if ag=false∧i.size≠1 then none else some (.aix ag i.size n x' y')
   |_,_,_,_=>none
  |some .string=>match cA x,cA y with
   |some x',some y'=>some (.idx x' y')
   |_,_=>none
  |_=>none
 |.slice t x lo hi none=>Ph P t x lo hi
 |.extract x i=>(cA x).map fun x'=>.ext x' i
 |.makeFunc (.func f) first caps=>if first.size=0 then (Hk caps.toList).map (.mkf f) else if caps.size=0 then (Hk first.toList).map (.mkn f) else none
 |.makeMap t none=>if Lf P t=true then some (.mkp t) else some (.mkm t)
 |.makeMap t (some x)=>match P.underlying t with
  |some (.map _ _)=>if Lf P t=true then (cA x).map (.mkq t) else (cA x).map (.mkr t)
  |_=>none
 |.makeSlice t x y=>match P.underlying t with
  |some (.slice e)=>match P.info? e with
   |none=>none
   |some it=>match it.zero with
    |none=>none
    |some z=>match gH z.cells.toList,cA x,cA y with
     |some zs,some x',some y'=>if zs.length=it.size∧it.size≠0 then some (.mks e it.size it.bytes zs x' y') else none
     |_,_,_=>none
  |_=>none
 |.range t x=>match P.underlying t with
  |some (.map _ _)=>(cA x).map .rng
  |_=>none
 |.next x false=>(cA x).map .nxt
 |.entry x=>(cA x).map .ent
 |.lookup t x y ok=>RO P t x y ok
 |.mapUpdate t x y z=>LZ P t x y z
 |.insert t x y z=>LZ P t x y z
 |.call c=>I8 P o.type c
 |_=>none
def mZ (P:bG) (o:Oper) (x:fT):Prop:=(x.isPure=true→dM P o x)∧pR P o x
section
variable {P:bG}{o:Oper}{x:fT}
theorem bV (h:dM P o x):mZ P o x:=⟨fun _=>h,Cc h⟩
theorem eJ (h:pR P o x) (hp:x.isPure=false):mZ P o x:=⟨fun h'=>(by rw[hp]at h';cases h'),h⟩
theorem Fe {t:TypeId}{a b c:Operand}(ho:o.op=.insert t a b c) (h:pR P { o with op:=.mapUpdate t a b c } x):pR P o x:=by
 intro C st act w r pub keep al K Q hd hk hh hK;have h1:=h C st act w r pub keep al K Q hd hk hh hK;obtain⟨dst,ty,op,g,ar,ps⟩:=o;dsimp only at ho;subst ho;exact h1
theorem map_some {α β:Type}{f:α→β}{a:Option α}{b:β}(h:a.map f=some b):∃y,a=some y∧f y=b:=by
 cases a with
 |none=>cases h
 |some y=>cases h;exact⟨y,rfl,rfl⟩
theorem ND {op:BinOp}{t t':TypeId}{a b:Operand}(ho:o.op=.binOp op t a b t') (h:P5 P op t a b=some x):mZ P o x:=by
 unfold P5 at h
 split at h
 ·cases h
 ·rename_i x' hx
  split at h
  ·cases h
  ·rename_i y' hy
   split at h
   ·split at h
    ·rename_i e hd
     split at h
     ·cases h;exact bV (Br false rfl hd ho hx (qZ (by assumption)))
     ·cases h
    ·rename_i hd
     split at h
     ·cases h;exact bV (AX false rfl hd ho hx (uE (by assumption)))
     ·cases h
    ·rename_i e hd
     split at h
     ·cases h;exact bV (wQ false rfl hd ho hx (tM (by assumption)))
     ·cases h
    ·rename_i k0 e hd
     split at h
     ·cases h;exact bV (xP false rfl hd ho hx (rK (by assumption)))
     ·cases h
    ·rename_i hd;cases h;exact bV (Ca hd ho hx hy)
    ·cases h;exact bV (iT ho hx hy)
    ·cases h;exact bV (iT ho hx hy)
    ·rename_i fs hd
     split at h
     ·rename_i hh;obtain⟨ks,hks,rfl⟩:=map_some h;exact bV (Bj false rfl hd hh.1 hh.2 hks ho hx hy)
     ·cases h
    ·rename_i ms hd
     split at h
     ·cases h;exact bV (Yo false rfl hd ho hx (Xl (by assumption)))
     ·cases h
    ·rename_i n e hd
     split at h
     ·rename_i it k hi hk
      split at h
      ·rename_i hh;cases h;exact bV (Ys false rfl hd hi hh.1 hk hh.2 ho hx hy)
      ·cases h
     ·cases h
    ·cases h
   ·split at h
    ·rename_i e hd
     split at h
     ·cases h;exact bV (Br true rfl hd ho hx (qZ (by assumption)))
     ·cases h
    ·rename_i hd
     split at h
     ·cases h;exact bV (AX true rfl hd ho hx (uE (by assumption)))
     ·cases h
    ·rename_i e hd
     split at h
     ·cases h;exact bV (wQ true rfl hd ho hx (tM (by assumption)))
     ·cases h
    ·rename_i k0 e hd
     split at h
     ·cases h;exact bV (xP true rfl hd ho hx (rK (by assumption)))
     ·cases h
    ·rename_i hd;cases h;exact bV (Ca hd ho hx hy)
    ·cases h;exact bV (iT ho hx hy)
    ·cases h;exact bV (iT ho hx hy)
    ·rename_i fs hd
     split at h
     ·rename_i hh;obtain⟨ks,hks,rfl⟩:=map_some h;exact bV (Bj true rfl hd hh.1 hh.2 hks ho hx hy)
     ·cases h
    ·rename_i ms hd
     split at h
     ·cases h;exact bV (Yo true rfl hd ho hx (Xl (by assumption)))
     ·cases h
    ·rename_i n e hd
     split at h
     ·rename_i it k hi hk
      split at h
      ·rename_i hh;cases h;exact bV (Ys true rfl hd hi hh.1 hk hh.2 ho hx hy)
      ·cases h
     ·cases h
    ·cases h
   ·cases h;exact bV (iT ho hx hy)
   ·cases h;exact bV (iT ho hx hy)
   ·cases h;exact bV (iT ho hx hy)
   ·cases h;exact bV (iT ho hx hy)
   ·split at h
    ·cases h;exact bV (B5 (.inl rfl) ho hx hy)
    ·cases h
   ·split at h
    ·cases h;exact bV (B5 (.inr rfl) ho hx hy)
    ·cases h
   ·split at h
    ·cases h;exact bV (Be ho hx hy)
    ·cases h;exact bV (Be ho hx hy)
    ·cases h
theorem I4 {s t:TypeId}{a:Operand}(ho:o.op=.convert s t a) (h:Ka P s t a=some x):mZ P o x:=by
 unfold Ka at h
 split at h
 ·cases h
 ·rename_i d hd
  split at h
  ·rename_i k ht;obtain⟨y,hy,rfl⟩:=map_some h;exact bV (JT hd ht ho hy)
  ·rename_i ht
   split at h
   ·rename_i e hs
    split at h
    ·rename_i he;obtain⟨y,hy,rfl⟩:=map_some h;exact bV (LJ hs he ht ho hy)
    ·cases h
   ·obtain⟨y,hy,rfl⟩:=map_some h;exact bV (JN hd ht ho hy)
  ·cases h
theorem aiM {s:TypeId}{a:Operand}{f:Nat}(ho:o.op=.fieldAddr s a f) (h:Pv P s a f=some x):mZ P o x:=by
 unfold Pv at h
 split at h
 ·rename_i fields hd
  split at h
  ·rename_i fd hf
   split at h
   ·rename_i i hi
    split at h
    ·cases h
    ·rename_i h0;obtain⟨y,hy,rfl⟩:=map_some h;exact bV (Kb hd hf hi h0 ho hy)
   ·cases h
  ·cases h
 ·cases h
theorem NJ {s:TypeId}{a:Operand}{f:Nat}(ho:o.op=.field s a f) (h:PT P s a f=some x):mZ P o x:=by
 unfold PT at h
 split at h
 ·rename_i fields hd
  split at h
  ·rename_i fd hf
   split at h
   ·rename_i i hi
    split at h
    ·rename_i ag ha;obtain⟨y,hy,rfl⟩:=map_some h;exact bV (Jn hd hf hi ha ho hy)
    ·cases h
   ·cases h
  ·cases h
 ·cases h
theorem Nz {t:TypeId}{a b:Operand}(ho:o.op=.indexAddr t a b) (h:OB P t a b=some x):mZ P o x:=by
 unfold OB at h
 split at h
 ·rename_i n e hd
  split at h
  ·rename_i i hi
   split at h
   ·rename_i x' y' hx hy;cases h;exact bV (LK hd hi ho hx hy)
   ·cases h
  ·cases h
 ·rename_i e hd
  split at h
  ·rename_i i hi
   split at h
   ·cases h
   ·rename_i h0
    split at h
    ·rename_i x' y' hx hy;cases h;exact bV (I1 hd hi h0 ho hx hy)
    ·cases h
  ·cases h
 ·cases h
theorem NI {t:TypeId}{a:Operand}{lo hi:Option Operand}(ho:o.op=.slice t a lo hi none) (h:Ph P t a lo hi=some x):mZ P o x:=by
 unfold Ph at h
 split at h
 ·rename_i x' lo' hi' hx hl hh;obtain⟨l1,l2⟩:=Gg hl;obtain⟨h1,h2⟩:=Gg hh
  split at h
  ·rename_i hd;cases h;exact bV (aeX hd ho hx l1 l2 h1 h2)
  ·rename_i e hd
   split at h
   ·rename_i i hi
    split at h
    ·cases h
    ·rename_i h0;cases h;exact bV (BH hd hi h0 ho hx l1 l2 h1 h2)
   ·cases h
  ·cases h
 ·cases h
theorem Qq {t:TypeId}{a:Operand}(ho:o.op=.load t a) (h:Ti P t a=some x):mZ P o x:=by
 unfold Ti at h
 split at h
 ·rename_i i ag x' hi ha hx
  split at h
  ·cases h
  ·rename_i h0;cases h;exact bV (NN hi ha (fun hag=>by
    rcases Nat.decEq i.size 1 with h1|h1
    ·exact absurd ⟨hag,h1⟩ h0
    ·exact h1) ho hx)
 ·cases h
theorem L7 {t:TypeId}{parts:Array (Nat×Operand)}(ho:o.op=.build t parts) (h:PP P t parts=some x):mZ P o x:=by
 unfold PP at h
 split at h
 ·cases h
 ·rename_i it hi
  split at h
  ·cases h
  ·rename_i z hz
   split at h
   ·cases h
   ·rename_i place hp
    split at h
    ·rename_i zs ps hc hps;cases h;exact bV (Jh hi hz hp hc hps ho)
    ·cases h
theorem Mb {t n:Nat}{parts:Array (Nat×Operand)}(ho:o.op=.buildSlice t n parts) (h:OH P t n parts=some x):mZ P o x:=by
 unfold OH at h
 split at h
 ·rename_i e ht
  split at h
  ·cases h
  ·rename_i it hi
   split at h
   ·cases h
   ·rename_i z hz
    split at h
    ·rename_i zs ps hc hps
     split at h
     ·rename_i hh;cases h;exact eJ (Rm ht hi hz hc hh.1 hh.2.1 (by have:=hh.2.2;omega) hps ho) rfl
     ·cases h
    ·cases h
 ·cases h
theorem MM {t:Nat}{a b:Operand}(ho:o.op=.call ⟨.builtin .append,#[a,b],#[t,t]⟩) (h:Pw P o.type t a b=some x):mZ P o x:=by
 unfold Pw at h
 split at h
 ·rename_i e ht
  split at h
  ·cases h
  ·rename_i it hi
   split at h
   ·cases h
   ·rename_i z hz
    split at h
    ·rename_i x' y' hx hy
     split at h
     ·rename_i hh;cases h;exact eJ (QE ht hi hz hh.1 hh.2 ho hx hy) rfl
     ·cases h
    ·cases h
 ·cases h
theorem mO {α:Type}{a:Array α}{l:List α}(h:a.toList=l):a=l.toArray:=by subst h;simp
theorem Jb {c:Call}(ho:o.op=.call c) (h:I8 P o.type c=some x):mZ P o x:=by
 obtain⟨callee,args,ats⟩:=c;unfold I8 at h;dsimp only at h
 split at h
 ·split at h
  ·rename_i a t ha ht;have ha:=mO ha;have ht:=mO ht;subst ha ht;unfold QC at h
   split at h
   ·rename_i hd;obtain⟨y,hy,rfl⟩:=map_some h;exact bV (G5 hd ho hy)
   ·rename_i e hd;obtain⟨y,hy,rfl⟩:=map_some h;exact bV (Gu hd ho hy)
   ·rename_i k e hd;obtain⟨y,hy,rfl⟩:=map_some h;exact bV (Hb hd ho hy)
   ·cases h
  ·cases h
 ·split at h
  ·rename_i a b t t' ha ht;have ha:=mO ha;have ht:=mO ht;subst ha ht
   split at h
   ·rename_i htt;subst htt;exact MM ho h
   ·cases h
  ·cases h
 ·split at h
  ·rename_i a b ha;have ha:=mO ha;subst ha
   split at h
   ·rename_i x' y' hx hy;cases h;exact bV (Bl false ho hx hy)
   ·cases h
  ·cases h
 ·split at h
  ·rename_i a b ha;have ha:=mO ha;subst ha
   split at h
   ·rename_i x' y' hx hy;cases h;exact bV (Bl true ho hx hy)
   ·cases h
  ·cases h
 ·split at h
  ·rename_i a b t t2 ha ht;have ha:=mO ha;have ht:=mO ht;subst ha ht;unfold Rj at h
   split at h
   ·rename_i kt e hd
    split at h
    ·rename_i d hkt
     split at h
     ·rename_i ky hky
      split at h
      ·rename_i x' y' hx hy;cases h;exact eJ (RE hd hkt hky ho hx hy) rfl
      ·cases h
     ·cases h
    ·cases h
   ·cases h
  ·cases h
 ·rename_i f
  split at h
  ·rename_i hc;obtain⟨y,hy,rfl⟩:=map_some h;exact eJ (O7 hc ho hy) rfl
  ·cases h
 ·split at h
  ·rename_i x' l hx hl;cases h;exact eJ (QK ho hx hl) rfl
  ·cases h
 ·cases h
theorem Pq (h:Oh P o=some x):mZ P o x:=by
 unfold Oh at h
 split at h
 ·rename_i a ho;obtain⟨y,hy,rfl⟩:=map_some h;exact bV (AZ (.inl ho) hy)
 ·rename_i a ho;obtain⟨y,hy,rfl⟩:=map_some h;exact bV (AZ (.inr ho) hy)
 ·rename_i c a b ho
  split at h
  ·rename_i c' a' b' h1 h2 h3;cases h;exact bV (Hu ho h1 h2 h3)
  ·cases h
 ·rename_i t ho
  split at h
  ·rename_i it hi
   split at h
   ·rename_i z hz;obtain⟨y,hy,rfl⟩:=map_some h;exact eJ (MZ hi hz hy ho) rfl
   ·cases h
  ·cases h
 ·rename_i t a ho;obtain⟨y,hy,rfl⟩:=map_some h;exact eJ (Rt ho hy) rfl
 ·rename_i t parts ho;exact L7 ho h
 ·rename_i t n parts ho;exact Mb ho h
 ·rename_i t a ho;exact Qq ho h
 ·rename_i t a b ho
  split at h
  ·rename_i i x' y' hi hx hy;cases h;exact eJ (Tl hi ho hx hy) rfl
  ·cases h
 ·rename_i a ho;obtain⟨y,hy,rfl⟩:=map_some h;exact bV (KS ho hy)
 ·rename_i op t a b t' ho;exact ND ho h
 ·rename_i t a ho;obtain⟨y,hy,rfl⟩:=map_some h;exact bV (JG ho hy)
 ·rename_i t a ho
  split at h
  ·rename_i k hd;obtain⟨y,hy,rfl⟩:=map_some h;exact bV (KM ho hy)
  ·cases h
 ·rename_i s t a ho;exact I4 ho h
 ·rename_i s a f ho;exact aiM ho h
 ·rename_i s a f ho;exact NJ ho h
 ·rename_i t a b ho;exact Nz ho h
 ·rename_i t a b ho
  split at h
  ·rename_i n e hd
   split at h
   ·rename_i i ag x' y' hi ha hx hy
    split at h
    ·cases h
    ·rename_i h0;cases h;exact bV (Je hd hi ha (fun hag=>by
      rcases Nat.decEq i.size 1 with h1|h1
      ·exact absurd ⟨hag,h1⟩ h0
      ·exact h1) ho hx hy)
   ·cases h
  ·rename_i hd
   split at h
   ·rename_i x' y' hx hy;cases h;exact bV (Jm hd ho hx hy)
   ·cases h
  ·cases h
 ·rename_i t a lo hi ho;exact NI ho h
 ·rename_i a i ho;obtain⟨y,hy,rfl⟩:=map_some h;exact bV (Ln ho hy)
 ·rename_i f first caps ho
  split at h
  ·rename_i h0;obtain⟨y,hy,rfl⟩:=map_some h;have:first=#[]:=by simpa using h0
   subst this;exact bV (KU ho hy)
  ·split at h
   ·rename_i h0;obtain⟨y,hy,rfl⟩:=map_some h;have:caps=#[]:=by simpa using h0
    subst this;exact bV (Ku ho hy)
   ·cases h
 ·rename_i t ho
  split at h
  ·cases h;exact eJ (Rb ho) rfl
  ·cases h;exact eJ (RF ho) rfl
 ·rename_i t a ho
  split at h
  ·rename_i hd
   split at h
   ·obtain⟨y,hy,rfl⟩:=map_some h;exact eJ (Ru hd ho hy) rfl
   ·obtain⟨y,hy,rfl⟩:=map_some h;exact eJ (QQ hd ho hy) rfl
  ·cases h
 ·rename_i t a b ho
  split at h
  ·rename_i e hd
   split at h
   ·cases h
   ·rename_i it hi
    split at h
    ·cases h
    ·rename_i z hz
     split at h
     ·rename_i zs x' y' hc hx hy
      split at h
      ·rename_i hh;cases h;exact eJ (QZ hd hi hz hc hh.1 hh.2 ho hx hy) rfl
      ·cases h
     ·cases h
  ·cases h
 ·rename_i t a ho
  split at h
  ·rename_i hd;obtain⟨y,hy,rfl⟩:=map_some h;exact eJ (Rn hd ho hy) rfl
  ·cases h
 ·rename_i a ho;obtain⟨y,hy,rfl⟩:=map_some h;exact eJ (Rr rfl ho hy) rfl
 ·rename_i a ho;obtain⟨y,hy,rfl⟩:=map_some h;exact bV (K5 ho hy)
 ·rename_i t a b ok ho;unfold RO at h
  split at h
  ·rename_i kt e hd
   split at h
   ·rename_i d hkt
    split at h
    ·rename_i ky hky
     split at h
     ·rename_i it hi
      split at h
      ·rename_i z hz
       split at h
       ·rename_i za x' y' hza hx hy
        split at h
        ·cases h;exact eJ (Ri ok hd hkt hky hi hz (fun pub w r=>xM hza pub w r) ho hx hy) rfl
        ·cases h;exact bV (Ju ok hd hkt hky hi hz (fun pub w r=>xM hza pub w r) ho hx hy)
       ·cases h
      ·cases h
     ·cases h
    ·cases h
   ·cases h
  ·cases h
 ·rename_i t a b c ho;unfold LZ at h
  split at h
  ·rename_i kt e hd
   split at h
   ·rename_i d hkt
    split at h
    ·rename_i ky hky
     split at h
     ·rename_i x' y' z' hx hy hz
      split at h
      ·cases h;exact eJ (N4 hd hkt hky ho hx hy hz) rfl
      ·cases h;exact eJ (Og hd hkt hky ho hx hy hz) rfl
     ·cases h
    ·cases h
   ·cases h
  ·cases h
 ·rename_i t a b c ho;unfold LZ at h
  split at h
  ·rename_i kt e hd
   split at h
   ·rename_i d hkt
    split at h
    ·rename_i ky hky
     split at h
     ·rename_i x' y' z' hx hy hz
      split at h
      ·cases h;exact eJ (Fe ho (N4 hd hkt hky rfl hx hy hz)) rfl
      ·cases h;exact eJ (Fe ho (Og hd hkt hky rfl hx hy hz)) rfl
     ·cases h
    ·cases h
   ·cases h
  ·cases h
 ·rename_i c ho;exact Jb ho h
 ·cases h
end
structure N6 where
 take:Bool
 o:Oper
 guard:Option (Nat×Bool)
section
variable {P:bG}{Q:Exit→Act→World→Prop}{S:World→Prop}{ops:Array Oper}
variable {s:N6}{r:List N6}{a:Act}{w:World}
end
section
variable {P:bG}{Q:Exit→Act→World→Prop}{S:World→Prop}{ops:Array Oper}{md:Region.Mode}{need:Nat→Bool}
def fI (P:bG) (md:Region.Mode) (ops:Array Oper) (Q:Exit→Act→World→Prop) (S:World→Prop) (need:Nat→Bool):Nat→Array Bool→Act→World→Prop
 |0,listed,a,w=>Region.ready md ops listed=[]∧Q .normal a w
 |fuel+1,listed,a,w=>
  (Region.ready md ops listed=[]→Q .normal a w)∧
  ∀i∈Region.ready md ops listed,wpOp P ops Q i (fun a' w'=>(need i=true→S w→S w')∧fI P md ops Q S need fuel (listed.setIfInBounds i true) a' w') a w
theorem tW:∀(fuel:Nat) (listed:Array Bool) (a:Act) (w:World),fI P md ops Q S need fuel listed a w→wpAny P md ops Q fuel listed a w
 |0,_,_,_,h=>h
 |fuel+1,_,_,_,h=>⟨h.1,fun i hi=>wpOp_mono (fun a' w' h'=>tW fuel _ a' w' h'.2) (h.2 i hi)⟩
def lP (md:Region.Mode) (ops:Array Oper) (listed:Array Bool):Prop:=∀k o,ops[k]?=some o→listed.getD k false=true→∀e∈o.after,Region.binds md e=true→listed.getD e.on false=true
theorem Az (n:Nat):lP md ops (Array.replicate n false):=fun k o _ h=>by
 exfalso;by_cases hk:k < n
 ·simp[hk]at h
 ·simp[hk]at h
theorem lR {listed:Array Bool}{j:Nat}(h:lP md ops listed) (hj:j∈Region.ready md ops listed):lP md ops (listed.setIfInBounds j true):=by
 obtain⟨_,oj,hoj,hall⟩:=mem_ready.1 hj;intro k o hk hl e he hb;by_cases hkj:j=k
 ·subst hkj;rw[hoj]at hk;cases hk;exact getD_set_true (hall e he hb)
 ·rw[getD_set_ne false hkj]at hl;exact getD_set_true (h k o hk hl e he hb)
def hY (md:Region.Mode) (ops:Array Oper) (i:Nat):Nat→Nat→Bool
 |0,_=>false
 |n+1,j=>match ops[j]? with
  |some o=>o.after.toList.any fun e=>Region.binds md e && (e.on == i || hY md ops i n e.on)
  |none=>false
theorem lQ {listed:Array Bool}(hc:lP md ops listed) (i:Nat):∀(n j:Nat) (o:Oper),ops[j]?=some o→hY md ops i n j=true→(∀e∈o.after,Region.binds md e=true→listed.getD e.on false=true)→listed.getD i false=true
 |0,j,o,_,h,_=>by simp[hY]at h
 |n+1,j,o,ho,h,hall=>by
  simp only[hY,ho,List.any_eq_true,aO,Bool.or_eq_true,beq_iff_eq]at h;obtain⟨e,he,hb,h1⟩:=h;have he:e∈o.after:=Array.mem_toList_iff.1 he;have hl:=hall e he hb;rcases h1 with h1|h1
  ·rw[←h1];exact hl
  ·cases hoe:ops[e.on]? with
   |none=>
    rcases n with _|n
    ·simp[hY]at h1
    ·simp[hY,hoe]at h1
   |some o'=>exact lQ hc i n e.on o' hoe h1 (fun e' he' hb'=>hc e.on o' hoe hl e' he' hb')
theorem yE {i:Nat}{oi:Oper}{v:Value}(wt:Bool) (hi:ops[i]?=some oi) (hsel:∀(j:Nat) (o:Oper) cs b,ops[j]?=some o→o.op≠.select cs b)
  (hQ:∀c a w,Q (.panic c) (a.put oi.dst v) w→Q (.panic c) a w) (hn:wt=true→∀j,j≠i→need j=false→∃n,hY md ops i n j=true) :
  ∀(fuel:Nat) (listed:Array Bool) (a:Act) (w:World),lP md ops listed →
   (∀j oj,ops[j]?=some oj→j≠i→listed.getD j true=false→(∀e∈oj.after,Region.binds md e=true→e.on≠i)→oi.apart ops oj=true) →
   i∈Region.ready md ops listed→YieldsIf P ops (fun w=>wt=true→S w) oi v a→(wt=true→S w) →
   fI P md ops Q S need fuel (listed.setIfInBounds i true) (a.put oi.dst v) w→fI P md ops Q S need (fuel+1) listed a w:=by
 intro fuel;have base:∀(fuel:Nat) (a:Act) (w:World) (listed:Array Bool),YieldsIf P ops (fun w=>wt=true→S w) oi v a→(wt=true→S w) →
   fI P md ops Q S need fuel (listed.setIfInBounds i true) (a.put oi.dst v) w→wpOp P ops Q i (fun a' w'=>(need i=true→S w→S w')∧fI P md ops Q S need fuel (listed.setIfInBounds i true) a' w') a w:=
  fun fuel a w listed hy hS H=>YieldsIf.wpOp (S:=fun w=>wt=true→S w) hi hy hS ⟨fun _ h=>h,H⟩
 induction fuel with
 |zero=>
  intro listed a w _ _ hr hy hS H;refine⟨fun h=>(by rw[h]at hr;cases hr),fun j hj=>?_⟩;by_cases hji:j=i
  ·subst hji;exact base 0 a w listed hy hS H
  ·have:=ready_mono hj hji;rw[H.1]at this;cases this
 |succ fuel ih=>
  intro listed a w hc hfree hr hy hS H;refine⟨fun h=>(by rw[h]at hr;cases hr),fun j hj=>?_⟩;by_cases hji:j=i
  ·subst hji;exact base (fuel+1) a w listed hy hS H
  ·have h1:=H.2 j (ready_mono hj hji);obtain⟨hjun,oj,hoj,hall⟩:=mem_ready.1 hj;have hiun:=(mem_ready.1 hr).1;have hif:listed.getD i false=false:=by
    rcases aL i listed.size with h'|h'
    ·simp[h']at hiun⊢;exact hiun
    ·simp[Array.getElem?_eq_none h']
   have hnot:∀e∈oj.after,Region.binds md e=true→e.on≠i:=fun e he hb heq=>by
    have h1:=hall e he hb;rw[heq,hif]at h1;cases h1
   have hneed:wt=true→need j=true:=fun hwt=>by
    cases hnj:need j with
    |true=>rfl
    |false=>
     obtain⟨n,hn'⟩:=hn hwt j hji hnj;have:=lQ hc i n j oj hoj hn' hall;rw[hif]at this;cases this
   have h2:=wpOp_putIf (S:=fun w=>wt=true→S w) hoj (hfree j oj hoj hji hjun hnot) (fun cs b=>hsel i oi cs b hi) (fun cs b=>hsel j oj cs b hoj) hQ hy h1;have hfree':∀k ok,ops[k]?=some ok→k≠i→(listed.setIfInBounds j true).getD k true=false →
     (∀e∈ok.after,Region.binds md e=true→e.on≠i)→oi.apart ops ok=true:=fun k ok hk hki hun hno=>by
    refine hfree k ok hk hki ?_ hno;by_cases hjk:j=k
    ·subst hjk;exact hjun
    ·rw[getD_set_ne true hjk]at hun;exact hun
   refine wpOp_mono (fun a' w' h3=>⟨h3.2.1,ih (listed.setIfInBounds j true) a' w' (lR hc hj) hfree' (ready_mono hr (Ne.symm hji)) h3.1 (fun hwt=>h3.2.1 (hneed hwt) (hS hwt)) ?_⟩) h2;rw[Array.setIfInBounds_comm _ _ hji];exact h3.2.2
structure JW where
 take:Bool
 watch:Bool
 need:Bool
 o:Oper
 guard:Option (Nat×Bool)
def cV (ops:Array Oper) (wt:List Nat) (j:Nat):Bool:=wt.any fun x=>x != j && !hY .any ops x ops.size j
variable {s:JW}{r:List JW}{a:Act}{w:World}
end
def qF (P:bG) (keep:List Nat) (al:Option Nat) (s:hU) (K:St→Prop) (st:St):Prop:=
 match s.g with
 |none=>dB P keep al s.d st K s.op
 |some (t,b)=>match dN st.T t with
  |.bl c=>sW (c == b) (fun _=>dB P keep al s.d st K s.op) (fun _=>K (st.put s.d (.tup [])))
  |.tup []=>K (st.put s.d (.tup []))
  |_=>False
theorem jH {pub:cI}{w:World}{r:cF}:bS pub w r (.tup []) undef:=.tup rfl (fun i x u h=>by simp at h)
def CE (P:bG) (K:St→Prop):List hU→St→Prop
 |[],st=>K st
 |s :: l,st=>qF P [] none s (CE P K l) st
def qW (ops:Array Oper) (o:Oper):Option (Option (Nat×Bool)):=
 match o.guard with
 |none=>some none
 |some (j,b)=>match (ops[j]?).bind (·.dst) with
  |some t=>some (some (t,b))
  |none=>none
def Ff (N:Nat):Option Nat→Bool
 |some d=>Nat.blt d N
 |none=>true
def OK (P:bG) (o:Oper):Option fT:=match Oh P o with
 |some x=>some x
 |none=>some .bad
theorem yO {P:bG}{o:Oper}{x:fT}(h:OK P o=some x):mZ P o x:=by
 unfold OK at h
 split at h
 ·rename_i y hy;cases h;exact Pq hy
 ·cases h;exact eJ (fun C st a w r pub keep al K Q hd hk hh hK=>by simp only[dB]at hK) rfl
def LY (ops:Array Oper):Option Nat→Bool
 |none=>false
 |some t=>ops.any fun o=>match o.op with
  |.build _ parts=>parts.any fun p=>match p.2 with
   |.tmp s=>s == t
   |_=>false
  |.buildSlice _ _ parts=>parts.any fun p=>match p.2 with
   |.tmp s=>s == t
   |_=>false
  |_=>false
def O1 (P:bG) (ops:Array Oper) (o:Oper):Option fT:=match OK P o with
 |some (.bsl t sz n zs ps)=>if LY ops o.dst=true then some (.bsp t sz n zs ps) else some (.bsl t sz n zs ps)
 |x=>x
theorem Mv {P:bG}{ops:Array Oper}{o:Oper}{x:fT}(h:O1 P ops o=some x):mZ P o x:=by
 unfold O1 at h
 split at h
 ·rename_i t sz n zs ps hx
  split at h
  ·cases h;exact eJ (QP (yO hx).2) rfl
  ·cases h;exact yO hx
 ·exact yO h
def Cz (P:bG) (N:Nat) (ops:Array Oper) (o:Oper):Option hU:=
 match O1 P ops o,qW ops o with
 |some x,some g=>if Ff N o.dst=true then some ⟨o.dst,g,x⟩ else none
 |_,_=>none
theorem vG {P:bG}{N:Nat}{ops:Array Oper}{o:Oper}{s:hU}(h:Cz P N ops o=some s):mZ P o s.op∧s.d=o.dst∧(∀n,o.dst=some n→n < N)∧qW ops o=some s.g:=by
 unfold Cz at h
 split at h
 ·rename_i x g h1 h2
  split at h
  ·rename_i h3;cases h;exact⟨Mv h1,rfl,fun n hn=>by rw[hn]at h3;simpa [Ff,Nat.blt_eq]using h3,h2⟩
  ·cases h
 ·cases h
section
variable {P:bG}{C:kN}{st:St}{a:Act}{w:World}{r:cF}{pub:cI}{ops:Array Oper}{o:Oper}
theorem uZ {g:Option (Nat×Bool)}(h:bM C st a w r pub) (hg:qW ops o=some g) :
  (g=none→Region.wanted o (yielded ops a.tmps)=true)∧(∀t b c,g=some (t,b)→dN st.T t=.bl c→Region.wanted o (yielded ops a.tmps)=(c == b))∧∀t b,g=some (t,b)→dN st.T t=.tup []→Region.wanted o (yielded ops a.tmps)=false:=by
 unfold qW at hg
 split at hg
 ·rename_i hn;cases hg;exact⟨fun _=>by simp[Region.wanted,hn],(fun t b c h=>by cases h),fun t b h=>by cases h⟩
 ·rename_i j b hj
  split at hg
  ·rename_i t ht;cases hg;refine⟨(fun h=>by cases h),fun t' b' c he hc=>?_,fun t' b' he hc=>?_⟩
   rotate_left
   ·cases he;have hs:=h.slots t;rw[hc]at hs;have hv:∀c,a.tmps[t]?≠some (.bool c):=fun c hq=>by
     rw[Array.getD_eq_getD_getElem?,hq]at hs;cases hs
    unfold Region.wanted;rw[hj];simp only[yielded,ht,Option.bind_some];cases hq:a.tmps[t]? with
    |none=>rfl
    |some y=>cases y<;>first|rfl|exact absurd hq (hv _)
   cases he;have hs:=h.slots t;rw[hc]at hs;have hv:a.tmps[t]?=some (.bool c):=by
    generalize hx:a.tmps.getD t undef=x at hs;cases hs;rw[Array.getD_eq_getD_getElem?]at hx;cases hq:a.tmps[t]? with
    |none=>rw[hq]at hx;simp[undef]at hx
    |some y=>rw[hq]at hx;simp at hx;rw[hx]
   unfold Region.wanted;rw[hj];simp only[yielded,ht,Option.bind_some,hv];cases c<;>cases b<;>rfl
  ·cases hg
def P2 (P:bG) (o:Oper):Option fT:=match o.op with
 |.slice t x (some q) none none=>match P.underlying t with
  |some (.slice e)=>match P.info? e,cA x,cA q with
   |some i,some x',some q'=>if i.size=0 then none else some (.slt i.size x' q')
   |_,_,_=>none
  |_=>none
 |_=>none
theorem M1 {P:bG}{o:Oper}{x:fT}(h:P2 P o=some x):pR P o x:=by
 unfold P2 at h
 split at h
 ·rename_i ho
  split at h
  ·rename_i hd
   split at h
   ·rename_i hi hx hq
    split at h
    ·cases h
    ·rename_i h0;cases h;exact QS hd hi h0 ho hx hq
   ·cases h
  ·cases h
 ·cases h
def qR (P:bG) (N:Nat) (ops:Array Oper) (o:Oper):Option hU:=
 match P2 P o,qW ops o with
 |some x,some g=>if Ff N o.dst=true then some ⟨o.dst,g,x⟩ else none
 |_,_=>Cz P N ops o
theorem Hs {P:bG}{N:Nat}{ops:Array Oper}{o:Oper}{s:hU}(h:qR P N ops o=some s):pR P o s.op∧s.d=o.dst∧(∀n,o.dst=some n→n < N)∧qW ops o=some s.g:=by
 unfold qR at h
 split at h
 ·rename_i x g h1 h2
  split at h
  ·rename_i h3;cases h;exact⟨M1 h1,rfl,fun n hn=>by rw[hn]at h3;simpa [Ff,Nat.blt_eq]using h3,h2⟩
  ·cases h
 ·obtain⟨h1,h2⟩:=vG h;exact⟨h1.2,h2⟩
def BG (C:kN) (K:St→Prop) (a:Act) (w:World):Prop:=∃st r pub,K st∧bM C st a w r pub
theorem Au {N:Nat}{Q:Exit→Act→World→Prop}{K:St→Prop}(hQ:∀a w,BG C K a w→Q .normal a w) (hN:C.n=N):∀(l:List Oper) (xs:List hU) (st:St) (a:Act) (w:World) (r:cF) (pub:cI),
  l.mapM (qR P N ops)=some xs→bM C st a w r pub→CE P K xs st→wpList P ops Q l a w
 |[],xs,st,a,w,r,pub,hx,h,hK=>by
  simp at hx;subst hx;exact hQ _ _ ⟨st,r,pub,hK,h⟩
 |o :: l,xs,st,a,w,r,pub,hx,h,hK=>by
  simp only[List.mapM_cons,Option.bind_eq_bind,Option.pure_def]at hx;cases hs:qR P N ops o with
  |none=>simp[hs]at hx
  |some s=>
   cases hl:l.mapM (qR P N ops) with
   |none=>simp[hs,hl]at hx
   |some ys=>
    simp[hs,hl]at hx;subst hx;obtain⟨hop,hd,hdn,hg⟩:=Hs hs;obtain⟨g1,g2,g3⟩:=uZ h hg;have run:dB P [] none s.d st (CE P K ys) s.op→o.wp P a w (wpList P ops Q l) Q:=fun hw=>by
     rw[hd]at hw;refine Oper.wp_mono (fun a' w' hp=>?_) (hop C st a w r pub [] none _ Q (fun n hn=>by rw[hN];exact hdn n hn) (by simp) h hw);obtain⟨st',r',pub',hk,hh,_⟩:=hp;exact Au hQ hN l ys st' a' w' r' pub' hl hh hk
    unfold wpList;unfold CE qF at hK;cases hgs:s.g with
    |none=>
     rw[hgs]at hK;rw[g1 hgs];exact .inl (run hK)
    |some tb=>
     obtain⟨t,b⟩:=tb;rw[hgs]at hK;dsimp only at hK;cases hc:dN st.T t with
     |bl c=>
      rw[hc]at hK;rw[g2 t b c hgs hc];cases hcb:(c == b) with
      |true=>
       simp only[sW,hcb,if_true]at hK;exact .inl (run hK)
      |false=>
       simp only[sW,hcb,aY,if_false]at hK;rw[hd]at hK;exact Au hQ hN l ys _ _ w r pub hl (h.put (fun n hn=>by rw[hN];exact hdn n hn) jH) hK
     |tup q=>
      rw[hc]at hK;cases q with
      |nil=>
       rw[g3 t b hgs hc];simp only[hd]at hK;exact Au hQ hN l ys _ _ w r pub hl (h.put (fun n hn=>by rw[hN];exact hdn n hn) jH) hK
      |cons=>exact hK.elim
     |_=>rw[hc]at hK;exact hK.elim
end
inductive cJ where
 |nil
 |take (i:Nat) (s:hU) (p:cJ)
 |eff (i rk:Nat) (need:Bool) (s:hU) (p:cJ)
 |fork (p q:cJ)
 |phase (p:cJ)
 |more (p:cJ)
def E9 (st:St) (s:hU):St×List Nat:=
 match s.op with
 |.mov x=>(st.put s.d (st.ev x),[])
 |.nck x=>(st.put s.d (st.ev x),[])
 |.fad off x=>match st.ev x with
  |.ptr k o=>(st.put s.d (.ptr k (o+off)),[])
  |.re k sz i j=>(st.put s.d (.re k sz i (j+off)),[])
  |_=>(st.put s.d .any,[])
 |.iad sz x _=>match st.rd x with
  |.hd k=>(st.put s.d (.re k sz 0 0),[])
  |_=>(st.put s.d .any,[])
 |.fld ag off n x=>match st.ev x with
  |.agg cs=>(st.put s.d (if ag then .agg ((cs.drop off).take n) else cs.getD off .any),[])
  |_=>(st.put s.d .any,[])
 |.ld ag n a=>match st.ev a with
  |.ptr k off=>match st.H[k]? with
   |some (.blk _ cs)=>(st.put s.d (if ag then .agg ((cs.drop off).take n) else cs.getD off .any),[k])
   |_=>(st.put s.d .any,[k])
  |.re k _ _ _=>(st.put s.d .any,[k])
  |_=>(st.put s.d .any,[])
 |.lenm x=>match st.ev x with
  |.hd k=>(st.put s.d .any,[k])
  |.ph k=>(st.put s.d .any,[k])
  |_=>(st.put s.d .any,[])
 |.aia _ _ x _=>match st.ev x with
  |.ptr k o=>(st.put s.d (.ptr k o),[])
  |.re k sz i j=>(st.put s.d (.re k sz i j),[])
  |_=>(st.put s.d .any,[])
 |.lkp _ _ _ x _=>match st.ev x with
  |.hd k=>(st.put s.d .any,[k])
  |_=>(st.put s.d .any,[])
 |.b2s x=>match st.ev x with
  |.hd k=>(st.put s.d .any,[k])
  |_=>(st.put s.d .any,[])
 |_=>(st.put s.d .any,[])
def cJ.dry:cJ→St→List Nat
 |.nil,_=>[]
 |.take _ s p,st=>(E9 st s).2++p.dry (E9 st s).1
 |.eff _ _ _ s p,st=>p.dry (st.put s.d .any)
 |.fork p q,st=>p.dry st++q.dry st
 |.phase _,_=>[]
 |.more _,_=>[]
def nY (H:List cC):List Nat→List Nat→List Nat
 |_,[]=>[]
 |seen,k :: l=>match H[k]? with
  |none=>nY H seen l
  |some .dead=>nY H seen l
  |some _=>if seen.contains k then nY H seen l else k :: nY H (k :: seen) l
def rP (p:cJ) (st:St):List Nat:=nY st.H [] (p.dry st)
theorem lM {C:kN}{st:St}{a:Act}{w:World}{r:cF}{pub:cI}(h:bM C st a w r pub):∀(l seen:List Nat),∀k∈nY st.H seen l,(r k).isSome=true
 |[],seen,k,hk=>by simp[nY]at hk
 |q :: l,seen,k,hk=>by
  have ih:=lM h l;unfold nY at hk;cases he:st.H[q]? with
  |none=>rw[he]at hk;exact ih seen k hk
  |some e=>
   rw[he]at hk;have hm:=h.mod.ent q e he;have go:(r q).isSome=true→k∈(if seen.contains q then nY st.H seen l else q :: nY st.H (q :: seen) l)→(r k).isSome=true:=fun h1 h2=>by
    split at h2
    ·exact ih _ k h2
    ·rcases List.mem_cons.1 h2 with rfl|h2
     ·exact h1
     ·exact ih _ k h2
   generalize r q=x at hm go;cases hm with
   |dead=>exact ih seen k hk
   |blk hb hc hp=>exact go rfl hk
   |row ho hc hs hp=>exact go rfl hk
   |tip ho hc hs hp=>exact go rfl hk
   |map hb1 hl hk1 hv hp _=>exact go rfl hk
   |hrow ho hc hp=>exact go rfl hk
   |pool=>exact go rfl hk
   |iter hb1 hx hp=>exact go rfl hk
def DU (keep:List Nat) (fr:Bool) (st:St) (x:fT):Bool:=!x.loads || ((x.reads st).all (fun k=>keep.contains k) && (fr || !x.pubs st))
def FT (keep l:List Nat):List Nat:=keep++l.filter fun k=>!keep.contains k
def iE (P:bG):List Nat→Nat→(St→Prop)→cJ→Bool→St→Prop
 |_,_,K,.nil,_,st=>K st
 |keep,base,K,.take _ s p,fr,st=>DU keep fr st s.op=true∧qF P [] none s (iE P keep base K p fr) st
 |keep,base,K,.eff _ rk need s p,fr,st=>qF P (if need then keep else []) (some (base+rk)) s (iE P keep base K p (fr && s.op.quiet)) st
 |keep,base,K,.fork p q,fr,st=>iE P keep base K p fr st∧iE P keep base K q fr st
 |_,base,K,.phase p,_,st=>iE P (rP p st) base K p true st
 |keep,base,K,.more p,_,st=>iE P (FT keep (rP p st)) base K p true st
def cJ.heads:cJ→List Nat
 |.eff i _ _ _ _=>[i]
 |.fork p q=>p.heads++q.heads
 |_=>[]
def pO (P:bG) (N:Nat) (ops:Array Oper) (i:Nat) (s:hU):Prop:=∃o,ops[i]?=some o∧Cz P N ops o=some s
def tV (ops:Array Oper) (wt wt2:List Nat) (listed:Array Bool):Bool:=
 (wt.all fun x=>wt2.contains x) && (List.range listed.size).all fun i=>listed.getD i true || (cV ops wt2 i || (List.range listed.size).all fun j=>listed.getD j true || (j == i || (hY .any ops j ops.size i || !cV ops wt j)))
def dW (P:bG) (N:Nat) (ops:Array Oper):List Nat→cJ→Bool→Bool→Array Bool→Prop
 |_,.nil,arm,_,listed=>arm=false∧Region.ready .any ops listed=[]
 |wt,.take i s p,arm,late,listed=>arm=false∧pO P N ops i s∧s.op.isPure=true∧(s.op.loads=true→wt.contains i=true)∧Region.free .any ops listed i=true∧(Region.ready .any ops listed).contains i=true∧dW P N ops wt p false late (listed.setIfInBounds i true)
 |wt,.eff i _ need s p,arm,late,listed=>(arm=false→Region.ready .any ops listed=[i])∧pO P N ops i s∧(cV ops wt i=true→need=true)∧(late=true→need=false)∧dW P N ops wt p false (late || !need) (listed.setIfInBounds i true)
 |wt,.fork p q,arm,late,listed=>(arm=false→Region.ready .any ops listed=p.heads++q.heads)∧dW P N ops wt p true late listed∧dW P N ops wt q true late listed
 |wt,.phase p,arm,_,listed=>arm=false∧(∀j,listed.getD j true=false→cV ops wt j=false)∧∃wt2,dW P N ops wt2 p false false listed
 |wt,.more p,arm,late,listed=>arm=false∧late=false∧∃wt2,tV ops wt wt2 listed=true∧dW P N ops wt2 p false false listed
def cJ.size:cJ→Nat
 |.nil=>0
 |.take _ _ p=>p.size+1
 |.eff _ _ _ _ p=>p.size+1
 |.fork p q=>max p.size q.size
 |.phase p=>p.size
 |.more p=>p.size
section
variable {P:bG}{C:kN}{ops:Array Oper}
structure MQ (keep:List Nat) (C:kN) (r0:cF) (pub0:cI) (w0:World) (late fr:Bool) (st:St) (a:Act) (w:World) (r:cF) (pub:cI):Prop where
 h:bM C st a w r pub
 ks:late=false→eG keep r0 w0 r w
 eq:fr=true→pub=pub0
 ext:lV pub0 w0 pub w
 some_:∀k∈keep,(r k).isSome=true∨late=true
def SS (keep:List Nat) (r0:cF) (pub0:cI) (w0:World) (w':World):Prop:=oG keep true r0 pub0 w0 w'
theorem MQ.ss {keep:List Nat}{r0 r:cF}{pub0 pub:cI}{w0 w:World}{fr:Bool}{st:St}{a:Act}(m:MQ keep C r0 pub0 w0 false fr st a w r pub):SS keep r0 pub0 w0 w:=
 ⟨fun _=>m.ext.cell,fun k hk z hz=>(m.ks rfl k hk).2 z hz⟩
theorem MQ.like {keep:List Nat}{r0 r:cF}{pub0 pub:cI}{w0 w:World}{fr:Bool}{st:St}{a:Act}{x:fT}(m:MQ keep C r0 pub0 w0 false fr st a w r pub) (hm0:∀b i,i < pub0 b→∃u,w0.cell? ⟨b,i,none⟩=some u) (hl:x.loads=true) (ht:DU keep fr st x=true) {w':World}(hs:SS keep r0 pub0 w0 w') :
  oG (x.reads st) (x.pubs st) r pub w w':=by
 unfold DU at ht;rw[hl]at ht;simp only[Bool.not_true,Bool.false_or,aO,aS,Bool.or_eq_true,Bool.not_eq_true']at ht;obtain⟨h1,h2⟩:=ht;refine⟨fun hp b i u hi hu=>?_,fun k hk z hz b hb=>?_⟩
 ·rcases h2 with h2|h2
  ·rw[m.eq h2]at hi;obtain⟨v,hv⟩:=hm0 b i hi;have:=m.ext.cell b i v hi hv;rw[hu]at this;cases this;exact hs.cell rfl b i u hi hv
  ·rw[h2]at hp;cases hp
 ·have hkk:k∈keep:=by have:=h1 k hk;simpa using this
  obtain⟨e1,e2⟩:=m.ks rfl k hkk;have hz0:r0 k=some z:=e1.symm.trans hz;rw[hs.ent k hkk z hz0 b hb,e2 z hz0 b hb]
def Ai (wt:List Nat) (listed:Array Bool):Prop:=∀x∈wt,listed.getD x false=true
theorem tL {wt:List Nat}{listed:Array Bool}(h:Ai wt listed) (i:Nat):Ai wt (listed.setIfInBounds i true):=fun x hx=>getD_set_true (h x hx)
theorem pT {N:Nat}{wt:List Nat}:∀(p:cJ) (late:Bool) (listed:Array Bool),dW P N ops wt p true late listed→p.heads≠[]∧0 < p.size
 |.nil,_,_,h=>by cases h.1
 |.take _ _ _,_,_,h=>by cases h.1
 |.eff _ _ _ _ _,_,_,_=>⟨by simp[cJ.heads],by simp[cJ.size]⟩
 |.phase _,_,_,h=>by cases h.1
 |.more _,_,_,h=>by cases h.1
 |.fork p q,late,listed,h=>by
  obtain⟨h1,h2⟩:=pT p late listed h.2.1;exact⟨by simp[cJ.heads,h1],by simp[cJ.size];omega⟩
theorem kM {Q:Exit→Act→World→Prop}{md:Region.Mode}{S S2:World→Prop}{need need2:Nat→Bool}:∀(fuel:Nat) (listed:Array Bool) (a:Act) (w:World),(∀j,listed.getD j true=false→need j=false)→fI P md ops Q S2 need2 fuel listed a w→fI P md ops Q S need fuel listed a w
 |0,_,_,_,_,h=>h
 |fuel+1,listed,a,w,hn,h=>by
  refine⟨h.1,fun i hi=>wpOp_mono (fun a' w' h'=>⟨fun hni=>?_,kM fuel _ a' w' (fun j hj=>hn j ?_) h'.2⟩) (h.2 i hi)⟩
  ·have:=hn i (mem_ready.1 hi).1;rw[this]at hni;cases hni
  ·by_cases hij:i=j
   ·subst hij;exact(mem_ready.1 hi).1
   ·rw[getD_set_ne true hij]at hj;exact hj
theorem rA {Q:Exit→Act→World→Prop}{S S2:World→Prop}{need need2:Nat→Bool}(hS:∀w,S2 w→S w) (hn:∀i,need i=true→need2 i=true) :
  ∀(fuel:Nat) (listed:Array Bool) (a:Act) (w:World),(∀i j,listed.getD i true=false→listed.getD j true=false→j≠i→need2 i=false→hY .any ops j ops.size i=true∨need j=false)→lP .any ops listed→S2 w→fI P .any ops Q S2 need2 fuel listed a w→fI P .any ops Q S need fuel listed a w
 |0,_,_,_,_,_,_,h=>h
 |fuel+1,listed,a,w,hc,hl,h2,h=>by
  refine⟨h.1,fun i hi=>wpOp_mono (fun a' w' h'=>?_) (h.2 i hi)⟩;have hi0:=(mem_ready.1 hi).1;have sub:∀j,(listed.setIfInBounds i true).getD j true=false→listed.getD j true=false∧j≠i:=fun j hj=>by
   by_cases hij:i=j
   ·subst hij;exfalso;have hlt:i < listed.size:=by
     rcases aL i listed.size with h3|h3
     ·exact h3
     ·simp[Array.getElem?_eq_none h3]at hi0
    simp[hlt]at hj
   ·rw[getD_set_ne true hij]at hj;exact⟨hj,Ne.symm hij⟩
  cases hni:need2 i with
  |true=>
   refine⟨fun _ _=>hS _ (h'.1 hni h2),rA hS hn fuel _ a' w' (fun p q hp hq=>hc p q (sub p hp).1 (sub q hq).1) (lR hl hi) (h'.1 hni h2) h'.2⟩
  |false=>
   refine⟨fun h3=>(by rw[hn i h3]at hni;cases hni),kM fuel _ a' w' (fun j hj=>?_) h'.2⟩;obtain⟨hj1,hj2⟩:=sub j hj;rcases hc i j hi0 hj1 hj2 hni with h3|h3
   ·obtain⟨_,oj,hoj,hall⟩:=mem_ready.1 hi;have:=lQ hl j ops.size i oj hoj h3 hall;have hlt:j < listed.size:=by
     rcases aL j listed.size with h4|h4
     ·exact h4
     ·simp[Array.getElem?_eq_none h4]at hj1
    simp[hlt]at this hj1;rw[this]at hj1;cases hj1
   ·exact h3
theorem BU {wt wt2:List Nat}(h:(wt.all fun x=>wt2.contains x)=true) (j:Nat) (hn:cV ops wt j=true):cV ops wt2 j=true:=by
 unfold cV at hn⊢;rw[List.any_eq_true]at hn⊢;obtain⟨x,hx,hq⟩:=hn;exact⟨x,by simpa using aS.1 h x hx,hq⟩
theorem Hj {wt wt2:List Nat}{listed:Array Bool}(h:tV ops wt wt2 listed=true):(∀j,cV ops wt j=true→cV ops wt2 j=true)∧∀i j,listed.getD i true=false→listed.getD j true=false→j≠i→cV ops wt2 i=false→hY .any ops j ops.size i=true∨cV ops wt j=false:=by
 unfold tV at h;rw[aO]at h;refine⟨fun j=>BU h.1 j,fun i j hi hj hji hn=>?_⟩;have lt:∀k,listed.getD k true=false→k < listed.size:=fun k hk=>by
  rcases aL k listed.size with h4|h4
  ·exact h4
  ·simp[Array.getElem?_eq_none h4]at hk
 have h1:=aS.1 h.2 i (List.mem_range.2 (lt i hi));rw[hi,hn,Bool.false_or,Bool.false_or]at h1;have h2:=aS.1 h1 j (List.mem_range.2 (lt j hj));rw[hj,Bool.false_or,Bool.or_eq_true,Bool.or_eq_true]at h2;rcases h2 with h2|h2|h2
 ·exact absurd (by simpa using h2) hji
 ·exact .inl h2
 ·exact .inr (by simpa using h2)
theorem LS {N:Nat}{Q:Exit→Act→World→Prop}{K:St→Prop}{base:Nat}(hs:Region.noSelect ops=true) (hQp:∀c a d v w,Q (.panic c) (Act.put a d v) w→Q (.panic c) a w)
  (hQ:∀a w,BG C K a w→Q .normal a w) (hN:C.n=N) :
  ∀(p:cJ) (wt keep:List Nat) (r0:cF) (pub0:cI) (w0:World),(∀b i,i < pub0 b→∃u,w0.cell? ⟨b,i,none⟩=some u)→∀(late fr:Bool) (fuel:Nat) (listed:Array Bool) (st:St) (a:Act) (w:World) (r:cF) (pub:cI),p.size≤fuel→lP .any ops listed→listed.size=ops.size→MQ keep C r0 pub0 w0 late fr st a w r pub→(late=true→Ai wt listed) →
   iE P keep base K p fr st →
   (dW P N ops wt p false late listed→fI P .any ops Q (SS keep r0 pub0 w0) (cV ops wt) fuel listed a w)∧
   (dW P N ops wt p true late listed→∀i∈p.heads,i∈Region.ready .any ops listed →
    wpOp P ops Q i (fun a' w'=>(cV ops wt i=true→SS keep r0 pub0 w0 w→SS keep r0 pub0 w0 w')∧fI P .any ops Q (SS keep r0 pub0 w0) (cV ops wt) (fuel - 1) (listed.setIfInBounds i true) a' w') a w):=by
 intro p
 induction p with
 |nil=>
  intro wt keep r0 pub0 w0 hm0 late fr fuel listed st a w r pub hf hc hz m hL hK;refine⟨fun hp=>?_,fun hp=>by cases hp.1⟩;have hn:Q .normal a w:=hQ _ _ ⟨st,r,pub,hK,m.h⟩;cases fuel with
  |zero=>exact⟨hp.2,hn⟩
  |succ n=>exact⟨fun _=>hn,by rw[hp.2];simp⟩
 |take i s p ih=>
  intro wt keep r0 pub0 w0 hm0 late fr fuel listed st a w r pub hf hc hz m hL hK;refine⟨fun hp=>?_,fun hp=>by cases hp.1⟩;obtain⟨_,⟨o,ho,hcs⟩,hpu,hlw,hfree,hready,hfit⟩:=hp;obtain⟨⟨hps,_⟩,hd,hdn,hg⟩:=vG hcs;obtain⟨hto,hK⟩:=hK;cases fuel with
  |zero=>simp[cJ.size]at hf
  |succ fuel=>
   have hrd:i∈Region.ready .any ops listed:=by simpa using hready
   have hil:i < ops.size:=(Array.getElem?_eq_some_iff.1 ho).1;have hiun:listed.getD i false=false:=by
    have:=(mem_ready.1 hrd).1;have hls:i < listed.size:=by omega
    simp[hls]at this⊢;exact this
   have hwl:wt.contains i=true→late=false:=fun hw=>by
    cases late with
    |false=>rfl
    |true=>
     have:=hL rfl i (by simpa using hw);rw[hiun]at this;cases this
   have hn:wt.contains i=true→∀j,j≠i→cV ops wt j=false→∃n,hY .any ops i n j=true:=fun hw j hji hnj=>by
    refine⟨ops.size,?_⟩;unfold cV at hnj;rw[List.any_eq_false]at hnj;have:=hnj i (by simpa using hw);simp only[aO,bne_iff_ne,ne_eq,Bool.not_eq_true',not_and,Bool.not_eq_false]at this;exact this (Ne.symm hji)
   have hSi:wt.contains i=true→SS keep r0 pub0 w0 w:=fun hw=>by
    have:=hwl hw;subst this;exact m.ss
   obtain⟨g1,g2,g3⟩:=uZ m.h hg;have fin:∀(v:Value) (y:AV),YieldsIf P ops (fun w=>wt.contains i=true→SS keep r0 pub0 w0 w) o v a→bS pub w r y v→iE P keep base K p fr (st.put s.d y)→fI P .any ops Q (SS keep r0 pub0 w0) (cV ops wt) (fuel+1) listed a w:=fun v y hy hv hK=>by
    rw[hd]at hK;have hh:=m.h.put (d:=o.dst) (fun n hn=>by rw[hN];exact hdn n hn) hv;have:=(ih wt keep r0 pub0 w0 hm0 late fr fuel (listed.setIfInBounds i true) (st.put o.dst y) (a.put o.dst v) w r pub (by simp[cJ.size]at hf;omega) (lR hc hrd) (by simpa using hz) ⟨hh,m.ks,m.eq,m.ext,m.some_⟩ (fun hl=>tL (hL hl) i) hK).1 hfit;exact yE (wt.contains i) ho (Region.noSelect_spec hs) (fun c a w h=>hQp c a _ _ w h) hn fuel listed a w hc (Region.free_spec ho hfree) hrd hy hSi this
   have want:dB P [] none s.d st (iE P keep base K p fr) s.op→Region.wanted o (yielded ops a.tmps)=true→fI P .any ops Q (SS keep r0 pub0 w0) (cV ops wt) (fuel+1) listed a w:=fun hw hwt=>by
    rw[hd]at hw;obtain⟨v,y,hv,hKy,hrun⟩:=hps hpu C st a w r pub [] none _ m.h hw;rw[←hd]at hKy;refine fin v y (.inl ⟨hwt,fun w' hw'=>hrun w' (fun hl=>?_)⟩) hv hKy;have hcon:=hlw hl;have:=hwl hcon;subst this;exact m.like hm0 hl hto (hw' hcon)
   unfold qF at hK;cases hgs:s.g with
   |none=>
    rw[hgs]at hK;exact want hK (g1 hgs)
   |some tb=>
    obtain⟨t,b⟩:=tb;rw[hgs]at hK;dsimp only at hK;cases hcv:dN st.T t with
    |bl c=>
     rw[hcv]at hK;have hw:=g2 t b c hgs hcv;cases hcb:(c == b) with
     |true=>
      simp only[sW,hcb,if_true]at hK;exact want hK (hw.trans hcb)
     |false=>
      simp only[sW,hcb,aY,if_false]at hK;exact fin undef (.tup []) (.inr ⟨hw.trans hcb,rfl⟩) jH hK
    |tup q=>
     rw[hcv]at hK;cases q with
     |nil=>exact fin undef (.tup []) (.inr ⟨g3 t b hgs hcv,rfl⟩) jH hK
     |cons=>exact hK.elim
    |_=>rw[hcv]at hK;exact hK.elim
 |eff i rk need s p ih=>
  intro wt keep r0 pub0 w0 hm0 late fr fuel listed st a w r pub hf hc hz m hL hK
  -- the operation,whether it is the only one or an arm
  have key:pO P N ops i s→(cV ops wt i=true→need=true)→(late=true→need=false)→dW P N ops wt p false (late || !need) (listed.setIfInBounds i true)→i∈Region.ready .any ops listed→0 < fuel →
    wpOp P ops Q i (fun a' w'=>(cV ops wt i=true→SS keep r0 pub0 w0 w→SS keep r0 pub0 w0 w')∧fI P .any ops Q (SS keep r0 pub0 w0) (cV ops wt) (fuel - 1) (listed.setIfInBounds i true) a' w') a w:=fun⟨o,ho,hcs⟩ hne hln hfit hrd hf0=>by
   obtain⟨⟨_,hop⟩,hd,hdn,hg⟩:=vG hcs;obtain⟨g1,g2,g3⟩:=uZ m.h hg;have hall:=mem_ready.1 hrd;have hil:i < ops.size:=(Array.getElem?_eq_some_iff.1 ho).1;have hL':(late || !need)=true→Ai wt (listed.setIfInBounds i true):=fun hl x hx=>by
    cases hlate:late with
    |true=>exact tL (hL hlate) i x hx
    |false=>
     rw[hlate]at hl;have hn0:need=false:=by simpa using hl
     rw[hn0]at hne;have hne:cV ops wt i=false:=by cases hnn:cV ops wt i with|false=>rfl|true=>exact absurd (hne hnn) (by decide)
     by_cases hxi:x=i
     ·subst hxi;have hls:x < listed.size:=by omega
      simp[hls]
     ·unfold cV at hne;rw[List.any_eq_false]at hne;have:=hne x hx;simp only[aO,bne_iff_ne,ne_eq,Bool.not_eq_true',not_and,Bool.not_eq_false]at this;obtain⟨_,oj,hoj,hal⟩:=hall;exact getD_set_true (lQ hc x ops.size i oj hoj (this hxi) hal)
   have next:∀(fr':Bool) (st':St) (a':Act) (w':World) (r':cF) (pub':cI),bM C st' a' w' r' pub'→lV pub w pub' w'→(need=true→eG keep r w r' w')→(fr'=true→pub'=pub0)→iE P keep base K p fr' st' →
     (cV ops wt i=true→SS keep r0 pub0 w0 w→SS keep r0 pub0 w0 w')∧fI P .any ops Q (SS keep r0 pub0 w0) (cV ops wt) (fuel - 1) (listed.setIfInBounds i true) a' w':=fun fr' st' a' w' r' pub' hh he hk hq hKp=>by
    have m':MQ keep C r0 pub0 w0 (late || !need) fr' st' a' w' r' pub':=by
     refine⟨hh,fun hl=>?_,hq,m.ext.trans he,fun k hk'=>?_⟩
     ·simp only[Bool.or_eq_false_iff,Bool.not_eq_false']at hl;exact(m.ks hl.1).trans (hk hl.2)
     ·cases hnd:need with
      |false=>right;simp
      |true=>
       have hl0:late=false:=by
        cases hlate:late with
        |false=>rfl
        |true=>have:=hln hlate;rw[hnd]at this;cases this
       rcases m.some_ k hk' with h1|h1
       ·left;rw[(hk hnd k hk').1];exact h1
       ·rw[hl0]at h1;cases h1
    refine⟨fun hn _=>?_,(ih wt keep r0 pub0 w0 hm0 (late || !need) fr' (fuel - 1) _ st' a' w' r' pub' (by simp[cJ.size]at hf;omega) (lR hc hrd) (by simpa using hz) m' hL' hKp).1 hfit⟩;have hn:=hne hn;subst hn;have hl0:late=false:=by
     cases hlate:late with
     |false=>rfl
     |true=>have:=hln hlate;cases this
    subst hl0;exact m'.ss
   have want:dB P (if need then keep else []) (some (base+rk)) s.d st (iE P keep base K p (fr && s.op.quiet)) s.op→o.wp P a w (fun a' w'=>(cV ops wt i=true→SS keep r0 pub0 w0 w→SS keep r0 pub0 w0 w')∧fI P .any ops Q (SS keep r0 pub0 w0) (cV ops wt) (fuel - 1) (listed.setIfInBounds i true) a' w') Q:=fun hw=>by
    rw[hd]at hw;refine Oper.wp_mono (fun a' w' hp=>?_) (hop C st a w r pub (if need then keep else []) _ _ Q (fun n hn=>by rw[hN];exact hdn n hn) (fun k hk=>?_) m.h hw)
    ·obtain⟨st',r',pub',hk,hh,he,hkp,hq⟩:=hp;refine next _ st' a' w' r' pub' hh he (fun hn=>by rw[hn]at hkp;exact hkp) (fun hfr=>?_) hk
     simp only[aO]at hfr;rw[hq hfr.2,m.eq hfr.1]
    ·cases hnd:need with
     |false=>rw[hnd]at hk;simp at hk
     |true=>
      rw[hnd]at hk;rcases m.some_ k hk with h1|h1
      ·exact h1
      ·have:=hln h1;rw[hnd]at this;cases this
   unfold wpOp;rw[ho];show if Region.wanted o (yielded ops a.tmps)=true then _ else _
   unfold iE qF at hK;cases hgs:s.g with
   |none=>
    rw[hgs]at hK;rw[aF (g1 hgs)];exact .inl (want hK)
   |some tb=>
    obtain⟨t,b⟩:=tb;rw[hgs]at hK;dsimp only at hK;cases hcv:dN st.T t with
    |bl c=>
     rw[hcv]at hK;have hw:=g2 t b c hgs hcv;cases hcb:(c == b) with
     |true=>
      simp only[sW,hcb,if_true]at hK;rw[aF (hw.trans hcb)];exact .inl (want hK)
     |false=>
      simp only[sW,hcb,aY,if_false]at hK;rw[aE (by rw[hw,hcb];simp)];rw[hd]at hK;exact next _ _ _ _ r pub (m.h.put (fun n hn=>by rw[hN];exact hdn n hn) jH) (lV.refl _ _) (fun _=>eG.refl _ _ _) (fun hfr=>by simp only[aO]at hfr;exact m.eq hfr.1) hK
    |tup q=>
     rw[hcv]at hK;cases q with
     |nil=>
      rw[aE (by rw[g3 t b hgs hcv];simp)];rw[hd]at hK;exact next _ _ _ _ r pub (m.h.put (fun n hn=>by rw[hN];exact hdn n hn) jH) (lV.refl _ _) (fun _=>eG.refl _ _ _) (fun hfr=>by simp only[aO]at hfr;exact m.eq hfr.1) hK
     |cons=>exact hK.elim
    |_=>rw[hcv]at hK;exact hK.elim
  have hf0:0 < fuel:=by simp[cJ.size]at hf;omega
  refine⟨fun hp=>?_,fun hp j hj hrd=>?_⟩
  ·obtain⟨hr,hss,hne,hln,hfit⟩:=hp;have hr:=hr rfl;cases fuel with
   |zero=>omega
   |succ fuel=>
    refine⟨fun h0=>(by rw[hr]at h0;cases h0),fun j hj=>?_⟩;have hj':=hj;rw[hr]at hj';obtain rfl:j=i:=by simpa using hj'
    exact key hss hne hln hfit hj hf0
  ·obtain⟨_,hss,hne,hln,hfit⟩:=hp;obtain rfl:j=i:=by simpa [cJ.heads]using hj
   exact key hss hne hln hfit hrd hf0
 |fork p q ihp ihq=>
  intro wt keep r0 pub0 w0 hm0 late fr fuel listed st a w r pub hf hc hz m hL hK;obtain⟨hKp,hKq⟩:=hK;simp only[cJ.size,Nat.max_le]at hf;have hp0:=ihp wt keep r0 pub0 w0 hm0 late fr fuel listed st a w r pub hf.1 hc hz m hL hKp;have hq0:=ihq wt keep r0 pub0 w0 hm0 late fr fuel listed st a w r pub hf.2 hc hz m hL hKq;have arms:dW P N ops wt p true late listed→dW P N ops wt q true late listed→∀i∈(cJ.fork p q).heads,i∈Region.ready .any ops listed →
    wpOp P ops Q i (fun a' w'=>(cV ops wt i=true→SS keep r0 pub0 w0 w→SS keep r0 pub0 w0 w')∧fI P .any ops Q (SS keep r0 pub0 w0) (cV ops wt) (fuel - 1) (listed.setIfInBounds i true) a' w') a w:=fun h1 h2 i hi hrd=>by
   simp only[cJ.heads,List.mem_append]at hi;rcases hi with hi|hi
   ·exact hp0.2 h1 i hi hrd
   ·exact hq0.2 h2 i hi hrd
  refine⟨fun hp=>?_,fun hp=>arms hp.2.1 hp.2.2⟩;obtain⟨hr,h1,h2⟩:=hp;have hr:=hr rfl;cases fuel with
  |zero=>
   have:=(pT p late listed h1).2;omega
  |succ fuel=>
   refine⟨fun h0=>?_,fun j hj=>arms h1 h2 j (by rw[hr]at hj;exact hj) hj⟩;have:=(pT p late listed h1).1;rw[hr]at h0;simp at h0;exact absurd h0.1 this
 |phase p ih=>
  intro wt keep r0 pub0 w0 hm0 late fr fuel listed st a w r pub hf hc hz m hL hK;refine⟨fun hp=>?_,fun hp=>by cases hp.1⟩;obtain⟨_,hnn,wt2,hfit⟩:=hp;have m':MQ (rP p st) C r pub w false true st a w r pub:=⟨m.h,fun _=>eG.refl _ _ _,fun _=>rfl,lV.refl _ _,fun k hk=>.inl (lM m.h (p.dry st) [] k hk)⟩
  exact kM fuel listed a w hnn ((ih wt2 (rP p st) r pub w m.h.mod.there false true fuel listed st a w r pub (by simpa [cJ.size]using hf) hc hz m' (fun h=>by cases h) hK).1 hfit)
 |more p ih=>
  intro wt keep r0 pub0 w0 hm0 late fr fuel listed st a w r pub hf hc hz m hL hK;refine⟨fun hp=>?_,fun hp=>by cases hp.1⟩;obtain⟨_,hlate,wt2,hmo,hfit⟩:=hp;subst hlate;obtain⟨hmo1,hmo2⟩:=Hj hmo;have m':MQ (FT keep (rP p st)) C r pub w false true st a w r pub:=⟨m.h,fun _=>eG.refl _ _ _,fun _=>rfl,lV.refl _ _,fun k hk=>.inl (by
   unfold FT at hk;rcases List.mem_append.1 hk with h1|h1
   ·rcases m.some_ k h1 with h2|h2
    ·exact h2
    ·cases h2
   ·exact lM m.h (p.dry st) [] k (List.mem_filter.1 h1).1)⟩
  have hSS:∀w',SS (FT keep (rP p st)) r pub w w'→SS keep r0 pub0 w0 w':=fun w' h=>by
   refine⟨fun _ b i u hi hu=>?_,fun k hk z hz b hb=>?_⟩
   ·exact h.cell rfl b i u (Nat.lt_of_lt_of_le hi (m.ext.le b)) (m.ext.cell b i u hi hu)
   ·obtain⟨e1,e2⟩:=m.ks rfl k hk;have h1:=h.ent k (List.mem_append_left _ hk) z (by rw[e1];exact hz) b hb;exact h1.trans (e2 z hz b hb)
  exact rA hSS hmo1 fuel listed a w hmo2 hc ⟨fun _ _ _ _ _ h=>h,fun _ _ _ _ _ _=>rfl⟩ ((ih wt2 _ r pub w m.h.mod.there false true fuel listed st a w r pub (by simpa [cJ.size]using hf) hc hz m' (fun h=>by cases h) hK).1 hfit)
end
inductive gQ where
 |skip
 |reg (l:List hU)
 |dreg (p:cJ) (n:Nat) (roots:List Nat)
 |seq (a b:gQ)
 |cond (c:XA) (a b:gQ)
 |block (id:Nat) (a:gQ)
 |loop (a:gQ)
 |exit (id:Nat)
 |ret
 |scope (a:gQ)
 |label (l:Nat)
 |goto (l:Nat)
inductive AF where
 |norm
 |exit (id:Nat)
 |ret
 |goto (l:Nat)
def Ez:Op→Bool
 |.box ..=>true
 |.alloc ..=>true
 |.buildSlice ..=>true
 |.makeMap ..=>true
 |.makeSlice ..=>true
 |.range ..=>true
 |.call c=>match c.callee with
  |.builtin .append=>true
  |_=>false
 |_=>false
def pV (ops:Array Oper) (i:Nat):Nat:=(ops.toList.take i).countP fun o=>Ez o.op
def Da (ops:Array Oper):Nat:=ops.toList.countP fun o=>Ez o.op
def Fc (P:bG) (ops:Array Oper):List Nat:=(List.range ops.size).filter fun i=>match ops[i]? with
 |some o=>match Oh P o with
  |some x=>x.loads
  |none=>false
 |none=>false
def Fy (o:Oper):Nat:=o.after.toList.foldl (fun m e=>if Region.binds .any e=true then m ||| (1 <<< e.on) else m) 0
def Qi (ops:Array Oper):List Nat:=ops.toList.map Fy
def Na (a L:Nat):Bool:=Nat.beq (a &&& L) a
def mJ (ops:Array Oper) (L:Nat):List Nat:=(List.range ops.size).filter fun i=>!Nat.testBit L i && Na ((Qi ops).getD i 0) L
def uB (l:List Oper) (oi:Oper) (i:Nat) (f:Oper→Oper→Bool):Nat→Nat→Nat
 |_,0=>0
 |j,n+1=>match l[j]? with
  |some oj=>(if (j == i || oj.after.any (fun e=>Region.binds .any e && e.on == i) || f oi oj)=true then 0 else 1 <<< j) ||| uB l oi i f (j+1) n
  |none=>uB l oi i f (j+1) n
def O9 (ops:Array Oper):List Nat:=(List.range ops.size).map fun i=>match ops[i]? with
 |some oi=>uB ops.toList oi i (fun a b=>a.apart ops b) 0 ops.size
 |none=>0
def tH (ops:Array Oper) (L i:Nat):Bool:=Nat.blt i ops.size && Na ((O9 ops).getD i 0) L
structure FY (n L:Nat) (listed:Array Bool):Prop where
 size:listed.size=n
 bit:∀i,listed.getD i false=Nat.testBit L i
def Nr (P:bG) (ops:Array Oper) (L:Nat) (i:Nat):Bool:=
 match ops[i]? with
 |some o=>match Oh P o with
  |some x=>x.isPure && tH ops L i
  |none=>false
 |none=>false
def oE (P:bG) (N:Nat) (ops:Array Oper) (i:Nat):Option hU:=
 match ops[i]? with
 |some o=>Cz P N ops o
 |none=>none
def fT.isBsl:fT→Bool
 |.bsl ..=>true
 |.call ..=>true
 |_=>false
def CD (P:bG) (ops:Array Oper) (an:Nat→Nat→Bool) (b:Nat):Bool:=(Fc P ops).any fun x=>an b x
def tA (P:bG) (ops:Array Oper) (an:Nat→Nat→Bool):List Nat:=(List.range ops.size).filter fun b=>match ops[b]? with
 |some o=>match Oh P o with
  |some x=>!x.isPure && (x.isBsl && CD P ops an b || (List.range ops.size).all fun j=>j == b || an j b || an b j)
  |none=>false
 |none=>false
def AA (P:bG) (ops:Array Oper) (an:Nat→Nat→Bool) (bl:List Nat) (L:Nat):List Nat:=(Fc P ops).filter fun x=>!(bl.any fun b=>!(Nat.testBit L b) && an b x)
def kQ (an:Nat→Nat→Bool) (wt:List Nat) (j:Nat):Bool:=wt.any fun x=>x != j && !an x j
def oR (n:Nat) (an:Nat→Nat→Bool) (wt:List Nat) (L:Nat):Bool:=(List.range n).all fun j=>Nat.testBit L j || !kQ an wt j
abbrev agV (ops:Array Oper):Nat→Nat→Bool:=fun i j=>hY .any ops i ops.size j
theorem FY.getT {n L:Nat}{listed:Array Bool}(h:FY n L listed) {i:Nat}(hi:i < n):listed.getD i true=Nat.testBit L i:=by
 rw[←h.bit i];have:i < listed.size:=by rw[h.size];exact hi
 simp[Array.getD,this]
theorem FY.set {n L:Nat}{listed:Array Bool}(h:FY n L listed) {i:Nat}(hi:i < n):FY n (L ||| (1 <<< i)) (listed.setIfInBounds i true):=by
 refine⟨by simp[h.size],fun j=>?_⟩;rw[Nat.testBit_or,Nat.one_shiftLeft,Nat.testBit_two_pow,←h.bit j];have hs:i < listed.size:=by rw[h.size];exact hi
 by_cases e:i=j
 ·subst e;simp[Array.getD,hs]
 ·have e2:(decide (i=j))=false:=by simp[e]
  rw[e2,Bool.or_false];simp only[Array.getD,Array.size_setIfInBounds]
  split
  ·rename_i hj;exact Array.getElem_setIfInBounds_ne hj e
  ·rfl
theorem FY.zero (n:Nat):FY n 0 (Array.replicate n false):=⟨by simp,fun i=>by simp[Array.getD]⟩
theorem mS {ops:Array Oper}{wt:List Nat}{n L:Nat}{listed:Array Bool}(hr:FY n L listed) (h:oR n (agV ops) wt L=true):∀j,listed.getD j true=false→cV ops wt j=false:=fun j hj=>by
 have hl:j < n:=by
  rcases aL j listed.size with h1|h1
  ·rw[hr.size]at h1;exact h1
  ·simp[Array.getElem?_eq_none h1]at hj
 have:=aS.1 h j (List.mem_range.2 hl);rw[←hr.getT hl,hj]at this;have:=by simpa using this
 exact this
def G1 (P:bG) (ops:Array Oper) (an:Nat→Nat→Bool) (i:Nat):Bool:=(List.range ops.size).any fun j=>(match ops[j]? with
 |some o=>match Oh P o with
  |some (.call ..)=>true
  |_=>false
 |none=>false) && an j i
def LB (n:Nat) (an:Nat→Nat→Bool) (wt wt2:List Nat) (L:Nat):Bool:=
 (wt.all fun x=>wt2.contains x) && (List.range n).all fun i=>Nat.testBit L i || (kQ an wt2 i || (List.range n).all fun j=>Nat.testBit L j || (j == i || (an j i || !kQ an wt j)))
def D0 (P:bG) (ops:Array Oper) (an:Nat→Nat→Bool) (bl wt:List Nat) (L:Nat):List Nat:=wt++(AA P ops an bl L).filter fun x=>!wt.contains x
def agO {α:Type}(b:Bool) (f:Bool→α):α:=match b with
 |true=>f true
 |false=>f false
theorem eI {α:Type}(b:Bool) (f:Bool→α):agO b f=f b:=by cases b<;>rfl
def eV (P:bG) (N:Nat) (ops:Array Oper) (an:Nat→Nat→Bool) (bl:List Nat):List Nat→Nat→Bool→Nat→Option cJ
 |_,0,_,L=>if mJ ops L=[] then some .nil else none
 |wt,fuel+1,late,L=>
  match mJ ops L with
  |[]=>some .nil
  |rs=>match rs.find? (Nr P ops L) with
   |some i=>match oE P N ops i with
    |some s=>if (s.op.loads && (G1 P ops an i && oR ops.size an wt L))=true then
     if s.op.isPure=true∧(s.op.loads=true→(AA P ops an bl L).contains i=true)∧tH ops L i=true∧(mJ ops L).contains i=true then
      (eV P N ops an bl (AA P ops an bl L) fuel false (L ||| (1 <<< i))).map fun p=>.phase (.take i s p) else none
     else if s.op.isPure=true∧(s.op.loads=true→wt.contains i=true)∧tH ops L i=true∧(mJ ops L).contains i=true then
      (eV P N ops an bl wt fuel late (L ||| (1 <<< i))).map (.take i s)
     else if late=false∧LB ops.size an wt (D0 P ops an bl wt L) L=true∧s.op.isPure=true∧(s.op.loads=true→(D0 P ops an bl wt L).contains i=true)∧tH ops L i=true∧(mJ ops L).contains i=true then
      (eV P N ops an bl (D0 P ops an bl wt L) fuel false (L ||| (1 <<< i))).map fun p=>.more (.take i s p) else arms rs (fun i=>match oE P N ops i with
     |some s=>if late=true∧kQ an wt i=true then none else
      if (bl.contains i && oR ops.size an wt (L ||| (1 <<< i)) && !(AA P ops an bl (L ||| (1 <<< i))).isEmpty)=true then
       agO (kQ an wt i) fun nd=>(eV P N ops an bl (AA P ops an bl (L ||| (1 <<< i))) fuel false (L ||| (1 <<< i))).map fun p=>.eff i (pV ops i) nd s (.phase p)
      else match eV P N ops an bl wt fuel (late || !kQ an wt i) (L ||| (1 <<< i)) with
       |some p=>agO (kQ an wt i) fun nd=>some (.eff i (pV ops i) nd s p)
       |none=>if late=true∨kQ an wt i=true then none else (eV P N ops an bl wt fuel false (L ||| (1 <<< i))).map (.eff i (pV ops i) true s)
     |none=>none)
    |none=>none
   |none=>arms rs (fun i=>match oE P N ops i with
    |some s=>if late=true∧kQ an wt i=true then none else
     if (bl.contains i && oR ops.size an wt (L ||| (1 <<< i)) && !(AA P ops an bl (L ||| (1 <<< i))).isEmpty)=true then
      agO (kQ an wt i) fun nd=>(eV P N ops an bl (AA P ops an bl (L ||| (1 <<< i))) fuel false (L ||| (1 <<< i))).map fun p=>.eff i (pV ops i) nd s (.phase p)
     else match eV P N ops an bl wt fuel (late || !kQ an wt i) (L ||| (1 <<< i)) with
      |some p=>agO (kQ an wt i) fun nd=>some (.eff i (pV ops i) nd s p)
      |none=>if late=true∨kQ an wt i=true then none else (eV P N ops an bl wt fuel false (L ||| (1 <<< i))).map (.eff i (pV ops i) true s)
    |none=>none)
where arms:List Nat→(Nat→Option cJ)→Option cJ
 |[],_=>none
 |[i],f=>f i
 |i :: j :: l,f=>match f i,arms (j :: l) f with
  |some p,some q=>some (.fork p q)
  |_,_=>none
def lU (acc:List Nat) (o:Oper):Nat:=o.after.toList.foldl (fun m e=>if Region.binds .any e=true then m ||| ((1 <<< e.on) ||| acc.getD e.on 0) else m) 0
def kH:List Oper→List Nat→List Nat
 |[],acc=>acc
 |o :: l,acc=>kH l (acc++[lU acc o])
def NF (ops:Array Oper):Bool:=(List.range ops.size).all fun j=>match ops[j]? with
 |some o=>o.after.toList.all fun e=>!Region.binds .any e || Nat.blt e.on j
 |none=>true
def rS (t:List Nat) (i j:Nat):Bool:=Nat.testBit (t.getD j 0) i
def BT (ops:Array Oper):Nat→Nat→Bool:=if NF ops=true then rS (kH ops.toList []) else agV ops
theorem oO:∀(l:List Oper) (acc:List Nat),∃r,kH l acc=acc++r∧r.length=l.length
 |[],acc=>⟨[],by simp[kH],rfl⟩
 |o :: l,acc=>by
  obtain⟨r,hr,hl⟩:=oO l (acc++[lU acc o]);exact⟨lU acc o :: r,by rw[kH,hr];simp,by simp[hl]⟩
theorem uQ:∀(l:List Oper) (acc:List Nat) (k:Nat) (o:Oper),l[k]?=some o→(kH l acc)[acc.length+k]?=some (lU ((kH l acc).take (acc.length+k)) o)
 |[],acc,k,o,h=>by simp at h
 |o' :: l,acc,0,o,h=>by
  obtain rfl:o'=o:=by simpa using h
  obtain⟨r,hr,_⟩:=oO l (acc++[lU acc o']);rw[kH,hr];simp
 |o' :: l,acc,k+1,o,h=>by
  have:=uQ l (acc++[lU acc o']) k o (by simpa using h);rw[aM,List.length_singleton]at this;rw[kH,show acc.length+(k+1)=acc.length+1+k by omega];exact this
theorem Cp {α:Type}{f g:α→Bool}:∀{l:List α},(∀e∈l,f e=g e)→l.any f=l.any g
 |[],_=>rfl
 |x :: l,h=>by rw[List.any_cons,List.any_cons,h x (by simp),Cp fun e he=>h e (by simp[he])]
theorem CU (acc:List Nat) (o:Oper) (i:Nat):Nat.testBit (lU acc o) i=o.after.toList.any fun e=>Region.binds .any e && (e.on == i || rS acc i e.on):=by
 have key:∀(l:List _) (m:Nat),Nat.testBit (l.foldl (fun m e=>if Region.binds .any e=true then m ||| ((1 <<< e.on) ||| acc.getD e.on 0) else m) m) i=(Nat.testBit m i || l.any fun e=>Region.binds .any e && (e.on == i || rS acc i e.on)):=by
  intro l
  induction l with
  |nil=>intro m;simp
  |cons e l ih=>
   intro m;rw[List.foldl_cons,ih,List.any_cons];cases hb:Region.binds .any e with
   |false=>simp
   |true=>
    simp only[if_true,Nat.testBit_or,Nat.one_shiftLeft,Nat.testBit_two_pow,Bool.true_and];unfold rS;rw[Bool.or_assoc];congr 2
 rw[lU,key];simp
theorem Mu (ops:Array Oper):BT ops=agV ops:=by
 unfold BT
 split
 ·rename_i hord;funext i j;obtain⟨r,hr,hrl⟩:=oO ops.toList [];generalize ht:kH ops.toList []=t at hr;have htl:t.length=ops.size:=by rw[hr];simpa using hrl
  have main:∀(j n:Nat),j < n→hY .any ops i n j=rS t i j:=by
   intro j
   induction j using Nat.strongRecOn with
   |ind j ih=>
    intro n hn;obtain⟨n,rfl⟩:∃m,n=m+1:=⟨n - 1,by omega⟩
    unfold hY;cases ho:ops[j]? with
    |none=>
     have:ops.size≤j:=by rcases aL j ops.size with h|h;(· rw[aK h]at ho;cases ho);exact h
     unfold rS;rw[List.getD_eq_getElem?_getD,List.getElem?_eq_none (by omega)];simp
    |some o=>
     have hg:=uQ ops.toList [] j o (by simpa using ho);rw[ht]at hg;simp only[List.length_nil,Nat.zero_add]at hg;have hgd:t.getD j 0=lU (t.take j) o:=by rw[List.getD_eq_getElem?_getD,hg];rfl
     unfold rS;rw[hgd,CU];refine Cp fun e he=>?_
     cases hb:Region.binds .any e with
     |false=>rfl
     |true=>
      have hj:j < ops.size:=by rcases aL j ops.size with h|h;(· exact h);rw[Array.getElem?_eq_none h]at ho;cases ho
      have h1:=aS.1 hord j (List.mem_range.2 hj);simp only[ho]at h1;have h2:=aS.1 h1 e he;rw[hb]at h2;have hlt:e.on < j:=by simpa [Nat.blt_eq]using h2
      rw[ih e.on hlt n (by omega)];have:rS (t.take j) i e.on=rS t i e.on:=by
       unfold rS;rw[List.getD_eq_getElem?_getD,List.getD_eq_getElem?_getD,List.getElem?_take,aF hlt]
      rw[this]
  show rS t i j=hY .any ops i ops.size j;rcases aL j ops.size with h|h
  ·exact(main j ops.size h).symm
  ·have h1:hY .any ops i ops.size j=false:=by
    cases ops.size with
    |zero=>rfl
    |succ n=>unfold hY;rw[Array.getElem?_eq_none (by omega)]
   rw[h1];unfold rS;rw[List.getD_eq_getElem?_getD,List.getElem?_eq_none (by omega)];simp
 ·rfl
theorem fC {P:bG}{N:Nat}{ops:Array Oper}{i:Nat}{s:hU}(h:oE P N ops i=some s):pO P N ops i s:=by
 unfold oE at h
 split at h
 ·rename_i o ho;exact⟨o,ho,h⟩
 ·cases h
theorem Ax {P:bG}{N:Nat}{ops:Array Oper}{wt:List Nat}{late:Bool}{listed:Array Bool}{f:Nat→Option cJ}(hf:∀i p,f i=some p→p.heads=[i]∧dW P N ops wt p true late listed) :
  ∀(l:List Nat) (p:cJ),eV.arms l f=some p→p.heads=l∧dW P N ops wt p true late listed
 |[],p,h=>by cases h
 |[i],p,h=>hf i p h
 |i :: j :: l,p,h=>by
  unfold eV.arms at h
  split at h
  ·rename_i p1 q1 h1 h2;cases h;obtain⟨e1,f1⟩:=hf i p1 h1;obtain⟨e2,f2⟩:=Ax hf (j :: l) q1 h2;exact⟨by simp[cJ.heads,e1,e2],⟨(fun h=>by cases h),f1,f2⟩⟩
  ·cases h
theorem rG {P:bG}{N:Nat}{ops:Array Oper}{wt:List Nat}{late:Bool}{listed:Array Bool}{p:cJ}(h:dW P N ops wt p true late listed) (hr:Region.ready .any ops listed=p.heads):dW P N ops wt p false late listed:=by
 cases p with
 |nil=>cases h.1
 |take=>cases h.1
 |eff i rk need s p=>exact⟨fun _=>hr,h.2⟩
 |phase=>cases h.1
 |more=>cases h.1
 |fork p q=>exact⟨fun _=>hr,h.2⟩
theorem AU {a L:Nat}:Na a L=true↔ ∀i,Nat.testBit a i=true→Nat.testBit L i=true:=by
 unfold Na;rw[Nat.beq_eq];constructor
 ·intro h i hi;have:=congrArg (fun n=>Nat.testBit n i) h;simp only[Nat.testBit_and,hi,Bool.true_and]at this;exact this
 ·intro h;refine Nat.eq_of_testBit_eq fun i=>?_
  rw[Nat.testBit_and];cases ha:Nat.testBit a i with
  |false=>rfl
  |true=>rw[h i ha];rfl
theorem xL (o:Oper) (i:Nat):Nat.testBit (Fy o) i=o.after.toList.any fun e=>Region.binds .any e && e.on == i:=by
 have key:∀(l:List _) (m:Nat),Nat.testBit (l.foldl (fun m e=>if Region.binds .any e=true then m ||| (1 <<< e.on) else m) m) i=(Nat.testBit m i || l.any fun e=>Region.binds .any e && e.on == i):=by
  intro l
  induction l with
  |nil=>intro m;simp
  |cons e l ih=>
   intro m;rw[List.foldl_cons,ih,List.any_cons];cases hb:Region.binds .any e with
   |false=>simp
   |true=>
    simp only[if_true,Nat.testBit_or,Nat.one_shiftLeft,Nat.testBit_two_pow,Bool.true_and];rw[Bool.or_assoc];congr 2
 rw[Fy,key];simp
theorem aeO (ops:Array Oper) {i:Nat}{o:Oper}(h:ops[i]?=some o):(Qi ops).getD i 0=Fy o:=by
 rw[List.getD_eq_getElem?_getD,Qi,aD,aX,h];rfl
theorem tB {ops:Array Oper}{L:Nat}{listed:Array Bool}(ho:NF ops=true) (hr:FY ops.size L listed):Region.ready .any ops listed=mJ ops L:=by
 unfold Region.ready mJ;refine List.filter_congr fun i hi=>?_
 have hi:=List.mem_range.1 hi;rw[hr.getT hi,aK hi,aeO ops (aK hi)];congr 1;rw[Option.map_some,Option.getD_some,Bool.eq_iff_iff,AU,Array.all_eq_true_iff_forall_mem];constructor
 ·intro h j hj;rw[xL,List.any_eq_true]at hj;obtain⟨e,he,hj⟩:=hj;simp only[aO,beq_iff_eq]at hj;have:=h e (Array.mem_toList_iff.1 he);rw[hj.1,hj.2]at this;rw[←hr.bit];simpa using this
 ·intro h e he;cases hb:Region.binds .any e with
  |false=>rfl
  |true=>
   have:=h e.on (by rw[xL,List.any_eq_true];exact⟨e,Array.mem_toList_iff.2 he,by simp[hb]⟩);rw[←hr.bit]at this;simpa using this
theorem pW (l:List Oper) (oi:Oper) (i:Nat) (f:Oper→Oper→Bool) (q:Nat):∀(n j:Nat),Nat.testBit (uB l oi i f j n) q=true↔j≤q∧q < j+n∧∃oj,l[q]?=some oj∧(q == i || oj.after.any (fun e=>Region.binds .any e && e.on == i) || f oi oj)=false
 |0,j=>by simp[uB];omega
 |n+1,j=>by
  unfold uB;have ih:=pW l oi i f q n (j+1);cases hj:l[j]? with
  |none=>
   dsimp only;rw[ih];constructor
   ·rintro ⟨h1,h2,h3⟩;exact⟨by omega,by omega,h3⟩
   ·rintro ⟨h1,h2,oj,h3,h4⟩;have:j≠q:=by rintro rfl;rw[hj]at h3;cases h3
    exact⟨by omega,by omega,oj,h3,h4⟩
  |some oj=>
   dsimp only;rw[Nat.testBit_or,Bool.or_eq_true,ih];constructor
   ·rintro (h|⟨h1,h2,h3⟩)
    ·split at h
     ·simp at h
     ·rename_i hc;rw[Nat.one_shiftLeft,Nat.testBit_two_pow,decide_eq_true_eq]at h;subst h;exact⟨aN _,by omega,oj,hj,Bool.eq_false_iff.2 hc⟩
    ·exact⟨by omega,by omega,h3⟩
   ·rintro ⟨h1,h2,ok,h3,h4⟩;by_cases e:j=q
    ·subst e;rw[hj]at h3;cases h3;left;rw[aE (by rw[h4];decide),Nat.one_shiftLeft,Nat.testBit_two_pow];simp
    ·exact .inr ⟨by omega,by omega,ok,h3,h4⟩
theorem Nk {ops:Array Oper}{L i:Nat}{listed:Array Bool}(hr:FY ops.size L listed):Region.free .any ops listed i=tH ops L i:=by
 unfold Region.free tH;cases ho:ops[i]? with
 |none=>
  have:¬i < ops.size:=fun h=>by rw[aK h]at ho;cases ho
  have e:Nat.blt i ops.size=false:=by rw[Bool.eq_false_iff,ne_eq,Nat.blt_eq];exact this
  rw[e];rfl
 |some oi=>
  have hi:i < ops.size:=by rcases aL i ops.size with h|h;(· exact h);rw[Array.getElem?_eq_none h]at ho;cases ho
  have e:Nat.blt i ops.size=true:=by rw[Nat.blt_eq];exact hi
  rw[e,Bool.true_and];have hg:(O9 ops).getD i 0=uB ops.toList oi i (fun a b=>a.apart ops b) 0 ops.size:=by
   rw[List.getD_eq_getElem?_getD,O9,aD,List.getElem?_range hi];simp only[Option.map_some,ho,Option.getD_some]
  rw[hg,Bool.eq_iff_iff,AU,aS];constructor
  ·intro h q hq;obtain⟨_,h2,oj,h3,h4⟩:=(pW _ _ _ _ _ _ _).1 hq;have h1:=h q (List.mem_range.2 (by omega));rw[aX]at h3;rw[h3]at h1;simp only[Bool.or_eq_false_iff]at h4;simp only[h4.1.1,h4.1.2,h4.2,Bool.false_or,Bool.or_false]at h1;rw[←hr.getT (by omega)];exact h1
  ·intro h j hj;have hj:=List.mem_range.1 hj;rw[hr.getT hj,aK hj];dsimp only;cases hc:(j == i || ops[j].after.any (fun e=>Region.binds .any e && e.on == i) || oi.apart ops ops[j]) with
   |false=>
    have:=h j ((pW _ _ _ _ _ _ _).2 ⟨aI _,by omega,ops[j],by rw[aX,aK hj],hc⟩);simp[this]
   |true=>
    simp only[Bool.or_eq_true]at hc;rcases hc with (hc|hc)|hc<;>simp[hc]
theorem MS {ops:Array Oper}{wt wt2:List Nat}{L:Nat}{listed:Array Bool}(hr:FY ops.size L listed) (h:LB ops.size (agV ops) wt wt2 L=true):tV ops wt wt2 listed=true:=by
 unfold tV;unfold LB at h;rw[aO]at h⊢;refine⟨h.1,?_⟩;rw[hr.size];rw[aS]at *;intro i hi;have h1:=aS.1 h.2 i hi;rw[hr.getT (List.mem_range.1 hi)];rw[Bool.or_eq_true,Bool.or_eq_true]at h1⊢;rcases h1 with h1|h1|h1
 ·exact .inl h1
 ·exact .inr (.inl h1)
 ·refine .inr (.inr ?_);rw[aS]at h1⊢;intro j hj;have h2:=h1 j hj;rw[hr.getT (List.mem_range.1 hj)];exact h2
theorem Hd {P:bG}{N:Nat}{ops:Array Oper}{i:Nat}{s:hU}(h:oE P N ops i=some s):i < ops.size:=by
 obtain⟨o,ho,_⟩:=fC h;exact(Array.getElem?_eq_some_iff.1 ho).1
theorem fH {P:bG}{N:Nat}{ops:Array Oper}{bl:List Nat}:∀(wt:List Nat) (fuel:Nat) (late:Bool) (L:Nat) (listed:Array Bool) (p:cJ),NF ops=true→FY ops.size L listed→eV P N ops (agV ops) bl wt fuel late L=some p→dW P N ops wt p false late listed
 |wt,0,late,L,listed,p,ho,hr,h=>by
  unfold eV at h
  split at h
  ·rename_i h0;cases h;exact⟨rfl,by rw[tB ho hr];exact h0⟩
  ·cases h
 |wt,fuel+1,late,L,listed,p,ho,hr,h=>by
  have hrd:=tB ho hr;have hfr:∀{i:Nat},tH ops L i=true→Region.free .any ops listed i=true:=fun {i} h=>by rw[Nk hr];exact h
  have hre:∀{i:Nat},(mJ ops L).contains i=true→(Region.ready .any ops listed).contains i=true:=fun {i} h=>by rw[hrd];exact h
  have hset:∀{i:Nat}{s:hU},oE P N ops i=some s→FY ops.size (L ||| (1 <<< i)) (listed.setIfInBounds i true):=fun {i s} hi=>hr.set (Hd hi)
  unfold eV at h
  split at h
  ·rename_i h0;cases h;exact⟨rfl,by rw[tB ho hr];exact h0⟩
  ·rename_i h0
   split at h
   ·rename_i i hi
    split at h
    ·rename_i s hs
     split at h
     ·rename_i hph;simp only[aO]at hph
      split at h
      ·rename_i hc;obtain⟨q,hq,rfl⟩:=map_some h;exact⟨rfl,mS hr hph.2.2,_,rfl,fC hs,hc.1,hc.2.1,hfr hc.2.2.1,hre hc.2.2.2,fH _ fuel _ _ _ _ ho (hset hs) hq⟩
      ·cases h
     ·split at h
      ·rename_i hc;obtain⟨q,hq,rfl⟩:=map_some h;exact⟨rfl,fC hs,hc.1,hc.2.1,hfr hc.2.2.1,hre hc.2.2.2,fH wt fuel _ _ _ _ ho (hset hs) hq⟩
      ·split at h
       ·rename_i hc;obtain⟨q,hq,rfl⟩:=map_some h;exact⟨rfl,hc.1,_,MS hr hc.2.1,rfl,fC hs,hc.2.2.1,hc.2.2.2.1,hfr hc.2.2.2.2.1,hre hc.2.2.2.2.2,fH _ fuel _ _ _ _ ho (hset hs) hq⟩
       ·obtain⟨h1,h2⟩:=Ax (P:=P) (N:=N) (ops:=ops) (wt:=wt) (late:=late) (listed:=listed) (fun i p hp=>by
         split at hp
         ·rename_i s hs
          split at hp
          ·cases hp
          ·rename_i hc;have hne:late=true→cV ops wt i=false:=fun hl=>by
            cases hn:cV ops wt i with
            |false=>rfl
            |true=>exact absurd ⟨hl,hn⟩ hc
           split at hp
           ·rename_i hb;rw[eI]at hp;obtain⟨q,hq,rfl⟩:=map_some hp;simp only[aO]at hb;exact⟨rfl,(fun h=>by cases h),fC hs,id,hne,rfl,mS (hset hs) hb.1.2,_,fH _ fuel _ _ _ _ ho (hset hs) hq⟩
           ·split at hp
            ·rename_i q hq;rw[eI]at hp;cases hp;exact⟨rfl,(fun h=>by cases h),fC hs,id,hne,fH wt fuel _ _ _ _ ho (hset hs) hq⟩
            ·split at hp
             ·cases hp
             ·rename_i hl;obtain⟨q,hq,rfl⟩:=map_some hp;have hl0:late=false:=by cases late with|false=>rfl|true=>exact absurd (.inl rfl) hl
              subst hl0;exact⟨rfl,(fun h=>by cases h),fC hs,fun _=>rfl,(fun h=>by cases h),fH wt fuel _ _ _ _ ho (hset hs) hq⟩
         ·cases hp) _ _ h
        exact rG h2 (hrd.trans h1.symm)
    ·cases h
   ·obtain⟨h1,h2⟩:=Ax (P:=P) (N:=N) (ops:=ops) (wt:=wt) (late:=late) (listed:=listed) (fun i p hp=>by
     split at hp
     ·rename_i s hs
      split at hp
      ·cases hp
      ·rename_i hc;have hne:late=true→cV ops wt i=false:=fun hl=>by
        cases hn:cV ops wt i with
        |false=>rfl
        |true=>exact absurd ⟨hl,hn⟩ hc
       split at hp
       ·rename_i hb;rw[eI]at hp;obtain⟨q,hq,rfl⟩:=map_some hp;simp only[aO]at hb;exact⟨rfl,(fun h=>by cases h),fC hs,id,hne,rfl,mS (hset hs) hb.1.2,_,fH _ fuel _ _ _ _ ho (hset hs) hq⟩
       ·split at hp
        ·rename_i q hq;rw[eI]at hp;cases hp;exact⟨rfl,(fun h=>by cases h),fC hs,id,hne,fH wt fuel _ _ _ _ ho (hset hs) hq⟩
        ·split at hp
         ·cases hp
         ·rename_i hl;obtain⟨q,hq,rfl⟩:=map_some hp;have hl0:late=false:=by cases late with|false=>rfl|true=>exact absurd (.inl rfl) hl
          subst hl0;exact⟨rfl,(fun h=>by cases h),fC hs,fun _=>rfl,(fun h=>by cases h),fH wt fuel _ _ _ _ ho (hset hs) hq⟩
     ·cases hp) _ _ h
    exact rG h2 (hrd.trans h1.symm)
theorem fE {P:bG}{N:Nat}{ops:Array Oper}{an:Nat→Nat→Bool}{bl:List Nat}:∀(wt:List Nat) (fuel:Nat) (late:Bool) (listed:Nat) (p:cJ),eV P N ops an bl wt fuel late listed=some p→p.size≤fuel
 |wt,0,late,listed,p,h=>by
  unfold eV at h
  split at h
  ·cases h;exact aI _
  ·cases h
 |wt,fuel+1,late,listed,p,h=>by
  have key:∀(f:Nat→Option cJ),(∀i p,f i=some p→p.size≤fuel+1)→∀(l:List Nat) (p:cJ),eV.arms l f=some p→p.size≤fuel+1:=by
   intro f hf l
   induction l with
   |nil=>intro p h;cases h
   |cons i l ih=>
    intro p h;cases l with
    |nil=>exact hf i p h
    |cons j l=>
     unfold eV.arms at h
     split at h
     ·rename_i p1 q1 h1 h2;cases h;have:=hf i p1 h1;have:=ih q1 h2;simp[cJ.size,eI];omega
     ·cases h
  unfold eV at h
  split at h
  ·cases h;exact aI _
  ·split at h
   ·split at h
    ·split at h
     ·split at h
      ·obtain⟨q,hq,rfl⟩:=map_some h;have:=fE _ fuel _ _ _ hq;simp[cJ.size,eI];omega
      ·cases h
     ·split at h
      ·obtain⟨q,hq,rfl⟩:=map_some h;have:=fE wt fuel _ _ _ hq;simp[cJ.size,eI];omega
      ·split at h
       ·obtain⟨q,hq,rfl⟩:=map_some h;have:=fE _ fuel _ _ _ hq;simp[cJ.size,eI];omega
       ·refine key _ (fun i p hp=>?_) _ _ h
        split at hp
        ·split at hp
         ·cases hp
         ·split at hp
          ·rw[eI]at hp;obtain⟨q,hq,rfl⟩:=map_some hp;have:=fE _ fuel _ _ _ hq;simp[cJ.size,eI];omega
          ·split at hp
           ·rename_i q hq;rw[eI]at hp;cases hp;have:=fE wt fuel _ _ _ hq;simp[cJ.size,eI];omega
           ·split at hp
            ·cases hp
            ·obtain⟨q,hq,rfl⟩:=map_some hp;have:=fE wt fuel _ _ _ hq;simp[cJ.size,eI];omega
        ·cases hp
    ·cases h
   ·refine key _ (fun i p hp=>?_) _ _ h
    split at hp
    ·split at hp
     ·cases hp
     ·split at hp
      ·rw[eI]at hp;obtain⟨q,hq,rfl⟩:=map_some hp;have:=fE _ fuel _ _ _ hq;simp[cJ.size,eI];omega
      ·split at hp
       ·rename_i q hq;rw[eI]at hp;cases hp;have:=fE wt fuel _ _ _ hq;simp[cJ.size,eI];omega
       ·split at hp
        ·cases hp
        ·obtain⟨q,hq,rfl⟩:=map_some hp;have:=fE wt fuel _ _ _ hq;simp[cJ.size,eI];omega
    ·cases hp
def oL (ops:Array Oper):Nat→Operand→List Nat
 |0,_=>[]
 |n+1,.tmp t=>match ops.toList.find? (fun o=>o.dst == some t) with
  |none=>[t]
  |some o=>match o.op with
   |.fieldAddr _ x _=>oL ops n x
   |.nilCheck x=>oL ops n x
   |.move x=>oL ops n x
   |.indexAddr _ x _=>oL ops n x
   |_=>[]
 |_,_=>[]
def MH (ops:Array Oper):List Nat:=(ops.toList.flatMap fun o=>match o.op with
 |.load _ x=>oL ops ops.size x
 |.lookup _ x _ _=>oL ops ops.size x
 |.call c=>match c.callee,c.args.toList with
  |.builtin .len,[x]=>oL ops ops.size x
  |_,_=>[]
 |_=>[]).eraseDups
def hX (P:bG) (N:Nat):Code→Option gQ
 |.skip=>some .skip
 |.region _ ops draw=>if draw=true then
  (if Region.noSelect ops=true∧P.follows .mixedOrders=true∧NF ops=true then (eV P N ops (BT ops) (tA P ops (BT ops)) (AA P ops (BT ops) (tA P ops (BT ops)) 0) ops.size false 0).map fun p=>.dreg p (Da ops) (MH ops) else none)
  else (ops.toList.mapM (qR P N ops)).map .reg
 |.seq a b=>match hX P N a,hX P N b with
  |some x,some y=>some (.seq x y)
  |_,_=>none
 |.cond c a b=>match cA c,hX P N a,hX P N b with
  |some z,some x,some y=>some (.cond z x y)
  |_,_,_=>none
 |.block id a=>(hX P N a).map (.block id)
 |.loop a=>(hX P N a).map .loop
 |.exit id=>some (.exit id)
 |.ret=>some .ret
 |.scope a=>(hX P N a).map .scope
 |.label l=>some (.label l)
 |.goto l=>some (.goto l)
 |_=>none
def QX (C:kN) (Q:AF→St→Prop):Exit→Act→World→Prop
 |.normal=>BG C (Q .norm)
 |.exit id=>BG C (Q (.exit id))
 |.ret=>BG C (Q .ret)
 |.goto l=>BG C (Q (.goto l))
 |_=>fun _ _=>False
def Q9 (K:St→Prop) (Q:AF→St→Prop):AF→St→Prop
 |.norm,st=>K st
 |.exit id,st=>Q (.exit id) st
 |.ret,st=>Q .ret st
 |.goto l,st=>Q (.goto l) st
def Td (id:Nat) (Q:AF→St→Prop):AF→St→Prop
 |.norm,st=>Q .norm st
 |.exit id',st=>if id'=id then Q .norm st else Q (.exit id') st
 |.ret,st=>Q .ret st
 |.goto l,st=>Q (.goto l) st
def cJ.forky:cJ→Bool
 |.nil=>false
 |.take _ _ p=>p.forky
 |.eff _ _ _ _ p=>p.forky
 |.fork _ _=>true
 |.phase p=>p.forky
 |.more p=>p.forky
def KO (K:St→Prop) (st:St):Prop:=K ⟨Fv st.T,st.H⟩
structure pS (P:bG) (N M:Nat) (c:gQ) (Q:AF→St→Prop) (st:St):Prop where
 out:∀(code:Code) (C:kN) (a:Act) (w:World) (r:cF) (pub:cI),hX P N code=some c→C.n=N→C.m=M→bM C st a w r pub→(Code.loop code).wp P (QX C Q) a w
structure Ns (P:bG) (N M:Nat) (c:gQ) (Q:AF→St→Prop) (st:St):Prop where
 out:∀(code:Code) (C:kN) (a:Act) (w:World) (r:cF) (pub:cI),hX P N code=some c→C.n=N→C.m=M→bM C st a w r pub→(Code.scope code).wp P (QX C Q) a w
def XW (P:bG) (N M:Nat):gQ→(AF→St→Prop)→St→Prop
 |.skip,Q,st=>Q .norm st
 |.reg l,Q,st=>CE P (Q .norm) l st
 |.dreg p n _,Q,st=>iE P (rP p st) st.H.length (if p.forky=true then KO (Q .norm) else Q .norm) p true ⟨st.T,st.H++List.replicate n .dead⟩
 |.seq a b,Q,st=>XW P N M a (Q9 (XW P N M b Q) Q) st
 |.cond c a b,Q,st=>match st.ev c with
  |.bl t=>sW t (fun _=>XW P N M a Q st) (fun _=>XW P N M b Q st)
  |_=>False
 |.block id a,Q,st=>XW P N M a (Td id Q) st
 |.loop a,Q,st=>pS P N M a Q st
 |.exit id,Q,st=>Q (.exit id) st
 |.ret,Q,st=>Q .ret st
 |.scope c,Q,st=>Ns P N M c Q st
 |.label _,Q,st=>Q .norm st
 |.goto l,Q,st=>Q (.goto l) st
end Go.Proofs.YtooioahiijbomaaGreatDoor
end
