/-
  Texts of this proof,joined: VA,VAM,VBS,VAP,VB,Plan,Plan2,VC,VD,VE,VF.
-/
import Derived.Test.YtigdiekbiphhmaaGreatDoorK1
import Derived.MapKept
import Derived.Laws.BytesArg
import Derived.Maps.RangeRun
import Derived.Laws.MakeOwn
import Derived.Deep.RegionHeld
import Derived.WalkKit
import Derived.ScopeJumps
set_option linter.unusedVariables false
set_option linter.unusedSimpArgs false
noncomputable section
namespace Go.Proofs.YtigdiekbiphhmaaGreatDoor
open Go.RowKit
theorem EL {sz:Nat}{xs:List AV}(hs:∀x∈xs,x.cells.length=sz) {i:Nat}(hi:i < xs.length) {y:AV}(hy:y.cells.length=sz):(xs.set i y).flatMap AV.cells=jP (xs.flatMap AV.cells) y.cells (i * sz):=by
 have e1:xs=xs.take i++[xs[i]]++xs.drop (i+1):=by simp
 have hpre:(((xs.take i).flatMap AV.cells)).length=i * sz:=by
  rw[eO _ (fun z hz=>hs z (List.mem_of_mem_take hz)),aS];congr 1;omega
 have e2:xs.flatMap AV.cells=(xs.take i).flatMap AV.cells++xs[i].cells++(xs.drop (i+1)).flatMap AV.cells:=by
  have:=congrArg (List.flatMap AV.cells) e1;rw[this];simp only[List.flatMap_append,List.flatMap_cons,List.flatMap_nil,List.append_nil]
 have hxi:=hs xs[i] (List.getElem_mem hi);have:=IR ((xs.take i).flatMap AV.cells) xs[i].cells ((xs.drop (i+1)).flatMap AV.cells) y.cells 0 (by omega);rw[List.set_eq_take_append_cons_drop,aF hi,List.flatMap_append,List.flatMap_cons,←bG];unfold jP;rw[e2,←hpre];simp only[List.take_zero,List.nil_append,Nat.add_zero,Nat.zero_add]at this;rw[List.drop_eq_nil_of_le (by omega),List.append_nil]at this;exact this
theorem xZ {sz:Nat}:∀(ps:List (Nat×AV)) (xs:List AV),(∀x∈xs,x.cells.length=sz∧x.cells.all AV.one=true)→(∀p∈ps,p.1 < xs.length∧p.2.cells.length=sz∧p.2.cells.all AV.one=true) →
  (pF xs ps).flatMap AV.cells=uK (xs.flatMap AV.cells) (ps.map fun p=>(p.1 * sz,p.2.cells))∧(pF xs ps).length=xs.length∧∀x∈pF xs ps,x.cells.length=sz∧x.cells.all AV.one=true
 |[],xs,hs,_=>⟨rfl,rfl,hs⟩
 |(i,y) :: ps,xs,hs,hp=>by
  obtain⟨h1,h2,h3⟩:=hp (i,y) (by simp);have hs':∀x∈xs.set i y,x.cells.length=sz∧x.cells.all AV.one=true:=fun x hx=>by
   rcases List.mem_or_eq_of_mem_set hx with hx|rfl
   ·exact hs x hx
   ·exact⟨h2,h3⟩
  obtain⟨k1,k2,k3⟩:=xZ ps (xs.set i y) hs' (fun p hp'=>by
   obtain⟨q1,q2⟩:=hp p (by simp[hp']);exact⟨by simpa using q1,q2⟩)
  unfold pF;refine⟨?_,by simpa using k2,k3⟩;rw[k1,EL (fun x hx=>(hs x hx).1) h1 h2];rfl
def rX:List (Nat×Operand)→Option (List (Nat×XA))
 |[]=>some []
 |(i,x) :: l=>match cA x,rX l with
  |some x',some r=>some ((i,x') :: r)
  |_,_=>none
theorem rB:∀{l:List (Nat×Operand)}{r:List (Nat×XA)},rX l=some r→l.length=r.length∧
  ∀(i:Nat) (q:Nat×Operand) (p:Nat×XA),l[i]?=some q→r[i]?=some p→q.1=p.1∧cA q.2=some p.2
 |[],r,h=>by cases h;exact⟨rfl,fun i q p h=>by simp at h⟩
 |(i,x) :: l,r,h=>by
  unfold rX at h
  split at h
  ·rename_i x' r' h2 h3;cases h;obtain⟨h4,h5⟩:=rB h3;refine⟨by simp[h4],fun j q p hq hp=>?_⟩;cases j with
   |zero=>simp at hq hp;subst hq hp;exact⟨rfl,h2⟩
   |succ j=>exact h5 j q p (by simpa using hq) (by simpa using hp)
  ·cases h
theorem qW (n:Nat) (l:List AV) (x:AV) (hx:x.cells=l) (q:Nat) (hq:q < n * l.length):((List.replicate n x).flatMap AV.cells)[q]?=l[q % l.length]?:=by
 induction n generalizing q with
 |zero=>simp at hq
 |succ n ih=>
  rw[List.replicate_succ,List.flatMap_cons,hx];by_cases h:q < l.length
  ·rw[List.getElem?_append_left h,Nat.mod_eq_of_lt h]
  ·rw[List.getElem?_append_right (by omega),ih _ (by rw[Nat.succ_mul]at hq;omega)];rw[Nat.mod_eq_sub_mod (a:=q) (by omega)]
section
variable {P:bI}{o:Oper}
theorem Ur {t e n:Nat}{parts:Array (Nat×Operand)}{it:TypeInfo}{z:Value}{zs:List AV}{ps:List (Nat×XA)}(ht:P.underlying t=some (.slice e)) (hi:P.info? e=some it) (hz:it.zero=some z) (hc:iX z.cells.toList=some zs) (hzs:zs.length=it.size) (hz0:it.size≠0)
  (hsm:n * it.size≤2 ^ 24) (hps:rX parts.toList=some ps) (ho:o.op=.buildSlice t n parts):∀(C:nH) (st:St) (a:Act) (w:World) (r:cT) (pub:cY) (keep:List Nat) (al:Option Nat) (K:St→Prop) (Q:Exit→Act→World→Prop),(∀n,o.dst=some n→n < C.n)→(∀k∈keep,(r k).isSome=true)→bP C st a w r pub →
  (ps.all (fun p=>(st.rd p.2).flat && (st.rd p.2).cells.length == it.size && decide (p.1 < n))=true∧
   st.new al (.hrow e it.size n (uK (Bn n zs) (ps.map fun p=>(p.1 * it.size,(st.rd p.2).cells)))) fun st' k=>K (st'.put o.dst (.hd k)))→Oper.wp P o a w (nF C keep true r pub w K) Q:=by
 intro C st a w r pub keep al K Q hd hk h hK;obtain⟨hall,hdd,hK⟩:=hK;have hdd:=fH hdd;obtain⟨hl,hg⟩:=rB hps;rw[aT]at hall;have hzl:=(gU (pub:=pub) (w:=w) (r:=r) hc).len;have hzsz:z.cells.size=it.size:=by simp at hzl;omega
 have hpart:∀p∈ps,(st.rd p.2).flat=true∧(st.rd p.2).cells.length=it.size∧p.1 < n:=fun p hp=>by
  have h3:=hall p hp;simp only[aO,beq_iff_eq,decide_eq_true_eq]at h3;exact⟨h3.1.1,h3.1.2,h3.2⟩
 have hrl:∀m,(Bn m zs).length=m * it.size:=fun m=>by
  induction m with
  |zero=>simp[Bn]
  |succ m ih=>rw[Bn,aM,ih,hzs,Nat.succ_mul,Nat.add_comm]
 have hrg:∀m q,q < m * it.size→(Bn m zs)[q]?=zs[q % it.size]?:=fun m=>by
  induction m with
  |zero=>intro q hq;simp at hq
  |succ m ih=>
   intro q hq;rw[Bn];by_cases hh:q < zs.length
   ·rw[List.getElem?_append_left hh,Nat.mod_eq_of_lt (by omega)]
   ·rw[List.getElem?_append_right (by omega),ih _ (by rw[Nat.succ_mul]at hq;omega),hzs,Nat.mod_eq_sub_mod (a:=q) (by omega)]
 have hbase:bR pub w r (Bn n zs) ((Array.range (n * it.size)).map (z.cells[· % z.cells.size]!)).toList:=by
  refine⟨by simp[hrl],fun q x u hx hu=>?_⟩;have hq:q < n * it.size:=by rw[←hrl];exact(aA.1 hx).1
  rw[hrg n q hq]at hx;obtain⟨y,hy,hvy⟩:=(gU (pub:=pub) (w:=w) (r:=r) hc).get hx;have hm:q % it.size < z.cells.size:=by rw[hzsz];exact Nat.mod_lt _ (by omega)
  simp only[Array.toList_map,Array.toList_range,aD]at hu;rw[List.getElem?_range hq]at hu;cases hu;rw[hzsz];dsimp only;rw[getElem!_pos z.cells (q % it.size) hm];have:z.cells.toList[q % it.size]?=some z.cells[q % it.size]:=by rw[aY];exact aK hm
  rw[this]at hy;cases hy;exact hvy
 have:=zH (pub:=pub) (w:=w) (r:=r) (fun i=>some (i * it.size,it.size)) (parts.toList.map fun p=>(p.1,a.eval p.2)) (ps.map fun p=>(p.1 * it.size,(st.rd p.2).cells)) _ _ hbase (by simpa using hl) (fun i q p hq hp'=>by
  rw[aD]at hq hp';cases hq1:parts.toList[i]? with
  |none=>rw[hq1]at hq;cases hq
  |some q1=>
   cases hp1:ps[i]? with
   |none=>rw[hp1]at hp';cases hp'
   |some p1=>
    rw[hq1]at hq;rw[hp1]at hp';cases hq;cases hp';obtain⟨h1,h2⟩:=hg i q1 p1 hq1 hp1;obtain⟨h3,h5,h6⟩:=hpart p1 (aC hp1);dsimp only;rw[h5,h1];refine⟨rfl,?_,((h.rd h2).cells_ h3).1⟩;rw[hrl];have:=Nat.mul_le_mul_right it.size (show p1.1+1≤n by omega);rw[Nat.succ_mul]at this;exact this)
 obtain⟨cells,hf,hv⟩:=this;have hfl:∀(l:List (Nat×List AV)) (zs:List AV),(∀p∈l,p.1+p.2.length≤zs.length)→(uK zs l).length=zs.length:=fun l=>by
  induction l with
  |nil=>intro zs _;rfl
  |cons p l ih=>
   intro zs hh;obtain⟨off,m⟩:=p;have h1:=hh (off,m) (by simp);dsimp only at h1;have h2:(jP zs m off).length=zs.length:=by simp[jP];omega
   rw[uK,ih _ (fun q hq=>by rw[h2];exact hh q (by simp[hq])),h2]
 have hcs:cells.size=n * it.size:=by
  have:=hv.len;rw[hfl _ _ (fun p hp=>by
   obtain⟨q,hq,rfl⟩:=aX.1 hp;obtain⟨_,h5,h6⟩:=hpart q hq;dsimp only;rw[hrl,h5];have:=Nat.mul_le_mul_right it.size (show q.1+1≤n by omega);rw[Nat.succ_mul]at this;exact this),hrl]at this
  simpa using this
 have hown:jX (w.alloc (.cells cells e)) e it.size (some ⟨w.heap.size,0,none⟩) n n cells.toList:=jX.of_blk (jE.new w e cells) (aN _) (by have:n≤n * it.size:=Nat.le_mul_of_pos_right n (by omega);unfold maxLen;omega) hcs (bC (by simp;omega));have hb:=(h.grow_ al).alloc (q:=st.spot al) hdd (.cells cells e) (.slice (some ⟨w.heap.size,0,none⟩) n n) (.hrow e it.size n (uK (Bn n zs) (ps.map fun p=>(p.1 * it.size,(st.rd p.2).cells)))) (by simp[cH])
  (.hrow hown ⟨hv.len,fun i x u hx hu=>((hv.at_ i x u hx hu).ext (Fr.alloc_ (fun _=>False) pub w _).ext).mono (kN ((h.grow_ al).mod.dead_none hdd))⟩ (fun b hb=>by simp at hb;subst hb;exact h.mod.fresh _ (aN _)))
 rw[kO]at hb;refine cS (v:=.slice (some ⟨w.heap.size,0,none⟩) n n) hd ?_ hb (.hd (cB _ _ _) rfl) hK (Fr.alloc_ (fun _=>False) pub w _).ext (eH (h.grow_ al) hdd hk _ _) (fun _=>rfl)
 ·have hbig:¬(2 ^ 24 < n * it.size):=by omega
  unfold execOp;simp only[ho,Instr.buildSlice,Sem.run_bind,run_underlying ht,Result.andThen_ok];by_cases h0:n * it.size=0
  ·have hn0:n=0:=by
    rcases Nat.mul_eq_zero.1 h0 with h1|h1
    ·exact h1
    ·exact absurd h1 hz0
   have hps0:parts=#[]:=by
    have:ps=[]:=List.eq_nil_iff_forall_not_mem.2 fun p hp=>by
     have:=(hpart p hp).2.2;omega
    rw[this]at hl;have:parts.toList=[]:=aR (by simpa using hl);simpa using this
   subst hps0;have hc0:cells=#[]:=by
    have:cells.size=0:=by omega
    simpa using this
   subst hc0;have ha:Array.range 0=#[]:=rfl;simp[sizeOf,typeInfo,hi,Sem.run_bind,h0,Instr.fill,newRow,ha]
  ·simp[sizeOf,typeInfo,zeroValue,hi,hz,Sem.run_bind,hbig,h0,hf,newRow]
theorem Wm {t e n:Nat}{parts:Array (Nat×Operand)}{it:TypeInfo}{z:Value}{zs:List AV}{ps:List (Nat×XA)}(ht:P.underlying t=some (.slice e)) (hi:P.info? e=some it) (hz:it.zero=some z) (hc:iX z.cells.toList=some zs) (hzs:zs.length=it.size) (hz0:it.size≠0)
  (hsm:n * it.size≤2 ^ 24) (hps:rX parts.toList=some ps) (ho:o.op=.buildSlice t n parts):vB P o (.bsl e it.size n zs ps):=by
 intro C st a w r pub keep al K Q hd hk h hK;simp only[dW]at hK;unfold Ah at hK
 split at hK
 rotate_left
 ·exact Ur ht hi hz hc hzs hz0 hsm hps ho C st a w r pub keep al K Q hd hk h hK
 obtain⟨hall,hdd,hK⟩:=hK;have hdd:=fH hdd;obtain⟨hl,hg⟩:=rB hps;rw[aT]at hall;have hz1:=(tE hc).1;have hzl:=(gU (pub:=pub) (w:=w) (r:=dD) hc).len;have hzsz:z.cells.size=it.size:=by simp at hzl;omega
 have hrep:∀x∈List.replicate n (dH it.size zs),x.cells.length=it.size∧x.cells.all AV.one=true:=fun x hx=>by
  obtain⟨_,rfl⟩:=List.mem_replicate.1 hx;rw[fP hzs hz1];exact⟨hzs,hz1⟩
 have hpart:∀p∈ps,(st.rd p.2).flat=true∧AV.bndL 0 (st.rd p.2).cells=true∧(st.rd p.2).cells.length=it.size∧p.1 < n:=fun p hp=>by
  have h3:=hall p hp;simp only[aO,beq_iff_eq,decide_eq_true_eq]at h3;exact⟨h3.1.1.1,h3.1.1.2,h3.1.2,h3.2⟩
 have hone:∀x:AV,x.flat=true→x.cells.all AV.one=true:=fun x hx=>by
  cases x with
  |agg l=>exact hx
  |_=>first|(simp[AV.flat,AV.one]at hx;done)|rfl
 obtain⟨k1,k2,k3⟩:=xZ (sz:=it.size) (ps.map fun p=>(p.1,dH it.size (st.rd p.2).cells)) _ hrep (fun p hp=>by
  obtain⟨q,hq,rfl⟩:=aX.1 hp;obtain⟨h1,_,h3,h4⟩:=hpart q hq;dsimp only;rw[fP h3 (hone _ h1)];exact⟨by simpa using h4,h3,hone _ h1⟩)
 -- the zero cells
 have hbase:bR pub w dD ((List.replicate n (dH it.size zs)).flatMap AV.cells) ((Array.range (n * it.size)).map (z.cells[· % z.cells.size]!)).toList:=by
  have hlen:((List.replicate n (dH it.size zs)).flatMap AV.cells).length=n * it.size:=by rw[eO _ (fun z hz=>(hrep z hz).1),List.length_replicate]
  refine⟨by simp[hlen],fun q x u hx hu=>?_⟩;have hq:q < n * it.size:=by rw[←hlen];exact(aA.1 hx).1
  rw[qW n zs _ (fP hzs hz1) q (by rw[hzs];exact hq)]at hx;have hzq:=gU (pub:=pub) (w:=w) (r:=dD) hc;obtain⟨y,hy,hvy⟩:=hzq.get hx;have hm:q % it.size < z.cells.size:=by rw[hzsz];exact Nat.mod_lt _ (by omega)
  simp only[Array.toList_map,Array.toList_range,aD]at hu;rw[List.getElem?_range hq]at hu;cases hu;rw[hzs]at hy;rw[hzsz];dsimp only;rw[getElem!_pos z.cells (q % it.size) hm];have:z.cells.toList[q % it.size]?=some z.cells[q % it.size]:=by rw[aY];exact aK hm
  rw[this]at hy;cases hy;exact hvy
 have:=zH (pub:=pub) (w:=w) (r:=dD) (fun i=>some (i * it.size,it.size)) (parts.toList.map fun p=>(p.1,a.eval p.2)) ((ps.map fun p=>(p.1,dH it.size (st.rd p.2).cells)).map fun p=>(p.1 * it.size,p.2.cells)) _ _ hbase (by simpa using hl) (fun i q p hq hp'=>by
  rw[aD]at hq;rw[List.map_map,aD]at hp';cases hq1:parts.toList[i]? with
  |none=>rw[hq1]at hq;cases hq
  |some q1=>
   cases hp1:ps[i]? with
   |none=>rw[hp1]at hp';cases hp'
   |some p1=>
    rw[hq1]at hq;rw[hp1]at hp';cases hq;cases hp';obtain⟨h1,h2⟩:=hg i q1 p1 hq1 hp1;obtain⟨h3,h4,h5,h6⟩:=hpart p1 (aC hp1);dsimp only[Function.comp];rw[fP h5 (hone _ h3),h5,h1];refine⟨rfl,?_,?_⟩
    ·rw[eO _ (fun z hz=>(hrep z hz).1),List.length_replicate];have:=Nat.mul_le_mul_right it.size (show p1.1+1≤n by omega);rw[Nat.succ_mul]at this;exact this
    ·exact((h.rd h2).cells_ h3).1.congr (fun n hn=>by
      have:=AV.bndL_has _ h4 hn;omega))
 obtain⟨cells,hf,hv⟩:=this;rw[←k1]at hv;rw[List.length_replicate]at k2;have hcs:cells.size=n * it.size:=by
  have:=hv.len;rw[eO _ (fun z hz=>(k3 z hz).1),k2]at this;simpa using this
 have hb:=(h.grow_ al).newrow hdd e it.size n n _ cells k2 (aN _) (by have:n≤n * it.size:=Nat.le_mul_of_pos_right n (by omega);unfold maxLen;omega) hcs (by rw[bC (by simp;omega)];exact hv) k3;rw[kO]at hb;refine cS (v:=.slice (some ⟨w.heap.size,0,none⟩) n n) hd ?_ hb (.hd (cB _ _ _) rfl) hK (Fr.alloc_ (fun _=>False) pub w _).ext (eH (h.grow_ al) hdd hk _ _) (fun _=>rfl)
 ·have hbig:¬(2 ^ 24 < n * it.size):=by omega
  unfold execOp;simp only[ho,Instr.buildSlice,Sem.run_bind,run_underlying ht,Result.andThen_ok];by_cases h0:n * it.size=0
  ·have hn0:n=0:=by
    rcases Nat.mul_eq_zero.1 h0 with h1|h1
    ·exact h1
    ·exact absurd h1 hz0
   have hps0:parts=#[]:=by
    have:ps=[]:=List.eq_nil_iff_forall_not_mem.2 fun p hp=>by
     have:=(hpart p hp).2.2.2;omega
    rw[this]at hl;have:parts.toList=[]:=aR (by simpa using hl);simpa using this
   subst hps0;have hc0:cells=#[]:=by
    have:cells.size=0:=by omega
    simpa using this
   subst hc0;have ha:Array.range 0=#[]:=rfl;simp[sizeOf,typeInfo,hi,Sem.run_bind,h0,Instr.fill,newRow,ha]
  ·simp[sizeOf,typeInfo,zeroValue,hi,hz,Sem.run_bind,hbig,h0,hf,newRow]
theorem GB {pub:cY}{w:World}{r:cT}{v:Value}(h:bU pub w r (.v (.slice none 0 0)) v):v=.slice none 0 0:=by cases h;rfl
def D7 (st:St) (sz:Nat) (y:AV) (ys:List AV):Prop:=y=.sl sz ys∨(∃k2 t,y=.hd k2∧st.H[k2]?=some (.row t sz ys))∨(y=.v (.slice none 0 0)∧ys=[])
theorem D7.cells {C:nH}{st:St}{a:Act}{w:World}{r:cT}{pub:cY}(h:bP C st a w r pub) {sz:Nat}{y:AV}{ys:List AV}{v:Value}(hs:D7 st sz y ys) (hv:bU pub w r y v) :
  ∃A c us,v=.slice A ys.length c∧(A=none→ys=[])∧AX w sz A ys.length us∧bR pub w dD (ys.flatMap AV.cells) us∧∀x∈ys,x.cells.length=sz∧x.cells.all AV.one=true:=by
 rcases hs with rfl|⟨k2,t,rfl,hk2⟩|⟨rfl,rfl⟩
 ·obtain⟨A,c,us,rfl,_,_,hn,hs,hc,hv,_⟩:=hv.sl_cells;exact⟨A,c,us,rfl,fun hA=>(hn hA).1,hc,hv,hs⟩
 ·obtain⟨A,c,us,hr,ho,hc,hs,_⟩:=h.ent_row hk2;cases hv with
  |hd hr2 _=>
   rw[hr]at hr2;cases hr2;refine⟨A,c,us,rfl,fun hA=>?_,ho.cells_,hc,hs⟩;rcases ho.cases_ with ⟨_,h2,_⟩|⟨g,cur,h0,_⟩
   ·exact aR h2
   ·rw[hA]at h0;cases h0
 ·rw[GB hv];exact⟨none,0,[],rfl,fun _=>rfl,⟨by simp,fun _=>rfl,fun j u hu=>by simp at hu⟩,.nil,by simp⟩
theorem Gb {C:nH}{st:St}{a:Act}{w w':World}{r r':cT}{pub pub':cY}{keep:List Nat}(h:bP C st a w r pub) {k:Nat}{x:Value}(hx:r k=some x) (hkk:keep.contains k=false) (_hk:∀k∈keep,(r k).isSome=true) (hf:Fr (fun b=>b∈cH x) pub w pub' w')
  (hr:∀j,j≠k→r' j=r j):fG keep r w r' w':=fun n hn=>by
 have hne:n≠k:=by
  rintro rfl;rw[List.contains_eq_mem]at hkk;simp at hkk;exact hkk hn
 exact⟨hr n hne,fun y hy b hb=>(hf.keep b (h.mod.foot_lt hy b hb) (fun hb'=>h.mod.disj k n x y (Ne.symm hne) hx hy b hb' hb)).1⟩
theorem WN {t sz n:Nat}{zs:List AV}{ps:List (Nat×XA)}(h0:vB P o (.bsl t sz n zs ps)):vB P o (.bsp t sz n zs ps):=by
 intro C st a w r pub keep al K Q hdst hk h hK;simp only[dW]at hK;obtain⟨hall,hdd,hK⟩:=hK;obtain⟨xs,hxs⟩:∃xs,xs=pF (List.replicate n (dH sz zs)) (ps.map fun p=>(p.1,dH sz (st.rd p.2).cells)):=⟨_,rfl⟩
 rw[←hxs]at hK;have hb0:(ps.all fun p=>AV.bndL 0 (st.rd p.2).cells)=true:=by
  rw[aT]at hall⊢;intro p hp;have:=hall p hp;simp only[aO]at this;exact this.1.1.2
 obtain⟨k,hk0⟩:∃k,k=st.spot al:=⟨_,rfl⟩
 obtain⟨H1,hH1⟩:∃H1,H1=(st.grow al).H:=⟨_,rfl⟩
 rw[←hk0,←hH1]at hK hdd;have hkl:k < H1.length:=by
  have:=fH hdd;exact(aA.1 this).1
 refine Oper.wp_mono (fun a' w' hp=>?_) (h0 C st a w r pub keep al (fun st2=>st2=St.put ⟨st.T,H1.set k (.row t sz xs)⟩ o.dst (.hd k)) Q hdst hk h ?_)
 ·obtain⟨st',r',pub',rfl,hh,he,hkp,_⟩:=hp;have hput:∀(st:St) (d:Option Nat) (x:AV),(st.put d x).H=st.H:=fun st d x=>by cases d<;>rfl
  have hk2:(St.put ⟨st.T,H1.set k (.row t sz xs)⟩ o.dst (.hd k)).H[k]?=some (.row t sz xs):=by rw[hput];exact aQ hkl
  obtain⟨pub2,h2,he2⟩:=hh.publish hk2;have hset:(St.put ⟨st.T,H1.set k (.row t sz xs)⟩ o.dst (.hd k)).H.set k (.tip t sz xs)=H1.set k (.tip t sz xs):=by rw[hput];exact List.set_set ..
  rw[hset]at h2;refine⟨_,r',pub2,hK,?_,he.trans he2,hkp,fun h=>by cases h⟩;have hv:∀v,bU pub2 w' r' (.hd k) v→bU pub2 w' r' (.sl sz xs) v:=fun v hx=>by
   have:=h2.view1 hx;simp only[St.view1,aQ hkl]at this;exact this
  refine⟨by rw[hput];exact h2.mod,h2.own,h2.fr,fun m=>?_,h2.defers,h2.size,h2.stab,by rw[hput];exact h2.low⟩;have hs:=h2.slots m;cases hd:o.dst with
  |none=>rw[hd]at hs;exact hs
  |some d=>
   rw[hd]at hs;simp only[St.put]at hs⊢;rw[Bg]at hs⊢
   split
   ·rename_i e;rw[aF e]at hs;exact hv _ hs
   ·rename_i e;rw[aE e]at hs;exact hs
 ·simp only[dW];rw[hb0];refine⟨hall,?_⟩;unfold St.new;rw[←hk0,←hH1,←hxs];refine⟨hdd,?_⟩;have:(st.grow al).T=st.T:=by cases al<;>rfl
  first|rfl|(rw[←this])
theorem WQ {x q:Operand}{x' q':XA}{t e:TypeId}{i:TypeInfo}(hd:P.underlying t=some (.slice e)) (hi0:P.info? e=some i) (h0:i.size≠0) (ho:o.op=.slice t x (some q) none none) (hx:cA x=some x') (hq:cA q=some q'):vB P o (.slt i.size x' q'):=by
 intro C st a w r pub keep al K Q hdst hk h hK;have base:dW P keep al o.dst st K (.sli i.size x' (some q') none)→Oper.wp P o a w (nF C keep (hU.quiet (.slt i.size x' q')) r pub w K) Q:=fun hK'=>
  Ei (F9 hd hi0 h0 ho hx (lo':=some q') (hi':=none) (by simp[hq]) rfl rfl rfl) C st a w r pub keep al K Q hdst hk h hK'
 have h1:=h.ev hx;have h2:=h.ev hq;simp only[dW]at hK;generalize hcv:st.ev x'=cv at hK h1;generalize hv:a.eval x=v at h1;cases h1 with
 |@hd _ k _ hr hone=>
  cases hkq:st.H[k]? with
  |none=>simp only[hkq]at hK
  |some en=>
   simp only[hkq]at hK;cases en with
   |tip t2 sz2 xs=>
    obtain⟨rfl,hK⟩:=hK;unfold yS at hK;dsimp only at hK;generalize hcq:st.ev q'=cq at hK h2;generalize hvq:a.eval q=vq at h2;cases h2 with
    |int kq n=>
     rcases hK.out with h4|⟨b0,b1,h4⟩
     ·refine base ?_;simp only[dW,St.rd,hcv,St.view,St.view1,hkq,yS,hcq];exact⟨trivial,h4⟩
     ·obtain⟨hkk,h4⟩:=h4 _ rfl;simp only[Option.getD]at b0 b1 h4;obtain⟨A,c,hr2,hle,hh⟩:=h.tail hkq (n:=n.toNat) (by omega);have hb:=fun w'=>sN (P:=P) (isSlice:=true) (cap:=c) (lo:=some q) (hi:=none) (l:=n) (hh:=xs.length) (.inr ⟨q,kq,rfl,hvq⟩) (.inl ⟨rfl,rfl⟩) b0 b1 (Int.le_refl _) hle w'
      rw[hr2]at hr;cases hr;simp only[Option.map_some,hvq,Option.map_none,Int.toNat_natCast]at hb;refine cS hdst ?_ hh (.hd (cB _ _ _) rfl) h4 (oM.refl _ _) (Gb h hr2 hkk hk (Fr.refl _ _ _) fun j hj=>cQ _ _ hj) (fun _=>rfl);unfold execOp;simp[ho,hv,hvq,Instr.sliceAt,Instr.slice,Sem.run_bind,run_underlying hd,hb,sizeOf,typeInfo,hi0]
    |_=>exact hK.elim
   |_=>exact hK.elim
 |sl _ _ _ _ _ _ _=>
  refine base ?_;simp only[dW,St.rd,hcv,St.view,St.view1,yS];unfold yS at hK;exact hK
 |_=>exact hK.elim
theorem uD {C:nH}{st:St}{a:Act}{w:World}{r:cT}{pub:cY}{keep:List Nat}{K:St→Prop}{Q:Exit→Act→World→Prop}{t e:Nat}{it:TypeInfo}{z:Value}{x y:Operand}(ht:P.underlying t=some (.slice e)) (hi:P.info? e=some it) (hz:it.zero=some z) (hzs:z.cells.size=it.size)
  (ho:o.op=.call ⟨.builtin .append,#[x,y],#[t,t]⟩) (hd:∀n,o.dst=some n→n < C.n) (hk:∀k∈keep,(r k).isSome=true) (h:bP C st a w r pub) {k:Nat}(hx:bU pub w r (.hd k) (a.eval x)) {ay:AV}(hy:bU pub w r ay (a.eval y)) (tip:Bool) {xs ys:List AV}
  (hkk:keep.contains k=false) (hent:st.H[k]?=some (if tip then .tip e it.size xs else .row e it.size xs)) (hs:D7 st it.size ay ys) (h63:xs.length+ys.length≤maxLen) (hbytes:(xs.length+ys.length) * it.bytes≤140737488355328)
  (hK:K (St.put ⟨jI k (if tip then .sl it.size xs else .any) st.T,(st.H.map (cG.kill k (if tip then .sl it.size xs else .any))).set k (if tip then .tip e it.size (xs++ys) else .row e it.size (xs++ys))⟩ o.dst (.hd k))) :
  Oper.wp P o a w (nF C keep false r pub w K) Q:=by
 obtain⟨A,c,us,hv,hA,hc,hvs,hys⟩:=hs.cells h hy;obtain⟨v,v',w',r',pub',hr,hrun,hr',hone,hro,hf,hh⟩:=h.append (P:=P) (c':=c) t o.type e it z it.size it.bytes ht hi hz rfl rfl hzs tip hent hc hA hvs hys h63 hbytes;have hxv:a.eval x=v:=by
  generalize a.eval x=q at hx;cases hx with
  |hd h1 _=>rw[hr]at h1;cases h1;rfl
 refine cS hd (v:=v') ?_ hh (.hd hr' hone) hK hf.ext (Gb h hr hkk hk hf hro) (fun h=>by cases h);unfold execOp;simp[ho,resolve,hxv,hv,invoke,builtin,hrun]
theorem Wi {t e:Nat}{it:TypeInfo}{z:Value}{x y:Operand}{x' y':XA}(ht:P.underlying t=some (.slice e)) (hi:P.info? e=some it) (hz:it.zero=some z) (hzs:z.cells.size=it.size) (hz0:it.size≠0)
  (ho:o.op=.call ⟨.builtin .append,#[x,y],#[t,t]⟩) (hx:cA x=some x') (hy:cA y=some y'):vB P o (.app t o.type e it.size it.bytes x' y'):=by
 intro C st a w r pub keep al K Q hd hk h hK;have h1:=h.ev hx;have h2:=h.rd hy;simp only[dW]at hK;generalize hcv:st.ev x'=cv at hK h1;generalize hcu:st.rd y'=cu at hK h2;have h1':=h1;generalize hv:a.eval x=v at h1;cases h1 with
 |@hd _ k _ hr hone=>
  obtain⟨hkk,hK⟩:=hK;have h1'':bU pub w r (.hd k) (a.eval x):=h1'
  -- an append of nothing
  have hnil:∀(xs:List AV) (tip:Bool),st.H[k]?=some (if tip then .tip e it.size xs else .row e it.size xs)→cu=.v (.slice none 0 0)→K (st.put o.dst (.hd k))→Oper.wp P o a w (nF C keep false r pub w K) Q:=fun xs tip hent hc hK1=>by
   clear hK;subst hc;have hu:=GB h2;have hb:∃A c,v=.slice A xs.length c∧xs.length≤c:=by
    cases tip with
    |true=>
     obtain⟨A,d,c,x,us,hr2,ho2,_⟩:=h.ent_tip (by simpa using hent);rw[hr2]at hr;cases hr;exact⟨A,c,rfl,ho2.caps.1⟩
    |false=>
     obtain⟨A,c,us,hr2,ho2,_⟩:=h.ent_row (by simpa using hent);rw[hr2]at hr;cases hr;exact⟨A,c,rfl,ho2.rd.cap⟩
   obtain⟨A,c,rfl,hle⟩:=hb;refine cS (v:=.slice A xs.length c) hd ?_ h (.hd hr hone) hK1 (oM.refl _ _) (fG.refl _ _ _) (fun h=>by cases h);unfold execOp;cases A<;>simp[ho,resolve,hv,hu,invoke,builtin,Sem.run_bind,Builtin.append_,run_underlying ht,sizeOf,typeInfo,hi,Builtin.lenOf,Builtin.firstCells,hle,storeCells]
  cases hkq:st.H[k]? with
  |none=>rw[hkq]at hK;exact hK.elim
  |some en=>
   rw[hkq]at hK;cases en with
   |row e' sz' xs=>
    obtain⟨rfl,rfl,hK⟩:=hK;cases cu with
    |sl sz2 ys=>
     obtain⟨rfl,⟨⟨b1,b2⟩,hK⟩⟩:=hK;exact uD ht hi hz hzs ho hd hk h h1'' h2 false hkk (by simpa using hkq) (.inl rfl) b1 b2 (hK _ rfl)
    |hd k2=>
     try dsimp only at hK
     cases hk2:st.H[k2]? with
     |none=>rw[hk2]at hK;exact hK.elim
     |some en2=>
      rw[hk2]at hK;cases en2 with
      |row t2 sz2 ys=>
       obtain⟨rfl,⟨⟨b1,b2⟩,hK⟩⟩:=hK;exact uD ht hi hz hzs ho hd hk h h1'' h2 false hkk (by simpa using hkq) (.inr (.inl ⟨k2,t2,rfl,hk2⟩)) b1 b2 (hK _ rfl)
      |_=>exact hK.elim
    |v q=>
     cases q with
     |slice A n c=>
      cases A with
      |none=>
       cases n with
       |zero=>
        cases c with
        |zero=>exact hnil xs false (by simpa using hkq) rfl hK
        |succ _=>exact hK.elim
       |succ _=>exact hK.elim
      |some _=>exact hK.elim
     |_=>exact hK.elim
    |_=>exact hK.elim
   |tip e' sz' xs=>
    obtain⟨rfl,rfl,hK⟩:=hK;cases cu with
    |sl sz2 ys=>
     obtain⟨rfl,⟨⟨b1,b2⟩,hK⟩⟩:=hK;exact uD ht hi hz hzs ho hd hk h h1'' h2 true hkk (by simpa using hkq) (.inl rfl) b1 b2 (hK _ rfl)
    |hd k2=>
     try dsimp only at hK
     cases hk2:st.H[k2]? with
     |none=>rw[hk2]at hK;exact hK.elim
     |some en2=>
      rw[hk2]at hK;cases en2 with
      |row t2 sz2 ys=>
       obtain⟨rfl,⟨⟨b1,b2⟩,hK⟩⟩:=hK;exact uD ht hi hz hzs ho hd hk h h1'' h2 true hkk (by simpa using hkq) (.inr (.inl ⟨k2,t2,rfl,hk2⟩)) b1 b2 (hK _ rfl)
      |_=>exact hK.elim
    |v q=>
     cases q with
     |slice A n c=>
      cases A with
      |none=>
       cases n with
       |zero=>
        cases c with
        |zero=>exact hnil xs true (by simpa using hkq) rfl hK
        |succ _=>exact hK.elim
       |succ _=>exact hK.elim
      |some _=>exact hK.elim
     |_=>exact hK.elim
    |_=>exact hK.elim
   |_=>exact hK.elim
 |v hone=>
  cases v with
  |slice A0 n0 c0=>
   cases A0 with
   |some _=>exact hK.elim
   |none=>
    cases n0 with
    |succ _=>exact hK.elim
    |zero=>
     cases c0 with
     |succ _=>exact hK.elim
     |zero=>
      have main:∀ys,D7 st it.size cu ys→ys.length≤maxLen→ys.length * it.bytes≤140737488355328→(st.new al (.row e it.size ys) fun st' k=>K (st'.put o.dst (.hd k)))→Oper.wp P o a w (nF C keep false r pub w K) Q:=fun ys hs b1 b2 hK=>by
       obtain⟨hdd,hK⟩:=hK;have hdd:=fH hdd;obtain⟨A,c,us,hu,hA,hc,hvs,hys⟩:=hs.cells h h2;have h11:∀u∈us,u.oneCell'=true:=fun u hu'=>by
        obtain⟨q,hq⟩:=aV hu';have hql:q < (ys.flatMap AV.cells).length:=by rw[←hvs.len];exact(aA.1 hq).1
        refine(hvs.at_ q _ u (aB hql) hq).one_ ?_;obtain⟨y,hy,hm⟩:=List.mem_flatMap.1 (List.getElem_mem hql);exact(aT.1 (hys y hy).2) _ hm
       obtain⟨A2,d2,c2,w',hrun,ho2,hcase⟩:=F0 (P:=P) (w:=w) (c':=c) t o.type e it z it.size it.bytes ht hi hz rfl rfl hzs (x:=true) (n:=0) (jX.offs (jX.nil w e it.size)) hc (fun hA'=>by rw[hA hA'];rfl) h11 (by omega) (by rw[Nat.zero_add];exact b2);rw[Nat.zero_add]at hrun ho2;rw[List.nil_append]at ho2;have ho2:=ho2.own.1;have hex:(execOp a.eval o).run P w=.ok (.value (.slice A2 ys.length c2)) w':=by
        unfold execOp;simp[ho,resolve,hv,hu,invoke,builtin,hrun]
       rcases hcase with ⟨rfl,_,_,hw0,hn0⟩|⟨g,cur,h0,_⟩|⟨rfl,_,arr,rfl⟩
       ·have hy0:ys=[]:=by
         have h4:ys.length * it.size=0:=by have:=hc.len;rw[hn0]at this;simpa using this.symm
         rcases Nat.mul_eq_zero.1 h4 with h3|h3
         ·exact aR h3
         ·exact absurd h3 hz0
        clear hc hvs;subst hy0;rw[hw0]at hex;have hz2:c2=0:=by
         rcases ho2.cases_ with ⟨_,_,h3,_⟩|⟨g,cur,h3,_⟩
         ·exact h3
         ·cases h3
        subst hz2;have hkp:fG keep r w (fX r (st.spot al) (.slice none 0 0)) w:=fun k hkk=>by
         refine⟨cQ _ _ ?_,fun _ _ _ _=>rfl⟩;rintro rfl;have:=hk _ hkk;rw[(h.grow_ al).mod.dead_none hdd]at this;cases this
        have hb:=(h.grow_ al).adopt hdd e it.size;rw[kO]at hb;exact cS hd hex hb (.hd (cB _ _ _) rfl) hK (oM.refl _ _) hkp (fun h=>by cases h)
       ·cases h0
       ·rcases ho2.cases_ with ⟨h3,_⟩|⟨g,cur,h3,hb,r1,r2,r3,r4⟩
        ·cases h3
        ·simp only[bE,Addr.mk.injEq,and_true]at h3;subst h3;have hcur:cur=arr:=by
          have:=heap_alloc_new w.drew (.cells arr e);have e1:w.drew.heap.size=w.heap.size:=rfl;rw[e1]at this;rw[jE,this]at hb;simp only[bE,Obj.cells.injEq]at hb;exact hb.1.symm
         subst hcur;have hd2:bP C (st.grow al) a w.drew r pub:=(h.grow_ al).draws;have hb2:=hd2.newrow hdd e it.size ys.length c2 ys cur rfl r1 r2 r3 (by rw[r4];exact hvs.ext (pub':=pub) (w:=w) (w':=w.drew) ⟨fun _=>aN _,fun _ _ _ _ h=>h,fun _ _ _ h=>h⟩) hys;rw[kO]at hb2;refine cS hd hex hb2 (.hd (cB _ _ _) rfl) hK ?_ ?_ (fun h=>by cases h)
         ·exact oM.trans (b:=w.drew) ⟨fun _=>aN _,fun _ _ _ _ h=>h,fun _ _ _ h=>h⟩ (Fr.alloc_ (fun _=>False) pub w.drew _).ext
         ·exact eH (w:=w.drew) hd2 hdd hk _ _
      cases cu with
      |sl sz2 ys=>
       obtain⟨rfl,⟨⟨b1,b2⟩,hK⟩⟩:=hK;exact main ys (.inl rfl) b1 b2 hK
      |hd k2=>
       try dsimp only at hK
       cases hk2:st.H[k2]? with
       |none=>rw[hk2]at hK;exact hK.elim
       |some en2=>
        rw[hk2]at hK;cases en2 with
        |row t2 sz2 ys=>
         obtain⟨rfl,⟨⟨b1,b2⟩,hK⟩⟩:=hK;exact main ys (.inr (.inl ⟨k2,t2,rfl,hk2⟩)) b1 b2 hK
        |_=>exact hK.elim
      |_=>exact hK.elim
  |_=>exact hK.elim
 |_=>exact hK.elim
theorem uL {f:Nat}(h:qH P f=true) (args:Array Value) (w:World):(callFunc f args).run P w=.ok (.enter f args) w:=by
 unfold qH at h;cases hf:P.funcs[f]? with
 |none=>rw[hf]at h;cases h
 |some fn=>
  rw[hf]at h;simp only[aO,bne_iff_ne,ne_eq]at h;obtain⟨h1,h2⟩:=h;unfold callFunc;have h3:fn.body≠none:=by intro e;rw[e]at h2;cases h2
  simp[Sem.run_bind,hf,h1,h3]
theorem Ey {C:nH}{st:St}{a:Act}{w:World}{r:cT}{pub:cY}{keep:List Nat}{K:St→Prop}{Q:Exit→Act→World→Prop}{f:Nat}{vals:Array Value}{args:List AV}(hd:∀n,o.dst=some n→n < C.n) (h:bP C st a w r pub)
  (hrun:(execOp a.eval o).run P w=.ok (.enter f vals) w) (hv:bR pub w r args vals.toList) (hK:fY P keep f args st fun x st'=>K (st'.put o.dst x)):Oper.wp P o a w (nF C keep false r pub w K) Q:=by
 unfold Oper.wp;rw[hrun];refine(hK.out C a w r pub vals h hv).mono fun e w' hp=>?_
 obtain⟨v,x,st',r',pub',rfl,hx,hk,hh,he,hkp⟩:=hp;exact⟨_,r',pub',hk,hh.put hd hx,he,hkp,fun h=>by cases h⟩
theorem Tn {f:Nat}{args:Array Operand}{ats:Array TypeId}{args':List XA}(hf:qH P f=true) (ho:o.op=.call ⟨.value (.func f),args,ats⟩) (ha:NL args.toList=some args'):vB P o (.call f args'):=by
 intro C st a w r pub keep al K Q hd hk h hK;simp only[dW]at hK;refine Ey (vals:=args.map a.eval) hd h ?_ (by rw[Array.toList_map];exact h.rds ha) hK;unfold execOp;simp[ho,resolve,Deferred.ofValue,Act.eval,invoke,uL hf]
theorem WU {x:Operand}{x':XA}{args:Array Operand}{ats:Array TypeId}{args':List XA}(ho:o.op=.call ⟨.value x,args,ats⟩) (hx:cA x=some x') (ha:NL args.toList=some args'):vB P o (.cav x' args'):=by
 intro C st a w r pub keep al K Q hd hk h hK;simp only[dW]at hK;have h1:=h.ev hx;generalize hcv:st.ev x'=cv at hK h1;generalize hv:a.eval x=v at h1;cases h1 with
 |clo f hl hc=>
  obtain⟨⟨hf⟩,hK⟩:=hK;rename_i l arr;refine Ey (vals:=args.map a.eval++arr) hd h ?_ ?_ hK
  ·unfold execOp;simp[ho,resolve,Deferred.ofValue,hv,invoke,uL hf]
  ·rw[Array.toList_append,Array.toList_map];exact(h.rds ha).app ⟨by simpa using hl,fun i x u hx hu=>hc i x u hx (by simpa using hu)⟩
 |_=>exact hK.elim
end
end Go.Proofs.YtigdiekbiphhmaaGreatDoor
namespace Go.Proofs.YtigdiekbiphhmaaGreatDoor
open Go.RowKit Go.MapKept
section
variable {P:bI}{o:Oper}
theorem FC {x y:Operand}{x' y':XA}{ts:Array TypeId}(mx:Bool) (ho:o.op=.call ⟨.builtin (if mx then .max else .min),#[x,y],ts⟩) (hx:cA x=some x') (hy:cA y=some y'):eG P o (.mnx mx x' y'):=by
 intro C st a w r pub keep al K h hK;have h1:=h.ev hx;have h2:=h.ev hy;simp only[dW]at hK;generalize hcv:st.ev x'=cv at hK h1;generalize hcu:st.ev y'=cu at hK h2;generalize hv:a.eval x=v at h1;generalize hu:a.eval y=u at h2;cases h1 with
 |int k m=>
  cases h2 with
  |int k2 n=>
   obtain⟨rfl,hK⟩:=hK;cases mx with
   |true=>
    refine⟨_,_,.int k2 _,hK.rest _ rfl,fun w' _=>?_⟩;unfold execOp;simp only[if_true]at ho;simp[ho,resolve,hv,hu,invoke,builtin,Builtin.max_,Builtin.max2];by_cases hh:m < n
    ·rw[aF hh,Int.max_eq_right (by omega)]
    ·rw[aE hh,Int.max_eq_left (by omega)]
   |false=>
    refine⟨_,_,.int k2 _,hK.rest _ rfl,fun w' _=>?_⟩;unfold execOp;simp only[aZ,if_false]at ho;simp[ho,resolve,hv,hu,invoke,builtin,Builtin.min_,Builtin.min2];by_cases hh:n < m
    ·rw[aF hh,Int.min_eq_right (by omega)]
    ·rw[aE hh,Int.min_eq_left (by omega)]
  |_=>exact hK.elim
 |_=>exact hK.elim
theorem Cf {x y:Operand}{x':XA}{t e t':TypeId}{op:BinOp}(ne:Bool) (hop:op=if ne then .neq else .eql) (hd:P.underlying t=some (.slice e)) (ho:o.op=.binOp op t x y t') (hx:cA x=some x') (hy:y=.const (.slice none 0 0)):eG P o (.nils ne x'):=by
 intro C st a w r pub keep al K h hK;have h1:=h.rd hx;simp only[dW]at hK;generalize hcv:st.rd x'=cv at hK h1;generalize hv:a.eval x=v at h1;have hu:a.eval y=.slice none 0 0:=by subst hy;rfl
 have go:∀A n c,v=.slice A n c→∀w':World,(execOp a.eval o).run P w'=.ok (.value (.bool (A.isNone != ne))) w':=fun A n c hA w'=>by
  subst hA;have hg:(eqGuard op t x y (.slice A n c) (.slice none 0 0)).run P w'=.ok () w':=by unfold eqGuard;cases op<;>rfl
  have e1:(Op.equal t (.slice A n c) (.slice none 0 0)).run P w'=.ok A.isNone w':=by
   show (Op.equalIn (9999+1) t _ _).run P w'=_;unfold Op.equalIn;cases A<;>simp[Sem.run_bind,run_underlying hd]
  unfold execOp;cases ne<;>simp only[aZ,if_false,if_true]at hop<;>subst hop<;>simp[ho,hv,hu,Sem.run_bind,hg,binOp,e1]
 cases h1 with
 |@sl _ sz xs A c hc hm hn hs g hr hg=>
  cases A with
  |none=>exact⟨_,_,.bl _,hK.yes (hn rfl).1,fun w' _=>by rw[go _ _ _ rfl w'];simp⟩
  |some A=>exact⟨_,_,.bl _,hK.no,fun w' _=>by rw[go _ _ _ rfl w'];simp⟩
 |v hz=>
  cases v with
  |slice A n c=>
   cases A with
   |none=>
    cases n with
    |zero=>cases c with
     |zero=>exact⟨_,_,.bl _,hK,fun w' _=>by rw[go _ _ _ rfl w'];simp⟩
     |succ c=>exact hK.elim
    |succ n=>exact hK.elim
   |some A=>exact hK.elim
  |_=>exact hK.elim
 |@hd _ k _ hr _=>
  try dsimp only at hK
  cases hk:st.H[k]? with
  |none=>rw[hk]at hK;exact hK.elim
  |some e=>
   rw[hk]at hK;cases e with
   |row t sz xs=>
    obtain⟨A,c,us,hr2,ho',_,_,_⟩:=h.ent_row hk;rw[hr2]at hr;cases hr;cases A with
    |none=>exact⟨_,_,.bl _,hK.yes (by
     rcases ho'.cases_ with ⟨_,h0,_⟩|⟨g,cur,hA,_⟩
     ·exact aR h0
     ·cases hA),fun w' _=>by rw[go _ _ _ rfl w'];simp⟩
    |some A=>exact⟨_,_,.bl _,hK.no,fun w' _=>by rw[go _ _ _ rfl w'];simp⟩
   |_=>exact hK.elim
 |_=>exact hK.elim
theorem B2 {x y:Operand}{x':XA}{t k0 e t':TypeId}{op:BinOp}(ne:Bool) (hop:op=if ne then .neq else .eql) (hd:P.underlying t=some (.map k0 e)) (ho:o.op=.binOp op t x y t') (hx:cA x=some x') (hy:y=.const (.map none)):eG P o (.nilm ne x'):=by
 intro C st a w r pub keep al K h hK;have h1:=h.ev hx;simp only[dW]at hK;generalize hcv:st.ev x'=cv at hK h1;generalize hv:a.eval x=v at h1;have hu:a.eval y=.map none:=by subst hy;rfl
 have go:∀A,v=.map A→∀w':World,(execOp a.eval o).run P w'=.ok (.value (.bool (A.isNone != ne))) w':=fun A hA w'=>by
  subst hA;have hg:(eqGuard op t x y (.map A) (.map none)).run P w'=.ok () w':=by unfold eqGuard;cases op<;>rfl
  have e1:(Op.equal t (.map A) (.map none)).run P w'=.ok A.isNone w':=by
   show (Op.equalIn (9999+1) t _ _).run P w'=_;unfold Op.equalIn;cases A<;>simp[Sem.run_bind,run_underlying hd]
  unfold execOp;cases ne<;>simp only[aZ,if_false,if_true]at hop<;>subst hop<;>simp[ho,hv,hu,Sem.run_bind,hg,binOp,e1]
 cases h1 with
 |v hz=>
  cases v with
  |map A=>
   cases A with
   |none=>exact⟨_,_,.bl _,hK,fun w' _=>by rw[go _ rfl w'];simp⟩
   |some A=>exact hK.elim
  |_=>exact hK.elim
 |@hd _ k _ hr _=>
  try dsimp only at hK
  cases hk:st.H[k]? with
  |none=>rw[hk]at hK;exact hK.elim
  |some e=>
   rw[hk]at hK;cases e with
   |map t es=>
    obtain⟨b,ms,clock,hr2,_⟩:=h.ent_map hk;rw[hr2]at hr;cases hr;exact⟨_,_,.bl _,hK,fun w' _=>by rw[go _ rfl w'];simp⟩
   |_=>exact hK.elim
 |@ph _ k arr _ hr h0 _=>
  try dsimp only at hK
  cases hk:st.H[k]? with
  |none=>rw[hk]at hK;exact hK.elim
  |some e=>
   rw[hk]at hK;cases e with
   |pool t es outs=>
    obtain⟨b,ms,inner,hr2,R⟩:=h.ent_pool hk;obtain⟨a0,ha0,ha1⟩:=dE b inner;have hb0:=hr.symm.trans hr2;rw[ha0]at hb0;cases hb0;rw[ha1]at h0;cases h0;exact⟨_,_,.bl _,hK,fun w' _=>by rw[go _ rfl w'];simp⟩
   |_=>exact hK.elim
 |_=>exact hK.elim
def AP:TypeDesc→Option (Option IntKind)
 |.int k=>some (some k)
 |.string=>some none
 |_=>none
theorem rE {pub:cY}{w:World}{r:cT}{d:TypeDesc}{ky:Option IntKind}{key:AV}{k:Value}(hd:AP d=some ky) (hk:pX ky key=true) (hv:bU pub w r key k):IsKey d k:=by
 cases hv with
 |int j x=>
  cases ky with
  |none=>simp[pX]at hk
  |some q=>simp only[pX,decide_eq_true_eq]at hk;subst hk;cases d<;>simp[AP]at hd<;>simp[IsKey,hd]
 |str s=>
  cases ky with
  |some q=>simp[pX]at hk
  |none=>cases d<;>simp[AP]at hd<;>simp[IsKey]
 |_=>cases ky<;>simp[pX]at hk
theorem iZ {pub:cY}{w:World}{r:cT}{d:TypeDesc}{key:AV}{k:Value}(hd:IsKey d k) (hv:bU pub w r key k):∀(es:List (AV×AV)) (ms:List MapEntry) (i:Nat) (q:Option Nat),bR pub w dD (es.map (·.1)) (ms.map (·.key))→oK key es i=some q →
  match q with
  |none=>Instr.findNow d k ms i=some none
  |some j=>∃n e,j=i+n∧ms[n]?=some e∧Instr.findNow d k ms i=some (some (j,e.val))∧e.key=k
 |[],ms,i,q,h,hq=>by
  cases hq;have:ms=[]:=by have:=h.len;simpa using this
  subst this;rfl
 |e :: es,ms,i,q,h,hq=>by
  obtain⟨u,us,hu,h1,h2⟩:=h.cons_inv;cases ms with
  |nil=>cases hu
  |cons m ms=>
   cases hu;have hs:∀b,mP key e.1=some b→Instr.sameNow d k m.key=some b∧(b=true→m.key=k):=fun b hb=>by
    obtain⟨ek,ev⟩:=e;dsimp only at h1 hb;cases hv with
    |int j x=>
     generalize hmk:m.key=mk at h1;cases h1 with
     |int j2 y=>
      simp only[mP]at hb
      split at hb
      ·rename_i hj;subst hj;cases hb;cases d<;>simp[IsKey]at hd;simp[Instr.sameNow];intro h;exact h.symm
      ·cases hb
     |_=>simp[mP]at hb
    |str s=>
     generalize hmk:m.key=mk at h1;cases h1 with
     |str y=>
      simp only[mP]at hb;cases hb;cases d<;>simp[IsKey]at hd;refine⟨rfl,fun h=>?_⟩;rw[(bytes_beq _ _).1 h]
     |_=>simp[mP]at hb
    |_=>simp[mP]at hb
   unfold oK at hq
   split at hq
   ·rename_i hb;cases hq;obtain⟨h3,h4⟩:=hs _ hb;exact⟨0,m,rfl,rfl,by simp[Instr.findNow,h3],h4 rfl⟩
   ·rename_i hb;have h3:=(hs _ hb).1;have:=iZ hd hv es ms (i+1) q h2 hq;cases q with
    |none=>simpa [Instr.findNow,h3]using this
    |some j=>
     obtain⟨n,e',rfl,h5,h6,h7⟩:=this;exact⟨n+1,e',by omega,by simpa using h5,by simpa [Instr.findNow,h3]using h6,h7⟩
   ·cases hq
theorem Pw {x y:Operand}{x' y':XA}{t kt e:TypeId}{d:TypeDesc}{ky:Option IntKind}{it:TypeInfo}{z:Value}{za:AV}(ok:Bool) (hd:P.underlying t=some (.map kt e)) (hkt:P.underlying kt=some d) (hky:AP d=some ky) (hi:P.info? e=some it) (hz:it.zero=some z)
  (hza:∀(pub:cY) (w:World) (r:cT),bU pub w r za z) (ho:o.op=.lookup t x y ok) (hx:cA x=some x') (hy:cA y=some y'):eG P o (.lkp ky ok za x' y'):=by
 intro C st a w r pub keep al K h hK;have h1:=h.ev hx;have h2:=h.ev hy;simp only[dW]at hK;obtain⟨hko,hK⟩:=hK;have hik:=rE hky hko h2;have hrd:(hU.lkp ky ok za x' y').reads st=(match st.ev x' with|.hd k=>[k]|_=>[]):=rfl;generalize hcv:st.ev x'=cv at hK h1 hrd;generalize hcu:st.ev y'=cu at hK h2;generalize hv:a.eval x=v at h1;generalize hu:a.eval y=u at h2 hik;have fin:∀(b:Bool) (v0:Value) (y0:AV),bU pub w r y0 v0→(if ok=true then K (st.put o.dst (.tup [y0,.bl b])) else K (st.put o.dst y0)) →
   (∀w',((hU.lkp ky ok za x' y').loads=true→tK ((hU.lkp ky ok za x' y').reads st) ((hU.lkp ky ok za x' y').pubs st) r pub w w')→(Instr.lookup t v u ok).run P w'=.ok (if ok=true then .tuple #[v0,.bool b] else v0) w') →
   ∃v y,bU pub w r y v∧K (st.put o.dst y)∧∀w',((hU.lkp ky ok za x' y').loads=true→tK ((hU.lkp ky ok za x' y').reads st) ((hU.lkp ky ok za x' y').pubs st) r pub w w')→(execOp a.eval o).run P w'=.ok (.value v) w':=fun b v0 y0 hv0 hK0 hrun=>by
  have go:∀w',((hU.lkp ky ok za x' y').loads=true→tK ((hU.lkp ky ok za x' y').reads st) ((hU.lkp ky ok za x' y').pubs st) r pub w w')→(execOp a.eval o).run P w'=.ok (.value (if ok=true then .tuple #[v0,.bool b] else v0)) w':=fun w' hw'=>by
   unfold execOp;simp[ho,hv,hu,hrun w' hw']
  cases ok with
  |true=>
   refine⟨_,_,.tup (l:=[y0,.bl b]) (a:=#[v0,.bool b]) rfl (fun i p q hp hq=>?_),hK0,go⟩;rcases i with _|_|i
   ·simp at hp hq;subst hp hq;exact hv0
   ·simp at hp hq;subst hp hq;exact .bl b
   ·simp at hp
  |false=>exact⟨_,_,hv0,hK0,go⟩
 have zrun:∀w':World,(zeroValue e).run P w'=.ok z w':=fun w'=>by simp[zeroValue,typeInfo,hi,hz,Sem.run_bind]
 cases h1 with
 |v hz1=>
  cases v with
  |map A=>
   cases A with
   |none=>
    refine fin false z za (hza _ _ _) hK fun w' _=>?_
    simp only[Instr.lookup,Sem.run_bind,run_underlying hd,Sem.run_pure,Result.andThen_ok];have e1:(Instr.checkKey (#[]:Array MapEntry).isEmpty 10000 kt u).run P w'=.ok () w':=run_checkKey hkt hik _ 9999;rw[e1];have e2:(Instr.findKey kt u (#[]:Array MapEntry).toList).run P w'=.ok none w':=run_findKey hkt rfl;simp only[Result.andThen_ok,e2,zrun,Sem.run_bind,Sem.run_pure]
   |some A=>exact hK.elim
  |_=>exact hK.elim
 |@hd _ k _ hr _=>
  try dsimp only at hK
  cases hk:st.H[k]? with
  |none=>rw[hk]at hK;exact hK.elim
  |some en=>
   rw[hk]at hK;cases en with
   |map tt es=>
    obtain⟨b,ms,clock,hr2,hb,hl,hks,hvs,_⟩:=h.ent_map hk;rw[hr2]at hr;cases hr;have hb':∀w',((hU.lkp ky ok za x' y').loads=true→tK ((hU.lkp ky ok za x' y').reads st) ((hU.lkp ky ok za x' y').pubs st) r pub w w')→w'.heap[b]?=some (.map ms clock):=fun w' hw'=>
     ((hw' rfl).ent k (by rw[hrd];simp) _ hr2 b (by simp[cH])).trans hb
    rcases hK.out with ⟨i,k',v0,hf,hes,hK⟩|⟨hf,hK⟩
    ·obtain⟨n,m,hn,hm,hnow,_⟩:=iZ hik h2 es ms.toList 0 (some i) hks hf;have hn:i=n:=by omega
     subst hn;have hv0:bU pub w dD v0 m.val:=hvs.at_ i _ _ (by rw[aD,hes];rfl) (by rw[aD,hm];rfl);refine fin true m.val v0 (hv0.mono fun _ _ hn=>by cases hn) hK fun w' hw'=>?_
     have e1:(Instr.checkKey ms.isEmpty 10000 kt u).run P w'=.ok () w':=run_checkKey hkt hik _ 9999;have e2:(Instr.findKey kt u ms.toList).run P w'=.ok (some (i,m.val)) w':=run_findKey hkt hnow;simp only[Instr.lookup,Sem.run_bind,run_underlying hd,Sem.run_pure,Result.andThen_ok,MapKept.run_getObj_map (hb' w' hw'),e1,e2]
    ·have hnow:=iZ hik h2 es ms.toList 0 none hks hf;refine fin false z za (hza _ _ _) hK fun w' hw'=>?_
     have e1:(Instr.checkKey ms.isEmpty 10000 kt u).run P w'=.ok () w':=run_checkKey hkt hik _ 9999;have e2:(Instr.findKey kt u ms.toList).run P w'=.ok none w':=run_findKey hkt hnow;simp only[Instr.lookup,Sem.run_bind,run_underlying hd,Sem.run_pure,Result.andThen_ok,MapKept.run_getObj_map (hb' w' hw'),e1,e2,zrun]
   |_=>exact hK.elim
 |_=>exact hK.elim
theorem mF {α β:Type}(f:α→β):∀(l:List α) (i:Nat),(l.eraseIdx i).map f=(l.map f).eraseIdx i
 |[],_=>rfl
 |x :: l,0=>rfl
 |x :: l,i+1=>by simp[mF f l i]
theorem bR.erase_ {pub:cY}{w:World}{r:cT}{l:List AV}{us:List Value}(h:bR pub w r l us) (i:Nat):bR pub w r (l.eraseIdx i) (us.eraseIdx i):=by
 have hl:=h.len;refine⟨by rw[List.length_eraseIdx,List.length_eraseIdx,hl],fun j y v hy hv=>?_⟩;rw[List.getElem?_eraseIdx]at hy hv
 split at hy
 ·rename_i e;rw[aF e]at hv;exact h.at_ _ _ _ hy hv
 ·rename_i e;rw[aE e]at hv;exact h.at_ _ _ _ hy hv
theorem wV {C:nH}{st:St}{a:Act}{w:World}{r:cT}{pub:cY}{keep:List Nat}(h:bP C st a w r pub) {k g:Nat}{x:Value}(hx:r k=some x) (hg:g∈cH x) (hk:keep.contains k=false) (ob:Obj):fG keep r w r (hZ w g ob):=fun n hn=>by
 refine⟨rfl,fun y hy b hb=>oY ob ?_⟩;rintro rfl;have hne:k≠n:=by
  rintro rfl;rw[List.contains_eq_mem]at hk;simp at hk;exact hk hn
 exact h.mod.disj k n x y hne hx hy b hg hb
theorem R4 {x y z:Operand}{x' y' z':XA}{t kt e:TypeId}{d:TypeDesc}{ky:Option IntKind}(hd:P.underlying t=some (.map kt e)) (hkt:P.underlying kt=some d) (hky:AP d=some ky) (ho:o.op=.mapUpdate t x y z) (hx:cA x=some x') (hy:cA y=some y') (hz:cA z=some z'):vB P o (.upd ky x' y' z'):=by
 intro C st a w r pub keep al K Q hdst hkeep h hK;simp only[dW]at hK;obtain⟨hko,hK⟩:=hK;have h1:=h.ev hx;have h2:=h.ev hy;have h3:=h.rd hz;have hik:=rE hky hko h2;have h20:bU pub w dD (st.ev y') (a.eval y):=by
  generalize st.ev y'=cu at hko h2;generalize a.eval y=u at h2;cases h2 with
  |int k n=>exact .int k n
  |str s=>exact .str s
  |_=>cases ky<;>simp[pX]at hko
 generalize hcv:st.ev x'=cv at hK h1;generalize hcu:st.ev y'=cu at hK h2 h20;generalize hcz:st.rd z'=cz at hK h3;generalize hv:a.eval x=v at h1;generalize hu:a.eval y=u at h2 hik h20;generalize hvz:a.eval z=vz at h3;cases h1 with
 |@hd _ k _ hr _=>
  obtain⟨hkk,hK⟩:=hK;cases hk:st.H[k]? with
  |none=>rw[hk]at hK;exact hK.elim
  |some en=>
   rw[hk]at hK;cases en with
   |map tt es=>
    obtain⟨hbnd,hK⟩:=hK;obtain⟨b,ms,clock,hr2,hb,hl,hks,hvs,hp,hbo⟩:=h.ent_mapB hk;rw[hr2]at hr;cases hr;have h30:bU pub w dD cz vz:=h3.congr fun n hn=>absurd (AV.bnd_has _ hbnd hn) (by omega)
    have e1:(Instr.checkKey false 10000 kt u).run P w=.ok () w:=run_checkKey hkt hik _ 9999;have hblt:b < w.heap.size:=lt_of_block hb;rcases hK.out with ⟨i,k',v0,hf,hes,hK⟩|⟨hf,hK⟩
    ·obtain⟨n,m,hn,hm,hnow,hmk⟩:=iZ hik h2 es ms.toList 0 (some i) hks hf;have hn:i=n:=by omega
     subst hn;have e2:(Instr.findKey kt u ms.toList).run P w=.ok (some (i,m.val)) w:=run_findKey hkt hnow;have hm':ms[i]?=some m:=by simpa using hm
     have e3:((ms[i]?).map (·.key)).getD u=u:=by rw[hm'];exact hmk
     have hms:(ms.modify i fun e=>{ e with key:=u,val:=vz }).toList=ms.toList.set i { m with key:=u,val:=vz }:=by
      refine List.ext_getElem? fun j=>?_
      rw[aY,Array.getElem?_modify,List.getElem?_set];by_cases hij:i=j
      ·subst hij;have:i < ms.size:=by have:=(aA.1 hm).1;simpa using this
       obtain rfl:ms[i]=m:=by rw[aK this]at hm';exact Option.some.inj hm'
       simp[this]
      ·simp[hij]
     refine nR hdst (w':=hZ w b (.map (ms.modify i fun e=>{ e with key:=u,val:=vz }) clock)) ?_ (h.mapSet (t:=tt) (es:=es.set i (cu,cz)) hr2 hblt hp (by simp[hl]) ?_ ?_ ?_) (hK.rest _ rfl) (Fr.objW_ _ pub hp).ext (wV h hr2 (by simp[cH]) hkk _) (fun _=>rfl)
     ·unfold execOp;simp[ho,hv,hu,hvz,Instr.mapUpdate,Sem.run_bind,run_underlying hd,MapKept.run_getObj_map hb,e1,e2,e3,run_keyThatStays hik,MapKept.run_setObj_map _ hb,hZ]
     ·rw[hms,List.map_set,List.map_set];exact hks.set i h20
     ·rw[hms,List.map_set,List.map_set];exact hvs.set i h30
     ·intro ht;obtain⟨q1,q2⟩:=hbo ht;refine⟨by rw[q1,Array.size_modify],fun j m2 hm2=>?_⟩;rw[Array.getElem?_modify]at hm2
      split at hm2
      ·rename_i e;subst e;rw[hm']at hm2;cases hm2;exact q2 i m hm'
      ·exact q2 j m2 hm2
    ·have hnow:=iZ hik h2 es ms.toList 0 none hks hf;have e2:(Instr.findKey kt u ms.toList).run P w=.ok none w:=run_findKey hkt hnow;refine nR hdst (w':=hZ w b (.map (ms.push { key:=u,val:=vz,born:=clock }) (clock+1))) ?_ (h.mapSet (t:=tt) (es:=es++[(cu,cz)]) hr2 hblt hp (by simp[hl]) ?_ ?_ ?_) (hK.rest _ rfl) (Fr.objW_ _ pub hp).ext (wV h hr2 (by simp[cH]) hkk _) (fun _=>rfl)
     ·unfold execOp;simp[ho,hv,hu,hvz,Instr.mapUpdate,Sem.run_bind,run_underlying hd,MapKept.run_getObj_map hb,e1,e2,MapKept.run_setObj_map _ hb,hZ]
     ·simpa using hks.app (.cons h20 .nil)
     ·simpa using hvs.app (.cons h30 .nil)
     ·intro ht;obtain⟨q1,q2⟩:=hbo ht;refine⟨by rw[q1,Array.size_push],fun j m2 hm2=>?_⟩;rw[Array.getElem?_push]at hm2
      split at hm2
      ·rename_i e;cases hm2;rw[q1,e]
      ·exact q2 j m2 hm2
   |_=>exact hK.elim
 |_=>exact hK.elim
theorem We {x y:Operand}{x' y':XA}{t kt e t2:TypeId}{d:TypeDesc}{ky:Option IntKind}(hd:P.underlying t=some (.map kt e)) (hkt:P.underlying kt=some d) (hky:AP d=some ky) (ho:o.op=.call ⟨.builtin .delete,#[x,y],#[t,t2]⟩) (hx:cA x=some x') (hy:cA y=some y'):vB P o (.del ky x' y'):=by
 intro C st a w r pub keep al K Q hdst hkeep h hK;simp only[dW]at hK;obtain⟨hko,hK⟩:=hK;have h1:=h.ev hx;have h2:=h.ev hy;have hik:=rE hky hko h2;generalize hcv:st.ev x'=cv at hK h1;generalize hcu:st.ev y'=cu at hK h2;generalize hv:a.eval x=v at h1;generalize hu:a.eval y=u at h2 hik;have tup0:∀(w:World) (pub:cY) (r:cT),bU pub w r (.tup []) (.tuple #[]):=fun w pub r=>.tup rfl fun i x u hx _=>by simp at hx
 cases h1 with
 |v hz1=>
  cases v with
  |map A=>
   cases A with
   |none=>
    have e1:(Instr.checkKey true 10000 kt u).run P w=.ok () w:=run_checkKey hkt hik _ 9999;refine cS hdst (w':=w) (v:=.tuple #[]) ?_ h (tup0 _ _ _) hK (oM.refl _ _) (fG.refl _ _ _) (fun _=>rfl);unfold execOp;simp[ho,hv,hu,resolve,invoke,builtin,Builtin.delete_,Sem.run_bind,run_underlying hd,e1]
   |some A=>exact hK.elim
  |_=>exact hK.elim
 |@hd _ k _ hr _=>
  obtain⟨hkk,hK⟩:=hK;cases hk:st.H[k]? with
  |none=>rw[hk]at hK;exact hK.elim
  |some en=>
   rw[hk]at hK;cases en with
   |map tt es=>
    obtain⟨b,ms,clock,hr2,hb,hl,hks,hvs,hp⟩:=h.ent_map hk;rw[hr2]at hr;cases hr;have e1:(Instr.checkKey ms.isEmpty 10000 kt u).run P w=.ok () w:=run_checkKey hkt hik _ 9999;have hblt:b < w.heap.size:=lt_of_block hb;rcases hK.out with ⟨i,k',v0,hf,hes,hK⟩|⟨hf,hK⟩
    ·obtain⟨n,m,hn,hm,hnow,hmk⟩:=iZ hik h2 es ms.toList 0 (some i) hks hf;have hn:i=n:=by omega
     subst hn;have e2:(Instr.findKey kt u ms.toList).run P w=.ok (some (i,m.val)) w:=run_findKey hkt hnow;have him:i < ms.size:=by have:=(aA.1 hm).1;simpa using this
     have hms:(ms.eraseIdxIfInBounds i).toList=ms.toList.eraseIdx i:=by
      rw[Array.eraseIdxIfInBounds,dif_pos him];simp
     refine cS hdst (v:=.tuple #[]) (w':=hZ w b (.map (ms.eraseIdxIfInBounds i) clock)) ?_ (h.mapSet (t:=QA tt) (es:=es.eraseIdx i) hr2 hblt hp ?_ ?_ ?_ (fun ht=>absurd ht (M0 tt))) (tup0 _ _ _) (hK.rest _ rfl) (Fr.objW_ _ pub hp).ext (wV h hr2 (by simp[cH]) hkk _) (fun _=>rfl)
     ·unfold execOp;simp[ho,hv,hu,resolve,invoke,builtin,Builtin.delete_,Sem.run_bind,run_underlying hd,MapKept.run_getObj_map hb,e1,e2,MapKept.run_setObj_map _ hb,hZ]
     ·have:=congrArg List.length hms;rw[bB]at this;rw[this,List.length_eraseIdx,List.length_eraseIdx,bB,hl]
     ·rw[hms,mF,mF];exact hks.erase_ i
     ·rw[hms,mF,mF];exact hvs.erase_ i
    ·have hnow:=iZ hik h2 es ms.toList 0 none hks hf;have e2:(Instr.findKey kt u ms.toList).run P w=.ok none w:=run_findKey hkt hnow;have hself:hZ w b (.map ms clock)=w:=by
      unfold hZ;have:w.heap.setIfInBounds b (.map ms clock)=w.heap:=by
       refine Array.ext_getElem? fun j=>?_
       by_cases hj:b=j
       ·subst hj;rw[Array.getElem?_setIfInBounds_self_of_lt hblt,hb]
       ·rw[Array.getElem?_setIfInBounds_ne hj]
      rw[this]
     refine cS hdst (v:=.tuple #[]) (w':=w) ?_ h (tup0 _ _ _) hK (oM.refl _ _) (fG.refl _ _ _) (fun _=>rfl);unfold execOp;have e4:(setObj b (.map ms clock)).run P w=.ok () w:=by rw[MapKept.run_setObj_map _ hb];exact congrArg _ hself
     simp[ho,hv,hu,resolve,invoke,builtin,Builtin.delete_,Sem.run_bind,run_underlying hd,MapKept.run_getObj_map hb,e1,e2,e4]
   |_=>exact hK.elim
 |_=>exact hK.elim
end
end Go.Proofs.YtigdiekbiphhmaaGreatDoor
namespace Go.Proofs.YtigdiekbiphhmaaGreatDoor
open Go.RowKit
theorem vJ:∀{l:List AV}{ns:List Int},qZ l=some ns→l=ns.map (AV.int .u8)
 |[],ns,h=>by simp[qZ]at h;subst h;rfl
 |x :: l,ns,h=>by
  unfold qZ at h
  split at h
  ·rename_i e;cases e
  ·rename_i n l' e;cases e;cases hq:qZ l with
   |none=>rw[hq]at h;cases h
   |some ms=>
    rw[hq]at h;cases h;rw[vJ hq];rfl
  ·cases h
theorem GM (ns:List Int):(ns.map (AV.int .u8)).flatMap AV.cells=ns.map (AV.int .u8):=by
 induction ns with
 |nil=>rfl
 |cons n ns ih=>rw[List.map_cons,List.flatMap_cons,ih];rfl
variable {P:bI}{o:Oper}
theorem Nr {x:Operand}{x':XA}{s t e:TypeId}(hs:P.underlying s=some (.slice e)) (he:P.underlying e=some (.int .u8)) (ht:P.underlying t=some .string) (ho:o.op=.convert s t x) (hx:cA x=some x'):eG P o (.b2s x'):=by
 intro C st a w r pub keep al K h hK;have h1:=h.view (h.ev hx);have hrd:(hU.b2s x').reads st=(match st.rd x' with|.hd k=>[k]|_=>[]):=rfl;have hpb:(hU.b2s x').pubs st=(match st.rd x' with|.sl _ _=>true|_=>false):=rfl;simp only[dW]at hK;have e0:st.view (st.ev x')=st.rd x':=rfl;rw[e0]at h1;generalize hcv:st.rd x'=cv at hK h1 hrd hpb;generalize hv:a.eval x=v at h1;have fin:∀(ns:List Int) (w':World),(convert s t v).run P w'=.ok (.string (strOf ns)) w'→(execOp a.eval o).run P w'=.ok (.value (.string (strOf ns))) w':=fun ns w' hrun=>by
  unfold execOp;simp[ho,hv,hrun]
 cases h1 with
 |@hd _ k _ hr hh1=>
  dsimp only at hK hrd;cases hk:st.H[k]? with
  |none=>rw[hk]at hK;exact hK.elim
  |some en=>
   rw[hk]at hK;cases en with
   |row t0 sz xs=>
    obtain⟨⟨ns,rfl,hb,hK⟩⟩:=hK;have hxs:=vJ hb;obtain⟨A,c,us,hr',hown,hc,_,_⟩:=h.ent_row hk;rw[hr]at hr';cases hr';subst hxs;rw[GM]at hc;refine⟨_,_,.str _,hK _ rfl,fun w' hl=>fin ns w' ?_⟩;have hl:=(hl rfl).ent k (by rw[hrd];simp) _ hr;rcases hown.cases_ with ⟨rfl,h0,_,_⟩|⟨g,cur,rfl,hblk,_⟩
    ·have hns:ns=[]:=aR (by simpa using h0);subst hns;exact run_convert_bytes_nil w' s e hs he _ _ t ht
    ·have hrdw:=hown.rd;refine run_convert_bytes_arg w' s e hs he g 0 _ c ns (by simp) (fun i hi=>?_) t ht;have hi':i < ns.length:=by simpa using hi
     obtain⟨u,hu,hru⟩:=hc.get (i:=i) (x:=.int .u8 ns[i]) (by rw[aD,aB hi'];rfl);obtain⟨b0,o0,hA,hcell⟩:=hrdw.get i u hu;simp only[bE,Addr.mk.injEq,and_true]at hA;obtain⟨rfl,rfl⟩:=hA;cases hru;rw[World.cell?_of_block (w:=w) (a:=⟨g,0+i,none⟩) (hl g (by simp[cH]))];rw[hcell];simp[List.getD,aB hi']
   |_=>exact hK.elim
 |@sl _ sz xs A c hc hm hn hsz g hr hg=>
  dsimp only at hK hpb;obtain⟨⟨ns,rfl,hb,hK⟩⟩:=hK;have hxs:=vJ hb;subst hxs;refine⟨_,_,.str _,hK _ rfl,fun w' hl=>fin ns w' ?_⟩;have hl:=(hl rfl).cell hpb;cases A with
  |none=>
   have hns:ns=[]:=by simpa using(hn rfl).1
   subst hns;exact run_convert_bytes_nil w' s e hs he _ _ t ht
  |some ad=>
   by_cases h0:ns=[]
   ·subst h0;obtain⟨b,off,et⟩:=ad;have:=run_convert_bytes_string (P:=P) w' s t e (some ⟨b,off,et⟩) 0 c hs he ht;refine this.trans ?_;rw[run_bytesToString w' _ 0 c [] (by simpa using run_loadCells_list (P:=P) w' ⟨b,off,et⟩ [] (by simp))];rfl
   ·obtain⟨n0,hn0⟩:=List.exists_mem_of_ne_nil _ h0;obtain⟨i0,hi0⟩:=aV hn0;obtain⟨b,off,hA,_,_⟩:=hg i0 (.int .u8 n0) 0 (.int .u8 n0) (by rw[aD,hi0];rfl) rfl;cases hA;refine run_convert_bytes_arg w' s e hs he b off _ c ns (by simp) (fun i hi=>?_) t ht;have hi':i < ns.length:=by simpa using hi
    have hxi:(ns.map (AV.int .u8))[i]?=some (.int .u8 ns[i]):=by rw[aD,aB hi'];rfl
    obtain⟨b2,o2,hA,hp,hcell⟩:=hg i _ 0 (.int .u8 ns[i]) hxi rfl;cases hA;have hrv:=hr i _ 0 (.int .u8 ns[i]) hxi rfl;generalize g i 0=gv at hrv hcell;cases hrv;simp only[Nat.mul_one,Nat.add_zero]at hcell hp;rw[hl b _ _ hp hcell];simp[List.getD,aB hi']
 |v hh=>
  split at hK
  ·rename_i e;cases e
  ·rename_i e;cases e
  ·rename_i e;cases e;refine⟨_,_,.str _,hK,fun w' hl=>fin [] w' ?_⟩;exact run_convert_bytes_nil w' s e hs he _ _ t ht
  ·exact hK.elim
 |_=>exact hK.elim
end Go.Proofs.YtigdiekbiphhmaaGreatDoor
namespace Go.Proofs.YtigdiekbiphhmaaGreatDoor
open Go.RowKit Go.MapKept
theorem Jl (key:AV):∀(ks:List AV) (i:Nat),oK key (ks.map fun k=>(k,AV.any)) i=pW key ks i
 |[],i=>rfl
 |k :: ks,i=>by
  simp only[List.map_cons,oK,pW];rw[Jl key ks (i+1)]
theorem rK {pub:cY}{w:World}{r:cT}{d:TypeDesc}{key:AV}{k:Value}(hd:IsKey d k) (hv:bU pub w r key k) (ks:List AV) (ms:List MapEntry) (q:Option Nat) (h:bR pub w dD ks (ms.map (·.key))) (hf:pW key ks 0=some q) :
  match q with
  |none=>Instr.findNow d k ms 0=some none
  |some j=>∃e,ms[j]?=some e∧Instr.findNow d k ms 0=some (some (j,e.val))∧e.key=k:=by
 rw[←Jl]at hf;have h':bR pub w dD ((ks.map fun k=>(k,AV.any)).map (·.1)) (ms.map (·.key)):=by
  have:(ks.map fun k=>(k,AV.any)).map (·.1)=ks:=by simp[Function.comp_def]
  rw[this];exact h
 have:=iZ hd hv (ks.map fun k=>(k,AV.any)) ms 0 q h' hf;cases q with
 |none=>exact this
 |some j=>
  obtain⟨n,e,hn,h1,h2,h3⟩:=this;have:j=n:=by omega
  subst this;exact⟨e,h1,h2,h3⟩
section
variable {C:nH}{st:St}{a:Act}{w:World}{r:cT}{pub:cY}
theorem bP.objSet (h:bP C st a w r pub) {k g:Nat}{x:Value}{e:cG}(o:Obj) (hx:r k=some x) (hg:g∈cH x) (hp:pub g=0) (he:Fr (fun b=>b=g) pub w pub (hZ w g o)→eF pub (hZ w g o) r (some x) e):bP C ⟨st.T,st.H.set k e⟩ a (hZ w g o) r pub:=by
 have hf:=Fr.objW_ (w:=w) (b:=g) o pub hp;refine⟨h.mod.set hx hf (fun n hn=>by subst hn;exact hg) (fun n hn=>by rw[rV]at hn;exact h.mod.fresh n hn) (fun n i hi=>?_) (he hf),h.own,h.fr.trans hf (fun n hn=>?_),h.slots.ext hf.ext,h.defers,h.size,h.stab,⟨h.low.1,by simpa using h.low.2⟩⟩
 ·obtain⟨u,hu⟩:=h.mod.there n i hi;exact⟨u,hf.ext.cell n i u hi hu⟩
 ·subst hn;exact h.own k _ hx _ hg
theorem bP.repool (h:bP C st a w r pub) {k b:Nat}{inner inner':List (List Value)}{e:cG}(o:Obj) (hrk:r k=some (cO b inner)) (hb:b < w.heap.size) (hp:pub b=0) (hsub:∀n,n∈cH (cO b inner')→n∈cH (cO b inner))
  (he:Fr (fun n=>n=b) pub w pub (hZ w b o)→(∀x v,bU pub w r x v→bU pub (hZ w b o) (fX r k (cO b inner')) x v)→eF pub (hZ w b o) (fX r k (cO b inner')) (some (cO b inner')) e) :
  bP C ⟨st.T,st.H.set k e⟩ a (hZ w b o) (fX r k (cO b inner')) pub:=by
 have hf:=Fr.objW_ (w:=w) (b:=b) o pub hp;have hkl:=CR h hrk;have hbf:b∈cH (cO b inner):=by rw[dJ];simp
 obtain⟨a1,h1,h2⟩:=dE b inner;obtain⟨a2,h3,h4⟩:=dE b inner';have hrk':=hrk;rw[h1]at hrk';have rk:fX r k (cO b inner') k=some (.tuple a2):=by rw[cB,h3]
 have rsome:∀q y,q≠k→r q=some y→fX r k (cO b inner') q=some y:=fun q y hq hy=>by rw[cQ _ _ hq];exact hy
 have hsub2:∀x v,bU pub (hZ w b o) r x v→bU pub (hZ w b o) (fX r k (cO b inner')) x v:=fun x v hv=>hv.super hrk' rk (h4.trans h2.symm) rsome
 refine⟨⟨fun q e' hq=>?_,fun q hq=>?_,fun p q x y hpq hx hy=>?_,fun n hn=>by rw[rV]at hn;exact h.mod.fresh n hn,fun n i hi=>?_,h.mod.glob.ext hf.ext⟩,fun q x hx n hn=>?_,h.fr.trans hf (fun n hn=>by subst hn;exact h.own k _ hrk _ hbf),fun m=>hsub2 _ _ ((h.slots m).ext hf.ext),h.defers,h.size,fun q y hy hs=>?_,⟨h.low.1,by simpa using h.low.2⟩⟩
 ·by_cases e1:k=q
  ·subst e1;rw[aQ hkl]at hq;cases hq;rw[cB];exact he hf fun x v hv=>hsub2 x v (hv.ext hf.ext)
  ·rw[aU e1]at hq;rw[cQ _ _ (Ne.symm e1)];exact((h.mod.ent q e' hq).frm hf (fun y hy n hn e2=>by subst e2;exact h.mod.disj k q _ _ e1 hrk hy _ hbf hn) (fun _ _ h=>h)).sub hsub2
 ·rw[bA]at hq;rw[cQ _ _ (by omega)];exact h.mod.none_ q hq
 ·have old:∀q x,fX r k (cO b inner') q=some x→∃x0,r q=some x0∧∀n∈cH x,n∈cH x0:=fun q x hx=>by
   by_cases e1:q=k
   ·subst e1;rw[cB]at hx;cases hx;exact⟨_,hrk,hsub⟩
   ·rw[cQ _ _ e1]at hx;exact⟨_,hx,fun _ h=>h⟩
  obtain⟨x0,hx0,hx1⟩:=old p x hx;obtain⟨y0,hy0,hy1⟩:=old q y hy;exact fun n hn hn2=>h.mod.disj p q x0 y0 hpq hx0 hy0 n (hx1 n hn) (hy1 n hn2)
 ·obtain⟨u,hu⟩:=h.mod.there n i hi;exact⟨u,hf.ext.cell n i u hi hu⟩
 ·by_cases e1:q=k
  ·subst e1;rw[cB]at hx;cases hx;exact h.own _ _ hrk n (hsub n hn)
  ·rw[cQ _ _ e1]at hx;exact h.own q x hx n hn
 ·have h5:=h.stab q y hy hs;refine rsome q y ?_ h5;rintro rfl;rw[hrk]at h5;cases h5;cases hs
end
section
variable {P:bI}{o:Oper}
theorem WT {x y:Operand}{x' y':XA}{t kt e:TypeId}{d:TypeDesc}{ky:Option IntKind}{it:TypeInfo}{z:Value}{za:AV}(ok:Bool) (hd:P.underlying t=some (.map kt e)) (hkt:P.underlying kt=some d) (hky:AP d=some ky) (hi:P.info? e=some it) (hz:it.zero=some z)
  (hza:∀(pub:cY) (w:World) (r:cT),bU pub w r za z) (ho:o.op=.lookup t x y ok) (hx:cA x=some x') (hy:cA y=some y'):vB P o (.plk ky ok za x' y'):=by
 intro C st a w r pub keep al K Q hdst hkeep h hK;simp only[dW]at hK;obtain⟨hko,hK⟩:=hK;have h1:=h.ev hx;have h2:=h.ev hy;have hik:=rE hky hko h2;generalize hcv:st.ev x'=cv at hK h1;generalize hcu:st.ev y'=cu at hK h2;generalize hv:a.eval x=v at h1;generalize hu:a.eval y=u at h2 hik;have zrun:∀w':World,(zeroValue e).run P w'=.ok z w':=fun w'=>by simp[zeroValue,typeInfo,hi,hz,Sem.run_bind]
 have fin:∀(st1:St) (r1:cT) (b:Bool) (v0:Value) (y0:AV),bP C st1 a w r1 pub→bU pub w r1 y0 v0→K (st1.put o.dst (if ok=true then .tup [y0,.bl b] else y0))→fG keep r w r1 w →
   (Instr.lookup t v u ok).run P w=.ok (if ok=true then .tuple #[v0,.bool b] else v0) w→Oper.wp P o a w (nF C keep true r pub w K) Q:=fun st1 r1 b v0 y0 hh hv0 hK0 hkp hrun=>by
  refine cS (v:=if ok=true then .tuple #[v0,.bool b] else v0) hdst ?_ hh ?_ hK0 (oM.refl _ _) hkp (fun _=>rfl)
  ·unfold execOp;simp[ho,hv,hu,hrun]
  ·cases ok with
   |true=>
    refine .tup (l:=[y0,.bl b]) (a:=#[v0,.bool b]) rfl (fun i p q hp hq=>?_);rcases i with _|_|i
    ·simp at hp hq;subst hp hq;exact hv0
    ·simp at hp hq;subst hp hq;exact .bl b
    ·simp at hp
   |false=>exact hv0
 cases h1 with
 |v hz1=>
  cases v with
  |map A=>
   cases A with
   |none=>
    refine fin st r false z za h (hza _ _ _) (by cases ok<;>exact hK) (fG.refl _ _ _) ?_;simp only[Instr.lookup,Sem.run_bind,run_underlying hd,Sem.run_pure,Result.andThen_ok];have e1:(Instr.checkKey (#[]:Array MapEntry).isEmpty 10000 kt u).run P w=.ok () w:=run_checkKey hkt hik _ 9999;rw[e1];have e2:(Instr.findKey kt u (#[]:Array MapEntry).toList).run P w=.ok none w:=run_findKey hkt rfl;simp only[Result.andThen_ok,e2,zrun,Sem.run_bind,Sem.run_pure]
   |some A=>exact hK.elim
  |_=>exact hK.elim
 |@ph _ k arr _ hr h0 _=>
  obtain⟨hkk,hK⟩:=hK;cases hk:st.H[k]? with
  |none=>rw[hk]at hK;exact hK.elim
  |some en=>
   rw[hk]at hK;cases en with
   |pool tt es outs=>
    obtain⟨b,ms,inner,hr2,R⟩:=h.ent_pool hk;obtain⟨a0,ha0,ha1⟩:=dE b inner;have hb0:=hr.symm.trans hr2;rw[ha0]at hb0;cases hb0;rw[ha1]at h0;cases h0;have e1:(Instr.checkKey ms.isEmpty 10000 kt u).run P w=.ok () w:=run_checkKey hkt hik _ 9999;have found:∀i,pW cu (es.map (·.1)) 0=some (some i)→∃m,ms[i]?=some m∧(Instr.lookup t (.map (some b)) u ok).run P w=.ok (if ok=true then .tuple #[m.val,.bool true] else m.val) w:=fun i hf=>by
     obtain⟨m,hm,hnow,_⟩:=rK hik h2 _ ms.toList (some i) R.hk hf;have e2:(Instr.findKey kt u ms.toList).run P w=.ok (some (i,m.val)) w:=run_findKey hkt hnow;refine⟨m,by simpa using hm,?_⟩;simp only[Instr.lookup,Sem.run_bind,run_underlying hd,Sem.run_pure,Result.andThen_ok,MapKept.run_getObj_map R.hb,e1,e2]
    rcases hK.out with ⟨i,k',hd',l,hf,hes,hno,hK⟩|⟨i,x0,hf,hxo,hK⟩|⟨hf,hK⟩
    ·obtain⟨m,hm,hrun⟩:=found i hf;obtain⟨b2,ms2,inner2,r2,q1,R2,q2,q3,q4,q5⟩:=h.focus hk hes hno;rw[hr2]at q1;have hbm:b2=b:=by
      have:=Option.some.inj q1;unfold cO at this;simp only[Value.tuple.injEq,List.toArray_eq_toArray_eq,List.cons.injEq,Value.map.injEq,bE]at this;exact this.1.symm
     subst hbm;have hms:ms2=ms:=by
      have:=R2.hb.symm.trans R.hb;simp only[bE,Obj.map.injEq]at this;exact this.1
     subst hms;refine fin _ r2 true m.val _ q5 (q2 m hm) hK (fun n hn=>?_) hrun;have hnk:n≠k:=by
      rintro rfl;rw[List.contains_eq_mem]at hkk;simp at hkk;exact hkk hn
     have hs:=hkeep n hn;obtain⟨y1,hy1⟩:=Option.isSome_iff_exists.1 hs;exact⟨q4 n hnk (CR h hy1),fun _ _ _ _=>rfl⟩
    ·obtain⟨m,hm,hrun⟩:=found i hf;exact fin st r true m.val x0 h ((R.hout i x0 hxo).2 m hm) hK (fG.refl _ _ _) hrun
    ·have hnow:=rK hik h2 _ ms.toList none R.hk hf;refine fin st r false z za h (hza _ _ _) hK (fG.refl _ _ _) ?_;have e2:(Instr.findKey kt u ms.toList).run P w=.ok none w:=run_findKey hkt hnow;simp only[Instr.lookup,Sem.run_bind,run_underlying hd,Sem.run_pure,Result.andThen_ok,MapKept.run_getObj_map R.hb,e1,e2,zrun]
   |_=>exact hK.elim
 |_=>exact hK.elim
theorem Se {x y z:Operand}{x' y' z':XA}{t kt e:TypeId}{d:TypeDesc}{ky:Option IntKind}(hd:P.underlying t=some (.map kt e)) (hkt:P.underlying kt=some d) (hky:AP d=some ky) (ho:o.op=.mapUpdate t x y z) (hx:cA x=some x') (hy:cA y=some y') (hz:cA z=some z'):vB P o (.pup ky x' y' z'):=by
 intro C st a w r pub keep al K Q hdst hkeep h hK;simp only[dW]at hK;obtain⟨hko,hK⟩:=hK;have h1:=h.ev hx;have h2:=h.ev hy;have h3:=h.ev hz;have hik:=rE hky hko h2;have h20:bU pub w dD (st.ev y') (a.eval y):=by
  generalize st.ev y'=cu at hko h2;generalize a.eval y=u at h2;cases h2 with
  |int k n=>exact .int k n
  |str s=>exact .str s
  |_=>cases ky<;>simp[pX]at hko
 generalize hcv:st.ev x'=cv at hK h1;generalize hcu:st.ev y'=cu at hK h2 h20;generalize hcz:st.ev z'=cz at hK h3;generalize hv:a.eval x=v at h1;generalize hu:a.eval y=u at h2 hik h20;generalize hvz:a.eval z=vz at h3;cases h1 with
 |@ph _ k arr _ hr h0 _=>
  obtain⟨hkk,hK⟩:=hK;cases hk:st.H[k]? with
  |none=>rw[hk]at hK;exact hK.elim
  |some en=>
   rw[hk]at hK;cases en with
   |pool tt es outs=>
    obtain⟨hone,hK⟩:=hK;obtain⟨b,ms,inner,hr2,R⟩:=h.ent_pool hk;obtain⟨a0,ha0,ha1⟩:=dE b inner;have hb0:=hr.symm.trans hr2;rw[ha0]at hb0;cases hb0;rw[ha1]at h0;cases h0;have hblt:b < w.heap.size:=lt_of_block R.hb;have e1:(Instr.checkKey false 10000 kt u).run P w=.ok () w:=run_checkKey hkt hik _ 9999;have hkp:∀(ob:Obj) (y:Value),fG keep r w (fX r k y) (hZ w b ob):=fun ob y n hn=>by
     have hnk:n≠k:=by
      rintro rfl;rw[List.contains_eq_mem]at hkk;simp at hkk;exact hkk hn
     refine⟨cQ _ _ hnk,fun y hy b' hb'=>oY ob ?_⟩;rintro rfl;exact h.mod.disj k n _ y (Ne.symm hnk) hr2 hy b' (by rw[dJ];simp) hb'
    rcases hK.out with ⟨hf,hK⟩|⟨i,x0,rest,hf,rfl,hno,hK⟩
    ·have hnow:=rK hik h2 _ ms.toList none R.hk hf;have e2:(Instr.findKey kt u ms.toList).run P w=.ok none w:=run_findKey hkt hnow;have hfoot:cH (cO b (inner++[[]]))=cH (cO b inner):=by rw[dJ,dJ];simp
     have hsz:ms.size+1=(ms.push { key:=u,val:=vz,born:=ms.size }).size:=by simp
     refine nR hdst (w':=hZ w b (.map (ms.push { key:=u,val:=vz,born:=ms.size }) (ms.size+1))) (r':=fX r k (cO b (inner++[[]]))) ?_
      (h.repool (e:=.pool tt (es++[(cu,.any,[])]) ((es.length,cz) :: outs)) (.map (ms.push { key:=u,val:=vz,born:=ms.size }) (ms.size+1)) hr2 hblt R.hp (fun n hn=>by rw[hfoot]at hn;exact hn) ?_) (hK _ _ rfl rfl) (Fr.objW_ _ pub R.hp).ext (hkp _ _) (fun _=>rfl)
     ·unfold execOp;simp[ho,hv,hu,hvz,Instr.mapUpdate,Sem.run_bind,run_underlying hd,MapKept.run_getObj_map R.hb,e1,e2,MapKept.run_setObj_map _ R.hb,hZ]
     ·intro hfr hsub;have getp:∀(i:Nat) (m:MapEntry),i < ms.size→(ms.push { key:=u,val:=vz,born:=ms.size })[i]?=some m→ms[i]?=some m:=fun i m hi hm=>by
       rw[Array.getElem?_push_lt hi]at hm;rw[aK hi];exact hm
      have gete:∀{i:Nat}{el:AV×AV×List cG},i≠es.length→(es++[(cu,AV.any,[])])[i]?=some el→i < es.length∧es[i]?=some el:=fun {i el} hi he=>by
       have:=(aA.1 he).1;simp only[aM,List.length_cons,List.length_nil]at this;rw[List.getElem?_append_left (by omega)]at he;exact⟨by omega,he⟩
      have geti:∀{i:Nat}{vs:List Value},i < es.length→(inner++[[]])[i]?=some vs→inner[i]?=some vs:=fun {i vs} hi he=>by
       rw[List.getElem?_append_left (by rw[R.hn];exact hi)]at he;exact he
      refine .pool (by rw[←hsz];exact tR _ hblt) (by simp[R.hl]) (by simp[R.hn]) (fun i m hm=>?_) ?_ (fun i x hx=>?_) (fun i el vs m hn he hi hm=>?_) (fun i el vs j dd hn he hi hj=>?_) (by rw[hfoot];exact R.hnd) R.hp
      ·by_cases e3:i < ms.size
       ·exact R.hborn i m (getp i m e3 hm)
       ·have:=(Array.getElem?_eq_some_iff.1 hm).1;simp only[Array.size_push]at this;have e4:i=ms.size:=by omega
        subst e4;simp at hm;subst hm;rfl
      ·have:=(R.hk.ext hfr.ext).app (bR.cons (h20.ext hfr.ext) .nil);simpa using this
      ·rcases List.mem_cons.1 hx with hx|hx
       ·cases hx;refine⟨by rw[List.getElem?_append_right (by rw[R.hn];exact aN _),R.hn];simp,fun m hm=>?_⟩;rw[←R.hl]at hm;simp at hm;subst hm;exact hsub _ _ h3
       ·have hio:=(R.hout i x hx).1;have hil:=(aA.1 hio).1;refine⟨by rw[List.getElem?_append_left hil];exact hio,fun m hm=>hsub _ _ ((R.hout i x hx).2 m (getp i m (by rw[R.hl,←R.hn];exact hil) hm))⟩
      ·have hil:i≠es.length:=by rintro rfl;exact hn _ (bD ..)
       obtain⟨h5,h6⟩:=gete hil he;obtain⟨k1,k2,k3⟩:=R.hin i el vs m (fun x hx=>hn x (aW _ hx)) h6 (geti h5 hi) (getp i m (by rw[R.hl];exact h5) hm);exact⟨k1,k2,k3.ext hfr.ext⟩
      ·have hil:i≠es.length:=by rintro rfl;exact hn _ (bD ..)
       obtain⟨h5,h6⟩:=gete hil he;have hno:∀x,(i,x)∉outs:=fun x hx=>hn x (aW _ hx)
       refine(R.hie i el vs j dd hno h6 (geti h5 hi) hj).frm hfr (fun v hvj n hn2 e5=>?_) (fun _ _ h=>h);subst e5;have hvm:=aC hvj;have hi5:i < ms.size:=by rw[R.hl];exact h5
       obtain⟨_,k2,_⟩:=R.hin i el vs (ms[i]'hi5) hno h6 (geti h5 hi) (aK hi5);have hnd:=R.hnd;rw[dJ,List.nodup_cons]at hnd;rw[gR (k2 v hvm)]at hn2;exact hnd.1 (List.mem_flatMap.2 ⟨vs,aC (geti h5 hi),List.mem_flatMap.2 ⟨v,hvm,hn2⟩⟩)
    ·obtain⟨m0,hm0,hnow,hmk⟩:=rK hik h2 _ ms.toList (some i) R.hk hf;have hm':ms[i]?=some m0:=by simpa using hm0
     have him:i < ms.size:=(Array.getElem?_eq_some_iff.1 hm').1;have e2:(Instr.findKey kt u ms.toList).run P w=.ok (some (i,m0.val)) w:=run_findKey hkt hnow;have e3:((ms[i]?).map (·.key)).getD u=u:=by rw[hm'];exact hmk
     have hget:∀j,(ms.modify i fun e=>{ e with key:=u,val:=vz })[j]?=if i=j then some { m0 with key:=u,val:=vz } else ms[j]?:=fun j=>by
      rw[Array.getElem?_modify]
      split
      ·rename_i e4;subst e4;rw[hm'];rfl
      ·rfl
     have hms:(ms.modify i fun e=>{ e with key:=u,val:=vz }).toList=ms.toList.set i { m0 with key:=u,val:=vz }:=by
      refine List.ext_getElem? fun j=>?_
      rw[aY,hget,List.getElem?_set];by_cases hij:i=j
      ·subst hij;simp[him]
      ·simp[hij]
     have hszm:(ms.modify i fun e=>{ e with key:=u,val:=vz }).size=ms.size:=by simp
     refine nR hdst (w':=hZ w b (.map (ms.modify i fun e=>{ e with key:=u,val:=vz }) ms.size)) (r':=fX r k (cO b inner)) ?_
      (h.repool (e:=.pool tt es ((i,cz) :: rest)) (.map (ms.modify i fun e=>{ e with key:=u,val:=vz }) ms.size) hr2 hblt R.hp (fun n hn=>hn) ?_) hK (Fr.objW_ _ pub R.hp).ext (hkp _ _) (fun _=>rfl)
     ·unfold execOp;simp[ho,hv,hu,hvz,Instr.mapUpdate,Sem.run_bind,run_underlying hd,MapKept.run_getObj_map R.hb,e1,e2,e3,run_keyThatStays hik,MapKept.run_setObj_map _ R.hb,hZ]
     ·intro hfr hsub;have hmem:∀{j:Nat}{x:AV},(j,x)∈rest→(j,x)∈(i,x0) :: rest:=fun h=>aW _ h
      have hni:∀{j:Nat},(∀x,(j,x)∉(i,cz) :: rest)→i≠j∧∀x,(j,x)∉(i,x0) :: rest:=fun {j} hn=>by
       have hij:i≠j:=by rintro rfl;exact hn _ (bD ..)
       refine⟨hij,fun x hx=>?_⟩;rcases List.mem_cons.1 hx with hx|hx
       ·cases hx;exact hij rfl
       ·exact hn x (aW _ hx)
      refine .pool (by rw[hszm];exact tR _ hblt) (by rw[hszm];exact R.hl) R.hn (fun j m hm=>?_) ?_ (fun j x hx=>?_) (fun j el vs m hn he hi hm=>?_) (fun j el vs q dd hn he hi hj=>?_) R.hnd R.hp
      ·rw[hget]at hm
       split at hm
       ·rename_i e4;subst e4;cases hm;exact R.hborn i m0 hm'
       ·exact R.hborn j m hm
      ·rw[hms,List.map_set];have hki:(es.map (·.1))[i]?=some ((es.map (·.1))[i]'(by rw[aJ,←R.hl];exact him)):=aB _;have:=(R.hk.ext hfr.ext).set i (x:=(es.map (·.1))[i]'(by rw[aJ,←R.hl];exact him)) (u:=u) ?_
       ·rw[List.set_getElem_self]at this;exact this
       ·have h7:=(R.hk.at_ i _ m0.key hki (by rw[aD,hm0];rfl)).ext hfr.ext;rw[hmk]at h7;exact h7
      ·rcases List.mem_cons.1 hx with hx|hx
       ·cases hx;refine⟨(R.hout i x0 (bD ..)).1,fun m hm=>?_⟩;rw[hget,aF rfl]at hm;cases hm;exact hsub _ _ h3
       ·have hij:i≠j:=by rintro rfl;exact hno x hx
        refine⟨(R.hout j x (hmem hx)).1,fun m hm=>?_⟩;rw[hget,aE hij]at hm;exact hsub _ _ ((R.hout j x (hmem hx)).2 m hm)
      ·obtain⟨hij,hn'⟩:=hni hn;rw[hget,aE hij]at hm;obtain⟨k1,k2,k3⟩:=R.hin j el vs m hn' he hi hm;exact⟨k1,k2,k3.ext hfr.ext⟩
      ·obtain⟨hij,hn'⟩:=hni hn;refine(R.hie j el vs q dd hn' he hi hj).frm hfr (fun v hvj n hn2 e5=>?_) (fun _ _ h=>h);subst e5;have hvm:=aC hvj;have hjl:j < ms.size:=by rw[R.hl];exact(aA.1 he).1
       obtain⟨_,k2,_⟩:=R.hin j el vs ms[j] hn' he hi (aK hjl);have hnd:=R.hnd;rw[dJ,List.nodup_cons]at hnd;rw[gR (k2 v hvm)]at hn2;exact hnd.1 (List.mem_flatMap.2 ⟨vs,aC hi,List.mem_flatMap.2 ⟨v,hvm,hn2⟩⟩)
   |_=>exact hK.elim
 |_=>exact hK.elim
theorem Vf {x:Operand}{x':XA}{t kt e:TypeId}(hd:P.underlying t=some (.map kt e)) (ho:o.op=.range t x) (hx:cA x=some x'):vB P o (.rng x'):=by
 intro C st a w r pub keep al K Q hdst hkeep h hK;simp only[dW]at hK;have h1:=h.ev hx;generalize hcv:st.ev x'=cv at hK h1;generalize hv:a.eval x=v at h1;cases h1 with
 |@ph _ k arr _ hr h0 _=>
  try dsimp only at hK
  cases hk:st.H[k]? with
  |none=>rw[hk]at hK;exact hK.elim
  |some en=>
   rw[hk]at hK;cases en with
   |pool tt es outs=>
    obtain⟨b,ms,inner,hr2,R⟩:=h.ent_pool hk;obtain⟨a0,ha0,ha1⟩:=dE b inner;have hb0:=hr.symm.trans hr2;rw[ha0]at hb0;cases hb0;rw[ha1]at h0;cases h0;obtain⟨hdd,hK⟩:=hK.rest _ rfl;have hdd:=fH hdd;have hkq:k≠st.spot al:=by
     intro e1;have:=(h.grow_ al).mod.dead_none hdd;rw[←e1,hr2]at this;cases this
    have hb:=(h.grow_ al).alloc hdd (.mapIter (some b) ms.size #[] ms.size) (.pointer (some ⟨w.heap.size,0,none⟩)) (.iter (.ph k) ms.size []) (by simp[cH])
     (.iter (heap_alloc_new w _) (.ph (by rw[cQ _ _ hkq,hr2,ha0]) ha1 rfl) (h.mod.fresh _ (aN _)))
    rw[kO]at hb;have e2:((es.length:Int)).toNat=ms.size:=by rw[R.hl];simp
    rw[e2]at hK;refine cS (v:=.pointer (some ⟨w.heap.size,0,none⟩)) hdst ?_ hb (.ptr 0 (cB _ _ _)) hK (Fr.alloc_ (fun _=>False) pub w _).ext (eH (h.grow_ al) hdd hkeep _ _) (fun _=>rfl);unfold execOp;simp[ho,hv,run_range_map (P:=P) w t kt e b ms ms.size hd R.hb,Sem.run_bind]
   |_=>exact hK.elim
 |@hd _ k _ hr hone=>
  try dsimp only at hK
  cases hk:st.H[k]? with
  |none=>rw[hk]at hK;exact hK.elim
  |some en=>
   rw[hk]at hK;cases en with
   |map tt es=>
    obtain⟨htt,hK⟩:=hK;obtain⟨b,ms,clock,hr2,hb,hl,_,_,hp,hbo⟩:=h.ent_mapB hk;obtain⟨hcl,hborn⟩:=hbo htt;subst hcl;have hb0:=hr.symm.trans hr2;cases hb0;obtain⟨hdd,hK⟩:=hK.rest _ rfl;have hdd:=fH hdd;have hkq:k≠st.spot al:=by
     intro e1;have:=(h.grow_ al).mod.dead_none hdd;rw[←e1,hr2]at this;cases this
    have hb1:=(h.grow_ al).alloc hdd (.mapIter (some b) ms.size #[] ms.size) (.pointer (some ⟨w.heap.size,0,none⟩)) (.iter (.hd k) ms.size []) (by simp[cH])
     (.iter (heap_alloc_new w _) (.hd (by rw[cQ _ _ hkq];exact hr2) rfl) (h.mod.fresh _ (aN _)))
    rw[kO]at hb1;have e2:((es.length:Int)).toNat=ms.size:=by rw[hl];simp
    rw[e2]at hK;refine cS (v:=.pointer (some ⟨w.heap.size,0,none⟩)) hdst ?_ hb1 (.ptr 0 (cB _ _ _)) hK (Fr.alloc_ (fun _=>False) pub w _).ext (eH (h.grow_ al) hdd hkeep _ _) (fun _=>rfl);unfold execOp;simp[ho,hv,run_range_map (P:=P) w t kt e b ms ms.size hd hb,Sem.run_bind]
   |_=>exact hK.elim
 |_=>exact hK.elim
theorem Vs {x:Operand}{x':XA}{ty:TypeId}(hty:o.type=ty) (ho:o.op=.next x false) (hx:cA x=some x'):vB P o (.nxt x'):=by
 intro C st a w r pub keep al K Q hdst hkeep h hK;simp only[dW]at hK;have h1:=h.ev hx;generalize hcv:st.ev x'=cv at hK h1;generalize hv:a.eval x=v at h1;cases h1 with
 |@ptr _ q g off hr=>
  cases off with
  |succ _=>exact hK.elim
  |zero=>
  obtain⟨hkq,hK⟩:=hK;cases hq:st.H[q]? with
  |none=>rw[hq]at hK;exact hK.elim
  |some en=>
   rw[hq]at hK;cases en with
   |iter xk since seen=>
    cases xk with
    |ph k=>
     obtain⟨hkk,hK⟩:=hK;cases hk:st.H[k]? with
     |none=>rw[hk]at hK;exact hK.elim
     |some en2=>
      rw[hk]at hK;cases en2 with
      |pool tt es outs=>
       cases outs with
       |cons _ _=>exact hK.elim
       |nil=>
       obtain⟨b,ms,inner,hr2,R⟩:=h.ent_pool hk;obtain⟨a0,ha0,ha1⟩:=dE b inner;have hit:=h.mod.ent q _ hq;rw[hr]at hit;cases hit with
       |@iter _ _ _ _ _ mm hib hix hip=>
       have hmb:mm=b:=by
        cases hix with
        |ph hh hh0 _=>
         rw[hr2,ha0]at hh;cases hh;rw[ha1]at hh0;cases hh0;rfl
       subst hmb;have hsince:=hK.owed;have hms:ms.size=since:=by rw[hsince,R.hl]
       have hold:∀x∈ms.toList,x.born < since:=fun x hx=>by
        obtain⟨i,hi⟩:=aV hx;rw[aY]at hi;rw[R.hborn i x hi,←hms];exact(Array.getElem?_eq_some_iff.1 hi).1
       have hqk:q≠k:=by rintro rfl;rw[hq]at hk;cases hk
       rcases run_next_at (P:=P) w ty g mm since since seen.toArray ms ms.size hib R.hb hold (aN _)with ⟨h0,hrun⟩|⟨en,hen,w1,hw1,hrun⟩
       ·have hover:∀i,i < es.length→i∈seen:=fun i hi=>by
         apply Classical.byContradiction;intro hns;have him:i < ms.size:=by rw[R.hl];exact hi
         have hm:ms[i]∈leftOf ms seen.toArray:=by
          unfold leftOf;rw[Array.mem_filter];refine⟨Array.getElem_mem him,?_⟩;rw[R.hborn i ms[i] (aK him)];simp[hns]
         have:=Array.eq_empty_of_size_eq_zero h0;rw[this]at hm;simp at hm
        refine cS (v:=.tuple #[.bool false]) hdst ?_ h (.tup (l:=[.bl false]) rfl (fun i u z hu hz=>?_)) (hK.over hover) (oM.refl _ _) (fG.refl _ _ _) (fun _=>rfl)
        ·unfold execOp;simp[ho,hv,hty,hrun,Sem.run_bind]
        ·cases i with
         |zero=>simp at hu hz;subst hu hz;exact .bl _
         |succ i=>simp at hu
       ·have hen':en∈ms.toList∧en.born∉seen:=by
         unfold leftOf at hen;simp only[Array.toList_filter,List.mem_filter,Bool.not_eq_true']at hen;refine⟨hen.1,fun hm=>?_⟩;have:=hen.2;simp[hm]at this
        obtain⟨i,hi⟩:=aV hen'.1;rw[aY]at hi;have hbi:=R.hborn i en hi;have him:i < ms.size:=(Array.getElem?_eq_some_iff.1 hi).1;have hil:i < es.length:=by rw[←R.hl];exact him
        obtain⟨⟨key,hd',l⟩,he⟩:∃el,es[i]?=some el:=⟨_,aB hil⟩
        have hK:=hK.next i key hd' l he (by rw[←hbi];exact hen'.2)
        obtain⟨b2,ms2,inner2,r2,q1,R2,q2,q3,q4,q5⟩:=h.focus hk he (by simp);rw[hr2]at q1;have hbm:b2=mm:=by
         have:=Option.some.inj q1;unfold cO at this;simp only[Value.tuple.injEq,List.toArray_eq_toArray_eq,List.cons.injEq,Value.map.injEq,bE]at this;exact this.1.symm
        subst hbm;have hms2:ms2=ms:=by
         have:=R2.hb.symm.trans R.hb;simp only[bE,Obj.map.injEq]at this;exact this.1
        subst hms2;have hql:q < st.H.length:=(aA.1 hq).1;have hkl:k < st.H.length:=(aA.1 hk).1;have hq5:bP C ⟨st.T,st.H.set k (.pool tt es [(i,hd'.ren [] st.H.length)])++gA [] st.H.length l⟩ a w1 r2 pub:=by
         rcases hw1 with rfl|rfl
         ·exact q5
         ·exact q5.draws
        have hr2q:r2 q=some (.pointer (some ⟨g,0,none⟩)):=(q4 q hqk hql).trans hr;have hnew:=hq5.objSet (k:=q) (g:=g) (e:=.iter (.ph k) since (seen++[i])) (.mapIter (some b2) since (seen.toArray.push en.born) ms2.size) hr2q (by simp[cH]) hip (fun hfr=>by
         have hglt:g < w1.heap.size:=by
          have:=lt_of_block hib;rcases hw1 with rfl|rfl<;>exact this
         obtain⟨a3,h3,h4⟩:=dE b2 (inner2.set i []);refine .iter (m:=b2) ?_ (.ph (by rw[q3,h3]) h4 rfl) hip;have:=tR (w:=w1) (.mapIter (some b2) since (seen.toArray.push en.born) ms2.size) hglt;rw[this,hms,hbi];simp)
        have hH:(st.H.set k (.pool tt es [(i,hd'.ren [] st.H.length)])++gA [] st.H.length l).set q (.iter (.ph k) since (seen++[i]))=(st.H.set q (.iter (.ph k) since (seen++[i]))).set k (.pool tt es [(i,hd'.ren [] st.H.length)])++gA [] st.H.length l:=by
         rw[List.set_append_left _ _ (by rw[bA];exact hql),List.set_comm _ _ (Ne.symm hqk)]
        dsimp only at hnew;rw[hH]at hnew;have hkey:bU pub w dD key en.key:=R.hk.at_ i _ _ (by rw[aD,he];rfl) (by rw[aD,aY,hi];rfl);have hfr1:oM pub w pub w1:=by rcases hw1 with rfl|rfl;(· exact oM.refl _ _);exact⟨fun _=>aN _,fun _ _ _ _ h=>h,fun _ _ _ h=>h⟩
        have hfr2:=(Fr.objW_ (w:=w1) (b:=g) (.mapIter (some b2) since (seen.toArray.push en.born) ms2.size) pub hip).ext;refine cS (v:=.tuple #[.bool true,en.key,en.val]) hdst (w':=hZ w1 g (.mapIter (some b2) since (seen.toArray.push en.born) ms2.size)) ?_ hnew (.tup (l:=[.bl true,key,hd'.ren [] st.H.length]) rfl (fun j u z hu hz=>?_)) hK (hfr1.trans hfr2) (fun n hn=>?_) (fun _=>rfl)
        ·unfold execOp;simp[ho,hv,hty,hrun,Sem.run_bind,hZ,ChangeMaps.setBlock]
        ·have h5:bU pub (hZ w1 g (.mapIter (some b2) since (seen.toArray.push en.born) ms2.size)) r2 key en.key:=((hkey.mono fun _ _ hn=>by cases hn).ext hfr1).ext hfr2;have h6:bU pub (hZ w1 g (.mapIter (some b2) since (seen.toArray.push en.born) ms2.size)) r2 (hd'.ren [] st.H.length) en.val:=((q2 en hi).ext hfr1).ext hfr2;rcases j with _|_|_|j
         ·simp at hu hz;subst hu hz;exact .bl _
         ·simp at hu hz;subst hu hz;exact h5
         ·simp at hu hz;subst hu hz;exact h6
         ·simp at hu
        ·have hnk:n≠k:=by
          rintro rfl;rw[List.contains_eq_mem]at hkk;simp at hkk;exact hkk hn
         have hnq:n≠q:=by
          rintro rfl;rw[List.contains_eq_mem]at hkq;simp at hkq;exact hkq hn
         obtain⟨y1,hy1⟩:=Option.isSome_iff_exists.1 (hkeep n hn);refine⟨q4 n hnk (CR h hy1),fun y hy b' hb'=>?_⟩;have hne:b'≠g:=by
          rintro rfl;exact h.mod.disj n q y _ hnq hy hr b' hb' (by simp[cH])
         rw[oY _ hne];rcases hw1 with rfl|rfl<;>rfl
      |_=>exact hK.elim
    |hd k=>
     try dsimp only at hK
     cases hk:st.H[k]? with
     |none=>rw[hk]at hK;exact hK.elim
     |some en2=>
      rw[hk]at hK;cases en2 with
      |map tt es=>
       obtain⟨htt,hK⟩:=hK;obtain⟨b,ms,clock,hr2,hb,hl,hks,hvs,hp,hbo⟩:=h.ent_mapB hk;obtain⟨hcl,hborn⟩:=hbo htt;subst hcl;have hit:=h.mod.ent q _ hq;rw[hr]at hit;cases hit with
       |@iter _ _ _ _ _ mm hib hix hip=>
       have hmb:mm=b:=by
        cases hix with
        |hd hh _=>
         rw[hr2]at hh;cases hh;rfl
       subst hmb;have hsince:=hK.owed;have hms:ms.size=since:=by rw[hsince,hl]
       have hold:∀x∈ms.toList,x.born < since:=fun x hx=>by
        obtain⟨i,hi⟩:=aV hx;rw[aY]at hi;rw[hborn i x hi,←hms];exact(Array.getElem?_eq_some_iff.1 hi).1
       rcases run_next_at (P:=P) w ty g mm since since seen.toArray ms ms.size hib hb hold (aN _)with ⟨h0,hrun⟩|⟨en,hen,w1,hw1,hrun⟩
       ·have hover:∀i,i < es.length→i∈seen:=fun i hi=>by
         apply Classical.byContradiction;intro hns;have him:i < ms.size:=by rw[hl];exact hi
         have hm:ms[i]∈leftOf ms seen.toArray:=by
          unfold leftOf;rw[Array.mem_filter];refine⟨Array.getElem_mem him,?_⟩;rw[hborn i ms[i] (aK him)];simp[hns]
         have:=Array.eq_empty_of_size_eq_zero h0;rw[this]at hm;simp at hm
        refine cS (v:=.tuple #[.bool false]) hdst ?_ h (.tup (l:=[.bl false]) rfl (fun i u z hu hz=>?_)) (hK.over hover) (oM.refl _ _) (fG.refl _ _ _) (fun _=>rfl)
        ·unfold execOp;simp[ho,hv,hty,hrun,Sem.run_bind]
        ·cases i with
         |zero=>simp at hu hz;subst hu hz;exact .bl _
         |succ i=>simp at hu
       ·have hen':en∈ms.toList∧en.born∉seen:=by
         unfold leftOf at hen;simp only[Array.toList_filter,List.mem_filter,Bool.not_eq_true']at hen;refine⟨hen.1,fun hm=>?_⟩;have:=hen.2;simp[hm]at this
        obtain⟨i,hi⟩:=aV hen'.1;rw[aY]at hi;have hbi:=hborn i en hi;have him:i < ms.size:=(Array.getElem?_eq_some_iff.1 hi).1;have hil:i < es.length:=by rw[←hl];exact him
        obtain⟨⟨key,v0⟩,he⟩:∃el,es[i]?=some el:=⟨_,aB hil⟩
        have hK:=hK.next i key v0 he (by rw[←hbi];exact hen'.2)
        have hq5:bP C st a w1 r pub:=by
         rcases hw1 with rfl|rfl
         ·exact h
         ·exact h.draws
        have hnew:=hq5.objSet (k:=q) (g:=g) (e:=.iter (.hd k) since (seen++[i])) (.mapIter (some mm) since (seen.toArray.push en.born) ms.size) hr (by simp[cH]) hip (fun hfr=>by
         have hglt:g < w1.heap.size:=by
          have:=lt_of_block hib;rcases hw1 with rfl|rfl<;>exact this
         refine .iter (m:=mm) ?_ (.hd hr2 rfl) hip;have:=tR (w:=w1) (.mapIter (some mm) since (seen.toArray.push en.born) ms.size) hglt;rw[this,hms,hbi];simp)
        have hkey:bU pub w dD key en.key:=hks.at_ i _ _ (by rw[aD,he];rfl) (by rw[aD,aY,hi];rfl);have hval:bU pub w dD v0 en.val:=hvs.at_ i _ _ (by rw[aD,he];rfl) (by rw[aD,aY,hi];rfl);have hfr1:oM pub w pub w1:=by rcases hw1 with rfl|rfl;(· exact oM.refl _ _);exact⟨fun _=>aN _,fun _ _ _ _ h=>h,fun _ _ _ h=>h⟩
        have hfr2:=(Fr.objW_ (w:=w1) (b:=g) (.mapIter (some mm) since (seen.toArray.push en.born) ms.size) pub hip).ext;refine cS (v:=.tuple #[.bool true,en.key,en.val]) hdst (w':=hZ w1 g (.mapIter (some mm) since (seen.toArray.push en.born) ms.size)) ?_ hnew (.tup (l:=[.bl true,key,v0]) rfl (fun j u z hu hz=>?_)) hK (hfr1.trans hfr2) (fun n hn=>?_) (fun _=>rfl)
        ·unfold execOp;simp[ho,hv,hty,hrun,Sem.run_bind,hZ,ChangeMaps.setBlock]
        ·have h5:bU pub (hZ w1 g (.mapIter (some mm) since (seen.toArray.push en.born) ms.size)) r key en.key:=((hkey.mono fun _ _ hn=>by cases hn).ext hfr1).ext hfr2;have h6:bU pub (hZ w1 g (.mapIter (some mm) since (seen.toArray.push en.born) ms.size)) r v0 en.val:=((hval.mono fun _ _ hn=>by cases hn).ext hfr1).ext hfr2;rcases j with _|_|_|j
         ·simp at hu hz;subst hu hz;exact .bl _
         ·simp at hu hz;subst hu hz;exact h5
         ·simp at hu hz;subst hu hz;exact h6
         ·simp at hu
        ·have hnq:n≠q:=by
          rintro rfl;rw[List.contains_eq_mem]at hkq;simp at hkq;exact hkq hn
         refine⟨rfl,fun y hy b' hb'=>?_⟩;have hne:b'≠g:=by
          rintro rfl;exact h.mod.disj n q y _ hnq hy hr b' hb' (by simp[cH])
         rw[oY _ hne];rcases hw1 with rfl|rfl<;>rfl
      |_=>exact hK.elim
    |_=>exact hK.elim
   |_=>exact hK.elim
 |_=>exact hK.elim
theorem OS {x:Operand}{x':XA}(ho:o.op=.entry x) (hx:cA x=some x'):eG P o (.ent x'):=by
 intro C st a w r pub keep al K h hK;simp only[dW]at hK;have h1:=h.ev hx;have hrd:(hU.ent x').reads st=(match st.ev x' with|.ptr q _=>(match st.H[q]? with|some (.iter (.ph k) _ _)=>[q,k]|some (.iter (.hd k) _ _)=>[q,k]|_=>[])|_=>[]):=rfl;generalize hcv:st.ev x'=cv at hK h1 hrd;generalize hv:a.eval x=v at h1;cases h1 with
 |@ptr _ q g off hr=>
  cases off with
  |succ _=>exact hK.elim
  |zero=>
  dsimp only at hrd;replace hK:match st.H[q]? with
   |some (.iter (.ph k) since seen)=>match st.H[k]? with
    |some (.pool _ es outs)=>Q4 es outs since seen fun key y=>K (st.put o.dst (.tup [key,y]))
    |_=>False
   |some (.iter (.hd k) since seen)=>match st.H[k]? with
    |some (.map t es)=>Nat.blt 0 t=true∧Wf es since seen fun key y=>K (st.put o.dst (.tup [key,y]))
    |_=>False
   |_=>False:=hK
  cases hq:st.H[q]? with
  |none=>rw[hq]at hK;exact hK.elim
  |some en=>
   rw[hq]at hK hrd;cases en with
   |iter xk since seen=>
    cases xk with
    |ph k=>
     dsimp only at hK hrd;cases hk:st.H[k]? with
     |none=>rw[hk]at hK;exact hK.elim
     |some en2=>
      rw[hk]at hK;cases en2 with
      |pool tt es outs=>
       obtain⟨b,ms,inner,hr2,R⟩:=h.ent_pool hk;obtain⟨a0,ha0,ha1⟩:=dE b inner;have hit:=h.mod.ent q _ hq;rw[hr]at hit;cases hit with
       |@iter _ _ _ _ _ mm hib hix hip=>
       have hmb:mm=b:=by
        cases hix with
        |ph hh hh0 _=>
         rw[hr2,ha0]at hh;cases hh;rw[ha1]at hh0;cases hh0;rfl
       subst hmb;obtain⟨i,key,x0,hsince,hlast,hkey,hout,hK⟩:=hK.out;have hms:ms.size=since:=by rw[hsince,R.hl]
       obtain⟨hio,hiv⟩:=R.hout i x0 hout;have him:i < ms.size:=by rw[R.hl,←R.hn];exact(aA.1 hio).1
       have hi:ms[i]?=some ms[i]:=aK him;have hbi:=R.hborn i _ hi;obtain⟨pre,hpre⟩:∃pre,seen=pre++[i]:=List.getLast?_eq_some_iff.1 hlast;have hnd:(ms.toList.map (·.born)).Nodup:=by
        rw[List.nodup_iff_pairwise_ne,List.pairwise_iff_getElem];intro p q hp hq hpq;simp only[aJ,bB]at hp hq;simp only[List.getElem_map,Array.getElem_toList];rw[R.hborn p _ (aK hp),R.hborn q _ (aK hq)];omega
       obtain⟨el,hel,hke⟩:∃el,es[i]?=some el∧el.1=key:=by
        cases he:es[i]? with
        |none=>rw[he]at hkey;cases hkey
        |some el=>rw[he]at hkey;cases hkey;exact⟨el,rfl,rfl⟩
       have hk0:bU pub w dD key ms[i].key:=by
        rw[←hke];exact R.hk.at_ i _ _ (by rw[aD,hel];rfl) (by rw[aD,aY,hi];rfl)
       refine⟨.tuple #[ms[i].key,ms[i].val],_,.tup (l:=[key,x0]) rfl (fun j u z hu hz=>?_),hK,fun w' hw'=>?_⟩
       ·rcases j with _|_|j
        ·simp at hu hz;subst hu hz;exact hk0.mono fun _ _ hn=>by cases hn
        ·simp at hu hz;subst hu hz;exact hiv _ hi
        ·simp at hu
       ·have hL:=hw' rfl;have hib':w'.heap[g]?=some (.mapIter (some mm) since (pre.toArray.push ms[i].born) ms.size):=by
         have:=(hL.ent q (by rw[hrd];simp) _ hr g (by simp[cH])).trans hib;rw[this,hpre,hbi,hms];simp
        have hb':w'.heap[mm]?=some (.map ms ms.size):=(hL.ent k (by rw[hrd];simp) _ hr2 mm (by rw[dJ];simp)).trans R.hb;have hrun:=run_entry_at (P:=P) w' g mm since pre.toArray ms ms.size ms[i] hib' hb' (by simp) hnd;unfold execOp;simp[ho,hv,hrun,Sem.run_bind]
      |_=>exact hK.elim
    |hd k=>
     dsimp only at hK hrd;cases hk:st.H[k]? with
     |none=>rw[hk]at hK;exact hK.elim
     |some en2=>
      rw[hk]at hK;cases en2 with
      |map tt es=>
       obtain⟨htt,hK⟩:=hK;obtain⟨b,ms,clock,hr2,hb,hl,hks,hvs,hp,hbo⟩:=h.ent_mapB hk;obtain⟨hcl,hborn⟩:=hbo htt;subst hcl;have hit:=h.mod.ent q _ hq;rw[hr]at hit;cases hit with
       |@iter _ _ _ _ _ mm hib hix hip=>
       have hmb:mm=b:=by
        cases hix with
        |hd hh _=>
         rw[hr2]at hh;cases hh;rfl
       subst hmb;obtain⟨i,key,v0,hsince,hlast,hes,hK⟩:=hK.out;have hms:ms.size=since:=by rw[hsince,hl]
       have him:i < ms.size:=by rw[hl];exact(aA.1 hes).1
       have hi:ms[i]?=some ms[i]:=aK him;have hbi:=hborn i _ hi;obtain⟨pre,hpre⟩:∃pre,seen=pre++[i]:=List.getLast?_eq_some_iff.1 hlast;have hnd:(ms.toList.map (·.born)).Nodup:=by
        rw[List.nodup_iff_pairwise_ne,List.pairwise_iff_getElem];intro p q hp hq hpq;simp only[aJ,bB]at hp hq;simp only[List.getElem_map,Array.getElem_toList];rw[hborn p _ (aK hp),hborn q _ (aK hq)];omega
       have hk0:bU pub w dD key ms[i].key:=hks.at_ i _ _ (by rw[aD,hes];rfl) (by rw[aD,aY,hi];rfl);have hv0:bU pub w dD v0 ms[i].val:=hvs.at_ i _ _ (by rw[aD,hes];rfl) (by rw[aD,aY,hi];rfl);refine⟨.tuple #[ms[i].key,ms[i].val],_,.tup (l:=[key,v0]) rfl (fun j u z hu hz=>?_),hK,fun w' hw'=>?_⟩
       ·rcases j with _|_|j
        ·simp at hu hz;subst hu hz;exact hk0.mono fun _ _ hn=>by cases hn
        ·simp at hu hz;subst hu hz;exact hv0.mono fun _ _ hn=>by cases hn
        ·simp at hu
       ·have hL:=hw' rfl;have hib':w'.heap[g]?=some (.mapIter (some mm) since (pre.toArray.push ms[i].born) ms.size):=by
         have:=(hL.ent q (by rw[hrd];simp) _ hr g (by simp[cH])).trans hib;rw[this,hpre,hbi,hms];simp
        have hb':w'.heap[mm]?=some (.map ms ms.size):=(hL.ent k (by rw[hrd];simp) _ hr2 mm (by simp[cH])).trans hb;have hrun:=run_entry_at (P:=P) w' g mm since pre.toArray ms ms.size ms[i] hib' hb' (by simp) hnd;unfold execOp;simp[ho,hv,hrun,Sem.run_bind]
      |_=>exact hK.elim
    |_=>exact hK.elim
   |_=>exact hK.elim
 |_=>exact hK.elim
theorem Wa {t e:TypeId}{x y:Operand}{x' y':XA}{it:TypeInfo}{z:Value}{zs:List AV}(ht:P.underlying t=some (.slice e)) (hi:P.info? e=some it) (hz:it.zero=some z) (hc:iX z.cells.toList=some zs) (hzs:zs.length=it.size) (hz0:it.size≠0)
  (ho:o.op=.makeSlice t x y) (hx:cA x=some x') (hy:cA y=some y'):vB P o (.mks e it.size it.bytes zs x' y'):=by
 intro C st a w r pub keep al K Q hdst hkeep h hK;simp only[dW]at hK;have h1:=h.ev hx;have h2:=h.ev hy;generalize hcv:st.ev x'=cv at hK h1;generalize hcu:st.ev y'=cu at hK h2;generalize hv:a.eval x=v at h1;generalize hu:a.eval y=u at h2;cases h1 with
 |int k1 n=>
  cases h2 with
  |int k2 c=>
   obtain⟨⟨h0,hnc,hcm,hby⟩,hK⟩:=hK;obtain⟨hdd,hK⟩:=hK _ rfl;have hdd:=fH hdd;obtain⟨n,rfl⟩:=Int.eq_ofNat_of_zero_le h0;obtain⟨c,rfl⟩:=Int.eq_ofNat_of_zero_le (show 0≤c by omega);have hz1:=(tE hc).1;have hzl:=(gU (pub:=pub) (w:=w) (r:=dD) hc).len;have hzsz:z.cells.size=it.size:=by simp at hzl;omega
   have hrep:∀x∈List.replicate n (dH it.size zs),x.cells.length=it.size∧x.cells.all AV.one=true:=fun x hx=>by
    obtain⟨_,rfl⟩:=List.mem_replicate.1 hx;rw[fP hzs hz1];exact⟨hzs,hz1⟩
   have hle:n * it.size≤c * it.size:=Nat.mul_le_mul_right _ (by omega);have hbase:bR pub w dD ((List.replicate n (dH it.size zs)).flatMap AV.cells) ((madeCells z.cells (c * it.size)).toList.take (n * it.size)):=by
    have hlen:((List.replicate n (dH it.size zs)).flatMap AV.cells).length=n * it.size:=by rw[eO _ (fun z hz=>(hrep z hz).1),List.length_replicate]
    refine⟨by rw[aS,bB,size_madeCells,hlen,Nat.min_eq_left hle],fun q x u hx hu=>?_⟩;have hq:q < n * it.size:=by rw[←hlen];exact(aA.1 hx).1
    rw[qW n zs _ (fP hzs hz1) q (by rw[hzs];exact hq)]at hx;obtain⟨y,hy,hvy⟩:=(gU (pub:=pub) (w:=w) (r:=dD) hc).get hx;have hm:q % it.size < z.cells.size:=by rw[hzsz];exact Nat.mod_lt _ (by omega)
    rw[List.getElem?_take,aF hq]at hu;simp only[madeCells,Array.toList_map,Array.toList_range,aD]at hu;rw[List.getElem?_range (by omega)]at hu;cases hu;rw[hzs]at hy;rw[hzsz];dsimp only;rw[getElem!_pos z.cells (q % it.size) hm];have:z.cells.toList[q % it.size]?=some z.cells[q % it.size]:=by rw[aY];exact aK hm
    rw[this]at hy;cases hy;exact hvy
   have hcm':c≤maxLen:=by omega
   have hb:=(h.grow_ al).newrow hdd e it.size n c _ (madeCells z.cells (c * it.size)) (List.length_replicate) (by omega) hcm' (size_madeCells _ _) hbase hrep;rw[kO]at hb;have hrun:=run_make (P:=P) w t e it z ht hi hz k1 k2 (n:Int) (c:Int) (by omega) hnc (by omega) (by unfold maxLen at hcm;omega);simp only[Int.toNat_natCast]at hrun;refine cS (v:=.slice (some ⟨w.heap.size,0,none⟩) n c) hdst ?_ hb (.hd (cB _ _ _) rfl) hK (Fr.alloc_ (fun _=>False) pub w _).ext (eH (h.grow_ al) hdd hkeep _ _) (fun _=>rfl);unfold execOp;simp[ho,hv,hu,hrun,Sem.run_bind]
  |_=>exact hK.elim
 |_=>cases h2<;>exact hK.elim
theorem Fb {pub:cY}{w:World}{r:cT}(t:TypeId) (hp:pub w.heap.size=0):eF pub (w.alloc (.map #[] 0)) r (some (cO w.heap.size [])) (.pool t [] []):=
 .pool (ms:=#[]) (heap_alloc_new w _) rfl rfl (fun i m h=>by simp at h) .nil (fun i x h=>by cases h) (fun i e vs m _ h=>by simp at h) (fun i e vs j d _ h=>by simp at h) (by rw[dJ];simp) hp
theorem WC {t:TypeId}(ho:o.op=.makeMap t none):vB P o (.mkp t):=by
 intro C st a w r pub keep al K Q hd hk h hK;simp only[dW]at hK;obtain⟨hdd,hK⟩:=hK;have hdd:=fH hdd;have hb:=(h.grow_ al).alloc hdd (.map #[] 0) (cO w.heap.size []) (.pool t [] []) (by rw[dJ];simp) (Fb t (h.mod.fresh _ (aN _)));rw[kO]at hb;obtain⟨a0,ha0,ha1⟩:=dE w.heap.size [];refine cS (v:=.map (some w.heap.size)) hd ?_ hb (.ph (by rw[cB,ha0]) ha1 rfl) hK (Fr.alloc_ (fun _=>False) pub w _).ext (eH (h.grow_ al) hdd hk _ _) (fun _=>rfl);unfold execOp;simp[ho,Instr.makeMap]
theorem WH {t:TypeId}{x:Operand}{x':XA}{kt e:TypeId}(hd:P.underlying t=some (.map kt e)) (ho:o.op=.makeMap t (some x)) (hx:cA x=some x'):vB P o (.mkq t x'):=by
 intro C st a w r pub keep al K Q hdst hk h hK;simp only[dW]at hK;have h1:=h.ev hx;generalize hcv:st.ev x'=cv at hK h1;generalize hv:a.eval x=v at h1;cases h1 with
 |int k n=>
  obtain⟨hdd,hK⟩:=hK;have hdd:=fH hdd;have hb:=(h.grow_ al).alloc hdd (.map #[] 0) (cO w.heap.size []) (.pool t [] []) (by rw[dJ];simp) (Fb t (h.mod.fresh _ (aN _)));rw[kO]at hb;obtain⟨a0,ha0,ha1⟩:=dE w.heap.size [];refine cS (v:=.map (some w.heap.size)) hdst ?_ hb (.ph (by rw[cB,ha0]) ha1 rfl) hK (Fr.alloc_ (fun _=>False) pub w _).ext (eH (h.grow_ al) hdd hk _ _) (fun _=>rfl);unfold execOp;simp[ho,hv,Instr.makeMap,Sem.run_bind,run_underlying hd,asInt,asIntOf]
 |_=>exact hK.elim
theorem WY {t:TypeId}{x:Operand}{x':XA}{kt e:TypeId}(hd:P.underlying t=some (.map kt e)) (ho:o.op=.makeMap t (some x)) (hx:cA x=some x'):vB P o (.mkr t x'):=by
 intro C st a w r pub keep al K Q hdst hk h hK;simp only[dW]at hK;have h1:=h.ev hx;generalize hcv:st.ev x'=cv at hK h1;generalize hv:a.eval x=v at h1;cases h1 with
 |int k n=>
  obtain⟨hdd,hK⟩:=hK;have hdd:=fH hdd;have hb:=(h.grow_ al).newmap hdd t;rw[kO]at hb;refine cS (v:=.map (some w.heap.size)) hdst ?_ hb (.hd (cB _ _ _) rfl) hK (Fr.alloc_ (fun _=>False) pub w _).ext (eH (h.grow_ al) hdd hk _ _) (fun _=>rfl);unfold execOp;simp[ho,hv,Instr.makeMap,Sem.run_bind,run_underlying hd,asInt,asIntOf]
 |_=>exact hK.elim
end
end Go.Proofs.YtigdiekbiphhmaaGreatDoor
namespace Go.Proofs.YtigdiekbiphhmaaGreatDoor
open Go.RowKit
def hU.isPure:hU→Bool
 |.box ..=>false
 |.alloc ..=>false
 |.bsl ..=>false
 |.bsp ..=>false
 |.st ..=>false
 |.app ..=>false
 |.call ..=>false
 |.cav ..=>false
 |.mkm ..=>false
 |.upd ..=>false
 |.del ..=>false
 |.plk ..=>false
 |.pup ..=>false
 |.rng ..=>false
 |.nxt ..=>false
 |.mks ..=>false
 |.mkr ..=>false
 |.mkp ..=>false
 |.bad=>false
 |.slt ..=>false
 |.mkq ..=>false
 |_=>true
def RU:Option Operand→Option (Option XA)
 |none=>some none
 |some x=>(cA x).map some
theorem Ji {x:Option Operand}{y:Option XA}(h:RU x=some y):y=x.bind cA∧y.isSome=x.isSome:=by
 cases x with
 |none=>cases h;exact⟨rfl,rfl⟩
 |some x=>
  simp only[RU,Option.map_eq_some_iff]at h;obtain⟨z,hz,rfl⟩:=h;exact⟨by simp[hz],rfl⟩
def zM:Operand→Bool
 |.const .nilFunc=>true
 |_=>false
theorem As {x:Operand}(h:zM x=true):x=.const .nilFunc:=by
 unfold zM at h
 split at h
 ·rfl
 ·cases h
def uH:Operand→Bool
 |.const (.pointer none)=>true
 |_=>false
theorem xN {x:Operand}(h:uH x=true):x=.const (.pointer none):=by
 unfold uH at h
 split at h
 ·rfl
 ·cases h
def zJ:Operand→Bool
 |.const (.slice none 0 0)=>true
 |_=>false
theorem AG {x:Operand}(h:zJ x=true):x=.const (.slice none 0 0):=by
 unfold zJ at h
 split at h
 ·rfl
 ·cases h
def uG:Operand→Bool
 |.const (.map none)=>true
 |_=>false
theorem xI {x:Operand}(h:uG x=true):x=.const (.map none):=by
 unfold uG at h
 split at h
 ·rfl
 ·cases h
def GR:Value→Option AV
 |.agg cs=>(iX cs.toList).map .agg
 |v=>oS v
theorem Cq {z:Value}{x:AV}(h:GR z=some x) (pub:cY) (w:World) (r:cT):bU pub w r x z:=by
 unfold GR at h
 split at h
 ·rename_i cs;simp only[Option.map_eq_some_iff]at h;obtain⟨l,hl,rfl⟩:=h;have:=gU (pub:=pub) (w:=w) (r:=r) hl;exact .agg (by simpa using this.len) fun i x u hx hu=>this.at_ i x u hx (by simpa using hu)
 ·exact sP h
def Ow (P:bI) (e:TypeId):Bool:=
 match P.underlying e with
 |some (.pointer _)=>true
 |some (.slice _)=>true
 |_=>false
def Nd (P:bI) (t:TypeId):Bool:=match P.underlying t with
 |some (.map _ e)=>Ow P e
 |_=>false
def Wk (P:bI) (t:TypeId) (x y:Operand) (ok:Bool):Option hU:=
 match P.underlying t with
 |some (.map kt e)=>match P.underlying kt with
  |some d=>match AP d with
   |some ky=>match P.info? e with
    |some it=>match it.zero with
     |some z=>match GR z,cA x,cA y with
      |some za,some x',some y'=>if Ow P e=true then some (.plk ky ok za x' y') else some (.lkp ky ok za x' y')
      |_,_,_=>none
     |none=>none
    |none=>none
   |none=>none
  |none=>none
 |_=>none
def Ry (P:bI) (t:TypeId) (x y z:Operand):Option hU:=
 match P.underlying t with
 |some (.map kt e)=>match P.underlying kt with
  |some d=>match AP d with
   |some ky=>match cA x,cA y,cA z with
    |some x',some y',some z'=>if Ow P e=true then some (.pup ky x' y' z') else some (.upd ky x' y' z')
    |_,_,_=>none
   |none=>none
  |none=>none
 |_=>none
def VP (P:bI) (t:TypeId) (x y:Operand):Option hU:=
 match P.underlying t with
 |some (.map kt _)=>match P.underlying kt with
  |some d=>match AP d with
   |some ky=>match cA x,cA y with
    |some x',some y'=>some (.del ky x' y')
    |_,_=>none
   |none=>none
  |none=>none
 |_=>none
def T8 (P:bI) (op:BinOp) (t:TypeId) (x y:Operand):Option hU:=
 match cA x with
 |none=>none
 |some x'=>match cA y with
  |none=>none
  |some y'=>match op with
   |.eql=>match P.underlying t with
    |some (.pointer _)=>if uH y then some (.cmn false x') else none
    |some (.func _ _ _)=>if zM y then some (.cmf false x') else none
    |some (.slice _)=>if zJ y then some (.nils false x') else none
    |some (.map _ _)=>if uG y then some (.nilm false x') else none
    |some .bool=>some (.cmb .eql x' y')
    |some (.int _)=>some (.cmp .eql x' y')
    |some .string=>some (.cmp .eql x' y')
    |some (.struct fs)=>if P.stoodInHeld t=false∧P.eqGuardType P.depth t=false then (xC P fs.toList 0).map fun ks=>.cms false ks x' y' else none
    |_=>none
   |.neq=>match P.underlying t with
    |some (.pointer _)=>if uH y then some (.cmn true x') else none
    |some (.func _ _ _)=>if zM y then some (.cmf true x') else none
    |some (.slice _)=>if zJ y then some (.nils true x') else none
    |some (.map _ _)=>if uG y then some (.nilm true x') else none
    |some .bool=>some (.cmb .neq x' y')
    |some (.int _)=>some (.cmp .neq x' y')
    |some .string=>some (.cmp .neq x' y')
    |some (.struct fs)=>if P.stoodInHeld t=false∧P.eqGuardType P.depth t=false then (xC P fs.toList 0).map fun ks=>.cms true ks x' y' else none
    |_=>none
   |.lss=>some (.cmp .lss x' y')
   |.leq=>some (.cmp .leq x' y')
   |.gtr=>some (.cmp .gtr x' y')
   |.geq=>some (.cmp .geq x' y')
   |.shl=>match P.underlying t with
    |some (.int k)=>some (.shf .shl k x' y')
    |_=>none
   |.shr=>match P.underlying t with
    |some (.int k)=>some (.shf .shr k x' y')
    |_=>none
   |op=>match P.underlying t with
    |some (.int k)=>some (.ari op k x' y')
    |some .string=>some (.ari op .i64 x' y')
    |_=>none
def Mv (P:bI) (s t:TypeId) (x:Operand):Option hU:=
 match P.underlying s with
 |none=>none
 |some _=>match P.underlying t with
  |some (.int k)=>(cA x).map (.cvi k)
  |some .string=>match P.underlying s with
   |some (.slice e)=>match P.underlying e with
    |some (.int .u8)=>(cA x).map .b2s
    |_=>none
   |_=>(cA x).map .cvs
  |_=>none
def TO (P:bI) (s:TypeId) (x:Operand) (f:Nat):Option hU:=
 match P.underlying s with
 |some (.struct fields)=>match fields[f]? with
  |some fd=>match P.info? fd.type with
   |some i=>if i.size=0 then none else (cA x).map (.fad fd.offset)
   |none=>none
  |none=>none
 |_=>none
def Uv (P:bI) (s:TypeId) (x:Operand) (f:Nat):Option hU:=
 match P.underlying s with
 |some (.struct fields)=>match fields[f]? with
  |some fd=>match P.info? fd.type with
   |some i=>match mR P fd.type with
    |some ag=>(cA x).map (.fld ag fd.offset i.size)
    |none=>none
   |none=>none
  |none=>none
 |_=>none
def S7 (P:bI) (t:TypeId) (x y:Operand):Option hU:=
 match P.underlying t with
 |some (.array n e)=>match P.info? e with
  |some i=>match cA x,cA y with
   |some x',some y'=>some (.aia i.size n x' y')
   |_,_=>none
  |none=>none
 |some (.slice e)=>match P.info? e with
  |some i=>if i.size=0 then none else match cA x,cA y with
   |some x',some y'=>some (.iad i.size x' y')
   |_,_=>none
  |none=>none
 |_=>none
def Tg (P:bI) (t:TypeId) (x:Operand) (lo hi:Option Operand):Option hU:=
 match cA x,RU lo,RU hi with
 |some x',some lo',some hi'=>match P.underlying t with
  |some .string=>some (.sls x' lo' hi')
  |some (.slice e)=>match P.info? e with
   |some i=>if i.size=0 then none else some (.sli i.size x' lo' hi')
   |none=>none
  |_=>none
 |_,_,_=>none
def Yo (P:bI) (t:TypeId) (x:Operand):Option hU:=
 match P.info? t,mR P t,cA x with
 |some i,some ag,some x'=>if ag=false∧i.size≠1 then none else some (.ld ag i.size x')
 |_,_,_=>none
def UM (P:bI) (t:TypeId) (parts:Array (Nat×Operand)):Option hU:=
 match P.info? t with
 |none=>none
 |some it=>match it.zero with
  |none=>none
  |some z=>match zB P t with
   |none=>none
   |some place=>match iX z.cells.toList,AJ place parts.toList with
    |some zs,some ps=>some (.bld zs ps)
    |_,_=>none
def S6 (P:bI) (t n:Nat) (parts:Array (Nat×Operand)):Option hU:=
 match P.underlying t with
 |some (.slice e)=>match P.info? e with
  |none=>none
  |some it=>match it.zero with
   |none=>none
   |some z=>match iX z.cells.toList,rX parts.toList with
    |some zs,some ps=>if zs.length=it.size∧it.size≠0∧n * it.size≤16777216 then some (.bsl e it.size n zs ps) else none
    |_,_=>none
 |_=>none
def Uu (P:bI) (ty t:Nat) (x y:Operand):Option hU:=
 match P.underlying t with
 |some (.slice e)=>match P.info? e with
  |none=>none
  |some it=>match it.zero with
   |none=>none
   |some z=>match cA x,cA y with
    |some x',some y'=>if z.cells.size=it.size∧it.size≠0 then some (.app t ty e it.size it.bytes x' y') else none
    |_,_=>none
 |_=>none
def Wn (P:bI) (t:Nat) (x:Operand):Option hU:=
 match P.underlying t with
 |some .string=>(cA x).map .lens
 |some (.slice _)=>(cA x).map .lenl
 |some (.map _ _)=>(cA x).map .lenm
 |_=>none
def OZ (P:bI) (ty:TypeId) (c:Call):Option hU:=
 match c.callee with
 |.builtin .len=>match c.args.toList,c.argTypes.toList with
  |[x],[t]=>Wn P t x
  |_,_=>none
 |.builtin .append=>match c.args.toList,c.argTypes.toList with
  |[x,y],[t,t']=>if t=t' then Uu P ty t x y else none
  |_,_=>none
 |.builtin .min=>match c.args.toList with
  |[x,y]=>match cA x,cA y with
   |some x',some y'=>some (.mnx false x' y')
   |_,_=>none
  |_=>none
 |.builtin .max=>match c.args.toList with
  |[x,y]=>match cA x,cA y with
   |some x',some y'=>some (.mnx true x' y')
   |_,_=>none
  |_=>none
 |.builtin .delete=>match c.args.toList,c.argTypes.toList with
  |[x,y],[t,_]=>VP P t x y
  |_,_=>none
 |.value (.func f)=>if qH P f=true then (NL c.args.toList).map (.call f) else none
 |.value x=>match cA x,NL c.args.toList with
  |some x',some l=>some (.cav x' l)
  |_,_=>none
 |_=>none
def To (P:bI) (o:Oper):Option hU:=
 match o.op with
 |.move x=>(cA x).map .mov
 |.assign x=>(cA x).map .mov
 |.pick c a b=>match cA c,cA a,cA b with
  |some c',some a',some b'=>some (.pick c' a' b')
  |_,_,_=>none
 |.alloc t=>match P.info? t with
  |some it=>match it.zero with
   |some z=>(iX z.cells.toList).map (.alloc t)
   |none=>none
  |none=>none
 |.box t x=>(cA x).map (.box t)
 |.build t parts=>UM P t parts
 |.buildSlice t n parts=>S6 P t n parts
 |.load t x=>Yo P t x
 |.store t x y=>match P.info? t,cA x,cA y with
  |some i,some x',some y'=>some (.st i.size x' y')
  |_,_,_=>none
 |.nilCheck x=>(cA x).map .nck
 |.binOp op t x y _=>T8 P op t x y
 |.unOp .not _ x=>(cA x).map .not
 |.unOp .neg t x=>match P.underlying t with
  |some (.int k)=>(cA x).map (.neg k)
  |_=>none
 |.convert s t x=>Mv P s t x
 |.fieldAddr s x f=>TO P s x f
 |.field s x f=>Uv P s x f
 |.indexAddr t x y=>S7 P t x y
 |.index t x y=>match P.underlying t with
  |some (.array n e)=>match P.info? e,mR P e,cA x,cA y with
   |some i,some ag,some x',some y'=>if ag=false∧i.size≠1 then none else some (.aix ag i.size n x' y')
   |_,_,_,_=>none
  |some .string=>match cA x,cA y with
   |some x',some y'=>some (.idx x' y')
   |_,_=>none
  |_=>none
 |.slice t x lo hi none=>Tg P t x lo hi
 |.extract x i=>(cA x).map fun x'=>.ext x' i
 |.makeFunc (.func f) first caps=>if first.size=0 then (NL caps.toList).map (.mkf f) else none
 |.makeMap t none=>if Nd P t=true then some (.mkp t) else some (.mkm t)
 |.makeMap t (some x)=>match P.underlying t with
  |some (.map _ _)=>if Nd P t=true then (cA x).map (.mkq t) else (cA x).map (.mkr t)
  |_=>none
 |.makeSlice t x y=>match P.underlying t with
  |some (.slice e)=>match P.info? e with
   |none=>none
   |some it=>match it.zero with
    |none=>none
    |some z=>match iX z.cells.toList,cA x,cA y with
     |some zs,some x',some y'=>if zs.length=it.size∧it.size≠0 then some (.mks e it.size it.bytes zs x' y') else none
     |_,_,_=>none
  |_=>none
 |.range t x=>match P.underlying t with
  |some (.map _ _)=>(cA x).map .rng
  |_=>none
 |.next x false=>(cA x).map .nxt
 |.entry x=>(cA x).map .ent
 |.lookup t x y ok=>Wk P t x y ok
 |.mapUpdate t x y z=>Ry P t x y z
 |.insert t x y z=>Ry P t x y z
 |.call c=>OZ P o.type c
 |_=>none
def qV (P:bI) (o:Oper) (x:hU):Prop:=(x.isPure=true→eG P o x)∧vB P o x
section
variable {P:bI}{o:Oper}{x:hU}
theorem cC (h:eG P o x):qV P o x:=⟨fun _=>h,Ei h⟩
theorem fN (h:vB P o x) (hp:x.isPure=false):qV P o x:=⟨fun h'=>(by rw[hp]at h';cases h'),h⟩
theorem I2 {t:TypeId}{a b c:Operand}(ho:o.op=.insert t a b c) (h:vB P { o with op:=.mapUpdate t a b c } x):vB P o x:=by
 intro C st act w r pub keep al K Q hd hk hh hK;have h1:=h C st act w r pub keep al K Q hd hk hh hK;obtain⟨dst,ty,op,g,ar,ps⟩:=o;dsimp only at ho;subst ho;exact h1
theorem map_some {α β:Type}{f:α→β}{a:Option α}{b:β}(h:a.map f=some b):∃y,a=some y∧f y=b:=by
 cases a with
 |none=>cases h
 |some y=>cases h;exact⟨y,rfl,rfl⟩
theorem Ru {op:BinOp}{t t':TypeId}{a b:Operand}(ho:o.op=.binOp op t a b t') (h:T8 P op t a b=some x):qV P o x:=by
 unfold T8 at h
 split at h
 ·cases h
 ·rename_i x' hx
  split at h
  ·cases h
  ·rename_i y' hy
   split at h
   ·split at h
    ·rename_i e hd
     split at h
     ·cases h;exact cC (Fp false rfl hd ho hx (xN (by assumption)))
     ·cases h
    ·rename_i hd
     split at h
     ·cases h;exact cC (Gk false rfl hd ho hx (As (by assumption)))
     ·cases h
    ·rename_i e hd
     split at h
     ·cases h;exact cC (Cf false rfl hd ho hx (AG (by assumption)))
     ·cases h
    ·rename_i k0 e hd
     split at h
     ·cases h;exact cC (B2 false rfl hd ho hx (xI (by assumption)))
     ·cases h
    ·rename_i hd;cases h;exact cC (Gg hd ho hx hy)
    ·cases h;exact cC (kW ho hx hy)
    ·cases h;exact cC (kW ho hx hy)
    ·rename_i fs hd
     split at h
     ·rename_i hh;obtain⟨ks,hks,rfl⟩:=map_some h;exact cC (Fu false rfl hd hh.1 hh.2 hks ho hx hy)
     ·cases h
    ·cases h
   ·split at h
    ·rename_i e hd
     split at h
     ·cases h;exact cC (Fp true rfl hd ho hx (xN (by assumption)))
     ·cases h
    ·rename_i hd
     split at h
     ·cases h;exact cC (Gk true rfl hd ho hx (As (by assumption)))
     ·cases h
    ·rename_i e hd
     split at h
     ·cases h;exact cC (Cf true rfl hd ho hx (AG (by assumption)))
     ·cases h
    ·rename_i k0 e hd
     split at h
     ·cases h;exact cC (B2 true rfl hd ho hx (xI (by assumption)))
     ·cases h
    ·rename_i hd;cases h;exact cC (Gg hd ho hx hy)
    ·cases h;exact cC (kW ho hx hy)
    ·cases h;exact cC (kW ho hx hy)
    ·rename_i fs hd
     split at h
     ·rename_i hh;obtain⟨ks,hks,rfl⟩:=map_some h;exact cC (Fu true rfl hd hh.1 hh.2 hks ho hx hy)
     ·cases h
    ·cases h
   ·cases h;exact cC (kW ho hx hy)
   ·cases h;exact cC (kW ho hx hy)
   ·cases h;exact cC (kW ho hx hy)
   ·cases h;exact cC (kW ho hx hy)
   ·split at h
    ·cases h;exact cC (Gd (.inl rfl) ho hx hy)
    ·cases h
   ·split at h
    ·cases h;exact cC (Gd (.inr rfl) ho hx hy)
    ·cases h
   ·split at h
    ·cases h;exact cC (E5 ho hx hy)
    ·cases h;exact cC (E5 ho hx hy)
    ·cases h
theorem NF {s t:TypeId}{a:Operand}(ho:o.op=.convert s t a) (h:Mv P s t a=some x):qV P o x:=by
 unfold Mv at h
 split at h
 ·cases h
 ·rename_i d hd
  split at h
  ·rename_i k ht;obtain⟨y,hy,rfl⟩:=map_some h;exact cC (MR hd ht ho hy)
  ·rename_i ht
   split at h
   ·rename_i e hs
    split at h
    ·rename_i he;obtain⟨y,hy,rfl⟩:=map_some h;exact cC (Nr hs he ht ho hy)
    ·cases h
   ·obtain⟨y,hy,rfl⟩:=map_some h;exact cC (Oh hd ht ho hy)
  ·cases h
theorem Ql {s:TypeId}{a:Operand}{f:Nat}(ho:o.op=.fieldAddr s a f) (h:TO P s a f=some x):qV P o x:=by
 unfold TO at h
 split at h
 ·rename_i fields hd
  split at h
  ·rename_i fd hf
   split at h
   ·rename_i i hi
    split at h
    ·cases h
    ·rename_i h0;obtain⟨y,hy,rfl⟩:=map_some h;exact cC (Mw hd hf hi h0 ho hy)
   ·cases h
  ·cases h
 ·cases h
theorem Qd {s:TypeId}{a:Operand}{f:Nat}(ho:o.op=.field s a f) (h:Uv P s a f=some x):qV P o x:=by
 unfold Uv at h
 split at h
 ·rename_i fields hd
  split at h
  ·rename_i fd hf
   split at h
   ·rename_i i hi
    split at h
    ·rename_i ag ha;obtain⟨y,hy,rfl⟩:=map_some h;exact cC (Pa hd hf hi ha ho hy)
    ·cases h
   ·cases h
  ·cases h
 ·cases h
theorem Rl {t:TypeId}{a b:Operand}(ho:o.op=.indexAddr t a b) (h:S7 P t a b=some x):qV P o x:=by
 unfold S7 at h
 split at h
 ·rename_i n e hd
  split at h
  ·rename_i i hi
   split at h
   ·rename_i x' y' hx hy;cases h;exact cC (Oq hd hi ho hx hy)
   ·cases h
  ·cases h
 ·rename_i e hd
  split at h
  ·rename_i i hi
   split at h
   ·cases h
   ·rename_i h0
    split at h
    ·rename_i x' y' hx hy;cases h;exact cC (OD hd hi h0 ho hx hy)
    ·cases h
  ·cases h
 ·cases h
theorem QZ {t:TypeId}{a:Operand}{lo hi:Option Operand}(ho:o.op=.slice t a lo hi none) (h:Tg P t a lo hi=some x):qV P o x:=by
 unfold Tg at h
 split at h
 ·rename_i x' lo' hi' hx hl hh;obtain⟨l1,l2⟩:=Ji hl;obtain⟨h1,h2⟩:=Ji hh
  split at h
  ·rename_i hd;cases h;exact cC (Mt hd ho hx l1 l2 h1 h2)
  ·rename_i e hd
   split at h
   ·rename_i i hi
    split at h
    ·cases h
    ·rename_i h0;cases h;exact cC (F9 hd hi h0 ho hx l1 l2 h1 h2)
   ·cases h
  ·cases h
 ·cases h
theorem Tw {t:TypeId}{a:Operand}(ho:o.op=.load t a) (h:Yo P t a=some x):qV P o x:=by
 unfold Yo at h
 split at h
 ·rename_i i ag x' hi ha hx
  split at h
  ·cases h
  ·rename_i h0;cases h;exact cC (QG hi ha (fun hag=>by
    rcases Nat.decEq i.size 1 with h1|h1
    ·exact absurd ⟨hag,h1⟩ h0
    ·exact h1) ho hx)
 ·cases h
theorem QC {t:TypeId}{parts:Array (Nat×Operand)}(ho:o.op=.build t parts) (h:UM P t parts=some x):qV P o x:=by
 unfold UM at h
 split at h
 ·cases h
 ·rename_i it hi
  split at h
  ·cases h
  ·rename_i z hz
   split at h
   ·cases h
   ·rename_i place hp
    split at h
    ·rename_i zs ps hc hps;cases h;exact cC (NO hi hz hp hc hps ho)
    ·cases h
theorem Qg {t n:Nat}{parts:Array (Nat×Operand)}(ho:o.op=.buildSlice t n parts) (h:S6 P t n parts=some x):qV P o x:=by
 unfold S6 at h
 split at h
 ·rename_i e ht
  split at h
  ·cases h
  ·rename_i it hi
   split at h
   ·cases h
   ·rename_i z hz
    split at h
    ·rename_i zs ps hc hps
     split at h
     ·rename_i hh;cases h;exact fN (Wm ht hi hz hc hh.1 hh.2.1 (by have:=hh.2.2;omega) hps ho) rfl
     ·cases h
    ·cases h
 ·cases h
theorem Qv {t:Nat}{a b:Operand}(ho:o.op=.call ⟨.builtin .append,#[a,b],#[t,t]⟩) (h:Uu P o.type t a b=some x):qV P o x:=by
 unfold Uu at h
 split at h
 ·rename_i e ht
  split at h
  ·cases h
  ·rename_i it hi
   split at h
   ·cases h
   ·rename_i z hz
    split at h
    ·rename_i x' y' hx hy
     split at h
     ·rename_i hh;cases h;exact fN (Wi ht hi hz hh.1 hh.2 ho hx hy) rfl
     ·cases h
    ·cases h
 ·cases h
theorem rF {α:Type}{a:Array α}{l:List α}(h:a.toList=l):a=l.toArray:=by subst h;simp
theorem OT {c:Call}(ho:o.op=.call c) (h:OZ P o.type c=some x):qV P o x:=by
 obtain⟨callee,args,ats⟩:=c;unfold OZ at h;dsimp only at h
 split at h
 ·split at h
  ·rename_i a t ha ht;have ha:=rF ha;have ht:=rF ht;subst ha ht;unfold Wn at h
   split at h
   ·rename_i hd;obtain⟨y,hy,rfl⟩:=map_some h;exact cC (Kx hd ho hy)
   ·rename_i e hd;obtain⟨y,hy,rfl⟩:=map_some h;exact cC (KP hd ho hy)
   ·rename_i k e hd;obtain⟨y,hy,rfl⟩:=map_some h;exact cC (KG hd ho hy)
   ·cases h
  ·cases h
 ·split at h
  ·rename_i a b t t' ha ht;have ha:=rF ha;have ht:=rF ht;subst ha ht
   split at h
   ·rename_i htt;subst htt;exact Qv ho h
   ·cases h
  ·cases h
 ·split at h
  ·rename_i a b ha;have ha:=rF ha;subst ha
   split at h
   ·rename_i x' y' hx hy;cases h;exact cC (FC false ho hx hy)
   ·cases h
  ·cases h
 ·split at h
  ·rename_i a b ha;have ha:=rF ha;subst ha
   split at h
   ·rename_i x' y' hx hy;cases h;exact cC (FC true ho hx hy)
   ·cases h
  ·cases h
 ·split at h
  ·rename_i a b t t2 ha ht;have ha:=rF ha;have ht:=rF ht;subst ha ht;unfold VP at h
   split at h
   ·rename_i kt e hd
    split at h
    ·rename_i d hkt
     split at h
     ·rename_i ky hky
      split at h
      ·rename_i x' y' hx hy;cases h;exact fN (We hd hkt hky ho hx hy) rfl
      ·cases h
     ·cases h
    ·cases h
   ·cases h
  ·cases h
 ·rename_i f
  split at h
  ·rename_i hc;obtain⟨y,hy,rfl⟩:=map_some h;exact fN (Tn hc ho hy) rfl
  ·cases h
 ·split at h
  ·rename_i x' l hx hl;cases h;exact fN (WU ho hx hl) rfl
  ·cases h
 ·cases h
theorem Tt (h:To P o=some x):qV P o x:=by
 unfold To at h
 split at h
 ·rename_i a ho;obtain⟨y,hy,rfl⟩:=map_some h;exact cC (Ed (.inl ho) hy)
 ·rename_i a ho;obtain⟨y,hy,rfl⟩:=map_some h;exact cC (Ed (.inr ho) hy)
 ·rename_i c a b ho
  split at h
  ·rename_i c' a' b' h1 h2 h3;cases h;exact cC (Lb ho h1 h2 h3)
  ·cases h
 ·rename_i t ho
  split at h
  ·rename_i it hi
   split at h
   ·rename_i z hz;obtain⟨y,hy,rfl⟩:=map_some h;exact fN (QS hi hz hy ho) rfl
   ·cases h
  ·cases h
 ·rename_i t a ho;obtain⟨y,hy,rfl⟩:=map_some h;exact fN (W3 ho hy) rfl
 ·rename_i t parts ho;exact QC ho h
 ·rename_i t n parts ho;exact Qg ho h
 ·rename_i t a ho;exact Tw ho h
 ·rename_i t a b ho
  split at h
  ·rename_i i x' y' hi hx hy;cases h;exact fN (Xv hi ho hx hy) rfl
  ·cases h
 ·rename_i a ho;obtain⟨y,hy,rfl⟩:=map_some h;exact cC (NC ho hy)
 ·rename_i op t a b t' ho;exact Ru ho h
 ·rename_i t a ho;obtain⟨y,hy,rfl⟩:=map_some h;exact cC (NG ho hy)
 ·rename_i t a ho
  split at h
  ·rename_i k hd;obtain⟨y,hy,rfl⟩:=map_some h;exact cC (MB ho hy)
  ·cases h
 ·rename_i s t a ho;exact NF ho h
 ·rename_i s a f ho;exact Ql ho h
 ·rename_i s a f ho;exact Qd ho h
 ·rename_i t a b ho;exact Rl ho h
 ·rename_i t a b ho
  split at h
  ·rename_i n e hd
   split at h
   ·rename_i i ag x' y' hi ha hx hy
    split at h
    ·cases h
    ·rename_i h0;cases h;exact cC (O8 hd hi ha (fun hag=>by
      rcases Nat.decEq i.size 1 with h1|h1
      ·exact absurd ⟨hag,h1⟩ h0
      ·exact h1) ho hx hy)
   ·cases h
  ·rename_i hd
   split at h
   ·rename_i x' y' hx hy;cases h;exact cC (OV hd ho hx hy)
   ·cases h
  ·cases h
 ·rename_i t a lo hi ho;exact QZ ho h
 ·rename_i a i ho;obtain⟨y,hy,rfl⟩:=map_some h;exact cC (NJ ho hy)
 ·rename_i f first caps ho
  split at h
  ·rename_i h0;obtain⟨y,hy,rfl⟩:=map_some h;have:first=#[]:=by simpa using h0
   subst this;exact cC (MG ho hy)
  ·cases h
 ·rename_i t ho
  split at h
  ·cases h;exact fN (WC ho) rfl
  ·cases h;exact fN (Wo ho) rfl
 ·rename_i t a ho
  split at h
  ·rename_i hd
   split at h
   ·obtain⟨y,hy,rfl⟩:=map_some h;exact fN (WH hd ho hy) rfl
   ·obtain⟨y,hy,rfl⟩:=map_some h;exact fN (WY hd ho hy) rfl
  ·cases h
 ·rename_i t a b ho
  split at h
  ·rename_i e hd
   split at h
   ·cases h
   ·rename_i it hi
    split at h
    ·cases h
    ·rename_i z hz
     split at h
     ·rename_i zs x' y' hc hx hy
      split at h
      ·rename_i hh;cases h;exact fN (Wa hd hi hz hc hh.1 hh.2 ho hx hy) rfl
      ·cases h
     ·cases h
  ·cases h
 ·rename_i t a ho
  split at h
  ·rename_i hd;obtain⟨y,hy,rfl⟩:=map_some h;exact fN (Vf hd ho hy) rfl
  ·cases h
 ·rename_i a ho;obtain⟨y,hy,rfl⟩:=map_some h;exact fN (Vs rfl ho hy) rfl
 ·rename_i a ho;obtain⟨y,hy,rfl⟩:=map_some h;exact cC (OS ho hy)
 ·rename_i t a b ok ho;unfold Wk at h
  split at h
  ·rename_i kt e hd
   split at h
   ·rename_i d hkt
    split at h
    ·rename_i ky hky
     split at h
     ·rename_i it hi
      split at h
      ·rename_i z hz
       split at h
       ·rename_i za x' y' hza hx hy
        split at h
        ·cases h;exact fN (WT ok hd hkt hky hi hz (fun pub w r=>Cq hza pub w r) ho hx hy) rfl
        ·cases h;exact cC (Pw ok hd hkt hky hi hz (fun pub w r=>Cq hza pub w r) ho hx hy)
       ·cases h
      ·cases h
     ·cases h
    ·cases h
   ·cases h
  ·cases h
 ·rename_i t a b c ho;unfold Ry at h
  split at h
  ·rename_i kt e hd
   split at h
   ·rename_i d hkt
    split at h
    ·rename_i ky hky
     split at h
     ·rename_i x' y' z' hx hy hz
      split at h
      ·cases h;exact fN (Se hd hkt hky ho hx hy hz) rfl
      ·cases h;exact fN (R4 hd hkt hky ho hx hy hz) rfl
     ·cases h
    ·cases h
   ·cases h
  ·cases h
 ·rename_i t a b c ho;unfold Ry at h
  split at h
  ·rename_i kt e hd
   split at h
   ·rename_i d hkt
    split at h
    ·rename_i ky hky
     split at h
     ·rename_i x' y' z' hx hy hz
      split at h
      ·cases h;exact fN (I2 ho (Se hd hkt hky rfl hx hy hz)) rfl
      ·cases h;exact fN (I2 ho (R4 hd hkt hky rfl hx hy hz)) rfl
     ·cases h
    ·cases h
   ·cases h
  ·cases h
 ·rename_i c ho;exact OT ho h
 ·cases h
end
structure Sp where
 take:Bool
 o:Oper
 guard:Option (Nat×Bool)
section
variable {P:bI}{Q:Exit→Act→World→Prop}{S:World→Prop}{ops:Array Oper}
variable {s:Sp}{r:List Sp}{a:Act}{w:World}
end
section
variable {P:bI}{Q:Exit→Act→World→Prop}{S:World→Prop}{ops:Array Oper}{md:Region.Mode}{need:Nat→Bool}
def gY (P:bI) (md:Region.Mode) (ops:Array Oper) (Q:Exit→Act→World→Prop) (S:World→Prop) (need:Nat→Bool):Nat→Array Bool→Act→World→Prop
 |0,listed,a,w=>Region.ready md ops listed=[]∧Q .normal a w
 |fuel+1,listed,a,w=>
  (Region.ready md ops listed=[]→Q .normal a w)∧
  ∀i∈Region.ready md ops listed,wpOp P ops Q i (fun a' w'=>(need i=true→S w→S w')∧gY P md ops Q S need fuel (listed.setIfInBounds i true) a' w') a w
theorem AY:∀(fuel:Nat) (listed:Array Bool) (a:Act) (w:World),gY P md ops Q S need fuel listed a w→wpAny P md ops Q fuel listed a w
 |0,_,_,_,h=>h
 |fuel+1,_,_,_,h=>⟨h.1,fun i hi=>wpOp_mono (fun a' w' h'=>AY fuel _ a' w' h'.2) (h.2 i hi)⟩
def pO (md:Region.Mode) (ops:Array Oper) (listed:Array Bool):Prop:=∀k o,ops[k]?=some o→listed.getD k false=true→∀e∈o.after,Region.binds md e=true→listed.getD e.on false=true
theorem Dt (n:Nat):pO md ops (Array.replicate n false):=fun k o _ h=>by
 exfalso;by_cases hk:k < n
 ·simp[hk]at h
 ·simp[hk]at h
theorem pH {listed:Array Bool}{j:Nat}(h:pO md ops listed) (hj:j∈Region.ready md ops listed):pO md ops (listed.setIfInBounds j true):=by
 obtain⟨_,oj,hoj,hall⟩:=mem_ready.1 hj;intro k o hk hl e he hb;by_cases hkj:j=k
 ·subst hkj;rw[hoj]at hk;cases hk;exact getD_set_true (hall e he hb)
 ·rw[getD_set_ne false hkj]at hl;exact getD_set_true (h k o hk hl e he hb)
def lB (md:Region.Mode) (ops:Array Oper) (i:Nat):Nat→Nat→Bool
 |0,_=>false
 |n+1,j=>match ops[j]? with
  |some o=>o.after.toList.any fun e=>Region.binds md e && (e.on == i || lB md ops i n e.on)
  |none=>false
theorem oT {listed:Array Bool}(hc:pO md ops listed) (i:Nat):∀(n j:Nat) (o:Oper),ops[j]?=some o→lB md ops i n j=true→(∀e∈o.after,Region.binds md e=true→listed.getD e.on false=true)→listed.getD i false=true
 |0,j,o,_,h,_=>by simp[lB]at h
 |n+1,j,o,ho,h,hall=>by
  simp only[lB,ho,List.any_eq_true,aO,Bool.or_eq_true,beq_iff_eq]at h;obtain⟨e,he,hb,h1⟩:=h;have he:e∈o.after:=Array.mem_toList_iff.1 he;have hl:=hall e he hb;rcases h1 with h1|h1
  ·rw[←h1];exact hl
  ·cases hoe:ops[e.on]? with
   |none=>
    rcases n with _|n
    ·simp[lB]at h1
    ·simp[lB,hoe]at h1
   |some o'=>exact oT hc i n e.on o' hoe h1 (fun e' he' hb'=>hc e.on o' hoe hl e' he' hb')
theorem DW {i:Nat}{oi:Oper}{v:Value}(wt:Bool) (hi:ops[i]?=some oi) (hsel:∀(j:Nat) (o:Oper) cs b,ops[j]?=some o→o.op≠.select cs b)
  (hQ:∀c a w,Q (.panic c) (a.put oi.dst v) w→Q (.panic c) a w) (hn:wt=true→∀j,j≠i→need j=false→∃n,lB md ops i n j=true) :
  ∀(fuel:Nat) (listed:Array Bool) (a:Act) (w:World),pO md ops listed →
   (∀j oj,ops[j]?=some oj→j≠i→listed.getD j true=false→(∀e∈oj.after,Region.binds md e=true→e.on≠i)→oi.apart ops oj=true) →
   i∈Region.ready md ops listed→YieldsIf P ops (fun w=>wt=true→S w) oi v a→(wt=true→S w) →
   gY P md ops Q S need fuel (listed.setIfInBounds i true) (a.put oi.dst v) w→gY P md ops Q S need (fuel+1) listed a w:=by
 intro fuel;have base:∀(fuel:Nat) (a:Act) (w:World) (listed:Array Bool),YieldsIf P ops (fun w=>wt=true→S w) oi v a→(wt=true→S w) →
   gY P md ops Q S need fuel (listed.setIfInBounds i true) (a.put oi.dst v) w→wpOp P ops Q i (fun a' w'=>(need i=true→S w→S w')∧gY P md ops Q S need fuel (listed.setIfInBounds i true) a' w') a w:=
  fun fuel a w listed hy hS H=>YieldsIf.wpOp (S:=fun w=>wt=true→S w) hi hy hS ⟨fun _ h=>h,H⟩
 induction fuel with
 |zero=>
  intro listed a w _ _ hr hy hS H;refine⟨fun h=>(by rw[h]at hr;cases hr),fun j hj=>?_⟩;by_cases hji:j=i
  ·subst hji;exact base 0 a w listed hy hS H
  ·have:=ready_mono hj hji;rw[H.1]at this;cases this
 |succ fuel ih=>
  intro listed a w hc hfree hr hy hS H;refine⟨fun h=>(by rw[h]at hr;cases hr),fun j hj=>?_⟩;by_cases hji:j=i
  ·subst hji;exact base (fuel+1) a w listed hy hS H
  ·have h1:=H.2 j (ready_mono hj hji);obtain⟨hjun,oj,hoj,hall⟩:=mem_ready.1 hj;have hiun:=(mem_ready.1 hr).1;have hif:listed.getD i false=false:=by
    rcases aL i listed.size with h'|h'
    ·simp[h']at hiun⊢;exact hiun
    ·simp[Array.getElem?_eq_none h']
   have hnot:∀e∈oj.after,Region.binds md e=true→e.on≠i:=fun e he hb heq=>by
    have h1:=hall e he hb;rw[heq,hif]at h1;cases h1
   have hneed:wt=true→need j=true:=fun hwt=>by
    cases hnj:need j with
    |true=>rfl
    |false=>
     obtain⟨n,hn'⟩:=hn hwt j hji hnj;have:=oT hc i n j oj hoj hn' hall;rw[hif]at this;cases this
   have h2:=wpOp_putIf (S:=fun w=>wt=true→S w) hoj (hfree j oj hoj hji hjun hnot) (fun cs b=>hsel i oi cs b hi) (fun cs b=>hsel j oj cs b hoj) hQ hy h1;have hfree':∀k ok,ops[k]?=some ok→k≠i→(listed.setIfInBounds j true).getD k true=false →
     (∀e∈ok.after,Region.binds md e=true→e.on≠i)→oi.apart ops ok=true:=fun k ok hk hki hun hno=>by
    refine hfree k ok hk hki ?_ hno;by_cases hjk:j=k
    ·subst hjk;exact hjun
    ·rw[getD_set_ne true hjk]at hun;exact hun
   refine wpOp_mono (fun a' w' h3=>⟨h3.2.1,ih (listed.setIfInBounds j true) a' w' (pH hc hj) hfree' (ready_mono hr (Ne.symm hji)) h3.1 (fun hwt=>h3.2.1 (hneed hwt) (hS hwt)) ?_⟩) h2;rw[Array.setIfInBounds_comm _ _ hji];exact h3.2.2
structure Mo where
 take:Bool
 watch:Bool
 need:Bool
 o:Oper
 guard:Option (Nat×Bool)
def cR (ops:Array Oper) (wt:List Nat) (j:Nat):Bool:=wt.any fun x=>x != j && !lB .any ops x ops.size j
variable {s:Mo}{r:List Mo}{a:Act}{w:World}
end
def vK (P:bI) (keep:List Nat) (al:Option Nat) (s:dM) (K:St→Prop) (st:St):Prop:=
 match s.g with
 |none=>dW P keep al s.d st K s.op
 |some (t,b)=>match dR st.T t with
  |.bl c=>Ah (c == b) (fun _=>dW P keep al s.d st K s.op) (fun _=>K (st.put s.d (.tup [])))
  |.tup []=>K (st.put s.d (.tup []))
  |_=>False
theorem lT {pub:cY}{w:World}{r:cT}:bU pub w r (.tup []) undef:=.tup rfl (fun i x u h=>by simp at h)
def F5 (P:bI) (K:St→Prop):List dM→St→Prop
 |[],st=>K st
 |s :: l,st=>vK P [] none s (F5 P K l) st
def xH (ops:Array Oper) (o:Oper):Option (Option (Nat×Bool)):=
 match o.guard with
 |none=>some none
 |some (j,b)=>match (ops[j]?).bind (·.dst) with
  |some t=>some (some (t,b))
  |none=>none
def JD (N:Nat):Option Nat→Bool
 |some d=>Nat.blt d N
 |none=>true
def Us (P:bI) (o:Oper):Option hU:=match To P o with
 |some x=>some x
 |none=>some .bad
theorem DS {P:bI}{o:Oper}{x:hU}(h:Us P o=some x):qV P o x:=by
 unfold Us at h
 split at h
 ·rename_i y hy;cases h;exact Tt hy
 ·cases h;exact fN (fun C st a w r pub keep al K Q hd hk hh hK=>by simp only[dW]at hK) rfl
def Qc (ops:Array Oper):Option Nat→Bool
 |none=>false
 |some t=>ops.any fun o=>match o.op with
  |.build _ parts=>parts.any fun p=>match p.2 with
   |.tmp s=>s == t
   |_=>false
  |.buildSlice _ _ parts=>parts.any fun p=>match p.2 with
   |.tmp s=>s == t
   |_=>false
  |_=>false
def S8 (P:bI) (ops:Array Oper) (o:Oper):Option hU:=match Us P o with
 |some (.bsl t sz n zs ps)=>if Qc ops o.dst=true then some (.bsp t sz n zs ps) else some (.bsl t sz n zs ps)
 |x=>x
theorem Rx {P:bI}{ops:Array Oper}{o:Oper}{x:hU}(h:S8 P ops o=some x):qV P o x:=by
 unfold S8 at h
 split at h
 ·rename_i t sz n zs ps hx
  split at h
  ·cases h;exact fN (WN (DS hx).2) rfl
  ·cases h;exact DS hx
 ·exact DS h
def EC (P:bI) (N:Nat) (ops:Array Oper) (o:Oper):Option dM:=
 match S8 P ops o,xH ops o with
 |some x,some g=>if JD N o.dst=true then some ⟨o.dst,g,x⟩ else none
 |_,_=>none
theorem Av {P:bI}{N:Nat}{ops:Array Oper}{o:Oper}{s:dM}(h:EC P N ops o=some s):qV P o s.op∧s.d=o.dst∧(∀n,o.dst=some n→n < N)∧xH ops o=some s.g:=by
 unfold EC at h
 split at h
 ·rename_i x g h1 h2
  split at h
  ·rename_i h3;cases h;exact⟨Rx h1,rfl,fun n hn=>by rw[hn]at h3;simpa [JD,Nat.blt_eq]using h3,h2⟩
  ·cases h
 ·cases h
section
variable {P:bI}{C:nH}{st:St}{a:Act}{w:World}{r:cT}{pub:cY}{ops:Array Oper}{o:Oper}
theorem Aj {g:Option (Nat×Bool)}(h:bP C st a w r pub) (hg:xH ops o=some g) :
  (g=none→Region.wanted o (yielded ops a.tmps)=true)∧(∀t b c,g=some (t,b)→dR st.T t=.bl c→Region.wanted o (yielded ops a.tmps)=(c == b))∧∀t b,g=some (t,b)→dR st.T t=.tup []→Region.wanted o (yielded ops a.tmps)=false:=by
 unfold xH at hg
 split at hg
 ·rename_i hn;cases hg;exact⟨fun _=>by simp[Region.wanted,hn],(fun t b c h=>by cases h),fun t b h=>by cases h⟩
 ·rename_i j b hj
  split at hg
  ·rename_i t ht;cases hg;refine⟨(fun h=>by cases h),fun t' b' c he hc=>?_,fun t' b' he hc=>?_⟩
   rotate_left
   ·cases he;have hs:=h.slots t;rw[hc]at hs;have hv:∀c,a.tmps[t]?≠some (.bool c):=fun c hq=>by
     rw[Array.getD_eq_getD_getElem?,hq]at hs;cases hs
    unfold Region.wanted;rw[hj];simp only[yielded,ht,Option.bind_some];cases hq:a.tmps[t]? with
    |none=>rfl
    |some y=>cases y<;>first|rfl|exact absurd hq (hv _)
   cases he;have hs:=h.slots t;rw[hc]at hs;have hv:a.tmps[t]?=some (.bool c):=by
    generalize hx:a.tmps.getD t undef=x at hs;cases hs;rw[Array.getD_eq_getD_getElem?]at hx;cases hq:a.tmps[t]? with
    |none=>rw[hq]at hx;simp[undef]at hx
    |some y=>rw[hq]at hx;simp at hx;rw[hx]
   unfold Region.wanted;rw[hj];simp only[yielded,ht,Option.bind_some,hv];cases c<;>cases b<;>rfl
  ·cases hg
def UB (P:bI) (o:Oper):Option hU:=match o.op with
 |.slice t x (some q) none none=>match P.underlying t with
  |some (.slice e)=>match P.info? e,cA x,cA q with
   |some i,some x',some q'=>if i.size=0 then none else some (.slt i.size x' q')
   |_,_,_=>none
  |_=>none
 |_=>none
theorem Qh {P:bI}{o:Oper}{x:hU}(h:UB P o=some x):vB P o x:=by
 unfold UB at h
 split at h
 ·rename_i ho
  split at h
  ·rename_i hd
   split at h
   ·rename_i hi hx hq
    split at h
    ·cases h
    ·rename_i h0;cases h;exact WQ hd hi h0 ho hx hq
   ·cases h
  ·cases h
 ·cases h
def vU (P:bI) (N:Nat) (ops:Array Oper) (o:Oper):Option dM:=
 match UB P o,xH ops o with
 |some x,some g=>if JD N o.dst=true then some ⟨o.dst,g,x⟩ else none
 |_,_=>EC P N ops o
theorem Ls {P:bI}{N:Nat}{ops:Array Oper}{o:Oper}{s:dM}(h:vU P N ops o=some s):vB P o s.op∧s.d=o.dst∧(∀n,o.dst=some n→n < N)∧xH ops o=some s.g:=by
 unfold vU at h
 split at h
 ·rename_i x g h1 h2
  split at h
  ·rename_i h3;cases h;exact⟨Qh h1,rfl,fun n hn=>by rw[hn]at h3;simpa [JD,Nat.blt_eq]using h3,h2⟩
  ·cases h
 ·obtain⟨h1,h2⟩:=Av h;exact⟨h1.2,h2⟩
def E2 (C:nH) (K:St→Prop) (a:Act) (w:World):Prop:=∃st r pub,K st∧bP C st a w r pub
theorem Dh {N:Nat}{Q:Exit→Act→World→Prop}{K:St→Prop}(hQ:∀a w,E2 C K a w→Q .normal a w) (hN:C.n=N):∀(l:List Oper) (xs:List dM) (st:St) (a:Act) (w:World) (r:cT) (pub:cY),
  l.mapM (vU P N ops)=some xs→bP C st a w r pub→F5 P K xs st→wpList P ops Q l a w
 |[],xs,st,a,w,r,pub,hx,h,hK=>by
  simp at hx;subst hx;exact hQ _ _ ⟨st,r,pub,hK,h⟩
 |o :: l,xs,st,a,w,r,pub,hx,h,hK=>by
  simp only[List.mapM_cons,Option.bind_eq_bind,Option.pure_def]at hx;cases hs:vU P N ops o with
  |none=>simp[hs]at hx
  |some s=>
   cases hl:l.mapM (vU P N ops) with
   |none=>simp[hs,hl]at hx
   |some ys=>
    simp[hs,hl]at hx;subst hx;obtain⟨hop,hd,hdn,hg⟩:=Ls hs;obtain⟨g1,g2,g3⟩:=Aj h hg;have run:dW P [] none s.d st (F5 P K ys) s.op→o.wp P a w (wpList P ops Q l) Q:=fun hw=>by
     rw[hd]at hw;refine Oper.wp_mono (fun a' w' hp=>?_) (hop C st a w r pub [] none _ Q (fun n hn=>by rw[hN];exact hdn n hn) (by simp) h hw);obtain⟨st',r',pub',hk,hh,_⟩:=hp;exact Dh hQ hN l ys st' a' w' r' pub' hl hh hk
    unfold wpList;unfold F5 vK at hK;cases hgs:s.g with
    |none=>
     rw[hgs]at hK;rw[g1 hgs];exact .inl (run hK)
    |some tb=>
     obtain⟨t,b⟩:=tb;rw[hgs]at hK;dsimp only at hK;cases hc:dR st.T t with
     |bl c=>
      rw[hc]at hK;rw[g2 t b c hgs hc];cases hcb:(c == b) with
      |true=>
       simp only[Ah,hcb,if_true]at hK;exact .inl (run hK)
      |false=>
       simp only[Ah,hcb,aZ,if_false]at hK;rw[hd]at hK;exact Dh hQ hN l ys _ _ w r pub hl (h.put (fun n hn=>by rw[hN];exact hdn n hn) lT) hK
     |tup q=>
      rw[hc]at hK;cases q with
      |nil=>
       rw[g3 t b hgs hc];simp only[hd]at hK;exact Dh hQ hN l ys _ _ w r pub hl (h.put (fun n hn=>by rw[hN];exact hdn n hn) lT) hK
      |cons=>exact hK.elim
     |_=>rw[hc]at hK;exact hK.elim
end
inductive cV where
 |nil
 |take (i:Nat) (s:dM) (p:cV)
 |eff (i rk:Nat) (need:Bool) (s:dM) (p:cV)
 |fork (p q:cV)
 |phase (wt:List Nat) (p:cV)
 |more (wt:List Nat) (p:cV)
def JE (st:St) (s:dM):St×List Nat:=
 match s.op with
 |.mov x=>(st.put s.d (st.ev x),[])
 |.nck x=>(st.put s.d (st.ev x),[])
 |.fad off x=>match st.ev x with
  |.ptr k o=>(st.put s.d (.ptr k (o+off)),[])
  |.re k sz i j=>(st.put s.d (.re k sz i (j+off)),[])
  |_=>(st.put s.d .any,[])
 |.iad sz x _=>match st.rd x with
  |.hd k=>(st.put s.d (.re k sz 0 0),[])
  |_=>(st.put s.d .any,[])
 |.fld ag off n x=>match st.ev x with
  |.agg cs=>(st.put s.d (if ag then .agg ((cs.drop off).take n) else cs.getD off .any),[])
  |_=>(st.put s.d .any,[])
 |.ld ag n a=>match st.ev a with
  |.ptr k off=>match st.H[k]? with
   |some (.blk _ cs)=>(st.put s.d (if ag then .agg ((cs.drop off).take n) else cs.getD off .any),[k])
   |_=>(st.put s.d .any,[k])
  |.re k _ _ _=>(st.put s.d .any,[k])
  |_=>(st.put s.d .any,[])
 |.lenm x=>match st.ev x with
  |.hd k=>(st.put s.d .any,[k])
  |.ph k=>(st.put s.d .any,[k])
  |_=>(st.put s.d .any,[])
 |.aia _ _ x _=>match st.ev x with
  |.ptr k o=>(st.put s.d (.ptr k o),[])
  |.re k sz i j=>(st.put s.d (.re k sz i j),[])
  |_=>(st.put s.d .any,[])
 |.lkp _ _ _ x _=>match st.ev x with
  |.hd k=>(st.put s.d .any,[k])
  |_=>(st.put s.d .any,[])
 |.b2s x=>match st.ev x with
  |.hd k=>(st.put s.d .any,[k])
  |_=>(st.put s.d .any,[])
 |_=>(st.put s.d .any,[])
def cV.dry:cV→St→List Nat
 |.nil,_=>[]
 |.take _ s p,st=>(JE st s).2++p.dry (JE st s).1
 |.eff _ _ _ s p,st=>p.dry (st.put s.d .any)
 |.fork p q,st=>p.dry st++q.dry st
 |.phase _ _,_=>[]
 |.more _ _,_=>[]
def sA (H:List cG):List Nat→List Nat→List Nat
 |_,[]=>[]
 |seen,k :: l=>match H[k]? with
  |none=>sA H seen l
  |some .dead=>sA H seen l
  |some _=>if seen.contains k then sA H seen l else k :: sA H (k :: seen) l
def yF (p:cV) (st:St):List Nat:=sA st.H [] (p.dry st)
theorem pC {C:nH}{st:St}{a:Act}{w:World}{r:cT}{pub:cY}(h:bP C st a w r pub):∀(l seen:List Nat),∀k∈sA st.H seen l,(r k).isSome=true
 |[],seen,k,hk=>by simp[sA]at hk
 |q :: l,seen,k,hk=>by
  have ih:=pC h l;unfold sA at hk;cases he:st.H[q]? with
  |none=>rw[he]at hk;exact ih seen k hk
  |some e=>
   rw[he]at hk;have hm:=h.mod.ent q e he;have go:(r q).isSome=true→k∈(if seen.contains q then sA st.H seen l else q :: sA st.H (q :: seen) l)→(r k).isSome=true:=fun h1 h2=>by
    split at h2
    ·exact ih _ k h2
    ·rcases List.mem_cons.1 h2 with rfl|h2
     ·exact h1
     ·exact ih _ k h2
   generalize r q=x at hm go;cases hm with
   |dead=>exact ih seen k hk
   |blk hb hc hp=>exact go rfl hk
   |row ho hc hs hp=>exact go rfl hk
   |tip ho hc hs hp=>exact go rfl hk
   |map hb1 hl hk1 hv hp _=>exact go rfl hk
   |hrow ho hc hp=>exact go rfl hk
   |pool=>exact go rfl hk
   |iter hb1 hx hp=>exact go rfl hk
def Gt (keep:List Nat) (fr:Bool) (st:St) (x:hU):Bool:=!x.loads || ((x.reads st).all (fun k=>keep.contains k) && (fr || !x.pubs st))
def Jk (keep l:List Nat):List Nat:=keep++l.filter fun k=>!keep.contains k
def kH (P:bI):List Nat→Nat→(St→Prop)→cV→Bool→St→Prop
 |_,_,K,.nil,_,st=>K st
 |keep,base,K,.take _ s p,fr,st=>Gt keep fr st s.op=true∧vK P [] none s (kH P keep base K p fr) st
 |keep,base,K,.eff _ rk need s p,fr,st=>vK P (if need then keep else []) (some (base+rk)) s (kH P keep base K p (fr && s.op.quiet)) st
 |keep,base,K,.fork p q,fr,st=>kH P keep base K p fr st∧kH P keep base K q fr st
 |_,base,K,.phase _ p,_,st=>kH P (yF p st) base K p true st
 |keep,base,K,.more _ p,_,st=>kH P (Jk keep (yF p st)) base K p true st
def cV.heads:cV→List Nat
 |.eff i _ _ _ _=>[i]
 |.fork p q=>p.heads++q.heads
 |_=>[]
def uA (P:bI) (N:Nat) (ops:Array Oper) (i:Nat) (s:dM):Prop:=∃o,ops[i]?=some o∧EC P N ops o=some s
def Dn (ops:Array Oper) (wt wt2:List Nat) (listed:Array Bool):Bool:=
 (wt.all fun x=>wt2.contains x) && (List.range listed.size).all fun i=>listed.getD i true || (cR ops wt2 i || (List.range listed.size).all fun j=>listed.getD j true || (j == i || (lB .any ops j ops.size i || !cR ops wt j)))
def eP (P:bI) (N:Nat) (ops:Array Oper):List Nat→cV→Bool→Bool→Array Bool→Prop
 |_,.nil,arm,_,listed=>arm=false∧Region.ready .any ops listed=[]
 |wt,.take i s p,arm,late,listed=>arm=false∧uA P N ops i s∧s.op.isPure=true∧(s.op.loads=true→wt.contains i=true)∧Region.free .any ops listed i=true∧(Region.ready .any ops listed).contains i=true∧eP P N ops wt p false late (listed.setIfInBounds i true)
 |wt,.eff i _ need s p,arm,late,listed=>(arm=false→Region.ready .any ops listed=[i])∧uA P N ops i s∧(cR ops wt i=true→need=true)∧(late=true→need=false)∧eP P N ops wt p false (late || !need) (listed.setIfInBounds i true)
 |wt,.fork p q,arm,late,listed=>(arm=false→Region.ready .any ops listed=p.heads++q.heads)∧eP P N ops wt p true late listed∧eP P N ops wt q true late listed
 |wt,.phase wt2 p,arm,_,listed=>arm=false∧(∀j,listed.getD j true=false→cR ops wt j=false)∧eP P N ops wt2 p false false listed
 |wt,.more wt2 p,arm,late,listed=>arm=false∧late=false∧Dn ops wt wt2 listed=true∧eP P N ops wt2 p false false listed
def cV.size:cV→Nat
 |.nil=>0
 |.take _ _ p=>p.size+1
 |.eff _ _ _ _ p=>p.size+1
 |.fork p q=>max p.size q.size
 |.phase _ p=>p.size
 |.more _ p=>p.size
section
variable {P:bI}{C:nH}{ops:Array Oper}
structure RV (keep:List Nat) (C:nH) (r0:cT) (pub0:cY) (w0:World) (late fr:Bool) (st:St) (a:Act) (w:World) (r:cT) (pub:cY):Prop where
 h:bP C st a w r pub
 ks:late=false→fG keep r0 w0 r w
 eq:fr=true→pub=pub0
 ext:oM pub0 w0 pub w
 some_:∀k∈keep,(r k).isSome=true∨late=true
def SS (keep:List Nat) (r0:cT) (pub0:cY) (w0:World) (w':World):Prop:=tK keep true r0 pub0 w0 w'
theorem RV.ss {keep:List Nat}{r0 r:cT}{pub0 pub:cY}{w0 w:World}{fr:Bool}{st:St}{a:Act}(m:RV keep C r0 pub0 w0 false fr st a w r pub):SS keep r0 pub0 w0 w:=
 ⟨fun _=>m.ext.cell,fun k hk z hz=>(m.ks rfl k hk).2 z hz⟩
theorem RV.like {keep:List Nat}{r0 r:cT}{pub0 pub:cY}{w0 w:World}{fr:Bool}{st:St}{a:Act}{x:hU}(m:RV keep C r0 pub0 w0 false fr st a w r pub) (hm0:∀b i,i < pub0 b→∃u,w0.cell? ⟨b,i,none⟩=some u) (hl:x.loads=true) (ht:Gt keep fr st x=true) {w':World}(hs:SS keep r0 pub0 w0 w') :
  tK (x.reads st) (x.pubs st) r pub w w':=by
 unfold Gt at ht;rw[hl]at ht;simp only[Bool.not_true,Bool.false_or,aO,aT,Bool.or_eq_true,Bool.not_eq_true']at ht;obtain⟨h1,h2⟩:=ht;refine⟨fun hp b i u hi hu=>?_,fun k hk z hz b hb=>?_⟩
 ·rcases h2 with h2|h2
  ·rw[m.eq h2]at hi;obtain⟨v,hv⟩:=hm0 b i hi;have:=m.ext.cell b i v hi hv;rw[hu]at this;cases this;exact hs.cell rfl b i u hi hv
  ·rw[h2]at hp;cases hp
 ·have hkk:k∈keep:=by have:=h1 k hk;simpa using this
  obtain⟨e1,e2⟩:=m.ks rfl k hkk;have hz0:r0 k=some z:=e1.symm.trans hz;rw[hs.ent k hkk z hz0 b hb,e2 z hz0 b hb]
def Dw (wt:List Nat) (listed:Array Bool):Prop:=∀x∈wt,listed.getD x false=true
theorem A8 {wt:List Nat}{listed:Array Bool}(h:Dw wt listed) (i:Nat):Dw wt (listed.setIfInBounds i true):=fun x hx=>getD_set_true (h x hx)
theorem vE {N:Nat}{wt:List Nat}:∀(p:cV) (late:Bool) (listed:Array Bool),eP P N ops wt p true late listed→p.heads≠[]∧0 < p.size
 |.nil,_,_,h=>by cases h.1
 |.take _ _ _,_,_,h=>by cases h.1
 |.eff _ _ _ _ _,_,_,_=>⟨by simp[cV.heads],by simp[cV.size]⟩
 |.phase _ _,_,_,h=>by cases h.1
 |.more _ _,_,_,h=>by cases h.1
 |.fork p q,late,listed,h=>by
  obtain⟨h1,h2⟩:=vE p late listed h.2.1;exact⟨by simp[cV.heads,h1],by simp[cV.size];omega⟩
theorem nG {Q:Exit→Act→World→Prop}{md:Region.Mode}{S S2:World→Prop}{need need2:Nat→Bool}:∀(fuel:Nat) (listed:Array Bool) (a:Act) (w:World),(∀j,listed.getD j true=false→need j=false)→gY P md ops Q S2 need2 fuel listed a w→gY P md ops Q S need fuel listed a w
 |0,_,_,_,_,h=>h
 |fuel+1,listed,a,w,hn,h=>by
  refine⟨h.1,fun i hi=>wpOp_mono (fun a' w' h'=>⟨fun hni=>?_,nG fuel _ a' w' (fun j hj=>hn j ?_) h'.2⟩) (h.2 i hi)⟩
  ·have:=hn i (mem_ready.1 hi).1;rw[this]at hni;cases hni
  ·by_cases hij:i=j
   ·subst hij;exact(mem_ready.1 hi).1
   ·rw[getD_set_ne true hij]at hj;exact hj
theorem xR {Q:Exit→Act→World→Prop}{S S2:World→Prop}{need need2:Nat→Bool}(hS:∀w,S2 w→S w) (hn:∀i,need i=true→need2 i=true) :
  ∀(fuel:Nat) (listed:Array Bool) (a:Act) (w:World),(∀i j,listed.getD i true=false→listed.getD j true=false→j≠i→need2 i=false→lB .any ops j ops.size i=true∨need j=false)→pO .any ops listed→S2 w→gY P .any ops Q S2 need2 fuel listed a w→gY P .any ops Q S need fuel listed a w
 |0,_,_,_,_,_,_,h=>h
 |fuel+1,listed,a,w,hc,hl,h2,h=>by
  refine⟨h.1,fun i hi=>wpOp_mono (fun a' w' h'=>?_) (h.2 i hi)⟩;have hi0:=(mem_ready.1 hi).1;have sub:∀j,(listed.setIfInBounds i true).getD j true=false→listed.getD j true=false∧j≠i:=fun j hj=>by
   by_cases hij:i=j
   ·subst hij;exfalso;have hlt:i < listed.size:=by
     rcases aL i listed.size with h3|h3
     ·exact h3
     ·simp[Array.getElem?_eq_none h3]at hi0
    simp[hlt]at hj
   ·rw[getD_set_ne true hij]at hj;exact⟨hj,Ne.symm hij⟩
  cases hni:need2 i with
  |true=>
   refine⟨fun _ _=>hS _ (h'.1 hni h2),xR hS hn fuel _ a' w' (fun p q hp hq=>hc p q (sub p hp).1 (sub q hq).1) (pH hl hi) (h'.1 hni h2) h'.2⟩
  |false=>
   refine⟨fun h3=>(by rw[hn i h3]at hni;cases hni),nG fuel _ a' w' (fun j hj=>?_) h'.2⟩;obtain⟨hj1,hj2⟩:=sub j hj;rcases hc i j hi0 hj1 hj2 hni with h3|h3
   ·obtain⟨_,oj,hoj,hall⟩:=mem_ready.1 hi;have:=oT hl j ops.size i oj hoj h3 hall;have hlt:j < listed.size:=by
     rcases aL j listed.size with h4|h4
     ·exact h4
     ·simp[Array.getElem?_eq_none h4]at hj1
    simp[hlt]at this hj1;rw[this]at hj1;cases hj1
   ·exact h3
theorem Fj {wt wt2:List Nat}(h:(wt.all fun x=>wt2.contains x)=true) (j:Nat) (hn:cR ops wt j=true):cR ops wt2 j=true:=by
 unfold cR at hn⊢;rw[List.any_eq_true]at hn⊢;obtain⟨x,hx,hq⟩:=hn;exact⟨x,by simpa using aT.1 h x hx,hq⟩
theorem Ks {wt wt2:List Nat}{listed:Array Bool}(h:Dn ops wt wt2 listed=true):(∀j,cR ops wt j=true→cR ops wt2 j=true)∧∀i j,listed.getD i true=false→listed.getD j true=false→j≠i→cR ops wt2 i=false→lB .any ops j ops.size i=true∨cR ops wt j=false:=by
 unfold Dn at h;rw[aO]at h;refine⟨fun j=>Fj h.1 j,fun i j hi hj hji hn=>?_⟩;have lt:∀k,listed.getD k true=false→k < listed.size:=fun k hk=>by
  rcases aL k listed.size with h4|h4
  ·exact h4
  ·simp[Array.getElem?_eq_none h4]at hk
 have h1:=aT.1 h.2 i (List.mem_range.2 (lt i hi));rw[hi,hn,Bool.false_or,Bool.false_or]at h1;have h2:=aT.1 h1 j (List.mem_range.2 (lt j hj));rw[hj,Bool.false_or,Bool.or_eq_true,Bool.or_eq_true]at h2;rcases h2 with h2|h2|h2
 ·exact absurd (by simpa using h2) hji
 ·exact .inl h2
 ·exact .inr (by simpa using h2)
theorem PO {N:Nat}{Q:Exit→Act→World→Prop}{K:St→Prop}{base:Nat}(hs:Region.noSelect ops=true) (hQp:∀c a d v w,Q (.panic c) (Act.put a d v) w→Q (.panic c) a w)
  (hQ:∀a w,E2 C K a w→Q .normal a w) (hN:C.n=N) :
  ∀(p:cV) (wt keep:List Nat) (r0:cT) (pub0:cY) (w0:World),(∀b i,i < pub0 b→∃u,w0.cell? ⟨b,i,none⟩=some u)→∀(late fr:Bool) (fuel:Nat) (listed:Array Bool) (st:St) (a:Act) (w:World) (r:cT) (pub:cY),p.size≤fuel→pO .any ops listed→listed.size=ops.size→RV keep C r0 pub0 w0 late fr st a w r pub→(late=true→Dw wt listed) →
   kH P keep base K p fr st →
   (eP P N ops wt p false late listed→gY P .any ops Q (SS keep r0 pub0 w0) (cR ops wt) fuel listed a w)∧
   (eP P N ops wt p true late listed→∀i∈p.heads,i∈Region.ready .any ops listed →
    wpOp P ops Q i (fun a' w'=>(cR ops wt i=true→SS keep r0 pub0 w0 w→SS keep r0 pub0 w0 w')∧gY P .any ops Q (SS keep r0 pub0 w0) (cR ops wt) (fuel - 1) (listed.setIfInBounds i true) a' w') a w):=by
 intro p
 induction p with
 |nil=>
  intro wt keep r0 pub0 w0 hm0 late fr fuel listed st a w r pub hf hc hz m hL hK;refine⟨fun hp=>?_,fun hp=>by cases hp.1⟩;have hn:Q .normal a w:=hQ _ _ ⟨st,r,pub,hK,m.h⟩;cases fuel with
  |zero=>exact⟨hp.2,hn⟩
  |succ n=>exact⟨fun _=>hn,by rw[hp.2];simp⟩
 |take i s p ih=>
  intro wt keep r0 pub0 w0 hm0 late fr fuel listed st a w r pub hf hc hz m hL hK;refine⟨fun hp=>?_,fun hp=>by cases hp.1⟩;obtain⟨_,⟨o,ho,hcs⟩,hpu,hlw,hfree,hready,hfit⟩:=hp;obtain⟨⟨hps,_⟩,hd,hdn,hg⟩:=Av hcs;obtain⟨hto,hK⟩:=hK;cases fuel with
  |zero=>simp[cV.size]at hf
  |succ fuel=>
   have hrd:i∈Region.ready .any ops listed:=by simpa using hready
   have hil:i < ops.size:=(Array.getElem?_eq_some_iff.1 ho).1;have hiun:listed.getD i false=false:=by
    have:=(mem_ready.1 hrd).1;have hls:i < listed.size:=by omega
    simp[hls]at this⊢;exact this
   have hwl:wt.contains i=true→late=false:=fun hw=>by
    cases late with
    |false=>rfl
    |true=>
     have:=hL rfl i (by simpa using hw);rw[hiun]at this;cases this
   have hn:wt.contains i=true→∀j,j≠i→cR ops wt j=false→∃n,lB .any ops i n j=true:=fun hw j hji hnj=>by
    refine⟨ops.size,?_⟩;unfold cR at hnj;rw[List.any_eq_false]at hnj;have:=hnj i (by simpa using hw);simp only[aO,bne_iff_ne,ne_eq,Bool.not_eq_true',not_and,Bool.not_eq_false]at this;exact this (Ne.symm hji)
   have hSi:wt.contains i=true→SS keep r0 pub0 w0 w:=fun hw=>by
    have:=hwl hw;subst this;exact m.ss
   obtain⟨g1,g2,g3⟩:=Aj m.h hg;have fin:∀(v:Value) (y:AV),YieldsIf P ops (fun w=>wt.contains i=true→SS keep r0 pub0 w0 w) o v a→bU pub w r y v→kH P keep base K p fr (st.put s.d y)→gY P .any ops Q (SS keep r0 pub0 w0) (cR ops wt) (fuel+1) listed a w:=fun v y hy hv hK=>by
    rw[hd]at hK;have hh:=m.h.put (d:=o.dst) (fun n hn=>by rw[hN];exact hdn n hn) hv;have:=(ih wt keep r0 pub0 w0 hm0 late fr fuel (listed.setIfInBounds i true) (st.put o.dst y) (a.put o.dst v) w r pub (by simp[cV.size]at hf;omega) (pH hc hrd) (by simpa using hz) ⟨hh,m.ks,m.eq,m.ext,m.some_⟩ (fun hl=>A8 (hL hl) i) hK).1 hfit;exact DW (wt.contains i) ho (Region.noSelect_spec hs) (fun c a w h=>hQp c a _ _ w h) hn fuel listed a w hc (Region.free_spec ho hfree) hrd hy hSi this
   have want:dW P [] none s.d st (kH P keep base K p fr) s.op→Region.wanted o (yielded ops a.tmps)=true→gY P .any ops Q (SS keep r0 pub0 w0) (cR ops wt) (fuel+1) listed a w:=fun hw hwt=>by
    rw[hd]at hw;obtain⟨v,y,hv,hKy,hrun⟩:=hps hpu C st a w r pub [] none _ m.h hw;rw[←hd]at hKy;refine fin v y (.inl ⟨hwt,fun w' hw'=>hrun w' (fun hl=>?_)⟩) hv hKy;have hcon:=hlw hl;have:=hwl hcon;subst this;exact m.like hm0 hl hto (hw' hcon)
   unfold vK at hK;cases hgs:s.g with
   |none=>
    rw[hgs]at hK;exact want hK (g1 hgs)
   |some tb=>
    obtain⟨t,b⟩:=tb;rw[hgs]at hK;dsimp only at hK;cases hcv:dR st.T t with
    |bl c=>
     rw[hcv]at hK;have hw:=g2 t b c hgs hcv;cases hcb:(c == b) with
     |true=>
      simp only[Ah,hcb,if_true]at hK;exact want hK (hw.trans hcb)
     |false=>
      simp only[Ah,hcb,aZ,if_false]at hK;exact fin undef (.tup []) (.inr ⟨hw.trans hcb,rfl⟩) lT hK
    |tup q=>
     rw[hcv]at hK;cases q with
     |nil=>exact fin undef (.tup []) (.inr ⟨g3 t b hgs hcv,rfl⟩) lT hK
     |cons=>exact hK.elim
    |_=>rw[hcv]at hK;exact hK.elim
 |eff i rk need s p ih=>
  intro wt keep r0 pub0 w0 hm0 late fr fuel listed st a w r pub hf hc hz m hL hK
  -- the operation,whether it is the only one or an arm
  have key:uA P N ops i s→(cR ops wt i=true→need=true)→(late=true→need=false)→eP P N ops wt p false (late || !need) (listed.setIfInBounds i true)→i∈Region.ready .any ops listed→0 < fuel →
    wpOp P ops Q i (fun a' w'=>(cR ops wt i=true→SS keep r0 pub0 w0 w→SS keep r0 pub0 w0 w')∧gY P .any ops Q (SS keep r0 pub0 w0) (cR ops wt) (fuel - 1) (listed.setIfInBounds i true) a' w') a w:=fun⟨o,ho,hcs⟩ hne hln hfit hrd hf0=>by
   obtain⟨⟨_,hop⟩,hd,hdn,hg⟩:=Av hcs;obtain⟨g1,g2,g3⟩:=Aj m.h hg;have hall:=mem_ready.1 hrd;have hil:i < ops.size:=(Array.getElem?_eq_some_iff.1 ho).1;have hL':(late || !need)=true→Dw wt (listed.setIfInBounds i true):=fun hl x hx=>by
    cases hlate:late with
    |true=>exact A8 (hL hlate) i x hx
    |false=>
     rw[hlate]at hl;have hn0:need=false:=by simpa using hl
     rw[hn0]at hne;have hne:cR ops wt i=false:=by cases hnn:cR ops wt i with|false=>rfl|true=>exact absurd (hne hnn) (by decide)
     by_cases hxi:x=i
     ·subst hxi;have hls:x < listed.size:=by omega
      simp[hls]
     ·unfold cR at hne;rw[List.any_eq_false]at hne;have:=hne x hx;simp only[aO,bne_iff_ne,ne_eq,Bool.not_eq_true',not_and,Bool.not_eq_false]at this;obtain⟨_,oj,hoj,hal⟩:=hall;exact getD_set_true (oT hc x ops.size i oj hoj (this hxi) hal)
   have next:∀(fr':Bool) (st':St) (a':Act) (w':World) (r':cT) (pub':cY),bP C st' a' w' r' pub'→oM pub w pub' w'→(need=true→fG keep r w r' w')→(fr'=true→pub'=pub0)→kH P keep base K p fr' st' →
     (cR ops wt i=true→SS keep r0 pub0 w0 w→SS keep r0 pub0 w0 w')∧gY P .any ops Q (SS keep r0 pub0 w0) (cR ops wt) (fuel - 1) (listed.setIfInBounds i true) a' w':=fun fr' st' a' w' r' pub' hh he hk hq hKp=>by
    have m':RV keep C r0 pub0 w0 (late || !need) fr' st' a' w' r' pub':=by
     refine⟨hh,fun hl=>?_,hq,m.ext.trans he,fun k hk'=>?_⟩
     ·simp only[Bool.or_eq_false_iff,Bool.not_eq_false']at hl;exact(m.ks hl.1).trans (hk hl.2)
     ·cases hnd:need with
      |false=>right;simp
      |true=>
       have hl0:late=false:=by
        cases hlate:late with
        |false=>rfl
        |true=>have:=hln hlate;rw[hnd]at this;cases this
       rcases m.some_ k hk' with h1|h1
       ·left;rw[(hk hnd k hk').1];exact h1
       ·rw[hl0]at h1;cases h1
    refine⟨fun hn _=>?_,(ih wt keep r0 pub0 w0 hm0 (late || !need) fr' (fuel - 1) _ st' a' w' r' pub' (by simp[cV.size]at hf;omega) (pH hc hrd) (by simpa using hz) m' hL' hKp).1 hfit⟩;have hn:=hne hn;subst hn;have hl0:late=false:=by
     cases hlate:late with
     |false=>rfl
     |true=>have:=hln hlate;cases this
    subst hl0;exact m'.ss
   have want:dW P (if need then keep else []) (some (base+rk)) s.d st (kH P keep base K p (fr && s.op.quiet)) s.op→o.wp P a w (fun a' w'=>(cR ops wt i=true→SS keep r0 pub0 w0 w→SS keep r0 pub0 w0 w')∧gY P .any ops Q (SS keep r0 pub0 w0) (cR ops wt) (fuel - 1) (listed.setIfInBounds i true) a' w') Q:=fun hw=>by
    rw[hd]at hw;refine Oper.wp_mono (fun a' w' hp=>?_) (hop C st a w r pub (if need then keep else []) _ _ Q (fun n hn=>by rw[hN];exact hdn n hn) (fun k hk=>?_) m.h hw)
    ·obtain⟨st',r',pub',hk,hh,he,hkp,hq⟩:=hp;refine next _ st' a' w' r' pub' hh he (fun hn=>by rw[hn]at hkp;exact hkp) (fun hfr=>?_) hk
     simp only[aO]at hfr;rw[hq hfr.2,m.eq hfr.1]
    ·cases hnd:need with
     |false=>rw[hnd]at hk;simp at hk
     |true=>
      rw[hnd]at hk;rcases m.some_ k hk with h1|h1
      ·exact h1
      ·have:=hln h1;rw[hnd]at this;cases this
   unfold wpOp;rw[ho];show if Region.wanted o (yielded ops a.tmps)=true then _ else _
   unfold kH vK at hK;cases hgs:s.g with
   |none=>
    rw[hgs]at hK;rw[aF (g1 hgs)];exact .inl (want hK)
   |some tb=>
    obtain⟨t,b⟩:=tb;rw[hgs]at hK;dsimp only at hK;cases hcv:dR st.T t with
    |bl c=>
     rw[hcv]at hK;have hw:=g2 t b c hgs hcv;cases hcb:(c == b) with
     |true=>
      simp only[Ah,hcb,if_true]at hK;rw[aF (hw.trans hcb)];exact .inl (want hK)
     |false=>
      simp only[Ah,hcb,aZ,if_false]at hK;rw[aE (by rw[hw,hcb];simp)];rw[hd]at hK;exact next _ _ _ _ r pub (m.h.put (fun n hn=>by rw[hN];exact hdn n hn) lT) (oM.refl _ _) (fun _=>fG.refl _ _ _) (fun hfr=>by simp only[aO]at hfr;exact m.eq hfr.1) hK
    |tup q=>
     rw[hcv]at hK;cases q with
     |nil=>
      rw[aE (by rw[g3 t b hgs hcv];simp)];rw[hd]at hK;exact next _ _ _ _ r pub (m.h.put (fun n hn=>by rw[hN];exact hdn n hn) lT) (oM.refl _ _) (fun _=>fG.refl _ _ _) (fun hfr=>by simp only[aO]at hfr;exact m.eq hfr.1) hK
     |cons=>exact hK.elim
    |_=>rw[hcv]at hK;exact hK.elim
  have hf0:0 < fuel:=by simp[cV.size]at hf;omega
  refine⟨fun hp=>?_,fun hp j hj hrd=>?_⟩
  ·obtain⟨hr,hss,hne,hln,hfit⟩:=hp;have hr:=hr rfl;cases fuel with
   |zero=>omega
   |succ fuel=>
    refine⟨fun h0=>(by rw[hr]at h0;cases h0),fun j hj=>?_⟩;have hj':=hj;rw[hr]at hj';obtain rfl:j=i:=by simpa using hj'
    exact key hss hne hln hfit hj hf0
  ·obtain⟨_,hss,hne,hln,hfit⟩:=hp;obtain rfl:j=i:=by simpa [cV.heads]using hj
   exact key hss hne hln hfit hrd hf0
 |fork p q ihp ihq=>
  intro wt keep r0 pub0 w0 hm0 late fr fuel listed st a w r pub hf hc hz m hL hK;obtain⟨hKp,hKq⟩:=hK;simp only[cV.size,Nat.max_le]at hf;have hp0:=ihp wt keep r0 pub0 w0 hm0 late fr fuel listed st a w r pub hf.1 hc hz m hL hKp;have hq0:=ihq wt keep r0 pub0 w0 hm0 late fr fuel listed st a w r pub hf.2 hc hz m hL hKq;have arms:eP P N ops wt p true late listed→eP P N ops wt q true late listed→∀i∈(cV.fork p q).heads,i∈Region.ready .any ops listed →
    wpOp P ops Q i (fun a' w'=>(cR ops wt i=true→SS keep r0 pub0 w0 w→SS keep r0 pub0 w0 w')∧gY P .any ops Q (SS keep r0 pub0 w0) (cR ops wt) (fuel - 1) (listed.setIfInBounds i true) a' w') a w:=fun h1 h2 i hi hrd=>by
   simp only[cV.heads,List.mem_append]at hi;rcases hi with hi|hi
   ·exact hp0.2 h1 i hi hrd
   ·exact hq0.2 h2 i hi hrd
  refine⟨fun hp=>?_,fun hp=>arms hp.2.1 hp.2.2⟩;obtain⟨hr,h1,h2⟩:=hp;have hr:=hr rfl;cases fuel with
  |zero=>
   have:=(vE p late listed h1).2;omega
  |succ fuel=>
   refine⟨fun h0=>?_,fun j hj=>arms h1 h2 j (by rw[hr]at hj;exact hj) hj⟩;have:=(vE p late listed h1).1;rw[hr]at h0;simp at h0;exact absurd h0.1 this
 |phase wt2 p ih=>
  intro wt keep r0 pub0 w0 hm0 late fr fuel listed st a w r pub hf hc hz m hL hK;refine⟨fun hp=>?_,fun hp=>by cases hp.1⟩;obtain⟨_,hnn,hfit⟩:=hp;have m':RV (yF p st) C r pub w false true st a w r pub:=⟨m.h,fun _=>fG.refl _ _ _,fun _=>rfl,oM.refl _ _,fun k hk=>.inl (pC m.h (p.dry st) [] k hk)⟩
  exact nG fuel listed a w hnn ((ih wt2 (yF p st) r pub w m.h.mod.there false true fuel listed st a w r pub (by simpa [cV.size]using hf) hc hz m' (fun h=>by cases h) hK).1 hfit)
 |more wt2 p ih=>
  intro wt keep r0 pub0 w0 hm0 late fr fuel listed st a w r pub hf hc hz m hL hK;refine⟨fun hp=>?_,fun hp=>by cases hp.1⟩;obtain⟨_,hlate,hmo,hfit⟩:=hp;subst hlate;obtain⟨hmo1,hmo2⟩:=Ks hmo;have m':RV (Jk keep (yF p st)) C r pub w false true st a w r pub:=⟨m.h,fun _=>fG.refl _ _ _,fun _=>rfl,oM.refl _ _,fun k hk=>.inl (by
   unfold Jk at hk;rcases List.mem_append.1 hk with h1|h1
   ·rcases m.some_ k h1 with h2|h2
    ·exact h2
    ·cases h2
   ·exact pC m.h (p.dry st) [] k (List.mem_filter.1 h1).1)⟩
  have hSS:∀w',SS (Jk keep (yF p st)) r pub w w'→SS keep r0 pub0 w0 w':=fun w' h=>by
   refine⟨fun _ b i u hi hu=>?_,fun k hk z hz b hb=>?_⟩
   ·exact h.cell rfl b i u (Nat.lt_of_lt_of_le hi (m.ext.le b)) (m.ext.cell b i u hi hu)
   ·obtain⟨e1,e2⟩:=m.ks rfl k hk;have h1:=h.ent k (List.mem_append_left _ hk) z (by rw[e1];exact hz) b hb;exact h1.trans (e2 z hz b hb)
  exact xR hSS hmo1 fuel listed a w hmo2 hc ⟨fun _ _ _ _ _ h=>h,fun _ _ _ _ _ _=>rfl⟩ ((ih wt2 _ r pub w m.h.mod.there false true fuel listed st a w r pub (by simpa [cV.size]using hf) hc hz m' (fun h=>by cases h) hK).1 hfit)
end
inductive fM where
 |skip
 |reg (l:List dM)
 |dreg (p:cV) (n:Nat) (roots:List Nat)
 |seq (a b:fM)
 |cond (c:XA) (a b:fM)
 |block (id:Nat) (a:fM)
 |loop (a:fM)
 |exit (id:Nat)
 |ret
 |scope (a:fM)
 |label (l:Nat)
 |goto (l:Nat)
inductive vC where
 |norm
 |exit (id:Nat)
 |ret
 |goto (l:Nat)
def Js:Op→Bool
 |.box ..=>true
 |.alloc ..=>true
 |.buildSlice ..=>true
 |.makeMap ..=>true
 |.makeSlice ..=>true
 |.range ..=>true
 |.call c=>match c.callee with
  |.builtin .append=>true
  |_=>false
 |_=>false
def vI (ops:Array Oper) (i:Nat):Nat:=(ops.toList.take i).countP fun o=>Js o.op
def GN (ops:Array Oper):Nat:=ops.toList.countP fun o=>Js o.op
def Jb (P:bI) (ops:Array Oper):List Nat:=(List.range ops.size).filter fun i=>match ops[i]? with
 |some o=>match To P o with
  |some x=>x.loads
  |none=>false
 |none=>false
def PV (P:bI) (ops:Array Oper) (listed:Array Bool) (i:Nat):Bool:=
 match ops[i]? with
 |some o=>match To P o with
  |some x=>x.isPure && Region.free .any ops listed i
  |none=>false
 |none=>false
def Aa (P:bI) (N:Nat) (ops:Array Oper) (i:Nat):Option dM:=
 match ops[i]? with
 |some o=>EC P N ops o
 |none=>none
def hU.isBsl:hU→Bool
 |.bsl ..=>true
 |.call ..=>true
 |_=>false
def FE (P:bI) (ops:Array Oper) (b:Nat):Bool:=(Jb P ops).any fun x=>lB .any ops b ops.size x
def Ac (P:bI) (ops:Array Oper):List Nat:=(List.range ops.size).filter fun b=>match ops[b]? with
 |some o=>match To P o with
  |some x=>!x.isPure && (x.isBsl && FE P ops b || (List.range ops.size).all fun j=>j == b || lB .any ops j ops.size b || lB .any ops b ops.size j)
  |none=>false
 |none=>false
def yK (P:bI) (ops:Array Oper) (bl:List Nat) (listed:Array Bool):List Nat:=(Jb P ops).filter fun x=>!(bl.any fun b=>!(listed.getD b true) && lB .any ops b ops.size x)
def tT (ops:Array Oper) (wt:List Nat) (listed:Array Bool):Bool:=(List.range listed.size).all fun j=>listed.getD j true || !cR ops wt j
theorem qO {ops:Array Oper}{wt:List Nat}{listed:Array Bool}(h:tT ops wt listed=true):∀j,listed.getD j true=false→cR ops wt j=false:=fun j hj=>by
 have hl:j < listed.size:=by
  rcases aL j listed.size with h1|h1
  ·exact h1
  ·simp[Array.getElem?_eq_none h1]at hj
 have:=aT.1 h j (List.mem_range.2 hl);rw[hj]at this;simpa using this
def K7 (P:bI) (ops:Array Oper) (i:Nat):Bool:=(List.range ops.size).any fun j=>(match ops[j]? with
 |some o=>match To P o with
  |some (.call ..)=>true
  |_=>false
 |none=>false) && lB .any ops j ops.size i
def Ds (P:bI) (ops:Array Oper) (bl wt:List Nat) (listed:Array Bool):List Nat:=wt++(yK P ops bl listed).filter fun x=>!wt.contains x
def gG (P:bI) (N:Nat) (ops:Array Oper) (bl:List Nat):List Nat→Nat→Bool→Array Bool→Option cV
 |_,0,_,listed=>if Region.ready .any ops listed=[] then some .nil else none
 |wt,fuel+1,late,listed=>
  match Region.ready .any ops listed with
  |[]=>some .nil
  |rs=>match rs.find? (PV P ops listed) with
   |some i=>match Aa P N ops i with
    |some s=>if (s.op.loads && (K7 P ops i && tT ops wt listed))=true then
     if s.op.isPure=true∧(s.op.loads=true→(yK P ops bl listed).contains i=true)∧Region.free .any ops listed i=true∧(Region.ready .any ops listed).contains i=true then
      (gG P N ops bl (yK P ops bl listed) fuel false (listed.setIfInBounds i true)).map fun p=>.phase (yK P ops bl listed) (.take i s p) else none
     else if s.op.isPure=true∧(s.op.loads=true→wt.contains i=true)∧Region.free .any ops listed i=true∧(Region.ready .any ops listed).contains i=true then
      (gG P N ops bl wt fuel late (listed.setIfInBounds i true)).map (.take i s)
     else if late=false∧Dn ops wt (Ds P ops bl wt listed) listed=true∧s.op.isPure=true∧(s.op.loads=true→(Ds P ops bl wt listed).contains i=true)∧Region.free .any ops listed i=true∧(Region.ready .any ops listed).contains i=true then
      (gG P N ops bl (Ds P ops bl wt listed) fuel false (listed.setIfInBounds i true)).map fun p=>.more (Ds P ops bl wt listed) (.take i s p) else arms rs (fun i=>match Aa P N ops i with
     |some s=>if late=true∧cR ops wt i=true then none else
      if (bl.contains i && tT ops wt (listed.setIfInBounds i true) && !(yK P ops bl (listed.setIfInBounds i true)).isEmpty)=true then
       (gG P N ops bl (yK P ops bl (listed.setIfInBounds i true)) fuel false (listed.setIfInBounds i true)).map fun p=>.eff i (vI ops i) (cR ops wt i) s (.phase (yK P ops bl (listed.setIfInBounds i true)) p)
      else match gG P N ops bl wt fuel (late || !cR ops wt i) (listed.setIfInBounds i true) with
       |some p=>some (.eff i (vI ops i) (cR ops wt i) s p)
       |none=>if late=true∨cR ops wt i=true then none else (gG P N ops bl wt fuel false (listed.setIfInBounds i true)).map (.eff i (vI ops i) true s)
     |none=>none)
    |none=>none
   |none=>arms rs (fun i=>match Aa P N ops i with
    |some s=>if late=true∧cR ops wt i=true then none else
     if (bl.contains i && tT ops wt (listed.setIfInBounds i true) && !(yK P ops bl (listed.setIfInBounds i true)).isEmpty)=true then
      (gG P N ops bl (yK P ops bl (listed.setIfInBounds i true)) fuel false (listed.setIfInBounds i true)).map fun p=>.eff i (vI ops i) (cR ops wt i) s (.phase (yK P ops bl (listed.setIfInBounds i true)) p)
     else match gG P N ops bl wt fuel (late || !cR ops wt i) (listed.setIfInBounds i true) with
      |some p=>some (.eff i (vI ops i) (cR ops wt i) s p)
      |none=>if late=true∨cR ops wt i=true then none else (gG P N ops bl wt fuel false (listed.setIfInBounds i true)).map (.eff i (vI ops i) true s)
    |none=>none)
where arms:List Nat→(Nat→Option cV)→Option cV
 |[],_=>none
 |[i],f=>f i
 |i :: j :: l,f=>match f i,arms (j :: l) f with
  |some p,some q=>some (.fork p q)
  |_,_=>none
theorem iK {P:bI}{N:Nat}{ops:Array Oper}{i:Nat}{s:dM}(h:Aa P N ops i=some s):uA P N ops i s:=by
 unfold Aa at h
 split at h
 ·rename_i o ho;exact⟨o,ho,h⟩
 ·cases h
theorem C1 {P:bI}{N:Nat}{ops:Array Oper}{wt:List Nat}{late:Bool}{listed:Array Bool}{f:Nat→Option cV}(hf:∀i p,f i=some p→p.heads=[i]∧eP P N ops wt p true late listed) :
  ∀(l:List Nat) (p:cV),gG.arms l f=some p→p.heads=l∧eP P N ops wt p true late listed
 |[],p,h=>by cases h
 |[i],p,h=>hf i p h
 |i :: j :: l,p,h=>by
  unfold gG.arms at h
  split at h
  ·rename_i p1 q1 h1 h2;cases h;obtain⟨e1,f1⟩:=hf i p1 h1;obtain⟨e2,f2⟩:=C1 hf (j :: l) q1 h2;exact⟨by simp[cV.heads,e1,e2],⟨(fun h=>by cases h),f1,f2⟩⟩
  ·cases h
theorem xT {P:bI}{N:Nat}{ops:Array Oper}{wt:List Nat}{late:Bool}{listed:Array Bool}{p:cV}(h:eP P N ops wt p true late listed) (hr:Region.ready .any ops listed=p.heads):eP P N ops wt p false late listed:=by
 cases p with
 |nil=>cases h.1
 |take=>cases h.1
 |eff i rk need s p=>exact⟨fun _=>hr,h.2⟩
 |phase=>cases h.1
 |more=>cases h.1
 |fork p q=>exact⟨fun _=>hr,h.2⟩
theorem gV {P:bI}{N:Nat}{ops:Array Oper}{bl:List Nat}:∀(wt:List Nat) (fuel:Nat) (late:Bool) (listed:Array Bool) (p:cV),gG P N ops bl wt fuel late listed=some p→eP P N ops wt p false late listed
 |wt,0,late,listed,p,h=>by
  unfold gG at h
  split at h
  ·rename_i h0;cases h;exact⟨rfl,h0⟩
  ·cases h
 |wt,fuel+1,late,listed,p,h=>by
  unfold gG at h
  split at h
  ·rename_i h0;cases h;exact⟨rfl,h0⟩
  ·rename_i h0
   split at h
   ·rename_i i hi
    split at h
    ·rename_i s hs
     split at h
     ·rename_i hph;simp only[aO]at hph
      split at h
      ·rename_i hc;obtain⟨q,hq,rfl⟩:=map_some h;exact⟨rfl,qO hph.2.2,rfl,iK hs,hc.1,hc.2.1,hc.2.2.1,hc.2.2.2,gV _ fuel _ _ _ hq⟩
      ·cases h
     ·split at h
      ·rename_i hc;obtain⟨q,hq,rfl⟩:=map_some h;exact⟨rfl,iK hs,hc.1,hc.2.1,hc.2.2.1,hc.2.2.2,gV wt fuel _ _ _ hq⟩
      ·split at h
       ·rename_i hc;obtain⟨q,hq,rfl⟩:=map_some h;exact⟨rfl,hc.1,hc.2.1,rfl,iK hs,hc.2.2.1,hc.2.2.2.1,hc.2.2.2.2.1,hc.2.2.2.2.2,gV _ fuel _ _ _ hq⟩
       ·obtain⟨h1,h2⟩:=C1 (P:=P) (N:=N) (ops:=ops) (wt:=wt) (late:=late) (listed:=listed) (fun i p hp=>by
         split at hp
         ·rename_i s hs
          split at hp
          ·cases hp
          ·rename_i hc;have hne:late=true→cR ops wt i=false:=fun hl=>by
            cases hn:cR ops wt i with
            |false=>rfl
            |true=>exact absurd ⟨hl,hn⟩ hc
           split at hp
           ·rename_i hb;obtain⟨q,hq,rfl⟩:=map_some hp;simp only[aO]at hb;exact⟨rfl,(fun h=>by cases h),iK hs,id,hne,rfl,qO hb.1.2,gV _ fuel _ _ _ hq⟩
           ·split at hp
            ·rename_i q hq;cases hp;exact⟨rfl,(fun h=>by cases h),iK hs,id,hne,gV wt fuel _ _ _ hq⟩
            ·split at hp
             ·cases hp
             ·rename_i hl;obtain⟨q,hq,rfl⟩:=map_some hp;have hl0:late=false:=by cases late with|false=>rfl|true=>exact absurd (.inl rfl) hl
              subst hl0;exact⟨rfl,(fun h=>by cases h),iK hs,fun _=>rfl,(fun h=>by cases h),gV wt fuel _ _ _ hq⟩
         ·cases hp) _ _ h
        exact xT h2 h1.symm
    ·cases h
   ·obtain⟨h1,h2⟩:=C1 (P:=P) (N:=N) (ops:=ops) (wt:=wt) (late:=late) (listed:=listed) (fun i p hp=>by
     split at hp
     ·rename_i s hs
      split at hp
      ·cases hp
      ·rename_i hc;have hne:late=true→cR ops wt i=false:=fun hl=>by
        cases hn:cR ops wt i with
        |false=>rfl
        |true=>exact absurd ⟨hl,hn⟩ hc
       split at hp
       ·rename_i hb;obtain⟨q,hq,rfl⟩:=map_some hp;simp only[aO]at hb;exact⟨rfl,(fun h=>by cases h),iK hs,id,hne,rfl,qO hb.1.2,gV _ fuel _ _ _ hq⟩
       ·split at hp
        ·rename_i q hq;cases hp;exact⟨rfl,(fun h=>by cases h),iK hs,id,hne,gV wt fuel _ _ _ hq⟩
        ·split at hp
         ·cases hp
         ·rename_i hl;obtain⟨q,hq,rfl⟩:=map_some hp;have hl0:late=false:=by cases late with|false=>rfl|true=>exact absurd (.inl rfl) hl
          subst hl0;exact⟨rfl,(fun h=>by cases h),iK hs,fun _=>rfl,(fun h=>by cases h),gV wt fuel _ _ _ hq⟩
     ·cases hp) _ _ h
    exact xT h2 h1.symm
theorem gS {P:bI}{N:Nat}{ops:Array Oper}{bl:List Nat}:∀(wt:List Nat) (fuel:Nat) (late:Bool) (listed:Array Bool) (p:cV),gG P N ops bl wt fuel late listed=some p→p.size≤fuel
 |wt,0,late,listed,p,h=>by
  unfold gG at h
  split at h
  ·cases h;exact aI _
  ·cases h
 |wt,fuel+1,late,listed,p,h=>by
  have key:∀(f:Nat→Option cV),(∀i p,f i=some p→p.size≤fuel+1)→∀(l:List Nat) (p:cV),gG.arms l f=some p→p.size≤fuel+1:=by
   intro f hf l
   induction l with
   |nil=>intro p h;cases h
   |cons i l ih=>
    intro p h;cases l with
    |nil=>exact hf i p h
    |cons j l=>
     unfold gG.arms at h
     split at h
     ·rename_i p1 q1 h1 h2;cases h;have:=hf i p1 h1;have:=ih q1 h2;simp[cV.size];omega
     ·cases h
  unfold gG at h
  split at h
  ·cases h;exact aI _
  ·split at h
   ·split at h
    ·split at h
     ·split at h
      ·obtain⟨q,hq,rfl⟩:=map_some h;have:=gS _ fuel _ _ _ hq;simp[cV.size];omega
      ·cases h
     ·split at h
      ·obtain⟨q,hq,rfl⟩:=map_some h;have:=gS wt fuel _ _ _ hq;simp[cV.size];omega
      ·split at h
       ·obtain⟨q,hq,rfl⟩:=map_some h;have:=gS _ fuel _ _ _ hq;simp[cV.size];omega
       ·refine key _ (fun i p hp=>?_) _ _ h
        split at hp
        ·split at hp
         ·cases hp
         ·split at hp
          ·obtain⟨q,hq,rfl⟩:=map_some hp;have:=gS _ fuel _ _ _ hq;simp[cV.size];omega
          ·split at hp
           ·rename_i q hq;cases hp;have:=gS wt fuel _ _ _ hq;simp[cV.size];omega
           ·split at hp
            ·cases hp
            ·obtain⟨q,hq,rfl⟩:=map_some hp;have:=gS wt fuel _ _ _ hq;simp[cV.size];omega
        ·cases hp
    ·cases h
   ·refine key _ (fun i p hp=>?_) _ _ h
    split at hp
    ·split at hp
     ·cases hp
     ·split at hp
      ·obtain⟨q,hq,rfl⟩:=map_some hp;have:=gS _ fuel _ _ _ hq;simp[cV.size];omega
      ·split at hp
       ·rename_i q hq;cases hp;have:=gS wt fuel _ _ _ hq;simp[cV.size];omega
       ·split at hp
        ·cases hp
        ·obtain⟨q,hq,rfl⟩:=map_some hp;have:=gS wt fuel _ _ _ hq;simp[cV.size];omega
    ·cases hp
def tI (ops:Array Oper):Nat→Operand→List Nat
 |0,_=>[]
 |n+1,.tmp t=>match ops.toList.find? (fun o=>o.dst == some t) with
  |none=>[t]
  |some o=>match o.op with
   |.fieldAddr _ x _=>tI ops n x
   |.nilCheck x=>tI ops n x
   |.move x=>tI ops n x
   |.indexAddr _ x _=>tI ops n x
   |_=>[]
 |_,_=>[]
def Qb (ops:Array Oper):List Nat:=(ops.toList.flatMap fun o=>match o.op with
 |.load _ x=>tI ops ops.size x
 |.lookup _ x _ _=>tI ops ops.size x
 |.call c=>match c.callee,c.args.toList with
  |.builtin .len,[x]=>tI ops ops.size x
  |_,_=>[]
 |_=>[]).eraseDups
def eD (P:bI) (N:Nat):Code→Option fM
 |.skip=>some .skip
 |.region _ ops draw=>if draw=true then
  (if Region.noSelect ops=true∧P.follows .mixedOrders=true then (gG P N ops (Ac P ops) (yK P ops (Ac P ops) (Array.replicate ops.size false)) ops.size false (Array.replicate ops.size false)).map fun p=>.dreg p (GN ops) (Qb ops) else none)
  else (ops.toList.mapM (vU P N ops)).map .reg
 |.seq a b=>match eD P N a,eD P N b with
  |some x,some y=>some (.seq x y)
  |_,_=>none
 |.cond c a b=>match cA c,eD P N a,eD P N b with
  |some z,some x,some y=>some (.cond z x y)
  |_,_,_=>none
 |.block id a=>(eD P N a).map (.block id)
 |.loop a=>(eD P N a).map .loop
 |.exit id=>some (.exit id)
 |.ret=>some .ret
 |.scope a=>(eD P N a).map .scope
 |.label l=>some (.label l)
 |.goto l=>some (.goto l)
 |_=>none
def xJ:fM→Nat→Option fM
 |.seq a b,l=>match xJ a l with
  |some rest=>some (.seq rest b)
  |none=>xJ b l
 |.label l',l=>if l' == l then some .skip else none
 |_,_=>none
theorem Ai {P:bI}{N:Nat}(l:Nat):∀(c:Code) (x:fM),eD P N c=some x→match xJ x l with
  |some y=>∃rest,findLabel c l=some rest∧eD P N rest=some y
  |none=>findLabel c l=none
 |.seq a b,x,h=>by
  unfold eD at h
  split at h
  ·rename_i x1 x2 h1 h2;cases h;have i1:=Ai l a x1 h1;have i2:=Ai l b x2 h2;unfold xJ;cases hf:xJ x1 l with
   |some y=>
    rw[hf]at i1;obtain⟨rest,hr,hc⟩:=i1;refine⟨.seq rest b,by simp[findLabel,hr],?_⟩;unfold eD;rw[hc,h2]
   |none=>
    rw[hf]at i1;dsimp only at i1⊢;cases hg:xJ x2 l with
    |some y=>
     rw[hg]at i2;obtain⟨rest,hr,hc⟩:=i2;exact⟨rest,by simp[findLabel,i1,hr],hc⟩
    |none=>
     rw[hg]at i2;dsimp only at i2⊢;simp[findLabel,i1,i2]
  ·cases h
 |.label l',x,h=>by
  cases h;unfold xJ;by_cases e:(l' == l)=true
  ·rw[aF e];exact⟨.skip,by simp[findLabel,e],rfl⟩
  ·rw[aE e];simp[findLabel,e]
 |.skip,x,h=>by cases h;rfl
 |.region ..,x,h=>by
  unfold eD at h
  split at h
  ·split at h
   ·obtain⟨_,_,rfl⟩:=map_some h;rfl
   ·cases h
  ·obtain⟨_,_,rfl⟩:=map_some h;rfl
 |.cond ..,x,h=>by
  unfold eD at h
  split at h
  ·cases h;rfl
  ·cases h
 |.block ..,x,h=>by unfold eD at h;obtain⟨_,_,rfl⟩:=map_some h;rfl
 |.loop ..,x,h=>by unfold eD at h;obtain⟨_,_,rfl⟩:=map_some h;rfl
 |.exit ..,x,h=>by cases h;rfl
 |.ret,x,h=>by cases h;rfl
 |.scope ..,x,h=>by unfold eD at h;obtain⟨_,_,rfl⟩:=map_some h;rfl
 |.goto ..,x,h=>by cases h;rfl
def QX (C:nH) (Q:vC→St→Prop):Exit→Act→World→Prop
 |.normal=>E2 C (Q .norm)
 |.exit id=>E2 C (Q (.exit id))
 |.ret=>E2 C (Q .ret)
 |.goto l=>E2 C (Q (.goto l))
 |_=>fun _ _=>False
def R1 (K:St→Prop) (Q:vC→St→Prop):vC→St→Prop
 |.norm,st=>K st
 |.exit id,st=>Q (.exit id) st
 |.ret,st=>Q .ret st
 |.goto l,st=>Q (.goto l) st
def Wx (id:Nat) (Q:vC→St→Prop):vC→St→Prop
 |.norm,st=>Q .norm st
 |.exit id',st=>if id'=id then Q .norm st else Q (.exit id') st
 |.ret,st=>Q .ret st
 |.goto l,st=>Q (.goto l) st
def cV.forky:cV→Bool
 |.nil=>false
 |.take _ _ p=>p.forky
 |.eff _ _ _ _ p=>p.forky
 |.fork _ _=>true
 |.phase _ p=>p.forky
 |.more _ p=>p.forky
def OH (K:St→Prop) (st:St):Prop:=K ⟨Jo st.T,st.H⟩
structure qI (P:bI) (N M:Nat) (c:fM) (Q:vC→St→Prop) (st:St):Prop where
 out:∀(code:Code) (C:nH) (a:Act) (w:World) (r:cT) (pub:cY),eD P N code=some c→C.n=N→C.m=M→bP C st a w r pub→(Code.loop code).wp P (QX C Q) a w
structure Jd (P:bI) (N M:Nat) (c:fM) (Q:vC→St→Prop) (st:St):Prop where
 out:∀(code:Code) (C:nH) (a:Act) (w:World) (r:cT) (pub:cY),eD P N code=some c→C.n=N→C.m=M→bP C st a w r pub→(Code.scope code).wp P (QX C Q) a w
def XW (P:bI) (N M:Nat):fM→(vC→St→Prop)→St→Prop
 |.skip,Q,st=>Q .norm st
 |.reg l,Q,st=>F5 P (Q .norm) l st
 |.dreg p n _,Q,st=>kH P (yF p st) st.H.length (if p.forky=true then OH (Q .norm) else Q .norm) p true ⟨st.T,st.H++List.replicate n .dead⟩
 |.seq a b,Q,st=>XW P N M a (R1 (XW P N M b Q) Q) st
 |.cond c a b,Q,st=>match st.ev c with
  |.bl t=>Ah t (fun _=>XW P N M a Q st) (fun _=>XW P N M b Q st)
  |_=>False
 |.block id a,Q,st=>XW P N M a (Wx id Q) st
 |.loop a,Q,st=>qI P N M a Q st
 |.exit id,Q,st=>Q (.exit id) st
 |.ret,Q,st=>Q .ret st
 |.scope c,Q,st=>Jd P N M c Q st
 |.label _,Q,st=>Q .norm st
 |.goto l,Q,st=>Q (.goto l) st
section
variable {P:bI}{N M:Nat}
theorem I0:∀(code:Code) (x:fM) (Q:vC→St→Prop) (C:nH) (st:St) (a:Act) (w:World) (r:cT) (pub:cY),eD P N code=some x→C.n=N→C.m=M→bP C st a w r pub→XW P N M x Q st→code.wp P (QX C Q) a w:=by
 intro code
 induction code with
 |skip=>
  intro x Q C st a w r pub hx hN hM h hK;cases hx;exact wp_skip ⟨st,r,pub,hK,h⟩
 |region id ops draw=>
  intro x Q C st a w r pub hx hN hM h hK;unfold eD at hx;cases draw with
  |false=>
   simp only[aZ,if_false]at hx;obtain⟨l,hl,rfl⟩:=map_some hx;exact wp_region_list (Dh (fun a w h=>h) hN _ _ st a w r pub hl h hK)
  |true=>
   simp only[if_true]at hx
   split at hx
   ·rename_i hc;obtain⟨p,hp,rfl⟩:=map_some hx;have hd:=h.draws.room (GN ops);have hks:=pC h (p.dry st) [];have m:RV (yF p st) C r pub w.drew false true ⟨st.T,st.H++List.replicate (GN ops) .dead⟩ a w.drew r pub:=⟨hd,fun _=>fG.refl _ _ _,fun _=>rfl,oM.refl _ _,fun k hk=>.inl (hks k hk)⟩
    have hsort:∀a w,E2 C (if p.forky=true then OH (Q .norm) else Q .norm) a w→QX C Q .normal a w:=fun a w ⟨st,r,pub,hk,hh⟩=>by
     split at hk
     ·exact⟨_,r,pub,hk,⟨hh.mod,hh.own,hh.fr,fun n=>by dsimp only;rw[B0];exact hh.slots n,hh.defers,hh.size,hh.stab,hh.low⟩⟩
     ·exact⟨st,r,pub,hk,hh⟩
    have:=(PO (P:=P) (N:=N) (Q:=QX C Q) (K:=if p.forky=true then OH (Q .norm) else Q .norm) hc.1 (fun c a d v w h=>h.elim) hsort hN p (yK P ops (Ac P ops) (Array.replicate ops.size false)) _ _ _ _ hd.mod.there false true ops.size (Array.replicate ops.size false) _ a w.drew r pub
     (gS _ _ _ _ _ hp) (Dt _) (by simp) m (fun h=>by cases h) hK).1 (gV _ _ _ _ _ hp)
    exact wp_region_any hc.2 (AY _ _ _ _ this)
   ·cases hx
 |seq c1 c2 ih1 ih2=>
  intro x Q C st a w r pub hx hN hM h hK;unfold eD at hx
  split at hx
  ·rename_i x1 x2 h1 h2;cases hx;refine wp_seq (wp_mono (ih1 x1 _ C st a w r pub h1 hN hM h hK) fun e a' w' hq=>?_);cases e with
   |normal=>
    obtain⟨st',r',pub',hk,hh⟩:=hq;exact ih2 x2 Q C st' a' w' r' pub' h2 hN hM hh hk
   |exit id=>exact hq
   |ret=>exact hq
   |goto l=>exact hq
   |panic ch=>exact hq.elim
   |outgrown=>exact hq.elim
  ·cases hx
 |cond c c1 c2 ih1 ih2=>
  intro x Q C st a w r pub hx hN hM h hK;unfold eD at hx
  split at hx
  ·rename_i z x1 x2 hz h1 h2;cases hx;unfold XW at hK;have hv:=h.ev hz;generalize hev:st.ev z=y at hK hv;cases y with
   |bl t=>
    generalize hva:a.eval c=v at hv;cases hv;dsimp only at hK;refine wp_cond hva ?_;cases t with
    |true=>exact ih1 x1 Q C st a w r pub h1 hN hM h hK
    |false=>exact ih2 x2 Q C st a w r pub h2 hN hM h hK
   |_=>exact hK.elim
  ·cases hx
 |block id c ih=>
  intro x Q C st a w r pub hx hN hM h hK;unfold eD at hx;obtain⟨y,hy,rfl⟩:=map_some hx;refine wp_block (wp_mono (ih y _ C st a w r pub hy hN hM h hK) fun e a' w' hq=>?_);cases e with
  |normal=>exact hq
  |exit id'=>
   show if id'=id then _ else _
   obtain⟨st',r',pub',hk,hh⟩:=hq;have hk:if id'=id then Q .norm st' else Q (.exit id') st':=hk
   split
   ·rename_i e;rw[aF e]at hk;exact⟨st',r',pub',hk,hh⟩
   ·rename_i e;rw[aE e]at hk;exact⟨st',r',pub',hk,hh⟩
  |ret=>exact hq
  |goto l=>exact hq
  |panic ch=>exact hq.elim
  |outgrown=>exact hq.elim
 |loop c ih=>
  intro x Q C st a w r pub hx hN hM h hK;unfold eD at hx;obtain⟨y,hy,rfl⟩:=map_some hx;exact hK.out c C a w r pub hy hN hM h
 |exit id=>
  intro x Q C st a w r pub hx hN hM h hK;cases hx;exact wp_exit ⟨st,r,pub,hK,h⟩
 |ret=>
  intro x Q C st a w r pub hx hN hM h hK;cases hx;exact wp_ret ⟨st,r,pub,hK,h⟩
 |scope c ih=>
  intro x Q C st a w r pub hx hN hM h hK;unfold eD at hx;obtain⟨y,hy,rfl⟩:=map_some hx;exact hK.out c C a w r pub hy hN hM h
 |label l=>
  intro x Q C st a w r pub hx hN hM h hK;cases hx;exact wp_label ⟨st,r,pub,hK,h⟩
 |goto l=>
  intro x Q C st a w r pub hx hN hM h hK;cases hx;exact wp_goto ⟨st,r,pub,hK,h⟩
 |_=>intro x Q C st a w r pub hx;cases hx
end
def Gh (M:Nat) (st st':St):Prop:=∀(C:nH) (a:Act) (w:World) (r:cT) (pub:cY),C.m=M→bP C st a w r pub→∃r' pub',bP C st' a w r' pub'
section
variable {M:Nat}
theorem Gh.refl (st:St):Gh M st st:=fun _ _ _ r pub _ h=>⟨r,pub,h⟩
theorem Gh.trans {s1 s2 s3:St}(h:Gh M s1 s2) (k:Gh M s2 s3):Gh M s1 s3:=fun C a w r pub hM hh=>by
 obtain⟨r1,p1,h1⟩:=h C a w r pub hM hh;exact k C a w r1 p1 hM h1
def vD:Option cG→Option (Nat×Nat×List AV)
 |some (.row t sz xs)=>some (t,sz,xs)
 |_=>none
theorem Gh.publish {st:St}(k:Nat) {t sz:Nat}{xs:List AV}(hk:vD st.H[k]?=some (t,sz,xs)):Gh M st ⟨st.T,st.H.set k (.tip t sz xs)⟩:=fun C a w r pub _ h=>by
 have hk':st.H[k]?=some (.row t sz xs):=by
  cases he:st.H[k]? with
  |none=>rw[he]at hk;cases hk
  |some e=>cases e<;>rw[he]at hk<;>cases hk<;>rfl
 obtain⟨pub',h',_⟩:=h.publish hk';exact⟨r,pub',h'⟩
theorem Gh.adopt {st:St}(n t sz:Nat) (hn:dR st.T n=.v (.slice none 0 0)):Gh M st ⟨QB st.T n (.hd st.H.length),st.H++[.row t sz []]⟩:=fun C a w r pub _ h=>by
 have hd:=h.room 1;have hq:(st.H++List.replicate 1 cG.dead)[st.H.length]?=some .dead:=by simp
 have h1:=hd.adopt hq t sz;have hset:(st.H++List.replicate 1 cG.dead).set st.H.length (.row t sz [])=st.H++[.row t sz []]:=by simp
 dsimp only at h1;rw[hset]at h1;refine⟨fX r st.H.length (.slice none 0 0),pub,h1.mod,h1.own,h1.fr,fun m=>?_,h1.defers,h1.size,h1.stab,h1.low⟩;dsimp only;rw[Bg]
 split
 ·rename_i e;subst e;have:=h.slots n;rw[hn]at this;rw[GB this];exact .hd (cB _ _ _) rfl
 ·exact h1.slots m
def sK (T:List (Nat×AV)):List (Nat×AV)→Prop
 |[]=>True
 |(n,x) :: l=>(dR T n=x∨x=.any)∧sK T l
def vQ (n:Nat):List (Nat×AV)→Bool
 |[]=>true
 |(_,x) :: l=>AV.bnd n x && vQ n l
def fD (n:Nat):List cG→Bool
 |[]=>true
 |e :: l=>qD n e && fD n l
theorem wO {T:List (Nat×AV)}:∀{T':List (Nat×AV)},sK T T'→∀m,dR T' m=.any∨dR T' m=dR T m
 |[],_,m=>.inl rfl
 |(n,x) :: l,h,m=>by
  simp only[dR]
  split
  ·rename_i e;subst e;rcases h.1 with h1|h1
   ·exact .inr h1.symm
   ·exact .inl h1
  ·exact wO h.2 m
theorem AM {n:Nat}:∀{T:List (Nat×AV)},vQ n T=true→∀m,AV.bnd n (dR T m)=true
 |[],_,m=>by simp[dR,AV.bnd]
 |(k,x) :: l,h,m=>by
  unfold vQ at h;simp only[aO]at h;simp only[dR]
  split
  ·exact h.1
  ·exact AM h.2 m
theorem lY {n:Nat}:∀{H:List cG},fD n H=true→∀(k:Nat) (e:cG),H[k]?=some e→qD n e=true
 |[],_,k,e,h=>by simp at h
 |x :: l,h,0,e,he=>by
  unfold fD at h;simp only[aO]at h;simp at he;subst he;exact h.1
 |x :: l,h,k+1,e,he=>by
  unfold fD at h;simp only[aO]at h;exact lY h.2 k e (by simpa using he)
theorem Gh.weak {st st':St}(hT:sK st.T st'.T) (hH:st.H.take st'.H.length=st'.H) (hb:vQ st'.H.length st'.T=true) (hbH:fD st'.H.length st'.H=true) (hM:M≤st'.H.length):Gh M st st':=fun C a w r pub hCm h=>by
 have hget:∀k e,st'.H[k]?=some e→st.H[k]?=some e:=fun k e he=>by
  have hk:=(aA.1 he).1;rw[←hH,List.getElem?_take,aF hk]at he;exact he
 let r':cT:=fun k=>if k < st'.H.length then r k else none
 have hr':∀k,k < st'.H.length→r' k=r k:=fun k hk=>aF hk
 have hsome:∀k y,r' k=some y→r k=some y:=fun k y hy=>by
  by_cases hk:k < st'.H.length
  ·rw[hr' k hk]at hy;exact hy
  ·simp only[r',aE hk]at hy;cases hy
 refine⟨r',pub,⟨fun k e he=>?_,fun k hk=>aE (by omega),fun i j x y hij hx hy=>h.mod.disj i j x y hij (hsome _ _ hx) (hsome _ _ hy),h.mod.fresh,h.mod.there,h.mod.glob⟩,fun k x hx=>h.own k x (hsome _ _ hx),h.fr,fun m=>?_,h.defers,h.size,fun k y hy hs=>?_,⟨h.low.1,by omega⟩⟩
 ·have hk:=(aA.1 he).1;have h0:=h.mod.ent k e (hget k e he);have hbe:=lY hbH k e he;rw[hr' k hk];exact h0.congr hbe hr'
 ·rcases wO hT m with e|e
  ·rw[e];exact .any _
  ·have hbm:=AM hb m;rw[e]at hbm⊢;exact(h.slots m).congr fun n hn=>hr' n (AV.bnd_has _ hbm hn)
 ·have hk:k < st'.H.length:=by
   rcases aL k C.m with h1|h1
   ·omega
   ·rw[h.low.1 k h1]at hy;cases hy
  rw[hr' k hk];exact h.stab k y hy hs
end
theorem xL {P:bI}{Q:Exit→Act→World→Prop}{c:Code}(I:Nat→Act→World→Prop)
  (round:∀n a w,I n a w→c.wp P (Exit.then (fun a' w'=>∃m,m < n∧I m a' w') Q) a w) {n0:Nat}{a:Act}{w:World}(h₀:I n0 a w):(Code.loop c).wp P Q a w:=by
 intro b k cs;have key:∀n a w,I n a w →
   ∃e a' w',Q e a' w'∧Arrives P (lone (b.at a (.code c :: .inLoop c :: k)) cs w) b k cs e a' w':=by
  intro n
  induction n using Nat.strongRecOn with
  |_ n ih=>
   intro a w hI;obtain⟨e,a₁,w₁,hq,harr⟩:=round n a w hI b (.inLoop c :: k) cs;cases e with
   |normal=>
    obtain⟨m,hlt,hI₁⟩:=hq;obtain⟨e₂,a₂,w₂,hq₂,harr₂⟩:=ih m hlt a₁ w₁ hI₁;exact⟨e₂,a₂,w₂,hq₂,.of_steps (Steps.trans harr (.one step_inLoop)) harr₂⟩
   |exit id=>exact⟨_,a₁,w₁,hq,.pass (x:=.inLoop c) rfl (fun _ _=>.inl (by simp)) harr⟩
   |goto l=>exact⟨_,a₁,w₁,hq,.pass (x:=.inLoop c) rfl (fun _ _=>.inl (by simp)) harr⟩
   |ret=>exact⟨_,a₁,w₁,hq,.pass (x:=.inLoop c) rfl (fun _ _=>.inl (by simp)) harr⟩
   |panic ch=>exact⟨_,a₁,w₁,hq,.pass (x:=.inLoop c) rfl (fun _ _=>.inl (by simp)) harr⟩
   |outgrown=>exact⟨_,a₁,w₁,hq,.pass (x:=.inLoop c) rfl (fun _ _=>.inl (by simp)) harr⟩
 obtain⟨e,a',w',hq,harr⟩:=key n0 a w h₀;exact⟨e,a',w',hq,.of_steps (.one step_loop) harr⟩
structure Ms where
 n:Nat
 i:Nat
def Ms.val (m:Ms):Nat:=m.n - m.i
structure wK {ι:Type}(M:Nat) (F:ι→St) (μ:ι→Ms) (n:Ms) (st:St):Prop where
 out:∃st' j,Gh M st st'∧F j=st'∧(μ j).val < n.val
def Af {ι:Type}(M:Nat) (F:ι→St) (μ:ι→Ms) (n:Ms) (Q:vC→St→Prop):vC→St→Prop
 |.norm,st=>wK M F μ n st
 |.exit id,st=>Q (.exit id) st
 |.ret,st=>Q .ret st
 |.goto l,st=>Q (.goto l) st
theorem Wu {P:bI}{N M:Nat}{c:fM}{Q:vC→St→Prop}{st:St}{ι:Type}(F:ι→St) (μ:ι→Ms) (i0:ι) (h0:Gh M st (F i0)) (hr:∀i,XW P N M c (Af M F μ (μ i) Q) (F i)):qI P N M c Q st:=by
 refine⟨fun code C a w r pub hc hN hM h=>?_⟩;obtain⟨r1,p1,h1⟩:=h0 C a w r pub hM h;refine xL (fun n a w=>∃i r pub,(μ i).val=n∧bP C (F i) a w r pub) (fun n a w hI=>?_) (n0:=(μ i0).val) ⟨i0,r1,p1,rfl,h1⟩;obtain⟨i,r,pub,rfl,hh⟩:=hI;refine wp_mono (I0 code c _ C (F i) a w r pub hc hN hM hh (hr i)) fun e a' w' hq=>?_
 cases e with
 |normal=>
  obtain⟨st',r',pub',⟨⟨st2,j,hg,rfl,hlt⟩⟩,hh'⟩:=hq;obtain⟨r2,p2,h2⟩:=hg C a' w' r' pub' hM hh';exact⟨(μ j).val,hlt,j,r2,p2,rfl,h2⟩
 |exit id=>exact hq
 |ret=>exact hq
 |goto l=>exact hq
 |panic ch=>exact hq.elim
 |outgrown=>exact hq.elim
theorem Dy {P:bI}{Q:Exit→Act→World→Prop}{c rest:Code}{a:Act}{w:World}(l:Nat) (J:Nat→Act→World→Prop) (hf:findLabel c l=some rest)
  (first:c.wp P (Exit.jump l (fun a w=>∃n,J n a w) Q) a w)
  (pass:∀n a w,J n a w→rest.wp P (Exit.jump l (fun a' w'=>∃m,m < n∧J m a' w') Q) a w):(Code.scope c).wp P Q a w:=by
 intro b k cs;have hg:gotoIn l (.inScope c :: k)=some (.code rest :: .inScope c :: k):=by simp[gotoIn,hf]
 have key:∀n a w,J n a w→∃e a' w',Q e a' w'∧Arrives P (lone (b.at a (.code rest :: .inScope c :: k)) cs w) b k cs e a' w':=by
  intro n
  induction n using Nat.strongRecOn with
  |_ n ih=>
   intro a w hJ;obtain⟨e,a₁,w₁,hq,harr⟩:=pass n a w hJ b (.inScope c :: k) cs;cases e with
   |normal=>exact⟨.normal,a₁,w₁,hq,Steps.trans harr (.one step_inScope)⟩
   |exit id=>exact⟨.exit id,a₁,w₁,hq,fun k' hk=>harr k' (by simp[exitTo,hk])⟩
   |goto l'=>
    obtain⟨rfl,m,hlt,hJ'⟩:=hq;obtain⟨e₂,a₂,w₂,hq₂,harr₂⟩:=ih m hlt a₁ w₁ hJ';exact⟨e₂,a₂,w₂,hq₂,.of_steps (harr _ hg) harr₂⟩
   |ret=>exact⟨_,a₁,w₁,hq,harr⟩
   |panic ch=>exact⟨_,a₁,w₁,hq,harr⟩
   |outgrown=>exact⟨_,a₁,w₁,hq,harr⟩
 obtain⟨e,a₁,w₁,hq,harr⟩:=first b (.inScope c :: k) cs
 cases e with
 |normal=>exact⟨.normal,a₁,w₁,hq,.head step_scope (Steps.trans harr (.one step_inScope))⟩
 |exit id=>exact⟨.exit id,a₁,w₁,hq,fun k' hk=>.head step_scope (harr k' (by simp[exitTo,hk]))⟩
 |goto l'=>
  obtain⟨rfl,n,hJ'⟩:=hq;obtain⟨e₂,a₂,w₂,hq₂,harr₂⟩:=key n a₁ w₁ hJ';exact⟨e₂,a₂,w₂,hq₂,.of_steps (.head step_scope (harr _ hg)) harr₂⟩
 |ret=>exact⟨_,a₁,w₁,hq,.of_steps (.one step_scope) harr⟩
 |panic ch=>exact⟨_,a₁,w₁,hq,.of_steps (.one step_scope) harr⟩
 |outgrown=>exact⟨_,a₁,w₁,hq,.of_steps (.one step_scope) harr⟩
structure Wl {ι:Type}(M:Nat) (F:ι→St) (st:St):Prop where
 out:∃st' j,Gh M st st'∧F j=st'
def TI {ι:Type}(M:Nat) (F:ι→St) (l:Nat) (Q:vC→St→Prop):vC→St→Prop
 |.goto l',st=>l'=l∧Wl M F st
 |.norm,st=>Q .norm st
 |.exit id,st=>Q (.exit id) st
 |.ret,st=>Q .ret st
def WW {ι:Type}(M:Nat) (F:ι→St) (μ:ι→Ms) (n:Ms) (l:Nat) (Q:vC→St→Prop):vC→St→Prop
 |.goto l',st=>l'=l∧wK M F μ n st
 |.norm,st=>Q .norm st
 |.exit id,st=>Q (.exit id) st
 |.ret,st=>Q .ret st
theorem UN {P:bI}{N M:Nat}{c rest:fM}{Q:vC→St→Prop}{st:St}{ι:Type}(l:Nat) (F:ι→St) (μ:ι→Ms) (hf:xJ c l=some rest) (h0:XW P N M c (TI M F l Q) st) (hr:∀i,XW P N M rest (WW M F μ (μ i) l Q) (F i)):Jd P N M c Q st:=by
 refine⟨fun code C a w r pub hc hN hM h=>?_⟩;have hfl:=Ai l code c hc;rw[hf]at hfl;obtain⟨rc,hrc,hcc⟩:=hfl;refine Dy l (fun n a w=>∃i r pub,(μ i).val=n∧bP C (F i) a w r pub) hrc (wp_mono (I0 code c _ C st a w r pub hc hN hM h h0) fun e a' w' hq=>?_) (fun n a w hI=>?_)
 ·cases e with
  |goto l'=>
   obtain⟨st',r',pub',⟨rfl,⟨st2,j,hg,rfl⟩⟩,hh⟩:=hq;obtain⟨r2,p2,h2⟩:=hg C a' w' r' pub' hM hh;exact⟨rfl,(μ j).val,j,r2,p2,rfl,h2⟩
  |_=>exact hq
 ·obtain⟨i,r,pub,rfl,hh⟩:=hI;refine wp_mono (I0 rc rest _ C (F i) a w r pub hcc hN hM hh (hr i)) fun e a' w' hq=>?_
  cases e with
  |goto l'=>
   obtain⟨st',r',pub',⟨rfl,⟨st2,j,hg,rfl,hlt⟩⟩,hh'⟩:=hq;obtain⟨r2,p2,h2⟩:=hg C a' w' r' pub' hM hh';exact⟨rfl,(μ j).val,hlt,j,r2,p2,rfl,h2⟩
  |_=>exact hq
inductive aaM where
 |tmp (t:Nat)
 |cell (t:Nat) (ag:Bool) (n:Nat)
def HC (P:bI):List ResultVar→Option (List aaM)
 |[]=>some []
 |.tmp t :: l=>(HC P l).map (.tmp t :: ·)
 |.cell t ty :: l=>match P.info? ty,mR P ty,HC P l with
  |some i,some ag,some r=>if ag=false∧i.size≠1 then none else some (.cell t ag i.size :: r)
  |_,_,_=>none
def GF (st:St):List aaM→(List AV→Prop)→Prop
 |[],K=>K []
 |.tmp t :: l,K=>GF st l fun r=>K (dR st.T t :: r)
 |.cell t ag n :: l,K=>match dR st.T t with
  |.ptr k off=>match st.H[k]? with
   |some (.blk _ cs)=>if ag=true then off+n≤cs.length∧GF st l fun r=>K (.agg ((cs.drop off).take n) :: r) else match cs[off]? with
    |some x=>GF st l fun r=>K (x :: r)
    |none=>False
   |_=>False
  |_=>False
def B6:List AV→AV
 |[x]=>x
 |l=>.tup l
structure cW where
 n:Nat
 body:fM
 res:List aaM
def U0 (P:bI) (f:Nat):Option cW:=
 match P.funcs[f]? with
 |some fn=>match fn.body with
  |some c=>match eD P fn.ntmps c,HC P fn.results.toList with
   |some x,some r=>some ⟨fn.ntmps,x,r⟩
   |_,_=>none
  |none=>none
 |none=>none
def Jc (st:St):AV→AV
 |.tup l=>.tup (l.map st.view)
 |x=>st.view x
structure bZ (M:Nat) (res:List aaM) (K:AV→List cG→Prop) (st:St):Prop where
 out:∃st',Gh M st st'∧GF st' res fun l=>K (B6 l) st'.H∨K (Jc st' (B6 l)) st'.H
def OE (M:Nat) (res:List aaM) (K:AV→List cG→Prop):vC→St→Prop
 |.norm=>bZ M res K
 |.ret=>bZ M res K
 |.exit _=>fun _=>False
 |.goto _=>fun _=>False
def Bq:Nat→List AV→List (Nat×AV)
 |_,[]=>[]
 |n,x :: l=>(n,x) :: Bq (n+1) l
abbrev dA:=List AV→List cG→(AV→List cG→Prop)→Prop
def vP (r:cT) (b:Nat):Prop:=∃k y,r k=some y∧b∈cH y
def tD (K:AV→List cG→Prop) (H:List cG) (w:World) (r:cT) (pub:cY) (e:Ending) (w':World):Prop:=
 ∃v x H' r' pub',e=.returned v∧K x H'∧bU pub' w' r' x v∧nU pub' w' r' H'∧Fr (vP r) pub w pub' w'∧(∀b,vP r' b→vP r b∨w.heap.size≤b)∧(∀k y,r k=some y→PG y=false→r' k=some y)∧H.length≤H'.length
def bK (P:bI) (f:Nat) (c:dA):Prop:=
 ∀(args:List AV) (H:List cG) (K:AV→List cG→Prop),c args H K→∀(w:World) (r:cT) (pub:cY) (vals:Array Value),nU pub w r H→bR pub w r args vals.toList→Calls P f vals w (tD K H w r pub)
theorem Pr {l:List AV}:∀(k n:Nat),dR (Bq k l) n=if k≤n then l.getD (n - k) .any else .any:=by
 induction l with
 |nil=>intro k n;simp[Bq,dR]
 |cons x l ih=>
  intro k n;simp only[Bq,dR];by_cases h:k=n
  ·subst h;simp
  ·rw[aE h,ih];by_cases h2:k+1≤n
   ·rw[aF h2,aF (by omega)];have:n - k=(n - (k+1))+1:=by omega
    rw[this,List.getD_cons_succ]
   ·rw[aE h2]
    split
    ·exfalso;omega
    ·rfl
def AA (tmps:Array Value):ResultVar→Sem Value
 |.tmp t=>pure (tmps.getD t undef)
 |.cell b t=>do loadVar t (←asAddr (tmps.getD b undef))
theorem Al {P:bI}{tmps:Array Value}{w:World}{x:ResultVar}{l:List ResultVar}{v:Value}{vs:List Value}(h:(AA tmps x).run P w=.ok v w) (hl:(l.mapM (AA tmps)).run P w=.ok vs w):((x :: l).mapM (AA tmps)).run P w=.ok (v :: vs) w:=by
 rw[List.mapM_cons,Sem.run_bind,h,Result.andThen_ok,Sem.run_bind,hl,Result.andThen_ok];rfl
theorem Ea {P:bI}{C:nH}{st:St}{a:Act}{w:World}{r:cT}{pub:cY}(h:bP C st a w r pub):∀(l:List ResultVar) (xs:List aaM) (K:List AV→Prop),HC P l=some xs→GF st xs K →
  ∃vs ys,(l.mapM (AA a.tmps)).run P w=.ok vs w∧bR pub w r ys vs∧K ys
 |[],xs,K,hx,hK=>by
  cases hx;exact⟨[],[],by simp,.nil,hK⟩
 |.tmp t :: l,xs,K,hx,hK=>by
  unfold HC at hx;obtain⟨y,hy,rfl⟩:=map_some hx;obtain⟨vs,ys,hr,hv,hk⟩:=Ea h l y _ hy hK;exact⟨a.tmps.getD t undef :: vs,dR st.T t :: ys,Al rfl hr,.cons (h.slots t) hv,hk⟩
 |.cell t ty :: l,xs,K,hx,hK=>by
  unfold HC at hx
  split at hx
  ·rename_i i ag y hi ha hy
   split at hx
   ·cases hx
   ·rename_i h0;cases hx;unfold GF at hK;have hs:=h.slots t;generalize dR st.T t=z at hK hs;cases z with
    |ptr k off=>
     dsimp only at hK;generalize hva:a.tmps.getD t undef=va at hs;cases hs with
     |@ptr _ _ b _ hr=>
      cases hk:st.H[k]? with
      |none=>rw[hk]at hK;exact hK.elim
      |some e=>
       rw[hk]at hK;cases e with
       |blk t' cs=>
        obtain⟨b',arr,hr2,hb,hc,_⟩:=h.ent_blk hk;rw[hr2]at hr;simp only[bE,Value.pointer.injEq,Addr.mk.injEq,and_true]at hr;subst hr;have hal:arr.size=cs.length:=by have:=hc.len;simpa using this
        have hcell:∀q u,arr[q]?=some u→w.cell? ⟨b',q,none⟩=some u:=fun q u hq=>by rw[hb.all];exact hq
        cases ag with
        |true=>
         simp only[if_true]at hK;obtain⟨hle,hK⟩:=hK;obtain⟨vs,ys,hr3,hv,hkk⟩:=Ea h l y _ hy hK;have hload:(loadVar ty ⟨b',off,none⟩).run P w=.ok (.agg ((arr.toList.drop off).take i.size).toArray) w:=by
          have hlen:((arr.toList.drop off).take i.size).length=i.size:=by simp;omega
          have hl:(loadCells ⟨b',off,none⟩ i.size).run P w=.ok ((arr.toList.drop off).take i.size).toArray w:=by
           have:=run_loadCells_list (P:=P) w ⟨b',off,none⟩ ((arr.toList.drop off).take i.size) (fun j v hj=>by
            rw[Addr.add_lit];rw[List.getElem?_take]at hj
            split at hj
            ·rw[List.getElem?_drop,aY]at hj;exact hcell _ _ hj
            ·cases hj)
           rw[hlen]at this;exact this
          simp[loadVar,Sem.run_bind,iI ha,sizeOf,typeInfo,hi,hl]
         refine⟨_,_,Al (by show (asAddr (a.tmps.getD t undef) >>= fun b=>loadVar ty b).run P w=_;rw[hva];simp only[asAddr,Sem.run_bind,Sem.run_pure,Result.andThen_ok];exact hload) hr3,.cons (.agg ?_ fun q x u hx hu=>?_) hv,hkk⟩
         ·simp;omega
         ·rw[List.getElem?_toArray]at hu;exact((hc.drop off).take i.size).at_ q x u hx hu
        |false=>
         simp only[aZ,if_false]at hK;cases hy2:cs[off]? with
         |none=>rw[hy2]at hK;exact hK.elim
         |some z=>
          rw[hy2]at hK;obtain⟨vs,ys,hr3,hv,hkk⟩:=Ea h l y _ hy hK;obtain⟨u,hu,hvu⟩:=hc.get hy2;rw[aY]at hu;have hload:(loadVar ty ⟨b',off,none⟩).run P w=.ok u w:=by
           simp[loadVar,Sem.run_bind,iI ha,run_load,hcell off u hu]
          exact⟨u :: vs,z :: ys,Al (by show (asAddr (a.tmps.getD t undef) >>= fun b=>loadVar ty b).run P w=_;rw[hva];simp only[asAddr,Sem.run_bind,Sem.run_pure,Result.andThen_ok];exact hload) hr3,.cons hvu hv,hkk⟩
       |_=>exact hK.elim
    |_=>exact hK.elim
  ·cases hx
structure dL (P:bI) (N M:Nat) (c:fM) (Q:vC→St→Prop) (st:St):Prop where
 out:∀(code:Code) (C:nH) (a:Act) (w:World) (r:cT) (pub:cY),eD P N code=some c→C.n=N→C.m=M→bP C st a w r pub→code.wp P (QX C Q) a w
section
variable {P:bI}{N M:Nat}
theorem dL.of {c:fM}{Q:vC→St→Prop}{st:St}(h:XW P N M c Q st):dL P N M c Q st:=⟨fun code C a w r pub hx hN hM hh=>I0 code c Q C st a w r pub hx hN hM hh h⟩
theorem dL.gh {c:fM}{Q:vC→St→Prop}{st st':St}(g:Gh M st st') (h:dL P N M c Q st'):dL P N M c Q st:=⟨fun code C a w r pub hx hN hM hh=>by
 obtain⟨r',pub',h'⟩:=g C a w r pub hM hh;exact h.out code C a w r' pub' hx hN hM h'⟩
theorem dL.seq {a b:fM}{Q:vC→St→Prop}{st:St}(h:dL P N M a (R1 (dL P N M b Q) Q) st):dL P N M (.seq a b) Q st:=⟨fun code C act w r pub hx hN hM hh=>by
 cases code with
 |seq c1 c2=>
  unfold eD at hx
  split at hx
  ·rename_i x1 x2 h1 h2;cases hx;refine wp_seq (wp_mono (h.out c1 C act w r pub h1 hN hM hh) fun e a' w' hq=>?_);cases e with
   |normal=>
    obtain⟨st',r',pub',hk,hh⟩:=hq;exact hk.out c2 C a' w' r' pub' h2 hN hM hh
   |exit id=>exact hq
   |ret=>exact hq
   |goto l=>exact hq
   |panic ch=>exact hq.elim
   |outgrown=>exact hq.elim
  ·cases hx
 |region id ops draw=>
  unfold eD at hx;cases draw with
  |false=>
   simp only[aZ,if_false]at hx;obtain⟨l,hl,h⟩:=map_some hx;cases h
  |true=>
   simp only[if_true]at hx
   split at hx
   ·obtain⟨p,hp,h⟩:=map_some hx;cases h
   ·cases hx
 |cond c c1 c2=>
  unfold eD at hx
  split at hx<;>cases hx
 |block id c=>unfold eD at hx;obtain⟨y,hy,h⟩:=map_some hx;cases h
 |loop c=>unfold eD at hx;obtain⟨y,hy,h⟩:=map_some hx;cases h
 |scope c=>unfold eD at hx;obtain⟨y,hy,h⟩:=map_some hx;cases h
 |_=>cases hx⟩
end
theorem Tq {P:bI}{f:Nat}{fn:Func}{code:Code}{z:List aaM}(c:dA) (hf:P.funcs[f]?=some fn) (hb:fn.body=some code) (hz:HC P fn.results.toList=some z) (h:∀args H K,c args H K→args.length≤fn.ntmps∧∀(C:nH) (a:Act) (w:World) (r:cT) (pub:cY),C.n=fn.ntmps→C.m=H.length→bP C ⟨Bq 0 args,H⟩ a w r pub→code.wp P (QX C (OE H.length z K)) a w):bK P f c:=by
  intro args H K hc w r pub vals hm hv;obtain⟨hn,hw⟩:=h args H K hc;have hlen:vals.size=args.length:=by have:=hv.len;simpa using this
  have hh:bP ⟨vP r,pub,w,fn.ntmps,H.length,r⟩ ⟨Bq 0 args,H⟩ { tmps:=vals++Array.replicate (fn.ntmps - vals.size) undef,defers:=[] } w r pub:=by
   refine⟨hm,fun k x hx b hb=>.inl ⟨k,x,hx,hb⟩,Fr.refl _ _ _,fun n=>?_,rfl,by have hn':args.length≤fn.ntmps:=hn;show (vals++Array.replicate (fn.ntmps - vals.size) undef).size=fn.ntmps;rw[Array.size_append,Array.size_replicate];omega,fun k y hy _=>hy,hm.none_,aN _⟩;rw[Pr,aF (aI _),Nat.sub_zero];by_cases hna:n < args.length
   ·have e1:(vals++Array.replicate (fn.ntmps - vals.size) undef).getD n undef=vals[n]'(by omega):=by
     rw[Array.getD_eq_getD_getElem?,Array.getElem?_append_left (by omega),aK (by omega)];rfl
    rw[List.getD_eq_getElem?_getD,aB hna];dsimp only;rw[e1];exact hv.at_ n _ _ (aB hna) (by rw[aY];exact aK (by omega))
   ·rw[List.getD_eq_getElem?_getD,List.getElem?_eq_none (by omega)];exact .any _
  refine calls_of_wp hf hb (wp_mono (hw _ _ w r pub rfl rfl hh) fun e a' w' hq=>?_);have fin:E2 ⟨vP r,pub,w,fn.ntmps,H.length,r⟩ (bZ H.length z K) a' w'→a'.defers=[]∧∃v,(results fn a'.tmps).run P w'=.ok v w'∧tD K H w r pub (.returned v) w':=fun⟨st,r1,p1,⟨⟨st',hg,hres⟩⟩,hh1⟩=>by
   obtain⟨r2,p2,h2⟩:=hg _ _ _ _ _ rfl hh1;refine⟨h2.defers,?_⟩;obtain⟨vs,ys,hrun,hvs,hk⟩:=Ea h2 fn.results.toList z _ hz hres;have hr:(results fn a'.tmps).run P w'=.ok (if h:vs.toArray.size=1 then vs.toArray[0] else .tuple vs.toArray) w':=by
    have e1:results fn a'.tmps=(do
      let vs ←fn.results.mapM (AA a'.tmps)
      pure (if h:vs.size=1 then vs[0] else .tuple vs)):=by
     unfold results;congr 1
    rw[e1,Array.mapM_eq_mapM_toList,Sem.run_bind,Sem.run_map,hrun];rfl
   have hval:bU p2 w' r2 (B6 ys) (if h:vs.toArray.size=1 then vs.toArray[0] else .tuple vs.toArray):=by
    have hl:=hvs.len
    split
    ·rename_i h1;cases ys with
     |nil=>have k1:vs.length=1:=(by simpa using h1);have k2:vs.length=0:=hl;omega
     |cons y1 ys=>
      cases ys with
      |nil=>
       obtain⟨u,us',rfl,hu,hu'⟩:=hvs.cons_inv;exact hu
      |cons y2 ys=>have k1:vs.length=1:=(by simpa using h1);have k2:vs.length=ys.length+2:=hl;omega
    ·rename_i h1;have:B6 ys=.tup ys:=by
      cases ys with
      |nil=>rfl
      |cons y1 ys=>
       cases ys with
       |nil=>have k1:¬vs.length=1:=(by simpa using h1);have k2:vs.length=1:=hl;omega
       |cons y2 ys=>rfl
     rw[this];exact .tup (by simpa using hl) fun i x u hx hu=>hvs.at_ i x u hx (by simpa using hu)
   have hview:∀{y:AV}{v:Value},bU p2 w' r2 y v→bU p2 w' r2 (Jc st' y) v:=fun {y v} hyv=>by
    have hyv0:=hyv;cases hyv with
    |@tup _ l arr hl hc=>
     unfold Jc;refine .tup (by simpa using hl) fun i x u hx hu=>?_
     rw[aD]at hx;cases hq:l[i]? with
     |none=>rw[hq]at hx;cases hx
     |some q=>rw[hq]at hx;cases hx;exact h2.view (hc i q u hq hu)
    |_=>exact h2.view hyv0
   refine⟨_,hr,?_⟩;have own:∀b,vP r2 b→vP r b∨w.heap.size≤b:=fun b ⟨k,y,hy,hb⟩=>h2.own k y hy b hb
   rcases hk with hk|hk
   ·exact⟨_,_,_,r2,p2,rfl,hk,hval,h2.mod,h2.fr,own,h2.stab,h2.low.2⟩
   ·exact⟨_,_,_,r2,p2,rfl,hk,hview hval,h2.mod,h2.fr,own,h2.stab,h2.low.2⟩
  cases e with
  |normal=>exact fin hq
  |ret=>exact fin hq
  |exit id=>obtain⟨_,_,_,hk,_⟩:=hq;exact hk.elim
  |goto l=>obtain⟨_,_,_,hk,_⟩:=hq;exact hk.elim
  |panic ch=>exact hq.elim
  |outgrown=>exact hq.elim
theorem M5 {P:bI}{f:Nat}{x:cW}(c:dA) (hx:U0 P f=some x) (h:∀args H K,c args H K→args.length≤x.n∧dL P x.n H.length x.body (OE H.length x.res K) ⟨Bq 0 args,H⟩):bK P f c:=by
 unfold U0 at hx;cases hf:P.funcs[f]? with
 |none=>rw[hf]at hx;cases hx
 |some fn=>
  rw[hf]at hx;cases hb:fn.body with
  |none=>simp only[hb]at hx;cases hx
  |some code=>
   simp only[hb]at hx
   split at hx
   ·rename_i y z hy hz;cases hx;exact Tq c hf hb hz fun args H K hc=>⟨(h args H K hc).1,fun C a w r pub hN hM hh=>(h args H K hc).2.out code C a w r pub hy hN hM hh⟩
   ·cases hx
theorem Wq {P:bI}{f:Nat}{x:cW}(c:dA) (hx:U0 P f=some x) (h:∀args H K,c args H K→args.length≤x.n∧XW P x.n H.length x.body (OE H.length x.res K) ⟨Bq 0 args,H⟩):bK P f c:=
 M5 c hx fun args H K hc=>⟨(h args H K hc).1,.of (h args H K hc).2⟩
def fV:List Nat→List cG→List Nat
 |k :: s,e :: l=>match e.turns with
  |true=>k :: fV s l
  |false=>fV s l
 |_,_=>[]
def iO (T:List (Nat×AV)):List Nat→List (Nat×AV)
 |[]=>T
 |k :: s=>iO (jI k .any T) s
def gO (H:List cG):List Nat→List cG
 |[]=>H
 |k :: s=>gO (H.map (cG.kill k .any)) s
def eI (r:cT) (l:List Nat):cT:=fun k=>if k∈l then none else r k
theorem sV:∀(l:List Nat) (H:List cG),(gO H l).length=H.length
 |[],H=>rfl
 |k :: s,H=>by unfold gO;rw[sV s];simp
theorem uO (r:cT) (k:Nat) (l:List Nat):eI r (k :: l)=eI (eI r [k]) l:=by
 funext n;simp only[eI,List.mem_cons,List.not_mem_nil,or_false];by_cases h1:n=k<;>by_cases h2:n∈l<;>simp[h1,h2]
theorem DA {pub:cY}{w:World}{r:cT}{x:AV}{v:Value}(k:Nat) (h:bU pub w r x v):bU pub w (eI r [k]) (x.kill k .any) v:=
 h.kill (fun m hm=>by simp[eI,hm]) (fun z _=>.any _)
theorem sT {pub:cY}{w:World}{v:Value}{n:Nat}:∀(l:List Nat) (T:List (Nat×AV)) (r:cT),bU pub w r (dR T n) v→bU pub w (eI r l) (dR (iO T l) n) v
 |[],T,r,h=>by
  unfold iO;exact h.mono fun m y hy=>by simpa [eI]using hy
 |k :: s,T,r,h=>by
  unfold iO;rw[uO];refine sT s _ _ ?_;rw[xA];exact DA k h
theorem pK {pub:cY}{w:World}{hd:Option Value}:∀(l:List Nat) (H:List cG) (r:cT) (n:Nat) (e:cG),(gO H l)[n]?=some e→∃e0,H[n]?=some e0∧(eF pub w r hd e0→eF pub w (eI r l) hd e)
 |[],H,r,n,e,h=>⟨e,h,fun he=>he.frm (S:=fun _=>False) (Fr.refl _ _ _) (fun _ _ _ _ h=>h) (fun m y hy=>by simpa [eI]using hy)⟩
 |k :: s,H,r,n,e,h=>by
  unfold gO at h;obtain⟨e1,h1,h2⟩:=pK (pub:=pub) (w:=w) (hd:=hd) s _ (eI r [k]) n e h;rw[aD]at h1;cases h0:H[n]? with
  |none=>rw[h0]at h1;cases h1
  |some e0=>
   rw[h0]at h1;cases h1;refine⟨e0,rfl,fun he=>?_⟩;rw[uO];refine h2 ?_;exact he.kill (S:=fun _=>False) (Fr.refl _ _ _) (fun _ _ _ _ h=>h) (fun m hm=>by simp[eI,hm]) (fun z _=>.any _)
def rZ:List cG→List Nat→List cG→List cG
 |H,[],L=>H++L
 |H,k :: s,e :: L=>rZ (H.set k e) s L
 |H,_ :: _,[]=>H
theorem EP:∀(s:List Nat) (L H:List cG),s.length≤L.length→(rZ H s L).length=H.length+(L.length - s.length)
 |[],L,H,_=>by simp[rZ]
 |k :: s,e :: L,H,h=>by
  unfold rZ;rw[EP s L _ (by simpa using h)];simp
 |k :: s,[],H,h=>by simp at h
theorem qU {s:List Nat}{base i:Nat}(h:i < s.length):dU s base i=s[i]:=by
 induction s generalizing i with
 |nil=>simp at h
 |cons k s ih=>
  cases i with
  |zero=>rfl
  |succ i=>simp only[dU];exact ih (by simpa using h)
theorem nX {s:List Nat}{base i:Nat}(h:s.length≤i):dU s base i=base+(i - s.length):=by
 induction s generalizing i with
 |nil=>rfl
 |cons k s ih=>
  cases i with
  |zero=>simp at h
  |succ i=>simp only[dU];rw[ih (by simpa using h)];simp
theorem Gi:∀(s:List Nat) (L H:List cG) (n:Nat) (e:cG),s.Nodup→(∀k∈s,k < H.length)→s.length≤L.length→(rZ H s L)[n]?=some e→(∃i,dU s H.length i=n∧L[i]?=some e)∨(n∉s∧n < H.length∧H[n]?=some e)
 |[],L,H,n,e,_,_,_,h=>by
  unfold rZ at h;by_cases hn:n < H.length
  ·rw[List.getElem?_append_left hn]at h;exact .inr ⟨by simp,hn,h⟩
  ·rw[List.getElem?_append_right (by omega)]at h;exact .inl ⟨n - H.length,by simp[dU];omega,h⟩
 |k :: s,[],H,n,e,_,_,hl,_=>by simp at hl
 |k :: s,e0 :: L,H,n,e,hd,hlt,hl,h=>by
  unfold rZ at h;obtain⟨hd1,hd2⟩:=List.nodup_cons.1 hd;rcases Gi s L (H.set k e0) n e hd2 (fun q hq=>by simpa using hlt q (by simp[hq])) (by simpa using hl) h with ⟨i,hi,hL⟩|⟨hn,hnl,hH⟩
  ·rw[bA]at hi;exact .inl ⟨i+1,hi,by simpa using hL⟩
  ·rw[bA]at hnl;by_cases hkn:k=n
   ·subst hkn;rw[aQ hnl]at hH;cases hH;exact .inl ⟨0,rfl,rfl⟩
   ·rw[aU hkn]at hH;exact .inr ⟨by simp[hn,Ne.symm hkn],hnl,hH⟩
end Go.Proofs.YtigdiekbiphhmaaGreatDoor
end
