/-
  Texts of this proof,joined: FM,ET,IT,IU,IF,IV,IW,IY,IZ,JA,EV,EX,FA,FO,FQ,JB,JC,IX,NumLib,Number,GA,JD,FN,GB,GC,JE.
-/
import Derived.Test.YtooioahiijbomaaGreatDoorA6
import Derived.IntWalk
import Derived.Shelf.Strconv.ErrVarParseInt
import Derived.Shelf.Strconv.Itoa4
import Derived.Test.YtooioahiijbomaaGreatDoorChecked
import Derived.Lib.AtoiErrMem
import Derived.Lib.Walk
import Derived.Lib.AppendIntMem
import Derived.Shelf.Strings.OnBuilder
import Derived.Shelf.Strings.Builder1
import Derived.KernelRfl
import Derived.Shelf.GgClosure.StringsRunes
set_option linter.unusedVariables false
set_option linter.unusedSimpArgs false
noncomputable section
namespace Go.Proofs.YtooioahiijbomaaGreatDoor
open Go.RowKit
set_option maxHeartbeats 2000000
set_option maxRecDepth 100000
theorem PJ (x:bF) (w:World):Calls Tryz.prog 336 #[.string x] w fun e w'=>e=.returned (.bool false)∧w'=w:=by
 go_enter Tryz.func336,Tryz.ntmps336
 go_wp2
 go_ret
 exact⟨by simp,rfl⟩
theorem Oz (x y:bF) (w:World):Calls Tryz.prog 328 #[.string x,.string y] w fun e w'=>e=.returned (.int .i64 (aeN x y))∧w'=w:=by
 have e1:∀W,(Go.binOp .gtr 9 (.string x) (.string y)).run Tryz.prog W=.ok (.bool (!(Op.bytesLess x.toList y.toList || x.toList == y.toList))) W:=fun _=>by kernel_rfl
 unfold aeN;obtain⟨b1,hb1⟩:∃b,b=Op.bytesLess x.toList y.toList:=⟨_,rfl⟩
 obtain⟨b2,hb2⟩:∃b,b=(x.toList == y.toList):=⟨_,rfl⟩
 rw[←hb1,←hb2];rw[←hb1,←hb2]at e1
 go_enter Tryz.func328,Tryz.ntmps328
 go_wp2_with (go_at_call 336;refine(PJ _ _).mono ?_;rintro e w' ⟨rfl,hw⟩;rw[hw])
 all_goals
  go_ret
  refine⟨?_,rfl⟩
  first|rfl|(simp_all;done)|(cases b1<;>cases b2<;>simp_all)
set_option maxHeartbeats 1000000 in
theorem Md (x y:Lo) (W:World):Calls Tryz.prog 327 #[.agg #[.string x.good,.int .i64 x.count],.agg #[.string y.good,.int .i64 y.count]] W fun e w'=>e=.returned (.int .i64 (tI x y))∧∃q os',w'=Sort.grow (W.drewN q) os':=by
 have hcon:=fun W'=>Oz x.good y.good W'
 unfold tI;generalize aeN x.good y.good=r at hcon⊢
 go_enter Tryz.func327,Tryz.ntmps327
 go_wp2_with (go_at_call 328;refine(hcon _).mono ?_;rintro e w' ⟨rfl,rfl⟩)
 go_ret
 exact⟨rfl,0,_,by rw[Sort.alloc_eq_grow,Sort.alloc_eq_grow,Sort.grow_grow];rfl⟩
theorem Ao {w:World}{g n:Nat}{os:Array Obj}{cur:Array Value}{e:TypeId}{fr:Nat×Nat}(d:Array Value) (hb:w.heap[g]?=some (.cells cur e fr)) :
  (Sort.grow (Sort.putRow id (Sort.ahead w n) g 0 d) os).heap[g]?=some (.cells (Sort.putCells id 0 d cur) e fr):=by
 have hg:g < w.heap.size:=(Array.getElem?_eq_some_iff.1 hb).1;rw[Sort.heap_grow_old _ _ (by simpa using hg)];simp[Sort.putRow,Sort.mapBlock,Sort.ahead,Array.getElem?_modify,hb,Sort.onCells]
theorem rZ {w:World}{g n:Nat}{os:Array Obj}(d:Array Value):w.grownBy (Sort.grow (Sort.putRow id (Sort.ahead w n) g 0 d) os) (some g):=by
 refine⟨rfl,rfl,rfl,by simp,fun k hk hne=>?_⟩;rw[Sort.heap_grow_old _ _ (by simpa using hk)];have:g≠k:=fun e=>hne (by rw[e])
 simp[Sort.putRow,Sort.mapBlock,Sort.ahead,Array.getElem?_modify,this]
theorem sY (cur:Array Value) (ts:Array Value) (h:ts.size≤cur.size):(Sort.putCells id 0 ts cur).toList.take ts.size=ts.toList:=by
 apply List.ext_getElem?;intro j;by_cases hj:j < ts.size
 ·rw[List.getElem?_take_of_lt hj,aX];simp[Sort.putCells,hj,show j < cur.size by omega]
 ·rw[List.getElem?_take_eq_none (by omega),List.getElem?_eq_none (by simp;omega)]
theorem Xe:∀L:List Lo,(L.flatMap eY).length=L.length * 2
 |[]=>rfl
 |x :: L=>by rw[List.flatMap_cons,aM,Xe L,List.length_cons];show 2+_=_;omega
theorem tG:∀(L:List Lo) (t:Nat) (h:t / 2 < L.length),(L.flatMap eY)[t]?=(eY (L[t / 2]'h))[t % 2]?
 |x :: L,0,_=>rfl
 |x :: L,1,_=>rfl
 |x :: L,t+2,h=>by
  have e1:(t+2) / 2=t / 2+1:=by omega
  have e2:(t+2) % 2=t % 2:=by omega
  have h':t / 2 < L.length:=by rw[e1]at h;simpa using h
  rw[List.flatMap_cons,List.getElem?_append_right (by show 2≤_;omega)];show (L.flatMap eY)[t+2 - 2]?=_;rw[Nat.add_sub_cancel,tG L t h',e2];simp only[e1];rfl
theorem B7 (L:List Lo):(Sort.flatK eY 2 L.toArray).toList=L.flatMap eY:=by
 apply List.ext_getElem?;intro t;rcases aL t (L.length * 2)with h|h
 ·have h2:t / 2 < L.length:=by omega
  rw[tG L t h2];have h3:t < (Sort.flatK eY 2 L.toArray).size:=by simpa using h
  have h4:=Sort.get_flatK eY 2 L.toArray t (by simpa using h);rw[aX,aK h3];rw[getElem!_pos _ t h3]at h4;rw[h4];have h5:t % 2 < (eY L[t / 2]).length:=by show t % 2 < 2;omega
  rw[aB h5];have h6:L.toArray[t / 2]! =L[t / 2]:=by simp[h2]
  rw[h6,getElem!_pos (eY (L[t / 2]'h2)) (t % 2) h5]
 ·rw[List.getElem?_eq_none (by simp;omega),List.getElem?_eq_none (by rw[Xe];omega)]
structure uT (P:bG) (f g:Nat):Prop where
 out:∀(A:Option Addr) (L:List Lo) (c:Nat) (w:World) (pub:cI),L.length≤2000000→fP w 295 2 A L.length c (L.flatMap eY)→(∀b∈gC A,pub b=0)→(∀b,w.heap.size≤b→pub b=0) →
  Calls P f #[.slice A L.length c,.func (.func g) #[] #[]] w fun e w'=>e=.returned (.tuple #[])∧Fr (fun b=>b∈gC A) pub w pub w'∧∃L':List Lo,L'.length=L.length∧(∀x∈L',x∈L)∧fP w' 295 2 A L.length c (L'.flatMap eY)
theorem Ih:uT Tryz.prog 326 327:=⟨fun A L c w pub hp ho hpb hfresh=>by
 rcases ho.cases_ with ⟨rfl,hl0,rfl,_⟩|⟨g,cur,rfl,hb,h1,h2,h3,h4⟩
 ·obtain rfl:L=[]:=aQ hl0;refine(AnyF.slices_SortFunc_none FZ none 0 _ w).mono fun e w' h=>?_
  obtain⟨rfl,rfl⟩:=h;exact⟨rfl,.refl _ _ _,[],rfl,(fun x h=>nomatch h),ho⟩
 ·have hgp:pub g=0:=hpb g (by simp);have hblk:g < w.heap.size:=hb.lt;have hH:Sort.HoldsK eY 2 w g 0 L.toArray:=by
   intro j hj;have hj':j < (L.flatMap eY).length:=by rw[Xe];simpa using hj
   refine⟨?_,hb.free _⟩;rw[Nat.zero_add];have e1:=hb.all j;rw[e1];have e2:cur.toList[j]?=(L.flatMap eY)[j]?:=by rw[←h4,List.getElem?_take_of_lt (by rw[Xe]at hj';omega)]
   rw[←aX,e2,←B7,aX,aK (by simpa using hj)];show _=some ((Sort.flatK eY 2 L.toArray)[j]!);rw[getElem!_pos _ j hj]
  have eg:∀args w,(callFunc 327 args).run Tryz.prog w=.ok (.enter 327 args) w:=Go.Proofs.enters_of Tryz.func327 (by kernel_rfl) rfl;have hcmp:CmpLays Tryz.prog 327 #[] eY 2 tI g 0 L.toArray.size w:=fun m os dk _ x y=>Md x y _
  have hcon:=AnyQ.slices_SortFunc FZ 2 Tryz.isAgg295 Tryz.sizeOf295 eY (fun _=>rfl) (fun x v hv=>by unfold eY at hv;simp only[List.mem_cons,List.not_mem_nil,or_false]at hv;rcases hv with rfl|rfl<;>rfl) tI Pb 327 #[] g 0 c L.toArray w eg hcmp hH hblk (by simp;omega);rw[List.size_toArray]at hcon;change Calls Tryz.prog 326 _ _ _ at hcon;refine hcon.mono fun e w' h=>?_
  obtain⟨rfl,d',n,os,⟨hsz,_,hpm⟩,_,rfl⟩:=h;have hsz:d'.size=L.length:=by simpa using hsz
  have hx1:(d'.extract 0 L.length).toList=d'.toList:=by rw[←hsz];simp
  have hx2:(L.toArray.extract 0 L.length).toList=L:=by simp
  rw[hx1,hx2]at hpm;have hw:sortWorldK eY 2 w g 0 n d' os=Sort.grow (Sort.putRow id (Sort.ahead w n) g 0 (Sort.flatK eY 2 d')) os:=rfl;rw[hw];obtain⟨F,hF⟩:∃F,F=Sort.flatK eY 2 d':=⟨_,rfl⟩
  have hFl:F.toList=d'.toList.flatMap eY:=by rw[hF,←B7 d'.toList]
  have hFs:F.size=L.length * 2:=by rw[hF,Sort.size_flatK,hsz]
  rw[←hF];have hgb:=rZ (w:=w) (g:=g) (n:=n) (os:=os) F;have hh:=Ao (n:=n) (os:=os) F hb;obtain⟨w',hw'⟩:∃w',w'=Sort.grow (Sort.putRow id (Sort.ahead w n) g 0 F) os:=⟨_,rfl⟩
  rw[←hw']at hgb hh⊢;obtain⟨g1,g2,g3,g4,g5⟩:=hgb;have hkeep:∀b,b < w.heap.size→¬b=g→w'.heap[b]?=w.heap[b]?:=fun b hb hn=>g5 b hb fun e=>hn (Option.some.inj e)
  have hcell:∀b i v,i < pub b→w.cell? ⟨b,i,none⟩=some v→w'.cell? ⟨b,i,none⟩=some v:=fun b i v hi hv=>by
   have hbs:b < w.heap.size:=by
    rcases aL b w.heap.size with h|h
    ·exact h
    ·rw[hfresh b h]at hi;exact absurd hi (Nat.not_lt_zero _)
   have hbg:¬b=g:=fun e=>by
    subst e;rw[hgp]at hi;exact absurd hi (Nat.not_lt_zero _)
   have e:=hkeep b hbs hbg;unfold World.cell? at hv⊢;dsimp only at hv⊢;rw[e];exact hv
  refine⟨rfl,⟨g1,g2,g3,g4,fun b hb hn=>⟨hkeep b hb fun e=>hn (by subst e;simp),rfl⟩,fun _=>aN _,hcell,fun b n hp hn=>jB (hkeep b (lX hn) fun e=>by subst e;rw[hgp]at hp;exact absurd hp (Nat.lt_irrefl 0)) hn⟩,d'.toList,by rw[bA,hsz],fun x hx=>hpm.mem_iff.1 hx,?_⟩;refine fP.of_blk (cur:=Sort.putCells id 0 F cur) hh h1 h2 (by simp[Sort.putCells,h3]) ?_;rw[←hFs,sY _ _ (by rw[hFs,h3];omega)];exact hFl⟩
theorem N3 {pub:cI}{w:World}{r:cF}:∀{L:List Lo}{us:List Value},bO pub w r ((bK rX L).flatMap AV.cells) us→us=L.flatMap eY
 |[],us,h=>h.nil_inv
 |⟨g,c⟩ :: L,us,h=>by
  have h':bO pub w r (.str g :: .int .i64 c :: (bK rX L).flatMap AV.cells) us:=h;obtain⟨us',rfl,h2⟩:=h'.str_inv;obtain⟨us2,rfl,h3⟩:=h2.int_inv;rw[N3 h3];rfl
theorem NT {pub:cI}{w:World}{r:cF}:∀(L:List Lo),bO pub w r ((bK rX L).flatMap AV.cells) (L.flatMap eY)
 |[]=>.nil
 |⟨g,c⟩ :: L=>by
  show bO pub w r (.str g :: .int .i64 c :: (bK rX L).flatMap AV.cells) (.string g :: .int .i64 c :: L.flatMap eY);exact .cons (.str _) (.cons (.int _ _) (NT L))
theorem zH {P:bG}{f g:Nat}(hs:uT P f g) (k:Nat) (L:List Lo) {keep:List Nat}{st:St}{K:AV→St→Prop}(hk:st.H[k]?=some (.row 295 2 (bK rX L))) (hl:L.length≤2000000) (hkeep:(keep.all fun j=>j != k)=true)
  (hK:∀L':List Lo,L'.length=L.length→(∀x∈L',x∈L)→K (.tup []) ⟨st.T,st.H.set k (.row 295 2 (bK rX L'))⟩):fZ P keep f [.hd k,.clo g []] st K:=by
 refine⟨fun C a w r pub vals h hv=>?_⟩;obtain⟨u,us',hvals,hu,hv2⟩:=hv.cons_inv;obtain⟨u2,us2,hvals2,hu2,hnil⟩:=hv2.cons_inv;have hn0:=hnil.nil_inv;subst hn0;have hr:r k=some u:=by cases hu with|hd h _=>exact h
 have hc2:u2=.func (.func g) #[] #[]:=by
  cases hu2 with
  |clo f hl h=>
   rename_i a;have:a=#[]:=Array.eq_empty_of_size_eq_zero (by simpa using hl);rw[this]
 subst hc2;obtain rfl:vals=#[u,.func (.func g) #[] #[]]:=Array.toList_inj.1 (by rw[hvals,hvals2]);obtain⟨A,c,us,hrk,ho,hcs,hst,hpb⟩:=h.ent_row hk;rw[hr]at hrk;cases hrk;have hus:=N3 hcs;subst hus;rw[bN]at ho hr⊢;refine(hs.out A L c w pub hl ho hpb h.mod.fresh).mono fun e w' hw=>?_
 obtain⟨rfl,hf,L',hL',hmem,ho'⟩:=hw;have hE:dR pub w' r (some (.slice A (bK rX L').length c)) (.row 295 2 (bK rX L')):=by
  refine .row (us:=L'.flatMap eY) (by rw[bN,hL'];exact ho') (NT _) (fun x hx=>?_) hpb;rw[dC]at hx;obtain⟨⟨g,c⟩,_,rfl⟩:=aW.1 hx;exact⟨rfl,rfl⟩
 rw[bN,hL']at hE;refine⟨_,_,_,r,pub,rfl,.tup rfl (fun i x v hx _=>by cases hx),hK L' hL' hmem,⟨h.mod.set hr hf (fun b hb=>hb) (fun b hb=>h.mod.fresh b (Nat.le_trans hf.size hb)) (fun b i hi=>?_) hE,h.own,h.fr.trans hf (fun b hb=>h.own k _ hr b hb),h.slots.ext hf.ext,h.defers,h.size,h.stab,⟨h.low.1,by simpa using h.low.2⟩⟩,hf.ext,fun j hj=>⟨rfl,fun y hy b hb=>?_⟩⟩
 ·obtain⟨v,hv⟩:=h.mod.there b i hi;exact⟨v,hf.ext.cell b i v hi hv⟩
 ·have hjk:j≠k:=by
   have:=aS.1 hkeep j hj;simpa using this
  exact(hf.keep b (h.mod.foot_lt hy b hb) fun hbA=>h.mod.disj j k y _ hjk hy hr b hb hbA).1
set_option maxHeartbeats 8000000
def Cv:bF×Int→AV×AV
 |(k,v)=>(.str k,.i v)
theorem BW (s:bF):∀(A:List (bF×Int)) (i:Nat),(∃j v,fY (.str s) (bK Cv A) i=some (some (i+j))∧A[j]?=some (s,v))∨(fY (.str s) (bK Cv A) i=some none∧∀p∈A,p.1≠s)
 |[],i=>.inr ⟨rfl,fun p h=>nomatch h⟩
 |(k,v) :: A,i=>by
  have e:bK Cv ((k,v) :: A)=(.str k,.i v) :: bK Cv A:=rfl;rw[e];unfold fY;by_cases h:k=s
  ·have h2:gE (.str s) (.str k)=some true:=by rw[h];show some (s == s)=_;rw[(MapKept.bytes_beq s s).2 rfl]
   rw[h2];exact .inl ⟨0,v,rfl,by rw[h];rfl⟩
  ·have h2:gE (.str s) (.str k)=some false:=by
    show some (s == k)=_;rw[show (s == k)=false from Bool.eq_false_iff.2 fun hb=>h ((MapKept.bytes_beq s k).1 hb).symm]
   rw[h2];dsimp only;rcases BW s A (i+1)with ⟨j,v2,h1,h3⟩|⟨h1,h3⟩
   ·exact .inl ⟨j+1,v2,by rw[h1];congr 2;omega,by simpa using h3⟩
   ·refine .inr ⟨h1,fun p hp=>?_⟩;rcases List.mem_cons.1 hp with rfl|hp
    ·exact h
    ·exact h3 p hp
theorem tY {s:bF}{A:List (bF×Int)}{K:Option (Nat×AV)→Prop}(hs:∀(i:Nat) (v:Int),A[i]?=some (s,v)→K (some (i,.i v))) (hn:(∀p∈A,Prod.fst p≠s)→K none):rM (.str s) (bK Cv A) K:=by
 rcases BW s A 0 with ⟨j,v,h1,h2⟩|⟨h1,h2⟩
 ·refine⟨.inl ⟨j,.str s,.i v,by rw[h1,Nat.zero_add],?_,hs j v h2⟩⟩;rw[dC,aD,h2];rfl
 ·exact⟨.inr ⟨h1,hn h2⟩⟩
structure D4 (l:List Lo):Prop where
 n:l.length≤524288
 g:∀x∈l,x.good.size≤1048576
 c:∀x∈l,i64 x.count
structure xU (m:Nat) (E:List (bF×Int)):Prop where
 n:E.length≤m
 g:∀p∈E,p.1.size≤1048576
 c:∀p∈E,i64 p.2
theorem Cm (z:Int):i64 (IntKind.i64.wrap z):=by
 unfold i64 IntKind.wrap;simp[IntKind.bits,IntKind.signed];omega
def Ah:cQ:=dJ (fun l:List Lo=>[.sl 2 (bK rX l)]) (fun _=>[]) D4 (fun l (E:List (bF×Int))=>xU l.length E) (fun _ _=>.hd 0) fun _ E=>[.map 349 (bK Cv E)]
structure Wg (l:List Lo) where
 E:List (bF×Int)
 k:Nat
 hk:k≤l.length
 ok:xU k E
theorem Qe {m:Nat}{E:List (bF×Int)}(h:xU m E) {i:Nat}{s:bF}{v w:Int}(hi:E[i]?=some (s,v)) (hw:i64 w):xU (m+1) (E.set i (s,w)):=by
 have hm:=aC hi;refine⟨by rw[aZ];exact Nat.le_succ_of_le h.n,fun p hp=>?_,fun p hp=>?_⟩
 ·rcases List.mem_or_eq_of_mem_set hp with hp|rfl
  ·exact h.g p hp
  ·exact(show s.size≤1048576 from h.g (s,v) hm)
 ·rcases List.mem_or_eq_of_mem_set hp with hp|rfl
  ·exact h.c p hp
  ·exact hw
theorem OQ {m:Nat}{E:List (bF×Int)}(h:xU m E) {s:bF}{w:Int}(hs:s.size≤1048576) (hw:i64 w):xU (m+1) (E++[(s,w)]):=by
 refine⟨by rw[aM];exact Nat.succ_le_succ h.n,fun p hp=>?_,fun p hp=>?_⟩
 ·rcases List.mem_append.1 hp with hp|hp
  ·exact h.g p hp
  ·rw[List.mem_singleton.1 hp];exact hs
 ·rcases List.mem_append.1 hp with hp|hp
  ·exact h.c p hp
  ·rw[List.mem_singleton.1 hp];exact hw
theorem MR {m:Nat}{E:List (bF×Int)}(h:xU m E):xU (m+1) E:=⟨Nat.le_succ_of_le h.n,h.g,h.c⟩
theorem Iu (E:List (bF×Int)) (i:Nat) (x:bF×Int):(bK Cv E).set i (Cv x)=bK Cv (E.set i x):=by rw[dC,dC,List.map_set]
theorem BX (P:bG):bL P Tn Ah:=by
 intro args H K hcc;obtain⟨l,rfl,rfl,⟨hn,hg,hc⟩,hK⟩:=hcc;refine⟨cW,?_⟩
 try dsimp only at hn hg hc hK
 obtain⟨n,hnl⟩:∃n,n=l.length:=⟨_,rfl⟩
 cbv;repeat'((first|refine .k fun z hz=>?_|fail)<;>cbv)
 refine bZ [0] (fun p:Wg l=>[(3,.hd 0),(9,.i (nI p.k))]) (fun p=>[.map 349 (bK Cv p.E)]) (fun p=>iH n p.k) ⟨[],0,aI _,⟨aN _,(fun p h=>nomatch h),(fun p h=>nomatch h)⟩⟩ ?_;rintro ⟨E,k,hk,hok⟩
 try dsimp only at hk hok⊢
 rcases aL k l.length with hks|hks
 ·obtain⟨⟨good,count⟩,hx⟩:=cY hks;have hgs:=hg _ (aC hx);have hcs:=hc _ (aC hx)
  try dsimp only at hgs hcs
  cbv;repeat'((first|refine .e ?_|refine .y fun h=>?_|refine .mk (fun h=>?_) fun h=>?_|refine .k fun z hz=>?_|fail)<;>cbv)
  ·refine tY (s:=good) (A:=E) (fun i v hv=>?_) (fun hno=>?_)
   ·cbv;repeat'((first|(first|fail)|refine Am.w fun z hz=>?_)<;>cbv)
    refine tY (s:=good) (A:=E) (fun i2 v2 hv2=>?_) (fun hno=>absurd rfl (hno _ (aC hv)));cbv;repeat'((first|(first|refine .k fun z hz=>?_|refine .ms fun ms hms=>?_|fail)|refine Am.w fun z hz=>?_)<;>cbv)
    obtain rfl:z=nI (k+1):=bR;have hi:i64 z:=by(have e:=‹z=IntKind.i64.wrap _›;rw[e];exact Cm _)
    obtain⟨E2,hE2⟩:∃E2,E2=E.set i2 (good,z):=⟨_,rfl⟩
    obtain rfl:ms=bK Cv E2:=by rw[hms,hE2,←Iu];rfl
    exact bP ⟨E2,k+1,by exact bR,by rw[hE2];exact Qe hok hv2 hi⟩ (bQ bR)
   ·cbv;repeat'((first|(first|fail)|refine Am.w fun z hz=>?_)<;>cbv)
    refine tY (s:=good) (A:=E) (fun i2 v2 hv2=>absurd rfl (hno _ (aC hv2))) (fun _=>?_);cbv;repeat'((first|(first|refine .k fun z hz=>?_|refine .ms fun ms hms=>?_|fail)|refine Am.w fun z hz=>?_)<;>cbv)
    obtain rfl:z=nI (k+1):=bR;have hi:i64 z:=by(have e:=‹z=IntKind.i64.wrap _›;rw[e];exact Cm _)
    obtain⟨E2,hE2⟩:∃E2,E2=E++[(good,z)]:=⟨_,rfl⟩
    obtain rfl:ms=bK Cv E2:=by rw[hms,hE2,cP,cS];rfl
    exact bP ⟨E2,k+1,by exact bR,by rw[hE2];exact OQ hok hgs hi⟩ (bQ bR)
  ·obtain rfl:z=nI (k+1):=bR;exact bP ⟨E,k+1,by exact bR,MR hok⟩ (bQ bR)
 ·have hke:k=l.length:=by omega
  have hK:=hK E (by rw[←hke];exact hok);cbv;repeat'((first|refine .n fun h=>?_|fail)<;>cbv)
  (refine .q9 ?_;cbv;exact .inl (.f9 hK))
theorem Me {L:List (bF×Int)}{since:Nat}{seen:List Nat}{K:Nat→AV→AV→Prop}{D:Unit→Prop}(hs:since=L.length) (h:∀i s v,L[i]?=some (s,v)→i∉seen→K i (.str s) (.i v)) (hd:(∀i,i < L.length→i∈seen)→D ()):QM (bK Cv L) since seen K D:=by
 refine⟨by rw[bN];exact hs,fun i k v he hn=>?_,fun h=>hd fun i hi=>h i (by rw[bN];exact hi)⟩;rw[dC,aD]at he;cases hy:L[i]? with
 |none=>rw[hy]at he;cases he
 |some y=>
  obtain⟨s,c⟩:=y;rw[hy]at he;cases he;exact h i s c hy hn
theorem Mj {L:List (bF×Int)}{since i:Nat}{seen s:List Nat}{x:bF}{v:Int}{K:AV→AV→Prop}(e:s=seen++[i]) (hs:since=L.length) (hx:L[i]?=some (x,v)) (h:K (.str x) (.i v)):Qs (bK Cv L) since s K:=by
 subst e;exact⟨i,.str x,.i v,by rw[bN];exact hs,by simp,by rw[dC,aD,hx];rfl,h⟩
structure xC (n:Nat) (seen:List Nat):Prop where
 nd:seen.Nodup
 lt:∀i∈seen,i < n
theorem xC.len {n:Nat}{seen:List Nat}(h:xC n seen):seen.length≤n:=by
 have:=(List.nodup_range (n:=n))
 have h2:=h.nd.length_le_of_subset (l₂:=List.range n) fun i hi=>List.mem_range.2 (h.lt i hi)
 rwa [List.length_range]at h2
theorem xC.snoc {n i:Nat}{seen:List Nat}(h:xC n seen) (hi:i < n) (hn:i∉seen):xC n (seen++[i]):=by
 refine⟨?_,fun j hj=>?_⟩
 ·rw[List.nodup_append];exact⟨h.nd,by simp,fun a ha b hb e=>by obtain rfl:=List.mem_singleton.1 hb;subst e;exact hn ha⟩
 ·rcases List.mem_append.1 hj with h1|h1
  ·exact h.lt j h1
  ·obtain rfl:=List.mem_singleton.1 h1;exact hi
structure Vs (E:List (bF×Int)) (n:Nat) where
 seen:List Nat
 L:List Lo
 k:Nat
 hs:xC n seen
 hk:k=seen.length
 hl:L.length=seen.length
 ok:∀x∈L,x.good.size≤1048576∧i64 x.count
structure SE (m:Nat) (L:List Lo):Prop where
 n:L.length≤m
 g:∀x∈L,x.good.size≤1048576∧i64 x.count
def yM:cQ:=dJ (fun _:List (bF×Int)=>[.hd 0]) (fun E=>[.map 349 (bK Cv E)]) (fun E=>xU 524288 E) (fun E (L:List Lo)=>SE E.length L) (fun _ L=>.sl 2 (bK rX L)) fun E _=>[.map 349 (bK Cv E)]
theorem Ch (P:bG) (hs:uT P 326 327):bL P TH yM:=by
 intro args H K hcc;obtain⟨E,rfl,rfl,⟨hn,hg,hc⟩,hK⟩:=hcc;refine⟨cW,?_⟩
 try dsimp only at hn hg hc hK
 obtain⟨nn,hnn⟩:∃n:Nat,n=E.length:=⟨_,rfl⟩
 cbv;repeat'((first|refine .k fun z hz=>?_|fail)<;>cbv)
 obtain rfl:z=nI nn:=bR;refine iD (Gh.adopt 3 295 2 rfl) ?_;cbv;refine bZ [2] (fun q:Vs E nn=>[(3,.hd 2)]) (fun q=>[.map 349 (bK Cv E),.iter (.hd 0) nn q.seen,.row 295 2 (bK rX q.L)]) (fun q=>iH (nn+1) q.k) ⟨[],[],0,⟨.nil,fun i hi=>by cases hi⟩,rfl,rfl,fun x h=>nomatch h⟩ ?_;rintro ⟨seen,L,k,hse,hk,hl,hok⟩
 try dsimp only at hse hk hl hok⊢
 have hsl:=hse.len;cbv;refine Me hnn (fun i s v hx hni=>?_) (fun hall=>?_)
 ·have hil:=(aA.1 hx).1;have hse2:=hse.snoc (by omega) hni;obtain⟨s2,hs2⟩:∃s,s=seen++[i]:=⟨_,rfl⟩
  rw[←hs2]at hse2⊢;have hsk:s2.length=k+1:=by rw[hs2,hk];simp
  have hgs:=hg _ (aC hx);have hcs:=hc _ (aC hx)
  try dsimp only at hgs hcs
  have hlt:k < nn+1:=by omega
  cbv;refine Mj hs2 hnn hx ?_;cbv;repeat'((first|refine .zl fun zs hzs hzl=>?_|fail)<;>cbv)
  obtain⟨L2,hL2⟩:∃L2,L2=L++[(⟨s,v⟩:Lo)]:=⟨_,rfl⟩
  have hL2n:L2.length=s2.length:=by rw[hL2,aM,hl,hsk,hk];rfl
  have hok2:∀x∈L2,x.good.size≤1048576∧i64 x.count:=fun x hx=>by
   rw[hL2]at hx;rcases List.mem_append.1 hx with hx|hx
   ·exact hok x hx
   ·rw[List.mem_singleton.1 hx];exact⟨hgs,hcs⟩
  obtain rfl:zs=bK rX L2:=by rw[hL2,cP,cS];exact hzs
  exact bP ⟨s2,L2,k+1,hse2,hsk.symm,hL2n,hok2⟩ (bQ hlt)
 ·cbv;refine zH hs 2 L rfl (by omega) rfl fun L' hL' hm'=>?_
  have hK:=hK L' ⟨by omega,fun x hx=>hok x (hm' x hx)⟩;cbv
  (refine .r9 (Gh.plain 2 rfl) ?_;cbv;exact .inl (.g9 hK))
def El:cQ:=dJ (fun l:List Lo=>[.sl 2 (bK rX l)]) (fun _=>[]) D4 (fun l (L:List Lo)=>SE l.length L) (fun _ L=>.sl 2 (bK rX L)) fun _ _=>[]
theorem Dp (P:bG) (hc:bH P 319 Ah) (hr:bH P 318 yM):bL P SO El:=by
 intro args H K hcc;obtain⟨l,rfl,rfl,hp,hK⟩:=hcc;refine⟨cW,?_⟩
 try dsimp only at hK
 have hpn:=hp.n;cbv;refine bI hc l [] hp rfl rfl (by decide) rfl rfl rfl rfl rfl fun E hE=>?_
 have hEn:=hE.n;cbv;refine bI hr E [0] ⟨by omega,hE.g,hE.c⟩ rfl rfl (by decide) rfl rfl rfl rfl rfl fun L hL=>?_
 have hK:=hK L ⟨by have:=hL.n;omega,hL.g⟩;cbv
 (refine .q9 ?_;cbv;exact .inl (.f9 hK))
def iR (l:List Bx):List Lo:=l.flatMap Bx.lots
def Jj:cQ:=dJ (fun l:List Bx=>[.sl 3 (bK CO l)]) (fun _=>[]) (fun l=>l.length≤1048576∧D4 (iR l)) (fun l (L:List Lo)=>SE (iR l).length L) (fun _ L=>.sl 2 (bK rX L)) fun _ _=>[]
theorem xT (P:bG) (hj:bH P 297 El):bL P Sx Jj:=by
 intro args H K hcc;obtain⟨l,rfl,rfl,⟨hl,hp⟩,hK⟩:=hcc;refine⟨cW,?_⟩
 try dsimp only at hl hp hK
 have hml:=bN CO l;have hpn:=hp.n;obtain⟨n,hn⟩:∃n,n=l.length:=⟨_,rfl⟩
 have hall:∀k,(iR (l.take k)).length≤(iR l).length:=fun k=>by
  have e:iR l=iR (l.take k)++iR (l.drop k):=by
   unfold iR;rw[←List.flatMap_append,List.take_append_drop]
  rw[e,aM];omega
 cbv;repeat'((first|refine .k fun z hz=>?_|fail)<;>cbv)
 refine iD (Gh.adopt 3 295 2 rfl) ?_;cbv;refine bZ [0] (fun q:{ q:Nat×List Lo // q.1≤n∧q.2=iR (l.take q.1) }=>[(3,.hd 0),(8,.i (nI q.1.1))]) (fun q=>[.row 295 2 (bK rX q.1.2)]) (fun q=>iH n q.1.1) ⟨(0,[]),aI _,rfl⟩ ?_;rintro ⟨⟨k,L⟩,hk,hL⟩
 try dsimp only at hk hL⊢
 have hLn:=hall k;rw[←hL]at hLn;rcases aL k l.length with hks|hks
 ·obtain⟨⟨mark,kind,lots⟩,hx⟩:=cY hks;have hnx:iR (l.take (k+1))=L++lots:=by rw[cE hx,hL];unfold iR;rw[List.flatMap_append];simp
  have hLn2:=hall (k+1);rw[hnx,aM]at hLn2;have hml2:=bN rX lots;have hml3:=bN rX L;cbv;repeat'((first|refine .e ?_|refine .y fun h=>?_|refine .k fun z hz=>?_|refine .l fun ys hys hyl=>?_|fail)<;>cbv)
  obtain rfl:z=nI (k+1):=bR;have hy2:ys=iR (l.take (k+1)):=by rw[hnx];exact hys
  exact bP ⟨(k+1,ys),by exact bR,hy2⟩ (bQ bR)
 ·have hke:k=l.length:=by omega
  rw[hke,List.take_length]at hL;have hp2:D4 L:=by rw[hL];exact hp
  rw[←hL]at hK;cbv;repeat'((first|refine .n fun h=>?_|fail)<;>cbv)
  refine bT 0 rfl ?_;cbv;refine bI hj L [] hp2 rfl rfl (by decide) rfl rfl rfl rfl rfl fun L3 hL3=>?_
  have hK:=hK L3 hL3;cbv
  (refine .q9 ?_;cbv;exact .inl (.f9 hK))
def LN:cQ:=dJ (fun k:Int=>[.i k]) (fun _=>[]) (fun _=>True) (fun _ (s:bF)=>s.size≤5) (fun _ s=>.str s) fun _ _=>[]
theorem HW (P:bG):bL P TX LN:=by
 intro args H K hcc;obtain⟨k,rfl,rfl,_,hK⟩:=hcc;refine⟨cW,?_⟩
 try dsimp only at hK
 have h1:=hK ⟨#[115,109,97,108,108]⟩ (by decide);have h2:=hK ⟨#[108,97,114,103,101]⟩ (by decide);have h3:=hK ⟨#[111,116,104,101,114]⟩ (by decide);cbv;repeat'((first|refine .mk (fun h=>?_) fun h=>?_|fail)<;>cbv)
 all_goals first|(refine .q9 ?_;cbv;exact .inl (.f9 h1))|(refine .q9 ?_;cbv;exact .inl (.f9 h2))|(refine .q9 ?_;cbv;exact .inl (.f9 h3))
structure U7 (k:OX):Prop where
 x:k.xs=eQ k.o
 z:k.o.size≠0
 l:k.o.size≤8796093022208
def Eo:cQ:=dJ (fun i:List Lo×OX=>[.sl 2 (bK rX i.1),.ptr 0 0]) (fun i=>iW i.2.xs) (fun i=>D4 i.1∧U7 i.2) (fun i k=>rU (i.2.o.size+i.1.length * 1048600+1) k) (fun _ _=>.tup []) fun _ k=>iW k.xs
structure UC (l:List Lo) (z0:Nat) where
 k:Nat
 o:bF
 xs:List AV
 hk:k≤l.length
 x:xs=eQ o
 z:o.size≠0
 l:o.size≤z0+k * 1048600
theorem Dx (P:bG) (hi:bH P 109 kP) (hw:bH P 56 Px) (hb:bH P 250 (Uk 10)):bL P TV Eo:=by
 intro args H K hcc;obtain⟨⟨l,⟨o0,xs0⟩⟩,rfl,rfl,⟨⟨hn,hg,hc⟩,⟨hx0,hz0,hl0⟩⟩,hK⟩:=hcc;refine⟨cW,?_⟩
 try dsimp only at hn hg hc hx0 hz0 hl0 hK
 have hml:=bN rX l;have s1:(ByteArray.mk #[32]).size=1:=rfl;have s2:(ByteArray.mk #[58]).size=1:=rfl;obtain⟨n,hnn⟩:∃n,n=l.length:=⟨_,rfl⟩
 obtain⟨z0,hz00⟩:∃n,n=o0.size:=⟨_,rfl⟩
 cbv;repeat'((first|refine .k fun z hz=>?_|fail)<;>cbv)
 refine bZ [1] (fun q:UC l z0=>[(1,.ptr 0 0),(7,.i (nI q.k))]) (fun q=>[.blk 133 [.ptr 0 0,.hd 1],.row 5 1 q.xs]) (fun q=>iH n q.k) ⟨0,o0,xs0,aI _,hx0,hz0,by omega⟩ ?_;rintro ⟨k,o,xs,hk,hx,hz,hl⟩
 try dsimp only at hk hx hz hl⊢
 rcases aL k l.length with hks|hks
 ·obtain⟨⟨good,count⟩,hxx⟩:=cY hks;have hgs:=hg _ (aC hxx);have hcs:=hc _ (aC hxx)
  try dsimp only at hgs hcs
  have hiz:=eF count hcs;obtain⟨w,hw1⟩:∃w,w=cT count:=⟨_,rfl⟩
  rw[←hw1]at hiz;cbv;repeat'((first|refine .e ?_|refine .y fun h=>?_|refine .u fun u hu hul=>?_|fail)<;>cbv)
  (refine hP hi count hcs ?_;try dsimp only)
  rw[←hw1];cbv;repeat'((first|refine .u fun u hu hul=>?_|fail)<;>cbv)
  refine bI hw (⟨o,xs,u⟩:BI) [0,1] ⟨hx,hz,(show u.size≠0 by omega),(show o.size+u.size≤140737488355328 by omega)⟩ rfl rfl (by decide) rfl rfl rfl rfl rfl fun ys hys=>?_
  obtain⟨o2,ho2⟩:∃o2,o2=o++u:=⟨_,rfl⟩
  have hz2:o2.size=o.size+u.size:=by rw[ho2];exact ByteArray.size_append
  replace hys:ys=eQ o2:=by rw[ho2];exact hys
  cbv;repeat'((first|refine .k fun z hz=>?_|fail)<;>cbv)
  obtain rfl:z=nI (k+1):=bR;exact bP ⟨k+1,o2,ys,by exact bR,hys,by omega,by omega⟩ (bQ bR)
 ·have hke:k=l.length:=by omega
  rw[hke]at hl;cbv;repeat'((first|refine .n fun h=>?_|fail)<;>cbv)
  refine bI hb (⟨o,xs,10⟩:TJ) [0,1] ⟨⟨hx,hz,(show o.size+1≤140737488355328 by omega)⟩,rfl⟩ rfl rfl (by decide) rfl rfl rfl rfl rfl fun ys hys=>?_
  obtain⟨o2,ho2⟩:∃o2,o2=o++⟨#[10]⟩:=⟨_,rfl⟩
  have hz2:o2.size=o.size+1:=by rw[ho2];exact ByteArray.size_append
  replace hys:ys=eQ o2:=by rw[ho2];exact hys
  have hK:=hK ⟨o2,ys⟩ ⟨hys,by(try dsimp only);omega,by(try dsimp only);omega⟩;cbv
  (refine .q9 ?_;cbv;exact .inl (.f9 hK))
def amX:cQ:=spec (fun n:Nd=>[jW n]) (fun _=>[]) dG (fun _=>.tup [.i 1,.bl true]) fun _=>[]
theorem abK (P:bG):bL P apM amX:=by
 intro args H K hc;obtain⟨⟨kind,field,text,num⟩,rfl,rfl,hp,hK⟩:=hc;refine⟨cW,?_⟩;dsimp only at hp hK⊢;unfold dG at hp;dsimp only at hp;rcases hp with rfl|rfl|rfl
 all_goals
  cbv;repeat'((first|refine .n fun h=>?_|fail)<;>cbv)
  all_goals first
   |exact absurd rfl ‹_›
   |exact absurd ‹_› (by decide)
   |(refine .q9 ?_;cbv;exact .inl (.f9 hK))
def aoD:cQ:=spec (fun l:List Nd=>[.sl 6 (bK jW l)]) (fun _=>[]) (fun l=>l.length≤64∧∀n∈l,dG n) (fun _=>.tup [.i 1,.bl true]) fun _=>[]
theorem aaY (P:bG) (hc:bH P 245 amX):bL P asJ aoD:=by
 intro args H K hc;obtain⟨l,rfl,rfl,hp,hK⟩:=hc;refine⟨cW,?_⟩;dsimp only at hp hK⊢;obtain⟨hl,hp⟩:=hp;have hml:=bN jW l;cbv;repeat'((first|refine .k fun z hz=>?_|fail)<;>cbv)
 refine bZ [] (fun q:{ k:Nat // k≤l.length }=>[(4,.i 1),(5,.bl false),(12,.i (nI q.1))]) (fun _=>[]) (fun q=>iH 65 q.1) ⟨0,aI _⟩ ?_;rintro ⟨k,hk⟩
 try dsimp only at hk⊢
 rcases aL k l.length with hks|hks
 ·obtain⟨⟨kind,field,text,num⟩,hx⟩:=cY hks;have hpx:=hp _ (aC hx);cbv;repeat'((first|refine .e ?_|refine .y fun h=>?_|fail)<;>cbv)
  (refine hP hc (⟨kind,field,text,num⟩:Nd) hpx ?_;try dsimp only)
  cbv;repeat'((first|refine .n fun h=>?_|refine .k fun z hz=>?_|fail)<;>cbv)
  all_goals first
   |exact absurd rfl ‹_›
   |exact absurd ‹_› (by decide)
   |skip
  rename_i zb hzb zc hzc;obtain rfl:zb=1:=by omega
  obtain rfl:zc=1:=by omega
  obtain rfl:z=nI (k+1):=bR;exact bP ⟨k+1,by exact bR⟩ (bQ bR)
 ·cbv;repeat'((first|refine .n fun h=>?_|refine .y fun h=>?_|fail)<;>cbv)
  all_goals first
   |exact absurd rfl ‹_›
   |exact absurd ‹_› (by decide)
   |(refine .q9 ?_;cbv;exact .inl (.f9 hK))
def ahM:cQ:=spec (fun l:List Nd=>[vW l]) (fun _=>[]) (fun l=>l.length≤64∧∀n∈l,dG n) (fun _=>.tup [.i 1,.bl true]) fun _=>[]
theorem aaU (P:bG) (hq:bH P 292 aoD):bL P apM ahM:=by
 intro args H K hc;obtain⟨l,rfl,rfl,hp,hK⟩:=hc;refine⟨cW,?_⟩;dsimp only at hp hK⊢;unfold vW;cbv;repeat'((first|refine .y fun h=>?_|fail)<;>cbv)
 all_goals first
  |exact absurd rfl ‹_›
  |exact absurd ‹_› (by decide)
  |skip
 (refine hP hq l hp ?_;try dsimp only)
 cbv
 (refine .q9 ?_;cbv;exact .inl (.f9 hK))
def akT:cQ:=spec (fun i:List Nd×Nd=>[jW i.2,.ptr 0 0]) (fun i=>[.blk 98 [.hd 1],.row 100 6 (bK jW i.1)]) (fun i=>i.1.length≤64) (fun i=>.i (nI i.1.length)) fun i=>[.blk 98 [.hd 1],.row 100 6 (bK jW (i.1++[i.2]))]
theorem abV (P:bG):bL P atX akT:=by
 intro args H K hc;obtain⟨⟨l,⟨kind,field,text,num⟩⟩,rfl,rfl,hp,hK⟩:=hc;refine⟨cW,?_⟩;dsimp only at hp hK⊢
 try dsimp only at hp
 have hml:=bN jW l;obtain⟨n,hn⟩:∃n,n=l.length:=⟨_,rfl⟩
 rw[←hn]at hK hp hml;cbv;repeat'((first|refine .k fun z hz=>?_|refine .zl fun zs hzs hzl=>?_|fail)<;>cbv)
 obtain⟨l2,hl2⟩:∃q,q=l++[(⟨0,⟨#[]⟩,⟨#[]⟩,0⟩:Nd)]:=⟨_,rfl⟩
 have hx2:l2[n]?=some ⟨0,⟨#[]⟩,⟨#[]⟩,0⟩:=by rw[hl2,hn];simp
 obtain rfl:zs=bK jW l2:=by rw[hl2,cP,cS];exact hzs
 obtain rfl:z=nI n:=bR;refine rE hx2 ?_;cbv;repeat'((first|refine .e ?_|refine .k fun z hz=>?_|refine .z fun zs hzs=>?_|refine And.intro ?_ ?_|fail)<;>cbv)
 all_goals
  obtain⟨l3,hl3⟩:∃q,q=l++[(⟨kind,field,text,num⟩:Nd)]:=⟨_,rfl⟩
  have h32:l2.set n ⟨kind,field,text,num⟩=l3:=by rw[hl2,hl3,hn];simp
  have hl3l:l3.length=n+1:=by rw[hl3,aM,hn];rfl
  rw[←hl3]at hK;obtain rfl:zs=bK jW l3:=by rw[←h32,←qV];exact hzs
  have hml3:=bN jW l3;cbv;repeat'((first|refine .k fun z hz=>?_|fail)<;>cbv)
  obtain rfl:z=nI n:=bR
  (refine .q9 ?_;cbv;exact .inl (.f9 hK))
def alD:cQ:=WG (fun i:bF×Nd=>[.str i.1,jW i.2]) (fun i=>i.1.size≤281474976710656∧i.2.kind=3) fun _=>false
theorem acO (P:bG) (hv:bH P 243 ahY):bL P asS alD:=by
 intro args H K hc;obtain⟨⟨t,⟨kind,field,text,num⟩⟩,rfl,rfl,hp,hK⟩:=hc;refine⟨cW,?_⟩;dsimp only at hp hK⊢;obtain⟨hz,hk⟩:=hp
 try dsimp only at hz hk
 subst hk;obtain⟨r,hr⟩:∃r,r=Yt (t,1):=⟨_,rfl⟩
 cbv
 (refine hP hv ((t,1):bF×Int) ⟨hz,.inr rfl⟩ ?_;try dsimp only)
 rw[←hr];obtain⟨v1,v2⟩:=r;cbv;repeat'((first|refine .n fun h=>?_|fail)<;>cbv)
 all_goals first
  |exact absurd rfl ‹_›
  |exact absurd ‹_› (by decide)
  |(refine .q9 ?_;cbv;exact .inl (.f9 hK))
def txA (l:List Nd):AL:=l.filterMap fun n=>if n.kind=3 then some (n.field,n.text) else none
def moA (l:List Nd):List (bF×Int):=l.filterMap fun n=>if n.kind=5 then some (n.field,n.num) else none
def leA (l:List Nd):List (bF×Int):=l.filterMap fun n=>if n.kind=6 then some (n.field,n.num) else none
structure DsR (l:List Nd):Prop where
 p:∀n∈l,dG n
 d:∀(i j:Nat) (a b:Nd),i < j→l[i]?=some a→l[j]?=some b→a.field≠b.field
 m:l.length≤64
 t:∀n∈l,n.text.size≤281474976710656
theorem aiZ {l:List Nd}{s v:bF}(h:tJ (txA l) s=some v):∃n∈l,n.kind=3∧n.field=s∧n.text=v:=by
 unfold tJ at h;obtain⟨p,hp,rfl⟩:=Option.map_eq_some_iff.1 h;have h1:=List.mem_of_find?_eq_some hp;have h2:p.1=s:=by simpa using List.find?_some hp
 obtain⟨n,hn,hq⟩:=List.mem_filterMap.1 h1
 split at hq
 ·rename_i hk;cases hq;exact⟨n,hn,hk,h2,rfl⟩
 ·cases hq
theorem ajB {l:List Nd}{p:bF×Int}(h:p∈moA l):∃n∈l,n.kind=5∧n.field=p.1:=by
 obtain⟨n,hn,hq⟩:=List.mem_filterMap.1 h
 split at hq
 ·rename_i hk;cases hq;exact⟨n,hn,hk,rfl⟩
 ·cases hq
theorem ajG {l:List Nd}{p:bF×Int}(h:p∈leA l):∃n∈l,n.kind=6∧n.field=p.1:=by
 obtain⟨n,hn,hq⟩:=List.mem_filterMap.1 h
 split at hq
 ·rename_i hk;cases hq;exact⟨n,hn,hk,rfl⟩
 ·cases hq
theorem DsR.ahead {l:List Nd}(h:DsR l) {k:Nat}{a n:Nd}(ha:l[k]?=some a) (hn:n∈l.take k):n.field≠a.field:=by
 obtain⟨i,hi,rfl⟩:=List.getElem_of_mem hn;have hi2:i < k:=by rw[aR]at hi;omega
 exact h.d i k _ a hi2 (by rw[List.getElem_take];exact aB _) ha
theorem DsR.one {l:List Nd}(h:DsR l) {a n:Nd}(ha:a∈l) (hn:n∈l) (e:n.field=a.field):n=a:=by
 obtain⟨i,hi,rfl⟩:=List.getElem_of_mem hn;obtain⟨j,hj,rfl⟩:=List.getElem_of_mem ha;rcases Nat.lt_trichotomy i j with h1|rfl|h1
 ·exact absurd e (h.d i j _ _ h1 (aB hi) (aB hj))
 ·rfl
 ·exact absurd e.symm (h.d j i _ _ h1 (aB hj) (aB hi))
def ZA:Int→AV:=fun z=>.i z
def ClH (l:List Nd):List cC:=[.blk 98 [.sl 6 (bK jW l)],.map 103 (bK CQ (txA l)),.blk 103 [.hd 1]]
structure CsI where
 l:List Nd
 k:Nat
structure asT (i:CsI):Prop where
 d:DsR i.l
 k:i.k < i.l.length
def aoR:cQ:=spec (fun i:CsI=>[.i (nI i.k),.ptr 2 0,.ptr 0 0]) (fun i=>ClH i.l) asT (fun _=>.bl false) fun i=>ClH i.l
theorem abH (P:bG) (ha:bH P 296 alD):bL P auF aoR:=by
 intro args H K hc;obtain⟨⟨l,k⟩,rfl,rfl,hp,hK⟩:=hc;refine⟨cW,?_⟩;dsimp only at hp hK⊢;obtain⟨hd,hk⟩:=hp
 try dsimp only at hd hk
 have hml:=bN jW l;obtain⟨x,hx⟩:=cY hk;have hin:=fun v (h:tJ (txA l) x.field=some v)=>aiZ h
 have hone:=fun n hn e=>hd.one (aC hx) (n:=n) hn e
 have hts:=hd.t;obtain⟨kind,field,text,num⟩:=x
 try dsimp only at hin hone
 obtain⟨A,hA⟩:∃A,A=txA l:=⟨_,rfl⟩
 unfold ClH at hK⊢;rw[←hA]at hK hin⊢;cbv;repeat'((first|refine .e ?_|fail)<;>cbv)
 refine fB (s:=field) (A:=A) (fun i v hv=>?_) (fun hv=>?_)
 ·obtain⟨n,hn,hn3,hnf,hnt⟩:=hin v hv;obtain rfl:=hone n hn hnf;have hz:=hts _ hn
  try dsimp only at hn3 hnt hz
  subst hnt;cbv;repeat'((first|refine .e ?_|fail)<;>cbv)
  (refine hP ha ((text,⟨kind,field,text,num⟩):bF×Nd) ⟨hz,hn3⟩ ?_;try dsimp only)
  cbv
  (refine .q9 ?_;cbv;exact .inl (.f9 hK))
 ·cbv
  (refine .q9 ?_;cbv;exact .inl (.f9 hK))
def WU (n:Nat):List Int:=(List.range n).map fun j=>((j:Nat):Int)
theorem Xu (n:Nat):(WU n).length=n:=by unfold WU;rw[aJ,List.length_range]
theorem Zz {n k:Nat}(h:k < n):(WU n)[k]?=some (nI k):=by
 unfold WU;rw[aD,List.getElem?_range h];rfl
def amC:cQ:=spec (fun l:List Nd=>[.sl 1 (bK ZA (WU l.length)),.clo 295 [.ptr 2 0,.ptr 0 0]]) ClH DsR (fun _=>.i (-1)) ClH
theorem acU (P:bG) (m:cL P 295) (hc:bH P 295 aoR):bL P asM amC:=by
 intro args H K hc;obtain⟨l,rfl,rfl,hp,hK⟩:=hc;refine⟨cW,?_⟩;dsimp only at hp hK⊢;have hd:=hp;have hm:=hp.m;obtain⟨n,hn⟩:∃n,n=l.length:=⟨_,rfl⟩
 have hat:=fun k (h:k < n)=>Zz h
 obtain⟨J,hJ⟩:∃J,J=WU n:=⟨_,rfl⟩
 have hJl:J.length=n:=by rw[hJ,Xu]
 rw[←hJ]at hat
 rw[←hn]at hm⊢;rw[←hJ];have hml:=bN ZA J;unfold ClH at hK⊢;obtain⟨A,hA⟩:∃A,A=txA l:=⟨_,rfl⟩
 rw[←hA]at hK⊢;cbv;repeat'((first|refine .k fun z hz=>?_|fail)<;>cbv)
 refine bZ [] (fun q:{ k:Nat // k≤n }=>[(8,.i (nI q.1))]) (fun _=>[.blk 98 [.sl 6 (bK jW l)],.map 103 (bK CQ A),.blk 103 [.hd 1]]) (fun q=>iH 65 q.1) ⟨0,aI _⟩ ?_;rintro ⟨k,hk⟩
 try dsimp only at hk⊢
 rcases aL k n with hks|hks
 ·have hx:=hat k hks;cbv;repeat'((first|refine .e ?_|refine .y fun h=>?_|refine And.intro ?_ ?_|fail)<;>cbv)
  ·exact m
  subst hA
  (refine jR hc (⟨l,k⟩:CsI) [0,1,2] ⟨hd,by(try dsimp only);omega⟩ ?_;try dsimp only)
  unfold ClH;cbv;repeat'((first|refine .k fun z hz=>?_|fail)<;>cbv)
  obtain rfl:z=nI (k+1):=bR;exact bP ⟨k+1,by exact bR⟩ (bQ bR)
 ·cbv;repeat'((first|refine .n fun h=>?_|fail)<;>cbv)
  (refine .q9 ?_;cbv;exact .inl (.f9 hK))
def anQ:cQ:=spec (fun l:List Nd=>[.sl 1 (bK ZA (WU l.length)),.clo 295 [.ptr 2 0,.ptr 0 0]]) ClH DsR (fun _=>.bl false) ClH
theorem acF (P:bG) (hf:bH P 317 amC):bL P asD anQ:=by
 intro args H K hc;obtain⟨l,rfl,rfl,hp,hK⟩:=hc;refine⟨cW,?_⟩;dsimp only at hp hK⊢;unfold ClH at hK⊢;cbv
 (refine jR hf l [0,1,2] hp ?_;try dsimp only)
 unfold ClH;cbv;repeat'((first|refine .n fun h=>?_|fail)<;>cbv)
 all_goals first
  |exact absurd rfl ‹_›
  |exact absurd ‹_› (by decide)
  |(refine .q9 ?_;cbv;exact .inl (.f9 hK))
structure C3 where
 k:Nat
 A:AL
 M:List (bF×Int)
 E:List (bF×Int)
structure atP (l:List Nd) (n:Nat) (q:C3):Prop where
 k:q.k≤n
 a:q.A=txA (l.take q.k)
 m:q.M=moA (l.take q.k)
 e:q.E=leA (l.take q.k)
theorem ahW (l:List Nd) (n:Nd):txA (l++[n])=txA l++(if n.kind=3 then [(n.field,n.text)] else []):=by
 unfold txA;rw[List.filterMap_append,List.filterMap_cons,List.filterMap_nil]
 split<;>split<;>simp_all
theorem ahZ (l:List Nd) (n:Nd):moA (l++[n])=moA l++(if n.kind=5 then [(n.field,n.num)] else []):=by
 unfold moA;rw[List.filterMap_append,List.filterMap_cons,List.filterMap_nil]
 split<;>split<;>simp_all
theorem aiK (l:List Nd) (n:Nd):leA (l++[n])=leA l++(if n.kind=6 then [(n.field,n.num)] else []):=by
 unfold leA;rw[List.filterMap_append,List.filterMap_cons,List.filterMap_nil]
 split<;>split<;>simp_all
theorem alW (l:List Nd):(moA l).length≤l.length:=List.length_filterMap_le _ _
theorem akL (l:List Nd):(leA l).length≤l.length:=List.length_filterMap_le _ _
theorem ajX (l:List Nd):(txA l).length≤l.length:=List.length_filterMap_le _ _
def aoA:cQ:=WG (fun l:List Nd=>[.sl 6 (bK jW l),.sl 1 (bK ZA (WU l.length))]) DsR fun _=>false
theorem abZ (P:bG) (hf:bH P 294 anQ):bL P atC aoA:=by
 intro args H K hc;obtain⟨l,rfl,rfl,hp,hK⟩:=hc;refine⟨cW,?_⟩;dsimp only at hp hK⊢;have hd:=hp;have hm:=hp.m;have hml0:=bN jW l;obtain⟨n,hn⟩:∃n,n=l.length:=⟨_,rfl⟩
 have hat:=fun k (h:k < n)=>Zz h
 obtain⟨J,hJ⟩:∃J,J=WU n:=⟨_,rfl⟩
 have hJl:J.length=n:=by rw[hJ,Xu]
 rw[←hJ]at hat
 rw[←hn]at hm⊢;rw[←hJ];have hml:=bN ZA J;cbv;repeat'((first|refine .k fun z hz=>?_|fail)<;>cbv)
 refine bZ [1,3,4] (fun q:{ q:C3 // atP l n q }=>[(5,.ptr 2 0),(6,.hd 3),(7,.hd 4),(26,.i (nI q.1.k))]) (fun q=>[.blk 98 [.sl 6 (bK jW l)],.map 103 (bK CQ q.1.A),.blk 103 [.hd 1],.map 326 (bK Cv q.1.M),.map 326 (bK Cv q.1.E)]) (fun q=>iH 65 q.1.k) ⟨⟨0,[],[],[]⟩,aI _,rfl,rfl,rfl⟩ ?_;rintro ⟨⟨k,A,M,E⟩,hk,hA,hM,hE⟩
 try dsimp only at hk hA hM hE⊢
 have hAl:=ajX (l.take k);have hMl:=alW (l.take k);have hEl:=akL (l.take k);rw[←hA]at hAl;rw[←hM]at hMl;rw[←hE]at hEl;have htl:(l.take k).length≤k:=by rw[aR];exact Nat.min_le_left _ _
 rcases aL k n with hks|hks
 ·have hx:=hat k hks;obtain⟨x,hxl⟩:=cY (L:=l) (i:=k) (by omega);have hpx:=hd.p x (aC hxl);have htk:=cE hxl;have hno3:tJ A x.field=none:=by
   cases hg:tJ A x.field with
   |none=>rfl
   |some v=>
    rw[hA]at hg;obtain⟨m,hm1,_,hm3,_⟩:=aiZ hg;exact absurd hm3 (hd.ahead hxl hm1)
  have hno5:∀p∈M,p.1≠x.field:=fun p hp e=>by
   rw[hM]at hp;obtain⟨m,hm1,_,hm3⟩:=ajB hp;exact hd.ahead hxl hm1 (hm3.trans e)
  have hno6:∀p∈E,p.1≠x.field:=fun p hp e=>by
   rw[hE]at hp;obtain⟨m,hm1,_,hm3⟩:=ajG hp;exact hd.ahead hxl hm1 (hm3.trans e)
  have hA2:=ahW (l.take k) x;have hM2:=ahZ (l.take k) x;have hE2:=aiK (l.take k) x;rw[←htk,←hA]at hA2;rw[←htk,←hM]at hM2;rw[←htk,←hE]at hE2;obtain⟨kind,field,text,num⟩:=x;unfold dG at hpx
  try dsimp only at hpx hno3 hno5 hno6 hA2 hM2 hE2
  rcases hpx with rfl|rfl|rfl
  ·rw[aF rfl]at hA2;rw[aE (by decide),List.append_nil]at hM2 hE2;cbv;repeat'((first|refine .e ?_|refine .y fun h=>?_|fail)<;>cbv)
   all_goals first
    |exact absurd rfl ‹_›
    |exact absurd ‹_› (by decide)
    |skip
   refine fB (s:=field) (A:=A) (fun i v hv=>absurd (hno3.symm.trans hv) (by simp)) (fun hv=>?_);cbv;refine fB (s:=field) (A:=A) (fun i v hv=>absurd (hno3.symm.trans hv) (by simp)) (fun hv=>?_);cbv;repeat'((first|refine .k fun z hz=>?_|refine .ms fun ms hms=>?_|fail)<;>cbv)
   obtain⟨A2,hAA⟩:∃A2,A2=txA (l.take (k+1)):=⟨_,rfl⟩
   obtain rfl:ms=bK CQ A2:=by rw[hms,hAA,hA2,cP,cS];rfl
   obtain rfl:z=nI (k+1):=bR;exact bP ⟨⟨k+1,A2,M,E⟩,by exact bR,hAA,hM2.symm,hE2.symm⟩ (bQ (by(try dsimp only);omega))
  ·rw[aF rfl]at hM2;rw[aE (by decide),List.append_nil]at hA2 hE2;cbv;repeat'((first|refine .e ?_|refine .n fun h=>?_|refine .y fun h=>?_|fail)<;>cbv)
   all_goals first
    |exact absurd rfl ‹_›
    |exact absurd ‹_› (by decide)
    |skip
   refine tY (s:=field) (A:=M) (fun i v hv=>absurd rfl (hno5 _ (aC hv))) (fun _=>?_);cbv;refine tY (s:=field) (A:=M) (fun i v hv=>absurd rfl (hno5 _ (aC hv))) (fun _=>?_);cbv;repeat'((first|refine .k fun z hz=>?_|refine .ms fun ms hms=>?_|fail)<;>cbv)
   obtain⟨M2,hMM⟩:∃A2,A2=moA (l.take (k+1)):=⟨_,rfl⟩
   obtain rfl:ms=bK Cv M2:=by rw[hms,hMM,hM2,cP,cS];rfl
   obtain rfl:z=nI (k+1):=bR;exact bP ⟨⟨k+1,A,M2,E⟩,by exact bR,hA2.symm,hMM,hE2.symm⟩ (bQ (by(try dsimp only);omega))
  ·rw[aF rfl]at hE2;rw[aE (by decide),List.append_nil]at hA2 hM2;cbv;repeat'((first|refine .e ?_|refine .n fun h=>?_|refine .y fun h=>?_|fail)<;>cbv)
   all_goals first
    |exact absurd rfl ‹_›
    |exact absurd ‹_› (by decide)
    |skip
   refine tY (s:=field) (A:=E) (fun i v hv=>absurd rfl (hno6 _ (aC hv))) (fun _=>?_);cbv;refine tY (s:=field) (A:=E) (fun i v hv=>absurd rfl (hno6 _ (aC hv))) (fun _=>?_);cbv;repeat'((first|refine .k fun z hz=>?_|refine .ms fun ms hms=>?_|fail)<;>cbv)
   obtain⟨E2,hEE⟩:∃A2,A2=leA (l.take (k+1)):=⟨_,rfl⟩
   obtain rfl:ms=bK Cv E2:=by rw[hms,hEE,hE2,cP,cS];rfl
   obtain rfl:z=nI (k+1):=bR;exact bP ⟨⟨k+1,A,M,E2⟩,by exact bR,hA2.symm,hM2.symm,hEE⟩ (bQ (by(try dsimp only);omega))
 ·have hke:l.take k=l:=bB (by omega);rw[hke]at hA hM hE;obtain⟨nn,hnn⟩:∃n:Nat,n=M.length:=⟨_,rfl⟩
  cbv;repeat'((first|refine .n fun h=>?_|refine .k fun z hz=>?_|fail)<;>cbv)
  obtain rfl:z=nI nn:=bR;refine bZ [] (fun q:{ q:List Nat×Nat // xC nn q.1∧q.2=q.1.length }=>[(103,.ptr 5 0),(7,.hd 4)]) (fun q=>[.blk 98 [.sl 6 (bK jW l)],.map 103 (bK CQ A),.blk 103 [.hd 1],.map 326 (bK Cv M),.map 326 (bK Cv E),.iter (.hd 3) nn q.1.1]) (fun q=>iH (nn+1) q.1.2) ⟨([],0),⟨.nil,fun i hi=>by cases hi⟩,rfl⟩ ?_;rintro ⟨⟨seen,sk⟩,hse,hsk0⟩
  try dsimp only at hse hsk0⊢
  have hsl:=hse.len;cbv;refine Me hnn (fun i s v hxm hni=>?_) (fun hall=>?_)
  ·have hil:=(aA.1 hxm).1;have hse2:=hse.snoc (by omega) hni;obtain⟨s2,hs2⟩:∃s,s=seen++[i]:=⟨_,rfl⟩
   rw[←hs2]at hse2⊢;have hsk:s2.length=sk+1:=by rw[hs2,hsk0];simp
   have hlt:sk < nn+1:=by omega
   have hno:∀p∈E,p.1≠s:=fun p hp e=>by
    have h5:=aC hxm;rw[hM]at h5;rw[hE]at hp;obtain⟨m,hm1,hm2,hm3⟩:=ajB h5;obtain⟨m6,hq1,hq2,hq3⟩:=ajG hp;have:=hd.one hm1 hq1 (hq3.trans (e.trans hm3.symm));rw[this]at hq2;rw[hq2]at hm2;exact absurd hm2 (by decide)
   cbv;refine Mj hs2 hnn hxm ?_;cbv;refine tY (s:=s) (A:=E) (fun i v hv=>absurd rfl (hno _ (aC hv))) (fun _=>?_);cbv;exact bP ⟨(s2,sk+1),hse2,hsk.symm⟩ (bQ hlt)
  ·cbv;subst hA;rw[hJ,hn]
   (refine jR hf l [0,1,2] hd ?_;try dsimp only)
   unfold ClH;cbv
   (refine .q9 ?_;cbv;exact .inl (.f9 hK))
structure PrR where
 t:bF
 e:Int
def WH (c:Cr):PrR:=if cmB c=true then (if 4096 < (Xa c).size then ⟨⟨#[]⟩,7⟩ else ⟨Xa c,0⟩) else ⟨⟨#[]⟩,1⟩
def XP:cQ:=spec (fun c:Cr=>[vS c]) (fun _=>[]) Iq (fun c=>.tup [.str (WH c).t,.i (WH c).e]) fun _=>[]
theorem Yz (P:bG) (hc:bH P 74 YS) (hw:bH P 75 akS):bL P U6 XP:=by
 intro args H K hc;obtain⟨⟨number,applicant,beneficiary,issuer,confirmer,frm,to,cur,amt,above,below,latest,expiry,within,tenor,partial_,change,needs⟩,rfl,rfl,hp,hK⟩:=hc;refine⟨cW,?_⟩;dsimp only at hp hK⊢;obtain⟨g,hg⟩:∃g,g=WH ⟨number,applicant,beneficiary,issuer,confirmer,frm,to,cur,amt,above,below,latest,expiry,within,tenor,partial_,change,needs⟩:=⟨_,rfl⟩
 rw[←hg]at hK;unfold WH at hg;obtain⟨b,hb⟩:∃b,b=cmB ⟨number,applicant,beneficiary,issuer,confirmer,frm,to,cur,amt,above,below,latest,expiry,within,tenor,partial_,change,needs⟩:=⟨_,rfl⟩
 obtain⟨w,hw1⟩:∃w,w=Xa ⟨number,applicant,beneficiary,issuer,confirmer,frm,to,cur,amt,above,below,latest,expiry,within,tenor,partial_,change,needs⟩:=⟨_,rfl⟩
 rw[←hb,←hw1]at hg;cbv
 (refine hP hc (⟨number,applicant,beneficiary,issuer,confirmer,frm,to,cur,amt,above,below,latest,expiry,within,tenor,partial_,change,needs⟩:Cr) hp ?_;try dsimp only)
 rw[←hb];cases b
 ·obtain rfl:g=⟨⟨#[]⟩,1⟩:=hg;cbv
  (refine .q9 ?_;cbv;exact .inl (.f9 hK))
 ·rw[aF rfl]at hg;cbv;refine bI hw (⟨number,applicant,beneficiary,issuer,confirmer,frm,to,cur,amt,above,below,latest,expiry,within,tenor,partial_,change,needs⟩:Cr) [] hp rfl rfl (by decide) rfl rfl rfl rfl rfl fun t ht=>?_
  obtain⟨htz,hte⟩:=ht;rw[←hw1]at hte;subst hte;clear hw1;cbv;repeat'((first|refine .mk (fun h=>?_) fun h=>?_|refine .k fun z hz=>?_|fail)<;>cbv)
  ·rw[aF (by have hz2:z=((t.size:Nat):Int):=hz;omega)]at hg;subst hg
   (refine .q9 ?_;cbv;exact .inl (.f9 hK))
  ·rw[aE (by have hz2:z=((t.size:Nat):Int):=hz;omega)]at hg;subst hg
   (refine .q9 ?_;cbv;exact .inl (.f9 hK))
def Yd (c:Cr):Bool:=decide ((WH c).e=0)
def ahR:cQ:=WG (fun c:Cr=>[vS c]) Iq Yd
theorem acW (P:bG) (hpr:bH P 25 XP):bL P Vm ahR:=by
 intro args H K hc;obtain⟨⟨number,applicant,beneficiary,issuer,confirmer,frm,to,cur,amt,above,below,latest,expiry,within,tenor,partial_,change,needs⟩,rfl,rfl,hp,hK⟩:=hc;refine⟨cW,?_⟩;dsimp only at hp hK⊢;obtain⟨g,hg⟩:∃g,g=Yd ⟨number,applicant,beneficiary,issuer,confirmer,frm,to,cur,amt,above,below,latest,expiry,within,tenor,partial_,change,needs⟩:=⟨_,rfl⟩
 rw[←hg]at hK;unfold Yd at hg;obtain⟨r,hr⟩:∃r,r=WH ⟨number,applicant,beneficiary,issuer,confirmer,frm,to,cur,amt,above,below,latest,expiry,within,tenor,partial_,change,needs⟩:=⟨_,rfl⟩
 rw[←hr]at hg;cbv
 (refine hP hpr (⟨number,applicant,beneficiary,issuer,confirmer,frm,to,cur,amt,above,below,latest,expiry,within,tenor,partial_,change,needs⟩:Cr) hp ?_;try dsimp only)
 rw[←hr];obtain⟨t,e⟩:=r;dsimp only at hg;cbv;repeat'((first|refine .mk (fun h=>?_) fun h=>?_|fail)<;>cbv)
 ·exact nF.mk ⟨_,Gh.refl _,.inl (.v9 (mT hK (by(rw[hg,aH (by assumption)]))))⟩
 ·exact nF.mk ⟨_,Gh.refl _,.inl (.v9 (mT hK (by(rw[hg,aG (by assumption)]))))⟩
structure apC (c:Cr):Prop where
 b:cmB c=true
 z:(Xa c).size≤4096
theorem ajH {c:Cr}(h:Yd c=true):apC c∧WH c=⟨Xa c,0⟩:=by
 have h1:=of_decide_eq_true h;unfold WH at h1⊢;by_cases hb:cmB c=true
 ·rw[aF hb]at h1⊢;by_cases hz:4096 < (Xa c).size
  ·rw[aF hz]at h1;exact absurd h1 (by decide)
  ·rw[aE hz];exact⟨⟨hb,by omega⟩,rfl⟩
 ·rw[aE hb]at h1;exact absurd h1 (by decide)
structure aqU (c:Cr):Prop where
 n:∀s∈[c.number,c.applicant,c.beneficiary,c.issuer,c.frm,c.to],WM s=true
 cu:W2 c.cur=true
 amt:1≤c.amt∧c.amt≤1099511627776
 latest:0≤c.latest∧c.latest≤1048576
 expiry:0≤c.expiry∧c.expiry≤1048576
 tenor:0≤c.tenor∧c.tenor≤1048576
 r:∀n∈c.needs,∀r∈n.rules,rmB r=true
 k:∀n∈c.needs,0≤n.kind∧n.kind < 6
theorem agY {c:Cr}(h:cmB c=true):aqU c:=by
 unfold cmB at h;simp only[aO,Bool.not_eq_true',decide_eq_true_eq,List.any_eq_false]at h;obtain⟨h1,h2,h3,h4,h5⟩:=h;have hday:∀z∈[c.latest,c.expiry,21,c.tenor],0≤z∧z≤1048576:=fun z hz=>by
  have:=h4 z hz;unfold acH CW at this;simpa using this
 have hnm:∀n∈c.needs,nmB n=true:=fun n hn=>by
  have:=h5 n hn;unfold Ya at this;simpa using this
 refine⟨fun s hs=>?_,h2,h3,hday _ (by simp),hday _ (by simp),hday _ (by simp),fun n hn r hr=>?_,fun n hn=>?_⟩
 ·have:=h1 s hs;unfold nNm at this;simpa using this
 ·have:=hnm n hn;unfold nmB at this;simp only[aO,Bool.not_eq_true',List.any_eq_false]at this;have h6:=this.2 r hr;unfold Xp at h6;simpa using h6
 ·have:=hnm n hn;unfold nmB Xq at this;simp only[aO,decide_eq_true_eq]at this;exact this.1
def aeM:cQ:=WG (fun l:List Nd=>[vW l]) DsR fun _=>false
def ZS (c:Cr):List Fa:=if c.expiry < c.latest then [⟨-1,-1,⟨#[108,97,116,101,115,116]⟩,4⟩] else []
structure afR (c:Cr):Prop where
 n:c.needs.length≤64
 d:∀(i j:Nat) (a b:Ne),i < j→c.needs[i]?=some a→c.needs[j]?=some b→a.kind≠b.kind
 r:∀n∈c.needs,n.rules.length≤64∧(∀r∈n.rules,adP n.kind r)∧DsR n.rules
def aoB:cQ:=spec (fun c:Cr=>[vS c]) (fun _=>[]) afR (fun c=>.sl 4 (bK mD (ZS c))) fun _=>[]
theorem ZZ (P:bG) (m:cL P 168) (ht:bH P 168 anZ) (he:bH P 169 aeC) (hcl:bH P 172 aeM):bL P x81 aoB:=by
 intro args H K hc;obtain⟨⟨number,applicant,beneficiary,issuer,confirmer,frm,to,cur,amt,above,below,latest,expiry,within,tenor,partial_,change,needs⟩,rfl,rfl,hp,hK⟩:=hc;refine⟨cW,?_⟩;dsimp only at hp hK⊢;obtain⟨hn,hdd,hnd⟩:=hp
 try dsimp only at hn hdd hnd
 have hml:=bN iQ needs;obtain⟨nn,hnn⟩:∃nn,nn=needs.length:=⟨_,rfl⟩
 obtain⟨F,hF⟩:∃F,F=ZS ⟨number,applicant,beneficiary,issuer,confirmer,frm,to,cur,amt,above,below,latest,expiry,within,tenor,partial_,change,needs⟩:=⟨_,rfl⟩
 rw[←hF]at hK;unfold ZS at hF;dsimp only at hF;by_cases hle:expiry < latest
 ·rw[aF hle]at hF;cbv;repeat'((first|refine .y fun h=>?_|refine And.intro ?_ ?_|fail)<;>cbv)
  all_goals first
   |(exfalso;omega)
   |skip
  ·exact m
  refine pN 1 0 44 4 rfl rfl rfl ?_;cbv
  (refine jR ht (([],⟨-1,-1,⟨#[108,97,116,101,115,116]⟩,4⟩):List Fa×Fa) [1,3,2,5] (aI _) ?_;try dsimp only)
  rw[show eD [] ⟨-1,-1,⟨#[108,97,116,101,115,116]⟩,4⟩=F by rw[hF];rfl];cbv;repeat'((first|refine .k fun z hz=>?_|fail)<;>cbv)
  refine bZ [6] (fun q:{ q:Nat×List Int // q.1≤nn∧q.2=(needs.take q.1).map Ne.kind }=>[(5,.ptr 4 0),(6,.hd 6),(23,.i (nI q.1.1))]) (fun q=>[.blk 33 [.str number,.str applicant,.str beneficiary,.str issuer,.str confirmer,.str frm,.str to,.str cur,.i amt,.i above,.i below,.i latest,.i expiry,.i within,.i tenor,.bl partial_,.bl change,.sl 8 (bK iQ needs)],.blk 38 [.hd 5],.map 91 (bK nZ F),.blk 91 [.hd 2],.blk 93 [.clo 168 [.ptr 3 0,.ptr 1 0]],.row 44 4 (bK mD F),.map 97 (bK DL q.1.2)]) (fun q=>iH 65 q.1.1) ⟨(0,[]),aI _,rfl⟩ ?_;rintro ⟨⟨k,S⟩,hk,hS⟩
  try dsimp only at hk hS⊢
  rcases aL k nn with hks|hks
  ·obtain⟨x,hx⟩:=cY (L:=needs) (i:=k) (by omega);obtain⟨hr1,hr2,hr3⟩:=hnd x (aC hx);have hno:∀s∈S,s≠x.kind:=fun s hs e=>by
    rw[hS]at hs;obtain⟨n,hn,rfl⟩:=aW.1 hs;obtain⟨i,hi,rfl⟩:=List.getElem_of_mem hn;have hi2:i < k:=by rw[aR]at hi;omega
    exact hdd i k _ x hi2 (by rw[List.getElem_take];exact aB _) hx e
   have hS2:(needs.take (k+1)).map Ne.kind=S++[x.kind]:=by rw[cE hx,List.map_append,hS];rfl
   have hSl:S.length≤k:=by rw[hS,aJ,aR];exact Nat.min_le_left _ _
   obtain⟨kind,rules⟩:=x
   try dsimp only at hr1 hr2 hr3 hno hS2
   cbv;repeat'((first|refine .e ?_|refine .y fun h=>?_|fail)<;>cbv)
   refine iB (M:=DL) (kf:=id) (fun _=>rfl) (s:=kind) (A:=S) (fun i a ha hak=>absurd hak (hno _ (aC ha))) (fun _=>?_);cbv;refine iB (M:=DL) (kf:=id) (fun _=>rfl) (s:=kind) (A:=S) (fun i a ha hak=>absurd hak (hno _ (aC ha))) (fun _=>?_);cbv;repeat'((first|refine .ms fun ms hms=>?_|fail)<;>cbv)
   obtain⟨S2,hSS⟩:∃S2,S2=(needs.take (k+1)).map Ne.kind:=⟨_,rfl⟩
   obtain rfl:ms=bK DL S2:=by rw[hms,hSS,hS2,cP,cS];rfl
   (refine jR he (⟨⟨number,applicant,beneficiary,issuer,confirmer,frm,to,cur,amt,above,below,latest,expiry,within,tenor,partial_,change,needs⟩,F,k,⟨kind,rules⟩⟩:CkI) [0,1,2,3,4,5,7,8] ⟨hr1,hr2⟩ ?_;try dsimp only)
   unfold CkH;cbv
   (refine hP hcl rules hr3 ?_;try dsimp only)
   cbv;repeat'((first|refine .k fun z hz=>?_|fail)<;>cbv)
   obtain rfl:z=nI (k+1):=bR;exact bP ⟨(k+1,S2),by exact bR,hSS⟩ (bQ (by(try dsimp only);omega))
  ·cbv;repeat'((first|refine .n fun h=>?_|fail)<;>cbv)
   (refine .r9 (Gh.plain 5 rfl) ?_;cbv;exact .inl (.g9 hK))
 ·rw[aE hle]at hF;subst hF;cbv;repeat'((first|refine .n fun h=>?_|refine .k fun z hz=>?_|fail)<;>cbv)
  all_goals first
   |(exfalso;omega)
   |skip
  refine iD (Gh.adoptC 1 0 44 4 rfl rfl) ?_;cbv;refine bZ [5] (fun q:{ q:Nat×List Int // q.1≤nn∧q.2=(needs.take q.1).map Ne.kind }=>[(5,.ptr 4 0),(6,.hd 5),(23,.i (nI q.1.1))]) (fun q=>[.blk 33 [.str number,.str applicant,.str beneficiary,.str issuer,.str confirmer,.str frm,.str to,.str cur,.i amt,.i above,.i below,.i latest,.i expiry,.i within,.i tenor,.bl partial_,.bl change,.sl 8 (bK iQ needs)],.blk 38 [.hd 6],.map 91 (bK nZ []),.blk 91 [.hd 2],.blk 93 [.clo 168 [.ptr 3 0,.ptr 1 0]],.map 97 (bK DL q.1.2),.row 44 4 (bK mD [])]) (fun q=>iH 65 q.1.1) ⟨(0,[]),aI _,rfl⟩ ?_;rintro ⟨⟨k,S⟩,hk,hS⟩
  try dsimp only at hk hS⊢
  rcases aL k nn with hks|hks
  ·obtain⟨x,hx⟩:=cY (L:=needs) (i:=k) (by omega);obtain⟨hr1,hr2,hr3⟩:=hnd x (aC hx);have hno:∀s∈S,s≠x.kind:=fun s hs e=>by
    rw[hS]at hs;obtain⟨n,hn,rfl⟩:=aW.1 hs;obtain⟨i,hi,rfl⟩:=List.getElem_of_mem hn;have hi2:i < k:=by rw[aR]at hi;omega
    exact hdd i k _ x hi2 (by rw[List.getElem_take];exact aB _) hx e
   have hS2:(needs.take (k+1)).map Ne.kind=S++[x.kind]:=by rw[cE hx,List.map_append,hS];rfl
   have hSl:S.length≤k:=by rw[hS,aJ,aR];exact Nat.min_le_left _ _
   obtain⟨kind,rules⟩:=x
   try dsimp only at hr1 hr2 hr3 hno hS2
   cbv;repeat'((first|refine .e ?_|refine .y fun h=>?_|fail)<;>cbv)
   refine iB (M:=DL) (kf:=id) (fun _=>rfl) (s:=kind) (A:=S) (fun i a ha hak=>absurd hak (hno _ (aC ha))) (fun _=>?_);cbv;refine iB (M:=DL) (kf:=id) (fun _=>rfl) (s:=kind) (A:=S) (fun i a ha hak=>absurd hak (hno _ (aC ha))) (fun _=>?_);cbv;repeat'((first|refine .ms fun ms hms=>?_|fail)<;>cbv)
   obtain⟨S2,hSS⟩:∃S2,S2=(needs.take (k+1)).map Ne.kind:=⟨_,rfl⟩
   obtain rfl:ms=bK DL S2:=by rw[hms,hSS,hS2,cP,cS];rfl
   (refine jR he (⟨⟨number,applicant,beneficiary,issuer,confirmer,frm,to,cur,amt,above,below,latest,expiry,within,tenor,partial_,change,needs⟩,[],k,⟨kind,rules⟩⟩:CkI) [0,1,2,3,4,6,7,8] ⟨hr1,hr2⟩ ?_;try dsimp only)
   unfold CkH;cbv
   (refine hP hcl rules hr3 ?_;try dsimp only)
   cbv;repeat'((first|refine .k fun z hz=>?_|fail)<;>cbv)
   obtain rfl:z=nI (k+1):=bR;exact bP ⟨(k+1,S2),by exact bR,hSS⟩ (bQ (by(try dsimp only);omega))
  ·cbv;repeat'((first|refine .n fun h=>?_|fail)<;>cbv)
   (refine .r9 (Gh.plain 6 rfl) ?_;cbv;exact .inl (.g9 hK))
def YC (c:Cr):Bool:=decide (c.latest≤c.expiry)
structure aqO (c:Cr):Prop where
 s:Iq c
 m:Yd c=true
 k:afR c
def adI:cQ:=WG (fun c:Cr=>[vS c]) aqO YC
theorem Zd (P:bG) (hm:bH P 30 ahR) (hc:bH P 81 aoB):bL P x28 adI:=by
 intro args H K hc;obtain⟨⟨number,applicant,beneficiary,issuer,confirmer,frm,to,cur,amt,above,below,latest,expiry,within,tenor,partial_,change,needs⟩,rfl,rfl,hp,hK⟩:=hc;refine⟨cW,?_⟩;dsimp only at hp hK⊢;obtain⟨hs,hmm,hk⟩:=hp;obtain⟨F,hF⟩:∃F,F=ZS ⟨number,applicant,beneficiary,issuer,confirmer,frm,to,cur,amt,above,below,latest,expiry,within,tenor,partial_,change,needs⟩:=⟨_,rfl⟩
 obtain⟨g,hg⟩:∃g,g=YC ⟨number,applicant,beneficiary,issuer,confirmer,frm,to,cur,amt,above,below,latest,expiry,within,tenor,partial_,change,needs⟩:=⟨_,rfl⟩
 rw[←hg]at hK;unfold ZS at hF;unfold YC at hg;dsimp only at hF hg;have hmf:=bN mD F;have hFl:F.length=if expiry < latest then 1 else 0:=by rw[hF];split<;>rfl
 cbv
 (refine hP hm (⟨number,applicant,beneficiary,issuer,confirmer,frm,to,cur,amt,above,below,latest,expiry,within,tenor,partial_,change,needs⟩:Cr) hs ?_;try dsimp only)
 rw[hmm];cbv
 (refine hP hc (⟨number,applicant,beneficiary,issuer,confirmer,frm,to,cur,amt,above,below,latest,expiry,within,tenor,partial_,change,needs⟩:Cr) hk ?_;try dsimp only)
 rw[show ZS ⟨number,applicant,beneficiary,issuer,confirmer,frm,to,cur,amt,above,below,latest,expiry,within,tenor,partial_,change,needs⟩=F by rw[hF];rfl];cbv;repeat'((first|refine .mk (fun h=>?_) fun h=>?_|refine .k fun z hz=>?_|fail)<;>cbv)
 all_goals
  by_cases hle:expiry < latest
  ·rw[aF hle]at hFl;rw[aG (by omega)]at hg;subst hg
   first
    |(exfalso;rw[hmf,hFl]at hz;((try simp only[vn]at *)<;>omega))
    |(refine .q9 ?_;cbv;exact .inl (.f9 hK))
  ·rw[aE hle]at hFl;rw[aH (by omega)]at hg;subst hg
   first
    |(exfalso;rw[hmf,hFl]at hz;((try simp only[vn]at *)<;>omega))
    |(refine .q9 ?_;cbv;exact .inl (.f9 hK))
theorem aoK {c:Cr}(hs:Iq c) (h:true=Yd c):Fu c:=by
 have q:=agY (ajH h.symm).1.b;exact⟨⟨q.amt,hs.above,hs.below,q.expiry,q.latest,hs.within⟩⟩
structure PaZ (x:Tr) (o:R7):Prop where
 y:To x o
 m:Yd o.c=true
def XS:cQ:=dJ (fun x:Tr=>[Sa x]) (fun _=>[]) LL (fun x (o:R7)=>o.ok=true→PaZ x o) (fun _ o=>.tup [vS o.c,.sl 4 (bK eP o.docs),.bl o.ok]) fun _ _=>[]
theorem X6 (P:bG) (hw:bH P 29 Fz) (hm:bH P 30 ahR) (hs:bH P 32 yB) (hcov:bH P 31 Oj):bL P x8 XS:=by
 intro args H K hcc;obtain⟨⟨⟨number,seller,buyer,carrier,issuer,house,insurer,frm,to,cur,amt,boxes,term,latest,expiry,tenor,duty⟩,issued,presented⟩,rfl,rfl,⟨hd,hi,hp,hbw,hsz⟩,hK⟩:=hcc;refine⟨cW,?_⟩
 try dsimp only at hd hi hp hbw hsz hK
 have hmz:=bN CO boxes;have hbl:=hd.mks.few;dsimp only at hbl;obtain⟨n,hnl⟩:∃n,n=boxes.length:=⟨_,rfl⟩
 cbv;repeat'((first|refine .k fun z hz=>?_|fail)<;>cbv)
 refine bZ [] (fun p:{ p:Nat×Nat // p.1≤boxes.length∧p.2=AM (boxes.take p.1) }=>[(5,.i (nI p.1.2)),(18,.i (nI p.1.1))]) (fun p=>[.blk 29 [.str number,.str seller,.str buyer,.str carrier,.str issuer,.str house,.str insurer,.str frm,.str to,.str cur,.i amt,.sl 3 (bK CO boxes),.i term,.i latest,.i expiry,.i tenor,.i duty,.int .u16 issued,.int .u16 presented],.blk 33 [.str ⟨#[]⟩,.str ⟨#[]⟩,.str ⟨#[]⟩,.str ⟨#[]⟩,.str ⟨#[]⟩,.str ⟨#[]⟩,.str ⟨#[]⟩,.str ⟨#[]⟩,.i 0,.i 0,.i 0,.i 0,.i 0,.i 0,.i 0,.bl false,.bl false,.v (.slice none 0 0)]]) (fun p=>iH n p.1.1) ⟨(0,0),aI _,rfl⟩ ?_;rintro ⟨⟨k,w⟩,hk,hw2⟩
 try dsimp only at hk hw2⊢
 have hwl:=yG boxes k;rw[←hw2]at hwl;cbv;repeat'((first|refine .mk (fun h=>?_) fun h=>?_|refine .k fun z hz=>?_|fail)<;>cbv)
 ·refine cZ bR bR fun j s hj hx=>?_
  obtain rfl:k=j:=bR;have hnx:=Gp hx;have hwn:=yG boxes (k+1);rw[hnx,←hw2]at hwn;rw[←hw2]at hnx;obtain⟨mark,kind,lots⟩:=s
  try dsimp only at hnx hwn
  cbv;repeat'((first|refine .k fun z hz=>?_|fail)<;>cbv)
  obtain rfl:z=nI (k+1):=bR;obtain⟨w3,hw3⟩:∃w3,w3=w+mark.size:=⟨_,rfl⟩
  rw[←hw3]at hnx;have hz5:Int.ofNat w+(mark.size:Int)=nI w3:=by rw[hw3];rfl
  subst ‹(_:Int)=↑mark.size›;rw[hz5]at *;subst ‹(_:Int)=nI w3›;exact bP ⟨(k+1,w3),by exact bR,hnx.symm⟩ (bQ bR)
 ·have hK:=hK ⟨⟨⟨#[]⟩,⟨#[]⟩,⟨#[]⟩,⟨#[]⟩,⟨#[]⟩,⟨#[]⟩,⟨#[]⟩,⟨#[]⟩,0,0,0,0,0,0,0,false,false,[]⟩,[],false⟩ (fun h=>nomatch h)
  (refine .q9 ?_;cbv;exact .inl (.g9 hK))
 ·have hK:=hK ⟨⟨⟨#[]⟩,⟨#[]⟩,⟨#[]⟩,⟨#[]⟩,⟨#[]⟩,⟨#[]⟩,⟨#[]⟩,⟨#[]⟩,0,0,0,0,0,0,0,false,false,[]⟩,[],false⟩ (fun h=>nomatch h)
  (refine .q9 ?_;cbv;exact .inl (.g9 hK))
 ·(refine hP hw (⟨number,seller,buyer,carrier,issuer,house,insurer,frm,to,cur,amt,boxes,term,latest,expiry,tenor,duty⟩:De) hd ?_;try dsimp only)
  obtain⟨c,hcq⟩:∃c,c=eO ⟨number,seller,buyer,carrier,issuer,house,insurer,frm,to,cur,amt,boxes,term,latest,expiry,tenor,duty⟩:=⟨_,rfl⟩
  rw[←hcq];have hcn:Iq c:=by rw[hcq];exact MW hd hsz
  obtain⟨nq1,applicant1,beneficiary1,issuer1,confirmer1,frm1,to1,cur1,amt1,above1,below1,latest1,expiry1,within1,tenor1,partial1,change1,needs1⟩:=c;cbv;have hmo:=aoK hcn;obtain⟨b,hbb⟩:∃b,b=Yd (⟨nq1,applicant1,beneficiary1,issuer1,confirmer1,frm1,to1,cur1,amt1,above1,below1,latest1,expiry1,within1,tenor1,partial1,change1,needs1⟩:Cr):=⟨_,rfl⟩
  rw[←hbb]at hmo
  (refine hP hm (⟨nq1,applicant1,beneficiary1,issuer1,confirmer1,frm1,to1,cur1,amt1,above1,below1,latest1,expiry1,within1,tenor1,partial1,change1,needs1⟩:Cr) hcn ?_;try dsimp only)
  rw[←hbb];cases b
  ·cbv;have hK:=hK ⟨⟨nq1,applicant1,beneficiary1,issuer1,confirmer1,frm1,to1,cur1,amt1,above1,below1,latest1,expiry1,within1,tenor1,partial1,change1,needs1⟩,[],false⟩ (fun h=>nomatch h)
   (refine .q9 ?_;cbv;exact .inl (.g9 hK))
  ·cbv;repeat'((first|refine .mk (fun h=>?_) fun h=>?_|refine .k fun z hz=>?_|refine .o ?_|fail)<;>cbv)
   ·have hK:=hK ⟨⟨nq1,applicant1,beneficiary1,issuer1,confirmer1,frm1,to1,cur1,amt1,above1,below1,latest1,expiry1,within1,tenor1,partial1,change1,needs1⟩,[],false⟩ (fun h=>nomatch h)
    (refine .q9 ?_;cbv;exact .inl (.g9 hK))
   ·have hK:=hK ⟨⟨nq1,applicant1,beneficiary1,issuer1,confirmer1,frm1,to1,cur1,amt1,above1,below1,latest1,expiry1,within1,tenor1,partial1,change1,needs1⟩,[],false⟩ (fun h=>nomatch h)
    (refine .q9 ?_;cbv;exact .inl (.g9 hK))
   ·have hK:=hK ⟨⟨nq1,applicant1,beneficiary1,issuer1,confirmer1,frm1,to1,cur1,amt1,above1,below1,latest1,expiry1,within1,tenor1,partial1,change1,needs1⟩,[],false⟩ (fun h=>nomatch h)
    (refine .q9 ?_;cbv;exact .inl (.g9 hK))
   ·have hK:=hK ⟨⟨nq1,applicant1,beneficiary1,issuer1,confirmer1,frm1,to1,cur1,amt1,above1,below1,latest1,expiry1,within1,tenor1,partial1,change1,needs1⟩,[],false⟩ (fun h=>nomatch h)
    (refine .q9 ?_;cbv;exact .inl (.g9 hK))
   have hpi:presented≤issued+21:=by
    have e:=IntWalk.u16_in (presented - issued) (by omega);have h1:IntKind.u16.wrap (presented - issued)≤21:=by omega
    omega
   refine iD (Gh.adopt 9 9 1 rfl) ?_;cbv;refine bZ [3] (fun p:{ k:Nat // k≤boxes.length }=>[(9,.hd 3),(80,.i (nI p.1))]) (fun p=>[.blk 29 [.str number,.str seller,.str buyer,.str carrier,.str issuer,.str house,.str insurer,.str frm,.str to,.str cur,.i amt,.sl 3 (bK CO boxes),.i term,.i latest,.i expiry,.i tenor,.i duty,.int .u16 issued,.int .u16 presented],.blk 33 [.str ⟨#[]⟩,.str ⟨#[]⟩,.str ⟨#[]⟩,.str ⟨#[]⟩,.str ⟨#[]⟩,.str ⟨#[]⟩,.str ⟨#[]⟩,.str ⟨#[]⟩,.i 0,.i 0,.i 0,.i 0,.i 0,.i 0,.i 0,.bl false,.bl false,.v (.slice none 0 0)],.blk 33 [.str nq1,.str applicant1,.str beneficiary1,.str issuer1,.str confirmer1,.str frm1,.str to1,.str cur1,.i amt1,.i above1,.i below1,.i latest1,.i expiry1,.i within1,.i tenor1,.bl partial1,.bl change1,.sl 8 (bK iQ needs1)],.row 9 1 (bK .str ((boxes.take p.1).map (·.mark)))]) (fun p=>iH n p.1) ⟨0,aI _⟩ ?_;rintro ⟨k,hk⟩
   try dsimp only at hk⊢
   have hql:((boxes.take k).map (·.mark)).length=k:=by rw[aJ,aR];omega
   obtain⟨q,hq⟩:∃q,q=(boxes.take k).map (·.mark):=⟨_,rfl⟩
   rw[←hq]at hql⊢;cbv;repeat'((first|refine .mk (fun h=>?_) fun h=>?_|refine .o ?_|fail)<;>cbv)
   ·refine cZ bR bR fun j s hj hx=>?_
    obtain rfl:k=j:=bR;have htk:=cE hx;obtain⟨mark,kind,lots⟩:=s;cbv;repeat'((first|refine .k fun z hz=>?_|refine .zl fun zs hzs hzl=>?_|fail)<;>cbv)
    obtain rfl:z=nI (k+1):=bR;have hq2:(boxes.take (k+1)).map (·.mark)=q++[mark]:=by rw[htk,hq,List.map_append];rfl
    obtain rfl:zs=bK .str ((boxes.take (k+1)).map (·.mark)):=by rw[hq2,cP,cS];exact hzs
    exact bP ⟨k+1,by exact bR⟩ (bQ bR)
   ·have hke:k=boxes.length:=bR;rw[hke,List.take_length]at hq;obtain⟨bi,hbi⟩:∃bi,bi=dZ ⟨⟨number,seller,buyer,carrier,issuer,house,insurer,frm,to,cur,amt,boxes,term,latest,expiry,tenor,duty⟩,issued,presented⟩:=⟨_,rfl⟩
    have hbA:Qw bi=.agg [.str ⟨#[98,108]⟩,.str carrier,.str seller,.str frm,.str to,.sl 1 (bK .str q),.sl 1 [],.i issued,.bl true]:=by rw[hbi,hq];rfl
    have hbo:Mi bi:=by
     rw[hbi];exact⟨⟨hd.mks.sz,by show (boxes.map (·.mark)).length≤1048576;rw[aJ];exact hbl⟩,⟨by show (eS [] gI).size≤_;decide,aI _⟩,⟨by show _≤issued;omega,by show issued≤_;omega⟩⟩
    cbv;subst h;refine bT 3 rfl ?_;cbv;refine vP [DeA ⟨number,seller,buyer,carrier,issuer,house,⟨#[]⟩,frm,to,cur,amt,boxes,term,latest,expiry,tenor,duty⟩,Qw bi,.sl 4 []] (by rw[hbA];unfold DeA;exact Si) ?_;refine bI hs (⟨⟨number,seller,buyer,carrier,issuer,house,⟨#[]⟩,frm,to,cur,amt,boxes,term,latest,expiry,tenor,duty⟩,bi,[]⟩:Jf) [] ⟨hd,hbo,aI _,fun p h=>nomatch h⟩ rfl rfl (by decide) rfl rfl rfl rfl rfl ?_;intro t ht
    try dsimp only
    obtain⟨ds,hds⟩:∃ds,ds=DT ⟨⟨number,seller,buyer,carrier,issuer,house,⟨#[]⟩,frm,to,cur,amt,boxes,term,latest,expiry,tenor,duty⟩,bi,[]⟩ t:=⟨_,rfl⟩
    rw[←hds];have hK:=hK ⟨⟨nq1,applicant1,beneficiary1,issuer1,confirmer1,frm1,to1,cur1,amt1,above1,below1,latest1,expiry1,within1,tenor1,partial1,change1,needs1⟩,ds,true⟩ fun _=>⟨⟨hcq,hmo rfl,by assumption,by assumption,⟨by assumption,hpi⟩,by(try dsimp only);((try simp only[vn]at *)<;>omega),t,ht,by rw[hds,hbi];rfl⟩,hbb.symm⟩
    try dsimp only at hK
    cbv
    (refine .q9 ?_;cbv;exact .inl (.f9 hK))
   ·have hke:k=boxes.length:=bR;rw[hke,List.take_length]at hq;obtain⟨bi,hbi⟩:∃bi,bi=dZ ⟨⟨number,seller,buyer,carrier,issuer,house,insurer,frm,to,cur,amt,boxes,term,latest,expiry,tenor,duty⟩,issued,presented⟩:=⟨_,rfl⟩
    have hbA:Qw bi=.agg [.str ⟨#[98,108]⟩,.str carrier,.str seller,.str frm,.str to,.sl 1 (bK .str q),.sl 1 [],.i issued,.bl true]:=by rw[hbi,hq];rfl
    have hbo:Mi bi:=by
     rw[hbi];exact⟨⟨hd.mks.sz,by show (boxes.map (·.mark)).length≤1048576;rw[aJ];exact hbl⟩,⟨by show (eS [] gI).size≤_;decide,aI _⟩,⟨by show _≤issued;omega,by show issued≤_;omega⟩⟩
    (refine hP hcov (⟨⟨number,seller,buyer,carrier,issuer,house,insurer,frm,to,cur,amt,boxes,term,latest,expiry,tenor,duty⟩,cur,amt⟩:OR) ⟨hd.amt,hd.sz⟩ ?_;try dsimp only)
    obtain⟨cv,hcv⟩:∃cv,cv=uX ⟨⟨number,seller,buyer,carrier,issuer,house,insurer,frm,to,cur,amt,boxes,term,latest,expiry,tenor,duty⟩,cur,amt⟩:=⟨_,rfl⟩
    rw[←hcv];have hcf:cv.fields.length≤1048576:=by rw[hcv];show (5:Nat)≤_;decide
    obtain⟨ck,cn,cs,cl⟩:=cv;cbv;repeat'((first|refine .o ?_|fail)<;>cbv)
    refine bT 6 rfl ?_;cbv;refine bT 3 rfl ?_;cbv;refine vP [DeA ⟨number,seller,buyer,carrier,issuer,house,insurer,frm,to,cur,amt,boxes,term,latest,expiry,tenor,duty⟩,Qw bi,.sl 4 (bK eP [⟨ck,cn,cs,cl⟩])] (by rw[hbA];unfold DeA;exact Si) ?_;refine bI hs (⟨⟨number,seller,buyer,carrier,issuer,house,insurer,frm,to,cur,amt,boxes,term,latest,expiry,tenor,duty⟩,bi,[⟨ck,cn,cs,cl⟩]⟩:Jf) [] ⟨hd,hbo,(show 1≤16 by decide),fun p h=>by rw[List.mem_singleton.1 h];exact hcf⟩ rfl rfl (by decide) rfl rfl rfl rfl rfl ?_;intro t ht
    try dsimp only
    obtain⟨ds,hds⟩:∃ds,ds=DT ⟨⟨number,seller,buyer,carrier,issuer,house,insurer,frm,to,cur,amt,boxes,term,latest,expiry,tenor,duty⟩,bi,[⟨ck,cn,cs,cl⟩]⟩ t:=⟨_,rfl⟩
    rw[←hds];have hK:=hK ⟨⟨nq1,applicant1,beneficiary1,issuer1,confirmer1,frm1,to1,cur1,amt1,above1,below1,latest1,expiry1,within1,tenor1,partial1,change1,needs1⟩,ds,true⟩ fun _=>⟨⟨hcq,hmo rfl,by assumption,by assumption,⟨by assumption,hpi⟩,by(try dsimp only);((try simp only[vn]at *)<;>omega),t,ht,by rw[hds,hbi,hcv];unfold sJ;rw[aE (by assumption)]⟩,hbb.symm⟩
    try dsimp only at hK
    cbv
    (refine .q9 ?_;cbv;exact .inl (.f9 hK))
structure LgF (c:Cr) (docs:List Dc) (pres:Int):Prop where
 sz:Iq c
 pr:WH c=⟨Xa c,0⟩
 ps:ajO ⟨Xa c,(Il (Xa c)).l,((Xa c).size:Int),c⟩
 ne:(Il (Xa c)).l≠[]
 sm:c.needs.length≤64∧∀n∈c.needs,n.rules.length≤64
 fi:aqO c
 ok:mL ⟨c,docs,pres⟩
 fine:bX ⟨c,docs,pres⟩=[]
structure LgW (P:bG):Prop where
 as_:bH P 7 Lc
 pa:bH P 8 XS
 pr:bH P 25 XP
 ps:bH P 26 Zn
 sc:bH P 27 Fq
 sm:bH P 23 adR
 fi:bH P 28 adI
 ex:bH P 9 afU
def TlC:cQ:=spec (fun x:Tr=>[Sa x]) (fun _=>[]) LL (fun _=>.bl true) fun _=>[]
theorem aiU (P:bG) (F:LgW P) (hlg:∀x o,LL x→PaZ x o→LgF o.c o.docs x.presented):bL P x6 TlC:=by
 intro args H K hc;obtain⟨⟨⟨number,seller,buyer,carrier,issuer,house,insurer,frm,to,cur,amt,boxes,term,latest,expiry,tenor,duty⟩,issued,presented⟩,rfl,rfl,hp,hK⟩:=hc;refine⟨cW,?_⟩;dsimp only at hp hK⊢;have hx:=hp;have hpp:=hx.p
 try dsimp only at hpp
 cbv
 (refine hP F.as_ () trivial ?_;try dsimp only)
 cbv;refine bI F.pa (⟨⟨number,seller,buyer,carrier,issuer,house,insurer,frm,to,cur,amt,boxes,term,latest,expiry,tenor,duty⟩,issued,presented⟩:Tr) [] hx rfl rfl (by decide) rfl rfl rfl rfl rfl fun o ho=>?_
 have hf:=fun h=>hlg _ _ hx (ho h)
 clear ho;obtain⟨c,docs,ok⟩:=o
 try dsimp only at hf⊢
 cases ok
 ·obtain⟨nq1,applicant1,beneficiary1,issuer1,confirmer1,frm1,to1,cur1,amt1,above1,below1,latest1,expiry1,within1,tenor1,partial1,change1,needs1⟩:=c;cbv
  (refine .q9 ?_;cbv;exact .inl (.f9 hK))
 ·obtain⟨hsz,hpr,hps,hne,hsm,hfi,hok,hfn⟩:=hf rfl;have hz:=hps.b.z;have he:=hps.b.e;have hfb:YC c=decide (c.latest≤c.expiry):=rfl;obtain⟨t,ht⟩:∃t,t=Xa c:=⟨_,rfl⟩
  rw[←ht]at hpr hps hne hz he
  try dsimp only at hz he
  obtain⟨L,hL⟩:∃L,L=(Il t).l:=⟨_,rfl⟩
  rw[←hL]at hps hne;have hLl:L.length≠0:=fun e=>hne (List.length_eq_zero_iff.1 e)
  have hml:=bN LQ L;obtain⟨sz,hsz2⟩:∃sz:Int,sz=((t.size:Nat):Int):=⟨_,rfl⟩
  rw[←hsz2]at hps;obtain⟨at2,hat2⟩:∃a,a=(Il t).at_:=⟨_,rfl⟩
  obtain⟨fb,hfbb⟩:∃b,b=YC c:=⟨_,rfl⟩
  rw[←hfbb]at hfb;clear ht hsz2;obtain⟨nq1,applicant1,beneficiary1,issuer1,confirmer1,frm1,to1,cur1,amt1,above1,below1,latest1,expiry1,within1,tenor1,partial1,change1,needs1⟩:=c
  try dsimp only at hfb
  cbv
  (refine hP F.pr (⟨nq1,applicant1,beneficiary1,issuer1,confirmer1,frm1,to1,cur1,amt1,above1,below1,latest1,expiry1,within1,tenor1,partial1,change1,needs1⟩:Cr) hsz ?_;try dsimp only)
  rw[hpr];cbv
  (refine hP F.ps (⟨t,L,sz,(⟨nq1,applicant1,beneficiary1,issuer1,confirmer1,frm1,to1,cur1,amt1,above1,below1,latest1,expiry1,within1,tenor1,partial1,change1,needs1⟩:Cr)⟩:PrI) hps ?_;try dsimp only)
  cbv
  (refine hP F.sc t (by omega) ?_;try dsimp only)
  rw[←hL,he,←hat2];cbv;repeat'((first|refine .n fun h=>?_|refine .y fun h=>?_|refine .k fun z hz=>?_|fail)<;>cbv)
  all_goals first
   |exact absurd rfl ‹_›
   |exact absurd ‹_› (by decide)
   |(exfalso;((try simp only[vn]at *)<;>omega))
   |skip
  (refine hP F.sm (⟨nq1,applicant1,beneficiary1,issuer1,confirmer1,frm1,to1,cur1,amt1,above1,below1,latest1,expiry1,within1,tenor1,partial1,change1,needs1⟩:Cr) hsm ?_;try dsimp only)
  cbv;repeat'((first|refine .mk (fun h=>?_) fun h=>?_|fail)<;>cbv)
  all_goals
   (refine hP F.fi (⟨nq1,applicant1,beneficiary1,issuer1,confirmer1,frm1,to1,cur1,amt1,above1,below1,latest1,expiry1,within1,tenor1,partial1,change1,needs1⟩:Cr) hfi ?_;try dsimp only)
   rw[←hfbb]
  ·obtain rfl:fb=true:=by rw[hfb];exact aH (by assumption)
   cbv;repeat'((first|refine .y fun h=>?_|refine .o ?_|fail)<;>cbv)
   all_goals first
    |exact absurd rfl ‹_›
    |exact absurd trivial ‹_›
    |exact absurd ‹_› (by decide)
    |skip
   (refine hP F.ex (⟨(⟨nq1,applicant1,beneficiary1,issuer1,confirmer1,frm1,to1,cur1,amt1,above1,below1,latest1,expiry1,within1,tenor1,partial1,change1,needs1⟩:Cr),docs,presented⟩:lZ) hok ?_;try dsimp only)
   rw[aH hfn];cbv
   (refine .q9 ?_;cbv;exact .inl (.f9 hK))
  ·obtain rfl:fb=false:=by rw[hfb];exact aG (by omega)
   cbv;repeat'((first|refine .y fun h=>?_|refine .o ?_|fail)<;>cbv)
   all_goals first
    |exact absurd rfl ‹_›
    |exact absurd trivial ‹_›
    |exact absurd ‹_› (by decide)
    |skip
   (refine hP F.ex (⟨(⟨nq1,applicant1,beneficiary1,issuer1,confirmer1,frm1,to1,cur1,amt1,above1,below1,latest1,expiry1,within1,tenor1,partial1,change1,needs1⟩:Cr),docs,presented⟩:lZ) hok ?_;try dsimp only)
   rw[aH hfn];cbv
   (refine .q9 ?_;cbv;exact .inl (.f9 hK))
set_option maxHeartbeats 4000000
theorem XX (u:Nat):∀c∈Lib.decDigits u,48≤c.toNat∧c.toNat≤57:=by
 induction u using Nat.strongRecOn with
 |_ u ih=>
  by_cases h0:u < 10
  ·rw[J9 u h0];intro c hc;rw[List.mem_singleton.1 hc,Wo u h0];omega
  ·rw[Ji u h0];intro c hc;rcases List.mem_append.1 hc with h|h
   ·exact ih (u / 10) (by omega) c h
   ·rw[List.mem_singleton.1 h,Wo (u % 10) (by omega)];omega
theorem aaX (u:Nat) (hu:1≤u):∃c r,Lib.decDigits u=c :: r∧c.toNat≠48:=by
 induction u using Nat.strongRecOn with
 |_ u ih=>
  by_cases h0:u < 10
  ·rw[J9 u h0];exact⟨_,_,rfl,by rw[Wo u h0];omega⟩
  ·obtain⟨c,r,h1,h2⟩:=ih (u / 10) (by omega) (by omega);rw[Ji u h0,h1];exact⟨c,_,rfl,h2⟩
def Z8 (l:List UInt8) (a:Nat):Nat:=l.foldl (fun a c=>a * 10+(c.toNat - 48)) a
theorem ZK:∀(l:List UInt8) (a:Nat),a≤Z8 l a
 |[],a=>aN a
 |c :: l,a=>by
  have:=ZK l (a * 10+(c.toNat - 48));show a≤Z8 l (a * 10+(c.toNat - 48));omega
theorem agU (u:Nat):Z8 (Lib.decDigits u) 0=u:=by
 induction u using Nat.strongRecOn with
 |_ u ih=>
  by_cases h0:u < 10
  ·rw[J9 u h0];show 0 * 10+((UInt8.ofNat (48+u)).toNat - 48)=u;rw[Wo u h0];omega
  ·have h1:=ih (u / 10) (by omega);rw[Ji u h0];unfold Z8 at h1⊢;rw[List.foldl_append,h1];show u / 10 * 10+((UInt8.ofNat (48+u % 10)).toNat - 48)=u;rw[Wo (u % 10) (by omega)];omega
theorem agL {c:UInt8}(h:48≤c.toNat∧c.toNat≤57):IntKind.u8.wrap ((c.toNat:Int) - 48)=((c.toNat - 48:Nat):Int):=by
 rw[IntWalk.u8_in _ (by omega)];omega
theorem aeZ {s:bF}:∀(l:List UInt8) (k a:Nat),HD s k=l→(∀c∈l,48≤c.toNat∧c.toNat≤57)→Z8 l a≤1099511627776→LP s k (a:Int)=0
 |[],k,a,h,_,_=>MN (WR h)
 |c :: l,k,a,h,hd,hv=>by
  obtain⟨hl,h1,h2⟩:=HB h;have hc:=hd c bC;have hv2:Z8 l (a * 10+(c.toNat - 48))≤1099511627776:=hv;have hge:=ZK l (a * 10+(c.toNat - 48));rw[Pt hl (by rw[h1]),agL hc,aE (by omega)];have:=aeZ l (k+1) (a * 10+(c.toNat - 48)) h2 (fun d hd2=>hd d (aV _ hd2)) hv2;rw[←this];rfl
theorem WW (l:List UInt8):HD ⟨⟨l⟩⟩ 0=l:=rfl
theorem Z1 (u:Nat) (h:u≤1099511627776):tT ⟨⟨Lib.decDigits u⟩⟩=0:=by
 have h0:LP ⟨⟨Lib.decDigits u⟩⟩ 0 0=0:=aeZ _ 0 0 (WW _) (XX u) (by rw[agU];exact h);unfold tT
 split
 ·rename_i h1;have hu:10≤u:=by
   rcases aL u 10 with h2|h2
   ·have h1:1 < (Lib.decDigits u).length:=h1;rw[J9 u h2]at h1;exact absurd h1 (by simp)
   ·exact h2
  obtain⟨c,r,hc,hc2⟩:=aaX u (by omega);rw[aE,h0];intro e;apply hc2;obtain⟨_,h3,_⟩:=HB (s:=⟨⟨Lib.decDigits u⟩⟩) (a:=0) (c:=c) (r:=r) (by rw[WW,hc]);rw[←h3];exact e
 ·exact h0
theorem ZI {s:bF}:∀(f:Nat) (l:List UInt8) (k:Nat),HD s k=l→(∀c∈l,48≤c.toNat∧c.toNat≤57)→Lib.idxFuncFrom Gn true s f k=-1
 |0,_,_,_,_=>rfl
 |f+1,[],k,h,_=>Lib.idxFuncFrom_end _ _ _ _ _ (by have:=WR h;omega)
 |f+1,c :: l,k,h,hd=>by
  obtain⟨hl,h1,h2⟩:=HB h;have hc:=hd c bC;have hg:s.get! k=c:=by
   rw[←h1];show s.data[k]! =s.data[k];exact getElem!_pos s.data k hl
  have hde:Utf8.decode s k=(c.toNat,1):=by
   unfold Utf8.decode;simp only[Nat.add_zero,hg];rw[aF (by omega)]
  unfold Lib.idxFuncFrom;rw[aF hl,hde,aE (by unfold Gn;simp;omega)];exact ZI f l (k+1) h2 fun d hd2=>hd d (aV _ hd2)
theorem agM (u:Nat):NQ ⟨⟨Lib.decDigits u⟩⟩=true:=by
 unfold NQ Lib.idxFunc;rw[ZI _ _ 0 (WW _) (XX u)];rfl
theorem akK {c:UInt8}(h:48≤c.toNat∧c.toNat≤57):AE (bz c)=true:=by
 unfold AE qM bz;simp;omega
theorem HM {n:Int}(h:0≤n∧n≤1099511627776):D2 (cT n).data.toList [(2,cT n)]:=by
 obtain⟨u,rfl⟩:∃u:Nat,n=(u:Int):=⟨n.toNat,by omega⟩
 have e:cT (u:Int)=⟨⟨Lib.decDigits u⟩⟩:=by unfold cT;rw[Lib.itoa_nonneg]
 rw[e];obtain⟨c,r,hc,_⟩:=Cf u;have hd:=XX u;have hq:=agM u;have hb:=Z1 u (by omega);rw[hc]at hd hq hb⊢;have:=W7 (c:=c) (w:=r) (fun d hdd=>akK (hd d hdd)) (by unfold rJ;rw[aF hq];exact hb);unfold rB at this;rw[aF hq]at this;exact this
theorem abF {s:bF}(h:Wt s=true):∃c w,s=⟨⟨c :: w⟩⟩∧∀d∈c :: w,AE (bz d)=true:=by
 unfold Wt at h;simp only[aO,decide_eq_true_eq,aS]at h;obtain⟨⟨h1,_⟩,h2⟩:=h;obtain⟨⟨l⟩⟩:=s;cases l with
 |nil=>exact absurd h1 (by decide)
 |cons c w=>exact⟨c,w,rfl,fun d hd=>h2 d hd⟩
theorem afG {c:UInt8}{w:List UInt8}(hw:∀d∈c :: w,AE (bz d)=true) {p:Tk→Bool}(h:X2 p (Il ⟨⟨c :: w⟩⟩)=true):rJ ⟨⟨c :: w⟩⟩=0:=by
 by_cases he:rJ ⟨⟨c :: w⟩⟩=0
 ·exact he
 exfalso;have hr:HD ⟨⟨c :: w⟩⟩ 0=[]++(c :: w):=rfl;have h1:=HJ (g:=CN) [] 0 (c :: w) hr (fun _ h=>nomatch h) (fun d r' hd=>by injection hd with hd _;subst hd;exact XN (hw c bC));have h3:=HJ (g:=AE) (s:=⟨⟨c :: w⟩⟩) (c :: w) 0 [] (by rw[List.append_nil];rfl) hw (fun d r' hd=>nomatch hd);have h4:=WC (s:=⟨⟨c :: w⟩⟩) (a:=0) (x:=c :: w) (r:=[]) (by rw[List.append_nil];rfl);obtain⟨h5,h6⟩:=HF (s:=⟨⟨c :: w⟩⟩) (a:=0) (c:=c) (r:=w) rfl;have hn:jZ ⟨⟨c :: w⟩⟩ 0=⟨⟨rB ⟨⟨c :: w⟩⟩,0,⟨⟨c :: w⟩⟩⟩,rJ ⟨⟨c :: w⟩⟩,0+(c :: w).length⟩:=by
  unfold jZ;rw[h5,aF (hw c bC),h3,h4]
 unfold Il F9 at h;have h1:eZ CN ⟨⟨c :: w⟩⟩ 0=0:=h1;rw[h1,aE (by omega),aE (by decide),hn,aE he,Xn]at h;cases h
theorem HG {s:bF}(h:WM s=true):D2 s.data.toList [(rB s,s)]:=by
 unfold WM at h;obtain⟨h1,h2⟩:=Bool.and_eq_true_iff.1 h;obtain⟨c,w,rfl,hw⟩:=abF h1;exact W7 hw (afG hw h2)
theorem XO {g:Int→Bool}{s:bF}:∀(l:List UInt8) (a:Nat),HD s a=l→eZ g s a=a+l.length→∀c∈l,g (bz c)=true
 |[],_,_,_=>fun c hc=>nomatch hc
 |c :: l,a,h,hr=>by
  obtain⟨hl,h1,h2⟩:=HB h;cases hg:g (bz c) with
  |false=>
   rw[Fo hl (by rw[h1];exact hg),List.length_cons]at hr;omega
  |true=>
   rw[tK hl (by rw[h1];exact hg),List.length_cons]at hr;intro d hd;rcases List.mem_cons.1 hd with rfl|hd
   ·exact hg
   ·exact XO l (a+1) h2 (by rw[hr];omega) d hd
theorem adG {s:bF}(h:XG s=true):∀d∈s.data.toList,Dz (bz d)=true:=by
 have h1:=of_decide_eq_true h;refine XO s.data.toList 0 rfl ?_;rw[h1,Nat.zero_add];rfl
theorem XI {s:bF}:∀(f:Nat) (acc:List Tk) (a:Nat),(F9 s f acc a).l=[]∨∃l2,(F9 s f acc a).l=acc++l2
 |0,_,_=>.inl rfl
 |f+1,acc,a=>by
  unfold F9
  split
  ·exact .inr ⟨[],(List.append_nil _).symm⟩
  ·split
   ·exact .inl rfl
   ·split
    ·rcases XI f (acc++[(jZ s (eZ CN s a)).t]) (jZ s (eZ CN s a)).a with h|⟨l2,h⟩
     ·exact .inl h
     ·exact .inr ⟨(jZ s (eZ CN s a)).t :: l2,by rw[h,bE];rfl⟩
    ·exact .inl rfl
theorem aaR {s:bF}{b:Nat}(he:(jZ s b).e=0) (hk:(jZ s b).t.kind=4):(jZ s b).t.text=s.extract b (eZ AG s b)∧(s.extract b (eZ AG s b)).size=3:=by
 unfold jZ at he hk⊢
 split at he
 ·rename_i h1;rw[aF h1]at hk;have:=HO (s.extract b (eZ AE s b));exact absurd hk (by show ¬rB _=4;omega)
 ·rename_i h1;rw[aE h1]at hk⊢
  split at he
  ·rename_i h2;rw[aF h2]at hk⊢
   split at he
   ·rename_i h3;rw[aF h3];exact⟨rfl,h3⟩
   ·exact absurd he (show ¬(2:Int)=0 by decide)
  ·rename_i h2;rw[aE h2]at hk
   split at he
   ·rename_i h3;rw[aF h3]at hk;unfold uY at hk he
    split at hk
    ·exact absurd hk (show ¬(3:Int)=4 by decide)
    ·exact absurd hk (show ¬(0:Int)=4 by decide)
   ·rename_i h3;rw[aE h3]at hk;unfold rN at hk
    repeat' split at hk
    all_goals first
     |exact absurd hk (show ¬(5:Int)=4 by decide)
     |exact absurd hk (show ¬(0:Int)=4 by decide)
theorem aaM {s:bF}(h:W2 s=true):∃c w,s=⟨⟨c :: w⟩⟩∧(c :: w).length=3∧∀d∈c :: w,AG (bz d)=true:=by
 have hq:∃b,(jZ s b).e=0∧ZM s (jZ s b).t=true∧b < s.size:=by
  unfold W2 X2 Il F9 at h;by_cases h1:s.size≤eZ CN s 0
  ·rw[aF h1]at h;exact absurd h (by simp)
  ·rw[aE h1,aE (by decide)]at h;by_cases h2:(jZ s (eZ CN s 0)).e=0
   ·rw[aF h2]at h;refine⟨_,h2,?_,by omega⟩;have h3:=(Bool.and_eq_true_iff.1 h).2
    split at h3
    ·rename_i t ht;rcases XI s.size ([]++[(jZ s (eZ CN s 0)).t]) (jZ s (eZ CN s 0)).a with h4|⟨l2,h4⟩
     ·rw[ht]at h4;cases h4
     ·rw[ht]at h4;injection h4 with h5 h6
      rw[←h5];exact h3
    ·cases h3
   ·rw[aE h2]at h;exact absurd h (by simp)
 obtain⟨b,he,hc,hb⟩:=hq;unfold ZM at hc;simp only[aO,decide_eq_true_eq]at hc;obtain⟨h1,h2⟩:=aaR he hc.1;rw[hc.2]at h1;have h3:s.size=3:=by rw[←h1]at h2;exact h2
 have h4:=lN AG s (Nat.le_of_lt hb);have h5:(s.extract b (eZ AG s b)).size=min (eZ AG s b) s.size - b:=ByteArray.size_extract;have hb0:b=0:=by omega
 subst hb0;have h6:eZ AG s 0=3:=by omega
 obtain⟨⟨l⟩⟩:=s;have h3:l.length=3:=h3;cases l with
 |nil=>cases h3
 |cons c w=>exact⟨c,w,rfl,h3,XO (g:=AG) (s:=⟨⟨c :: w⟩⟩) (c :: w) 0 rfl (by rw[h6,h3])⟩
theorem agF {s:bF}(h:W2 s=true):D2 s.data.toList [(4,s)]:=by
 obtain⟨c,w,rfl,h3,hw⟩:=aaM h;exact Y8 hw h3
abbrev TT:=List (Int×bF)
theorem hG {w:bF}(h:(w.data.toList.all fun d=>AE (bz d))=true) (h0:w.data.toList≠[]) (hk:rB w=0) (he:rJ w=0):D2 w.data.toList [(0,w)]:=by
 obtain⟨⟨l⟩⟩:=w;cases l with
 |nil=>exact absurd rfl h0
 |cons c w=>
  have:=W7 (c:=c) (w:=w) (fun d hd=>aS.1 h d hd) he;rw[hk]at this;exact this
theorem Z6:D2 (ByteArray.mk #[99,114,101,100,105,116]).data.toList [(0,⟨#[99,114,101,100,105,116]⟩)]:=hG (by decide) (by decide) (by decide) (by decide)
theorem X5:D2 (ByteArray.mk #[97,112,112,108,105,99,97,110,116]).data.toList [(0,⟨#[97,112,112,108,105,99,97,110,116]⟩)]:=hG (by decide) (by decide) (by decide) (by decide)
theorem Xk:D2 (ByteArray.mk #[98,101,110,101,102,105,99,105,97,114,121]).data.toList [(0,⟨#[98,101,110,101,102,105,99,105,97,114,121]⟩)]:=hG (by decide) (by decide) (by decide) (by decide)
theorem Z7:D2 (ByteArray.mk #[105,115,115,117,101,114]).data.toList [(0,⟨#[105,115,115,117,101,114]⟩)]:=hG (by decide) (by decide) (by decide) (by decide)
theorem ahI:D2 (ByteArray.mk #[102,114,111,109]).data.toList [(0,⟨#[102,114,111,109]⟩)]:=hG (by decide) (by decide) (by decide) (by decide)
theorem arD:D2 (ByteArray.mk #[116,111]).data.toList [(0,⟨#[116,111]⟩)]:=hG (by decide) (by decide) (by decide) (by decide)
theorem alE:D2 (ByteArray.mk #[115,117,109]).data.toList [(0,⟨#[115,117,109]⟩)]:=hG (by decide) (by decide) (by decide) (by decide)
theorem aeR:D2 (ByteArray.mk #[97,98,111,118,101]).data.toList [(0,⟨#[97,98,111,118,101]⟩)]:=hG (by decide) (by decide) (by decide) (by decide)
theorem adY:D2 (ByteArray.mk #[98,101,108,111,119]).data.toList [(0,⟨#[98,101,108,111,119]⟩)]:=hG (by decide) (by decide) (by decide) (by decide)
theorem acQ:D2 (ByteArray.mk #[108,97,116,101,115,116]).data.toList [(0,⟨#[108,97,116,101,115,116]⟩)]:=hG (by decide) (by decide) (by decide) (by decide)
theorem aaP:D2 (ByteArray.mk #[101,120,112,105,114,121]).data.toList [(0,⟨#[101,120,112,105,114,121]⟩)]:=hG (by decide) (by decide) (by decide) (by decide)
theorem acZ:D2 (ByteArray.mk #[119,105,116,104,105,110]).data.toList [(0,⟨#[119,105,116,104,105,110]⟩)]:=hG (by decide) (by decide) (by decide) (by decide)
theorem ZJ:D2 (ByteArray.mk #[100,97,121,115]).data.toList [(0,⟨#[100,97,121,115]⟩)]:=hG (by decide) (by decide) (by decide) (by decide)
theorem Yb:D2 (ByteArray.mk #[116,101,110,111,114]).data.toList [(0,⟨#[116,101,110,111,114]⟩)]:=hG (by decide) (by decide) (by decide) (by decide)
theorem afZ:D2 (ByteArray.mk #[115,105,103,104,116]).data.toList [(0,⟨#[115,105,103,104,116]⟩)]:=hG (by decide) (by decide) (by decide) (by decide)
theorem Zt:D2 (ByteArray.mk #[112,97,114,116,105,97,108]).data.toList [(0,⟨#[112,97,114,116,105,97,108]⟩)]:=hG (by decide) (by decide) (by decide) (by decide)
theorem acJ:D2 (ByteArray.mk #[99,104,97,110,103,101]).data.toList [(0,⟨#[99,104,97,110,103,101]⟩)]:=hG (by decide) (by decide) (by decide) (by decide)
theorem afQ:D2 (ByteArray.mk #[119,97,110,116,115]).data.toList [(0,⟨#[119,97,110,116,115]⟩)]:=hG (by decide) (by decide) (by decide) (by decide)
theorem ZX:D2 (ByteArray.mk #[99,111,112,105,101,115]).data.toList [(0,⟨#[99,111,112,105,101,115]⟩)]:=hG (by decide) (by decide) (by decide) (by decide)
theorem aiJ:D2 (ByteArray.mk #[119,105,116,104]).data.toList [(0,⟨#[119,105,116,104]⟩)]:=hG (by decide) (by decide) (by decide) (by decide)
theorem amG:D2 (ByteArray.mk #[97,110,100]).data.toList [(0,⟨#[97,110,100]⟩)]:=hG (by decide) (by decide) (by decide) (by decide)
theorem amO:D2 (ByteArray.mk #[121,101,115]).data.toList [(0,⟨#[121,101,115]⟩)]:=hG (by decide) (by decide) (by decide) (by decide)
theorem apE:D2 (ByteArray.mk #[110,111]).data.toList [(0,⟨#[110,111]⟩)]:=hG (by decide) (by decide) (by decide) (by decide)
theorem Y7:D2 (ByteArray.mk #[105,110,118,111,105,99,101]).data.toList [(0,⟨#[105,110,118,111,105,99,101]⟩)]:=hG (by decide) (by decide) (by decide) (by decide)
theorem YH:D2 (ByteArray.mk #[112,97,99,107,105,110,103]).data.toList [(0,⟨#[112,97,99,107,105,110,103]⟩)]:=hG (by decide) (by decide) (by decide) (by decide)
theorem abE:D2 (ByteArray.mk #[108,97,100,105,110,103]).data.toList [(0,⟨#[108,97,100,105,110,103]⟩)]:=hG (by decide) (by decide) (by decide) (by decide)
theorem X3:D2 (ByteArray.mk #[105,110,115,117,114,97,110,99,101]).data.toList [(0,⟨#[105,110,115,117,114,97,110,99,101]⟩)]:=hG (by decide) (by decide) (by decide) (by decide)
theorem ZR:D2 (ByteArray.mk #[111,114,105,103,105,110]).data.toList [(0,⟨#[111,114,105,103,105,110]⟩)]:=hG (by decide) (by decide) (by decide) (by decide)
theorem agG:D2 (ByteArray.mk #[100,114,97,102,116]).data.toList [(0,⟨#[100,114,97,102,116]⟩)]:=hG (by decide) (by decide) (by decide) (by decide)
theorem Wv (a b:bF):(a++b).data.toList=a.data.toList++b.data.toList:=by simp
theorem Xi {n:Nd}(h:rmB n=true) (hp:dG n):D2 (Wy n).data.toList (Za n):=by
 obtain⟨kind,field,text,num⟩:=n;unfold dG at hp;unfold rmB at h;unfold Wy Za opS;dsimp only at hp h⊢;rcases hp with rfl|rfl|rfl
 ·rw[aF rfl]at h;simp only[aO]at h;have:=(HG h.2.1).join (agP.join (Yg (adG h.2.2)));rw[aF rfl,aF rfl,aF rfl,Wv,Wv,Wv];have e:field.data.toList++(ByteArray.mk #[32,61,32,34]).data.toList++text.data.toList++(ByteArray.mk #[34]).data.toList=field.data.toList++32 :: ([61]++32 :: (34 :: (text.data.toList++[34]))):=by simp
  rw[e];exact this
 ·rw[aE (by decide)]at h;simp only[aO,decide_eq_true_eq]at h;have:=(HG h.2.1).join (afS.join (HM ⟨h.2.2.1,h.2.2.2⟩));rw[aE (by decide),aF rfl,aE (by decide),aF rfl,aE (by decide),Wv,Wv];have e:field.data.toList++(ByteArray.mk #[32,60,61,32]).data.toList++(cT num).data.toList=field.data.toList++32 :: ([60,61]++32 :: (cT num).data.toList):=by simp
  rw[e];exact this
 ·rw[aE (by decide)]at h;simp only[aO,decide_eq_true_eq]at h;have:=(HG h.2.1).join (afO.join (HM ⟨h.2.2.1,h.2.2.2⟩));rw[aE (by decide),aE (by decide),aE (by decide),aE (by decide),aE (by decide),Wv,Wv];have e:field.data.toList++(ByteArray.mk #[32,62,61,32]).data.toList++(cT num).data.toList=field.data.toList++32 :: ([62,61]++32 :: (cT num).data.toList):=by simp
  rw[e];exact this
def YW (n:Nd):TT:=(0,⟨#[97,110,100]⟩) :: Za n
def YQ:List Nd→TT
 |[]=>[]
 |n :: l=>Za n++l.flatMap YW
theorem Xv:∀(l:List Nd) (o:bF) (to:TT),D2 o.data.toList to→(∀n∈l,D2 (Wy n).data.toList (Za n))→D2 (akU o l).data.toList (to++l.flatMap YW)
 |[],o,to,h,_=>by rw[List.flatMap_nil,List.append_nil];exact h
 |n :: l,o,to,h,hl=>by
  have h1:=h.join (amG.join (hl n bC));have h2:=Xv l (o++adT++Wy n) (to++YW n) (by
   rw[Wv,Wv];have e:o.data.toList++adT.data.toList++(Wy n).data.toList=o.data.toList++32 :: ((ByteArray.mk #[97,110,100]).data.toList++32 :: (Wy n).data.toList):=by simp[adT]
   rw[e];exact h1) fun m hm=>hl m (aV _ hm)
  rw[bE]at h2;exact h2
theorem Yu {l:List Nd}(h0:l≠[]) (h:∀n∈l,rmB n=true) (hp:∀n∈l,dG n):D2 (Yf l).data.toList (YQ l):=by
 have hn:¬l.any Xp=true:=by
  simp only[List.any_eq_true,not_exists,not_and];intro n hn;unfold Xp;rw[h n hn];decide
 unfold Yf;rw[aE hn];cases l with
 |nil=>exact absurd rfl h0
 |cons n l=>exact Xv l (Wy n) (Za n) (Xi (h n bC) (hp n bC)) fun m hm=>Xi (h m (aV _ hm)) (hp m (aV _ hm))
abbrev WT:=List (bF×TT)
def Xo (l:WT):List bF:=l.map (·.1)
def WF (l:WT):TT:=l.flatMap (·.2)++[(5,W0)]
theorem aqB (x y:List UInt8) (l:List (List UInt8)):Lib.join (x :: y :: l) [32]=x++32 :: Lib.join (y :: l) [32]:=by
 rw[Lib.join_cons,Lib.join_cons];unfold Lib.joinTail;simp
theorem Xr:∀(l:WT),l≠[]→(∀p∈l,D2 p.1.data.toList p.2)→D2 (Lib.join (l.map (fun p=>p.1.data.toList)) [32]) (l.flatMap (·.2))
 |[],h,_=>absurd rfl h
 |[p],_,h=>by
  rw[List.map_cons,List.map_nil,Lib.join_one,List.flatMap_cons,List.flatMap_nil,List.append_nil];exact h p bC
 |p :: q :: l,_,h=>by
  rw[List.map_cons,List.map_cons,aqB,List.flatMap_cons];have:=Xr (q :: l) (by simp) fun r hr=>h r (aV _ hr)
  rw[List.map_cons]at this;exact(h p bC).join this
def LnP (w:List UInt8) (ts:TT):Prop:=∀(s:bF) (a:Nat) (sp r:List UInt8),HD s a=sp++(w++r)→W4 sp→∃b,Xb s a ts b∧HD s b=10 :: r
theorem Zx {l:WT}(h0:l≠[]) (h:∀p∈l,D2 p.1.data.toList p.2):LnP (WE (Xo l)).data.toList (WF l):=fun s a sp r hr hsp=>by
 have hj:(WE (Xo l)).data.toList=Lib.join (l.map (fun p=>p.1.data.toList)) [32]++[59,10]:=by
  unfold WE eS Xo;rw[Wv,List.map_map];rfl
 rw[hj]at hr;obtain⟨b,h1,h2⟩:=(Xr l h0 h s a sp (59 :: 10 :: r) (by rw[hr];simp) hsp (fun c r' hc=>by injection hc with hc _;exact .inr hc.symm)).h;obtain⟨h3,h4⟩:=Yq (sp:=[]) (c:=59) (r:=10 :: r) h2 (fun _ h=>nomatch h) (.inl rfl);exact⟨_,h1.app (.cons h3 (.nil _)),h4⟩
theorem aiV:W4 [10]:=fun c hc=>by rw[List.mem_singleton.1 hc];rfl
theorem LnP.app {w1 w2:List UInt8}{t1 t2:TT}(h1:LnP w1 t1) (h2:LnP w2 t2):LnP (w1++w2) (t1++t2):=fun s a sp r h hsp=>by
 obtain⟨b,h3,h4⟩:=h1 s a sp (w2++r) (by rw[h];simp) hsp;obtain⟨c,h5,h6⟩:=h2 s b [10] r h4 aiV;exact⟨c,h3.app h5,h6⟩
theorem Zq:∀(ls:List WT) (o:bF) (to:TT),LnP o.data.toList to→(∀l∈ls,l≠[]∧∀p∈l,D2 p.1.data.toList p.2)→LnP (Zf o (ls.map Xo)).data.toList (to++ls.flatMap WF)
 |[],o,to,h,_=>by rw[List.flatMap_nil,List.append_nil];exact h
 |l :: ls,o,to,h,hl=>by
  obtain⟨h1,h2⟩:=hl l bC;have h3:=Zq ls (o++WE (Xo l)) (to++WF l) (by rw[Wv];exact h.app (Zx h1 h2)) fun m hm=>hl m (aV _ hm)
  rw[bE]at h3;exact h3
theorem YF (b:Bool):D2 (yn b).data.toList [(0,yn b)]:=by
 cases b
 ·exact apE
 ·exact amO
theorem adJ {k:Int}(h:0≤k∧k≤5):D2 (WN k).data.toList [(0,WN k)]:=by
 obtain rfl|rfl|rfl|rfl|rfl|rfl:k=0∨k=1∨k=2∨k=3∨k=4∨k=5:=by omega
 ·exact Y7
 ·exact YH
 ·exact abE
 ·exact X3
 ·exact ZR
 ·exact agG
def nW (n:Ne):WT:=[(⟨#[119,97,110,116,115]⟩,[(0,⟨#[119,97,110,116,115]⟩)]),(WN n.kind,[(0,WN n.kind)]),(⟨#[99,111,112,105,101,115]⟩,[(0,⟨#[99,111,112,105,101,115]⟩)]),(cT 1,[(2,cT 1)]),(⟨#[119,105,116,104]⟩,[(0,⟨#[119,105,116,104]⟩)]),(Yf n.rules,YQ n.rules)]
def WV (t:Int):WT:=if t=0 then [(⟨#[116,101,110,111,114]⟩,[(0,⟨#[116,101,110,111,114]⟩)]),(⟨#[115,105,103,104,116]⟩,[(0,⟨#[115,105,103,104,116]⟩)])] else [(⟨#[116,101,110,111,114]⟩,[(0,⟨#[116,101,110,111,114]⟩)]),(cT t,[(2,cT t)]),(⟨#[100,97,121,115]⟩,[(0,⟨#[100,97,121,115]⟩)])]
def hdW (c:Cr):List WT:=[[(⟨#[97,112,112,108,105,99,97,110,116]⟩,[(0,⟨#[97,112,112,108,105,99,97,110,116]⟩)]),(c.applicant,[(rB c.applicant,c.applicant)])],[(⟨#[98,101,110,101,102,105,99,105,97,114,121]⟩,[(0,⟨#[98,101,110,101,102,105,99,105,97,114,121]⟩)]),(c.beneficiary,[(rB c.beneficiary,c.beneficiary)])],[(⟨#[105,115,115,117,101,114]⟩,[(0,⟨#[105,115,115,117,101,114]⟩)]),(c.issuer,[(rB c.issuer,c.issuer)])],[(⟨#[102,114,111,109]⟩,[(0,⟨#[102,114,111,109]⟩)]),(c.frm,[(rB c.frm,c.frm)])],[(⟨#[116,111]⟩,[(0,⟨#[116,111]⟩)]),(c.to,[(rB c.to,c.to)])],[(⟨#[115,117,109]⟩,[(0,⟨#[115,117,109]⟩)]),(c.cur,[(4,c.cur)]),(cT c.amt,[(2,cT c.amt)]),(⟨#[97,98,111,118,101]⟩,[(0,⟨#[97,98,111,118,101]⟩)]),(cT 0,[(2,cT 0)]),(⟨#[98,101,108,111,119]⟩,[(0,⟨#[98,101,108,111,119]⟩)]),(cT 0,[(2,cT 0)])],[(⟨#[108,97,116,101,115,116]⟩,[(0,⟨#[108,97,116,101,115,116]⟩)]),(cT c.latest,[(2,cT c.latest)])],[(⟨#[101,120,112,105,114,121]⟩,[(0,⟨#[101,120,112,105,114,121]⟩)]),(cT c.expiry,[(2,cT c.expiry)])],[(⟨#[119,105,116,104,105,110]⟩,[(0,⟨#[119,105,116,104,105,110]⟩)]),(cT 21,[(2,cT 21)]),(⟨#[100,97,121,115]⟩,[(0,⟨#[100,97,121,115]⟩)])],WV c.tenor,[(⟨#[112,97,114,116,105,97,108]⟩,[(0,⟨#[112,97,114,116,105,97,108]⟩)]),(yn c.partial_,[(0,yn c.partial_)])],[(⟨#[99,104,97,110,103,101]⟩,[(0,⟨#[99,104,97,110,103,101]⟩)]),(yn c.change,[(0,yn c.change)])]]
def l0W (c:Cr):WT:=[(⟨#[99,114,101,100,105,116]⟩,[(0,⟨#[99,114,101,100,105,116]⟩)]),(c.number,[(rB c.number,c.number)])]
def nT (n:Ne):TT:=WF (nW n)
theorem Z3 (t:Int):Xo (WV t)=Z2 t:=by
 unfold WV Z2
 split<;>rfl
theorem ZT (t:Int):WF (WV t)=Yy t:=by
 unfold WV Yy
 split<;>rfl
theorem YB (t:Int):(Yy t).length=WD t:=by
 unfold Yy WD
 split<;>rfl
theorem Wz {α:Type}{p:α→Prop}{a:α}(h:p a):∀x∈[a],p x:=fun x hx=>by rw[List.mem_singleton.1 hx];exact h
theorem FP {α:Type}{p:α→Prop}{a:α}{l:List α}(h:p a) (hl:∀x∈l,p x):∀x∈a :: l,p x:=fun x hx=>by
 rcases List.mem_cons.1 hx with rfl|hx
 ·exact h
 ·exact hl x hx
theorem asA {α:Type}{p:α→Prop}:∀x∈([]:List α),p x:=fun x hx=>nomatch hx
theorem adQ (c:Cr):Xa c=Zf (Zf (WE (Xo (l0W c))) ((hdW c).map Xo)) ((c.needs.map nW).map Xo):=by
 have h1:(hdW c).map Xo=aeF c:=by
  unfold hdW aeF;simp only[List.map_cons,List.map_nil,Z3];rfl
 have h2:(c.needs.map nW).map Xo=c.needs.map ZH:=by
  rw[List.map_map];rfl
 rw[h1,h2];rfl
def PcL (l:WT):Prop:=l≠[]∧∀p∈l,D2 p.1.data.toList p.2
theorem apJ {c:Cr}(q:aqU c) (hs:Iq c):LnP (Xa c).data.toList (WF (l0W c)++(hdW c).flatMap WF++(c.needs.map nW).flatMap WF):=by
 rw[adQ];refine Zq _ _ _ (Zq _ _ _ (Zx (by unfold l0W;simp) ?_) ?_) ?_
 ·unfold l0W;exact FP Z6 (Wz (HG (q.n _ (by simp))))
 ·show ∀l∈hdW c,PcL l;unfold hdW;refine FP ⟨by simp,FP X5 (Wz (HG (q.n _ (by simp))))⟩ ?_;refine FP ⟨by simp,FP Xk (Wz (HG (q.n _ (by simp))))⟩ ?_;refine FP ⟨by simp,FP Z7 (Wz (HG (q.n _ (by simp))))⟩ ?_;refine FP ⟨by simp,FP ahI (Wz (HG (q.n _ (by simp))))⟩ ?_;refine FP ⟨by simp,FP arD (Wz (HG (q.n _ (by simp))))⟩ ?_;refine FP ⟨by simp,FP alE (FP (agF q.cu) (FP (HM ⟨by have:=q.amt;omega,q.amt.2⟩) (FP aeR (FP (HM (by decide)) (FP adY (Wz (HM (by decide))))))))⟩ ?_;refine FP ⟨by simp,FP acQ (Wz (HM ⟨q.latest.1,by have:=q.latest;omega⟩))⟩ ?_;refine FP ⟨by simp,FP aaP (Wz (HM ⟨q.expiry.1,by have:=q.expiry;omega⟩))⟩ ?_;refine FP ⟨by simp,FP acZ (FP (HM (by decide)) (Wz ZJ))⟩ ?_;refine FP ⟨by unfold WV;split<;>simp,by
   unfold WV
   split
   ·exact FP Yb (Wz afZ)
   ·exact FP Yb (FP (HM ⟨q.tenor.1,by have:=q.tenor;omega⟩) (Wz ZJ))⟩ ?_
  refine FP ⟨by simp,FP Zt (Wz (YF _))⟩ ?_;refine FP ⟨by simp,FP acJ (Wz (YF _))⟩ ?_;exact asA
 ·intro l hl;obtain⟨n,hn,rfl⟩:=aW.1 hl;have hz:=hs.n n hn;have hl2:=hz.l;refine⟨by unfold nW;simp,?_⟩;unfold nW;exact FP afQ (FP (adJ hz.k) (FP ZX (FP (HM (by decide)) (FP aiJ (Wz (Yu (fun e=>by rw[e]at hl2;exact absurd hl2.1 (by decide)) (fun r hr=>q.r n hn r hr) fun r hr=>(hz.r r hr).p))))))
theorem Xb.len {s:bF}{a b:Nat}{ts:TT}(h:Xb s a ts b):a≤s.size→a+ts.length≤b∧b≤s.size:=by
 induction h with
 |nil a=>exact fun h=>⟨by simp,h⟩
 |@cons a b c kd tx ts h ht ih=>
  intro ha;obtain⟨h1,h2⟩:=Mx h.p h.e;rw[h.a]at h1 h2;have h3:=lK CN s a;obtain⟨h4,h5⟩:=ih h2;rw[List.length_cons];exact⟨by omega,h5⟩
theorem At.cut {L:List Tk}{k k2:Nat}{a b:TT}(h:At L k (a++b)) (e:k+a.length=k2):At L k a∧At L k2 b:=by
 subst e;exact h.app
theorem Xd (n:Nd):(Za n).length=3:=by
 obtain⟨kind,field,text,num⟩:=n;rfl
theorem ZC {L:List Tk}:∀(l:List Nd) (k:Nat) (E:TT),At L k (l.flatMap YW++E)→(∀j n,l[j]?=some n→At L (k+4 * j) [(0,⟨#[97,110,100]⟩)]∧At L (k+4 * j+1) (Za n))∧At L (k+4 * l.length) E
 |[],k,E,h=>⟨fun j n hj=>by simp at hj,h⟩
 |m :: l,k,E,h=>by
  rw[List.flatMap_cons,bE]at h;obtain⟨h1,h2⟩:=h.cut (k2:=k+4) (by unfold YW;rw[List.length_cons,Xd]);obtain⟨h3,h4⟩:=ZC l (k+4) E h2;have h1:At L k ([(0,⟨#[97,110,100]⟩)]++Za m):=h1;refine⟨fun j n hj=>?_,by rw[List.length_cons,show k+4 * (l.length+1)=k+4+4 * l.length by omega];exact h4⟩;cases j with
  |zero=>
   cases hj;exact h1.cut (k2:=k+4 * 0+1) rfl
  |succ j=>
   have:=h3 j n (by simpa using hj);rw[show k+4 * (j+1)=k+4+4 * j by omega];exact this
theorem anA {L:List Tk}{k:Nat}{l:List Nd}(h0:l≠[]) (h:At L k (YQ l++[(5,W0)])):Yk L k l:=by
 cases l with
 |nil=>exact absurd rfl h0
 |cons m l=>
  unfold YQ at h;rw[bE]at h;obtain⟨h1,h2⟩:=h.cut (k2:=k+3) (by rw[Xd]);obtain⟨h3,h4⟩:=ZC l (k+3) _ h2;refine⟨fun j n hj=>?_,fun j hj1 hj=>?_,by rw[List.length_cons,show k+4 * (l.length+1) - 1=k+3+4 * l.length by omega];exact h4⟩
  ·cases j with
   |zero=>cases hj;exact h1
   |succ j=>
    have:=(h3 j n (by simpa using hj)).2;rw[show k+4 * (j+1)=k+3+4 * j+1 by omega];exact this
  ·obtain⟨i,rfl⟩:∃i,j=i+1:=⟨j - 1,by omega⟩
   rw[List.length_cons]at hj;have:=(h3 i l[i] (aB (by omega))).1;rw[show k+4 * (i+1) - 1=k+3+4 * i by omega];exact this
theorem XK:∀(l:List Nd),(l.flatMap YW).length=4 * l.length
 |[]=>rfl
 |m :: l=>by
  rw[List.flatMap_cons,aM,XK l,List.length_cons];unfold YW;rw[List.length_cons,Xd];omega
theorem aeS {l:List Nd}(h:l≠[]):(YQ l).length+1=4 * l.length:=by
 cases l with
 |nil=>exact absurd rfl h
 |cons m l=>
  unfold YQ;rw[aM,Xd,XK,List.length_cons];omega
theorem ajE (n:Ne):nT n=neT n++(YQ n.rules++[(5,W0)]):=by
 unfold nT WF nW neT;simp
theorem aeP {n:Ne}(h:n.rules≠[]):(nT n).length=neN n:=by
 have:=aeS h;rw[ajE,aM,aM];unfold neN neT;simp;omega
theorem Yr {L:List Tk}:∀(ns:List Ne) (k:Nat),(∀n∈ns,n.rules≠[])→At L k (ns.flatMap nT)→∀j m,ns[j]?=some m→At L (k+WY (ns.take j)) (nT m)
 |[],_,_,_,j,m,hj=>by simp at hj
 |n :: ns,k,hr,h,j,m,hj=>by
  rw[List.flatMap_cons]at h;obtain⟨h1,h2⟩:=h.cut (k2:=k+neN n) (by rw[aeP (hr n bC)]);cases j with
  |zero=>cases hj;exact h1
  |succ j=>
   have:=Yr ns (k+neN n) (fun m hm=>hr m (aV _ hm)) h2 j m (by simpa using hj);rw[List.take_succ_cons,show WY (n :: ns.take j)=neN n+WY (ns.take j) by unfold WY;rw[List.map_cons,List.sum_cons],←Nat.add_assoc];exact this
theorem Xw:∀(ns:List Ne),(∀n∈ns,n.rules≠[])→(ns.flatMap nT).length=WY ns
 |[],_=>rfl
 |n :: ns,hr=>by
  rw[List.flatMap_cons,aM,aeP (hr n bC),Xw ns fun m hm=>hr m (aV _ hm)];unfold WY;rw[List.map_cons,List.sum_cons]
theorem sM {F:List Fa}{f:Fa}:lH F f=true↔f∈F:=by
 unfold lH;rw[List.any_eq_true];exact⟨fun⟨g,hg,h⟩=>by rw[(lF f g).1 h];exact hg,fun h=>⟨f,h,(lF f f).2 rfl⟩⟩
theorem kY {F:List Fa}{f g:Fa}:g∈eD F f↔g∈F∨g=f:=by
 unfold eD
 split
 ·rename_i h;have h1:=sM.1 h;refine⟨.inl,fun h=>?_⟩;rcases h with h|h
  ·exact h
  ·rw[h];exact h1
 ·rw[List.mem_append,List.mem_singleton]
theorem gN {F:List Fa}{at_:Nat}{kind why:Int}{name:bF}{g:Fa}:g∈HN F at_ kind name why↔g∈F∨(why≠0∧g=⟨at_,kind,name,why⟩):=by
 unfold HN
 split
 ·rename_i h;exact⟨.inl,fun h2=>h2.elim id fun h3=>absurd h h3.1⟩
 ·rename_i h;rw[kY];exact⟨fun h2=>h2.imp id fun h3=>⟨h,h3⟩,fun h2=>h2.imp id And.right⟩
theorem jI (F:List Fa) (at_:Nat) (kind:Int) (name:bF) {why:Int}(h:why=0):HN F at_ kind name why=F:=aF h
theorem tQ (i:gL) (g:Fa):∀(l:List Nd) (F:List Fa),g∈eX i l F↔g∈F∨∃n∈l,cD i.d.fields n≠0∧g=⟨i.at_,i.d.kind,n.field,cD i.d.fields n⟩
 |[],F=>by unfold eX;exact⟨.inl,fun h=>h.elim id fun⟨n,hn,_⟩=>nomatch hn⟩
 |n :: l,F=>by
  unfold eX;rw[tQ i g l];unfold jA;rw[gN];constructor
  ·rintro ((h|h)|⟨m,hm,h⟩)
   ·exact .inl h
   ·exact .inr ⟨n,bC,h⟩
   ·exact .inr ⟨m,aV _ hm,h⟩
  ·rintro (h|⟨m,hm,h⟩)
   ·exact .inl (.inl h)
   ·rcases List.mem_cons.1 hm with rfl|hm
    ·exact .inl (.inr h)
    ·exact .inr ⟨m,hm,h⟩
theorem iA (i:gL) (g:Fa):∀(l:List Ne) (F:List Fa),g∈dQ i l F↔g∈F∨∃n∈l,n.kind=i.d.kind∧∃r∈n.rules,cD i.d.fields r≠0∧g=⟨i.at_,i.d.kind,r.field,cD i.d.fields r⟩
 |[],F=>by unfold dQ;exact⟨.inl,fun h=>h.elim id fun⟨n,hn,_⟩=>nomatch hn⟩
 |n :: l,F=>by
  unfold dQ;rw[iA i g l];have e:g∈gO i n F↔g∈F∨(n.kind=i.d.kind∧∃r∈n.rules,cD i.d.fields r≠0∧g=⟨i.at_,i.d.kind,r.field,cD i.d.fields r⟩):=by
   unfold gO
   split
   ·rename_i h;rw[tQ];exact⟨fun h2=>h2.imp id fun h3=>⟨h,h3⟩,fun h2=>h2.imp id And.right⟩
   ·rename_i h;exact⟨.inl,fun h2=>h2.elim id fun h3=>absurd h3.1 h⟩
  rw[e];constructor
  ·rintro ((h|h)|⟨m,hm,h⟩)
   ·exact .inl h
   ·exact .inr ⟨n,bC,h⟩
   ·exact .inr ⟨m,aV _ hm,h⟩
  ·rintro (h|⟨m,hm,h⟩)
   ·exact .inl (.inl h)
   ·rcases List.mem_cons.1 hm with rfl|hm
    ·exact .inl (.inr h)
    ·exact .inr ⟨m,hm,h⟩
theorem Ld (i:gL) {g:Fa}{F:List Fa}(h:g∈F):g∈gR i F:=by
 unfold gR
 split
 ·exact gN.2 (.inl (gN.2 (.inl (gN.2 (.inl (gN.2 (.inl h)))))))
 ·split
  ·exact gN.2 (.inl h)
  ·exact h
theorem GS (i:gL) {g:Fa}{F:List Fa}(h:g∈gR i F):g∈fK i F:=(iA i g i.x.c.needs _).2 (.inl h)
theorem Ja (i:gL) {g:Fa}(p:FA) (n:bF) (h:g∈p.F):g∈(dX i p n).F:=by
 unfold dX
 split
 ·split
  ·exact h
  ·split
   ·exact h
   ·exact kY.2 (.inl h)
 ·exact h
theorem yQ (i:gL) {g:Fa}:∀(l:List bF) (p:FA),g∈p.F→g∈(l.foldl (dX i) p).F
 |[],_,h=>h
 |n :: l,p,h=>yQ i l (dX i p n) (Ja i p n h)
theorem Ny (i:lZ) {g:Fa}(p:FA) (k:Nat) (d:Dc) (h:g∈p.F):g∈(zB i p k d).F:=by
 unfold zB
 split
 ·exact yQ _ dI _ (GS _ (Ld _ h))
 ·exact h
theorem zJ (i:lZ) {g:Fa}:∀(l:List Dc) (n:Nat) (p:FA),g∈p.F→g∈(Dj i n l p).F
 |[],_,_,h=>h
 |d :: l,n,p,h=>zJ i l (n+1) (zB i p n d) (Ny i p n d h)
theorem J6 (i:lZ) {g:Fa}{k:Nat}{d:Dc}(ha:nE i.c.needs d.kind=true):∀(l:List Dc) (n j:Nat) (p:FA),l[j]?=some d→n+j=k→(∀F,g∈fK ⟨AD i [],k,d⟩ F)→g∈(Dj i n l p).F
 |[],n,j,p,h,_,_=>by simp at h
 |e :: l,n,0,p,h,hk,hg=>by
  obtain rfl:e=d:=by simpa using h
  obtain rfl:n=k:=by omega
  refine zJ i l (n+1) _ ?_;unfold zB;rw[aF ha];exact yQ _ dI _ (hg p.F)
 |e :: l,n,j+1,p,h,hk,hg=>J6 i ha l (n+1) j (zB i p n e) (by simpa using h) (by omega) hg
theorem CV {i:lZ}{k:Nat}{d:Dc}{n:Ne}{r:Nd}(hd:i.docs[k]?=some d) (hn:n∈i.c.needs) (hk:n.kind=d.kind) (hr:r∈n.rules) (hh:cD d.fields r≠0):(⟨k,d.kind,r.field,cD d.fields r⟩:Fa)∈bX i:=by
 unfold bX;refine J6 i (k:=k) (d:=d) ?_ i.docs 0 k _ hd (Nat.zero_add k) fun F=>?_
 ·unfold nE;rw[List.any_eq_true];exact⟨n,hn,aH hk⟩
 ·exact(iA _ _ _ _).2 (.inr ⟨n,hn,hk,r,hr,hh,rfl⟩)
theorem Cy (docs:List Dc) {g:Fa}:∀(l:List Ne) (F:List Fa),g∈F→g∈l.foldl (jK docs) F
 |[],_,h=>h
 |n :: l,F,h=>Cy docs l (jK docs F n) (by
  unfold jK
  split
  ·exact h
  ·exact kY.2 (.inl h))
theorem BA (docs:List Dc) {n:Ne}(hh:mY docs n.kind=false):∀(l:List Ne) (F:List Fa),n∈l→(⟨-1,n.kind,⟨#[]⟩,1⟩:Fa)∈l.foldl (jK docs) F
 |[],_,h=>nomatch h
 |m :: l,F,h=>by
  rcases List.mem_cons.1 h with rfl|h
  ·refine Cy docs l _ ?_;rw[Aq hh];exact kY.2 (.inr rfl)
  ·exact BA docs hh l (jK docs F m) h
theorem Ev {i:lZ}{n:Ne}(hn:n∈i.c.needs) (hh:mY i.docs n.kind=false):(⟨-1,n.kind,⟨#[]⟩,1⟩:Fa)∈bX i:=by
 unfold bX;exact zJ i _ _ _ (BA i.docs hh i.c.needs [] hn)
structure Ub (i:lZ) (V:bF→bF):Prop where
 lack:∀n∈i.c.needs,mY i.docs n.kind=true
 base:∀k d,i.docs[k]?=some d→gR ⟨AD i [],k,d⟩ []=[]
 rules:∀d∈i.docs,∀n∈i.c.needs,n.kind=d.kind→∀r∈n.rules,cD d.fields r=0
 alike:∀d∈i.docs,∀s∈dI,dT d.fields s=true→HA d.fields s=V s
theorem uP {A:AL}{s o:bF}(h:tJ A s=some o):(s,o)∈A:=by
 unfold tJ at h;cases hf:A.find? (fun p=>decide (p.1=s)) with
 |none=>rw[hf]at h;cases h
 |some p=>
  rw[hf]at h;obtain rfl:p.2=o:=Option.some.inj h;have h1:=List.mem_of_find?_eq_some hf;have h2:p.1=s:=of_decide_eq_true (List.find?_some (p:=fun p:bF×bF=>decide (p.1=s)) hf);rw[←h2];exact h1
theorem AK (i:gL) (V:bF→bF):∀(l:List bF) (p:FA),(∀s∈l,dT i.d.fields s=true→HA i.d.fields s=V s)→(∀q∈p.A,q.2=V q.1)→(l.foldl (dX i) p).F=p.F∧∀q∈(l.foldl (dX i) p).A,q.2=V q.1
 |[],_,_,h=>⟨rfl,h⟩
 |n :: l,p,hl,hA=>by
  have h1:(dX i p n).F=p.F∧∀q∈(dX i p n).A,q.2=V q.1:=by
   unfold dX
   split
   ·rename_i hv;have hg:=hl n bC hv
    split
    ·refine⟨rfl,fun q hq=>?_⟩;rcases List.mem_append.1 hq with hq|hq
     ·exact hA q hq
     ·rw[List.mem_singleton.1 hq];exact hg
    ·rename_i o ho;rw[aF ((hA _ (uP ho)).trans hg.symm)];exact⟨rfl,hA⟩
   ·exact⟨rfl,hA⟩
  have h2:=AK i V l (dX i p n) (fun s hs=>hl s (aV _ hs)) h1.2;exact⟨h2.1.trans h1.1,h2.2⟩
theorem AR {i:lZ}{V:bF→bF}(h:Ub i V):bX i=[]:=by
 have hl:jS i.docs i.c.needs=[]:=by
  unfold jS;have:∀l:List Ne,(∀n∈l,mY i.docs n.kind=true)→l.foldl (jK i.docs) []=[]:=by
   intro l
   induction l with
   |nil=>intro _;rfl
   |cons n l ih=>
    intro hn;rw[List.foldl_cons,oQ (hn n bC)];exact ih fun m hm=>hn m (aV _ hm)
  exact this _ h.lack
 unfold bX;rw[hl];have:∀(l:List Dc) (n:Nat) (p:FA),(∀j d,l[j]?=some d→i.docs[n+j]?=some d)→p.F=[]→(∀q∈p.A,q.2=V q.1)→(Dj i n l p).F=[]:=by
  intro l
  induction l with
  |nil=>intro n p _ hF _;exact hF
  |cons d l ih=>
   intro n p hj hF hA;unfold Dj;have hd:i.docs[n]?=some d:=hj 0 d rfl;have hdm:d∈i.docs:=aC hd;have h1:(zB i p n d).F=[]∧∀q∈(zB i p n d).A,q.2=V q.1:=by
    unfold zB
    split
    ·have hp:fK ⟨AD i [],n,d⟩ p.F=[]:=by
      rw[hF];rw[List.eq_nil_iff_forall_not_mem];intro g hg;rcases(iA _ _ _ _).1 hg with hg|⟨m,hm,hk,r,hr,hh,_⟩
      ·rw[h.base n d hd]at hg;cases hg
      ·exact hh (h.rules d hdm m hm hk r hr)
     rw[hp];exact AK ⟨AD i [],n,d⟩ V dI ⟨[],p.A⟩ (h.alike d hdm) hA
    ·exact⟨hF,hA⟩
   exact ih (n+1) _ (fun j e he=>by rw[show n+1+j=n+(j+1) by omega];exact hj (j+1) e (by simpa using he)) h1.1 h1.2
 exact this i.docs 0 ⟨[],[]⟩ (fun j d hd=>by rw[Nat.zero_add];exact hd) rfl (fun q hq=>nomatch hq)
theorem gU {n:Int}(h:CM n):lO (cT n)=true∧iU (cT n)=n:=by
 have e:sA (cT n).data.toList=some n:=by
  show sA (Lib.itoa n)=some n;exact(Bv _ _).2 ⟨h,rfl⟩
 unfold lO iU;rw[e];exact⟨rfl,rfl⟩
theorem Bt (l:List Fl) (s v:bF):HA (gG l s v) s=v∧dT (gG l s v) s=true:=by
 have key:(gG l s v).find? (jL s)=some ⟨s,v⟩:=by
  unfold gG;cases h:l.findIdx? (jL s) with
  |none=>
   dsimp only;rw[List.find?_append];have:l.find? (jL s)=none:=List.find?_eq_none.2 fun x hx=>by rw[List.findIdx?_eq_none_iff.1 h x hx];exact Bool.false_ne_true
   rw[this,List.find?_cons_of_pos (sI s v)];rfl
  |some i=>
   dsimp only;obtain⟨hk,hp,hlt⟩:=List.findIdx?_eq_some_iff_getElem.1 h;refine List.find?_eq_some_iff_getElem.2 ⟨sI s v,i,by rw[aZ];exact hk,by rw[List.getElem_set_self],fun j hj=>?_⟩;rw[List.getElem_set_ne (by omega)];have:=hlt j hj;simpa using this
 exact iF key
theorem eU {fs:List Fl}{f t:bF}{n:Int}:cD fs ⟨3,f,t,n⟩=0↔dT fs f=true∧HA fs f=t:=by
 unfold cD pF;rw[zK];constructor
 ·intro h
  split at h
  ·rename_i hv;refine⟨hv,?_⟩
   split at h
   ·rename_i h2;exact of_decide_eq_true h2
   ·exact absurd h (by decide)
  ·exact absurd h (by decide)
 ·rintro ⟨h1,h2⟩;rw[aF h1,aF (aH h2)]
theorem Nx {fs:List Fl}{f t:bF}{n:Int}(h1:dT fs f=true) (h2:lO (HA fs f)=true) (h3:iU (HA fs f)≤n):cD fs ⟨5,f,t,n⟩=0:=by
 unfold cD pF;rw[E3,aF h1,h2,aH h3];rfl
theorem Nw {fs:List Fl}{f t:bF}{n:Int}(h1:dT fs f=true) (h2:lO (HA fs f)=true) (h3:n≤iU (HA fs f)):cD fs ⟨6,f,t,n⟩=0:=by
 unfold cD pF;rw[FS,aF h1,h2,aH h3];rfl
def kD (d:De) (s:bF):bF:=if s=bU then d.seller else if s=dK then d.frm else if s=kE then d.to else if s=eE then d.cur else if s=dF then cT d.boxes.length else hZ d.boxes
structure jJ (x:Tr):Prop where
 amt:1≤x.d.amt∧x.d.amt≤1099511627776
 i:0≤x.issued∧x.issued≤65535
 l:x.issued≤x.d.latest
 p:x.issued≤x.presented∧x.presented≤x.issued+21
theorem jU {s:bF}(h:s∈dI):s=bU∨s=dK∨s=kE∨s=eE∨s=dF∨s=dL:=by
 unfold dI at h;simpa only[List.mem_cons,List.not_mem_nil,or_false]using h
theorem PS (d:De):∀s∈dI,dT (fJ d).fields s=true→HA (fJ d).fields s=kD d s:=fun s hs hv=>by
 rcases jU hs with rfl|rfl|rfl|rfl|rfl|rfl
 ·rfl
 ·rfl
 ·rfl
 ·rfl
 ·rfl
 ·exact absurd (show false=true from hv) (by decide)
theorem PY (d:De) (t:bF):∀s∈dI,dT (lG d t).fields s=true→HA (lG d t).fields s=kD d s:=fun s hs hv=>by
 rcases jU hs with rfl|rfl|rfl|rfl|rfl|rfl
 ·rfl
 ·rfl
 ·rfl
 ·exact absurd (show false=true from hv) (by decide)
 ·rfl
 ·rfl
theorem P7 (x:Tr):∀s∈dI,dT (iS (dZ x)).fields s=true→HA (iS (dZ x)).fields s=kD x.d s:=fun s hs hv=>by
 rcases jU hs with rfl|rfl|rfl|rfl|rfl|rfl
 ·exact absurd (show false=true from hv) (by decide)
 ·rfl
 ·rfl
 ·exact absurd (show false=true from hv) (by decide)
 ·show cT ((x.d.boxes.map (·.mark)).length:Int)=cT (x.d.boxes.length:Int);rw[aJ]
 ·rfl
theorem P6 (d:De):∀s∈dI,dT (uX ⟨d,d.cur,d.amt⟩).fields s=true→HA (uX ⟨d,d.cur,d.amt⟩).fields s=kD d s:=fun s hs hv=>by
 rcases jU hs with rfl|rfl|rfl|rfl|rfl|rfl
 ·rfl
 ·rfl
 ·rfl
 ·rfl
 ·exact absurd (show false=true from hv) (by decide)
 ·exact absurd (show false=true from hv) (by decide)
theorem Pr (d:De):∀s∈dI,dT (oF d d.frm).fields s=true→HA (oF d d.frm).fields s=kD d s:=fun s hs hv=>by
 rcases jU hs with rfl|rfl|rfl|rfl|rfl|rfl
 ·rfl
 ·exact absurd (show false=true from hv) (by decide)
 ·exact absurd (show false=true from hv) (by decide)
 ·exact absurd (show false=true from hv) (by decide)
 ·rfl
 ·exact absurd (show false=true from hv) (by decide)
theorem O5 (d:De):∀r∈(fL d).rules,cD (fJ d).fields r=0:=fun r hr=>by
 unfold fL at hr;simp only[List.mem_cons,List.not_mem_nil,or_false]at hr;rcases hr with rfl|rfl|rfl|rfl|rfl|rfl
 all_goals exact eU.2 ⟨rfl,rfl⟩
theorem Qc (d:De) (t:bF):∀r∈(fS d).rules,cD (lG d t).fields r=0:=fun r hr=>by
 unfold fS at hr;simp only[List.mem_cons,List.not_mem_nil,or_false]at hr;rcases hr with rfl|rfl
 all_goals exact eU.2 ⟨rfl,rfl⟩
theorem gM {n:Int}(h0:0≤n) (h:n≤1099511627777):CM n:=⟨by omega,by omega⟩
theorem ON {x:Tr}(h:jJ x):∀r∈(fQ x.d).rules,cD (iS (dZ x)).fields r=0:=fun r hr=>by
 have hn:=gU (gM h.i.1 (by have:=h.i.2;omega));have e:HA (iS (dZ x)).fields dU=cT x.issued:=rfl;unfold fQ at hr;simp only[List.mem_cons,List.not_mem_nil,or_false]at hr;rcases hr with rfl|rfl|rfl|rfl|rfl|rfl|rfl
 ·exact eU.2 ⟨rfl,rfl⟩
 ·exact eU.2 ⟨rfl,rfl⟩
 ·exact eU.2 ⟨rfl,rfl⟩
 ·exact eU.2 ⟨rfl,rfl⟩
 ·exact eU.2 ⟨rfl,rfl⟩
 ·exact eU.2 ⟨rfl,rfl⟩
 ·exact Nx rfl (by rw[e];exact hn.1) (by rw[e,hn.2];exact h.l)
theorem Pe {x:Tr}(h:jJ x):∀r∈(iN x.d).rules,cD (uX ⟨x.d,x.d.cur,x.d.amt⟩).fields r=0:=fun r hr=>by
 have hn:=gU (gM (by have:=h.amt.1;omega) (by have:=h.amt.2;omega:x.d.amt≤1099511627777));have e:HA (uX ⟨x.d,x.d.cur,x.d.amt⟩).fields eW=cT x.d.amt:=rfl;unfold iN at hr;simp only[List.mem_cons,List.not_mem_nil,or_false]at hr;rcases hr with rfl|rfl|rfl|rfl
 ·exact eU.2 ⟨rfl,rfl⟩
 ·exact eU.2 ⟨rfl,rfl⟩
 ·exact eU.2 ⟨rfl,rfl⟩
 ·exact Nw rfl (by rw[e];exact hn.1) (by rw[e,hn.2];exact Int.le_refl _)
theorem Pn (d:De):∀r∈(hO d).rules,cD (oF d d.frm).fields r=0:=fun r hr=>by
 unfold hO at hr;simp only[List.mem_cons,List.not_mem_nil,or_false]at hr;rcases hr with rfl|rfl
 all_goals exact eU.2 ⟨rfl,rfl⟩
inductive fM (x:Tr) (t:bF):Dc→Ne→Prop where
 |inv:fM x t (fJ x.d) (fL x.d)
 |pak:fM x t (lG x.d t) (fS x.d)
 |lad:fM x t (iS (dZ x)) (fQ x.d)
 |cov:fM x t (uX ⟨x.d,x.d.cur,x.d.amt⟩) (iN x.d)
 |ori:fM x t (oF x.d x.d.frm) (hO x.d)
def cX (x:Tr) (t:bF):List Dc:=DT ⟨x.d,dZ x,sJ x⟩ t
theorem fA (x:Tr) (t:bF):(cX x t=[fJ x.d,lG x.d t,iS (dZ x),oF x.d x.d.frm]∧cR x.d=[fL x.d,fS x.d,fQ x.d,hO x.d])∨(cX x t=[fJ x.d,lG x.d t,iS (dZ x),uX ⟨x.d,x.d.cur,x.d.amt⟩,oF x.d x.d.frm]∧cR x.d=[fL x.d,fS x.d,fQ x.d,iN x.d,hO x.d]):=by
 unfold cX DT cR sJ;by_cases h:x.d.insurer=⟨#[]⟩
 ·rw[aF h,aF h];exact .inl ⟨rfl,rfl⟩
 ·rw[aE h,aE h];exact .inr ⟨rfl,rfl⟩
theorem gD {x:Tr}{t:bF}{d:Dc}(h:d∈cX x t):∃n,fM x t d n:=by
 rcases fA x t with ⟨h1,_⟩|⟨h1,_⟩
 ·rw[h1]at h;simp only[List.mem_cons,List.not_mem_nil,or_false]at h;rcases h with rfl|rfl|rfl|rfl
  ·exact⟨_,.inv⟩
  ·exact⟨_,.pak⟩
  ·exact⟨_,.lad⟩
  ·exact⟨_,.ori⟩
 ·rw[h1]at h;simp only[List.mem_cons,List.not_mem_nil,or_false]at h;rcases h with rfl|rfl|rfl|rfl|rfl
  ·exact⟨_,.inv⟩
  ·exact⟨_,.pak⟩
  ·exact⟨_,.lad⟩
  ·exact⟨_,.cov⟩
  ·exact⟨_,.ori⟩
theorem fV {x:Tr}(t:bF) {n:Ne}(h:n∈cR x.d):∃(k:Nat) (d:Dc),(cX x t)[k]?=some d∧fM x t d n:=by
 rcases fA x t with ⟨h1,h2⟩|⟨h1,h2⟩
 ·rw[h2]at h;rw[h1];simp only[List.mem_cons,List.not_mem_nil,or_false]at h;rcases h with rfl|rfl|rfl|rfl
  ·exact⟨0,_,rfl,.inv⟩
  ·exact⟨1,_,rfl,.pak⟩
  ·exact⟨2,_,rfl,.lad⟩
  ·exact⟨3,_,rfl,.ori⟩
 ·rw[h2]at h;rw[h1];simp only[List.mem_cons,List.not_mem_nil,or_false]at h;rcases h with rfl|rfl|rfl|rfl|rfl
  ·exact⟨0,_,rfl,.inv⟩
  ·exact⟨1,_,rfl,.pak⟩
  ·exact⟨2,_,rfl,.lad⟩
  ·exact⟨3,_,rfl,.cov⟩
  ·exact⟨4,_,rfl,.ori⟩
theorem iJ {x:Tr}{t:bF}{d:Dc}{n:Ne}(h:fM x t d n):d.kind=n.kind:=by cases h<;>rfl
theorem iL {x:Tr}{t:bF}{d e:Dc}{n m:Ne}(h1:fM x t d n) (h2:fM x t e m) (h:m.kind=d.kind):n=m∧d=e:=by
 cases h1<;>cases h2<;>first|exact⟨rfl,rfl⟩|(exfalso;revert h;show ¬(_:Int)=_;exact of_decide_eq_true rfl)
theorem jE {x:Tr}{t:bF}(hx:jJ x) {d:Dc}{n:Ne}(h:fM x t d n):∀r∈n.rules,cD d.fields r=0:=by
 cases h
 ·exact O5 _
 ·exact Qc _ _
 ·exact ON hx
 ·exact Pe hx
 ·exact Pn _
theorem nR {x:Tr}{t:bF}{d:Dc}{n:Ne}(h:fM x t d n):∀s∈dI,dT d.fields s=true→HA d.fields s=kD x.d s:=by
 cases h
 ·exact PS _
 ·exact PY _ _
 ·exact P7 x
 ·exact P6 _
 ·exact Pr _
theorem Bo {fs:List Fl}{s:bF}{w:bF→Int}(h:dT fs s=true) (hw:w (HA fs s)=0):eT fs s w=0:=by
 unfold eT;rw[aF h,hw]
theorem BQ {x:Tr}{t:bF}(hx:jJ x) {d:Dc}{n:Ne}(h:fM x t d n) {c:Cr}(hc:c=eO x.d) (docs F0:_) (k:Nat):gR ⟨⟨c,docs,x.presented,F0⟩,k,d⟩ []=[]:=by
 subst hc;cases h
 ·have hn:=gU (gM (by have:=hx.amt.1;omega) (by have:=hx.amt.2;omega:x.d.amt≤1099511627777));have e1:eT (fJ x.d).fields bU (pQ (eO x.d).beneficiary)=0:=Bo rfl (aF rfl);have e2:eT (fJ x.d).fields dH (pQ (eO x.d).applicant)=0:=Bo rfl (aF rfl);have e3:eT (fJ x.d).fields eE (pQ (eO x.d).cur)=0:=Bo rfl (aF rfl);have e4:eT (fJ x.d).fields eW (mF ⟨eO x.d,docs,x.presented,F0⟩)=0:=Bo rfl (by
   show mF ⟨eO x.d,docs,x.presented,F0⟩ (cT x.d.amt)=0;unfold mF;rw[aF hn.1,hn.2];show (if x.d.amt < x.d.amt then (5:Int) else if x.d.amt < x.d.amt then 6 else 0)=0;rw[aE (by omega),aE (by omega)])
  unfold gR;refine(aF rfl).trans ?_;unfold Dh Ek C0 Du;dsimp only;rw[jI [] k (fJ x.d).kind bU e1,jI [] k (fJ x.d).kind dH e2,jI [] k (fJ x.d).kind eE e3];exact jI [] k (fJ x.d).kind eW e4
 ·rfl
 ·have hn:=gU (gM hx.i.1 (by have:=hx.i.2;omega));have e1:eT (iS (dZ x)).fields dU (nV ⟨eO x.d,docs,x.presented,F0⟩)=0:=Bo rfl (by
   show nV ⟨eO x.d,docs,x.presented,F0⟩ (cT x.issued)=0;unfold nV;rw[aF hn.1,hn.2];exact aE (by
    show ¬(x.d.latest < x.issued∨x.issued+21 < x.presented);have:=hx.l;have:=hx.p;omega))
  exact jI [] k (iS (dZ x)).kind dU e1
 ·rfl
 ·rfl
def qX (x:Tr) (docs:List Dc):lZ:=⟨eO x.d,docs,x.presented⟩
theorem I5 {x:Tr}(hx:jJ x) (t:bF):bX (qX x (cX x t))=[]:=by
 refine AR (V:=kD x.d) ⟨fun n hn=>?_,fun k d hd=>?_,fun d hd n hn hk r hr=>?_,fun d hd=>?_⟩
 ·obtain⟨k,d,hd,ho⟩:=fV t (show n∈cR x.d from hn);unfold mY;rw[List.any_eq_true];exact⟨d,aC hd,aH (iJ ho)⟩
 ·obtain⟨n,ho⟩:=gD (aC (show (cX x t)[k]?=some d from hd));exact BQ hx ho rfl _ _ _
 ·obtain⟨m,ho⟩:=gD (show d∈cX x t from hd);obtain⟨k,e,_,he⟩:=fV t (show n∈cR x.d from hn);obtain⟨rfl,_⟩:=iL ho he hk;exact jE hx ho r hr
 ·obtain⟨n,ho⟩:=gD (show d∈cX x t from hd);exact nR ho
theorem jP {F:List Fa}{f:Fa}(h:f∈F):F≠[]:=fun e=>by rw[e]at h;cases h
theorem mV {x:Tr}(hx:jJ x) {t:bF}{k:Nat}{d:Dc}{n:Ne}{f s:bF}{num:Int}(hd:(cX x t)[k]?=some d) (hn:n∈cR x.d) (hk:d.kind=n.kind) (hr:(⟨3,f,s,num⟩:Nd)∈n.rules) {v:bF}(hv:v≠HA d.fields f):(⟨k,d.kind,f,2⟩:Fa)∈bX (qX x ((cX x t).set k (eK d f v))):=by
 obtain⟨m,ho⟩:=gD (aC hd);obtain⟨j,e,_,he⟩:=fV t hn;obtain⟨rfl,_⟩:=iL ho he hk.symm;obtain⟨h1,h2⟩:=eU.1 (jE hx ho _ hr);have hs:=Bt d.fields f v;have hh:cD (gG d.fields f v) ⟨3,f,s,num⟩=2:=by
  unfold cD pF;rw[zK,aF hs.2,hs.1];exact aE (by rw[aG (fun e=>hv (e.trans h2.symm))];exact Bool.false_ne_true)
 have hlen:k < (cX x t).length:=(aA.1 hd).1;have hf:=CV (i:=qX x ((cX x t).set k (eK d f v))) (k:=k) (d:=eK d f v) (n:=m) (r:=⟨3,f,s,num⟩) (aP hlen) hn hk.symm hr (by show cD (gG d.fields f v) ⟨3,f,s,num⟩≠0;rw[hh];decide);have e:(⟨k,(eK d f v).kind,(⟨3,f,s,num⟩:Nd).field,cD (eK d f v).fields ⟨3,f,s,num⟩⟩:Fa)=⟨k,d.kind,f,2⟩:=by
  show (⟨k,d.kind,f,cD (gG d.fields f v) ⟨3,f,s,num⟩⟩:Fa)=_;rw[hh]
 rw[e]at hf;exact hf
theorem MJ {a b:Int}(ha:CM a) (hb:CM b) (h:a≠b):cT a≠cT b:=fun e=>h (by
 have h1:=(gU ha).2;rw[e,(gU hb).2]at h1;exact h1.symm)
theorem zM {x:Tr}(hx:jJ x) (t:bF) {n:Int}(hn:n=1∨n=2∨n=3) (hto:x.d.to≠mU):bX (qX x (gT n (cX x t)))≠[]:=by
 have d0:∃r,cX x t=fJ x.d :: lG x.d t :: iS (dZ x) :: r∧∀e∈r,e.kind≠1:=by
  rcases fA x t with ⟨h,_⟩|⟨h,_⟩
  ·refine⟨_,h,fun e he=>?_⟩;simp only[List.mem_cons,List.not_mem_nil,or_false]at he;subst he;show ¬(4:Int)=1;decide
  ·refine⟨_,h,fun e he=>?_⟩;simp only[List.mem_cons,List.not_mem_nil,or_false]at he;rcases he with rfl|rfl
   ·show ¬(3:Int)=1;decide
   ·show ¬(4:Int)=1;decide
 obtain⟨r,hr,hr1⟩:=d0;have nI:fL x.d∈cR x.d:=by
  rcases fA x t with ⟨_,h⟩|⟨_,h⟩<;>(rw[h];exact bC)
 have nP:fS x.d∈cR x.d:=by
  rcases fA x t with ⟨_,h⟩|⟨_,h⟩<;>(rw[h];exact aV _ bC)
 have nL:fQ x.d∈cR x.d:=by
  rcases fA x t with ⟨_,h⟩|⟨_,h⟩<;>(rw[h];exact aV _ (aV _ bC))
 have r1:=gM (n:=x.d.amt) (by have:=hx.amt.1;omega) (by have:=hx.amt.2;omega);have r2:=gM (n:=x.d.amt+1) (by have:=hx.amt.1;omega) (by have:=hx.amt.2;omega);have hnum:=gU r1;rcases hn with rfl|rfl|rfl
 ·have e:gT 1 (cX x t)=(cX x t).set 0 (eK (fJ x.d) eW (cT (x.d.amt+1))):=by
   have eg:HA (fJ x.d).fields eW=cT x.d.amt:=rfl;unfold gT;rw[aF rfl,hr];have ef:(fJ x.d :: lG x.d t :: iS (dZ x) :: r).findIdx? (OG 0)=some 0:=rfl;rw[ef];dsimp only;rw[show (fJ x.d :: lG x.d t :: iS (dZ x) :: r)[0]?=some (fJ x.d) from rfl];dsimp only;rw[eg,aF hnum.1,hnum.2]
  rw[e];exact jP (mV hx (k:=0) (d:=fJ x.d) (n:=fL x.d) (f:=eW) (s:=cT x.d.amt) (num:=0) (by rw[hr];rfl) nI rfl (aV _ (aV _ (aV _ bC))) (MJ r2 r1 (by omega)))
 ·have e:gT 2 (cX x t)=fJ x.d :: iS (dZ x) :: r:=by
   unfold gT;rw[aE (by decide),aF rfl,hr];have ef:(fJ x.d :: lG x.d t :: iS (dZ x) :: r).findIdx? (OG 1)=some 1:=rfl;rw[ef];rfl
  rw[e];refine jP (Ev (i:=qX x (fJ x.d :: iS (dZ x) :: r)) (n:=fS x.d) nP ?_);show mY (fJ x.d :: iS (dZ x) :: r) 1=false;unfold mY;rw[List.any_eq_false];intro e he;rcases List.mem_cons.1 he with rfl|he
  ·show ¬decide ((0:Int)=1)=true;decide
  ·rcases List.mem_cons.1 he with rfl|he
   ·show ¬decide ((2:Int)=1)=true;decide
   ·exact fun h=>hr1 e he (of_decide_eq_true h)
 ·have e:gT 3 (cX x t)=(cX x t).set 2 (eK (iS (dZ x)) kE mU):=by
   unfold gT;rw[aE (by decide),aE (by decide),aF rfl,hr];have ef:(fJ x.d :: lG x.d t :: iS (dZ x) :: r).findIdx? (OG 2)=some 2:=rfl;rw[ef];rfl
  rw[e];exact jP (mV hx (k:=2) (d:=iS (dZ x)) (n:=fQ x.d) (f:=kE) (s:=x.d.to) (num:=0) (by rw[hr];rfl) nL rfl (aV _ (aV _ (aV _ bC))) (show mU≠x.d.to from fun h=>hto h.symm))
structure L1 (B:Nat) (docs:List Dc):Prop where
 n:docs.length≤8
 l:∀d∈docs,d.fields.length≤100∧∀f∈d.fields,f.v.size≤B
theorem yR {fs:List Fl}{B:Nat}(h:∀f∈fs,f.v.size≤B) (n:bF):(HA fs n).size≤B:=by
 unfold HA;cases hf:fs.find? (jL n) with
 |none=>exact aI _
 |some f=>exact h f (List.mem_of_find?_eq_some hf)
theorem M5 {fs:List Fl}{B m:Nat}(hl:fs.length≤m) (h:∀f∈fs,f.v.size≤B) (s:bF) {v:bF}(hv:v.size≤B):(gG fs s v).length≤m+1∧∀f∈gG fs s v,f.v.size≤B:=by
 unfold gG
 split
 ·refine⟨by rw[aZ];omega,fun f hf=>?_⟩;rcases List.mem_or_eq_of_mem_set hf with hf|rfl
  ·exact h f hf
  ·exact hv
 ·refine⟨by rw[aM];exact Nat.succ_le_succ hl,fun f hf=>?_⟩;rcases List.mem_append.1 hf with hf|hf
  ·exact h f hf
  ·rw[List.mem_singleton.1 hf];exact hv
theorem Fg {x:Tr}(ho:Al x.d) (hs:P1 x.d) (hi:i64 x.issued) {t:bF}(ht:t.size≤4398046511104):L1 4398046511104 (cX x t):=by
 have hb:(cT (x.d.boxes.length:Int)).size≤21:=eF _ ⟨by omega,by have:=ho.mks.few;omega⟩;have hb2:(cT ((x.d.boxes.map (·.mark)).length:Int)).size≤21:=by rw[aJ];exact hb
 have ha:(cT x.d.amt).size≤21:=eF _ ho.amt;have hte:(cT x.d.term).size≤21:=eF _ ho.term;have his:(cT x.issued).size≤21:=eF _ hi;have hse:=hs.se;have hbu:=hs.bu;have hca:=hs.ca;have hfr:=hs.frm;have hto:=hs.to;have hcu:=hs.cu;have hmk:=hs.mks;have key:∀d n,fM x t d n→d.fields.length≤100∧∀f∈d.fields,f.v.size≤4398046511104:=fun d n h=>by
  cases h
  ·refine⟨Nat.le_of_ble_eq_true rfl,fun f hf=>?_⟩;unfold fJ at hf;simp only[List.mem_cons,List.not_mem_nil,or_false]at hf;rcases hf with rfl|rfl|rfl|rfl|rfl|rfl|rfl|rfl<;>(dsimp only;omega)
  ·refine⟨Nat.le_of_ble_eq_true rfl,fun f hf=>?_⟩;unfold lG at hf;simp only[List.mem_cons,List.not_mem_nil,or_false]at hf;rcases hf with rfl|rfl|rfl|rfl|rfl|rfl<;>(dsimp only;omega)
  ·refine⟨Nat.le_of_ble_eq_true rfl,fun f hf=>?_⟩;unfold iS dZ at hf;simp only[List.mem_cons,List.not_mem_nil,or_false]at hf;have hj:(eS (x.d.boxes.map (·.mark)) gI).size≤2097152:=hmk;have hp:(eS [] gI).size=0:=rfl;have hy:(yn true).size≤3:=by decide
   rcases hf with rfl|rfl|rfl|rfl|rfl|rfl|rfl|rfl|rfl<;>(dsimp only;omega)
  ·refine⟨Nat.le_of_ble_eq_true rfl,fun f hf=>?_⟩;unfold uX at hf;simp only[List.mem_cons,List.not_mem_nil,or_false]at hf;rcases hf with rfl|rfl|rfl|rfl|rfl<;>(dsimp only;omega)
  ·refine⟨Nat.le_of_ble_eq_true rfl,fun f hf=>?_⟩;unfold oF at hf;simp only[List.mem_cons,List.not_mem_nil,or_false]at hf;rcases hf with rfl|rfl|rfl<;>(dsimp only;omega)
 refine⟨?_,fun d hd=>?_⟩
 ·rcases fA x t with ⟨h,_⟩|⟨h,_⟩<;>(rw[h];exact Nat.le_of_ble_eq_true rfl)
 ·obtain⟨n,hn⟩:=gD hd;exact key d n hn
theorem BB (d:De):(cR d).length≤8∧∀n∈cR d,oI n∧n.rules.length≤8∧∃f s,(⟨3,f,s,0⟩:Nd)∈n.rules:=by
 have h3:∀f s:bF,dG ⟨3,f,s,0⟩:=fun _ _=>.inl rfl
 have i1:oI (fL d)∧(fL d).rules.length≤8∧∃f s,(⟨3,f,s,0⟩:Nd)∈(fL d).rules:=⟨⟨fun r hr=>by
  unfold fL at hr;simp only[List.mem_cons,List.not_mem_nil,or_false]at hr;rcases hr with rfl|rfl|rfl|rfl|rfl|rfl<;>exact h3 _ _,Nat.le_of_ble_eq_true rfl⟩,Nat.le_of_ble_eq_true rfl,_,_,bC⟩
 have i2:oI (fS d)∧(fS d).rules.length≤8∧∃f s,(⟨3,f,s,0⟩:Nd)∈(fS d).rules:=⟨⟨fun r hr=>by
  unfold fS at hr;simp only[List.mem_cons,List.not_mem_nil,or_false]at hr;rcases hr with rfl|rfl<;>exact h3 _ _,Nat.le_of_ble_eq_true rfl⟩,Nat.le_of_ble_eq_true rfl,_,_,bC⟩
 have i3:oI (fQ d)∧(fQ d).rules.length≤8∧∃f s,(⟨3,f,s,0⟩:Nd)∈(fQ d).rules:=⟨⟨fun r hr=>by
  unfold fQ at hr;simp only[List.mem_cons,List.not_mem_nil,or_false]at hr;rcases hr with rfl|rfl|rfl|rfl|rfl|rfl|rfl
  ·exact h3 _ _
  ·exact h3 _ _
  ·exact h3 _ _
  ·exact h3 _ _
  ·exact h3 _ _
  ·exact h3 _ _
  ·exact .inr (.inl rfl),Nat.le_of_ble_eq_true rfl⟩,Nat.le_of_ble_eq_true rfl,_,_,bC⟩
 have i4:oI (iN d)∧(iN d).rules.length≤8∧∃f s,(⟨3,f,s,0⟩:Nd)∈(iN d).rules:=⟨⟨fun r hr=>by
  unfold iN at hr;simp only[List.mem_cons,List.not_mem_nil,or_false]at hr;rcases hr with rfl|rfl|rfl|rfl
  ·exact h3 _ _
  ·exact h3 _ _
  ·exact h3 _ _
  ·exact .inr (.inr rfl),Nat.le_of_ble_eq_true rfl⟩,Nat.le_of_ble_eq_true rfl,_,_,bC⟩
 have i5:oI (hO d)∧(hO d).rules.length≤8∧∃f s,(⟨3,f,s,0⟩:Nd)∈(hO d).rules:=⟨⟨fun r hr=>by
  unfold hO at hr;simp only[List.mem_cons,List.not_mem_nil,or_false]at hr;rcases hr with rfl|rfl<;>exact h3 _ _,Nat.le_of_ble_eq_true rfl⟩,Nat.le_of_ble_eq_true rfl,_,_,bC⟩
 unfold cR
 split
 ·refine⟨Nat.le_of_ble_eq_true rfl,fun n hn=>?_⟩;simp only[List.mem_cons,List.not_mem_nil,or_false]at hn;rcases hn with rfl|rfl|rfl|rfl
  ·exact i1
  ·exact i2
  ·exact i3
  ·exact i5
 ·refine⟨Nat.le_of_ble_eq_true rfl,fun n hn=>?_⟩;simp only[List.mem_cons,List.not_mem_nil,or_false]at hn;rcases hn with rfl|rfl|rfl|rfl|rfl
  ·exact i1
  ·exact i2
  ·exact i3
  ·exact i4
  ·exact i5
set_option maxHeartbeats 8000000
structure Sc where
 c:Cr
 docs:List Dc
 which:Int
 rule:Int
structure Qu (i:Sc):Prop where
 n:i.c.needs.length≤8∧1≤i.c.needs.length
 r:∀n∈i.c.needs,n.rules.length≤8∧∃f s,(⟨3,f,s,0⟩:Nd)∈n.rules
 k:∀n∈i.c.needs,∃d∈i.docs,d.kind=n.kind
 d:L1 4398046511104 i.docs
 w:0≤i.which∧i.which≤255
 u:0≤i.rule∧i.rule≤255
structure Vb where
 k:Nat
 d:Dc
 n:Ne
 r:Nd
def xB:bF:=⟨#[120]⟩
structure SV (i:Sc) (o:Vb):Prop where
 d:i.docs[o.k]?=some o.d
 n:o.n∈i.c.needs
 e:o.d.kind=o.n.kind
 r:o.r∈o.n.rules
 t:o.r.kind=3
structure Vp (c:Cr) (docs:List Dc) (pres:Int) (to:bF):Prop where
 ok:mL ⟨c,docs,pres⟩
 fine:bX ⟨c,docs,pres⟩=[]
 sp:∀n,auK ⟨n,docs⟩
 spo:∀n,mL ⟨c,gT n docs,pres⟩
 spf:∀n:Int,1≤n→n≤3→to≠mU→bX ⟨c,gT n docs,pres⟩≠[]
 so:∀w u:Int,(0≤w∧w≤255)→(0≤u∧u≤255)→Qu ⟨c,docs,w,u⟩
 bad:∀w u r,SV ⟨c,docs,w,u⟩ r→mL ⟨c,docs.set r.k (eK r.d r.r.field (HA r.d.fields r.r.field++xB)),pres⟩∧∃y∈bX ⟨c,docs.set r.k (eK r.d r.r.field (HA r.d.fields r.r.field++xB)),pres⟩,y.paper=nI r.k∧y.field=r.r.field
structure CP (m B:Nat) (docs:List Dc):Prop where
 n:docs.length≤8
 l:∀d∈docs,d.fields.length≤m∧∀f∈d.fields,f.v.size≤B
theorem CP.spoil {m B:Nat}{docs:List Dc}(h:CP m B docs) {k:Nat}{d:Dc}(hd:docs[k]?=some d) (s:bF) {v:bF}(hv:v.size≤B):CP (m+1) B (docs.set k (eK d s v)):=by
 have hd1:=h.l d (aC hd);refine⟨by rw[aZ];exact h.n,fun e he=>?_⟩;rcases List.mem_or_eq_of_mem_set he with he|rfl
 ·exact⟨Nat.le_succ_of_le (h.l e he).1,(h.l e he).2⟩
 ·exact M5 hd1.1 hd1.2 s hv
theorem CP.up {m B:Nat}{docs:List Dc}(h:CP m B docs):CP (m+1) B docs:=⟨h.n,fun e he=>⟨Nat.le_succ_of_le (h.l e he).1,(h.l e he).2⟩⟩
theorem CP.wide {m A B:Nat}{docs:List Dc}(h:CP m A docs) (hab:A≤B):CP m B docs:=⟨h.n,fun e he=>⟨(h.l e he).1,fun f hf=>Nat.le_trans ((h.l e he).2 f hf) hab⟩⟩
theorem CP.of {B:Nat}{docs:List Dc}(h:L1 B docs):CP 100 B docs:=⟨h.n,h.l⟩
theorem Dt {m B:Nat}{docs:List Dc}(h:CP m B docs) (hB:21≤B) (n:Int):CP (m+1) B (gT n docs):=by
 unfold gT
 split
 ·split
  ·split
   ·rename_i i _ d hd
    split
    ·have hr:=zZ (HA d.fields eW);exact h.spoil hd eW (Nat.le_trans (eF _ ⟨by omega,by omega⟩) hB)
    ·exact h.up
   ·exact h.up
  ·exact h.up
 ·split
  ·split
   ·exact⟨Nat.le_trans (List.length_eraseIdx_le _ _) h.n,fun e he=>h.up.l e (List.mem_of_mem_eraseIdx he)⟩
   ·exact h.up
  ·split
   ·split
    ·split
     ·rename_i i _ d hd;exact h.spoil hd kE (Nat.le_trans (by show 7≤21;decide) hB)
     ·exact h.up
    ·exact h.up
   ·exact h.up
theorem DM {x:Tr}{docs:List Dc}{m B:Nat}(hc:vC (eO x.d)) (hp:0≤x.presented∧x.presented≤65535) (he:x.presented≤x.d.expiry) (hd:CP m B docs) (hm:m≤1048576) (hB:B≤281474976710656):mL (qX x docs):=by
 have hn:=BB x.d;refine⟨hc,⟨hp.1,by show x.presented≤1048576;omega⟩,he,fun n h=>(hn.2 n h).1,by show (cR x.d).length≤64;have:=hn.1;omega,by show docs.length≤64;have:=hd.n;omega,fun d h=>⟨Nat.le_trans (hd.l d h).1 hm,fun n=>Nat.le_trans (yR (hd.l d h).2 n) hB⟩⟩
theorem afW {x:Tr}{t:bF}(ha:i64 x.d.amt) {d:Dc}(h:d∈cX x t):(HA d.fields eW).size≤21:=by
 have hz:=eF _ ha;obtain⟨n,hn⟩:=gD h;cases hn
 ·exact hz
 ·exact aI _
 ·exact aI _
 ·exact hz
 ·exact aI _
theorem Ob (s:bF):s++xB≠s:=fun e=>by
 have:=congrArg ByteArray.size e;rw[ByteArray.size_append]at this;have h1:xB.size=1:=rfl;omega
theorem PG {x:Tr}{o:R7}(hx:LL x) (ho:To x o):Vp o.c o.docs x.presented x.d.to:=by
 obtain⟨c,docs,ok⟩:=o;obtain⟨hc,hm,he,hl,hp,_,t,htz,ht⟩:=ho
 try dsimp only at hc hm he hl ht
 subst hc;obtain rfl:docs=cX x t:=ht;have hck:=hm.c;have hg:jJ x:=⟨hck.amt,hx.i,hl,hp⟩
 have hdz:L1 4398046511104 (cX x t):=Fg hx.d hx.sz ⟨by have:=hx.i.1;omega,by have:=hx.i.2;omega⟩ htz;have hdo:=CP.of hdz;have hno:=BB x.d;have hnd:∀n∈cR x.d,∃d∈cX x t,d.kind=n.kind:=fun n hn=>by
  obtain⟨k,d,hd,h1⟩:=fV t hn;exact⟨d,aC hd,iJ h1⟩
 have hn1:1≤(cR x.d).length:=by
  rcases fA x t with ⟨_,h⟩|⟨_,h⟩<;>(rw[h];exact Nat.le_of_ble_eq_true rfl)
 refine⟨DM hck hx.p he hdo (by decide) (by decide),I5 hg t,fun n=>⟨Nat.le_trans hdo.n (by decide),fun d hd=>Nat.le_trans (hdo.l d hd).1 (by decide),fun d hd=>Nat.le_trans (afW hx.d.amt hd) (by decide)⟩,fun n=>DM hck hx.p he (Dt hdo (by decide) n) (by decide) (by decide),fun n h1 h2 h3=>zM hg t (by omega) h3,fun w u hw hu=>⟨⟨hno.1,hn1⟩,fun n hn=>(hno.2 n hn).2,hnd,hdz,hw,hu⟩,fun w u r hr=>?_⟩;obtain⟨rk,rd,rn,rr⟩:=r;obtain⟨q1,q2,q3,q4,q5⟩:=hr;obtain⟨k3,rf,rt,rnum⟩:=rr
 try dsimp only at q1 q2 q3 q4 q5⊢
 subst q5;have hvs:=yR (hdo.l rd (aC q1)).2 rf;refine⟨DM hck hx.p he (CP.spoil (hdo.wide (B:=4398046511105) (by decide)) q1 rf (by rw[ByteArray.size_append];have h1:xB.size=1:=rfl;omega)) (by decide) (by decide),⟨rk,rd.kind,rf,2⟩,mV hg q1 q2 q3 q4 (Ob _),rfl,rfl⟩
set_option maxHeartbeats 4000000
theorem arA {n:Nd}(h:rmB n=true) (hp:dG n) (hf:n.field≠⟨#[110,111,116]⟩):aeG n:=by
 unfold rmB at h;refine⟨hp,fun hk=>?_,fun hk=>?_,hf⟩
 ·rw[aF hk]at h;simp only[aO,decide_eq_true_eq]at h;exact h.1
 ·rw[aE hk]at h;simp only[aO,decide_eq_true_eq]at h;exact⟨h.1,h.2.2.1,h.2.2.2⟩
theorem apX {L:List Tk}{c:Cr}(hr:∀n∈c.needs,n.rules≠[]) (h:At L 0 (WF (l0W c)++(hdW c).flatMap WF++(c.needs.map nW).flatMap WF)) (hl:L.length=(WF (l0W c)++(hdW c).flatMap WF++(c.needs.map nW).flatMap WF).length):apO L c L.length:=by
 have en:(c.needs.map nW).flatMap WF=c.needs.flatMap nT:=by rw[List.flatMap_map];rfl
 rw[en]at h hl;unfold hdW at h hl;simp only[List.flatMap_cons,List.flatMap_nil,List.append_nil,bE,ZT]at h hl;obtain⟨a0,h⟩:=h.cut (k2:=3) rfl;obtain⟨a1,h⟩:=h.cut (k2:=6) rfl;obtain⟨a2,h⟩:=h.cut (k2:=9) rfl;obtain⟨a3,h⟩:=h.cut (k2:=12) rfl;obtain⟨a4,h⟩:=h.cut (k2:=15) rfl;obtain⟨a5,h⟩:=h.cut (k2:=18) rfl;obtain⟨a6,h⟩:=h.cut (k2:=26) rfl;obtain⟨a7,h⟩:=h.cut (k2:=29) rfl;obtain⟨a8,h⟩:=h.cut (k2:=32) rfl;obtain⟨a9,h⟩:=h.cut (k2:=36) rfl;obtain⟨a10,h⟩:=h.cut (k2:=36+WD c.tenor) (by rw[YB]);obtain⟨a11,h⟩:=h.cut (k2:=39+WD c.tenor) (by show 36+WD c.tenor+3=_;omega);obtain⟨a12,h⟩:=h.cut (k2:=42+WD c.tenor) (by show 39+WD c.tenor+3=_;omega);refine⟨a0,a1,a2,a3,a4,a5,a6,a7,a8,a9,a10,a11,a12,fun j m hj=>?_,?_⟩
 ·have hm:=Yr c.needs _ hr h j m hj;rw[ajE]at hm;obtain⟨h1,h2⟩:=hm.cut (k2:=42+WD c.tenor+WY (c.needs.take j)+5) rfl;exact⟨h1,anA (hr m (aC hj)) h2⟩
 ·rw[hl];simp only[aM,Xw c.needs hr,YB];show 3+(3+(3+(3+(3+(3+(8+(3+(3+(4+(WD c.tenor+(3+(3+WY c.needs))))))))))))=_;omega
theorem agS {c:Cr}(hq:apC c) (hs:Iq c) (hf:∀n∈c.needs,∀r∈n.rules,r.field≠⟨#[110,111,116]⟩):ajO ⟨Xa c,(Il (Xa c)).l,(Xa c).size,c⟩∧(Il (Xa c)).l≠[]:=by
 have q:=agY hq.b;have hz:=hq.z;have hr:∀n∈c.needs,n.rules≠[]:=fun n hn e=>by
  have:=(hs.n n hn).l;rw[e]at this;exact absurd this.1 (by decide)
 obtain⟨b,h1,h2⟩:=apJ q hs (Xa c) 0 [] [] (by simp[HD]) (fun _ h=>nomatch h);obtain⟨T,hT⟩:∃T,T=WF (l0W c)++(hdW c).flatMap WF++(c.needs.map nW).flatMap WF:=⟨_,rfl⟩
 rw[←hT]at h1;have h3:=HJ (g:=CN) [10] b [] h2 (fun d hd=>by rw[List.mem_singleton.1 hd];rfl) (fun d r' hd=>nomatch hd);have h4:=Wq (x:=[10]) (r:=[]) h2;have h5:=WR h4;obtain⟨h6,h7⟩:=h1.len (aI _);obtain⟨L,h8,h9,h10⟩:=acK h1 (by rw[h3];exact h5) ((Xa c).size+1) [] (by omega) (by rw[List.length_nil];omega);have hsc:Il (Xa c)=⟨L,(Xa c).size,0⟩:=by
  unfold Il;rw[h8,List.nil_append]
 have hat:=apX hr (by rw[←hT];exact h9) (by rw[←hT];exact h10);have hTn:T≠[]:=by
  rw[hT];unfold WF;simp
 have hL:L≠[]:=fun e=>hTn (List.length_eq_zero_iff.1 (by rw[←h10,e];rfl))
 rw[hsc];refine⟨⟨⟨hz,by rw[hsc],by rw[hsc],rfl⟩,?_⟩,hL⟩;exact⟨by show L.length≤4096;omega,hat,hs.cf,hs.above,hs.below,hs.within,q.amt,q.latest,q.expiry,q.tenor,Nat.le_trans hs.m (by decide),fun n hn=>⟨(hs.n n hn).k,(hs.n n hn).l,fun r hr2=>arA (q.r n hn r hr2) ((hs.n n hn).r r hr2).p (hf n hn r hr2),⟨(hs.n n hn).r,by have:=(hs.n n hn).l;omega,(hs.n n hn).l.1⟩⟩⟩
theorem abI {n:Int}(h:CM n):lO (cT n)=true∧iU (cT n)=n:=by
 have e:sA (cT n).data.toList=some n:=by
  show sA (Lib.itoa n)=some n;exact(Bv _ _).2 ⟨h,rfl⟩
 unfold lO iU;rw[e];exact⟨rfl,rfl⟩
theorem aqZ {k:Int}{r:Nd}(hk:0≤k∧k≤5) (h:W6 k r.field=true) (hs:Bs r) (ha:r.kind=3→WS r.field=0∨(WS r.field=1∧∃n:Int,0≤n∧CM n∧r.text=cT n)) (hb:r.kind≠3→WS r.field≠0):adP k r:=fun c=>by
 refine⟨hk,h,hs.p,fun h3=>?_,hb,Nat.le_trans hs.t (by decide)⟩;rcases ha h3 with h1|⟨h1,n,hn,hi,ht⟩
 ·exact .inl h1
 ·obtain⟨h4,h5⟩:=abI hi;exact .inr ⟨h1,by rw[ht];exact h4,by rw[ht,h5];exact hn⟩
theorem aqX {l:List Nd}(hs:∀r∈l,Bs r) (hl:l.length≤64) (hn:(l.map Nd.field).Nodup):DsR l:=by
 refine⟨fun r hr=>(hs r hr).p,fun i j a b hij ha hb e=>?_,hl,fun r hr=>Nat.le_trans (hs r hr).t (by decide)⟩;have h1:(l.map Nd.field)[i]?=some a.field:=by rw[aD,ha];rfl
 have h2:(l.map Nd.field)[j]?=some b.field:=by rw[aD,hb];rfl
 have hi:=(aA.1 h1)
 have hj:=(aA.1 h2)
 obtain⟨hi1,hi2⟩:=hi;obtain⟨hj1,hj2⟩:=hj;have hij2:i=j:=(List.getElem_inj (h₀:=hi1) (h₁:=hj1) hn).1 (hi2.trans (e.trans hj2.symm));omega
structure NfR (k:Int) (r:Nd):Prop where
 f:r.field≠⟨#[110,111,116]⟩
 h:W6 k r.field=true
 a:r.kind=3→WS r.field=0∨(WS r.field=1∧∃n:Int,0≤n∧CM n∧r.text=cT n)
 b:r.kind≠3→WS r.field≠0
theorem YD {k:Int}{s t:bF}(f:s≠⟨#[110,111,116]⟩) (h:W6 k s=true) (a:WS s=0):NfR k ⟨3,s,t,0⟩:=⟨f,h,fun _=>.inl a,fun h=>absurd rfl h⟩
theorem aqS {k:Int}{s:bF}{n:Int}(f:s≠⟨#[110,111,116]⟩) (h:W6 k s=true) (a:WS s=1) (hn:0≤n) (hi:CM n):NfR k ⟨3,s,cT n,0⟩:=⟨f,h,fun _=>.inr ⟨a,n,hn,hi,rfl⟩,fun h=>absurd rfl h⟩
theorem aqC {k kd m:Int}{s t:bF}(hk:kd≠3) (f:s≠⟨#[110,111,116]⟩) (h:W6 k s=true) (a:WS s≠0):NfR k ⟨kd,s,t,m⟩:=⟨f,h,fun h=>absurd h hk,fun _=>a⟩
structure NfN (n:Ne):Prop where
 d:(n.rules.map Nd.field).Nodup
 r:∀r∈n.rules,NfR n.kind r
theorem aqW {d:De}(ha:0≤d.amt∧CM d.amt) (hb:0≤(d.boxes.length:Int)∧CM (d.boxes.length:Int)):NfN (fL d):=
 ⟨by show List.Nodup _;unfold fL;simp only[List.map_cons,List.map_nil];decide,by unfold fL;exact FP (YD (k:=0) (s:=bU) (by decide) (by decide) (by decide)) (FP (YD (k:=0) (s:=dH) (by decide) (by decide) (by decide)) (FP (YD (k:=0) (s:=eE) (by decide) (by decide) (by decide)) (FP (aqS (k:=0) (s:=eW) (by decide) (by decide) (by decide) ha.1 ha.2) (FP (YD (k:=0) (s:=dK) (by decide) (by decide) (by decide)) (Wz (YD (k:=0) (s:=kE) (by decide) (by decide) (by decide)))))))⟩
theorem aqI {d:De}(ha:0≤d.amt∧CM d.amt) (hb:0≤(d.boxes.length:Int)∧CM (d.boxes.length:Int)):NfN (fS d):=
 ⟨by show List.Nodup _;unfold fS;simp only[List.map_cons,List.map_nil];decide,by unfold fS;exact FP (aqS (k:=1) (s:=dF) (by decide) (by decide) (by decide) hb.1 hb.2) (Wz (YD (k:=1) (s:=dL) (by decide) (by decide) (by decide)))⟩
theorem aqY {d:De}(ha:0≤d.amt∧CM d.amt) (hb:0≤(d.boxes.length:Int)∧CM (d.boxes.length:Int)):NfN (fQ d):=
 ⟨by show List.Nodup _;unfold fQ;simp only[List.map_cons,List.map_nil];decide,by unfold fQ;exact FP (YD (k:=2) (s:=lB) (by decide) (by decide) (by decide)) (FP (YD (k:=2) (s:=kS) (by decide) (by decide) (by decide)) (FP (YD (k:=2) (s:=dK) (by decide) (by decide) (by decide)) (FP (YD (k:=2) (s:=kE) (by decide) (by decide) (by decide)) (FP (YD (k:=2) (s:=dL) (by decide) (by decide) (by decide)) (FP (YD (k:=2) (s:=qO) (by decide) (by decide) (by decide)) (Wz (aqC (k:=2) (s:=dU) (kd:=5) (by decide) (by decide) (by decide) (by decide))))))))⟩
theorem auR {d:De}(ha:0≤d.amt∧CM d.amt) (hb:0≤(d.boxes.length:Int)∧CM (d.boxes.length:Int)):NfN (iN d):=
 ⟨by show List.Nodup _;unfold iN;simp only[List.map_cons,List.map_nil];decide,by unfold iN;exact FP (YD (k:=3) (s:=dK) (by decide) (by decide) (by decide)) (FP (YD (k:=3) (s:=kE) (by decide) (by decide) (by decide)) (FP (YD (k:=3) (s:=eE) (by decide) (by decide) (by decide)) (Wz (aqC (k:=3) (s:=eW) (kd:=6) (by decide) (by decide) (by decide) (by decide)))))⟩
theorem aqF {d:De}(ha:0≤d.amt∧CM d.amt) (hb:0≤(d.boxes.length:Int)∧CM (d.boxes.length:Int)):NfN (hO d):=
 ⟨by show List.Nodup _;unfold hO;simp only[List.map_cons,List.map_nil];decide,by unfold hO;exact FP (YD (k:=4) (s:=bU) (by decide) (by decide) (by decide)) (Wz (YD (k:=4) (s:=gS) (by decide) (by decide) (by decide)))⟩
theorem akQ {d:De}(ha:0≤d.amt∧CM d.amt) (hb:0≤(d.boxes.length:Int)∧CM (d.boxes.length:Int)):(∀n∈cR d,NfN n)∧((cR d).map Ne.kind).Nodup:=by
 unfold cR
 split
 ·exact⟨FP (aqW ha hb) (FP (aqI ha hb) (FP (aqY ha hb) (Wz (aqF ha hb)))),by show List.Nodup [(0:Int),1,2,4];decide⟩
 ·exact⟨FP (aqW ha hb) (FP (aqI ha hb) (FP (aqY ha hb) (FP (auR ha hb) (Wz (aqF ha hb))))),by show List.Nodup [(0:Int),1,2,3,4];decide⟩
theorem apF (x:Tr) (o:R7) (hx:LL x) (ho:PaZ x o):LgF o.c o.docs x.presented:=by
 have ht:=PG hx ho.y;have hm:=ho.m;have hc:=ho.y.c;have hs:Iq o.c:=by rw[hc];exact MW hx.d hx.sz
 obtain⟨hq,hp⟩:=ajH hm;have q:=agY hq.b;have hamt:x.d.amt=o.c.amt:=by rw[hc];rfl
 have hneeds:o.c.needs=cR x.d:=by rw[hc];rfl
 have hbx:=hx.d.mks.few;obtain⟨hnf,hnk⟩:=akQ (d:=x.d) ⟨by have:=q.amt;omega,⟨by have:=q.amt;omega,by have:=q.amt;omega⟩⟩ ⟨by omega,⟨by omega,by omega⟩⟩;rw[←hneeds]at hnf hnk;obtain⟨hps,hne⟩:=agS hq hs fun n hn r hr=>((hnf n hn).r r hr).f
 have hck:afR o.c:=by
  refine⟨Nat.le_trans hs.m (by decide),fun i j a b hij ha hb e=>?_,fun n hn=>⟨Nat.le_trans (hs.n n hn).l.2 (by decide),fun r hr=>?_,?_⟩⟩
  ·have h1:(o.c.needs.map Ne.kind)[i]?=some a.kind:=by rw[aD,ha];rfl
   have h2:(o.c.needs.map Ne.kind)[j]?=some b.kind:=by rw[aD,hb];rfl
   obtain⟨hi1,hi2⟩:=aA.1 h1;obtain⟨hj1,hj2⟩:=aA.1 h2;have hij2:i=j:=(List.getElem_inj (h₀:=hi1) (h₁:=hj1) hnk).1 (hi2.trans (e.trans hj2.symm));omega
  ·have h:=(hnf n hn).r r hr;exact aqZ (hs.n n hn).k h.h ((hs.n n hn).r r hr) h.a h.b
  ·exact aqX (hs.n n hn).r (Nat.le_trans (hs.n n hn).l.2 (by decide)) (hnf n hn).d
 exact⟨hs,hp,hps,hne,⟨Nat.le_trans hs.m (by decide),fun n hn=>Nat.le_trans (hs.n n hn).l.2 (by decide)⟩,⟨hs,hm,hck⟩,ht.ok,ht.fine⟩
set_option maxHeartbeats 8000000
theorem Gh.rowH {M:Nat}{st:St}(k:Nat) {t sz:Nat}{xs:List AV}(hk:tD st.H[k]?=some (t,sz,xs)):Gh M st ⟨st.T,st.H.set k (.hrow t sz xs.length (xs.flatMap AV.cells))⟩:=fun C a w r pub _ h=>by
 have hk':st.H[k]?=some (.row t sz xs):=by
  cases he:st.H[k]? with
  |none=>rw[he]at hk;cases hk
  |some e=>cases e<;>rw[he]at hk<;>cases hk<;>rfl
 have h0:=h.mod.ent k _ hk';generalize hx:r k=x at h0;cases h0 with
 |row ho hc hs hp=>
  have hv:bO pub w r (xs.flatMap AV.cells) _:=⟨hc.len,fun i y u hy hu=>(hc.at_ i y u hy hu).mono (fun n y hn=>by cases hn)⟩
  exact⟨r,pub,h.mod.set hx (Fr.refl (fun _=>False) _ _) (fun _ h=>h.elim) h.mod.fresh h.mod.there (.hrow ho hv hp),h.own,h.fr,h.slots,h.defers,h.size,h.stab,h.low.1,by simpa using h.low.2⟩
theorem Gh.adoptH {M:Nat}{st:St}(k j t sz:Nat) {t0 s0 n0:Nat}{cs:List AV}(hk:ZG st.H[k]?=some (t0,s0,n0,cs)) (hj:cs[j]?=some (.v (.slice none 0 0))) :
  Gh M st ⟨st.T,(st.H++[cC.row t sz []]).set k (.hrow t0 s0 n0 (cs.set j (.hd st.H.length)))⟩:=fun C a w r pub _ h=>by
 have hk:=Zh hk;have hkl:=(aA.1 hk).1;have hd:=h.room 1;have hq:(st.H++List.replicate 1 cC.dead)[st.H.length]?=some .dead:=by simp
 have h1:=hd.adopt hq t sz;have hset:(st.H++List.replicate 1 cC.dead).set st.H.length (.row t sz [])=st.H++[.row t sz []]:=by simp
 dsimp only at h1;rw[hset]at h1;have hk1:(st.H++[cC.row t sz []])[k]?=some (.hrow t0 s0 n0 cs):=by rw[List.getElem?_append_left hkl];exact hk
 obtain⟨A,c,us,hr,ho,hc,hp⟩:=h1.ent_hrowP hk1;have he:dR pub w (eN r st.H.length (.slice none 0 0)) (some (.slice A n0 c)) (.hrow t0 s0 n0 (cs.set j (.hd st.H.length))):=by
  refine .hrow ho ⟨by rw[aZ];exact hc.len,fun i x u hx hu=>?_⟩ hp;rw[List.getElem?_set]at hx
  split at hx
  ·rename_i e;subst e;have:=hc.at_ j _ u hj hu;cases this
   split at hx
   ·cases hx;exact .hd (bW _ _ _) rfl
   ·cases hx
  ·exact hc.at_ i x u hx hu
 exact⟨_,pub,h1.mod.set hr (Fr.refl (fun _=>False) _ _) (fun b hb=>hb.elim) h1.mod.fresh h1.mod.there he,h1.own,h1.fr,h1.slots,h1.defers,h1.size,h1.stab,by simpa using h1.low⟩
def alK:cQ:=spec (fun i:List Int×Int=>[.hd 0,.sl 1 [.sl 1 (bK ZA [i.2])]]) (fun i=>[.hrow 142 1 1 [.hd 1],.row 3 1 (bK ZA i.1)]) (fun i=>i.1.length≤64) (fun _=>.hd 0) fun i=>[.hrow 142 1 1 [.hd 1],.row 3 1 (bK ZA (i.1++[i.2]))]
theorem aaZ (P:bG):bL P arR alK:=by
 intro args H K hc;obtain⟨⟨xs,i⟩,rfl,rfl,hp,hK⟩:=hc;refine⟨cW,?_⟩;dsimp only at hp hK⊢
 try dsimp only at hp
 obtain⟨ys,hys⟩:∃ys,ys=xs++[i]:=⟨_,rfl⟩
 rw[←hys]at hK;have hmx:=bN ZA xs;cbv;repeat'((first|refine .y fun h=>?_|refine .k fun z hz=>?_|fail)<;>cbv)
 refine bZ [0,1] (fun q:{ q:Nat×List Int // (q.1=0∧q.2=xs)∨(q.1=1∧q.2=ys) }=>[(0,.hd 0),(16,.i (nI q.1.1))]) (fun q=>[.hrow 142 1 1 [.hd 1],.row 3 1 (bK ZA q.1.2)]) (fun q=>iH 2 q.1.1) ⟨(0,xs),.inl ⟨rfl,rfl⟩⟩ ?_;rintro ⟨⟨k,l⟩,hkl⟩
 try dsimp only at hkl⊢
 rcases hkl with ⟨rfl,rfl⟩|⟨rfl,rfl⟩
 ·cbv;repeat'((first|refine .y fun h=>?_|refine .k fun z hz=>?_|refine .o ?_|refine .zl fun zs hzs hzl=>?_|refine kR.i0 ?_|fail)<;>cbv)
  obtain rfl:zs=bK ZA ys:=by rw[hys,cP];exact hzs
  obtain rfl:z=nI 1:=bR;exact bP ⟨(1,ys),.inr ⟨rfl,rfl⟩⟩ (bQ (by decide))
 ·cbv;repeat'((first|refine .n fun h=>?_|fail)<;>cbv)
  (refine .q9 ?_;cbv;exact .inl (.f9 hK))
def plG:AV:=.clo 246 [.ptr 0 0]
def ajW:cQ:=spec (fun i:List Nd×Nd=>[jW i.2,plG]) (fun i=>[.blk 98 [.hd 1],.row 100 6 (bK jW i.1)]) (fun i=>i.1.length≤64∧dG i.2) (fun i=>.sl 1 [.sl 1 (bK ZA [nI i.1.length])]) fun i=>[.blk 98 [.hd 1],.row 100 6 (bK jW (i.1++[i.2]))]
theorem aaJ (P:bG) (ha:bH P 240 aiN) (m:cL P 246) (hq:bH P 246 akT):bL P aqJ ajW:=by
 intro args H K hc;obtain⟨⟨l,⟨kind,field,text,num⟩⟩,rfl,rfl,hp,hK⟩:=hc;refine⟨cW,?_⟩;dsimp only at hp hK⊢;obtain⟨hl,hpl⟩:=hp
 try dsimp only at hl hpl
 obtain⟨n,hn⟩:∃n,n=l.length:=⟨_,rfl⟩
 obtain⟨l2,hl2⟩:∃q,q=l++[(⟨kind,field,text,num⟩:Nd)]:=⟨_,rfl⟩
 rw[←hn,←hl2]at hK;unfold plG;cbv
 (refine hP ha (⟨kind,field,text,num⟩:Nd) hpl ?_;try dsimp only)
 cbv;repeat'((first|refine And.intro ?_ ?_|fail)<;>cbv)
 ·exact m
 (refine jR hq ((l,⟨kind,field,text,num⟩):List Nd×Nd) [0,1] hl ?_;try dsimp only)
 rw[←hl2,←hn];cbv
 (refine .r9 (Gh.plain 4 rfl) ?_;cbv;exact .inl (.g9 hK))
def amF:cQ:=spec (fun l:List Nd=>[vW l,plG]) (fun _=>[.blk 98 [.hd 1],.row 100 6 []]) (fun l=>l.length≤64∧∀n∈l,dG n) (fun _=>.hd 2) fun l=>[.blk 98 [.hd 1],.row 100 6 (bK jW l),.hrow 142 1 1 [.hd 3],.row 3 1 (bK ZA (WU l.length))]
theorem aaT (n:Nat):WU (n+1)=WU n++[nI n]:=by
 unfold WU;rw[List.range_succ,List.map_append];rfl
theorem aaC (P:bG) (ha:bH P 240 ahV) (hn:bH P 245 ahM) (hc:bH P 247 ajW) (hx:bH P 293 alK):bL P aqJ amF:=by
 intro args H K hc;obtain⟨l,rfl,rfl,hp,hK⟩:=hc;refine⟨cW,?_⟩;dsimp only at hp hK⊢;obtain⟨hl,hpl⟩:=hp;have hml:=bN jW l;obtain⟨n,hnn⟩:∃n,n=l.length:=⟨_,rfl⟩
 rw[←hnn]at hK;unfold plG vW;cbv
 (refine hP ha l trivial ?_;try dsimp only)
 cbv;repeat'((first|refine .n fun h=>?_|refine .y fun h=>?_|fail)<;>cbv)
 all_goals first
  |exact absurd rfl ‹_›
  |exact absurd ‹_› (by decide)
  |skip
 (refine hP hn l ⟨hl,hpl⟩ ?_;try dsimp only)
 cbv;repeat'((first|refine .n fun h=>?_|refine .k fun z hz=>?_|fail)<;>cbv)
 all_goals first
  |exact absurd rfl ‹_›
  |exact absurd ‹_› (by decide)
  |skip
 refine iD (Gh.rowH 3 rfl) ?_;cbv;refine iD (Gh.adoptH 3 0 3 1 rfl rfl) ?_;cbv;refine bZ [1,3,4] (fun q:{ q:Nat×List Nd×List Int // q.1≤n∧q.2.1=l.take q.1∧q.2.2=WU q.1 }=>[(1,.clo 246 [.ptr 0 0]),(10,.hd 3),(54,.i (nI q.1.1))]) (fun q=>[.blk 98 [.hd 1],.row 100 6 (bK jW q.1.2.1),.blk 100 [.i 0,.i 0,.str ⟨#[]⟩,.str ⟨#[]⟩,.i 0,.sl 6 (bK jW l)],.hrow 142 1 1 [.hd 4],.row 3 1 (bK ZA q.1.2.2)]) (fun q=>iH n q.1.1) ⟨(0,[],[]),aI _,rfl,rfl⟩ ?_;rintro ⟨⟨k,a,J⟩,hk,hak,hJ⟩
 try dsimp only at hk hak hJ⊢
 have hal:a.length=k:=by rw[hak,aR];omega
 have hJl:J.length=k:=by rw[hJ,Xu]
 rcases aL k n with hks|hks
 ·obtain⟨x,hxl⟩:=cY (L:=l) (i:=k) (by omega);have hpx:=hpl x (aC hxl);have htk:=cE hxl;rw[←hak]at htk;have hJ2:=aaT k;rw[←hJ]at hJ2;obtain⟨a2,ha2⟩:∃q,q=a++[x]:=⟨_,rfl⟩
  obtain⟨J2,hJJ⟩:∃q,q=J++[nI k]:=⟨_,rfl⟩
  rw[←ha2]at htk;rw[←hJJ]at hJ2;obtain⟨kind,field,text,num⟩:=x;cbv;repeat'((first|refine .e ?_|refine .y fun h=>?_|fail)<;>cbv)
  (refine jR hc ((a,⟨kind,field,text,num⟩):List Nd×Nd) [0,1] ⟨by(try dsimp only);omega,hpx⟩ ?_;try dsimp only)
  rw[←ha2,hal];cbv
  (refine jR hx ((J,nI k):List Int×Int) [3,4] (by(try dsimp only);omega) ?_;try dsimp only)
  rw[←hJJ];cbv;repeat'((first|refine .k fun z hz=>?_|fail)<;>cbv)
  obtain rfl:z=nI (k+1):=bR;exact bP ⟨(k+1,a2,J2),by(try dsimp only);omega,htk.symm,hJ2.symm⟩ (bQ hks)
 ·have hkn:k=n:=by omega
  obtain rfl:a=l:=by rw[hak,hkn,hnn,List.take_length]
  obtain rfl:J=WU n:=by rw[hJ,hkn]
  cbv;repeat'((first|refine .n fun h=>?_|fail)<;>cbv)
  (refine .q9 ?_;cbv;exact .inl (mH.sel [0,1,3,4] _ _ (by rfl) (by rfl) (by decide) (by rfl) cW (by rfl) (by rfl) (Le.refl _) (sK.refl _) hK))
theorem Zb (P:bG) (hn:bH P 245 ahM) (hc:bH P 247 amF) (hk:bH P 248 aoA):bL P arU aeM:=by
 intro args H K hc;obtain⟨l,rfl,rfl,hp,hK⟩:=hc;refine⟨cW,?_⟩;dsimp only at hp hK⊢;have hd:=hp;obtain⟨J,hJ⟩:∃J,J=WU l.length:=⟨_,rfl⟩
 unfold vW;cbv
 (refine hP hn l ⟨hd.m,hd.p⟩ ?_;try dsimp only)
 cbv;refine pN 1 0 100 6 rfl rfl rfl ?_;cbv
 (refine jR hc l [1,2] ⟨hd.m,hd.p⟩ ?_;try dsimp only)
 rw[←hJ];cbv;refine bZ [] (fun q:Unit=>[(21,.i 0)]) (fun q=>[.blk 100 [.i 0,.i 0,.str ⟨#[]⟩,.str ⟨#[]⟩,.i 0,.sl 6 (bK jW l)],.blk 98 [.hd 2],.row 100 6 (bK jW l),.hrow 142 1 1 [.hd 4],.row 3 1 (bK ZA J)]) (fun q=>iH 1 0) () ?_;rintro ⟨⟩;cbv;repeat'((first|refine .y fun h=>?_|refine .o ?_|fail)<;>cbv)
 refine bT 4 rfl ?_;cbv;refine bT 2 rfl ?_;cbv;rw[hJ]
 (refine hP hk l hd ?_;try dsimp only)
 cbv
 (refine .q9 ?_;cbv;exact .inl (.f9 hK))
end Go.Proofs.YtooioahiijbomaaGreatDoor
namespace Go.Proofs.YtooioahiijbomaaGreatDoor
open Go.Shelf Go.RowKit
set_option maxRecDepth 100000
def zV:Go.Shelf.Ren:=⟨fun|173=>99|246=>189|283=>262|284=>263|285=>264|286=>265|129=>277|317=>304|318=>305|319=>306|320=>307|337=>321|338=>322|n=>n,fun|2=>2|3=>3|9=>9|4=>4|171=>307|0=>0|53=>271|37=>131|5=>5|173=>309|212=>336|51=>269|20=>20|213=>337|46=>209|232=>361|233=>362|n=>n,fun|17=>8|18=>10|19=>11|n=>n⟩
theorem K7:Go.Proofs.LaysM.n173 Tryz.prog zV:={
  mixed:=by kernel_rfl
  f129:=Tryz.func277.trans (congrArg some (by kernel_rfl))
  f173:=Tryz.func99.trans (congrArg some (by kernel_rfl))
  f246:=Tryz.func189.trans (congrArg some (by kernel_rfl))
  f283:=Tryz.func262.trans (congrArg some (by kernel_rfl))
  f284:=Tryz.func263.trans (congrArg some (by kernel_rfl))
  f285:=Tryz.func264.trans (congrArg some (by kernel_rfl))
  f286:=Tryz.func265.trans (congrArg some (by kernel_rfl))
  f317:=Tryz.func304.trans (congrArg some (by kernel_rfl))
  f318:=Tryz.func305.trans (congrArg some (by kernel_rfl))
  f319:=Tryz.func306.trans (congrArg some (by kernel_rfl))
  f320:=Tryz.func307.trans (congrArg some (by kernel_rfl))
  f337:=Tryz.func321.trans (congrArg some (by kernel_rfl))
  f338:=Tryz.func322.trans (congrArg some (by kernel_rfl))
  t0:=Tryz.underlying0
  a0:=Tryz.isAgg0
  z0:=Tryz.sizeOf0
  v0:=Tryz.zeroValue0
  t2:=Tryz.underlying2
  a2:=Tryz.isAgg2
  z2:=Tryz.sizeOf2
  v2:=Tryz.zeroValue2
  t3:=Tryz.underlying3
  a3:=Tryz.isAgg3
  z3:=Tryz.sizeOf3
  v3:=Tryz.zeroValue3
  t4:=Tryz.underlying4
  a4:=Tryz.isAgg4
  z4:=Tryz.sizeOf4
  v4:=Tryz.zeroValue4
  t5:=Tryz.underlying5
  a5:=Tryz.isAgg5
  z5:=Tryz.sizeOf5
  v5:=Tryz.zeroValue5
  t9:=Tryz.underlying9
  a9:=Tryz.isAgg9
  z9:=Tryz.sizeOf9
  v9:=Tryz.zeroValue9
  t20:=Tryz.underlying20
  a20:=Tryz.isAgg20
  z20:=Tryz.sizeOf20
  v20:=Tryz.zeroValue20
  t37:=Tryz.underlying131
  a37:=Tryz.isAgg131
  z37:=Tryz.sizeOf131
  v37:=Tryz.zeroValue131
  t46:=Tryz.underlying209
  a46:=Tryz.isAgg209
  z46:=Tryz.sizeOf209
  v46:=Tryz.zeroValue209
  t51:=Tryz.underlying269
  a51:=Tryz.isAgg269
  z51:=Tryz.sizeOf269
  v51:=Tryz.zeroValue269
  t53:=Tryz.underlying271
  a53:=Tryz.isAgg271
  z53:=Tryz.sizeOf271
  v53:=Tryz.zeroValue271
  t171:=Tryz.underlying307
  a171:=Tryz.isAgg307
  z171:=Tryz.sizeOf307
  v171:=Tryz.zeroValue307
  t173:=Tryz.underlying309
  a173:=Tryz.isAgg309
  z173:=Tryz.sizeOf309
  v173:=Tryz.zeroValue309
  t212:=Tryz.underlying336
  a212:=Tryz.isAgg336
  z212:=Tryz.sizeOf336
  v212:=Tryz.zeroValue336
  t213:=Tryz.underlying337
  a213:=Tryz.isAgg337
  z213:=Tryz.sizeOf337
  t232:=Tryz.underlying361
  a232:=Tryz.isAgg361
  z232:=Tryz.sizeOf361
  v232:=Tryz.zeroValue361
  t233:=Tryz.underlying362
  a233:=Tryz.isAgg362
  z233:=Tryz.sizeOf362
  v233:=Tryz.zeroValue362
  g17:=by kernel_rfl
  g18:=by kernel_rfl
  g19:=by kernel_rfl
  i0:=by kernel_rfl
  i2:=by kernel_rfl
  i3:=by kernel_rfl
  i4:=by kernel_rfl
  i5:=by kernel_rfl
  i9:=by kernel_rfl
  i20:=by kernel_rfl
  i37:=by kernel_rfl
  i46:=by kernel_rfl
  i51:=by kernel_rfl
  i53:=by kernel_rfl
  i171:=by kernel_rfl
  i173:=by kernel_rfl
  i212:=by kernel_rfl
  i232:=by kernel_rfl
  i233:=by kernel_rfl
  m17:=by kernel_rfl
  m18:=by kernel_rfl
  m19:=by kernel_rfl }
def AC:Go.Shelf.Ren:=⟨fun|174=>98|247=>187|245=>188|287=>257|279=>258|280=>259|281=>260|282=>261|321=>300|322=>301|316=>302|171=>109|205=>303|243=>196|246=>189|283=>262|284=>263|285=>264|286=>265|129=>277|317=>304|318=>305|319=>306|320=>307|337=>321|338=>322|n=>n,fun|9=>9|3=>3|2=>2|75=>135|85=>196|4=>4|167=>301|5=>5|53=>271|175=>302|46=>209|168=>304|37=>131|0=>0|210=>333|21=>21|127=>218|145=>353|143=>351|171=>307|173=>309|212=>336|51=>269|20=>20|213=>337|232=>361|233=>362|80=>144|n=>n,fun|15=>6|16=>7|17=>8|18=>10|19=>11|n=>n⟩
theorem sZ:Go.Proofs.LaysC.n174 Tryz.prog AC:={
  mixed:=by kernel_rfl
  f129:=Tryz.func277.trans (congrArg some (by kernel_rfl))
  f171:=Tryz.func109.trans (congrArg some (by kernel_rfl))
  f174:=Tryz.func98.trans (congrArg some (by kernel_rfl))
  f205:=Tryz.func303.trans (congrArg some (by kernel_rfl))
  f243:=Tryz.func196.trans (congrArg some (by kernel_rfl))
  f245:=Tryz.func188.trans (congrArg some (by kernel_rfl))
  f246:=Tryz.func189.trans (congrArg some (by kernel_rfl))
  f247:=Tryz.func187.trans (congrArg some (by kernel_rfl))
  f279:=Tryz.func258.trans (congrArg some (by kernel_rfl))
  f280:=Tryz.func259.trans (congrArg some (by kernel_rfl))
  f281:=Tryz.func260.trans (congrArg some (by kernel_rfl))
  f282:=Tryz.func261.trans (congrArg some (by kernel_rfl))
  f283:=Tryz.func262.trans (congrArg some (by kernel_rfl))
  f284:=Tryz.func263.trans (congrArg some (by kernel_rfl))
  f285:=Tryz.func264.trans (congrArg some (by kernel_rfl))
  f286:=Tryz.func265.trans (congrArg some (by kernel_rfl))
  f287:=Tryz.func257.trans (congrArg some (by kernel_rfl))
  f316:=Tryz.func302.trans (congrArg some (by kernel_rfl))
  f317:=Tryz.func304.trans (congrArg some (by kernel_rfl))
  f318:=Tryz.func305.trans (congrArg some (by kernel_rfl))
  f319:=Tryz.func306.trans (congrArg some (by kernel_rfl))
  f320:=Tryz.func307.trans (congrArg some (by kernel_rfl))
  f321:=Tryz.func300.trans (congrArg some (by kernel_rfl))
  f322:=Tryz.func301.trans (congrArg some (by kernel_rfl))
  f337:=Tryz.func321.trans (congrArg some (by kernel_rfl))
  f338:=Tryz.func322.trans (congrArg some (by kernel_rfl))
  t0:=Tryz.underlying0
  a0:=Tryz.isAgg0
  z0:=Tryz.sizeOf0
  v0:=Tryz.zeroValue0
  t2:=Tryz.underlying2
  a2:=Tryz.isAgg2
  z2:=Tryz.sizeOf2
  v2:=Tryz.zeroValue2
  t3:=Tryz.underlying3
  a3:=Tryz.isAgg3
  z3:=Tryz.sizeOf3
  v3:=Tryz.zeroValue3
  t4:=Tryz.underlying4
  a4:=Tryz.isAgg4
  z4:=Tryz.sizeOf4
  v4:=Tryz.zeroValue4
  t5:=Tryz.underlying5
  a5:=Tryz.isAgg5
  z5:=Tryz.sizeOf5
  v5:=Tryz.zeroValue5
  t9:=Tryz.underlying9
  a9:=Tryz.isAgg9
  z9:=Tryz.sizeOf9
  v9:=Tryz.zeroValue9
  t20:=Tryz.underlying20
  a20:=Tryz.isAgg20
  z20:=Tryz.sizeOf20
  v20:=Tryz.zeroValue20
  t21:=Tryz.underlying21
  a21:=Tryz.isAgg21
  z21:=Tryz.sizeOf21
  v21:=Tryz.zeroValue21
  t37:=Tryz.underlying131
  a37:=Tryz.isAgg131
  z37:=Tryz.sizeOf131
  v37:=Tryz.zeroValue131
  t46:=Tryz.underlying209
  a46:=Tryz.isAgg209
  z46:=Tryz.sizeOf209
  v46:=Tryz.zeroValue209
  t51:=Tryz.underlying269
  a51:=Tryz.isAgg269
  z51:=Tryz.sizeOf269
  v51:=Tryz.zeroValue269
  t53:=Tryz.underlying271
  a53:=Tryz.isAgg271
  z53:=Tryz.sizeOf271
  v53:=Tryz.zeroValue271
  t75:=Tryz.underlying135
  a75:=Tryz.isAgg135
  z75:=Tryz.sizeOf135
  v75:=Tryz.zeroValue135
  t85:=Tryz.underlying196
  a85:=Tryz.isAgg196
  z85:=Tryz.sizeOf196
  v85:=Tryz.zeroValue196
  t127:=Tryz.underlying218
  a127:=Tryz.isAgg218
  z127:=Tryz.sizeOf218
  v127:=Tryz.zeroValue218
  t143:=Tryz.underlying351
  a143:=Tryz.isAgg351
  z143:=Tryz.sizeOf351
  v143:=Tryz.zeroValue351
  t145:=Tryz.underlying353
  a145:=Tryz.isAgg353
  z145:=Tryz.sizeOf353
  v145:=Tryz.zeroValue353
  t167:=Tryz.underlying301
  a167:=Tryz.isAgg301
  z167:=Tryz.sizeOf301
  v167:=Tryz.zeroValue301
  t168:=Tryz.underlying304
  a168:=Tryz.isAgg304
  z168:=Tryz.sizeOf304
  v168:=Tryz.zeroValue304
  t171:=Tryz.underlying307
  a171:=Tryz.isAgg307
  z171:=Tryz.sizeOf307
  v171:=Tryz.zeroValue307
  t173:=Tryz.underlying309
  a173:=Tryz.isAgg309
  z173:=Tryz.sizeOf309
  v173:=Tryz.zeroValue309
  t175:=Tryz.underlying302
  a175:=Tryz.isAgg302
  z175:=Tryz.sizeOf302
  v175:=Tryz.zeroValue302
  t210:=Tryz.underlying333
  a210:=Tryz.isAgg333
  z210:=Tryz.sizeOf333
  v210:=Tryz.zeroValue333
  t212:=Tryz.underlying336
  a212:=Tryz.isAgg336
  z212:=Tryz.sizeOf336
  v212:=Tryz.zeroValue336
  t213:=Tryz.underlying337
  a213:=Tryz.isAgg337
  z213:=Tryz.sizeOf337
  t232:=Tryz.underlying361
  a232:=Tryz.isAgg361
  z232:=Tryz.sizeOf361
  v232:=Tryz.zeroValue361
  t233:=Tryz.underlying362
  a233:=Tryz.isAgg362
  z233:=Tryz.sizeOf362
  v233:=Tryz.zeroValue362
  g15:=by kernel_rfl
  g16:=by kernel_rfl
  g17:=by kernel_rfl
  g18:=by kernel_rfl
  g19:=by kernel_rfl
  t80:=Tryz.underlying144
  a80:=Tryz.isAgg144
  z80:=Tryz.sizeOf144
  v80:=Tryz.zeroValue144
  i0:=by kernel_rfl
  i2:=by kernel_rfl
  i3:=by kernel_rfl
  i4:=by kernel_rfl
  i5:=by kernel_rfl
  i9:=by kernel_rfl
  i20:=by kernel_rfl
  i21:=by kernel_rfl
  i37:=by kernel_rfl
  i46:=by kernel_rfl
  i51:=by kernel_rfl
  i53:=by kernel_rfl
  i75:=by kernel_rfl
  i80:=by kernel_rfl
  i85:=by kernel_rfl
  i127:=by kernel_rfl
  i143:=by kernel_rfl
  i145:=by kernel_rfl
  i167:=by kernel_rfl
  i168:=by kernel_rfl
  i171:=by kernel_rfl
  i173:=by kernel_rfl
  i175:=by kernel_rfl
  i210:=by kernel_rfl
  i212:=by kernel_rfl
  i232:=by kernel_rfl
  i233:=by kernel_rfl
  m15:=by kernel_rfl
  m16:=by kernel_rfl
  m17:=by kernel_rfl
  m18:=by kernel_rfl
  m19:=by kernel_rfl
  c0:=by kernel_rfl
  c2:=by kernel_rfl
  c3:=by kernel_rfl
  c4:=by kernel_rfl
  c5:=by kernel_rfl
  c9:=by kernel_rfl
  c20:=by kernel_rfl
  c21:=by kernel_rfl
  c37:=by kernel_rfl
  c46:=by kernel_rfl
  c51:=by kernel_rfl
  c53:=by kernel_rfl
  c75:=by kernel_rfl
  c80:=by kernel_rfl
  c85:=by kernel_rfl
  c127:=by kernel_rfl
  c143:=by kernel_rfl
  c145:=by kernel_rfl
  c167:=by kernel_rfl
  c168:=by kernel_rfl
  c171:=by kernel_rfl
  c173:=by kernel_rfl
  c175:=by kernel_rfl
  c210:=by kernel_rfl
  c212:=by kernel_rfl
  c213:=by kernel_rfl
  c232:=by kernel_rfl
  c233:=by kernel_rfl }
end Go.Proofs.YtooioahiijbomaaGreatDoor
namespace Go.Proofs.YtooioahiijbomaaGreatDoor
open Go.Shelf Go.RowKit
structure lY (w:World):Prop where
  tab : Lib.TabIs Tryz.prog w "internal/strconv.uint64pow10" .u64 Lib.pow10Tab
  syn : ∃ tp p, w.var? Tryz.prog "strconv.ErrSyntax" = some #[.iface tp p]
  rng : ∃ tp p, w.var? Tryz.prog "strconv.ErrRange" = some #[.iface tp p]
theorem qP {P:bG}{w w':World}{n:String}{cs:Array Value}(h:w.var? P n=some cs) (hb:Below w.heap.size w w'):w'.var? P n=some cs:=by
  unfold World.var? at h⊢;cases hg:P.globalNamed n with
  |none=>rw[hg]at h;cases h
  |some g=>
   rw[hg]at h;simp only[Option.bind_some]at h⊢;have hlt:g < w.heap.size:=by
     by_cases hlt:g < w.heap.size
     · exact hlt
     · rw[Array.getElem?_eq_none (by omega)]at h;cases h
   rw[hb.block g hlt];exact h
theorem lY.below {w w':World}(h:lY w) (hb:Below w.heap.size w w'):lY w':=by
  obtain⟨h1,⟨t2,p2,h2⟩,⟨t3,p3,h3⟩⟩:=h;exact⟨qP h1 hb,⟨t2,p2,qP h2 hb⟩,⟨t3,p3,qP h3 hb⟩⟩
theorem uM (w:World) (k:Nat) (os:Array Obj):Below w.heap.size w (Sort.grow (w.drewN k) os):=
  ⟨rfl,rfl,rfl,by simp[Sort.grow,World.drewN],fun j hj=>by
    show ((w.drewN k).heap++os)[j]?=_;rw[Array.getElem?_append_left (by exact hj)];rfl⟩
def Q8 (w:World) (e:Ending) (w':World):Prop:=∃(n:Int) (t:TypeId) (p:Value),e=.returned (.tuple #[.int .i64 n,.iface t p])∧Below w.heap.size w w'
theorem G6 (s:bF) (hs:s.size≤281474976710656) (w:World) (h:lY w) (hp:∀v,Lib.parseIntB 64 s.data.toList≠.ok v) :
    Calls Tryz.prog 98 #[.string s,.int .i64 10,.int .i64 64] w (Q8 w):=by
  rcases hl:Lib.parseIntB 64 s.data.toList with v|_|_
  · exact absurd hl (hp v)
  · obtain⟨tp,p,hv⟩:=h.syn
    exact(Any.strconv_ParseInt_10_at64_syntax_var sZ s hs hl tp p w hv).mono fun e w' ⟨N,he,_,_,hb⟩=>⟨_,_,_,he,hb⟩
  · obtain⟨tp,p,hv⟩:=h.rng
    exact(Any.strconv_ParseInt_10_at64_range_var sZ s hs hl tp p w hv).mono fun e w' ⟨N,he,_,_,hb⟩=>⟨_,_,_,he,hb⟩
theorem pH (s:bF) (hs:s.size≤281474976710656) (w:World) (v:Int) (hl:Lib.parseIntB 64 s.data.toList=.ok v) :
    Calls Tryz.prog 98 #[.string s,.int .i64 10,.int .i64 64] w fun e w'=>e=.returned (.tuple #[.int .i64 v,.nilIface])∧Below w.heap.size w w':=
  (Any.strconv_ParseInt_10_at64_ok sZ s (by omega) v hl w).mono fun e w' ⟨he,hw⟩=>⟨he,by
    rcases hw with rfl|⟨t,rfl⟩
    · exact Below.refl _ _
    · exact Lib.bytesWorld_below _ _ _⟩
theorem oJ (n:Int) (h0:-9223372036854775808≤n) (h1:n≤9223372036854775807) (w:World) (h:lY w) :
    Calls Tryz.prog 99 #[.int .i64 n,.int .i64 10] w fun e w'=>e=.returned (.string ⟨(Lib.itoa n).toArray⟩)∧Below w.heap.size w w':=
  (Any.strconv_FormatInt_10 K7 n h0 h1 w h.tab).mono fun e w' ⟨he,k,os,hw⟩=>⟨he,by subst hw;exact uM _ _ _⟩
def Nl (o:Option Int) (w:World) (e:Ending) (w':World):Prop:=e=.returned (.tuple #[.int .i64 (o.getD 0),.bool o.isSome])∧Below w.heap.size w w'
set_option maxRecDepth 100000 in
set_option maxHeartbeats 4000000 in
theorem DD (s:bF) (hs:s.size≤281474976710656) (w:World) (h:lY w) :
    Calls Tryz.prog 41 #[.string s] w (Nl (sA s.data.toList) w):=by
  have HV:=Lib.hid h;clear h;have HS:=Lib.hid hs;clear hs;by_cases hok:∃v,Lib.parseIntB 64 s.data.toList=.ok v
  · obtain⟨v,hv⟩:=hok
    have hbd:=Lib.parseIntB_bounds hv;have hb0:-9223372036854775808≤v:=by have:=hbd.1;omega
    have hb1:v≤9223372036854775807:=by have:=hbd.2;omega
    clear hbd;have hn:sA s.data.toList=if CM v∧Lib.itoa v=s.data.toList then some v else none:=by unfold sA;rw[hv]
    rw[hn];have HP:=Lib.hid hv;clear hn hv;by_cases h1:v < -4611686018427387904
    · rw[aE (by unfold CM;omega)]
      go_enter Tryz.func41,Tryz.ntmps41
      go_wp2_with (go_at_call 98;refine(pH s HS.out _ v HP.out).mono ?_;rintro e w1 ⟨rfl,hb⟩)
      go_ret2
      exact⟨rfl,hb⟩
    by_cases h2:4611686018427387904 < v
    · rw[aE (by unfold CM;omega)]
      go_enter Tryz.func41,Tryz.ntmps41
      go_wp2_with (go_at_call 98;refine(pH s HS.out _ v HP.out).mono ?_;rintro e w1 ⟨rfl,hb⟩)
      go_ret2
      exact⟨rfl,hb⟩
    have HI:Hid (CM v):=Lib.hid (by unfold CM;omega);by_cases h3:Lib.itoa v=s.data.toList
    · rw[aF ⟨HI.out,h3⟩]
      have HQ:=Lib.hid h3;have h4:(⟨(Lib.itoa v).toArray⟩:bF)=s:=by rw[h3]
      have H4:=Lib.hid h4;clear h3 h4
      go_enter Tryz.func41,Tryz.ntmps41
      go_wp2_with (first|(go_at_call 98;refine(pH s HS.out _ v HP.out).mono ?_;rintro e w1 ⟨rfl,hb⟩)|(go_at_call 99;refine(oJ v hb0 hb1 _ (HV.out.below hb)).mono ?_;rw[H4.out];rintro e w2 ⟨rfl,hb2⟩;have hw2:=Below.go hb hb2))
      go_ret2
      exact⟨rfl,hw2⟩
    · rw[aE (fun h=>h3 h.2)]
      have h4:((⟨(Lib.itoa v).toArray⟩:bF).toList == s.toList)=false:=by
        rw[beq_eq_false_iff_ne];intro h;apply h3;rw[Go.ByteArray.toList_eq,Go.ByteArray.toList_eq]at h;exact h
      have h5:((⟨(Lib.itoa v).toArray⟩:bF).toList != s.toList)=true:=by unfold bne;rw[h4];rfl
      clear h3;obtain⟨T,hT⟩:∃T:bF,T=⟨(Lib.itoa v).toArray⟩:=⟨_,rfl⟩
      rw[←hT]at h4 h5;have HT:=Lib.hid hT;clear hT
      go_enter Tryz.func41,Tryz.ntmps41
      go_wp2_with (first|(go_at_call 98;refine(pH s HS.out _ v HP.out).mono ?_;rintro e w1 ⟨rfl,hb⟩)|(go_at_call 99;refine(oJ v hb0 hb1 _ (HV.out.below hb)).mono ?_;rw[←HT.out];rintro e w2 ⟨rfl,hb2⟩;have hw2:=Below.go hb hb2))
      go_ret2
      exact⟨rfl,hw2⟩
  · have hn:sA s.data.toList=none:=by
      unfold sA
      split
      · rename_i v hv;exact absurd ⟨v,hv⟩ hok
      · rfl
    rw[hn];have HE:=Lib.hid (fun W hW=>G6 s HS.out W hW (fun v hv=>hok ⟨v,hv⟩));clear hn hok
    go_enter Tryz.func41,Tryz.ntmps41
    go_wp2_with (go_at_call 98;refine(HE.out _ HV.out).mono ?_;rintro e w1 ⟨n,t,p,rfl,hb⟩)
    go_ret2
    exact⟨rfl,hb⟩
end Go.Proofs.YtooioahiijbomaaGreatDoor
namespace Go.Proofs.YtooioahiijbomaaGreatDoor
open Go.Shelf Go.RowKit
set_option maxRecDepth 100000
def xS:Go.Shelf.Ren:=⟨fun|171=>109|243=>196|246=>189|283=>262|284=>263|285=>264|286=>265|129=>277|317=>304|318=>305|319=>306|320=>307|337=>321|338=>322|n=>n,fun|3=>3|9=>9|2=>2|4=>4|171=>307|0=>0|53=>271|37=>131|5=>5|173=>309|212=>336|51=>269|20=>20|213=>337|46=>209|232=>361|233=>362|n=>n,fun|17=>8|18=>10|19=>11|n=>n⟩
theorem LA:Go.Proofs.LaysM.n171 Tryz.prog xS:={
 mixed:=by kernel_rfl
 f129:=Tryz.func277.trans (congrArg some (by kernel_rfl))
 f171:=Tryz.func109.trans (congrArg some (by kernel_rfl))
 f243:=Tryz.func196.trans (congrArg some (by kernel_rfl))
 f246:=Tryz.func189.trans (congrArg some (by kernel_rfl))
 f283:=Tryz.func262.trans (congrArg some (by kernel_rfl))
 f284:=Tryz.func263.trans (congrArg some (by kernel_rfl))
 f285:=Tryz.func264.trans (congrArg some (by kernel_rfl))
 f286:=Tryz.func265.trans (congrArg some (by kernel_rfl))
 f317:=Tryz.func304.trans (congrArg some (by kernel_rfl))
 f318:=Tryz.func305.trans (congrArg some (by kernel_rfl))
 f319:=Tryz.func306.trans (congrArg some (by kernel_rfl))
 f320:=Tryz.func307.trans (congrArg some (by kernel_rfl))
 f337:=Tryz.func321.trans (congrArg some (by kernel_rfl))
 f338:=Tryz.func322.trans (congrArg some (by kernel_rfl))
 t0:=Tryz.underlying0
 a0:=Tryz.isAgg0
 z0:=Tryz.sizeOf0
 v0:=Tryz.zeroValue0
 t2:=Tryz.underlying2
 a2:=Tryz.isAgg2
 z2:=Tryz.sizeOf2
 v2:=Tryz.zeroValue2
 t3:=Tryz.underlying3
 a3:=Tryz.isAgg3
 z3:=Tryz.sizeOf3
 v3:=Tryz.zeroValue3
 t4:=Tryz.underlying4
 a4:=Tryz.isAgg4
 z4:=Tryz.sizeOf4
 v4:=Tryz.zeroValue4
 t5:=Tryz.underlying5
 a5:=Tryz.isAgg5
 z5:=Tryz.sizeOf5
 v5:=Tryz.zeroValue5
 t9:=Tryz.underlying9
 a9:=Tryz.isAgg9
 z9:=Tryz.sizeOf9
 v9:=Tryz.zeroValue9
 t20:=Tryz.underlying20
 a20:=Tryz.isAgg20
 z20:=Tryz.sizeOf20
 v20:=Tryz.zeroValue20
 t37:=Tryz.underlying131
 a37:=Tryz.isAgg131
 z37:=Tryz.sizeOf131
 v37:=Tryz.zeroValue131
 t46:=Tryz.underlying209
 a46:=Tryz.isAgg209
 z46:=Tryz.sizeOf209
 v46:=Tryz.zeroValue209
 t51:=Tryz.underlying269
 a51:=Tryz.isAgg269
 z51:=Tryz.sizeOf269
 v51:=Tryz.zeroValue269
 t53:=Tryz.underlying271
 a53:=Tryz.isAgg271
 z53:=Tryz.sizeOf271
 v53:=Tryz.zeroValue271
 t171:=Tryz.underlying307
 a171:=Tryz.isAgg307
 z171:=Tryz.sizeOf307
 v171:=Tryz.zeroValue307
 t173:=Tryz.underlying309
 a173:=Tryz.isAgg309
 z173:=Tryz.sizeOf309
 v173:=Tryz.zeroValue309
 t212:=Tryz.underlying336
 a212:=Tryz.isAgg336
 z212:=Tryz.sizeOf336
 v212:=Tryz.zeroValue336
 t213:=Tryz.underlying337
 a213:=Tryz.isAgg337
 z213:=Tryz.sizeOf337
 t232:=Tryz.underlying361
 a232:=Tryz.isAgg361
 z232:=Tryz.sizeOf361
 v232:=Tryz.zeroValue361
 t233:=Tryz.underlying362
 a233:=Tryz.isAgg362
 z233:=Tryz.sizeOf362
 v233:=Tryz.zeroValue362
 g17:=by kernel_rfl
 g18:=by kernel_rfl
 g19:=by kernel_rfl
 i0:=by kernel_rfl
 i2:=by kernel_rfl
 i3:=by kernel_rfl
 i4:=by kernel_rfl
 i5:=by kernel_rfl
 i9:=by kernel_rfl
 i20:=by kernel_rfl
 i37:=by kernel_rfl
 i46:=by kernel_rfl
 i51:=by kernel_rfl
 i53:=by kernel_rfl
 i171:=by kernel_rfl
 i173:=by kernel_rfl
 i212:=by kernel_rfl
 i232:=by kernel_rfl
 i233:=by kernel_rfl
 m17:=by kernel_rfl
 m18:=by kernel_rfl
 m19:=by kernel_rfl }
theorem rL {pub : cI} {w : World} (h : gB pub w) : Lib.TabIs Tryz.prog w "internal/strconv.uint64pow10" .u64 Lib.pow10Tab := by
 obtain⟨t,fz,hb⟩:=h.block (g:=8) (by show 0 < 20;omega)
 have hg : Tryz.prog.globalNamed "internal/strconv.uint64pow10" = some 8 := by kernel_rfl
 unfold Lib.TabIs World.var?;rw[hg];simp only[Option.bind_some];rw[hb];rfl
theorem rF {pub:cI}{w:World}(h:gB pub w) {g:Nat}{n:String}(hn:Tryz.prog.globalNamed n=some g) (hg:FF g=true):∃tp p,w.var? Tryz.prog n=some #[.iface tp p]:=by
 obtain⟨t,p,t',fz,hb⟩:=h.errBlock hg;refine⟨t,p,?_⟩;unfold World.var?;rw[hn];simp only[Option.bind_some];rw[hb]
theorem oU {pub:cI}{w:World}(h:gB pub w):lY w:=
 ⟨rL h,rF h (g:=6) (by kernel_rfl) (by rfl),rF h (g:=7) (by kernel_rfl) (by rfl)⟩
theorem zO:bH Tryz.prog 109 kP:=Eg fun n hp pub w vals hf hg hv=>by
 obtain⟨u,us',hl,h1,h2⟩:=hv.cons_inv;have h3:=h2.nil_inv;subst h3;cases h1;have h4:vals=#[.int .i64 n]:=Array.toList_inj.1 (by simpa using hl);subst h4;refine(Any.strconv_Itoa LA n hp.1 hp.2 w (rL hg)).mono fun e w' ⟨he,k,os,hw⟩=>?_
 subst hw;exact nS.plain he (uM w k os) hf (.str _)
theorem CK:bH Tryz.prog 99 H9:=Eg fun n hp pub w vals hf hg hv=>by
 obtain⟨us2,e2,hv3⟩:=hv.int_inv;obtain⟨us3,e3,hv4⟩:=hv3.int_inv;have hn0:=hv4.nil_inv;subst hn0 e3;obtain rfl:vals=#[.int .i64 n,.int .i64 10]:=Array.toList_inj.1 (by rw[e2]);exact(oJ n hp.1 hp.2 w (oU hg)).mono fun e w' ⟨he,hb⟩=>nS.plain he hb hf (.str _)
theorem Tg {pub:cI}{w:World}{r:cF}{a b:AV}{u v:Value}(h1:bS pub w r a u) (h2:bS pub w r b v):bS pub w r (.tup [a,b]) (.tuple #[u,v]):=
 .tup rfl fun i x y hx hy=>match i with
  |0=>by cases hx;cases hy;exact h1
  |1=>by cases hx;cases hy;exact h2
  |i+2=>by simp at hx
theorem kX:bH Tryz.prog 41 HY:=Eg fun s hp pub w vals hf hg hv=>by
 obtain⟨us,h1,hv⟩:=bO.str_inv hv |>.imp fun _ h=>h
 have h3:=hv.nil_inv;have e:vals=#[.string s]:=Array.toList_inj.1 (by rw[h1,h3]);rw[e];exact(DD s hp w (oU hg)).mono fun e w' ⟨he,hb⟩=>nS.plain he hb hf (Tg (.int ..) (.bl ..))
end Go.Proofs.YtooioahiijbomaaGreatDoor
namespace Go.Proofs.YtooioahiijbomaaGreatDoor
open Go.Shelf Go.RowKit
set_option maxRecDepth 100000
theorem alH:bH Tryz.prog 98 ajI:=Eg fun i hp pub w vals hf hg hv=>by
 obtain⟨s,n⟩:=i;obtain⟨us1,e1,hv2⟩:=hv.str_inv;obtain⟨us2,e2,hv3⟩:=hv2.int_inv;obtain⟨us3,e3,hv4⟩:=hv3.int_inv;have hn0:=hv4.nil_inv;subst hn0 e3 e2;obtain⟨hz,hn⟩:=hp
 try dsimp only at hz hn e1
 obtain rfl:vals=#[.string s,.int .i64 10,.int .i64 64]:=Array.toList_inj.1 (by rw[e1]);exact(pH s (by omega) w n hn).mono fun e w' ⟨he,hb⟩=>nS.plain he hb hf (Tg (.int ..) (.v _ rfl))
end Go.Proofs.YtooioahiijbomaaGreatDoor
namespace Go.Proofs.YtooioahiijbomaaGreatDoor
open Go.RowKit
set_option maxHeartbeats 8000000
set_option maxRecDepth 100000
theorem yC:∀l:List Lo,3 * l.length≤A7 l
 |[]=>aN _
 |x :: l=>by
  have:=yC l;have e:A7 (x :: l)=x.good.size+3+A7 l:=by unfold A7;rw[List.map_cons,List.sum_cons]
  rw[e,List.length_cons];omega
theorem JQ:∀(l:List Lo) (x:Lo),x∈l→x.good.size+3≤A7 l
 |y :: l,x,h=>by
  have e:A7 (y :: l)=y.good.size+3+A7 l:=by unfold A7;rw[List.map_cons,List.sum_cons]
  rcases List.mem_cons.1 h with rfl|h
  ·omega
  ·have:=JQ l x h;omega
theorem lC (b:Bx) (l:List Bx):pE (b :: l)=b.mark.size+3+A7 b.lots+pE l:=by unfold pE;rw[List.map_cons,List.sum_cons]
theorem Gd (l m:List Bx):pE (l++m)=pE l+pE m:=by unfold pE;rw[List.map_append,List.sum_append]
theorem Eu:∀(l:List Bx) (b:Bx),b∈l→b.mark.size+3+A7 b.lots≤pE l
 |y :: l,b,h=>by
  rw[lC];rcases List.mem_cons.1 h with rfl|h
  ·omega
  ·have:=Eu l b h;omega
theorem Dr:∀l:List Bx,3 * l.length≤pE l
 |[]=>aN _
 |x :: l=>by
  have:=Dr l;rw[lC,List.length_cons];omega
theorem DY:∀l:List Bx,3 * (iR l).length≤pE l
 |[]=>aN _
 |x :: l=>by
  have:=DY l;have h2:=yC x.lots;have e:iR (x :: l)=x.lots++iR l:=by unfold iR;rw[List.flatMap_cons]
  rw[lC,e,aM];omega
theorem N9 {l:List Bx}(h:RD l) {b:Bx}(hb:b∈l):D4 b.lots:=by
 have h1:=Eu l b hb;have h2:=yC b.lots;have h3:=h.w;exact⟨by omega,fun x hx=>by have:=JQ _ x hx;omega,fun x hx=>h.c b hb x hx⟩
theorem O6 {l:List Bx}(h:RD l):D4 (iR l):=by
 have h1:=DY l;have h3:=h.w;refine⟨by omega,fun x hx=>?_,fun x hx=>?_⟩
 ·obtain⟨b,hb,hx⟩:=List.mem_flatMap.1 hx;exact(N9 h hb).g x hx
 ·obtain⟨b,hb,hx⟩:=List.mem_flatMap.1 hx;exact h.c b hb x hx
inductive TB:AV→bF→List AV→Nat→Nat→Prop
 |e {m:Nat}:TB (.v (.pointer none)) ⟨#[]⟩ [] 0 m
 |t {o:bF}{xs:List AV}{k m:Nat}(h:rU m ⟨o,xs⟩):0 < k→TB (.ptr 0 0) o xs k m
structure Vu (l:List Bx) where
 k:Nat
 sl:AV
 o:bF
 xs:List AV
 hk:k≤l.length
 h:TB sl o xs k (pE (l.take k) * 1048600)
structure RV (P:bG):Prop where
 ml:cL P 249
 tl:bH P 249 Eo
 sz:bH P 251 LN
 ct:bH P 252 Jj
 we:bH P 56 KJ
 wt:bH P 56 Px
 st:bH P 62 Bn
theorem Id (P:bG) (F:RV P):bL P TQ Ko:=by
 intro args H K hcc;obtain⟨l,rfl,rfl,hp,hK⟩:=hcc;refine⟨cW,?_⟩
 try dsimp only at hK
 have hpw:=hp.w;have hbl:=Dr l;have hal:=DY l;have hml:=bN CO l;have s1:(ByteArray.mk #[32]).size=1:=rfl;obtain⟨n,hnn⟩:∃n,n=l.length:=⟨_,rfl⟩
 cbv;repeat'((first|refine .k fun z hz=>?_|fail)<;>cbv)
 refine iD (Gh.adoptC 0 1 5 1 rfl rfl) ?_;cbv;refine bZ [0,1] (fun q:Vu l=>[(3,.ptr 0 0),(4,.clo 249 [.ptr 0 0]),(10,.i (nI q.k))]) (fun q=>[.blk 133 [q.sl,.hd 1],.row 5 1 q.xs]) (fun q=>iH n q.k) ⟨0,.v (.pointer none),⟨#[]⟩,[],aI _,.e⟩ ?_;rintro ⟨k,sl,o,xs,hk,h⟩
 try dsimp only at hk h⊢
 rcases aL k l.length with hks|hks
 ·obtain⟨⟨mark,kind,lots⟩,hx⟩:=cY hks;have hm:=aC hx;have hlo:=N9 hp hm;have hbm:=Eu l _ hm;have hw1:=yC lots;dsimp only at hlo hbm;have htk:pE (l.take (k+1))=pE (l.take k)+(mark.size+3+A7 lots):=by
   rw[cE hx,Gd,lC];rfl
  have htl:pE (l.take (k+1))≤pE l:=by
   have e:l=l.take (k+1)++l.drop (k+1):=(List.take_append_drop _ _).symm;have:=Gd (l.take (k+1)) (l.drop (k+1));rw[←e]at this;omega
  cases h with
  |e=>
   cbv;repeat'((first|refine .e ?_|refine .y fun h=>?_|refine .u fun u hu hul=>?_|fail)<;>cbv)
   refine bI F.sz kind [] trivial rfl rfl (by decide) rfl rfl rfl rfl rfl fun t ht=>?_
   cbv;repeat'((first|refine .u fun u hu hul=>?_|fail)<;>cbv)
   refine bI F.we u [0,1] ⟨by omega,by omega⟩ rfl rfl (by decide) rfl rfl rfl rfl rfl fun ys hys=>?_
   cbv;repeat'((first|refine And.intro ?_ ?_|fail)<;>cbv)
   ·exact F.ml
   refine bI F.tl ((lots,⟨u,ys⟩):List Lo×OX) [0,1] ⟨hlo,hys,(show u.size≠0 by omega),(show u.size≤8796093022208 by omega)⟩ rfl rfl (by decide) rfl rfl rfl rfl rfl fun k2 hk2=>?_
   obtain⟨o3,xs3⟩:=k2;cbv;repeat'((first|refine .k fun z hz=>?_|fail)<;>cbv)
   obtain rfl:z=nI (0+1):=bR;exact bP ⟨0+1,.ptr 0 0,o3,xs3,by exact bR,.t ⟨hk2.x,hk2.z,by have:=hk2.l;dsimp only at this⊢;omega⟩ (by decide)⟩ (bQ bR)
  |t hT hk0=>
   have hTl:=hT.l;have hTz:=hT.z;have hTx:=hT.x;dsimp only at hTl hTz hTx;cbv;repeat'((first|refine .e ?_|refine .y fun h=>?_|refine .u fun u hu hul=>?_|fail)<;>cbv)
   refine bI F.sz kind [] trivial rfl rfl (by decide) rfl rfl rfl rfl rfl fun t ht=>?_
   cbv;repeat'((first|refine .u fun u hu hul=>?_|fail)<;>cbv)
   refine bI F.wt (⟨o,xs,u⟩:BI) [0,1] ⟨hTx,hTz,(show u.size≠0 by omega),(show o.size+u.size≤140737488355328 by omega)⟩ rfl rfl (by decide) rfl rfl rfl rfl rfl fun ys hys=>?_
   obtain⟨o2,ho2⟩:∃o2,o2=o++u:=⟨_,rfl⟩
   have hz2:o2.size=o.size+u.size:=by rw[ho2];exact ByteArray.size_append
   replace hys:ys=eQ o2:=by rw[ho2];exact hys
   cbv;repeat'((first|refine And.intro ?_ ?_|fail)<;>cbv)
   ·exact F.ml
   refine bI F.tl ((lots,⟨o2,ys⟩):List Lo×OX) [0,1] ⟨hlo,hys,(show o2.size≠0 by omega),(show o2.size≤8796093022208 by omega)⟩ rfl rfl (by decide) rfl rfl rfl rfl rfl fun k2 hk2=>?_
   obtain⟨o3,xs3⟩:=k2;cbv;repeat'((first|refine .k fun z hz=>?_|fail)<;>cbv)
   obtain rfl:z=nI (k+1):=bR;exact bP ⟨k+1,.ptr 0 0,o3,xs3,by exact bR,.t ⟨hk2.x,hk2.z,by have:=hk2.l;dsimp only at this⊢;omega⟩ (by omega)⟩ (bQ bR)
 ·have hke:k=l.length:=by omega
  have hao:=O6 hp;have htk:pE (l.take k)=pE l:=by rw[hke,List.take_length]
  rw[htk]at h;obtain⟨w,hw⟩:∃w:bF,w=⟨#[97,108,108]⟩:=⟨_,rfl⟩
  cases h with
  |e=>
   cbv;repeat'((first|refine .n fun h=>?_|fail)<;>cbv)
   refine bI F.we (⟨#[97,108,108]⟩:bF) [0,1] ⟨(show (3:Nat)≠0 by decide),(show (3:Nat)≤140737488355328 by decide)⟩ rfl rfl (by decide) rfl rfl rfl rfl rfl fun ys hys=>?_
   cbv;refine bI F.ct l [] ⟨by omega,hao⟩ rfl rfl (by decide) rfl rfl rfl rfl rfl fun L hL=>?_
   have hLn:=hL.n;cbv;repeat'((first|refine And.intro ?_ ?_|fail)<;>cbv)
   ·exact F.ml
   refine bI F.tl ((L,⟨⟨#[97,108,108]⟩,ys⟩):List Lo×OX) [0,1] ⟨⟨(show L.length≤524288 by omega),fun x hx=>(hL.g x hx).1,fun x hx=>(hL.g x hx).2⟩,hys,(show (3:Nat)≠0 by decide),(show (3:Nat)≤8796093022208 by decide)⟩ rfl rfl (by decide) rfl rfl rfl rfl rfl fun k2 hk2=>?_
   obtain⟨o3,xs3⟩:=k2;have h3l:=hk2.l;have h3x:=hk2.x;have s3:(ByteArray.mk #[97,108,108]).size=3:=rfl;dsimp only at h3l h3x;have hK:=hK o3 (by omega);cbv
   (refine jR F.st (⟨o3,xs3,⟨#[]⟩⟩:BI) [0,1] h3x ?_;try dsimp only)
   cbv
   (refine .q9 ?_;cbv;exact .inl (.f9 hK))
  |t hT hk0=>
   have hTl:=hT.l;have hTz:=hT.z;have hTx:=hT.x;dsimp only at hTl hTz hTx;cbv;repeat'((first|refine .n fun h=>?_|fail)<;>cbv)
   refine bI F.wt (⟨o,xs,⟨#[97,108,108]⟩⟩:BI) [0,1] ⟨hTx,hTz,(show (3:Nat)≠0 by decide),(show o.size+3≤140737488355328 by omega)⟩ rfl rfl (by decide) rfl rfl rfl rfl rfl fun ys hys=>?_
   obtain⟨o2,ho2⟩:∃o2,o2=o++⟨#[97,108,108]⟩:=⟨_,rfl⟩
   have hz2:o2.size=o.size+3:=by rw[ho2];exact ByteArray.size_append
   replace hys:ys=eQ o2:=by rw[ho2];exact hys
   cbv;refine bI F.ct l [] ⟨by omega,hao⟩ rfl rfl (by decide) rfl rfl rfl rfl rfl fun L hL=>?_
   have hLn:=hL.n;cbv;repeat'((first|refine And.intro ?_ ?_|fail)<;>cbv)
   ·exact F.ml
   refine bI F.tl ((L,⟨o2,ys⟩):List Lo×OX) [0,1] ⟨⟨(show L.length≤524288 by omega),fun x hx=>(hL.g x hx).1,fun x hx=>(hL.g x hx).2⟩,hys,(show o2.size≠0 by omega),(show o2.size≤8796093022208 by omega)⟩ rfl rfl (by decide) rfl rfl rfl rfl rfl fun k2 hk2=>?_
   obtain⟨o3,xs3⟩:=k2;have h3l:=hk2.l;have h3x:=hk2.x;dsimp only at h3l h3x;have hK:=hK o3 (by omega);cbv
   (refine jR F.st (⟨o3,xs3,⟨#[]⟩⟩:BI) [0,1] h3x ?_;try dsimp only)
   cbv
   (refine .q9 ?_;cbv;exact .inl (.f9 hK))
end Go.Proofs.YtooioahiijbomaaGreatDoor
namespace Go.Proofs.YtooioahiijbomaaGreatDoor
open Go.Shelf Go.RowKit
set_option maxRecDepth 100000
def tR:Go.Shelf.Ren:=⟨fun|156=>110|165=>197|166=>56|167=>250|169=>62|240=>108|241=>266|276=>195|277=>308|n=>n,fun|0=>0|3=>3|4=>4|5=>5|9=>9|20=>20|31=>64|37=>131|70=>130|72=>133|75=>135|80=>144|76=>136|127=>218|164=>261|n=>n,fun|n=>n⟩
theorem MK:Lays.n156 Tryz.prog tR:={
 mixed:=by kernel_rfl
 f156:=Tryz.func110.trans (congrArg some (by kernel_rfl))
 f165:=Tryz.func197.trans (congrArg some (by kernel_rfl))
 f166:=Tryz.func56.trans (congrArg some (by kernel_rfl))
 f169:=Tryz.func62.trans (congrArg some (by kernel_rfl))
 f240:=Tryz.func108.trans (congrArg some (by kernel_rfl))
 f241:=Tryz.func266.trans (congrArg some (by kernel_rfl))
 f276:=Tryz.func195.trans (congrArg some (by kernel_rfl))
 f277:=Tryz.func308.trans (congrArg some (by kernel_rfl))
 t0:=Tryz.underlying0
 a0:=Tryz.isAgg0
 z0:=Tryz.sizeOf0
 v0:=Tryz.zeroValue0
 t3:=Tryz.underlying3
 a3:=Tryz.isAgg3
 z3:=Tryz.sizeOf3
 v3:=Tryz.zeroValue3
 t4:=Tryz.underlying4
 a4:=Tryz.isAgg4
 z4:=Tryz.sizeOf4
 v4:=Tryz.zeroValue4
 t9:=Tryz.underlying9
 a9:=Tryz.isAgg9
 z9:=Tryz.sizeOf9
 v9:=Tryz.zeroValue9
 t20:=Tryz.underlying20
 a20:=Tryz.isAgg20
 z20:=Tryz.sizeOf20
 v20:=Tryz.zeroValue20
 t31:=Tryz.underlying64
 a31:=Tryz.isAgg64
 z31:=Tryz.sizeOf64
 v31:=Tryz.zeroValue64
 t37:=Tryz.underlying131
 a37:=Tryz.isAgg131
 z37:=Tryz.sizeOf131
 v37:=Tryz.zeroValue131
 t70:=Tryz.underlying130
 a70:=Tryz.isAgg130
 z70:=Tryz.sizeOf130
 v70:=Tryz.zeroValue130
 t72:=Tryz.underlying133
 a72:=Tryz.isAgg133
 z72:=Tryz.sizeOf133
 v72:=Tryz.zeroValue133
 t75:=Tryz.underlying135
 a75:=Tryz.isAgg135
 z75:=Tryz.sizeOf135
 v75:=Tryz.zeroValue135
 t76:=Tryz.underlying136
 a76:=Tryz.isAgg136
 z76:=Tryz.sizeOf136
 v76:=Tryz.zeroValue136
 t127:=Tryz.underlying218
 a127:=Tryz.isAgg218
 z127:=Tryz.sizeOf218
 v127:=Tryz.zeroValue218
 t164:=Tryz.underlying261
 a164:=Tryz.isAgg261
 z164:=Tryz.sizeOf261
 v164:=Tryz.zeroValue261 }
theorem L8:Lays.n166 Tryz.prog tR:={
 mixed:=by kernel_rfl
 f166:=Tryz.func56.trans (congrArg some (by kernel_rfl))
 f240:=Tryz.func108.trans (congrArg some (by kernel_rfl))
 f276:=Tryz.func195.trans (congrArg some (by kernel_rfl))
 t0:=Tryz.underlying0
 a0:=Tryz.isAgg0
 z0:=Tryz.sizeOf0
 v0:=Tryz.zeroValue0
 t3:=Tryz.underlying3
 a3:=Tryz.isAgg3
 z3:=Tryz.sizeOf3
 v3:=Tryz.zeroValue3
 t4:=Tryz.underlying4
 a4:=Tryz.isAgg4
 z4:=Tryz.sizeOf4
 v4:=Tryz.zeroValue4
 t9:=Tryz.underlying9
 a9:=Tryz.isAgg9
 z9:=Tryz.sizeOf9
 v9:=Tryz.zeroValue9
 t20:=Tryz.underlying20
 a20:=Tryz.isAgg20
 z20:=Tryz.sizeOf20
 v20:=Tryz.zeroValue20
 t37:=Tryz.underlying131
 a37:=Tryz.isAgg131
 z37:=Tryz.sizeOf131
 v37:=Tryz.zeroValue131
 t70:=Tryz.underlying130
 a70:=Tryz.isAgg130
 z70:=Tryz.sizeOf130
 v70:=Tryz.zeroValue130
 t72:=Tryz.underlying133
 a72:=Tryz.isAgg133
 z72:=Tryz.sizeOf133
 v72:=Tryz.zeroValue133
 t75:=Tryz.underlying135
 a75:=Tryz.isAgg135
 z75:=Tryz.sizeOf135
 v75:=Tryz.zeroValue135
 t164:=Tryz.underlying261
 a164:=Tryz.isAgg261
 z164:=Tryz.sizeOf261
 v164:=Tryz.zeroValue261 }
theorem M6:Lays.n169 Tryz.prog tR:={
 mixed:=by kernel_rfl
 f169:=Tryz.func62.trans (congrArg some (by kernel_rfl))
 t0:=Tryz.underlying0
 a0:=Tryz.isAgg0
 z0:=Tryz.sizeOf0
 v0:=Tryz.zeroValue0
 t3:=Tryz.underlying3
 a3:=Tryz.isAgg3
 z3:=Tryz.sizeOf3
 v3:=Tryz.zeroValue3
 t9:=Tryz.underlying9
 a9:=Tryz.isAgg9
 z9:=Tryz.sizeOf9
 v9:=Tryz.zeroValue9
 t37:=Tryz.underlying131
 a37:=Tryz.isAgg131
 z37:=Tryz.sizeOf131
 v37:=Tryz.zeroValue131
 t70:=Tryz.underlying130
 a70:=Tryz.isAgg130
 z70:=Tryz.sizeOf130
 v70:=Tryz.zeroValue130
 t72:=Tryz.underlying133
 a72:=Tryz.isAgg133
 z72:=Tryz.sizeOf133
 v72:=Tryz.zeroValue133
 t127:=Tryz.underlying218
 a127:=Tryz.isAgg218
 z127:=Tryz.sizeOf218
 v127:=Tryz.zeroValue218 }
theorem Nn:Lays.n167 Tryz.prog tR:={
 mixed:=by kernel_rfl
 f167:=Tryz.func250.trans (congrArg some (by kernel_rfl))
 f240:=Tryz.func108.trans (congrArg some (by kernel_rfl))
 f276:=Tryz.func195.trans (congrArg some (by kernel_rfl))
 t0:=Tryz.underlying0
 a0:=Tryz.isAgg0
 z0:=Tryz.sizeOf0
 v0:=Tryz.zeroValue0
 t4:=Tryz.underlying4
 a4:=Tryz.isAgg4
 z4:=Tryz.sizeOf4
 v4:=Tryz.zeroValue4
 t5:=Tryz.underlying5
 a5:=Tryz.isAgg5
 z5:=Tryz.sizeOf5
 v5:=Tryz.zeroValue5
 t9:=Tryz.underlying9
 a9:=Tryz.isAgg9
 z9:=Tryz.sizeOf9
 v9:=Tryz.zeroValue9
 t20:=Tryz.underlying20
 a20:=Tryz.isAgg20
 z20:=Tryz.sizeOf20
 v20:=Tryz.zeroValue20
 t37:=Tryz.underlying131
 a37:=Tryz.isAgg131
 z37:=Tryz.sizeOf131
 v37:=Tryz.zeroValue131
 t70:=Tryz.underlying130
 a70:=Tryz.isAgg130
 z70:=Tryz.sizeOf130
 v70:=Tryz.zeroValue130
 t72:=Tryz.underlying133
 a72:=Tryz.isAgg133
 z72:=Tryz.sizeOf133
 v72:=Tryz.zeroValue133
 t75:=Tryz.underlying135
 a75:=Tryz.isAgg135
 z75:=Tryz.sizeOf135
 v75:=Tryz.zeroValue135
 t164:=Tryz.underlying261
 a164:=Tryz.isAgg261
 z164:=Tryz.sizeOf261
 v164:=Tryz.zeroValue261 }
theorem NO:Builder.Extra Tryz.prog tR:={
 sizeBuilder:=by kernel_rfl
 liesBuilder:=by kernel_rfl
 t5:=Tryz.underlying5
 a5:=Tryz.isAgg5
 z5:=Tryz.sizeOf5
 v5:=Tryz.zeroValue5
 infoByte:=by kernel_rfl
 cellsByte:=by kernel_rfl
 sizeByte:=by kernel_rfl
 neB5:=by decide }
theorem iI:bH Tryz.prog 56 Db:=AN L8 NO
theorem Kj:bH Tryz.prog 250 FC:=Ap Nn NO
theorem nG:bH Tryz.prog 62 Ad:=Ay M6 NO
theorem uR:bH Tryz.prog 110 xH:=LV MK NO
end Go.Proofs.YtooioahiijbomaaGreatDoor
namespace Go.Proofs.YtooioahiijbomaaGreatDoor
open Go.RowKit Go.Shelf
set_option maxHeartbeats 2000000
set_option maxRecDepth 100000
def Kq:Go.Shelf.Ren:=⟨fun|15=>235|20=>290|n=>n,fun|0=>0|3=>3|4=>4|9=>9|21=>21|23=>285|n=>n,fun|n=>n⟩
theorem Te:LaysGw.n15 Tryz.prog Kq:={
 mixed:=by kernel_rfl
 f15:=Tryz.func235.trans (congrArg some (by kernel_rfl))
 f20:=Tryz.func290.trans (congrArg some (by kernel_rfl))
 t0:=Tryz.underlying0
 a0:=Tryz.isAgg0
 z0:=Tryz.sizeOf0
 v0:=Tryz.zeroValue0
 i0:=by kernel_rfl
 t3:=Tryz.underlying3
 a3:=Tryz.isAgg3
 z3:=Tryz.sizeOf3
 v3:=Tryz.zeroValue3
 i3:=by kernel_rfl
 t4:=Tryz.underlying4
 a4:=Tryz.isAgg4
 z4:=Tryz.sizeOf4
 v4:=Tryz.zeroValue4
 i4:=by kernel_rfl
 t9:=Tryz.underlying9
 a9:=Tryz.isAgg9
 z9:=Tryz.sizeOf9
 v9:=Tryz.zeroValue9
 i9:=by kernel_rfl
 t21:=Tryz.underlying21
 a21:=Tryz.isAgg21
 z21:=Tryz.sizeOf21
 v21:=Tryz.zeroValue21
 i21:=by kernel_rfl
 t23:=Tryz.underlying285
 a23:=Tryz.isAgg285
 z23:=Tryz.sizeOf285
 v23:=Tryz.zeroValue285
 i23:=by kernel_rfl }
theorem Ic (x:Nat) (W:World) (hx:x≤1114111):Calls Tryz.prog 236 #[.int .i32 x] W fun e w'=>e=.returned (.bool (Gn x))∧∃q,w'=W.drewN q:=by
 unfold Gn;by_cases h1:x < 48
 ·go_enter Tryz.func236,Tryz.ntmps236
  go_wp2
  go_ret
  exact⟨by simp[h1],0,rfl⟩
 ·go_enter Tryz.func236,Tryz.ntmps236
  go_wp2
  go_ret
  exact⟨by
   simp only[Nat.not_lt]at h1;have e1:decide (x < 48)=false:=aG (by omega);have e2:decide ((x:Int) < 48)=false:=aG (by omega);have e3:decide ((57:Int) < x)=decide (57 < x):=by rw[Bool.eq_iff_iff,decide_eq_true_iff,decide_eq_true_iff];omega
   simp[e1,e2,e3],0,rfl⟩
theorem QH:bH Tryz.prog 235 NS:=Bc fun s _ pub w vals hv=>by
 obtain⟨us,h1,hv⟩:=bO.str_inv hv |>.imp fun _ h=>h
 obtain⟨u2,us2,h2,hu2,hnil⟩:=hv.cons_inv;have hn0:=hnil.nil_inv;subst hn0;have hc2:u2=.func (.func 236) #[] #[]:=by
  cases hu2 with
  |clo f hl h=>
   rename_i a;have:a=#[]:=Array.eq_empty_of_size_eq_zero (by simpa using hl);rw[this]
 subst hc2;obtain rfl:vals=#[.string s,.func (.func 236) #[] #[]]:=Array.toList_inj.1 (by rw[h1,h2]);have hC:=Any.strings_IndexFunc_runes Te 236 #[] (enters_of Tryz.func236 (by kernel_rfl) rfl) Gn s w (fun W x hx _=>Ic x W hx);exact hC.mono fun e w' ⟨he,hb⟩=>⟨hb,_,he,fun _ _=>.int _ _⟩
end Go.Proofs.YtooioahiijbomaaGreatDoor
namespace Go.Proofs.YtooioahiijbomaaGreatDoor
open Go.RowKit
set_option maxRecDepth 100000
theorem BV:bH Tryz.prog 43 kP:=bJ (by kernel_rfl) (Ba _ CK)
theorem sQ:bH Tryz.prog 173 kP:=bJ (by kernel_rfl) (DJ _ zO)
theorem WQ:bH Tryz.prog 89 mB:=bJ (by kernel_rfl) (B4 _)
theorem Oa:bH Tryz.prog 84 Mt:=bJ (by kernel_rfl) (Kt _ BV sQ WQ)
theorem FV:bH Tryz.prog 87 Aw:=bJ (by kernel_rfl) (C4 _ uR)
theorem Ng:bH Tryz.prog 249 Eo:=bJ (by kernel_rfl) (Dx _ zO (wN iI) (RB 10 Kj))
theorem Qk:bH Tryz.prog 251 LN:=bJ (by kernel_rfl) (HW _)
theorem Ki:bH Tryz.prog 319 Ah:=bJ (by kernel_rfl) (BX _)
theorem KL:bH Tryz.prog 318 yM:=bJ (by kernel_rfl) (Ch _ Ih)
theorem MA:bH Tryz.prog 297 El:=bJ (by kernel_rfl) (Dp _ Ki KL)
theorem Hp:bH Tryz.prog 252 Jj:=bJ (by kernel_rfl) (xT _ MA)
theorem Pz:bH Tryz.prog 174 Ko:=bJ (by kernel_rfl) (Id _ ⟨⟨by kernel_rfl⟩,Ng,Qk,Hp,(Ac iI),(wN iI),(sN nG)⟩)
theorem NV:bH Tryz.prog 85 Nb:=bJ (by kernel_rfl) (Lr _ sQ FV Pz WQ)
theorem Oe:bH Tryz.prog 88 NE:=bJ (by kernel_rfl) (Lm _ sQ WQ)
theorem Kv:bH Tryz.prog 186 Pd:=bJ (by kernel_rfl) (CG _)
theorem O8:bH Tryz.prog 185 KC:=bJ (by kernel_rfl) (H6 _ ⟨by kernel_rfl⟩ Kv)
theorem F8:bH Tryz.prog 97 An:=bJ (by kernel_rfl) (CZ _ O8)
theorem oT:bH Tryz.prog 40 vU:=bJ (by kernel_rfl) (JH _ F8)
theorem RL:bH Tryz.prog 86 Sf:=bJ (by kernel_rfl) (NP _)
theorem ME:bH Tryz.prog 83 Eh:=bJ (by kernel_rfl) (Dl _ oT RL)
theorem Py:bH Tryz.prog 82 K6:=bJ (by kernel_rfl) (Hw _)
theorem aeU:bH Tryz.prog 29 Fz:=bJ (by kernel_rfl) (Ie _ ⟨Oa,NV,Oe,ME,Py,RL,FV⟩)
theorem PK:bH Tryz.prog 7 Lc:=bJ (by kernel_rfl) (Hl _ aeU)
theorem DP:bH Tryz.prog 283 (xA tS):=bJ (by kernel_rfl) (wI _)
theorem Gy:bH Tryz.prog 284 (xA qM):=bJ (by kernel_rfl) (zS _)
theorem afM:bH Tryz.prog 222 (DG (fun _=>True) Wt):=bJ (by kernel_rfl) (Ir _ DP Gy)
theorem adF:bH Tryz.prog 79 (xA CN):=bJ (by kernel_rfl) (Ct _)
theorem MX:bH Tryz.prog 78 (yI 79 CN):=bJ (by kernel_rfl) (pP _ 79 CN ⟨by kernel_rfl⟩ adF)
theorem J3:bH Tryz.prog 234 (xA qM):=bJ (by kernel_rfl) (BR _)
theorem A4:bH Tryz.prog 163 (xA AE):=bJ (by kernel_rfl) (BF _ J3)
theorem AQ:bH Tryz.prog 165 (xA AG):=bJ (by kernel_rfl) (Cw _)
theorem MV:bH Tryz.prog 78 (yI 163 AE):=bJ (by kernel_rfl) (pP _ 163 AE ⟨by kernel_rfl⟩ A4)
theorem Mp:bH Tryz.prog 78 (yI 165 AG):=bJ (by kernel_rfl) (pP _ 165 AG ⟨by kernel_rfl⟩ AQ)
theorem GF:bH Tryz.prog 237 Ee:=bJ (by kernel_rfl) (yK _)
theorem AO:bH Tryz.prog 238 (DG (fun _=>True) Dw):=bJ (by kernel_rfl) (vR _)
theorem JM:bH Tryz.prog 164 aeI:=bJ (by kernel_rfl) (Bf _ QH GF AO afM)
theorem afH:bH Tryz.prog 239 (xA Dz):=bJ (by kernel_rfl) (CF _)
theorem Nu:bH Tryz.prog 78 (yI 239 Dz):=bJ (by kernel_rfl) (pP _ 239 Dz ⟨by kernel_rfl⟩ afH)
theorem Jk:bH Tryz.prog 166 (Qz uY):=bJ (by kernel_rfl) (Bz _ ⟨by kernel_rfl⟩ Nu)
theorem P8:bH Tryz.prog 167 (Qz rN):=bJ (by kernel_rfl) (GM _)
theorem PX:bH Tryz.prog 80 ahB:=bJ (by kernel_rfl) (Hr _ ⟨⟨by kernel_rfl⟩,A4,⟨by kernel_rfl⟩,AQ,MV,Mp,JM,Jk,P8⟩)
theorem Jw:bH Tryz.prog 27 Fq:=bJ (by kernel_rfl) (Im _ ⟨by kernel_rfl⟩ MX PX)
theorem Yx:bH Tryz.prog 223 XQ:=bJ (by kernel_rfl) (Yh _)
theorem XF:bH Tryz.prog 141 Zw:=bJ (by kernel_rfl) (X0 _ afM Jw Yx)
theorem acY:bH Tryz.prog 142 adD:=bJ (by kernel_rfl) (X4 _ Jw)
theorem wX:bH Tryz.prog 143 Mc:=bJ (by kernel_rfl) (yZ _)
theorem YR:bH Tryz.prog 201 aeE:=bJ (by kernel_rfl) (XC _)
theorem GU:bH Tryz.prog 149 O4:=bJ (by kernel_rfl) (yX _)
theorem YI:bH Tryz.prog 225 anK:=bJ (by kernel_rfl) (XD _)
theorem alC:bH Tryz.prog 285 akC:=bJ (by kernel_rfl) (abA _ YI)
theorem amJ:bH Tryz.prog 267 anM:=bJ (by kernel_rfl) (aaG _ ⟨by kernel_rfl⟩ alC)
theorem anX:bH Tryz.prog 198 alF:=bJ (by kernel_rfl) (ZV _ amJ)
theorem Xx:bH Tryz.prog 225 aiE:=bJ (by kernel_rfl) (XB _ anX)
theorem ZW:bH Tryz.prog 200 afB:=bJ (by kernel_rfl) (XR _)
theorem Yj:bH Tryz.prog 111 alO:=bJ (by kernel_rfl) (Xj _ XF ZW)
theorem amB:bH Tryz.prog 199 aoJ:=bJ (by kernel_rfl) (abR _ Yj)
theorem akH:bH Tryz.prog 267 akE:=bJ (by kernel_rfl) (acB _ ⟨by kernel_rfl⟩ amB)
theorem akM:bH Tryz.prog 198 amH:=bJ (by kernel_rfl) (aaK _ akH)
theorem W8:bH Tryz.prog 111 aiR:=bJ (by kernel_rfl) (Xt _ akM)
theorem Y4:bH Tryz.prog 146 NmX:=bJ (by kernel_rfl) (Xz _ ⟨YR,wX,GU,Xx,W8⟩)
theorem amN:bH Tryz.prog 145 anJ:=bJ (by kernel_rfl) (aaN _ Y4)
theorem ahS:bH Tryz.prog 224 agK:=bJ (by kernel_rfl) (Zo _ ⟨by kernel_rfl⟩ amN)
theorem aiQ:bH Tryz.prog 144 afI:=bJ (by kernel_rfl) (YZ _ ahS)
theorem XV:bH Tryz.prog 74 YS:=bJ (by kernel_rfl) (Xc _ ⟨XF,acY,wX,aiQ⟩)
theorem adK:bH Tryz.prog 147 akO:=bJ (by kernel_rfl) (Yn _ uR (Ac iI))
theorem afN:bH Tryz.prog 147 anN:=bJ (by kernel_rfl) (Ye _ uR (wN iI))
theorem Nt:bH Tryz.prog 148 T5:=bJ (by kernel_rfl) (Ei _)
theorem acX:bH Tryz.prog 112 ahA:=bJ (by kernel_rfl) (XY _ CK (Ac iI))
theorem aiS:bH Tryz.prog 203 adO:=bJ (by kernel_rfl) (Zc _ acX)
theorem abD:bH Tryz.prog 112 agX:=bJ (by kernel_rfl) (XT _ CK (wN iI))
theorem aiX:bH Tryz.prog 203 agN:=bJ (by kernel_rfl) (Zk _ abD)
theorem ajY:bH Tryz.prog 202 RwX:=bJ (by kernel_rfl) (ZP _ (wN iI) aiS aiX)
theorem adL:bH Tryz.prog 112 alP:=bJ (by kernel_rfl) (Yc _ ajY)
theorem aiT:bH Tryz.prog 59 adW:=bJ (by kernel_rfl) (YL _ W8 adL (sN nG))
theorem adS:bH Tryz.prog 75 akS:=bJ (by kernel_rfl) (YE _ ⟨⟨by kernel_rfl⟩,adK,afN,CK,zO,Nt,GU,aiT,(sN nG)⟩)
theorem Yi:bH Tryz.prog 25 XP:=bJ (by kernel_rfl) (Yz _ XV adS)
theorem aeB:bH Tryz.prog 30 ahR:=bJ (by kernel_rfl) (acW _ Yi)
theorem QI:bH Tryz.prog 90 PL:=bJ (by kernel_rfl) (Ll _ sQ uR WQ)
theorem Cd:bH Tryz.prog 53 sP:=bJ (by kernel_rfl) (Cq _)
theorem M4:bH Tryz.prog 36 C5:=bJ (by kernel_rfl) (DH _ Cd)
theorem aeH:bH Tryz.prog 32 yB:=bJ (by kernel_rfl) (Bw _ Oa NV QI Oe M4)
theorem QV:bH Tryz.prog 31 Oj:=bJ (by kernel_rfl) (LC _ BV WQ)
theorem acG:bH Tryz.prog 8 XS:=bJ (by kernel_rfl) (X6 _ aeU aeB aeH QV)
theorem amD:bH Tryz.prog 76 alR:=bJ (by kernel_rfl) (acV _ Jw)
theorem WP:bH Tryz.prog 152 MkW:=bJ (by kernel_rfl) (agI _)
theorem WB:bH Tryz.prog 230 MkS:=bJ (by kernel_rfl) (adM _)
theorem WK:bH Tryz.prog 228 MkK:=bJ (by kernel_rfl) (afC _)
theorem aiO:bH Tryz.prog 123 adN:=bJ (by kernel_rfl) (Y3 _)
theorem XU:bH Tryz.prog 64 Yv:=bJ (by kernel_rfl) (Zp _ aiO)
theorem ajQ:bH Tryz.prog 227 aoV:=bJ (by kernel_rfl) (abG _ XU)
theorem akD:bH Tryz.prog 226 anL:=bJ (by kernel_rfl) (aaW _ ⟨by kernel_rfl⟩ ajQ)
theorem Wk:bH Tryz.prog 151 ZL:=bJ (by kernel_rfl) (Zr _ akD)
theorem Wp:bH Tryz.prog 155 adU:=bJ (by kernel_rfl) (Ze _ Wk)
theorem aeD:bH Tryz.prog 287 aiD:=bJ (by kernel_rfl) (acR _ XU)
theorem alV:bH Tryz.prog 226 akI:=bJ (by kernel_rfl) (aaQ _ ⟨by kernel_rfl⟩ aeD)
theorem Wj:bH Tryz.prog 151 ZF:=bJ (by kernel_rfl) (Y2 _ alV)
theorem Wh:bH Tryz.prog 155 ZB:=bJ (by kernel_rfl) (YV _ Wj)
theorem akZ:bH Tryz.prog 286 amE:=bJ (by kernel_rfl) (aaB _)
theorem anO:bH Tryz.prog 226 ajS:=bJ (by kernel_rfl) (acA _ ⟨by kernel_rfl⟩ akZ)
theorem ahX:bH Tryz.prog 151 afF:=bJ (by kernel_rfl) (Zv _ anO)
theorem Wi:bH Tryz.prog 155 ZD:=bJ (by kernel_rfl) (Y9 _ ahX)
theorem akW:bH Tryz.prog 226 amZ:=bJ (by kernel_rfl) (aaH _ ⟨by kernel_rfl⟩ (aiG Yx))
theorem ahT:bH Tryz.prog 151 agW:=bJ (by kernel_rfl) (YN _ akW)
theorem Wm:bH Tryz.prog 155 afY:=bJ (by kernel_rfl) (YJ _ ahT)
theorem XL:bH Tryz.prog 231 ZN:=bJ (by kernel_rfl) (X1 _)
theorem aoG:bH Tryz.prog 232 alN:=bJ (by kernel_rfl) (aaV _ XL)
theorem aoH:bH Tryz.prog 226 alQ:=bJ (by kernel_rfl) (ZY _ ⟨by kernel_rfl⟩ aoG)
theorem Wl:bH Tryz.prog 151 ZE:=bJ (by kernel_rfl) (Y0 _ aoH)
theorem Wn:bH Tryz.prog 155 afP:=bJ (by kernel_rfl) (Zm _ Wl)
theorem anS:bH Tryz.prog 333 akX:=bJ (by kernel_rfl) (abS _ WB ⟨by kernel_rfl⟩ aeD)
theorem ajZ:bH Tryz.prog 226 alT:=bJ (by kernel_rfl) (abX _ ⟨by kernel_rfl⟩ anS)
theorem ahN:bH Tryz.prog 151 afT:=bJ (by kernel_rfl) (Zl _ ajZ)
theorem Wr:bH Tryz.prog 155 aeA:=bJ (by kernel_rfl) (Zi _ ahN)
theorem WO:bH Tryz.prog 157 amK:=bJ (by kernel_rfl) (agC _ WB Wh)
theorem ajK:bH Tryz.prog 161 PlX:=bJ (by kernel_rfl) (aeW _)
theorem Wu:bH Tryz.prog 229 ahU:=bJ (by kernel_rfl) (ZQ _ ajK WK Wi alH)
theorem aiH:bH Tryz.prog 150 aeK:=bJ (by kernel_rfl) (YT _ ⟨WP,WB,WK,Wp,Wh,Wi,Wm,Wn,Wr,Wk,Wj,Wl,WO,Wu⟩)
theorem ajT:bH Tryz.prog 153 anT:=bJ (by kernel_rfl) (acL _ ⟨WP,WB,WK,Wp,Wh,Wi,Wm,Wn,Wr,Wk,Wj,Wl,WO,Wu⟩)
theorem X7:bH Tryz.prog 156 X9:=bJ (by kernel_rfl) (Zg _ Wu)
theorem alZ:bH Tryz.prog 154 amY:=bJ (by kernel_rfl) (abO _ ⟨WP,WB,WK,Wp,Wh,Wi,Wm,Wn,Wr,Wk,Wj,Wl,WO,Wu⟩ X7)
theorem alI:bH Tryz.prog 158 amM:=bJ (by kernel_rfl) (aaL _ ⟨WP,WB,WK,Wp,Wh,Wi,Wm,Wn,Wr,Wk,Wj,Wl,WO,Wu⟩ X7)
theorem aoU:bH Tryz.prog 159 anG:=bJ (by kernel_rfl) (abQ _ ⟨WP,WB,WK,Wp,Wh,Wi,Wm,Wn,Wr,Wk,Wj,Wl,WO,Wu⟩)
theorem ahF:bH Tryz.prog 334 agD:=bJ (by kernel_rfl) (YX _ ⟨WP,WB,WK,Wp,Wh,Wi,Wm,Wn,Wr,Wk,Wj,Wl,WO,Wu⟩)
theorem aoI:bH Tryz.prog 324 alS:=bJ (by kernel_rfl) (Z5 _ ⟨WP,WB,WK,Wp,Wh,Wi,Wm,Wn,Wr,Wk,Wj,Wl,WO,Wu⟩ ahF)
theorem ahH:bH Tryz.prog 314 afD:=bJ (by kernel_rfl) (YU _ ⟨WP,WB,WK,Wp,Wh,Wi,Wm,Wn,Wr,Wk,Wj,Wl,WO,Wu⟩ ⟨by kernel_rfl⟩ aoI)
theorem aoC:bH Tryz.prog 315 akA:=bJ (by kernel_rfl) (acD _ ahH)
theorem aiC:bH Tryz.prog 314 adV:=bJ (by kernel_rfl) (Y6 _ ⟨WP,WB,WK,Wp,Wh,Wi,Wm,Wn,Wr,Wk,Wj,Wl,WO,Wu⟩ ⟨by kernel_rfl⟩ aoC)
theorem aiF:bH Tryz.prog 288 afE:=bJ (by kernel_rfl) (YP _ aiC)
theorem amP:bH Tryz.prog 267 amS:=bJ (by kernel_rfl) (acI _)
theorem anI:bH Tryz.prog 198 alA:=bJ (by kernel_rfl) (abU _ amP)
theorem ahO:bH Tryz.prog 289 agA:=bJ (by kernel_rfl) (YM _ anI)
theorem anC:bH Tryz.prog 267 aoN:=bJ (by kernel_rfl) (abW _ ⟨by kernel_rfl⟩ ahO)
theorem aoT:bH Tryz.prog 198 ajV:=bJ (by kernel_rfl) (Z4 _ anC)
theorem aiW:bH Tryz.prog 289 aeJ:=bJ (by kernel_rfl) (Y5 _ aoT)
theorem alX:bH Tryz.prog 233 ajN:=bJ (by kernel_rfl) (abM _ ajK aiF Xx aiW)
theorem ahE:bH Tryz.prog 162 agQ:=bJ (by kernel_rfl) (YK _ ⟨WP,WB,WK,Wp,Wh,Wi,Wm,Wn,Wr,Wk,Wj,Wl,WO,Wu⟩ XL alX)
theorem aoF:bH Tryz.prog 77 alJ:=bJ (by kernel_rfl) (aaS _ ⟨⟨WP,WB,WK,Wp,Wh,Wi,Wm,Wn,Wr,Wk,Wj,Wl,WO,Wu⟩,aiH,ajT,alZ,X7,alI,aoU,ahE⟩)
theorem agT:bH Tryz.prog 26 Zn:=bJ (by kernel_rfl) (X8 _ amD aoF)
theorem ajP:bH Tryz.prog 68 anR:=bJ (by kernel_rfl) (abY _)
theorem aoM:bH Tryz.prog 69 anU:=bJ (by kernel_rfl) (abB _)
theorem alL:bH Tryz.prog 214 anE:=bJ (by kernel_rfl) (aaD _)
theorem akN:bH Tryz.prog 124 aoP:=bJ (by kernel_rfl) (acC _ alL)
theorem amI:bH Tryz.prog 214 amV:=bJ (by kernel_rfl) (aaF _ ⟨by kernel_rfl⟩ akN)
theorem ajU:bH Tryz.prog 124 akP:=bJ (by kernel_rfl) (abT _ amI)
theorem apR:bH Tryz.prog 71 SnX:=bJ (by kernel_rfl) (aeQ _ ajU)
theorem amQ:bH Tryz.prog 70 amL:=bJ (by kernel_rfl) (Z0 _ ⟨by kernel_rfl⟩ apR)
theorem aiL:bH Tryz.prog 23 adR:=bJ (by kernel_rfl) (YY _ ⟨by kernel_rfl⟩ ⟨by kernel_rfl⟩ ajP aoM amQ)
theorem akF:bH Tryz.prog 168 anZ:=bJ (by kernel_rfl) (abN _)
theorem aeY:bH Tryz.prog 240 ahV:=bJ (by kernel_rfl) (abL _)
theorem aeL:bH Tryz.prog 240 aiN:=bJ (by kernel_rfl) (acP _)
theorem alY:bH Tryz.prog 291 akR:=bJ (by kernel_rfl) (abJ _)
theorem agZ:bH Tryz.prog 241 ahJ:=bJ (by kernel_rfl) (aaA _ alY XU)
theorem anP:bH Tryz.prog 242 aoS:=bJ (by kernel_rfl) (ZU _ agZ)
theorem agH:bH Tryz.prog 243 ahY:=bJ (by kernel_rfl) (abC _ kX)
theorem anF:bH Tryz.prog 171 aoQ:=bJ (by kernel_rfl) (aaI _ agZ anP agH)
theorem ajR:bH Tryz.prog 170 alM:=bJ (by kernel_rfl) (aaE _ anF)
theorem aiB:bH Tryz.prog 169 aeV:=bJ (by kernel_rfl) (Zs _ aeL ⟨by kernel_rfl⟩ ajR)
theorem ahK:bH Tryz.prog 169 aeC:=bJ (by kernel_rfl) (Y1 _ aeY aiB)
theorem amW:bH Tryz.prog 245 amX:=bJ (by kernel_rfl) (abK _)
theorem alU:bH Tryz.prog 292 aoD:=bJ (by kernel_rfl) (aaY _ amW)
theorem afX:bH Tryz.prog 245 ahM:=bJ (by kernel_rfl) (aaU _ alU)
theorem aoE:bH Tryz.prog 246 akT:=bJ (by kernel_rfl) (abV _)
theorem anY:bH Tryz.prog 247 ajW:=bJ (by kernel_rfl) (aaJ _ aeL ⟨by kernel_rfl⟩ aoE)
theorem akV:bH Tryz.prog 293 alK:=bJ (by kernel_rfl) (aaZ _)
theorem anV:bH Tryz.prog 247 amF:=bJ (by kernel_rfl) (aaC _ aeY afX anY akV)
theorem aoL:bH Tryz.prog 296 alD:=bJ (by kernel_rfl) (acO _ agH)
theorem akG:bH Tryz.prog 295 aoR:=bJ (by kernel_rfl) (abH _ aoL)
theorem ajM:bH Tryz.prog 317 amC:=bJ (by kernel_rfl) (acU _ ⟨by kernel_rfl⟩ akG)
theorem alG:bH Tryz.prog 294 anQ:=bJ (by kernel_rfl) (acF _ ajM)
theorem akY:bH Tryz.prog 248 aoA:=bJ (by kernel_rfl) (abZ _ alG)
theorem aiI:bH Tryz.prog 172 aeM:=bJ (by kernel_rfl) (Zb _ afX anV akY)
theorem alB:bH Tryz.prog 81 aoB:=bJ (by kernel_rfl) (ZZ _ ⟨by kernel_rfl⟩ akF ahK aiI)
theorem aiA:bH Tryz.prog 28 adI:=bJ (by kernel_rfl) (Zd _ aeB alB)
theorem R4:bH Tryz.prog 175 OD:=bJ (by kernel_rfl) (KV _)
theorem Rs:bH Tryz.prog 176 OV:=bJ (by kernel_rfl) (Jt _)
theorem qD:bH Tryz.prog 33 tZ:=bJ (by kernel_rfl) (GG _)
theorem Oi:bH Tryz.prog 177 J1:=bJ (by kernel_rfl) (GQ _ oT ⟨by kernel_rfl⟩ Rs ⟨by kernel_rfl⟩ qD)
theorem RG:bH Tryz.prog 298 OA:=bJ (by kernel_rfl) (KK _)
theorem N1:bH Tryz.prog 253 NH:=bJ (by kernel_rfl) (Li _ RG)
theorem NG:bH Tryz.prog 254 Zu:=bJ (by kernel_rfl) (DE _)
theorem JI:bH Tryz.prog 179 rR:=bJ (by kernel_rfl) (GE _ N1 NG)
theorem Ke:bH Tryz.prog 255 zG:=bJ (by kernel_rfl) (A5 _)
theorem EY:bH Tryz.prog 180 rR:=bJ (by kernel_rfl) (DW _ N1 Ke)
theorem Qb:bH Tryz.prog 178 (KA 178 mF):=bJ (by kernel_rfl) (GD _ kX JI EY)
theorem afL:bH Tryz.prog 177 (BK 178 mF):=bJ (by kernel_rfl) (wO _ 178 mF oT ⟨by kernel_rfl⟩ Qb ⟨by kernel_rfl⟩ qD)
theorem Et:bH Tryz.prog 91 qI:=bJ (by kernel_rfl) (wF _ ⟨by kernel_rfl⟩ R4 Oi afL)
theorem QW:bH Tryz.prog 182 Ov:=bJ (by kernel_rfl) (Lw _)
theorem PQ:bH Tryz.prog 181 (KA 181 nV):=bJ (by kernel_rfl) (Ii _ kX QW)
theorem Kl:bH Tryz.prog 177 (BK 181 nV):=bJ (by kernel_rfl) (wO _ 181 nV oT ⟨by kernel_rfl⟩ PQ ⟨by kernel_rfl⟩ qD)
theorem G2:bH Tryz.prog 92 yA:=bJ (by kernel_rfl) (Av _ Kl)
theorem Pk:bH Tryz.prog 184 KQ:=bJ (by kernel_rfl) (HH _ kX)
theorem AB:bH Tryz.prog 95 uF:=bJ (by kernel_rfl) (D5 _ oT Pk)
theorem KE:bH Tryz.prog 96 DN:=bJ (by kernel_rfl) (BM _)
theorem Qj:bH Tryz.prog 94 Jq:=bJ (by kernel_rfl) (Hc _ AB KE ⟨by kernel_rfl⟩ qD)
theorem JR:bH Tryz.prog 93 yY:=bJ (by kernel_rfl) (Bp _ ⟨by kernel_rfl⟩ Qj)
theorem adX:bH Tryz.prog 93 Aa:=bJ (by kernel_rfl) (CB _ JR)
theorem L0:bH Tryz.prog 34 CX:=bJ (by kernel_rfl) (Er _ Et G2 adX)
theorem JL:bH Tryz.prog 35 Ag:=bJ (by kernel_rfl) (Cx _ oT ⟨by kernel_rfl⟩ qD)
theorem jF:bH Tryz.prog 10 iO:=bJ (by kernel_rfl) (As _ L0 JL ⟨by kernel_rfl⟩ qD)
theorem Ol:bH Tryz.prog 9 afU:=bJ (by kernel_rfl) (Ho _ jF)
theorem atR:bH Tryz.prog 6 TlC:=bJ (by kernel_rfl) (aiU _ ⟨PK,acG,Yi,agT,Jw,aiL,aiA,Ol⟩ apF)
end Go.Proofs.YtooioahiijbomaaGreatDoor
end
