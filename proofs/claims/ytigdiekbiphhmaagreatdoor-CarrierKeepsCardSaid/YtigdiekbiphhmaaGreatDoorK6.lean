/-
  Texts of this proof,joined: CPE,CPF,CPG,CPH,CPI,CPJ,CPK,CLZ,CWA,CWB,CWC,CWD,CWE,CWF,NumLaw,CWI,CLB,VBJ,VBD,CWG,CWH,VQ,VU,VW,VX,VY.
-/
import Derived.Test.YtigdiekbiphhmaaGreatDoorK5
import Derived.Shelf.SlIter.Keys
import Derived.Shelf.SlIter.Sorted
import Derived.KernelRfl
import Derived.Test.YtigdiekbiphhmaaGreatDoorChecked
import Derived.Lib.ParseIntBCases
import Derived.Lib.ItoaMem
import Derived.Shelf.Strconv.Itoa4
import Derived.Lib.Walk
import Derived.Lib.AppendIntMem
import Derived.WalkKit
import Derived.BigCall
import Derived.BigGuard
import Derived.Shelf.Strings.OnBuilder
import Derived.Shelf.Strings.Builder1
set_option linter.unusedVariables false
set_option linter.unusedSimpArgs false
noncomputable section
namespace Go.Proofs.YtigdiekbiphhmaaGreatDoor
open Go.RowKit
set_option maxHeartbeats 2000000
set_option maxRecDepth 100000
theorem RW {L:List Br}(f:Br→Br) (hf:∀b,(f b).b.number=b.b.number) (t:bH):qF (L.map f) t=(qF L t).map f:=by
 unfold qF;rw[List.find?_map];congr 1;congr 1;funext b;show decide ((f b).b.number=t)=_;rw[hf b]
set_option maxHeartbeats 1000000
open Classical in
set_option maxHeartbeats 2000000
def onI (k:Int) (y:Br):Og:=if k=0 then y.o0 else if k=1 then y.o1 else y.o2
set_option maxHeartbeats 1000000
def Oi (L:List bH) (p:bH):List bH:=if kY L p=true then L else L++[p]
def wN (l:List bH):List bH:=l.foldl Oi []
def FX (name:bH) (L:List Dp) (d:De):List Dp:=if (gL Dp.number L d.number).isSome=true∨d.carrier≠name then L else L++[cN d 0 (decide (d.house=eS))]
def vV (name:bH) (l:List De):List Dp:=l.foldl (FX name) []
def NT (s:Su) (name:bH):Cr:=⟨name,wN s.parties,vV name s.deals,⟨name,[]⟩,[],[]⟩
def Dd (s:Su) (name:bH):Cs:=⟨s.deals.map fun _=>0,s.deals.map fun d=>decide (d.house=eS),⟨name,[]⟩,[],[]⟩
theorem DV {l:List bH}{p:bH}:kY l p=true↔p∈l:=by
 unfold kY;rw[List.any_eq_true];constructor
 ·rintro ⟨x,hx,e⟩;rw[decide_eq_true_eq]at e;exact e ▸ hx
 ·exact fun h=>⟨p,h,aH rfl⟩
theorem Mr {L:List bH}{p q:bH}:q∈Oi L p↔q∈L∨q=p:=by
 unfold Oi;by_cases h:kY L p=true
 ·rw[aF h];exact⟨.inl,fun k=>k.elim id fun e=>e ▸ DV.1 h⟩
 ·rw[aE h,List.mem_append,List.mem_singleton]
theorem Eo:∀(l L:List bH) (q:bH),q∈l.foldl Oi L↔q∈L∨q∈l
 |[],L,q=>by simp
 |p :: l,L,q=>by
  rw[List.foldl_cons,Eo l,Mr,List.mem_cons];constructor
  ·rintro ((a|a)|a)
   ·exact .inl a
   ·exact .inr (.inl a)
   ·exact .inr (.inr a)
  ·rintro (a|a|a)
   ·exact .inl (.inl a)
   ·exact .inl (.inr a)
   ·exact .inr a
theorem QR (l:List bH) (p:bH):kY (wN l) p=kY l p:=by
 rw[Bool.eq_iff_iff,DV,DV];exact(Eo l [] p).trans (by simp)
def PL (name n:bH) (d:De):Bool:=decide (d.carrier=name) && decide (d.number=n)
structure Fv (name:bH) (pre:List De) (L:List Dp):Prop where
 nd:(L.map Dp.number).Nodup
 lk:∀n,gL Dp.number L n=(pre.find? (PL name n)).map fun d=>cN d 0 (decide (d.house=eS))
theorem Fv.step {name:bH}{pre:List De}{L:List Dp}(h:Fv name pre L) (d:De):Fv name (pre++[d]) (FX name L d):=by
 unfold FX;by_cases hc:(gL Dp.number L d.number).isSome=true∨d.carrier≠name
 ·rw[aF hc];refine⟨h.nd,fun n=>?_⟩;rw[h.lk n,List.find?_append];cases hf:pre.find? (PL name n) with
  |some e=>rfl
  |none=>
   have hn:PL name n d=false:=by
    unfold PL;rcases hc with hc|hc
    ·by_cases e:d.number=n
     ·rw[e,h.lk n,hf]at hc;cases hc
     ·rw[aG e,Bool.and_false]
    ·rw[aG hc,Bool.false_and]
   rw[List.find?_cons_of_neg (by rw[hn];decide)];rfl
 ·rw[aE hc];have h1:gL Dp.number L d.number=none:=by
   cases hl:gL Dp.number L d.number with
   |none=>rfl
   |some y=>exact absurd (.inl (by rw[hl];rfl)) hc
  have h2:d.carrier=name:=Decidable.not_not.1 fun e=>hc (.inr e)
  refine⟨?_,fun n=>?_⟩
  ·rw[List.map_append,List.nodup_append];refine⟨h.nd,by simp,fun a ha b' hb e=>?_⟩;subst e;obtain⟨y,hy,hya⟩:=aX.1 ha;have hb:a=d.number:=by
    obtain rfl:=List.mem_singleton.1 hb;rfl
   exact jH h1 hy (hya.trans hb)
  ·rw[yW,h.lk n,List.find?_append];cases hf:pre.find? (PL name n) with
   |some e=>rfl
   |none=>
    by_cases e:d.number=n
    ·have hi:PL name n d=true:=by unfold PL;rw[aH h2,aH e];rfl
     rw[List.find?_cons_of_pos hi];unfold gL;rw[List.find?_cons_of_pos (p:=fun b:Dp=>decide (b.number=n)) (show decide ((cN d 0 (decide (d.house=eS))).number=n)=true from aH e)];rfl
    ·have hi:¬PL name n d=true:=by unfold PL;rw[aG e,Bool.and_false];decide
     rw[List.find?_cons_of_neg hi];unfold gL;rw[List.find?_cons_of_neg (p:=fun b:Dp=>decide (b.number=n)) (show ¬decide ((cN d 0 (decide (d.house=eS))).number=n)=true by rw[decide_eq_true_eq];exact e)];rfl
theorem I5 (name:bH):∀(l pre:List De) (L:List Dp),Fv name pre L→Fv name (pre++l) (l.foldl (FX name) L)
 |[],pre,L,h=>by rw[List.append_nil];exact h
 |d :: l,pre,L,h=>by
  rw[List.foldl_cons,show pre++d :: l=pre++[d]++l by simp];exact I5 name l _ _ (h.step d)
theorem fJ.new (s:Su) (name:bH):fJ s (NT s name) (Dd s name):=by
 have h:=I5 name s.deals [] [] ⟨.nil,fun n=>rfl⟩;rw[List.nil_append]at h;have hfi:∀n,s.deals.find? (PL name n)=(dP s name n).bind fun i=>s.deals[i]?:=fun n=>by
  unfold dP;rw[List.find?_eq_bind_findIdx?_getElem?];rfl
 refine⟨fun p=>QR _ _,h.nd,aJ ..,aJ ..,fun n hn=>?_,fun n i d st fr hi hd hs hf=>?_,rfl,⟨0,IH 0 name⟩,.nil,rfl⟩
 ·have hn:dP s name n=none:=hn;show gL Dp.number (vV name s.deals) n=none;rw[show gL Dp.number (vV name s.deals) n=_ from h.lk n,hfi,hn];rfl
 ·have hi:dP s name n=some i:=hi;show gL Dp.number (vV name s.deals) n=_;rw[show gL Dp.number (vV name s.deals) n=_ from h.lk n,hfi,hi];show (s.deals[i]?).map _=_;rw[hd];have hs:(s.deals.map fun _=>(0:Int))[i]?=some st:=hs;have hf:(s.deals.map fun d=>decide (d.house=eS))[i]?=some fr:=hf;rw[aD,hd]at hs hf;cases hs;cases hf;rfl
def pG:Go.Shelf.Ren:=⟨fun|7=>59|10=>92|n=>n,fun|0=>0|3=>128|4=>4|23=>116|26=>9|27=>156|28=>157|33=>192|n=>n,fun|n=>n⟩
theorem Th:Go.Proofs.SlLaysZ.n7 Tryz.prog pG:={
 mixed:=by kernel_rfl
 f7 := ⟨"maps.Keys[map[string]*supercargo/carrier.deal,string,*supercargo/carrier.deal]", by kernel_rfl, Tryz.func59.trans (congrArg some (by kernel_rfl))⟩
 f10 := ⟨"maps.Keys[map[string]*supercargo/carrier.deal,string,*supercargo/carrier.deal]$1", by kernel_rfl, Tryz.func92.trans (congrArg some (by kernel_rfl))⟩
 t0:=Tryz.underlying0
 a0:=Tryz.isAgg0
 z0:=Tryz.sizeOf0
 v0:=Tryz.zeroValue0
 t4:=Tryz.underlying4
 a4:=Tryz.isAgg4
 z4:=Tryz.sizeOf4
 v4:=Tryz.zeroValue4
 t23:=Tryz.underlying116
 a23:=Tryz.isAgg116
 z23:=Tryz.sizeOf116
 v23:=Tryz.zeroValue116
 t26:=Tryz.underlying9
 a26:=Tryz.isAgg9
 z26:=Tryz.sizeOf9
 v26:=Tryz.zeroValue9
 t27:=Tryz.underlying156
 a27:=Tryz.isAgg156
 z27:=Tryz.sizeOf156
 v27:=Tryz.zeroValue156
 t28:=Tryz.underlying157
 a28:=Tryz.isAgg157
 z28:=Tryz.sizeOf157
 v28:=Tryz.zeroValue157
 t33:=Tryz.underlying192
 a33:=Tryz.isAgg192
 z33:=Tryz.sizeOf192
 v33:=Tryz.zeroValue192 }
def oX:Go.Shelf.Ren:=⟨fun|7=>72|10=>103|n=>n,fun|0=>0|3=>39|4=>4|23=>172|26=>9|27=>156|28=>157|33=>192|n=>n,fun|n=>n⟩
theorem UT:Go.Proofs.SlLaysZ.n7 Tryz.prog oX:={
 mixed:=by kernel_rfl
 f7 := ⟨"maps.Keys[map[string][]supercargo/api.Hand,string,[]supercargo/api.Hand]", by kernel_rfl, Tryz.func72.trans (congrArg some (by kernel_rfl))⟩
 f10 := ⟨"maps.Keys[map[string][]supercargo/api.Hand,string,[]supercargo/api.Hand]$1", by kernel_rfl, Tryz.func103.trans (congrArg some (by kernel_rfl))⟩
 t0:=Tryz.underlying0
 a0:=Tryz.isAgg0
 z0:=Tryz.sizeOf0
 v0:=Tryz.zeroValue0
 t4:=Tryz.underlying4
 a4:=Tryz.isAgg4
 z4:=Tryz.sizeOf4
 v4:=Tryz.zeroValue4
 t23:=Tryz.underlying172
 a23:=Tryz.isAgg172
 z23:=Tryz.sizeOf172
 v23:=Tryz.zeroValue172
 t26:=Tryz.underlying9
 a26:=Tryz.isAgg9
 z26:=Tryz.sizeOf9
 v26:=Tryz.zeroValue9
 t27:=Tryz.underlying156
 a27:=Tryz.isAgg156
 z27:=Tryz.sizeOf156
 v27:=Tryz.zeroValue156
 t28:=Tryz.underlying157
 a28:=Tryz.isAgg157
 z28:=Tryz.sizeOf157
 v28:=Tryz.zeroValue157
 t33:=Tryz.underlying192
 a33:=Tryz.isAgg192
 z33:=Tryz.sizeOf192
 v33:=Tryz.zeroValue192 }
def iV:Go.Shelf.Ren:=⟨fun|6=>58|8=>90|11=>128|9=>91|n=>n,fun|0=>0|24=>56|26=>9|28=>157|33=>192|n=>n,fun|n=>n⟩
theorem Uo:Go.Proofs.SlLaysZ.n6 Tryz.prog iV:={
 mixed:=by kernel_rfl
 f6 := ⟨"slices.Sorted[string]", by kernel_rfl, Tryz.func58.trans (congrArg some (by kernel_rfl))⟩
 f8 := ⟨"slices.Collect[string]", by kernel_rfl, Tryz.func90.trans (congrArg some (by kernel_rfl))⟩
 f11 := ⟨"slices.AppendSeq[[]string,string]", by kernel_rfl, Tryz.func128.trans (congrArg some (by kernel_rfl))⟩
 t0:=Tryz.underlying0
 a0:=Tryz.isAgg0
 z0:=Tryz.sizeOf0
 v0:=Tryz.zeroValue0
 t24:=Tryz.underlying56
 a24:=Tryz.isAgg56
 z24:=Tryz.sizeOf56
 v24:=Tryz.zeroValue56
 t26:=Tryz.underlying9
 a26:=Tryz.isAgg9
 z26:=Tryz.sizeOf9
 v26:=Tryz.zeroValue9
 t28:=Tryz.underlying157
 a28:=Tryz.isAgg157
 z28:=Tryz.sizeOf157
 v28:=Tryz.zeroValue157
 i26:=by kernel_rfl }
end Go.Proofs.YtigdiekbiphhmaaGreatDoor
namespace Go.Proofs.YtigdiekbiphhmaaGreatDoor
open Go.RowKit Go.Shelf Go.Maps
set_option maxHeartbeats 2000000
set_option maxRecDepth 100000
theorem bP.fresh_ {C:nH}{st:St}{a:Act}{w w':World}{r:cT}{pub:cY}(h:bP C st a w r pub) (hw:Below w.heap.size w w') (x:Value) (e:cG) (hx:∀b∈cH x,w.heap.size≤b) (he:eF pub w' (fX r st.H.length x) (some x) e) :
  bP C ⟨st.T,st.H++[e]⟩ a w' (fX r st.H.length x) pub∧Fr (fun _=>False) pub w pub w':=by
 have hd:=h.room 1;have hq:(st.H++List.replicate 1 cG.dead)[st.H.length]?=some .dead:=by simp
 have hset:(st.H++List.replicate 1 cG.dead).set st.H.length e=st.H++[e]:=by simp
 have hfr:Fr (fun _=>False) pub w pub w':=⟨hw.os,hw.tape,hw.output,hw.size,fun b hb _=>⟨hw.block b hb,rfl⟩,fun _=>aN _,fun b i u hi hu=>by
  rw[World.cell?_of_block (w:=w) (a:=⟨b,i,none⟩) (hw.block b (World.block_lt_of_cell? w _ hu))];exact hu,fun b n _ hn=>kS (hw.block b (mM hn)) hn⟩
 have hr:=kN (x:=x) (hd.mod.dead_none hq);have hm:=hd.mod.fill (S:=fun _=>False) hq hfr (fun _ _ _ _ _ h=>h) (fun b hb=>h.mod.fresh b (Nat.le_trans hw.size hb)) (fun b i hi=>by
  obtain⟨u,hu⟩:=h.mod.there b i hi;exact⟨u,hfr.ext.cell b i u hi hu⟩) (fun k y hy b hb hb'=>by
   have:=h.mod.foot_lt hy b hb;have:=hx b hb';omega) he
 dsimp only at hm;rw[hset]at hm;refine⟨⟨hm,fun k y hy b hb=>?_,h.fr.trans hfr (fun _ h=>h.elim),(h.slots.mono hr).ext hfr.ext,h.defers,h.size,fun k y hy hs=>hr _ _ (h.stab k y hy hs),⟨h.low.1,by have:=h.low.2;simp;omega⟩⟩,hfr⟩;by_cases hk:k=st.H.length
 ·subst hk;rw[cB]at hy;cases hy;have:=hx b hb;have:=h.fr.size;right;omega
 ·rw[cQ _ _ hk]at hy;exact h.own k y hy b hb
theorem yE {H:Type}(x:Lit×DataW H):∀l:List (Lit×DataW H),(DataW.insert x l).Perm (x :: l)
 |[]=>.refl _
 |y :: l=>by
  unfold DataW.insert
  split
  ·exact .refl _
  ·exact((yE x l).cons y).trans (.swap x y l)
theorem pJ {H:Type}:∀l:List (Lit×DataW H),(l.foldr DataW.insert []).Perm l
 |[]=>.refl _
 |x :: l=>(yE x _).trans ((pJ l).cons x)
def kR:Value→Option (DataW Unit×List MemPlace):=fun _=>some (.nil,[])
theorem Cl {pub:cY}{w:World}{r:cT}:∀{L:List bH}{us:List Value},bR pub w r (L.map .str) us→us=L.map .string
 |[],us,h=>h.nil_inv
 |s :: L,us,h=>by
  obtain⟨us',rfl,h2⟩:=bR.str_inv h;rw[Cl h2];rfl
theorem JO {P:bI}{k:TypeId}{w:World}{b:Nat}{ms:Array MapEntry}(hk:P.underlying k=some .string) (hb:w.heap[b]?=some (.map ms ms.size)) (hborn:∀(i:Nat) (m:MapEntry),ms[i]?=some m→m.born=i) {S:List bH}(hS:ms.toList.map (·.key)=S.map .string) (hnd:S.Nodup) (hsz:∀s∈S,s.size≤maxLen) (hl:S.length≤1000000) :
  ∃D,w.ownsMap P k kR b ms.size D∧(strKeys D).Perm (S.map jM)∧Maps.size D=S.length:=by
 have hlen:ms.size=S.length:=by have:=congrArg List.length hS;simpa using this
 have hrd:∀x∈ms.toList,∃s∈S,x.key=.string s∧WideElems.rd P k kR x=some (.string (jM s),.nil):=fun x hx=>by
  have h1:x.key∈S.map Value.string:=by rw[←hS];exact aX.2 ⟨x,hx,rfl⟩
  obtain⟨s,hs,he⟩:=aX.1 h1;refine⟨s,hs,he.symm,?_⟩;unfold WideElems.rd;rw[←he,WideMaps.keyOf_string_mk hk (hsz s hs)];rfl
 have hrg:ms.toList.map (WideElems.rg P k kR)=S.map fun s=>((.string (jM s),.nil):Lit×DataW Unit):=by
  have e1:ms.toList.map (WideElems.rg P k kR)=(ms.toList.map (·.key)).map fun v=>(match v with|.string s=>((.string (jM s),.nil):Lit×DataW Unit)|_=>(.bool false,.nil)):=by
   rw[List.map_map];refine List.map_congr_left fun x hx=>?_
   obtain⟨s,_,h1,h2⟩:=hrd x hx;unfold WideElems.rg;rw[h2];show _=(match x.key with|.string s=>((.string (jM s),.nil):Lit×DataW Unit)|_=>(.bool false,.nil))
   rw[h1];rfl
  rw[e1,hS,List.map_map];rfl
 refine⟨.map ((ms.toList.map (WideElems.rg P k kR)).foldr DataW.insert []),⟨ms,ms.size,hb,⟨by rw[hlen];unfold maxLen;omega,⟨fun x hx=>?_,?_,?_⟩,fun x hx=>?_⟩,aN _,rfl⟩,?_,?_⟩
 ·obtain⟨i,hi⟩:=aV hx;rw[aY]at hi;rw[hborn i x hi];exact(Array.getElem?_eq_some_iff.1 hi).1
 ·have:ms.toList.map (·.born)=List.range ms.size:=by
   refine List.ext_getElem (by simp) fun i h1 h2=>?_
   rw[List.getElem_map,List.getElem_range];exact hborn i _ (by rw[←aY];exact aB (by simpa using h1))
  rw[this];exact List.nodup_range
 ·rw[hS];exact List.pairwise_map.2 (hnd.imp fun {a b} hab e=>hab (by cases e;rfl))
 ·obtain⟨s,_,_,h2⟩:=hrd x hx;exact⟨_,h2⟩
 ·show ((((ms.toList.map (WideElems.rg P k kR)).foldr DataW.insert []).map fun p=>Go.strOf p.1)).Perm _;refine((pJ _).map _).trans ?_;rw[hrg,List.map_map];exact .refl _
 ·show ((ms.toList.map (WideElems.rg P k kR)).foldr DataW.insert []).length=_;rw[(pJ _).length_eq,aJ,bB,hlen]
theorem M6 {ss:List (List UInt8)}{S:List bH}(h:ss.Perm (S.map jM)):(ss.mergeSort fun x y=>decide (x≤y)).map Go.Proofs.encStr=(dN S).map .string:=by
 have:=Go.mergeSort_of_perm h;unfold Go.leB at this;rw[this];unfold dN;rw[List.map_map];rfl
theorem sI {P:bI}{ρK ρS:Ren}(L7:SlLaysZ.n7 P ρK) (L6:SlLaysZ.n6 P ρS) (hsort:AnyZ.SortsIn P ρS Fence.wide 4) (e9:∀args w,(callFunc (ρS.f 9) args).run P w=.ok (.enter (ρS.f 9) args) w) (ht:ρK.t 26=ρS.t 26)
  (k j:Nat) {α:Type}{f:α→A3}{L:List α}(key:α→bH) (hf:∀a,(f a).1=.str (key a)) {T t:TypeId}{outs:List (Nat×AV)}{keep:List Nat}{st:St}{K:AV→St→Prop}
  (hk:st.H[k]?=some (.blk T [.ph j])) (hj:st.H[j]?=some (.pool t (bJ f L) outs)) (hnd:(L.map key).Nodup) (hsz:∀a∈L,(key a).size≤maxLen) (hl:L.length≤1000000) (hkeep:(keep.all fun q=>Nat.blt q st.H.length)=true)
  (hK:K (.hd st.H.length) ⟨st.T,st.H++[.row (ρS.t 26) 1 (bJ .str (dN (L.map key)))]⟩):fY P keep (ρS.f 6) [.clo (ρK.f 10) [.ptr k 0]] st K:=by
 refine⟨fun C a w r pub vals h hv=>?_⟩;obtain⟨u,us',hvals,hu,hnil⟩:=hv.cons_inv;have hn0:=hnil.nil_inv;subst hn0;obtain rfl:vals=#[u]:=Array.toList_inj.1 (by simpa using hvals);clear hv hvals hnil;obtain⟨b0,arr,hrk,hb0,hc0,_⟩:=h.ent_blk hk;obtain⟨b,ms,inner,hrj,R⟩:=h.ent_pool hj;obtain⟨v0,us0,harr,hv0,hnil0⟩:=hc0.cons_inv;have hn1:=hnil0.nil_inv;subst hn1;obtain rfl:arr=#[v0]:=Array.toList_inj.1 (by simpa using harr);have hmv:v0=.map (some b):=by
  cases hv0 with
  |ph h1 h2 h3=>
   rw[hrj]at h1;obtain⟨a2,q1,q2⟩:=dE b inner;rw[q1]at h1;cases h1;rw[q2]at h2;cases h2;rfl
 subst hmv;cases hu with
 |@clo _ _ lb _ hls hcs=>
  obtain⟨v1,hv1⟩:∃v1,lb=#[v1]:=by
   have h1:lb.size=1:=hls;exact⟨lb[0],by apply Array.ext (by simpa using h1);intro i hi1 hi2;(have:i=0:=(by simpa using hi2));subst this;rfl⟩
  subst hv1;have hp:=hcs 0 (.ptr k 0) v1 rfl rfl;have hv1:v1=.pointer (some ⟨b0,0,none⟩):=by
   cases hp with
   |ptr off h1=>rw[hrk]at h1;cases h1;rfl
  subst hv1;have hkeys:ms.toList.map (·.key)=(L.map key).map .string:=by
   have h1:=R.hk;have e:(bJ f L).map (·.1)=(L.map key).map .str:=by
    rw[dV,List.map_map,List.map_map];exact List.map_congr_left fun x _=>hf x
   rw[e]at h1;exact Cl h1
  obtain⟨D,hown,hperm,hDs⟩:=JO (P:=P) (k:=ρK.t 26) (w:=w) L7.t26 R.hb R.hborn hkeys hnd (fun s hs=>by obtain⟨x,hx,rfl⟩:=aX.1 hs;exact hsz x hx) (by rw[aJ];exact hl);have hll:(L.map key).length≤1000000:=by rw[aJ];exact hl
  have hseq:=AnyZ.keys_gives { L7 with } Fence.wide 2 trivial rfl (by omega) b0 b ms.size D w hb0.lt (by have:=hb0.cell 0 (.map (some b)) rfl;exact this) hown;have hc:=AnyZ.sorted_in L6 Fence.wide 5 trivial trivial trivial trivial rfl (by omega) hsort e9 (ρK.f 10) #[.pointer (some ⟨b0,0,none⟩)] trivial (L7.f10.enters rfl) _ _ (by rw[hDs];unfold maxLen;omega) (by rw[hDs];omega) w hseq;refine(callsIn_wide.1 hc).mono fun e w' hw=>?_
  obtain⟨v,ss,rfl,hS,hrow,_,hbel⟩:=hw;have hso:=M6 (hS.trans hperm);rw[hso]at hrow;have hsl:ss.length=(dN (L.map key)).length:=by
   rw[iG,hS.length_eq,hperm.length_eq,aJ]
  rw[hsl]at hrow;have hvv:∃A c,v=.slice A (dN (L.map key)).length c∧jX w' (ρS.t 26) 1 A (dN (L.map key)).length c ((dN (L.map key)).map .string)∧(∀q∈lP A,w.heap.size≤q):=by
   obtain⟨r1,⟨rfl,h0⟩|⟨g,cap,cur,rfl,hg,h2,h3,h4,h5,h6⟩⟩:=hrow
   ·rw[h0]at r1⊢;have e0:(dN (L.map key)).map Value.string=[]:=aR (by simpa using r1);rw[e0];exact⟨none,0,rfl,jX.nil _ _ _,by simp⟩
   ·exact⟨some ⟨g,0,none⟩,cap,rfl,⟨r1,.inr ⟨g,cap,cur,rfl,aI _,h2,h3,h4,h5,h6⟩⟩,by simpa using hg⟩
  obtain⟨A,c,rfl,hOwn,hA⟩:=hvv;have hE:∀r2,eF pub w' r2 (some (.slice A (bJ AV.str (dN (L.map key))).length c)) (.row (ρS.t 26) 1 (bJ .str (dN (L.map key)))):=fun r2=>by
   refine .row (us:=(dN (L.map key)).map .string) (by rw[bY];exact hOwn) (Hd _) (fun x hx=>?_) (fun q hq=>h.mod.fresh q (hA q hq));rw[dV]at hx;obtain⟨s,_,rfl⟩:=aX.1 hx;exact⟨rfl,rfl⟩
  rw[bY]at hE;obtain⟨hh,hfr⟩:=h.fresh_ hbel _ _ (fun q hq=>hA q (by simpa [cH]using hq)) (hE _);refine⟨_,_,_,_,pub,rfl,.hd (cB _ _ _) rfl,hK,hh,hfr.ext,fun q hq=>?_⟩;have hql:q < st.H.length:=by
   have:=aT.1 hkeep q hq;simpa [Nat.blt_eq]using this
  refine⟨cQ _ _ (by omega),fun y hy bb hbb=>(hfr.keep bb (h.mod.foot_lt hy bb hbb) (fun h=>h)).1⟩
theorem yC {P:bI}{ρK:Ren}(L7:SlLaysZ.n7 P ρK) (j:Nat) {t:TypeId}{es:List A3}{outs:List (Nat×AV)}{keep:List Nat}{st:St}{K:AV→St→Prop}(hj:st.H[j]?=some (.pool t es outs)) (hkeep:(keep.all fun q=>Nat.blt q st.H.length)=true)
  (hK:K (.clo (ρK.f 10) [.ptr st.H.length 0]) ⟨st.T,st.H++[.blk (ρK.t 23) [.ph j]]⟩):fY P keep (ρK.f 7) [.ph j] st K:=by
 refine⟨fun C a w r pub vals h hv=>?_⟩;obtain⟨u,us',hvals,hu,hnil⟩:=hv.cons_inv;have hn0:=hnil.nil_inv;subst hn0;obtain rfl:vals=#[u]:=Array.toList_inj.1 (by simpa using hvals);obtain⟨b,ms,inner,hrj,R⟩:=h.ent_pool hj;have hmv:u=.map (some b):=by
  cases hu with
  |ph h1 h2 h3=>
   rw[hrj]at h1;obtain⟨a2,q1,q2⟩:=dE b inner;rw[q1]at h1;cases h1;rw[q2]at h2;cases h2;rfl
 subst hmv;refine(callsIn_wide.1 (AnyZ.keys_in L7 Fence.wide 5 trivial rfl (some b) w)).mono fun e w' hw=>?_
 obtain⟨rfl,rfl⟩:=hw;have hd:=h.room 1;have hq:(st.H++List.replicate 1 cG.dead)[st.H.length]?=some .dead:=by simp
 have hset:∀e:cG,(st.H++List.replicate 1 cG.dead).set st.H.length e=st.H++[e]:=fun e=>by simp
 have hb:=hd.box hq (ρK.t 23) [.ph j] #[.map (some b)] (.cons hu .nil);rw[hset]at hb;refine⟨_,_,_,_,pub,rfl,.clo _ rfl (fun i x v hx hvx=>?_),hK,hb,(Fr.alloc_ (fun _=>False) pub w _).ext,fun q hq=>?_⟩
 ·cases i with
  |zero=>cases hx;cases hvx;exact .ptr 0 (cB _ _ _)
  |succ i=>simp at hx
 ·have hql:q < st.H.length:=by
   have:=aT.1 hkeep q hq;simpa [Nat.blt_eq]using this
  exact⟨cQ _ _ (by omega),fun y hy bb hbb=>Below.heap_alloc w _ bb (h.mod.foot_lt hy bb hbb)⟩
theorem HR {P:bI}{ρ:Ren}(hs:∀(blk off cap:Nat) (ss:List (List UInt8)) (W:World),Go.Sort.Holds Go.Proofs.encStr W blk off ss.toArray→blk < W.heap.size→ss.length < 4611686018427387904 →
  Calls P (ρ.f 9) #[.slice (some ⟨blk,off,none⟩) ss.length cap] W fun e w'=>e=.returned (.tuple #[])∧∃k os,w'=Go.Sort.grow (Go.Sort.putRow Go.Proofs.encStr (Go.Sort.ahead W k) blk off (ss.mergeSort fun x y=>decide (x≤y)).toArray) os)
  (hn:∀(p:Option Addr) (cap:Nat) (W:World),Calls P (ρ.f 9) #[.slice p 0 cap] W fun e w'=>e=.returned (.tuple #[])∧w'=W):AnyZ.SortsIn P ρ Fence.wide 4:=
 ⟨fun blk off cap ss W h1 h2 h3=>callsIn_wide.2 (hs blk off cap ss W h1 h2 h3),fun p cap W=>callsIn_wide.2 (hn p cap W)⟩
end Go.Proofs.YtigdiekbiphhmaaGreatDoor
namespace Go.Proofs.YtigdiekbiphhmaaGreatDoor
open Go.RowKit
set_option maxHeartbeats 2000000
set_option maxRecDepth 100000
theorem GA (P:bI):bM P X7 (iL (fun _=>True) bT):=by
 intro args H K hc;obtain⟨s,rfl,rfl,_,hK⟩:=hc;refine⟨cL,?_⟩;dsimp only at hK⊢;cbv;repeat'((first|refine .mk (fun h=>?_) fun h=>?_|refine .k fun z hz=>?_|fail)<;>cbv)
 ·exact bZ.mk ⟨_,Gh.refl _,.inl (.v9 (cE hK (by(rw[fT bQ]))))⟩
 ·exact bZ.mk ⟨_,Gh.refl _,.inl (.v9 (cE hK (by(rw[fT bQ]))))⟩
 obtain⟨n,hn⟩:∃n,n=s.size:=⟨_,rfl⟩
 refine bS [] (fun p:{ k:Nat // k≤s.size∧jQ s k }=>[(15,.i (nI p.1))]) (fun _=>[]) (fun p=>eW n p.1) ⟨0,aI _,kV s⟩ ?_;rintro ⟨k,hk,hf⟩;dsimp only;rcases aL k s.size with hks|hks
 rotate_left
 ·obtain rfl:n=k:=by omega
  rw[hn]at hf;cbv;repeat'((first|refine .n fun h=>?_|fail)<;>cbv)
  exact bZ.mk ⟨_,Gh.refl _,.inl (.v9 (cE hK (by(rw[pN hf bQ bQ]))))⟩
 cbv;repeat'((first|refine .y fun h=>?_|fail)<;>cbv)
 refine dI hks fun z hz=>?_
 have hch:=Jh (c:=s[k]) hz;unfold lL iU at hch;cbv;repeat'((first|refine .n fun h=>?_|refine .y fun h=>?_|refine .mk (fun h=>?_) fun h=>?_|refine .k fun z hz=>?_|fail)<;>cbv)
 all_goals first
  |(obtain rfl:z=nI (k+1):=bQ
    exact bN ⟨k+1,hks,fE hks hf (by rw[hch];simp;omega)⟩ (bO (by omega)))
  |exact bZ.mk ⟨_,Gh.refl _,.inl (.v9 (cE hK (by(rw[rT hks (by rw[hch];simp;omega)]))))⟩
def sW (l:List bH):Bool:=l.all bT
def zI:dA:=spec (fun _:List bH=>[.hd 0]) (fun l=>[.row 9 1 (bJ .str l)]) (fun l=>l.length≤8) (fun l=>.bl (sW l)) fun l=>[.row 9 1 (bJ .str l)]
theorem MJ {l:List bH}{k:Nat}{x:bH}(hx:l[k]?=some x) (h:bT x=false):sW l=false:=by
 unfold sW;rw[List.all_eq_false];exact⟨x,aC hx,by rw[h];decide⟩
theorem NX {l:List bH}(h:∀j x,j < l.length→l[j]?=some x→bT x=true):sW l=true:=by
 unfold sW;rw[aT];intro x hx;obtain⟨j,hj⟩:=aV hx;exact h j x (aA.1 hj).1 hj
theorem Fk (P:bI) (hn:bK P 104 (iL (fun _=>True) bT)):bM P x74 zI:=by
 intro args H K hc;obtain⟨l,rfl,rfl,hp,hK⟩:=hc;refine⟨cL,?_⟩;dsimp only at hp hK⊢;obtain⟨q,hq⟩:∃q,q=sW l:=⟨_,rfl⟩
 rw[←hq]at hK;obtain⟨n,hnl⟩:∃n:Nat,n=l.length:=⟨_,rfl⟩
 cbv;repeat'((first|refine .k fun z hz=>?_|fail)<;>cbv)
 refine bS [] (fun p:{ k:Nat // k≤l.length∧∀j x,j < k→l[j]?=some x→bT x=true }=>[(7,.i (nI p.1))]) (fun _=>[.row 9 1 (bJ .str l)]) (fun p=>eW 8 p.1) ⟨0,aI _,fun j x h=>absurd h (Nat.not_lt_zero j)⟩ ?_;rintro ⟨k,hk,hf⟩;dsimp only at hk hf⊢;rcases aL k l.length with hks|hks
 rotate_left
 ·obtain rfl:k=n:=by omega
  rw[hnl]at hf;cbv;repeat'((first|refine .n fun h=>?_|fail)<;>cbv)
  (refine .q9 ?_;cbv;exact .inl (.f9 (cE hK (by rw[hq,NX hf]))))
 obtain⟨x,hx⟩:=cK hks;cbv;repeat'((first|refine .e ?_|refine .y fun h=>?_|fail)<;>cbv)
 obtain⟨b,hb⟩:∃b,b=bT x:=⟨_,rfl⟩
 (refine bX hn x trivial ?_;try dsimp only)
 rw[←hb];cases b with
 |true=>
  cbv;repeat'((first|refine .k fun z hz=>?_|fail)<;>cbv)
  obtain rfl:z=nI (k+1):=bQ;exact bN ⟨k+1,hks,fun j y hj hy=>(by
     rcases aL j k with h1|h1
     ·exact hf j y h1 hy
     ·obtain rfl:j=k:=by omega
      rw[hx]at hy;cases hy;exact hb.symm)⟩ (bO (by omega))
 |false=>
  cbv
  (refine .q9 ?_;cbv;exact .inl (.f9 (cE hK (by rw[hq,MJ hx hb.symm]))))
def xK:dA:=spec (fun d:Int=>[.i d]) (fun _=>[]) (fun _=>True) (fun d=>.bl (gK d)) fun _=>[]
theorem LH (P:bI):bM P Z7 xK:=by
 intro args H K hc;obtain⟨d,rfl,rfl,hp,hK⟩:=hc;refine⟨cL,?_⟩;dsimp only at hp hK⊢;have hd:gK d=(decide (0≤d) && decide (d≤1048576)):=rfl;obtain⟨q,hq⟩:∃q,q=gK d:=⟨_,rfl⟩
 rw[←hq]at hK hd;cbv;repeat'((first|refine .mk (fun h=>?_) fun h=>?_|fail)<;>cbv)
 all_goals exact bZ.mk ⟨_,Gh.refl _,.inl (.v9 (cE hK (by(rw[hd];simp;omega))))⟩
def dG:eC→AV
 |⟨box,frm,to,place,day⟩=>.agg [.str box,.str frm,.str to,.str place,.i day]
def eX:cP→A3
 |⟨box,hist⟩=>(.str box,.hd 0,[.tip 77 5 (bJ dG hist)])
def Gs (L:List cP):List cG:=[.blk 174 [.ph 1],.pool 172 (bJ eX L) []]
structure iJ (L:List cP):Prop where
 few:L.length≤4096
 nd:(L.map cP.box).Nodup
 ne:∀b∈L,b.hist≠[]∧b.hist.length≤4096
 day:∀b∈L,∀h∈b.hist,h.day≤1048576
 sz:∀b∈L,b.box.size≤16∧∀h∈b.hist,h.to.size≤16∧h.place.size≤16
def Qs (L:List cP) (x:eC):List cP:=if rY L x=0 then L++[⟨x.box,[x]⟩] else L
def BF (L:List cP) (x:eC):List cP:=if gZ L x=0 then iT cP.box L x.box (hC x) else L
def Jm:dA:=spec (fun _:Unit=>[]) (fun _=>[]) (fun _=>True) (fun _=>.ptr 0 0) fun _=>Gs []
theorem Kk (P:bI):bM P x51 Jm:=by
 intro args H K hc;obtain⟨u,rfl,rfl,hp,hK⟩:=hc;refine⟨cL,?_⟩;dsimp only at hp hK⊢;cbv
 (refine .q9 ?_;cbv;exact .inl (eN.sel [1,0] _ _ (by rfl) (by rfl) (by decide) (by rfl) cL (by rfl) (by rfl) (Le.refl _) (jW.refl _) hK))
def HA:dA:=spec (fun i:List cP×eC=>[.ptr 0 0,.str i.2.box,.str i.2.to,.str i.2.place,.i i.2.day]) (fun i=>Gs i.1) (fun i=>iJ i.1∧i.2.frm=eS) (fun i=>.i (rY i.1 i.2)) fun i=>Gs (Qs i.1 i.2)
theorem TU (L:List cP) (x:eC):rY L x=if sW [x.box,x.to,x.place]=false then 1 else if gK x.day=false then 3 else match kA cP.box L x.box with
  |some _=>5
  |none=>if 4096≤L.length then 7 else 0:=by
 unfold rY;have e1:(!bT x.box || !bT x.to || !bT x.place)=!sW [x.box,x.to,x.place]:=by
  unfold sW;simp only[List.all_cons,List.all_nil,Bool.and_true];cases bT x.box<;>cases bT x.to<;>cases bT x.place<;>rfl
 rw[e1];cases sW [x.box,x.to,x.place] with
 |false=>rfl
 |true=>
  cases gK x.day with
  |false=>rfl
  |true=>
   simp only[Bool.not_true,aZ,if_false,reduceCtorEq];cases ha:kA cP.box L x.box with
   |none=>rw[qM ha];rfl
   |some i=>
    obtain⟨y,hy,_⟩:=eA ha;rw[mB ha hy];rfl
theorem HV (P:bI) (hn:bK P 74 zI) (hd:bK P 75 xK):bM P Xi HA:=by
 intro args H K hc;obtain⟨⟨L,box,frm,to,place,day⟩,rfl,rfl,hp,hK⟩:=hc;refine⟨cL,?_⟩;obtain⟨hok,hfrm⟩:=hp;dsimp only at hfrm;subst hfrm;obtain⟨e,he⟩:∃e,e=rY L ⟨box,eS,to,place,day⟩:=⟨_,rfl⟩
 have hM:Qs L ⟨box,eS,to,place,day⟩=if e=0 then L++[⟨box,[⟨box,eS,to,place,day⟩]⟩] else L:=by rw[he];rfl
 obtain⟨M,hMM⟩:∃M,M=Qs L ⟨box,eS,to,place,day⟩:=⟨_,rfl⟩
 dsimp only at hK;rw[←he,←hMM]at hK;rw[←hMM]at hM;rw[TU]at he;obtain⟨b1,hb1⟩:∃b,b=sW [box,to,place]:=⟨_,rfl⟩
 obtain⟨b2,hb2⟩:∃b,b=gK day:=⟨_,rfl⟩
 dsimp only at he;rw[←hb1,←hb2]at he;obtain⟨n,hn0⟩:∃n:Nat,n=L.length:=⟨_,rfl⟩
 rw[←hn0]at he;cbv
 (refine fI hn ([box,to,place]) [2] (by simp) ?_;try dsimp only)
 rw[←hb1];cases b1 with
 |false=>
  obtain rfl:e=1:=he;obtain rfl:M=L:=hM;cbv
  (refine .q9 ?_;cbv;exact .inl (.f9 hK))
 |true=>
  cbv
  (refine bX hd day trivial ?_;try dsimp only)
  rw[←hb2];cases b2 with
  |false=>
   obtain rfl:e=3:=he;obtain rfl:M=L:=hM;cbv
   (refine .q9 ?_;cbv;exact .inl (.f9 hK))
  |true=>
   simp only[aZ,if_false,reduceCtorEq]at he;cbv;refine eE cP.box (fun _=>rfl) (fun i y hai hy hky=>?_) (fun hai=>?_)<;>dsimp only at *
   ·rw[hai]at he;obtain rfl:e=5:=he;obtain rfl:M=L:=hM;obtain⟨bx,hist⟩:=y;cbv;refine bZ.mk ⟨_,Gh.back0 1 [3] eX rfl hy,?_⟩;cbv;exact .inl (.f9 hK)
   ·rw[hai]at he;dsimp only at he;cbv;repeat'((first|refine .mk (fun h=>?_) fun h=>?_|refine .k fun z hz=>?_|fail)<;>cbv)
    ·obtain rfl:e=7:=by rw[he,aF bQ]
     obtain rfl:M=L:=hM
     (refine .q9 ?_;cbv;exact .inl (.f9 hK))
    ·obtain rfl:e=0:=by rw[he,aE bQ]
     rw[aF rfl]at hM;refine lS cP.box (fun _=>rfl) hai (fun es n2 hes hn2=>?_);cbv;refine cZ (Gh.publish 3 rfl) ?_;cbv;refine bZ.mk ⟨_,Gh.backN2 1 [3] eX ⟨box,[⟨box,eS,to,place,day⟩]⟩ hes hn2 hM,?_⟩;cbv;exact .inl (.f9 hK)
structure tQ (n:Nat) (seen:List Nat):Prop where
 nd:seen.Nodup
 lt:∀i∈seen,i < n
theorem tQ.nil {n:Nat}:tQ n []:=⟨.nil,fun i h=>by cases h⟩
theorem tQ.snoc {n:Nat}{seen:List Nat}{i:Nat}(h:tQ n seen) (hi:i < n) (hn:i∉seen):tQ n (seen++[i]):=by
 refine⟨List.nodup_append.2 ⟨h.nd,List.nodup_cons.2 ⟨by simp,.nil⟩,fun a ha b hb e=>?_⟩,fun j hj=>?_⟩
 ·obtain rfl:=List.mem_singleton.1 hb;subst e;exact hn ha
 ·rcases List.mem_append.1 hj with h1|h1
  ·exact h.lt j h1
  ·obtain rfl:=List.mem_singleton.1 h1;exact hi
theorem tQ.len {n:Nat}{seen:List Nat}(h:tQ n seen):seen.length≤n:=by
 have:=h.nd.length_le_of_subset (l₂:=List.range n) fun i hi=>List.mem_range.2 (h.lt i hi)
 rwa [List.length_range]at this
def tW {α:Type}(L:List α) (seen:List Nat):List α:=seen.filterMap fun i=>L[i]?
theorem Io {α:Type}{L:List α}{seen:List Nat}{i:Nat}{y:α}(hy:L[i]?=some y):tW L (seen++[i])=tW L seen++[y]:=by
 unfold tW;rw[List.filterMap_append,List.filterMap_cons,hy];rfl
theorem aaL {α:Type}:∀L:List α,(List.range L.length).filterMap (fun i=>L[i]?)=L
 |[]=>rfl
 |x :: L=>by
  rw[List.length_cons,List.range_succ_eq_map,List.filterMap_cons,List.filterMap_map];have e:((fun i=>(x :: L)[i]?) ∘ Nat.succ)=fun i=>L[i]?:=by funext i;rfl
  rw[e,aaL L];rfl
theorem K3 {α:Type}{L:List α}{seen:List Nat}(h:tQ L.length seen) (hall:∀i,i < L.length→i∈seen):(tW L seen).Perm L:=by
 have hp:seen.Perm (List.range L.length):=(List.perm_ext_iff_of_nodup h.nd List.nodup_range).2 fun i=>⟨fun hi=>List.mem_range.2 (h.lt i hi),fun hi=>hall i (List.mem_range.1 hi)⟩
 have h2:=hp.filterMap fun i=>L[i]?
 rwa [aaL]at h2
theorem K4 {α:Type}{key:α→bH}{L:List α}{seen:List Nat}{i:Nat}{y:α}(hn:(L.map key).Nodup) (hy:L[i]?=some y) (hni:i∉seen):kA key (tW L seen) (key y)=none:=by
 cases hx:kA key (tW L seen) (key y) with
 |none=>rfl
 |some j=>
  obtain⟨z,hz,hk⟩:=eA hx;have hm:=aC hz;unfold tW at hm;obtain⟨n,hns,hnz⟩:=List.mem_filterMap.1 hm;exfalso;obtain⟨hi,rfl⟩:=aA.1 hy;obtain⟨hj,rfl⟩:=aA.1 hnz;have e:=kC (l:=L.map key) (i:=n) (j:=i) (hi:=by rw[aJ];exact hj) (hj:=by rw[aJ];exact hi) hn (by rw[List.getElem_map,List.getElem_map];exact hk);subst e;exact hni hns
def IC:dA:=spec (fun _:Unit=>[.v (.slice none 0 0)]) (fun _=>[]) (fun _=>True) (fun _=>.v (.slice none 0 0)) fun _=>[]
theorem D4 (P:bI):bM P XE (jR 5 72):=by
 intro args H K hc;obtain⟨xs,rfl,rfl,⟨h1,h2⟩,hK⟩:=hc;refine⟨cL,?_⟩;dsimp only at h1 h2 hK⊢;cbv;repeat'((first|refine .zl fun zs hzs hzl=>?_|refine .mk (fun h=>?_) ?_|fail)<;>cbv)
 ·subst h;exact⟨⟨_,Gh.refl _,.inl (eN.val rfl (.one (.one (.nil _))) hK)⟩⟩
 ·have hzs:zs=xs:=hzs;subst hzs;exact⟨⟨_,Gh.publish 0 rfl,.inr (.v9 hK)⟩⟩
theorem CS (P:bI):bM P XE (wQ 77 5 72):=by
 intro args H K hc;obtain⟨xs,rfl,rfl,⟨h1,h2⟩,hK⟩:=hc;refine⟨cL,?_⟩;dsimp only at h1 h2 hK⊢;cbv;repeat'((first|refine .zl fun zs hzs hzl=>?_|refine .mk (fun h=>?_) ?_|fail)<;>cbv)
 ·subst h;exact⟨⟨_,Gh.adopt 2 77 5 rfl,.inl (eN.pre [.row 77 5 []] rfl (aI _) rfl rfl (Le.refl _) (jW.refl _) hK)⟩⟩
 ·have hzs:zs=xs:=hzs;subst hzs;exact⟨⟨_,Gh.refl _,.inl (eN.pre [.row 77 5 zs] rfl (aI _) rfl rfl (Le.refl _) (jW.refl _) hK)⟩⟩
theorem Ec (P:bI):bM P XE IC:=by
 intro args H K hc;obtain⟨u,rfl,rfl,hp,hK⟩:=hc;refine⟨cL,?_⟩;dsimp only at hp hK⊢;cbv
 (refine .q9 ?_;cbv;exact .inl (.f9 hK))
theorem Rs (L:List cP) (x:eC):gZ L x=if (!sW [x.box,x.frm,x.to,x.place] || decide (x.frm=x.to))=true then 1 else if gK x.day=false then 3 else match kA cP.box L x.box with
  |some i=>(match L[i]? with
   |some y=>BZ y.hist x
   |none=>4)
  |none=>4:=by
 unfold gZ;have e1:wM x=(!sW [x.box,x.frm,x.to,x.place] || decide (x.frm=x.to)):=by
  unfold wM sW;simp only[List.all_cons,List.all_nil,Bool.and_true];cases bT x.box<;>cases bT x.frm<;>cases bT x.to<;>cases bT x.place<;>rfl
 rw[e1]
 split
 ·rfl
 ·cases gK x.day with
  |false=>rfl
  |true=>
   simp only[Bool.not_true,aZ,if_false,reduceCtorEq];cases ha:kA cP.box L x.box with
   |none=>rw[qM ha]
   |some i=>
    obtain⟨y,hy,_⟩:=eA ha;rw[mB ha hy];dsimp only;rw[hy]
def E1:dA:=spec (fun i:List cP×eC=>[.ptr 0 0,dG i.2]) (fun i=>Gs i.1) (fun i=>iJ i.1) (fun i=>.i (gZ i.1 i.2)) fun i=>Gs (BF i.1 i.2)
theorem KL (P:bI) (hn:bK P 74 zI) (hd:bK P 75 xK):bM P ZW E1:=by
 intro args H K hc;obtain⟨⟨L,box,frm,to,place,day⟩,rfl,rfl,hok,hK⟩:=hc;refine⟨cL,?_⟩;dsimp only at hok;obtain⟨e,he⟩:∃e,e=gZ L ⟨box,frm,to,place,day⟩:=⟨_,rfl⟩
 have hM:BF L ⟨box,frm,to,place,day⟩=if e=0 then iT cP.box L box (hC ⟨box,frm,to,place,day⟩) else L:=by rw[he];rfl
 obtain⟨M,hMM⟩:∃M,M=BF L ⟨box,frm,to,place,day⟩:=⟨_,rfl⟩
 dsimp only at hK;rw[←he,←hMM]at hK;rw[←hMM]at hM;rw[Rs]at he;obtain⟨b1,hb1⟩:∃b,b=sW [box,frm,to,place]:=⟨_,rfl⟩
 obtain⟨b2,hb2⟩:∃b,b=gK day:=⟨_,rfl⟩
 dsimp only at he;rw[←hb1,←hb2]at he;cbv
 (refine fI hn ([box,frm,to,place]) [3] (by simp) ?_;try dsimp only)
 rw[←hb1];cases b1 with
 |false=>
  obtain rfl:e=1:=he;obtain rfl:M=L:=hM;cbv
  (refine .q9 ?_;cbv;exact .inl (.f9 hK))
 |true=>
  cbv;repeat'((first|refine .mk (fun h=>?_) fun h=>?_|fail)<;>cbv)
  ·obtain rfl:e=1:=by rw[he];simp[‹frm=to›]
   obtain rfl:M=L:=hM
   (refine .q9 ?_;cbv;exact .inl (.f9 hK))
  ·have hne:¬frm=to:=by assumption
   simp only[hne,Bool.not_true,decide_false,Bool.or_self,aZ,if_false]at he
   (refine bX hd day trivial ?_;try dsimp only)
   rw[←hb2];cases b2 with
   |false=>
    obtain rfl:e=3:=he;obtain rfl:M=L:=hM;cbv
    (refine .q9 ?_;cbv;exact .inl (.f9 hK))
   |true=>
    simp only[reduceCtorEq,if_false]at he;cbv;refine eE cP.box (fun _=>rfl) (fun i y hai hy hky=>?_) (fun hai=>?_)<;>try dsimp only at *
    rotate_left
    ·rw[hai]at he;obtain rfl:e=4:=he;obtain rfl:M=L:=hM;cbv
     (refine .q9 ?_;cbv;exact .inl (.f9 hK))
    ·rw[hai]at he;dsimp only at he;rw[hy]at he;dsimp only at he;have hyok:=hok.ne y (aC hy);have hup:=nN hok.nd (s:=box) (hC ⟨box,frm,to,place,day⟩) hai hy;obtain⟨bx,hist⟩:=y;obtain⟨hne1,hlen⟩:=hyok;dsimp only at hne1 hlen he hky;subst hky;obtain⟨m,hm⟩:∃m:Nat,hist.length=m+1:=⟨hist.length - 1,by have:=List.length_pos_iff.2 hne1;omega⟩
     obtain⟨l,hl⟩:=cK (L:=hist) (i:=m) (by omega);have hgl:hist.getLast?=some l:=by rw[List.getLast?_eq_getElem?,hm];exact hl
     unfold BZ at he;rw[hgl]at he;obtain⟨lbox,lfrm,lto,lplace,lday⟩:=l;dsimp only at he;have hM2:e=0→M=L.set i ⟨bx,hist++[⟨bx,frm,to,place,day⟩]⟩:=fun h=>by rw[hM,aF h,hup];rfl
     clear hup;cbv;repeat'((first|refine .k fun z hz=>?_|fail)<;>cbv)
     obtain rfl:z=nI m:=bQ;cbv;repeat'((first|refine .e ?_|refine .mk (fun h=>?_) fun h=>?_|refine .k fun z hz=>?_|refine .zl fun zs hzs hzl=>?_|fail)<;>cbv)
     ·obtain rfl:e=6:=by rw[he,aE (fun h=>h (by assumption)),aF (by assumption)]
      obtain rfl:M=L:=hM
      (refine .r9 (Gh.back0 1 [4] eX rfl hy) ?_;cbv;exact .inl (.f9 hK))
     ·obtain rfl:e=7:=by rw[he,aE (fun h=>h (by assumption)),aE (by omega),aF bQ]
      obtain rfl:M=L:=hM
      (refine .r9 (Gh.back0 1 [4] eX rfl hy) ?_;cbv;exact .inl (.f9 hK))
     ·obtain rfl:e=0:=by rw[he,aE (fun h=>h (by assumption)),aE (by omega),aE bQ]
      have hM3:=hM2 rfl;obtain rfl:zs=bJ dG (hist++[⟨bx,frm,to,place,day⟩]):=by(rw[cD,cF];exact hzs)
      refine NW cP.box (fun _=>rfl) hai ?_;cbv;rw[hM3]at hK;refine bZ.mk ⟨_,Gh.back 1 [4] eX ⟨bx,hist++[⟨bx,frm,to,place,day⟩]⟩ rfl hy,?_⟩;cbv;exact .inl (.f9 hK)
     ·obtain rfl:e=8:=by rw[he,aF (by assumption)]
      obtain rfl:M=L:=hM
      (refine .r9 (Gh.back0 1 [4] eX rfl hy) ?_;cbv;exact .inl (.f9 hK))
def EM (L:List cP) (box:bH):bH×bH×Bool:=match kA cP.box L box with
 |some i=>(match L[i]? with
  |some y=>(match y.hist.getLast? with
   |some h=>(h.to,h.place,true)
   |none=>(eS,eS,false))
  |none=>(eS,eS,false))
 |none=>(eS,eS,false)
def U6 (q:bH×bH×Bool):AV:=.tup [.str q.1,.str q.2.1,.bl q.2.2]
def YF:dA:=spec (fun i:List cP×bH=>[.ptr 0 0,.str i.2,.i 1048576]) (fun i=>Gs i.1) (fun i=>iJ i.1) (fun i=>U6 (EM i.1 i.2)) fun i=>Gs i.1
theorem Q1 (P:bI):bM P ZU YF:=by
 intro args H K hc;obtain⟨⟨L,box⟩,rfl,rfl,hok,hK⟩:=hc;refine⟨cL,?_⟩;dsimp only at hok hK;unfold EM at hK;cbv;refine eE cP.box (fun _=>rfl) (fun i y hai hy hky=>?_) (fun hai=>?_)<;>try dsimp only at *
 ·rw[hai]at hK;dsimp only at hK;rw[hy]at hK;dsimp only at hK;have hyok:=hok.ne y (aC hy);have hday:=hok.day y (aC hy);obtain⟨bx,hist⟩:=y;obtain⟨hne1,hlen⟩:=hyok;dsimp only at hne1 hlen hday hK hky;obtain⟨m,hm⟩:∃m:Nat,hist.length=m+1:=⟨hist.length - 1,by have:=List.length_pos_iff.2 hne1;omega⟩
  obtain⟨l,hl⟩:=cK (L:=hist) (i:=m) (by omega);have hgl:hist.getLast?=some l:=by rw[List.getLast?_eq_getElem?,hm];exact hl
  have hld:=hday l (aC hl);rw[hgl]at hK;obtain⟨lbox,lfrm,lto,lplace,lday⟩:=l;dsimp only at hK hld;cbv;repeat'((first|refine .k fun z hz=>?_|fail)<;>cbv)
  obtain rfl:z=nI m:=bQ;refine bS [] (fun p:{ k:Nat // k=0 }=>[(10,.i (nI m))]) (fun _=>[.blk 174 [.ph 1],.pool 172 (bJ eX L) [(i,.hd 2)],.tip 77 5 (bJ dG hist)]) (fun p=>eW 1 p.1) ⟨0,rfl⟩ ?_;rintro ⟨k,hk⟩;cbv;repeat'((first|refine .e ?_|refine .y fun h=>?_|fail)<;>cbv)
  (refine .r9 (Gh.back0 1 [2] eX rfl hy) ?_;cbv;exact .inl (.f9 hK))
 ·rw[hai]at hK;cbv;repeat'((first|refine .k fun z hz=>?_|fail)<;>cbv)
  refine bS [] (fun p:{ k:Nat // k=0 }=>[(10,.i z)]) (fun _=>[.blk 174 [.ph 1],.pool 172 (bJ eX L) []]) (fun p=>eW 1 p.1) ⟨0,rfl⟩ ?_;rintro ⟨k,hk⟩;have hz1:z < 0:=bQ;cbv;repeat'((first|refine .n fun h=>?_|fail)<;>cbv)
  (refine .q9 ?_;cbv;exact .inl (.f9 hK))
def Re:dA:=spec (fun i:List cP×bH=>[.ptr 0 0,.str i.2]) (fun i=>Gs i.1) (fun i=>iJ i.1) (fun i=>U6 (EM i.1 i.2)) fun i=>Gs i.1
theorem MY (P:bI) (ha:bK P 73 YF):bM P x42 Re:=by
 intro args H K hc;obtain⟨⟨L,box⟩,rfl,rfl,hok,hK⟩:=hc;refine⟨cL,?_⟩;dsimp only at hok hK;obtain⟨⟨q1,q2,q3⟩,hq⟩:∃q,q=EM L box:=⟨_,rfl⟩
 rw[←hq]at hK;cbv
 (refine fI ha ((L,box):List cP×bH) [0,1] hok ?_;try dsimp only)
 rw[←hq];cbv
 (refine .q9 ?_;cbv;exact .inl (.f9 hK))
structure A5 (P:bI):Prop where
 s:AnyZ.SortsIn P iV Fence.wide 4
 e9:∀args w,(callFunc (iV.f 9) args).run P w=.ok (.enter (iV.f 9) args) w
 l6:SlLaysZ.n6 P iV
def CH:dA:=spec (fun _:List cP=>[.ptr 0 0]) Gs iJ (fun L=>.sl 1 (bJ .str (dN (L.map cP.box)))) Gs
theorem GU (P:bI) (so:A5 P) (l7:SlLaysZ.n7 P oX):bM P x38 CH:=by
 intro args H K hc;obtain⟨L,rfl,rfl,hp,hK⟩:=hc;refine⟨cL,?_⟩;dsimp only at hp hK⊢;obtain⟨q,hq⟩:∃q,q=dN (L.map cP.box):=⟨_,rfl⟩
 rw[←hq]at hK;cbv;refine yC (ρK:=oX) l7 1 rfl rfl ?_;cbv;refine sI (ρK:=oX) (ρS:=iV) l7 so.l6 so.s so.e9 rfl 2 1 (f:=eX) (L:=L) cP.box (fun _=>rfl) rfl rfl hp.nd (fun a ha=>by have:=(hp.sz a ha).1;unfold maxLen;omega) (by have:=hp.few;omega) rfl ?_;rw[←hq];cbv
 (refine .r9 (Gh.plain 3 rfl) ?_;cbv;exact .inl (.g9 hK))
def A9:dA:=oA (fun _:List cP=>[.ptr 0 0]) Gs iJ (fun L L'=>L'.Perm L) (fun _ _=>.ptr 2 0) fun L L'=>Gs L++[.blk 174 [.ph 3],.pool 172 (bJ eX L') []]
theorem Hr (P:bI) (hnew:bK P 51 Jm) (hcl:bK P 52 (wQ 77 5 72)):bM P CL A9:=by
 intro args H K hc;obtain⟨L,rfl,rfl,hp,hK⟩:=hc;refine⟨cL,?_⟩;dsimp only at hp hK⊢;have hnd:=hp.nd;cbv
 (refine yV hnew () trivial ?_;try dsimp only)
 cbv;repeat'((first|refine .k fun z hz=>?_|fail)<;>cbv)
 obtain⟨n,hn⟩:∃n:Nat,n=L.length:=⟨_,rfl⟩
 obtain rfl:z=nI n:=bQ;refine bS [] (fun q:{ q:List Nat×Nat // tQ L.length q.1∧q.2=q.1.length }=>[]) (fun q=>[.blk 174 [.ph 1],.pool 172 (bJ eX L) [],.blk 174 [.ph 3],.pool 172 (bJ eX (tW L q.1.1)) [],.iter (.ph 1) n q.1.1]) (fun q=>eW 4097 q.1.2) ⟨([],0),.nil,rfl⟩ ?_;rintro ⟨⟨seen,k⟩,hse,hk⟩;dsimp only at hse hk⊢;have hsl:=hse.len;have hfew:=hp.few;obtain⟨L1,hL1⟩:∃l,l=tW L seen:=⟨_,rfl⟩
 rw[←hL1];cbv;refine zG hn (fun i y hy hni=>?_) (fun hall=>?_)<;>try dsimp only at *
 ·have hlen:=(hp.ne y (aC hy)).2;have hse2:=hse.snoc (aA.1 hy).1 hni;have hnew1:=K4 hnd hy hni;have hsn:=Io (seen:=seen) hy;obtain⟨s2,hs2⟩:∃s,s=seen++[i]:=⟨_,rfl⟩
  rw[←hs2]at hse2 hsn⊢;rw[←hL1]at hnew1 hsn;have hlt:k < 4097:=by omega
  have hsk:s2.length=k+1:=by rw[hs2,hk];simp
  obtain⟨bx,hist⟩:=y;dsimp only at hnew1 hsn hlen;cbv;refine uP hs2 hn hy ?_;cbv
  (refine yV hcl _ ⟨by rw[bY];unfold maxLen;omega,by rw[bY];omega⟩ ?_;try dsimp only)
  cbv;refine lS cP.box (fun _=>rfl) hnew1 (fun es n2 hes hn2=>?_);cbv;refine dK (Gh.publish 6 rfl) ?_;cbv;refine dK (Gh.back0 1 [5] eX rfl hy) ?_;cbv;refine dK (Gh.backN2 3 [6] eX ⟨bx,hist⟩ hes hn2 hsn) ?_;cbv;exact bN ⟨(s2,k+1),hse2,hsk.symm⟩ (bO hlt)
 ·have hperm:L1.Perm L:=by rw[hL1];exact K3 hse ‹∀i,i < L.length→i∈seen›
  cbv
  (refine .q9 ?_;cbv;exact .inl (.f9 (hK L1 hperm)))
theorem M8 {s x:bH}(h:Op.bytesLess s.toList x.toList=true∨s=x):hY x s=false:=by
 rw[uS]at h;rcases h with h|rfl
 ·exact aG (fun h2=>List.lt_irrefl _ (List.lt_trans (of_decide_eq_true h) h2))
 ·exact aG (List.lt_irrefl _)
theorem JG {s x:bH}(h:¬(Op.bytesLess s.toList x.toList=true∨s=x)):hY x s=true:=by
 rw[uS,not_or]at h;cases hx:hY x s with
 |true=>rfl
 |false=>
  exfalso;have h1:=qR hx;have h2:=qR (Bool.eq_false_iff.2 h.1);exact h.2 (by rw[←mW s,←mW x];exact congrArg lV (List.le_antisymm h1 h2))
def EX:dA:=spec (fun i:List eC×bH=>[.sl 5 (bJ dG i.1),.str i.2]) (fun _=>[]) (fun i=>i.1.length≤100000) (fun i=>.sl 5 (bJ dG (nE i.1 i.2))) fun _=>[]
theorem IO (H:List eC) (s:bH):(nE H s).length≤H.length:=List.length_filter_le _ _
theorem Hg (P:bI):bM P ZX EX:=by
 intro args H K hc;obtain⟨⟨H,s⟩,rfl,rfl,hp,hK⟩:=hc;refine⟨cL,?_⟩;dsimp only at hp hK⊢;obtain⟨n,hn⟩:∃n:Nat,n=H.length:=⟨_,rfl⟩
 cbv;refine bS [0] (fun p:{ k:Nat // k≤H.length }=>[(5,.hd 0),(6,.i (nI p.1))]) (fun p=>[.row 77 5 (bJ dG (nE (H.take p.1) s))]) (fun p=>eW n p.1) ⟨0,aI _⟩ ?_;rintro ⟨k,hk⟩;dsimp only at hk⊢;obtain⟨L1,hL1⟩:∃l,l=nE (H.take k) s:=⟨_,rfl⟩
 have hl1:L1.length≤H.length:=by rw[hL1];exact Nat.le_trans (IO _ _) (by rw[aS];omega)
 rw[←hL1];rcases aL k H.length with hks|hks
 rotate_left
 ·obtain rfl:k=n:=by omega
  have hL:L1=nE H s:=by rw[hL1,bC (by omega)]
  rw[←hL]at hK;cbv;repeat'((first|refine .n fun h=>?_|refine .k fun z hz=>?_|fail)<;>cbv)
  (refine .r9 (Gh.plain 0 rfl) ?_;cbv;exact .inl (.g9 hK))
 obtain⟨x,hx⟩:=cK hks;have hsn:=kK (H.take k) x s;rw[←dC hx,←hL1]at hsn;obtain⟨box,frm,to,place,day⟩:=x;dsimp only at hsn;cbv;repeat'((first|refine .e ?_|refine .y fun h=>?_|refine .mk (fun h=>?_) fun h=>?_|refine .k fun z hz=>?_|refine .zl fun zs hzs hzl=>?_|fail)<;>cbv)
 ·rw[aF (by assumption)]at hsn;obtain rfl:z=nI (k+1):=bQ;obtain rfl:zs=bJ dG (nE (H.take (k+1)) s):=by(rw[hsn,cD,cF];exact hzs)
  exact bN ⟨k+1,hks⟩ (bO (by omega))
 ·rw[aE (by assumption),List.append_nil]at hsn;obtain rfl:z=nI (k+1):=bQ;rw[←hsn];exact bN ⟨k+1,hks⟩ (bO (by omega))
def Ob:dA:=spec (fun i:List bH×bH=>[.sl 1 (bJ .str i.1),.str i.2]) (fun _=>[]) (fun i=>i.1.length≤100000) (fun i=>.sl 1 (bJ .str (oF i.1 i.2))) fun _=>[]
structure XL (l:List bH) (s:bH) (q:List bH) (p:Nat×Bool×List bH):Prop where
 le:p.1≤l.length
 eq:p.2.2++mS s p.2.1 (l.drop p.1)=q
 len:p.2.2.length≤p.1+bif p.2.1 then 1 else 0
theorem G7 (P:bI):bM P oD Ob:=by
 intro args H K hc;obtain⟨⟨l,s⟩,rfl,rfl,hp,hK⟩:=hc;refine⟨cL,?_⟩;dsimp only at hp hK⊢;obtain⟨n,hn⟩:∃n:Nat,n=l.length:=⟨_,rfl⟩
 obtain⟨q,hq⟩:∃q,q=oF l s:=⟨_,rfl⟩
 rw[←hq]at hK;cbv;refine bS [0] (fun p:{ p:Nat×Bool×List bH // XL l s q p }=>[(5,.hd 0),(6,.bl p.1.2.1),(7,.i (nI p.1.1))]) (fun p=>[.row 9 1 (bJ .str p.1.2.2)]) (fun p=>eW n p.1.1) ⟨(0,false,[]),⟨aI _,by rw[hq];rfl,aI _⟩⟩ ?_;rintro ⟨⟨k,d,out⟩,⟨hk,ho,hol⟩⟩;dsimp only at hk ho hol⊢;rcases aL k l.length with hks|hks
 rotate_left
 ·obtain rfl:k=n:=by omega
  rw[List.drop_of_length_le (by omega)]at ho;have hol2:out.length≤k+1:=by cases d;exact Nat.le_succ_of_le hol;exact hol
  cases d with
  |true=>
   obtain rfl:out=q:=by rw[←ho];exact(List.append_nil _).symm
   cbv;repeat'((first|refine .n fun h=>?_|refine .k fun z hz=>?_|fail)<;>cbv)
   (refine .r9 (Gh.plain 0 rfl) ?_;cbv;exact .inl (.g9 hK))
  |false=>
   cbv;repeat'((first|refine .n fun h=>?_|refine .k fun z hz=>?_|refine .zl fun zs hzs hzl=>?_|fail)<;>cbv)
   obtain rfl:zs=bJ .str q:=by(rw[←ho];show zs=bJ AV.str (out++[s]);rw[cD,cF];exact hzs)
   (refine .r9 (Gh.plain 0 rfl) ?_;cbv;exact .inl (.g9 hK))
 obtain⟨x,hx⟩:=cK hks;have hdr:l.drop k=x :: l.drop (k+1):=by
  obtain⟨h1,rfl⟩:=aA.1 hx;exact List.drop_eq_getElem_cons h1
 rw[hdr]at ho;unfold mS at ho;cases d with
 |true=>
  have hol:out.length≤k+1:=hol;simp only[Bool.not_true,Bool.false_and,aZ,if_false,List.nil_append,Bool.true_or]at ho;cbv;repeat'((first|refine .e ?_|refine .y fun h=>?_|refine .mk (fun h=>?_) fun h=>?_|refine .k fun z hz=>?_|refine .zl fun zs hzs hzl=>?_|fail)<;>cbv)
  ·rw[aF (by assumption)]at ho;obtain rfl:z=nI (k+1):=bQ;exact bN ⟨(k+1,true,out),⟨hks,ho,by(show out.length≤k+1+1;omega)⟩⟩ (bO (by omega))
  ·rw[aE (by assumption)]at ho;obtain rfl:z=nI (k+1):=bQ;obtain rfl:zs=bJ .str (out++[x]):=by(rw[cD,cF];exact hzs)
   exact bN ⟨(k+1,true,out++[x]),⟨hks,by(show out++[x]++_=q;rw[bG];exact ho),by(show (out++[x]).length≤k+1+1;simp;omega)⟩⟩ (bO (by omega))
 |false=>
  have hol:out.length≤k:=hol;simp only[Bool.not_false,Bool.true_and,Bool.false_or]at ho;cbv;repeat'((first|refine .e ?_|refine .y fun h=>?_|refine .mk (fun h=>?_) fun h=>?_|refine .k fun z hz=>?_|refine .zl fun zs hzs hzl=>?_|fail)<;>cbv)
  ·rw[M8 (by assumption),aF (by rfl),aF (by assumption)]at ho;obtain rfl:z=nI (k+1):=bQ;obtain rfl:zs=bJ .str (out++[s]):=by(rw[cD,cF];exact hzs)
   exact bN ⟨(k+1,true,out++[s]),⟨hks,by(show out++[s]++_=q;rw[bG];exact ho),by(show (out++[s]).length≤k+1+1;simp;omega)⟩⟩ (bO (by omega))
  ·rw[M8 (by assumption),aF (by rfl),aE (by assumption)]at ho;obtain rfl:z=nI (k+1):=bQ;obtain rfl:zs=bJ .str (out++[s]++[x]):=by(rw[cD,cF,cD,cF];subst_vars;rfl)
   exact bN ⟨(k+1,true,out++[s]++[x]),⟨hks,by(show out++[s]++[x]++_=q;rw[bG,bG];exact ho),by(show (out++[s]++[x]).length≤k+1+1;simp;omega)⟩⟩ (bO (by omega))
  ·rw[JG (by assumption),aE (by decide),aF (by assumption)]at ho;obtain rfl:z=nI (k+1):=bQ;exact bN ⟨(k+1,false,out),⟨hks,ho,by(show out.length≤k+1;omega)⟩⟩ (bO (by omega))
  ·rw[JG (by assumption),aE (by decide),aE (by assumption)]at ho;obtain rfl:z=nI (k+1):=bQ;obtain rfl:zs=bJ .str (out++[x]):=by(rw[cD,cF];exact hzs)
   exact bN ⟨(k+1,false,out++[x]),⟨hks,by(show out++[x]++_=q;rw[bG];exact ho),by(show (out++[x]).length≤k+1;simp;omega)⟩⟩ (bO (by omega))
def zD:dA:=spec (fun H:List eC=>[.sl 5 (bJ dG H)]) (fun _=>[]) (fun H=>H.length≤100000) (fun H=>.sl 1 (bJ .str (kP H))) fun _=>[]
theorem Eg (l:List bH) (s:bH):(oF l s).length≤l.length+1:=by
 have h:∀(l:List bH) (d:Bool),(mS s d l).length≤l.length+(if d=true then 0 else 1):=by
  intro l
  induction l with
  |nil=>intro d;cases d<;>simp[mS]
  |cons x r ih=>
   intro d;unfold mS;have h1:=ih (d || !hY x s);have h2:(if x=s then ([]:List bH) else [x]).length≤1:=by split<;>simp
   rw[aM,aM,List.length_cons];cases d with
   |true=>
    simp only[Bool.not_true,Bool.false_and,aZ,if_false,List.length_nil,Bool.true_or,if_true]at h1⊢;omega
   |false=>
    cases hl:hY x s with
    |true=>rw[hl]at h1;simp at h1⊢;omega
    |false=>rw[hl]at h1;simp at h1⊢;omega
 exact h l false
theorem Hv:∀(H:List eC),(kP H).length≤H.length:=by
 have h:∀(H:List eC) (l:List bH),(H.foldl (fun l h=>oF l h.box) l).length≤l.length+H.length:=by
  intro H
  induction H with
  |nil=>intro l;exact aN _
  |cons a H ih=>
   intro l;have h1:=ih (oF l a.box);have h2:=Eg l a.box;rw[List.foldl_cons,List.length_cons];omega
 intro H;have:=h H [];simpa [kP]using this
theorem Dv (P:bI) (hp:bK P 62 Ob):bM P Z1 zD:=by
 intro args H0 K hc;obtain⟨H,rfl,rfl,hb,hK⟩:=hc;refine⟨cL,?_⟩;dsimp only at hb hK⊢;obtain⟨n,hn⟩:∃n:Nat,n=H.length:=⟨_,rfl⟩
 cbv;refine gH (Gh.plain 0 rfl) ?_;cbv;refine bS [] (fun p:{ k:Nat // k≤H.length }=>[(3,.sl 1 (bJ .str (kP (H.take p.1)))),(4,.i (nI p.1))]) (fun p=>[]) (fun p=>eW n p.1) ⟨0,aI _⟩ ?_;rintro ⟨k,hk⟩;dsimp only at hk⊢;obtain⟨L1,hL1⟩:∃l,l=kP (H.take k):=⟨_,rfl⟩
 have hl1:L1.length≤H.length:=by rw[hL1];exact Nat.le_trans (Hv _) (by rw[aS];omega)
 rw[←hL1];rcases aL k H.length with hks|hks
 rotate_left
 ·obtain rfl:k=n:=by omega
  have hL:L1=kP H:=by rw[hL1,bC (by omega)]
  rw[←hL]at hK;cbv;repeat'((first|refine .n fun h=>?_|refine .k fun z hz=>?_|fail)<;>cbv)
  (refine .q9 ?_;cbv;exact .inl (.f9 hK))
 obtain⟨x,hx⟩:=cK hks;have hsn:kP (H.take (k+1))=oF L1 x.box:=by
  rw[dC hx,hL1];unfold kP;rw[List.foldl_append];rfl
 obtain⟨box,frm,to,place,day⟩:=x;dsimp only at hsn;cbv;repeat'((first|refine .e ?_|refine .y fun h=>?_|refine .k fun z hz=>?_|fail)<;>cbv)
 (refine bX hp ((L1,box):List bH×bH) (by dsimp only;omega) ?_;try dsimp only)
 rw[←hsn];cbv;repeat'((first|refine .k fun z hz=>?_|fail)<;>cbv)
 obtain rfl:z=nI (k+1):=bQ;exact bN ⟨k+1,hks⟩ (bO (by omega))
theorem D0 (P:bI) (hn:bK P 204 (iL (fun s=>s.size≤maxLen) bT)):bM P Xm (iL (fun s=>s.size≤maxLen) bT):=by
 intro args H K hc;obtain⟨s,rfl,rfl,hp,hK⟩:=hc;refine⟨cL,?_⟩;dsimp only at hp hK⊢;obtain⟨b,hb⟩:∃b,b=bT s:=⟨_,rfl⟩
 rw[←hb]at hK;cbv
 (refine bX hn s hp ?_;try dsimp only)
 rw[←hb];cbv
 (refine .q9 ?_;cbv;exact .inl (.f9 hK))
theorem Fm (P:bI):bM P Yq xK:=by
 intro args H K hc;obtain⟨d,rfl,rfl,hp,hK⟩:=hc;refine⟨cL,?_⟩;dsimp only at hp hK⊢;have hd:gK d=(decide (0≤d) && decide (d≤1048576)):=rfl;obtain⟨q,hq⟩:∃q,q=gK d:=⟨_,rfl⟩
 rw[←hq]at hK hd;cbv;repeat'((first|refine .mk (fun h=>?_) fun h=>?_|fail)<;>cbv)
 all_goals exact bZ.mk ⟨_,Gh.refl _,.inl (.v9 (cE hK (by(rw[hd];simp;omega))))⟩
def Bx:Oo→AV
 |⟨name,value⟩=>.agg [.str name,.str value]
def tG:Lw→AV
 |⟨kind,number,issuer,fields⟩=>.agg [.i kind,.str number,.str issuer,.sl 2 (bJ Bx fields)]
def eL:dQ→AV
 |⟨frm,to,number,kind,ack,deal,text,party,index,day,cur,amt,docs,boxes⟩=>.agg [.str frm,.str to,.i number,.i kind,.i ack,.str deal,.str text,.str party,.i index,.i day,.str cur,.i amt,.sl 4 (bJ tG docs),.sl 1 (bJ .str boxes)]
theorem oW.r {s:bH}{a b:Unit→Prop}(k:a ()):oW s s a b:=⟨fun _=>k,fun h=>absurd rfl h⟩
theorem pS.r {p:Prop}{a b:Unit→Prop}(k:a ()) (d:p:=by simp):pS p a b:=⟨fun _=>k,fun h=>absurd d h⟩
def G0:dA:=spec (fun l:List Oo=>[.sl 2 (bJ Bx l),.sl 2 (bJ Bx l)]) (fun _=>[]) (fun l=>l.length≤1000) (fun _=>.bl true) fun _=>[]
theorem Id (P:bI):bM P YB G0:=by
 intro args H K hc;obtain⟨l,rfl,rfl,hp,hK⟩:=hc;refine⟨cL,?_⟩;dsimp only at hp hK⊢;obtain⟨n,hn⟩:∃n:Nat,n=l.length:=⟨_,rfl⟩
 cbv;repeat'((first|refine .y fun h=>?_|refine .k fun z hz=>?_|fail)<;>cbv)
 refine bS [] (fun p:{ k:Nat // k≤l.length }=>[(5,.i (nI p.1))]) (fun _=>[]) (fun p=>eW 1000 p.1) ⟨0,aI _⟩ ?_;rintro ⟨k,hk⟩;dsimp only at hk⊢;rcases aL k l.length with hks|hks
 rotate_left
 ·obtain rfl:k=n:=by omega
  cbv;repeat'((first|refine .n fun h=>?_|refine .k fun z hz=>?_|fail)<;>cbv)
  (refine .q9 ?_;cbv;exact .inl (.f9 hK))
 obtain⟨⟨name,value⟩,hx⟩:=cK hks;cbv;repeat'((first|refine oW.r ?_|refine pS.r ?_|(first|refine .e ?_|refine .y fun h=>?_|refine .k fun z hz=>?_|fail))<;>cbv)
 obtain rfl:z=nI (k+1):=bQ;exact bN ⟨k+1,hks⟩ (bO (by omega))
def G2:dA:=spec (fun l:List eC=>[.sl 5 (bJ dG l),.sl 5 (bJ dG l)]) (fun _=>[]) (fun l=>l.length≤100000) (fun _=>.bl true) fun _=>[]
theorem EF (P:bI):bM P ZK G2:=by
 intro args H K hc;obtain⟨l,rfl,rfl,hp,hK⟩:=hc;refine⟨cL,?_⟩;dsimp only at hp hK⊢;obtain⟨n,hn⟩:∃n:Nat,n=l.length:=⟨_,rfl⟩
 cbv;repeat'((first|refine .y fun h=>?_|refine .k fun z hz=>?_|fail)<;>cbv)
 refine bS [] (fun p:{ k:Nat // k≤l.length }=>[(5,.i (nI p.1))]) (fun _=>[]) (fun p=>eW n p.1) ⟨0,aI _⟩ ?_;rintro ⟨k,hk⟩;dsimp only at hk⊢;rcases aL k l.length with hks|hks
 rotate_left
 ·obtain rfl:k=n:=by omega
  cbv;repeat'((first|refine .n fun h=>?_|refine .k fun z hz=>?_|fail)<;>cbv)
  (refine .q9 ?_;cbv;exact .inl (.f9 hK))
 obtain⟨⟨box,frm,to,place,day⟩,hx⟩:=cK hks;cbv;repeat'((first|refine oW.r ?_|refine pS.r ?_|(first|refine .e ?_|refine .y fun h=>?_|refine .k fun z hz=>?_|fail))<;>cbv)
 obtain rfl:z=nI (k+1):=bQ;exact bN ⟨k+1,hks⟩ (bO (by omega))
def HE:dA:=spec (fun l:List bH=>[.sl 1 (bJ .str l),.sl 1 (bJ .str l)]) (fun _=>[]) (fun l=>l.length≤100000) (fun _=>.bl true) fun _=>[]
theorem DL (P:bI):bM P ZH HE:=by
 intro args H K hc;obtain⟨l,rfl,rfl,hp,hK⟩:=hc;refine⟨cL,?_⟩;dsimp only at hp hK⊢;obtain⟨n,hn⟩:∃n:Nat,n=l.length:=⟨_,rfl⟩
 cbv;repeat'((first|refine .y fun h=>?_|refine .k fun z hz=>?_|fail)<;>cbv)
 refine bS [] (fun p:{ k:Nat // k≤l.length }=>[(5,.i (nI p.1))]) (fun _=>[]) (fun p=>eW n p.1) ⟨0,aI _⟩ ?_;rintro ⟨k,hk⟩;dsimp only at hk⊢;rcases aL k l.length with hks|hks
 rotate_left
 ·obtain rfl:k=n:=by omega
  cbv;repeat'((first|refine .n fun h=>?_|refine .k fun z hz=>?_|fail)<;>cbv)
  (refine .q9 ?_;cbv;exact .inl (.f9 hK))
 obtain⟨x,hx⟩:=cK hks;cbv;repeat'((first|refine oW.r ?_|refine pS.r ?_|(first|refine .e ?_|refine .y fun h=>?_|refine .k fun z hz=>?_|fail))<;>cbv)
 obtain rfl:z=nI (k+1):=bQ;exact bN ⟨k+1,hks⟩ (bO (by omega))
def Ii:dA:=spec (fun d:Lw=>[tG d,tG d]) (fun _=>[]) (fun d=>d.fields.length≤1000) (fun _=>.bl true) fun _=>[]
theorem EU (P:bI) (hs:bK P 180 G0):bM P Yt Ii:=by
 intro args H K hc;obtain⟨⟨kind,number,issuer,fields⟩,rfl,rfl,hp,hK⟩:=hc;refine⟨cL,?_⟩;dsimp only at hp hK⊢;cbv;repeat'((first|refine oW.r ?_|refine pS.r ?_|(first|refine .y fun h=>?_|fail))<;>cbv)
 (refine bX hs fields hp ?_;try dsimp only)
 cbv;repeat'((first|refine oW.r ?_|refine pS.r ?_|(first|fail))<;>cbv)
 (refine .q9 ?_;cbv;exact .inl (.f9 hK))
def tM (l:dQ):Prop:=l.docs.length≤1000∧l.boxes.length≤1000∧∀d∈l.docs,d.fields.length≤1000
def HX:dA:=spec (fun l:dQ=>[eL l,eL l]) (fun _=>[]) tM (fun _=>.bl true) fun _=>[]
theorem G9 (P:bI) (ha:bK P 139 Ii):bM P x98 HX:=by
 intro args H K hc;obtain⟨⟨frm,to,number,kind,ack,deal,text,party,index,day,cur,amt,docs,boxes⟩,rfl,rfl,hp,hK⟩:=hc;refine⟨cL,?_⟩;dsimp only at hp hK⊢;obtain⟨h1,h2,h3⟩:=hp;dsimp only at h1 h2 h3;obtain⟨n,hn⟩:∃n:Nat,n=docs.length:=⟨_,rfl⟩
 obtain⟨m,hm⟩:∃m:Nat,m=boxes.length:=⟨_,rfl⟩
 cbv;repeat'((first|refine oW.r ?_|refine pS.r ?_|(first|refine .y fun h=>?_|refine .k fun z hz=>?_|fail))<;>cbv)
 refine bS [] (fun p:{ k:Nat // k≤docs.length }=>[(5,.i (nI p.1))]) (fun _=>[.blk 58 [.str frm,.str to,.i number,.i kind,.i ack,.str deal,.str text,.str party,.i index,.i day,.str cur,.i amt,.sl 4 (bJ tG docs),.sl 1 (bJ .str boxes)],.blk 58 [.str frm,.str to,.i number,.i kind,.i ack,.str deal,.str text,.str party,.i index,.i day,.str cur,.i amt,.sl 4 (bJ tG docs),.sl 1 (bJ .str boxes)]]) (fun p=>eW 1000 p.1) ⟨0,aI _⟩ ?_;rintro ⟨k,hk⟩;dsimp only at hk⊢;rcases aL k docs.length with hks|hks
 ·obtain⟨⟨dk,dn,di,df⟩,hx⟩:=cK hks;have hfl:=h3 _ (aC hx);dsimp only at hfl;cbv;repeat'((first|refine oW.r ?_|refine pS.r ?_|(first|refine .e ?_|refine .y fun h=>?_|refine .k fun z hz=>?_|fail))<;>cbv)
  (refine bX ha (⟨dk,dn,di,df⟩:Lw) hfl ?_;try dsimp only)
  cbv;repeat'((first|refine oW.r ?_|refine pS.r ?_|(first|refine .k fun z hz=>?_|fail))<;>cbv)
  obtain rfl:z=nI (k+1):=bQ;exact bN ⟨k+1,hks⟩ (bO (by omega))
 ·obtain rfl:k=n:=by omega
  cbv;repeat'((first|refine oW.r ?_|refine pS.r ?_|(first|refine .n fun h=>?_|refine .k fun z hz=>?_|fail))<;>cbv)
  refine bS [] (fun p:{ k:Nat // k≤boxes.length }=>[(6,.i (nI p.1))]) (fun _=>[.blk 58 [.str frm,.str to,.i number,.i kind,.i ack,.str deal,.str text,.str party,.i index,.i day,.str cur,.i amt,.sl 4 (bJ tG docs),.sl 1 (bJ .str boxes)],.blk 58 [.str frm,.str to,.i number,.i kind,.i ack,.str deal,.str text,.str party,.i index,.i day,.str cur,.i amt,.sl 4 (bJ tG docs),.sl 1 (bJ .str boxes)]]) (fun p=>eW 1000 p.1) ⟨0,aI _⟩ ?_;rintro ⟨j,hj⟩;dsimp only at hj⊢;rcases aL j boxes.length with hjs|hjs
  ·obtain⟨x,hx⟩:=cK hjs;cbv;repeat'((first|refine oW.r ?_|refine pS.r ?_|(first|refine .e ?_|refine .y fun h=>?_|refine .k fun z hz=>?_|fail))<;>cbv)
   obtain rfl:z=nI (j+1):=bQ;exact bN ⟨j+1,hjs⟩ (bO (by omega))
  ·obtain rfl:j=m:=by omega
   cbv;repeat'((first|refine oW.r ?_|refine pS.r ?_|(first|refine .n fun h=>?_|refine .k fun z hz=>?_|fail))<;>cbv)
   (refine .q9 ?_;cbv;exact .inl (.f9 hK))
def MS:dA:=spec (fun l:List dQ=>[.sl 14 (bJ eL l),.sl 14 (bJ eL l)]) (fun _=>[]) (fun l=>l.length≤1000∧∀x∈l,tM x) (fun _=>.bl true) fun _=>[]
theorem KJ (P:bI) (hs:bK P 98 HX):bM P Zx MS:=by
 intro args H K hc;obtain⟨l,rfl,rfl,hp,hK⟩:=hc;refine⟨cL,?_⟩;dsimp only at hp hK⊢;obtain⟨hll,hal⟩:=hp;obtain⟨n,hn⟩:∃n:Nat,n=l.length:=⟨_,rfl⟩
 cbv;repeat'((first|refine .y fun h=>?_|refine .k fun z hz=>?_|fail)<;>cbv)
 refine bS [] (fun p:{ k:Nat // k≤l.length }=>[(5,.i (nI p.1))]) (fun _=>[]) (fun p=>eW 1000 p.1) ⟨0,aI _⟩ ?_;rintro ⟨k,hk⟩;dsimp only at hk⊢;rcases aL k l.length with hks|hks
 rotate_left
 ·obtain rfl:k=n:=by omega
  cbv;repeat'((first|refine .n fun h=>?_|refine .k fun z hz=>?_|fail)<;>cbv)
  (refine .q9 ?_;cbv;exact .inl (.f9 hK))
 obtain⟨x,hx⟩:=cK hks;have hok:=hal x (aC hx);obtain⟨frm,to,number,kind,ack,deal,text,party,index,day,cur,amt,docs,boxes⟩:=x;cbv;repeat'((first|refine .e ?_|refine .y fun h=>?_|refine .k fun z hz=>?_|fail)<;>cbv)
 (refine bX hs (⟨frm,to,number,kind,ack,deal,text,party,index,day,cur,amt,docs,boxes⟩:dQ) hok ?_;try dsimp only)
 cbv;repeat'((first|refine .k fun z hz=>?_|fail)<;>cbv)
 obtain rfl:z=nI (k+1):=bQ;exact bN ⟨k+1,hks⟩ (bO (by omega))
theorem nK {s:bH}{k:Nat}{c:Int}{K:Int→Prop}(h:k < s.size) (hc:c=((s[k]'h).toNat:Int)) (hk:K c):zA s (nI k) K:=dI h fun z hz=>by
 obtain rfl:c=z:=hc.trans hz.symm;exact hk
theorem Fq (P:bI):bM P Xn (iL (fun s=>s.size≤maxLen) bT):=by
 intro args H K hc;obtain⟨s,rfl,rfl,hp,hK⟩:=hc;refine⟨cL,?_⟩;dsimp only at hp hK⊢;unfold maxLen at hp;obtain⟨n,hn⟩:∃n,n=s.size:=⟨_,rfl⟩
 cbv;refine bS [] (fun p:{ k:Nat // k≤s.size∧jQ s k }=>[(3,.i (nI p.1))]) (fun _=>[]) (fun p=>eW n p.1) ⟨0,aI _,kV s⟩ ?_;rintro ⟨k,hk,hf⟩;dsimp only at hk hf⊢;rcases aL k s.size with hks|hks
 rotate_left
 ·obtain rfl:n=k:=by omega
  rw[hn]at hf;cbv;repeat'((first|refine .n fun h=>?_|refine .mk (fun h=>?_) fun h=>?_|refine .k fun z hz=>?_|fail)<;>cbv)
  ·exact bZ.mk ⟨_,Gh.refl _,.inl (.v9 (cE hK (by(rw[pN hf bQ bQ]))))⟩
  ·exact bZ.mk ⟨_,Gh.refl _,.inl (.v9 (cE hK (by(rw[fT bQ]))))⟩
  ·exact bZ.mk ⟨_,Gh.refl _,.inl (.v9 (cE hK (by(rw[fT bQ]))))⟩
 obtain⟨c,hc⟩:∃c,c=((s[k]'hks).toNat:Int):=⟨_,rfl⟩
 have hch:=Jh (c:=s[k]) hc;unfold lL iU at hch;cbv;repeat'((first|refine .y fun h=>?_|refine .k fun z hz=>?_|fail)<;>cbv)
 refine nK hks hc ?_;cbv;repeat'((first|refine .mk (fun h=>?_) fun h=>?_|fail)<;>cbv)
 all_goals(try(refine nK hks hc ?_;cbv;repeat'((first|refine .mk (fun h=>?_) fun h=>?_|refine .k fun z hz=>?_|fail)<;>cbv)))
 all_goals(try(refine nK hks hc ?_;cbv;repeat'((first|refine .n fun h=>?_|refine .mk (fun h=>?_) fun h=>?_|refine .k fun z hz=>?_|fail)<;>cbv)))
 all_goals(try(refine nK hks hc ?_;cbv;repeat'((first|refine .n fun h=>?_|refine .y fun h=>?_|fail)<;>cbv)))
 all_goals(try(refine nK hks hc ?_;cbv;repeat'((first|refine .n fun h=>?_|fail)<;>cbv)))
 all_goals first
  |(obtain rfl:z=nI (k+1):=bQ
    exact bN ⟨k+1,hks,fE hks hf (by rw[hch];simp;omega)⟩ (bO (by omega)))
  |exact bZ.mk ⟨_,Gh.refl _,.inl (.v9 (cE hK (by(rw[rT hks (by rw[hch];simp;omega)]))))⟩
set_option maxHeartbeats 4000000
structure Y2 where
 good:bH
 count:Int
structure IP where
 mark:bH
 kind:Int
 lots:List Y2
structure jD where
 number:bH
 seller:bH
 buyer:bH
 carrier:bH
 issuer:bH
 house:bH
 insurer:bH
 frm:bH
 to:bH
 cur:bH
 amt:Int
 boxes:List IP
 term:Int
 latest:Int
 expiry:Int
 tenor:Int
 duty:Int
structure Gn where
 name:bH
 bank:bH
 kind:Int
structure Xe where
 account:bH
 currency:bH
 amount:Int
structure jC where
 parties:List Gn
 deals:List jD
 funds:List Xe
 rest:List Int
 holidays:List Int
def WD:Y2→AV
 |⟨good,count⟩=>.agg [.str good,.i count]
def F6:IP→AV
 |⟨mark,kind,lots⟩=>.agg [.str mark,.i kind,.sl 2 (bJ WD lots)]
def jS:jD→AV
 |⟨number,seller,buyer,carrier,issuer,house,insurer,frm,to,cur,amt,boxes,term,latest,expiry,tenor,duty⟩=>.agg [.str number,.str seller,.str buyer,.str carrier,.str issuer,.str house,.str insurer,.str frm,.str to,.str cur,.i amt,.sl 3 (bJ F6 boxes),.i term,.i latest,.i expiry,.i tenor,.i duty]
def lE:Gn→AV
 |⟨name,bank,kind⟩=>.agg [.str name,.str bank,.i kind]
def lK:Xe→AV
 |⟨account,currency,amount⟩=>.agg [.str account,.str currency,.i amount]
def dO (z:Int):AV:=.i z
def Jq:jC→AV
 |⟨parties,deals,funds,rest,holidays⟩=>.agg [.sl 3 (bJ lE parties),.sl 17 (bJ jS deals),.sl 3 (bJ lK funds),.sl 1 (bJ dO rest),.sl 1 (bJ dO holidays)]
def jD.marks (d:jD):List bH:=d.boxes.map IP.mark
def jD.de (d:jD):De:=⟨d.number,d.seller,d.buyer,d.carrier,d.house,d.frm,d.to,d.marks⟩
def jC.su (s:jC):Su:=⟨s.parties.map Gn.name,s.deals.map jD.de⟩
structure Gq (d:jD):Prop where
 bx:d.boxes.length≤70
 mks:∀b∈d.boxes,b.mark.size≤60
 sz:d.number.size≤300∧d.seller.size≤300∧d.buyer.size≤300∧d.carrier.size≤300∧d.house.size≤300∧d.frm.size≤300∧d.to.size≤300
structure nP (s:jC):Prop where
 pa:s.parties.length≤20
 de:s.deals.length≤8
 pn:∀p∈s.parties,p.name.size≤60
 ok:∀d∈s.deals,Gq d
def Y8 (l:List Gn) (s:bH) (k:Nat):Prop:=∀j y,j < k→l[j]?=some y→¬y.name=s
theorem Uw {l:List Gn}{s:bH}(h:Y8 l s l.length):kY (l.map Gn.name) s=false:=by
 unfold kY;rw[List.any_eq_false];intro x hx;obtain⟨p,hp,rfl⟩:=aX.1 hx;obtain⟨j,hj⟩:=aV hp;simpa using h j p (aA.1 hj).1 hj
theorem Qx {l:List Gn}{s:bH}{k:Nat}{y:Gn}(hy:l[k]?=some y) (h:y.name=s):kY (l.map Gn.name) s=true:=by
 unfold kY;rw[List.any_eq_true];exact⟨y.name,aX.2 ⟨y,aC hy,rfl⟩,by simpa using h⟩
def nD:dA:=spec (fun i:jC×bH=>[Jq i.1,.str i.2]) (fun _=>[]) (fun i=>i.1.parties.length≤20) (fun i=>.bl (kY i.1.su.parties i.2)) fun _=>[]
theorem Hx (P:bI):bM P Z3 nD:=by
 intro args H K hc;obtain⟨⟨⟨parties,deals,funds,rest,holidays⟩,s⟩,rfl,rfl,hp,hK⟩:=hc;refine⟨cL,?_⟩;dsimp only at hp hK⊢;obtain⟨q,hq⟩:∃q,q=kY (parties.map Gn.name) s:=⟨_,rfl⟩
 have hK:K (.bl (kY (parties.map Gn.name) s)) []:=hK;rw[←hq]at hK;obtain⟨n,hn⟩:∃n:Nat,n=parties.length:=⟨_,rfl⟩
 cbv;refine bS [] (fun p:{ k:Nat // k≤parties.length∧Y8 parties s k }=>[(5,.i (nI p.1))]) (fun _=>[.blk 29 [.sl 3 (bJ lE parties),.sl 17 (bJ jS deals),.sl 3 (bJ lK funds),.sl 1 (bJ dO rest),.sl 1 (bJ dO holidays)]]) (fun p=>eW n p.1) ⟨0,aI _,fun j y h=>absurd h (Nat.not_lt_zero j)⟩ ?_;rintro ⟨k,hk,hf⟩;dsimp only at hk hf⊢;rcases aL k parties.length with hks|hks
 rotate_left
 ·obtain rfl:k=n:=by omega
  rw[hn]at hf;cbv;repeat'((first|refine .n fun h=>?_|refine .k fun z hz=>?_|fail)<;>cbv)
  (refine .q9 ?_;cbv;exact .inl (.f9 (cE hK (by rw[hq,Uw hf]))))
 obtain⟨⟨pn,pb,pk⟩,hx⟩:=cK hks;cbv;repeat'((first|refine .e ?_|refine .y fun h=>?_|refine .mk (fun h=>?_) fun h=>?_|refine .k fun z hz=>?_|fail)<;>cbv)
 ·(refine .q9 ?_;cbv;exact .inl (.f9 (cE hK (by rw[hq,Qx hx (by assumption)]))))
 ·obtain rfl:z=nI (k+1):=bQ;exact bN ⟨k+1,hks,fun j y hj hy=>(by
     rcases aL j k with h1|h1
     ·exact hf j y h1 hy
     ·obtain rfl:j=k:=by omega
      rw[hx]at hy;cases hy;assumption)⟩ (bO (by omega))
def Xb (l:List jD) (name s:bH) (k:Nat):Prop:=∀j y,j < k→l[j]?=some y→¬(y.carrier=name∧y.number=s)
def Sq (o:Option Nat):Int:=match o with
 |some i=>Int.ofNat i
 |none=>-1
theorem ON {l:List jD}{P:List bH}{name s:bH}(h:Xb l name s l.length):dP ⟨P,l.map jD.de⟩ name s=none:=by
 unfold dP;rw[List.findIdx?_eq_none_iff];intro x hx;obtain⟨d,hd,rfl⟩:=aX.1 hx;obtain⟨j,hj⟩:=aV hd;have:=h j d (aA.1 hj).1 hj;rw[not_and]at this;by_cases h1:d.carrier=name
 ·have h2:=this h1;show (decide (d.carrier=name) && decide (d.number=s))=false;rw[aG h2,Bool.and_false]
 ·show (decide (d.carrier=name) && decide (d.number=s))=false;rw[aG h1,Bool.false_and]
theorem LQ {l:List jD}{P:List bH}{name s:bH}{k:Nat}{y:jD}(h:Xb l name s k) (hy:l[k]?=some y) (h1:y.carrier=name) (h2:y.number=s):dP ⟨P,l.map jD.de⟩ name s=some k:=by
 unfold dP;rw[List.findIdx?_eq_some_iff_getElem];obtain⟨hk,rfl⟩:=aA.1 hy;refine⟨by rw[aJ];exact hk,?_,fun j hj=>?_⟩
 ·rw[List.getElem_map];show (decide (l[k].carrier=name) && decide (l[k].number=s))=true;rw[aH h1,aH h2];rfl
 ·rw[List.getElem_map];have hjl:j < l.length:=by omega
  have:=h j l[j] hj (aB hjl);show ¬(decide (l[j].carrier=name) && decide (l[j].number=s))=true;simpa using this
def nV:dA:=spec (fun i:jC×bH×bH=>[Jq i.1,.str i.2.1,.str i.2.2]) (fun _=>[]) (fun i=>i.1.deals.length≤8) (fun i=>.i (Sq (dP i.1.su i.2.1 i.2.2))) fun _=>[]
theorem Lx (P:bI):bM P ZO nV:=by
 intro args H K hc;obtain⟨⟨⟨parties,deals,funds,rest,holidays⟩,name,s⟩,rfl,rfl,hp,hK⟩:=hc;refine⟨cL,?_⟩;dsimp only at hp hK⊢;obtain⟨q,hq⟩:∃q,q=dP ⟨parties.map Gn.name,deals.map jD.de⟩ name s:=⟨_,rfl⟩
 have hK:K (.i (Sq (dP ⟨parties.map Gn.name,deals.map jD.de⟩ name s))) []:=hK;rw[←hq]at hK;obtain⟨n,hn⟩:∃n:Nat,n=deals.length:=⟨_,rfl⟩
 cbv;refine bS [] (fun p:{ k:Nat // k≤deals.length∧Xb deals name s k }=>[(7,.i (nI p.1))]) (fun _=>[.blk 29 [.sl 3 (bJ lE parties),.sl 17 (bJ jS deals),.sl 3 (bJ lK funds),.sl 1 (bJ dO rest),.sl 1 (bJ dO holidays)]]) (fun p=>eW n p.1) ⟨0,aI _,fun j y h=>absurd h (Nat.not_lt_zero j)⟩ ?_;rintro ⟨k,hk,hf⟩;dsimp only at hk hf⊢;rcases aL k deals.length with hks|hks
 rotate_left
 ·obtain rfl:k=n:=by omega
  rw[hn]at hf;cbv;repeat'((first|refine .n fun h=>?_|refine .k fun z hz=>?_|fail)<;>cbv)
  (refine .q9 ?_;cbv;exact .inl (.f9 (fO hK (by rw[hq,ON hf];rfl))))
 obtain⟨y,hx⟩:=cK hks;have hyes:=fun h1 h2=>LQ (P:=parties.map Gn.name) hf hx h1 h2
 have hno:¬(y.carrier=name∧y.number=s)→Xb deals name s (k+1):=fun h j z hj hz=>(by
   rcases aL j k with h1|h1
   ·exact hf j z h1 hz
   ·obtain rfl:j=k:=by omega
    rw[hx]at hz;cases hz;exact h)
 obtain⟨number,seller,buyer,carrier,issuer,house,insurer,frm,to,cur,amt,boxes,term,latest,expiry,tenor,duty⟩:=y;dsimp only at hyes hno;cbv;repeat'((first|refine .e ?_|refine .y fun h=>?_|refine .mk (fun h=>?_) fun h=>?_|refine .k fun z hz=>?_|fail)<;>cbv)
 all_goals first
  |(obtain rfl:z=nI (k+1):=bQ
    exact bN ⟨k+1,hks,hno (fun h=>by first|exact absurd h.1 (by assumption)|exact absurd h.2 (by assumption))⟩ (bO (by omega)))
  |(refine .q9 ?_;cbv;exact .inl (.f9 (fO hK (by rw[hq,hyes (by assumption) (by assumption)];rfl))))
def pP:dA:=spec (fun d:jD=>[jS d]) (fun _=>[]) (fun d=>d.boxes.length≤70) (fun d=>.sl 1 (bJ .str d.marks)) fun _=>[]
theorem G1 (P:bI):bM P x20 pP:=by
 intro args H K hc;obtain⟨⟨number,seller,buyer,carrier,issuer,house,insurer,frm,to,cur,amt,boxes,term,latest,expiry,tenor,duty⟩,rfl,rfl,hp,hK⟩:=hc;refine⟨cL,?_⟩;dsimp only at hp hK⊢;obtain⟨q,hq⟩:∃q,q=boxes.map IP.mark:=⟨_,rfl⟩
 have hK:K (.sl 1 (bJ .str (boxes.map IP.mark))) []:=hK;rw[←hq]at hK;obtain⟨n,hn⟩:∃n:Nat,n=boxes.length:=⟨_,rfl⟩
 cbv;refine bS [1] (fun p:{ k:Nat // k≤boxes.length }=>[(3,.hd 1),(4,.i (nI p.1))]) (fun p=>[.blk 67 [.str number,.str seller,.str buyer,.str carrier,.str issuer,.str house,.str insurer,.str frm,.str to,.str cur,.i amt,.sl 3 (bJ F6 boxes),.i term,.i latest,.i expiry,.i tenor,.i duty],.row 9 1 (bJ .str ((boxes.take p.1).map IP.mark))]) (fun p=>eW n p.1) ⟨0,aI _⟩ ?_;rintro ⟨k,hk⟩;dsimp only at hk⊢;obtain⟨L1,hL1⟩:∃l,l=(boxes.take k).map IP.mark:=⟨_,rfl⟩
 have hl1:L1.length≤boxes.length:=by rw[hL1,aJ,aS];omega
 rw[←hL1];rcases aL k boxes.length with hks|hks
 rotate_left
 ·obtain rfl:k=n:=by omega
  have hL:L1=q:=by rw[hL1,hq,bC (by omega)]
  subst hL;cbv;repeat'((first|refine .n fun h=>?_|refine .k fun z hz=>?_|fail)<;>cbv)
  (refine .r9 (Gh.plain 1 rfl) ?_;cbv;exact .inl (.g9 hK))
 obtain⟨x,hx⟩:=cK hks;have hsn:(boxes.take (k+1)).map IP.mark=L1++[x.mark]:=by rw[dC hx,List.map_append,hL1];rfl
 obtain⟨mark,kind,lots⟩:=x;dsimp only at hsn;cbv;repeat'((first|refine .e ?_|refine .y fun h=>?_|refine .k fun z hz=>?_|refine .zl fun zs hzs hzl=>?_|fail)<;>cbv)
 obtain rfl:z=nI (k+1):=bQ;obtain rfl:zs=bJ .str ((boxes.take (k+1)).map IP.mark):=by(rw[hsn,cD,cF];exact hzs)
 exact bN ⟨k+1,hks⟩ (bO (by omega))
def CG:dA:=spec (fun i:List eC×eC=>[.sl 5 (bJ dG i.1),.str i.2.box,.str i.2.to,.str i.2.place,.i i.2.day]) (fun _=>[]) (fun i=>i.1.length≤100000∧i.2.box.size≤maxLen∧i.2.to.size≤maxLen∧i.2.place.size≤maxLen) (fun i=>.i (vL i.1 i.2)) fun _=>[]
theorem FH (P:bI) (hn:bK P 181 (iL (fun s=>s.size≤maxLen) bT)) (hd:bK P 182 xK) (ho:bK P 41 EX) (hb:bK P 39 zD):bM P Xr CG:=by
 intro args H K hc;obtain⟨⟨H,box,frm,to,place,day⟩,rfl,rfl,hp,hK⟩:=hc;refine⟨cL,?_⟩;dsimp only at hp hK⊢;obtain⟨hl,hs1,hs2,hs3⟩:=hp
 try dsimp only at hl hs1 hs2 hs3
 obtain⟨e,he⟩:∃e,e=vL H ⟨box,frm,to,place,day⟩:=⟨_,rfl⟩
 rw[←he]at hK;unfold vL at he;dsimp only at he;obtain⟨b1,hb1⟩:∃b,b=bT box:=⟨_,rfl⟩
 obtain⟨b2,hb2⟩:∃b,b=bT to:=⟨_,rfl⟩
 obtain⟨b3,hb3⟩:∃b,b=bT place:=⟨_,rfl⟩
 obtain⟨b4,hb4⟩:∃b,b=gK day:=⟨_,rfl⟩
 obtain⟨O,hO⟩:∃O,O=nE H box:=⟨_,rfl⟩
 obtain⟨B,hB⟩:∃B,B=kP H:=⟨_,rfl⟩
 rw[←hb1,←hb2,←hb3,←hb4,←hO,←hB]at he;cbv
 (refine bX hn box hs1 ?_;try dsimp only)
 rw[←hb1];cases b1 with
 |false=>
  cbv
  (refine .q9 ?_;cbv;exact .inl (.f9 (fO hK (by rw[he];rfl))))
 |true=>
  cbv
  (refine bX hn to hs2 ?_;try dsimp only)
  rw[←hb2];cases b2 with
  |false=>
   cbv
   (refine .q9 ?_;cbv;exact .inl (.f9 (fO hK (by rw[he];rfl))))
  |true=>
   cbv
   (refine bX hn place hs3 ?_;try dsimp only)
   rw[←hb3];cases b3 with
   |false=>
    cbv
    (refine .q9 ?_;cbv;exact .inl (.f9 (fO hK (by rw[he];rfl))))
   |true=>
    cbv
    (refine bX hd day trivial ?_;try dsimp only)
    rw[←hb4];cases b4 with
    |false=>
     cbv
     (refine .q9 ?_;cbv;exact .inl (.f9 (fO hK (by rw[he];rfl))))
    |true=>
     cbv
     (refine bX ho ((H,box):List eC×bH) hl ?_;try dsimp only)
     rw[←hO];have he:e=if O≠[] then 5 else if 4096≤B.length then 7 else 0:=he
     cbv;repeat'((first|refine .mk (fun h=>?_) fun h=>?_|refine .k fun z hz=>?_|fail)<;>cbv)
     ·(refine .q9 ?_;cbv;exact .inl (.f9 (fO hK (by rw[he,aF (fun h2=>by subst h2;revert h hz;simp[bJ];omega)]))))
     ·have hO2:O=[]:=aR bQ;rw[aE (fun h2=>h2 hO2)]at he
      (refine bX hb H hl ?_;try dsimp only)
      rw[←hB];cbv;repeat'((first|refine .mk (fun h=>?_) fun h=>?_|refine .k fun z hz=>?_|fail)<;>cbv)
      ·(refine .q9 ?_;cbv;exact .inl (.f9 (fO hK (by rw[he,aF bQ]))))
      ·(refine .q9 ?_;cbv;exact .inl (.f9 (fO hK (by rw[he,aE bQ]))))
theorem Hn (u:Nat) (h:u < 10):Lib.decDigits u=[UInt8.ofNat (48+u)]:=by rw[Lib.decDigits,dif_pos h]
theorem Ha (u:Nat) (h:¬u < 10):Lib.decDigits u=Lib.decDigits (u / 10)++[UInt8.ofNat (48+u % 10)]:=by rw[Lib.decDigits,dif_neg h]
theorem Ja:∀(k u:Nat),1≤k→u < 10 ^ k→(Lib.decDigits u).length≤k
  |0,u,h,_=>by omega
  |k+1,u,_,h=>by
   by_cases h0:u < 10
   · rw[Hn u h0];simp
   · rw[Ha u h0]
     have hk:1≤k:=by
       rcases k with _|k
       · simp at h;omega
       · omega
     have:=Ja k (u / 10) hk (by rw[Nat.pow_succ]at h;omega);simp;omega
def dT (n:Int):Prop:=-4611686018427387904≤n∧n≤4611686018427387904
instance (n:Int):Decidable (dT n):=by unfold dT;infer_instance
end Go.Proofs.YtigdiekbiphhmaaGreatDoor
namespace Go.Proofs.YtigdiekbiphhmaaGreatDoor
open Go.Shelf Go.RowKit
set_option maxRecDepth 100000
def DH:Go.Shelf.Ren:=⟨fun|171=>60|243=>93|246=>131|283=>170|284=>171|285=>172|286=>173|129=>169|317=>198|318=>199|319=>200|320=>201|337=>210|338=>211|n=>n,fun|3=>3|9=>9|2=>2|4=>4|171=>261|0=>0|53=>260|37=>146|5=>5|173=>263|212=>281|51=>258|20=>20|213=>282|46=>226|232=>292|233=>293|n=>n,fun|17=>4|18=>5|19=>6|n=>n⟩
theorem Pj:Go.Proofs.LaysM.n171 Tryz.prog DH:={
 mixed:=by kernel_rfl
 f129:=Tryz.func169.trans (congrArg some (by kernel_rfl))
 f171:=Tryz.func60.trans (congrArg some (by kernel_rfl))
 f243:=Tryz.func93.trans (congrArg some (by kernel_rfl))
 f246:=Tryz.func131.trans (congrArg some (by kernel_rfl))
 f283:=Tryz.func170.trans (congrArg some (by kernel_rfl))
 f284:=Tryz.func171.trans (congrArg some (by kernel_rfl))
 f285:=Tryz.func172.trans (congrArg some (by kernel_rfl))
 f286:=Tryz.func173.trans (congrArg some (by kernel_rfl))
 f317:=Tryz.func198.trans (congrArg some (by kernel_rfl))
 f318:=Tryz.func199.trans (congrArg some (by kernel_rfl))
 f319:=Tryz.func200.trans (congrArg some (by kernel_rfl))
 f320:=Tryz.func201.trans (congrArg some (by kernel_rfl))
 f337:=Tryz.func210.trans (congrArg some (by kernel_rfl))
 f338:=Tryz.func211.trans (congrArg some (by kernel_rfl))
 t0:=Tryz.underlying0
 a0:=Tryz.isAgg0
 z0:=Tryz.sizeOf0
 v0:=Tryz.zeroValue0
 t2:=Tryz.underlying2
 a2:=Tryz.isAgg2
 z2:=Tryz.sizeOf2
 v2:=Tryz.zeroValue2
 t3:=Tryz.underlying3
 a3:=Tryz.isAgg3
 z3:=Tryz.sizeOf3
 v3:=Tryz.zeroValue3
 t4:=Tryz.underlying4
 a4:=Tryz.isAgg4
 z4:=Tryz.sizeOf4
 v4:=Tryz.zeroValue4
 t5:=Tryz.underlying5
 a5:=Tryz.isAgg5
 z5:=Tryz.sizeOf5
 v5:=Tryz.zeroValue5
 t9:=Tryz.underlying9
 a9:=Tryz.isAgg9
 z9:=Tryz.sizeOf9
 v9:=Tryz.zeroValue9
 t20:=Tryz.underlying20
 a20:=Tryz.isAgg20
 z20:=Tryz.sizeOf20
 v20:=Tryz.zeroValue20
 t37:=Tryz.underlying146
 a37:=Tryz.isAgg146
 z37:=Tryz.sizeOf146
 v37:=Tryz.zeroValue146
 t46:=Tryz.underlying226
 a46:=Tryz.isAgg226
 z46:=Tryz.sizeOf226
 v46:=Tryz.zeroValue226
 t51:=Tryz.underlying258
 a51:=Tryz.isAgg258
 z51:=Tryz.sizeOf258
 v51:=Tryz.zeroValue258
 t53:=Tryz.underlying260
 a53:=Tryz.isAgg260
 z53:=Tryz.sizeOf260
 v53:=Tryz.zeroValue260
 t171:=Tryz.underlying261
 a171:=Tryz.isAgg261
 z171:=Tryz.sizeOf261
 v171:=Tryz.zeroValue261
 t173:=Tryz.underlying263
 a173:=Tryz.isAgg263
 z173:=Tryz.sizeOf263
 v173:=Tryz.zeroValue263
 t212:=Tryz.underlying281
 a212:=Tryz.isAgg281
 z212:=Tryz.sizeOf281
 v212:=Tryz.zeroValue281
 t213:=Tryz.underlying282
 a213:=Tryz.isAgg282
 z213:=Tryz.sizeOf282
 t232:=Tryz.underlying292
 a232:=Tryz.isAgg292
 z232:=Tryz.sizeOf292
 v232:=Tryz.zeroValue292
 t233:=Tryz.underlying293
 a233:=Tryz.isAgg293
 z233:=Tryz.sizeOf293
 v233:=Tryz.zeroValue293
 g17:=by kernel_rfl
 g18:=by kernel_rfl
 g19:=by kernel_rfl
 i0:=by kernel_rfl
 i2:=by kernel_rfl
 i3:=by kernel_rfl
 i4:=by kernel_rfl
 i5:=by kernel_rfl
 i9:=by kernel_rfl
 i20:=by kernel_rfl
 i37:=by kernel_rfl
 i46:=by kernel_rfl
 i51:=by kernel_rfl
 i53:=by kernel_rfl
 i171:=by kernel_rfl
 i173:=by kernel_rfl
 i212:=by kernel_rfl
 i232:=by kernel_rfl
 i233:=by kernel_rfl
 m17:=by kernel_rfl
 m18:=by kernel_rfl
 m19:=by kernel_rfl }
theorem Ig (w:World) (k:Nat) (os:Array Obj):Below w.heap.size w (Sort.grow (w.drewN k) os):=
 ⟨rfl,rfl,rfl,by simp[Sort.grow,World.drewN],fun j hj=>by
  show ((w.drewN k).heap++os)[j]?=_;rw[Array.getElem?_append_left (by exact hj)];rfl⟩
theorem FA {pub : cY} {w : World} (h : lF pub w) : Lib.TabIs Tryz.prog w "internal/strconv.uint64pow10" .u64 Lib.pow10Tab := by
 obtain⟨t,fz,hb⟩:=h.block (g:=4) (by show 0 < 20;omega)
 have hg : Tryz.prog.globalNamed "internal/strconv.uint64pow10" = some 4 := by kernel_rfl
 unfold Lib.TabIs World.var?;rw[hg];simp only[Option.bind_some];rw[hb];rfl
def eQ (n:Int):bH:=⟨(Lib.itoa n).toArray⟩
def D5 (ito:Int→bH):dA:=spec (fun n:Int=>[.i n]) (fun _=>[]) (fun n=>-9223372036854775808≤n∧n≤9223372036854775807) (fun n=>.str (ito n)) fun _=>[]
theorem MD:bK Tryz.prog 60 (D5 eQ):=TP fun n hp pub w vals hf hg hv=>by
 obtain⟨u,us',hl,h1,h2⟩:=hv.cons_inv;have h3:=h2.nil_inv;subst h3;cases h1;have h4:vals=#[.int .i64 n]:=Array.toList_inj.1 (by simpa using hl);subst h4;refine(Any.strconv_Itoa Pj n hp.1 hp.2 w (FA hg)).mono fun e w' ⟨he,k,os,hw⟩=>?_
 subst hw;exact zE.plain he (Ig w k os) hf (.str _)
set_option maxHeartbeats 4000000
theorem U9 {K:AV→List cG→Prop}{b c:bH}{H:List cG}(h:K (.str c) H) (e:b=c):K (.str b) H:=e ▸ h
def UG (k:Nat):dA:=spec (fun n:Int=>[.i n]) (fun _=>[]) (fun n=>n.natAbs=k∧-9223372036854775808≤n∧n≤9223372036854775807) (fun n=>.str (eQ n)) fun _=>[]
theorem rN {z:Int}{d:Nat}(hd:d < 10) (h:z=IntKind.u8.wrap (48+(d:Int))):strOf [z]=⟨#[UInt8.ofNat (48+d)]⟩:=by
 have e:z=((48+d:Nat):Int):=by rw[h,IntKind.wrap_u8];omega
 rw[e];rfl
theorem Ho {n:Int}(h0:0≤n) (h1:n < 10) {z1 z:Int}(e1:z1=48+n) (e2:z=IntKind.u8.wrap z1):eQ n=strOf [z]:=by
 obtain⟨m,rfl⟩:∃m:Nat,n=m:=⟨n.toNat,by omega⟩
 rw[rN (d:=m) (by omega) (by rw[e2,e1])];unfold eQ;rw[Lib.itoa_nonneg,Hn m (by omega)]
theorem Nj {n:Int}(h0:10≤n) {q r z1 z:Int}(eq:q=n.tdiv 10) (er:r=n.tmod 10) (e1:z1=48+r) (e2:z=IntKind.u8.wrap z1):eQ n=eQ q++strOf [z]:=by
 obtain⟨m,rfl⟩:∃m:Nat,n=m:=⟨n.toNat,by omega⟩
 have er':r=((m % 10:Nat):Int):=er;have eq':q=((m / 10:Nat):Int):=eq;rw[rN (d:=m % 10) (by omega) (by rw[e2,e1,er']),eq'];unfold eQ;rw[Lib.itoa_nonneg,Lib.itoa_nonneg,Ha m (by omega)];apply ByteArray.ext;simp
theorem FV {n:Int}(h0:n < 0) (h1:-10 < n) {z1 z:Int}(e1:z1=48 - n) (e2:z=IntKind.u8.wrap z1):eQ n=⟨⟨[45]⟩⟩++strOf [z]:=by
 obtain⟨m,rfl⟩:∃m:Nat,n=-(m:Int):=⟨n.natAbs,by omega⟩
 rw[rN (d:=m) (by omega) (by rw[e2,e1];congr 1;omega)];unfold eQ;rw[Lib.itoa_neg m (by omega),Hn m (by omega)];apply ByteArray.ext;simp
theorem Cw {n:Int}(h0:n≤-10) {q r z1 z:Int}(eq:q=n.tdiv 10) (er:r=n.tmod 10) (e1:z1=48 - r) (e2:z=IntKind.u8.wrap z1):eQ n=eQ q++strOf [z]:=by
 obtain⟨m,rfl⟩:∃m:Nat,n=-(m:Int):=⟨n.natAbs,by omega⟩
 have er':r=-((m % 10:Nat):Int):=by rw[er,Int.neg_tmod];rfl
 have eq':q=-((m / 10:Nat):Int):=by rw[eq,Int.neg_tdiv];rfl
 rw[rN (d:=m % 10) (by omega) (by rw[e2,e1,er'];congr 1;omega),eq'];unfold eQ;rw[Lib.itoa_neg m (by omega),Lib.itoa_neg (m / 10) (by omega),Ha m (by omega)];apply ByteArray.ext;simp
theorem Tx (n:Int):(n.tdiv 10).natAbs=n.natAbs / 10:=by
 rw[Int.natAbs_tdiv];rfl
theorem KZ {q:Int}(h:q.natAbs < 100000000000000000000):(eQ q).size≤21:=by
 have hd:=Ja 20 q.natAbs (by omega) h;have:(eQ q).size=(Lib.itoa q).length:=by simp[eQ,ByteArray.size]
 rw[this];unfold Lib.itoa
 split
 ·simp only[List.length_cons];omega
 ·rw[show q.toNat=q.natAbs by omega];omega
theorem JI (P:bI) (k:Nat) (ih:∀m,m < k→bK P 64 (UG m)):bM P Zi (UG k):=by
 intro args H K hc;obtain⟨n,rfl,rfl,hp,hK⟩:=hc;refine⟨cL,?_⟩;dsimp only at hK hp⊢;have hq:=Tx n;have h1:∀z:Int,(strOf [z]).size=1:=fun z=>rfl
 have z45:(ByteArray.mk (Array.mk [45])).size=1:=rfl;have qk:∀{K:Int→Prop},(∀q,q=n.tdiv 10→q.natAbs=n.natAbs / 10→K q)→J5 .i64 n 10 K:=fun h=>⟨⟨by decide,IntWalk.i64_in _ (by omega)⟩,fun z hz=>h z hz (by rw[hz];exact hq)⟩
 have rk:∀{K:Int→Prop},(∀r,r=n.tmod 10→r.natAbs < 10→K r)→J9 n 10 K:=fun h=>⟨by decide,fun z hz=>h z hz (by rw[hz,Int.natAbs_tmod];exact Nat.mod_lt _ (by decide))⟩
 have small:∀q:Int,q.natAbs=n.natAbs / 10→-9223372036854775808≤q∧q≤9223372036854775807∧(eQ q).size≤21:=fun q h=>⟨by omega,by omega,KZ (by omega)⟩
 cbv;repeat'((first|refine .q fun z hz hz0 hz1=>?_|refine .mk (fun h=>?_) fun h=>?_|refine .k fun z hz=>?_|refine .u fun u hu hul=>?_|refine .s fun s hs hsl=>?_|refine And.intro ?_ ?_|fail)<;>cbv)
 ·exact bZ.mk ⟨_,Gh.refl _,.inl (.v9 (U9 hK (by rw[FV (by assumption) (by assumption) (by assumption) (by assumption)];subst_vars;rfl)))⟩
 ·refine qk fun q hq1 hq2=>?_
  cbv;refine rk fun r hr1 hr2=>?_
  obtain⟨sm1,sm2,sm3⟩:=small q hq2;cbv;repeat'((first|refine .k fun z hz=>?_|refine .s fun s hs hsl=>?_|refine And.intro ?_ ?_|fail)<;>cbv)
  ·refine nA (ih q.natAbs (by omega)) q ⟨rfl,sm1,sm2⟩ rfl rfl rfl ?_;obtain⟨w,hw⟩:∃w,w=eQ q:=⟨_,rfl⟩
   rw[←hw]at sm3⊢;cbv;repeat'((first|refine .u fun u hu hul=>?_|refine .s fun s hs hsl=>?_|fail)<;>cbv)
   exact bZ.mk ⟨_,Gh.refl _,.inl (.v9 (U9 hK (by rw[Cw (by assumption) hq1 hr1 (by assumption) (by assumption),←hw];subst_vars;rfl)))⟩
  ·refine nA (ih q.natAbs (by omega)) q ⟨rfl,sm1,sm2⟩ rfl rfl rfl ?_;obtain⟨w,hw⟩:∃w,w=eQ q:=⟨_,rfl⟩
   rw[←hw]at sm3⊢;cbv;repeat'((first|refine .u fun u hu hul=>?_|fail)<;>cbv)
   exact bZ.mk ⟨_,Gh.refl _,.inl (.v9 (U9 hK (by rw[Cw (by assumption) hq1 hr1 (by assumption) (by assumption),←hw];subst_vars;rfl)))⟩
 ·exact bZ.mk ⟨_,Gh.refl _,.inl (.v9 (U9 hK (by rw[Ho (by assumption) (by assumption) (by assumption) (by assumption)];subst_vars;rfl)))⟩
 all_goals
  rename_i q hq1 _ _ r hr1 _ _;obtain⟨sm1,sm2,sm3⟩:=small q (by rw[hq1];exact hq);have hq2:q.natAbs=n.natAbs / 10:=by rw[hq1];exact hq
  refine nA (ih q.natAbs (by omega)) q ⟨rfl,sm1,sm2⟩ rfl rfl rfl ?_;obtain⟨w,hw⟩:∃w,w=eQ q:=⟨_,rfl⟩
  rw[←hw]at sm3⊢;cbv;repeat'((first|refine .u fun u hu hul=>?_|refine .s fun s hs hsl=>?_|fail)<;>cbv)
  exact bZ.mk ⟨_,Gh.refl _,.inl (.v9 (U9 hK (by rw[Nj (by assumption) hq1 hr1 (by assumption) (by assumption),←hw];subst_vars;rfl)))⟩
theorem TH {P:bI}(h:U0 P 64=some Zi):bK P 64 (D5 eQ):=by
 have key:∀k,bK P 64 (UG k):=fun k=>by
  induction k using Nat.strongRecOn with
  |_ k ih=>exact bL h (JI P k ih)
 intro args H K ⟨n,h1,h2,h3,h4⟩;exact key n.natAbs args H K ⟨n,h1,h2,⟨rfl,h3⟩,h4⟩
end Go.Proofs.YtigdiekbiphhmaaGreatDoor
namespace Go.Proofs.YtigdiekbiphhmaaGreatDoor
open Go.Shelf Go.RowKit
set_option maxRecDepth 100000
def DR:Go.Shelf.Ren:=⟨fun|156=>57|165=>89|166=>56|169=>61|240=>88|241=>127|276=>126|277=>158|n=>n,fun|0=>0|3=>3|4=>4|5=>5|9=>9|20=>20|31=>56|37=>146|70=>145|72=>148|75=>150|80=>83|76=>151|127=>193|164=>221|n=>n,fun|n=>n⟩
theorem Q6:Lays.n156 Tryz.prog DR:={
 mixed:=by kernel_rfl
 f156:=Tryz.func57.trans (congrArg some (by kernel_rfl))
 f165:=Tryz.func89.trans (congrArg some (by kernel_rfl))
 f166:=Tryz.func56.trans (congrArg some (by kernel_rfl))
 f169:=Tryz.func61.trans (congrArg some (by kernel_rfl))
 f240:=Tryz.func88.trans (congrArg some (by kernel_rfl))
 f241:=Tryz.func127.trans (congrArg some (by kernel_rfl))
 f276:=Tryz.func126.trans (congrArg some (by kernel_rfl))
 f277:=Tryz.func158.trans (congrArg some (by kernel_rfl))
 t0:=Tryz.underlying0
 a0:=Tryz.isAgg0
 z0:=Tryz.sizeOf0
 v0:=Tryz.zeroValue0
 t3:=Tryz.underlying3
 a3:=Tryz.isAgg3
 z3:=Tryz.sizeOf3
 v3:=Tryz.zeroValue3
 t4:=Tryz.underlying4
 a4:=Tryz.isAgg4
 z4:=Tryz.sizeOf4
 v4:=Tryz.zeroValue4
 t9:=Tryz.underlying9
 a9:=Tryz.isAgg9
 z9:=Tryz.sizeOf9
 v9:=Tryz.zeroValue9
 t20:=Tryz.underlying20
 a20:=Tryz.isAgg20
 z20:=Tryz.sizeOf20
 v20:=Tryz.zeroValue20
 t31:=Tryz.underlying56
 a31:=Tryz.isAgg56
 z31:=Tryz.sizeOf56
 v31:=Tryz.zeroValue56
 t37:=Tryz.underlying146
 a37:=Tryz.isAgg146
 z37:=Tryz.sizeOf146
 v37:=Tryz.zeroValue146
 t70:=Tryz.underlying145
 a70:=Tryz.isAgg145
 z70:=Tryz.sizeOf145
 v70:=Tryz.zeroValue145
 t72:=Tryz.underlying148
 a72:=Tryz.isAgg148
 z72:=Tryz.sizeOf148
 v72:=Tryz.zeroValue148
 t75:=Tryz.underlying150
 a75:=Tryz.isAgg150
 z75:=Tryz.sizeOf150
 v75:=Tryz.zeroValue150
 t76:=Tryz.underlying151
 a76:=Tryz.isAgg151
 z76:=Tryz.sizeOf151
 v76:=Tryz.zeroValue151
 t127:=Tryz.underlying193
 a127:=Tryz.isAgg193
 z127:=Tryz.sizeOf193
 v127:=Tryz.zeroValue193
 t164:=Tryz.underlying221
 a164:=Tryz.isAgg221
 z164:=Tryz.sizeOf221
 v164:=Tryz.zeroValue221 }
theorem PT:Lays.n166 Tryz.prog DR:={
 mixed:=by kernel_rfl
 f166:=Tryz.func56.trans (congrArg some (by kernel_rfl))
 f240:=Tryz.func88.trans (congrArg some (by kernel_rfl))
 f276:=Tryz.func126.trans (congrArg some (by kernel_rfl))
 t0:=Tryz.underlying0
 a0:=Tryz.isAgg0
 z0:=Tryz.sizeOf0
 v0:=Tryz.zeroValue0
 t3:=Tryz.underlying3
 a3:=Tryz.isAgg3
 z3:=Tryz.sizeOf3
 v3:=Tryz.zeroValue3
 t4:=Tryz.underlying4
 a4:=Tryz.isAgg4
 z4:=Tryz.sizeOf4
 v4:=Tryz.zeroValue4
 t9:=Tryz.underlying9
 a9:=Tryz.isAgg9
 z9:=Tryz.sizeOf9
 v9:=Tryz.zeroValue9
 t20:=Tryz.underlying20
 a20:=Tryz.isAgg20
 z20:=Tryz.sizeOf20
 v20:=Tryz.zeroValue20
 t37:=Tryz.underlying146
 a37:=Tryz.isAgg146
 z37:=Tryz.sizeOf146
 v37:=Tryz.zeroValue146
 t70:=Tryz.underlying145
 a70:=Tryz.isAgg145
 z70:=Tryz.sizeOf145
 v70:=Tryz.zeroValue145
 t72:=Tryz.underlying148
 a72:=Tryz.isAgg148
 z72:=Tryz.sizeOf148
 v72:=Tryz.zeroValue148
 t75:=Tryz.underlying150
 a75:=Tryz.isAgg150
 z75:=Tryz.sizeOf150
 v75:=Tryz.zeroValue150
 t164:=Tryz.underlying221
 a164:=Tryz.isAgg221
 z164:=Tryz.sizeOf221
 v164:=Tryz.zeroValue221 }
theorem QU:Lays.n169 Tryz.prog DR:={
 mixed:=by kernel_rfl
 f169:=Tryz.func61.trans (congrArg some (by kernel_rfl))
 t0:=Tryz.underlying0
 a0:=Tryz.isAgg0
 z0:=Tryz.sizeOf0
 v0:=Tryz.zeroValue0
 t3:=Tryz.underlying3
 a3:=Tryz.isAgg3
 z3:=Tryz.sizeOf3
 v3:=Tryz.zeroValue3
 t9:=Tryz.underlying9
 a9:=Tryz.isAgg9
 z9:=Tryz.sizeOf9
 v9:=Tryz.zeroValue9
 t37:=Tryz.underlying146
 a37:=Tryz.isAgg146
 z37:=Tryz.sizeOf146
 v37:=Tryz.zeroValue146
 t70:=Tryz.underlying145
 a70:=Tryz.isAgg145
 z70:=Tryz.sizeOf145
 v70:=Tryz.zeroValue145
 t72:=Tryz.underlying148
 a72:=Tryz.isAgg148
 z72:=Tryz.sizeOf148
 v72:=Tryz.zeroValue148
 t127:=Tryz.underlying193
 a127:=Tryz.isAgg193
 z127:=Tryz.sizeOf193
 v127:=Tryz.zeroValue193 }
theorem T2:Builder.Extra Tryz.prog DR:={
 sizeBuilder:=by kernel_rfl
 liesBuilder:=by kernel_rfl
 t5:=Tryz.underlying5
 a5:=Tryz.isAgg5
 z5:=Tryz.sizeOf5
 v5:=Tryz.zeroValue5
 infoByte:=by kernel_rfl
 cellsByte:=by kernel_rfl
 sizeByte:=by kernel_rfl
 neB5:=by decide }
end Go.Proofs.YtigdiekbiphhmaaGreatDoor
namespace Go.Proofs.YtigdiekbiphhmaaGreatDoor
open Go.RowKit Go.Shelf
theorem Nm {P:bI}{f:Nat}{ι:Type}{a:ι→List AV}{p:ι→Prop}{r:ι→AV}
  (h:∀i,p i→∀(pub:cY) (w:World) (vals:Array Value),bR pub w dD (a i) vals.toList→Calls P f vals w fun e w'=>Below w.heap.size w w'∧∃v,e=.returned v∧∀pub' w',bU pub' w' dD (r i) v) :
  bK P f (spec a (fun _=>[]) p r fun _=>[]):=by
 intro args H K ⟨i,ha,hH,hp,hK⟩ w rh pub vals hm hv;subst ha;subst hH;have:=ER hm;subst this;refine(h i hp pub w vals hv).mono fun e w' ⟨hw,v,he,hr⟩=>?_
 have hfr:Fr (fun _=>False) pub w pub w':=⟨hw.os,hw.tape,hw.output,hw.size,fun b hb _=>⟨hw.block b hb,rfl⟩,fun _=>aN _,fun b i u hi hu=>by
  rw[World.cell?_of_block (w:=w) (a:=⟨b,i,none⟩) (hw.block b (World.block_lt_of_cell? w _ hu))];exact hu,fun b n _ hn=>kS (hw.block b (mM hn)) hn⟩
 exact⟨v,r i,[],dD,pub,he,hK,hr _ _,hm.frm hfr (fun _ _ _ _ _ h=>h) (fun b hb=>hm.fresh b (Nat.le_trans hw.size hb)) (fun b i hi=>by
  obtain⟨u,hu⟩:=hm.there b i hi;exact⟨u,hfr.ext.cell b i u hi hu⟩),hfr.mono (fun _ h=>h.elim),fun b hb=>.inl hb,fun _ _ h _=>h,aN _⟩
def dY (xs:List bH) (sep:bH):bH:=⟨(Lib.join (xs.map (·.data.toList)) sep.data.toList).toArray⟩
theorem Qz {P:bI}{ρ:Ren}(L:Lays.n156 P ρ) (X:Builder.Extra P ρ):bK P (ρ.f 156) (spec (fun i:List bH×bH=>[.sl 1 (bJ (fun s=>.str s) i.1),.str i.2]) (fun _=>[]) (fun i=>(dY i.1 i.2).size≤140737488355328∧i.1.length≤140737488355328) (fun i=>.str (dY i.1 i.2)) fun _=>[]):=
 Nm fun⟨xs,sep⟩ ⟨hlen,hN⟩ pub w vals hv=>by
  obtain⟨u,us,he,q1,q2⟩:=hv.cons_inv;obtain⟨us',he',q3⟩:=q2.str_inv;have q4:=q3.nil_inv;subst q4;dsimp only at *;cases q1 with
  |@sl _ _ _ A c hc hm hn hs g hr hg=>
   have hl:(bJ (fun s=>AV.str s) xs).length=xs.length:=by simp[dV]
   rw[hl]at hc he;have hvals:vals=#[.slice A xs.length c,.string sep]:=Array.toList_inj.1 (by rw[he,he']);subst hvals;have hl2:(Lib.join (xs.map (·.data.toList)) sep.data.toList).length≤140737488355328:=by
    have:(dY xs sep).size=(Lib.join (xs.map (·.data.toList)) sep.data.toList).length:=by simp[dY,ByteArray.size]
    omega
   cases A with
   |none=>
    obtain⟨h0,_⟩:=hn rfl;have h0':xs=[]:=aR (by rw[←hl,h0];rfl);subst h0';refine(Any.strings_Join_none L X none c sep w).mono fun e w' ⟨he,hw⟩=>⟨hw ▸ Below.refl _ _,_,he,fun _ _=>?_⟩
    exact .str _
   |some ad=>
    cases hx:xs with
    |nil=>
     refine(Any.strings_Join_none L X (some ad) c sep w).mono fun e w' ⟨he,hw⟩=>⟨hw ▸ Below.refl _ _,_,he,fun _ _=>?_⟩
     exact .str _
    |cons x0 r0=>
     rw[←hx];have cell:∀(j:Nat) (x:bH),xs[j]?=some x→∃b o,some ad=some ⟨b,o,none⟩∧w.cell? ⟨b,o+j,none⟩=some (.string x):=fun j x hj=>by
      have hj':(bJ (fun s=>AV.str s) xs)[j]?=some (.str x):=by simp[dV,hj]
      obtain⟨b,o,h1,_,h3⟩:=hg j _ 0 (.str x) hj' rfl;have h4:=hr j _ 0 (.str x) hj' rfl;generalize g j 0=gj at h3 h4;cases h4;exact⟨b,o,h1,by simpa using h3⟩
     obtain⟨b,o,h1,h2⟩:=cell 0 x0 (by rw[hx];rfl);cases h1;refine(Any.strings_Join L X b o c xs sep w (fun j x hj=>?_) (World.block_lt_of_cell? w _ h2) hN hc hl2).mono fun e w' ⟨he,hw⟩=>⟨hw,_,he,fun _ _=>.str _⟩
     obtain⟨b',o',h1',h2'⟩:=cell j x hj;cases h1';exact h2'
end Go.Proofs.YtigdiekbiphhmaaGreatDoor
namespace Go.Proofs.YtigdiekbiphhmaaGreatDoor
open Go.RowKit Go.Shelf
def kD (s:bH):List AV:=s.data.toList.map fun b=>.int .u8 b.toNat
theorem Ft (s:bH):(kD s).length=s.size:=by rw[kD,aJ,bB];rfl
theorem BU:∀s:bH,(kD s).flatMap AV.cells=kD s:=fun s=>by
 unfold kD
 induction s.data.toList with
 |nil=>rfl
 |cons x l ih=>simpa [AV.cells]using ih
theorem NR (pub:cY) (w:World) (r:cT) (s:bH):bR pub w r (kD s) (Lib.strCells s):=by
 unfold kD Lib.strCells
 induction s.data.toList with
 |nil=>exact .nil
 |cons x l ih=>exact .cons (.int _ _) ih
theorem OY {pub:cY}{w:World}{r:cT}{s:bH}{us:List Value}(h:bR pub w r (kD s) us):us=Lib.strCells s:=by
 unfold kD at h;unfold Lib.strCells;generalize s.data.toList=l at h⊢
 induction l generalizing us with
 |nil=>exact h.nil_inv
 |cons x l ih=>
  obtain⟨u,us',rfl,h1,h2⟩:=h.cons_inv;cases h1;rw[ih h2];rfl
theorem Mf (s:bH):∀x∈kD s,x.cells.length=1∧x.cells.all AV.one=true:=fun x hx=>by
 unfold kD at hx;obtain⟨b,_,rfl⟩:=aX.1 hx;exact⟨rfl,rfl⟩
theorem Fr.of_frm {S:List Nat}{pub:cY}{w w':World}(hf:lO S w w') (hp:∀b∈S,pub b=0):Fr (·∈S) pub w pub w':=
 ⟨hf.os,hf.tape,hf.output,hf.size,fun b hb hn=>⟨hf.block b hb hn,rfl⟩,fun _=>aN _,fun b i u hi hu=>by
  have hn:b∉S:=fun h=>by rw[hp b h]at hi;omega
  exact hf.cell hu hn,fun b n hpb hn=>kS (hf.block b (mM hn) (fun h=>by rw[hp b h]at hpb;omega)) hn⟩
theorem Kt {P:bI}{w:World}(t u ty e:TypeId) (i:TypeInfo) (ht:P.underlying t=some (.slice e)) (hu:P.underlying u=some .string) (hi:P.info? e=some i) (hz:i.zero=some (.int .u8 0))
  (hsize:i.size=1) (hby:i.bytes=1) {A:Option Addr}{n c:Nat}{us:List Value}(ho:jX w e 1 A n c us) (s:bH) (h63:n+s.size≤maxLen) (hbytes:n+s.size≤140737488355328) :
  ∃A2 c2 w',(Builtin.append_ #[t,u] ty #[.slice A n c,.string s]).run P w=.ok (.slice A2 (n+s.size) c2) w'∧jX w' e 1 A2 (n+s.size) c2 (us++Lib.strCells s)∧
   ((A2=A∧c2=c∧w'=w∧Lib.strCells s=[])∨(∃g cur,A=some ⟨g,0,none⟩∧A2=A∧c≠0∧jE w g e cur∧w'=w.setRow g (cur.toList.take (0+n * 1)++Lib.strCells s++cur.toList.drop (0+n * 1+(Lib.strCells s).length)).toArray∧0+n * 1+(Lib.strCells s).length≤cur.size)∨
     (A2=some ⟨w.heap.size,0,none⟩∧∃arr,w'=w.drew.alloc (.cells arr e))):=by
 have hsmall:n+s.size≤9223372036854775807:=by simp only[maxLen]at h63;omega
 have hl0:=ho.len;have hlen:(us++Lib.strCells s).length=(n+s.size) * 1:=by rw[aM,hl0,Lib.strCells_length];omega
 have grown:∀(old:Nat),old < n+s.size →
   jX (w.drew.alloc (.cells (us.toArray++(Lib.strCells s).toArray++Builtin.zeroCells (Value.int .u8 0).cells (grownCap w (n+s.size) old e - (n+s.size))) e)) e 1 (some ⟨w.heap.size,0,none⟩) (n+s.size) (grownCap w (n+s.size) old e) (us++Lib.strCells s):=by
  intro old hold;have hge:=grownCap_ge w (n+s.size) old e;have hcm:grownCap w (n+s.size) old e≤maxLen:=grownCap_le_maxLen w (n+s.size) old e h63;refine jX.of_blk (heap_alloc_new w.drew _) hge hcm ?_ ?_
  ·have hz1:(Value.int IntKind.u8 0).cells.size=1:=rfl;simp only[Array.size_append,List.size_toArray,size_zeroCells,hz1,hl0,Lib.strCells_length];omega
  ·simp only[Array.toList_append,bG];rw[←bG,←hlen];exact List.take_left
 have ho0:=ho;rcases ho.cases_ with ⟨rfl,rfl,rfl,rfl⟩|⟨g,cur,rfl,hb,r1,r2,r3,r4⟩
 ·by_cases hm:s.size=0
  ·have hn:Lib.strCells s=[]:=aR (by rw[Lib.strCells_length];exact hm);have hf:=Lib.run_firstCells_string (P:=P) w 1 s;rw[hm]at hf;refine⟨none,0,w,?_,by rw[hm,hn];exact ho0,.inl ⟨rfl,rfl,rfl,hn⟩⟩;simp[Builtin.append_,run_underlying ht,run_underlying hu,sizeOf,typeInfo,hi,hsize,Builtin.lenOf,hm,hf]
  ·have hr:=run_append_nil_string (P:=P) w t u ty e i (.int .u8 0) ht hu hi hz s (by omega) (by omega) (by rw[hby];omega);have hgr:=grown 0 (by omega);simp only[Nat.zero_add,List.nil_append,Array.empty_append]at hgr⊢;have e1:(s.data.map fun b=>Value.int .u8 b.toNat)=(Lib.strCells s).toArray:=by
    apply Array.ext';simp[Lib.strCells]
   rw[e1]at hr;exact⟨_,_,_,hr,hgr,.inr (.inr ⟨rfl,_,rfl⟩)⟩
 ·by_cases hroom:n+s.size≤c
  ·have hr:=Lib.run_append_room_string (P:=P) w t u ty e i ht hu hi hsize g n c cur hb s hroom (by omega);by_cases hne:s.size=0
   ·have hn:Lib.strCells s=[]:=aR (by rw[Lib.strCells_length];exact hne);rw[hn,hne]at hr;have hself:(cur.toList.take n++[]++cur.toList.drop (n+0)).toArray=cur:=by simp
    rw[hself,setRow_self w g cur e _ hb]at hr;exact⟨_,_,_,by rw[hne];exact hr,by rw[hn,hne];simpa using ho0,.inl ⟨rfl,rfl,rfl,hn⟩⟩
   ·refine⟨_,_,_,hr,jX.of_blk (setRow_heap w g cur _ e _ hb) hroom r2 ?_ ?_,.inr (.inl ⟨g,cur,rfl,rfl,by omega,hb,by rw[Lib.strCells_length];simp,by rw[Lib.strCells_length];omega⟩)⟩
    ·simp only[List.size_toArray,aM,aS,List.length_drop,bB,Lib.strCells_length];omega
    ·have ht':cur.toList.take n=us:=by simpa using r4
     rw[ht',←hlen];exact List.take_left
  ·have holds:∀j u,us[j]?=some u→w.cell? ((⟨g,0,none⟩:Addr).add j)=some u:=fun j u hu=>by
    obtain⟨b,o,he,hcell⟩:=ho0.cells_.get j u hu;simp only[bE]at he;rw[he,Addr.add_lit];exact hcell
   have hr:=Lib.run_append_grow_string (P:=P) w t u ty e i (.int .u8 0) ht hu hi hz ⟨g,0,none⟩ n c us (by rw[hsize];exact hl0) holds s (by omega) (by omega) (by rw[hby];exact growslice_fits (by omega) (by omega));exact⟨_,_,_,hr,grown c (by omega),.inr (.inr ⟨rfl,_,rfl⟩)⟩
theorem C3 {P:bI}{w:World}{ops:Array Oper}{rest:List Oper}{o:Oper}{a:Act}{Q:Exit→Act→World→Prop}(hgd:o.guard=none) (sl x:Operand) (t u:TypeId)
  (ho:o.op=.call { callee:=.builtin .append,args:=#[sl,x],argTypes:=#[t,u] }) (e:TypeId) (i:TypeInfo) (ht:P.underlying t=some (.slice e)) (hu:P.underlying u=some .string) (hi:P.info? e=some i) (hz:i.zero=some (.int .u8 0))
  (hsize:i.size=1) (hby:i.bytes=1) {A:Option Addr}{n c:Nat}{us:List Value}(hs:a.eval sl=.slice A n c) (hown:jX w e 1 A n c us) (s:bH) (hx:a.eval x=.string s) (h63:n+s.size≤maxLen) (hbytes:n+s.size≤140737488355328)
  (h:∀A2 c2 w',jX w' e 1 A2 (n+s.size) c2 (us++Lib.strCells s)→lO (lP A) w w'→(∀b∈lP A2,b∈lP A∨w.heap.size≤b)→wpList P ops Q rest (a.put o.dst (.slice A2 (n+s.size) c2)) w'):wpList P ops Q (o :: rest) a w:=by
 refine wpList_plain hgd fun K hK=>?_
 obtain⟨A2,c2,w',hr,h2,hcase⟩:=Kt (P:=P) t u o.type e i ht hu hi hz hsize hby hown s h63 hbytes;have h3:lO (lP A) w w'∧(∀b∈lP A2,b∈lP A∨w.heap.size≤b):=by
  rcases hcase with ⟨rfl,_,rfl,_⟩|⟨g,cur,rfl,rfl,_,hb,rfl,_⟩|⟨rfl,arr,rfl⟩
  ·exact⟨lO.refl _ _,fun b hb=>.inl hb⟩
  ·exact⟨⟨rfl,rfl,rfl,by simp[World.setRow],fun k _ hk=>setRow_other w g k _ (by simpa using hk)⟩,fun b hb=>.inl hb⟩
  ·exact⟨⟨rfl,rfl,rfl,by simp,fun k hk _=>Below.heap_alloc w.drew _ k hk⟩,fun b hb=>.inr (by simp at hb;omega)⟩
 unfold Oper.wp execOp;simp only[ho,resolve,invoke,builtin,Sem.run_bind,Sem.run_pure,Result.andThen_ok,List.map_toArray,List.map_cons,List.map_nil,hs,hx,hr];exact hK _ _ (h A2 c2 w' h2 h3.1 h3.2)
def yL (s:bH):AV:=if s.size=0 then .v (.pointer none) else .ptr 0 0
section
variable {P:bI}{ρ:Ren}
set_option maxHeartbeats 1000000 in
set_option maxRecDepth 100000 in
theorem Od (L:Lays.n240 P ρ) (X:Builder.X72 P ρ) (b:Nat) (p v:Value) (w:World) (hb:jE w b (ρ.t 72) #[p,v]) (hp:p=.pointer none∨p=.pointer (some ⟨b,0,none⟩)) :
  Calls P (ρ.f 240) #[.pointer (some ⟨b,0,none⟩)] w fun e w'=>e=.returned (.tuple #[])∧jE w' b (ρ.t 72) #[.pointer (some ⟨b,0,none⟩),v]∧lO [b] w w'∧w'.heap.size=w.heap.size:=by
 rcases hp with rfl|rfl
 ·refine(Any.Builder_copyCheck_fresh L X b w (hb.cell 0 _ rfl) (by unfold jE at hb;simp[World.shape?,hb]) (hb.free 0)).mono ?_;rintro e w' ⟨rfl,rfl⟩;exact⟨rfl,hb.set_ 0 _,(lO.refl _ _).setCell (.inl (by simp)) _,by simp[World.setCell]⟩
 ·refine(Any.Builder_copyCheck_used L X b w (hb.cell 0 _ rfl)).mono ?_;rintro e w' ⟨rfl,rfl⟩;exact⟨rfl,hb,lO.refl _ _,rfl⟩
set_option maxHeartbeats 2000000 in
set_option maxRecDepth 100000 in
theorem LW (L:Lays.n166 P ρ) (X:Builder.Extra P ρ) (b:Nat) (p:Value) {A:Option Addr}{n c:Nat}{us:List Value}(s:bH) (w:World) (hb:jE w b (ρ.t 72) #[p,.slice A n c]) (hp:p=.pointer none∨p=.pointer (some ⟨b,0,none⟩))
  (hown:jX w (ρ.t 5) 1 A n c us) (hd:b∉lP A) (hlen:n+s.size≤140737488355328) :
  Calls P (ρ.f 166) #[.pointer (some ⟨b,0,none⟩),.string s] w fun e w'=>e=.returned (.tuple #[.int .i64 s.size,.nilIface])∧∃A2 c2,jE w' b (ρ.t 72) #[.pointer (some ⟨b,0,none⟩),.slice A2 (n+s.size) c2]∧jX w' (ρ.t 5) 1 A2 (n+s.size) c2 (us++Lib.strCells s)∧
   lO (b :: lP A) w w'∧∀g∈lP A2,g∈lP A∨w.heap.size≤g:=by
 obtain⟨i0,hi,hz0,hz1,hz2⟩:=info_parts X.infoByte;have mixed:=L.mixed;have t72:=L.t72;have a72:=L.a72;have z72:=L.z72;have v72:=L.v72;have u72:=run_underlying L.t72;have t70:=L.t70;have a70:=L.a70;have z70:=L.z70;have v70:=L.v70;have u70:=run_underlying L.t70;have t37:=L.t37;have a37:=L.a37;have z37:=L.z37;have v37:=L.v37;have u37:=run_underlying L.t37;have t3:=L.t3;have a3:=L.a3;have z3:=L.z3;have v3:=L.v3;have u3:=run_underlying L.t3;have t9:=L.t9;have a9:=L.a9;have z9:=L.z9;have v9:=L.v9;have u9:=run_underlying L.t9;have t4:=L.t4;have a4:=L.a4;have z4:=L.z4;have v4:=L.v4;have u4:=run_underlying L.t4;have t164:=L.t164;have a164:=L.a164;have z164:=L.z164;have v164:=L.v164;have u164:=run_underlying L.t164;have t5:=X.t5;have a5:=X.a5;have z5:=X.z5;have v5:=X.v5;have u5:=run_underlying X.t5;have e240:∀args w,(callFunc (ρ.f 240) args).run P w=.ok (.enter (ρ.f 240) args) w:=enters_of L.f240 (by kernel_rfl) rfl;have c1a:w.cell? ⟨b,1,none⟩=some (.slice A n c):=hb.cell 1 _ rfl
 go_enter L.f166,Body.n166_ntmps ρ
 go_wp2_with (go_at_fn (ρ.f 240);refine(Od { L with } X.toX72 b p _ _ hb hp).mono ?_)
 rintro e w1 ⟨rfl,hb1,hf1,hsz⟩;have c0:w1.cell? ⟨b,0,none⟩=some (.pointer (some ⟨b,0,none⟩)):=hb1.cell 0 _ rfl;have c1:w1.cell? ⟨b,1,none⟩=some (.slice A n c):=hb1.cell 1 _ rfl;have hown1:jX w1 (ρ.t 5) 1 A n c us:=hown.frS (S:=(·∈[b])) (pub:=fun _=>0) (Fr.of_frm hf1 (fun _ _=>rfl)) (fun g hg=>by simp;rintro rfl;exact hd hg)
 go_wp2_with (at_builtin;refine C3 rfl _ _ (ρ.t 37) (ρ.t 9) rfl (ρ.t 5) i0 L.t37 L.t9 hi hz0 hz1 hz2 rfl hown1 s rfl ?c3 ?c4 ?_)
 case c3=>unfold maxLen;omega
 case c4=>omega
 intro A2 c2 w2 hown2 hf2 hfp;have hb2:jE w2 b (ρ.t 72) #[.pointer (some ⟨b,0,none⟩),.slice A n c]:=hb1.frm hf2 hd;have d0:w2.cell? ⟨b,0,none⟩=some (.pointer (some ⟨b,0,none⟩)):=hb2.cell 0 _ rfl;have d1:w2.cell? ⟨b,1,none⟩=some (.slice A n c):=hb2.cell 1 _ rfl;have f1:w2.frozen? ⟨b,1,none⟩=false:=hb2.free 1;have hd2:b∉lP A2:=fun h=>by
  rcases hfp b h with h1|h1
  ·exact hd h1
  ·have:=hb1.lt;omega
 go_wp2
 go_ret2
 refine⟨rfl,A2,c2,hb2.set_ 1 _,hown2.frS (S:=(·∈[b])) (pub:=fun _=>0) (Fr.of_frm ((lO.refl [b] w2).setCell (.inl (by simp)) _) (fun _ _=>rfl)) (fun g hg=>by simp;rintro rfl;exact hd2 hg),?_,fun g hg=>?_⟩
 ·exact((hf1.mono (by simp)).trans (hf2.mono (S':=b :: lP A) (by simp +contextual)) (by simp +contextual)).setCell (.inl (by simp)) _
 ·rcases hfp g hg with h1|h1
  ·exact .inl h1
  ·exact .inr (by omega)
theorem Ep {pub:cY}{w:World}{r:cT}{T U:TypeId}{x:AV}{out:bH}(h:nU pub w r [.blk T [x,.hd 1],.row U 1 (kD out)]) :
  ∃b A c p,r 0=some (.pointer (some ⟨b,0,none⟩))∧r 1=some (.slice A out.size c)∧jE w b T #[p,.slice A out.size c]∧bU pub w r x p∧jX w U 1 A out.size c (Lib.strCells out)∧b∉lP A∧pub b=0∧∀g∈lP A,pub g=0:=by
 have h0:=h.ent 0 _ rfl;have h1:=h.ent 1 _ rfl;generalize hr0:r 0=v0 at h0;generalize hr1:r 1=v1 at h1;cases h0 with
 |@blk _ _ _ b arr hb hc hp=>
  cases h1 with
  |@row _ _ _ _ A c us ho hu hs hp1=>
   rw[BU]at hu;have hus:=OY hu;subst hus;rw[Ft]at ho hr1⊢;obtain⟨p,us1,he1,q1,q2⟩:=hc.cons_inv;obtain⟨v,us2,he2,q3,q4⟩:=q2.cons_inv;have q5:=q4.nil_inv;subst q5;cases q3 with
   |hd q6 _=>
    rw[hr1]at q6;cases q6;have ha:arr=#[p,.slice A out.size c]:=Array.toList_inj.1 (by rw[he1,he2]);subst ha;refine⟨b,A,c,p,rfl,rfl,hb,q1,ho,fun hm=>?_,hp,hp1⟩;exact h.disj 0 1 _ _ (by decide) hr0 hr1 b (by simp[cH]) (by simpa [cH]using hm)
theorem K0 {pub:cY}{w w':World}{r:cT}{T U T' U':TypeId}{x y:AV}{xs:List AV}{t:bH}{b:Nat}{A A2:Option Addr}{n c c2:Nat}{q:Value}(h:nU pub w r [.blk T' [x,y],.row U' 1 xs]) (h0:r 0=some (.pointer (some ⟨b,0,none⟩))) (h1:r 1=some (.slice A n c))
  (hb:jE w' b T #[q,.slice A2 t.size c2]) (hq:∀r':cT,r' 0=r 0→bU pub w' r' (yL t) q) (ho:jX w' U 1 A2 t.size c2 (Lib.strCells t)) (hf:lO (b :: lP A) w w') (hA:∀g∈lP A2,g∈lP A∨w.heap.size≤g) (hp:pub b=0) (hp2:∀g∈lP A,pub g=0) (hd:b∉lP A2) :
  nU pub w' (fX r 1 (.slice A2 t.size c2)) [.blk T [yL t,.hd 1],.row U 1 (kD t)]∧Fr (vP r) pub w pub w'∧(∀g,vP (fX r 1 (.slice A2 t.size c2)) g→vP r g∨w.heap.size≤g)∧(∀k z,r k=some z→PG z=false→fX r 1 (.slice A2 t.size c2) k=some z):=by
 have hfr:Fr (·∈b :: lP A) pub w pub w':=Fr.of_frm hf (fun g hg=>by
  rcases List.mem_cons.1 hg with rfl|hg
  ·exact hp
  ·exact hp2 g hg)
 have hk2:∀k,2≤k→r k=none:=fun k hk=>h.none_ k (by simpa using hk)
 have r10:fX r 1 (.slice A2 t.size c2) 0=r 0:=cQ _ _ (by decide);refine⟨⟨fun k e he=>?_,fun k hk=>?_,fun i j u v hij hu hv=>?_,fun g hg=>h.fresh g (Nat.le_trans hf.size hg),fun g i hi=>?_,h.glob.ext hfr.ext⟩,hfr.mono (fun g hg=>.inl ?_),fun g hg=>?_,fun k z hz hs=>?_⟩
 ·match k,he with
  |0,he=>
   cases he;rw[r10,h0];exact .blk hb (.cons (hq _ r10) (.cons (.hd (cB _ _ _) rfl) .nil)) hp
  |1,he=>
   cases he;rw[cB];have hl:t.size=(kD t).length:=(Ft t).symm;rw[hl];refine .row (by rw[←hl];exact ho) (by rw[BU];exact NR _ _ _ _) (Mf t) (fun g hg=>?_);rcases hA g hg with h3|h3
   ·exact hp2 g h3
   ·exact h.fresh g h3
  |k+2,he=>simp at he
 ·rw[cQ _ _ (by(have:2≤k:=(by simpa using hk));omega)];exact hk2 k (by simpa using hk)
 ·have cases2:∀k z,fX r 1 (.slice A2 t.size c2) k=some z→(k=0∧z=.pointer (some ⟨b,0,none⟩))∨(k=1∧z=.slice A2 t.size c2):=fun k z hz=>by
   match k,hz with
   |0,hz=>rw[r10,h0]at hz;cases hz;exact .inl ⟨rfl,rfl⟩
   |1,hz=>rw[cB]at hz;cases hz;exact .inr ⟨rfl,rfl⟩
   |k+2,hz=>rw[cQ _ _ (by omega),hk2 _ (by omega)]at hz;cases hz
  intro g hg hg';rcases cases2 i u hu with ⟨rfl,rfl⟩|⟨rfl,rfl⟩<;>rcases cases2 j v hv with ⟨rfl,rfl⟩|⟨rfl,rfl⟩
  ·exact hij rfl
  ·simp[cH]at hg;subst hg;exact hd (by simpa [cH]using hg')
  ·simp[cH]at hg';subst hg';exact hd (by simpa [cH]using hg)
  ·exact hij rfl
 ·obtain⟨u,hu⟩:=h.there g i hi;exact⟨u,hfr.ext.cell g i u hi hu⟩
 ·rcases List.mem_cons.1 hg with rfl|hg
  ·exact⟨0,_,h0,by simp[cH]⟩
  ·exact⟨1,_,h1,by simpa [cH]using hg⟩
 ·obtain⟨k,z,hz,hg⟩:=hg;by_cases hk:k=1
  ·subst hk;rw[cB]at hz;cases hz;rcases hA g (by simpa [cH]using hg)with h3|h3
   ·exact .inl ⟨1,_,h1,by simpa [cH]using h3⟩
   ·exact .inr h3
  ·rw[cQ _ _ hk]at hz;exact .inl ⟨k,z,hz,hg⟩
 ·by_cases hk:k=1
  ·subst hk;rw[h1]at hz;cases hz;cases hs
  ·rw[cQ _ _ hk];exact hz
theorem EE (L:Lays.n166 P ρ) (X:Builder.Extra P ρ):bK P (ρ.f 166) (spec (fun i:bH×bH=>[.ptr 0 0,.str i.2]) (fun i=>[.blk (ρ.t 72) [yL i.1,.hd 1],.row (ρ.t 5) 1 (kD i.1)])
  (fun i=>i.1.size+i.2.size≤140737488355328∧i.2.size≠0) (fun i=>.tup [.int .i64 i.2.size,.v .nilIface]) fun i=>[.blk (ρ.t 72) [yL (i.1++i.2),.hd 1],.row (ρ.t 5) 1 (kD (i.1++i.2))]):=by
 intro args H K ⟨⟨out,s⟩,ha,hH,⟨hlen,hs0⟩,hK⟩ w r pub vals hm hv;subst ha;subst hH;obtain⟨b,A,c,p,h0,h1,hb,hp,hown,hd,hpb,hpA⟩:=Ep hm;obtain⟨u,us,he,q1,q2⟩:=hv.cons_inv;obtain⟨us',he',q3⟩:=q2.str_inv;have q4:=q3.nil_inv;subst q4;have hu:u=.pointer (some ⟨b,0,none⟩):=by
  cases q1 with
  |ptr _ h2=>rw[h0]at h2;cases h2;rfl
 have hvals:vals=#[.pointer (some ⟨b,0,none⟩),.string s]:=Array.toList_inj.1 (by rw[he,he',hu]);subst hvals;have hp':p=.pointer none∨p=.pointer (some ⟨b,0,none⟩):=by
  unfold yL at hp
  split at hp
  ·cases hp;exact .inl rfl
  ·cases hp with
   |ptr _ h2=>rw[h0]at h2;cases h2;exact .inr rfl
 dsimp only at hlen hs0;refine(LW L X b p s w hb hp' hown hd hlen).mono fun e w' ⟨he,A2,c2,hb2,hown2,hf,hA⟩=>?_
 have hsz:(out++s).size=out.size+s.size:=ByteArray.size_append;have hd2:b∉lP A2:=fun h=>by
  rcases hA b h with h3|h3
  ·exact hd h3
  ·have:=hb.lt;omega
 rw[←hsz]at hb2 hown2;have hcat:Lib.strCells out++Lib.strCells s=Lib.strCells (out++s):=by simp[Lib.strCells]
 rw[hcat]at hown2;obtain⟨k1,k2,k3,k4⟩:=K0 (q:=.pointer (some ⟨b,0,none⟩)) hm h0 h1 hb2 (fun r' hr'=>by
  unfold yL;rw[aE (by rw[hsz];omega)];exact .ptr 0 (by rw[hr',h0])) hown2 hf hA hpb hpA hd2
 exact⟨_,_,_,_,pub,he,hK,.tup rfl (fun i x u hx hu=>by
  match i,hx,hu with
  |0,hx,hu=>cases hx;cases hu;exact .int _ _
  |1,hx,hu=>cases hx;cases hu;exact .v _ rfl
  |i+2,hx,hu=>simp at hx),k1,k2,k3,k4,aN _⟩
theorem lO.freeze {S:List Nat}{a b:World}(h:lO S a b) {p:Addr}(hp:p.block∈S) (n:Nat):lO S a (b.freeze p n):=by
 unfold World.freeze
 split
 ·exact h
 ·refine⟨h.os,h.tape,h.output,by simpa using h.size,fun k hk hn=>?_⟩;have hne:¬p.block=k:=fun e=>hn (e ▸ hp)
  simpa [Array.getElem?_modify,hne]using h.block k hk hn
set_option maxHeartbeats 2000000 in
set_option maxRecDepth 100000 in
theorem Lp (L:Lays.n169 P ρ) (X:Builder.Extra P ρ) (b g cap:Nat) (p:Value) (cur:Array Value) (out:bH) (w:World) (hb:jE w b (ρ.t 72) #[p,.slice (some ⟨g,0,none⟩) out.size cap]) (hg:jE w g (ρ.t 5) cur) (h0:out.size≠0) (hnc:out.size≤cap) (hcm:cap≤maxLen)
  (hcs:cur.size=cap) (hcur:∀(j:Nat) (u:Value),(Lib.strCells out)[j]?=some u→cur[j]?=some u):Calls P (ρ.f 169) #[.pointer (some ⟨b,0,none⟩)] w fun e w'=>e=.returned (.string out)∧lO [g] w w':=by
 have c1:w.drew.cell? ⟨b,1,none⟩=some (.slice (some ⟨g,0,none⟩) out.size cap):=hb.drew.cell 1 _ rfl;have hl:out.data.toList.length=out.size:=by rw[bB];rfl
 have hSD:(Builtin.unsafeSliceData_ #[(ρ.t 37)] (ρ.t 127) #[.slice (some ⟨g,0,none⟩) out.size cap]).run P w.drew=.ok (.pointer (some ⟨g,0,none⟩)) w.drew:=
  Lib.run_unsafeSliceData_row _ _ _ _ _ _ (by omega)
 have hUS:(Builtin.unsafeString_ #[(ρ.t 127),(ρ.t 3)] (ρ.t 9) #[.pointer (some ⟨g,0,none⟩),.int .i64 out.size]).run P w.drew=.ok (.string out) (w.drew.freeze ⟨g,0,none⟩ out.size):=by
  have:=Lib.run_unsafeString_row (P:=P) w.drew (ρ.t 127) (ρ.t 3) (ρ.t 9) (ρ.t 5) L.t127 X.cellsByte g cur.size (by have hg':w.drew.heap[g]?=some (.cells cur (ρ.t 5) (0,0)):=hg;simp[World.shape?,hg']) out.data.toList (by intro h;rw[h]at hl;simp at hl;omega) (by omega) (by unfold maxLen at hcm;omega) (fun j x hx=>by rw[Addr.add_lit,Nat.zero_add];exact hg.drew.cell j _ (hcur j (.int .u8 x.toNat) (by simp[Lib.strCells,hx])));rw[hl]at this;simpa using this
 have mixed:=L.mixed;have t72:=L.t72;have a72:=L.a72;have z72:=L.z72;have v72:=L.v72;have u72:=run_underlying L.t72;have t70:=L.t70;have a70:=L.a70;have z70:=L.z70;have v70:=L.v70;have u70:=run_underlying L.t70;have t37:=L.t37;have a37:=L.a37;have z37:=L.z37;have v37:=L.v37;have u37:=run_underlying L.t37;have t127:=L.t127;have a127:=L.a127;have z127:=L.z127;have v127:=L.v127;have u127:=run_underlying L.t127;have t3:=L.t3;have a3:=L.a3;have z3:=L.z3;have v3:=L.v3;have u3:=run_underlying L.t3;have t9:=L.t9;have a9:=L.a9;have z9:=L.z9;have v9:=L.v9;have u9:=run_underlying L.t9;have t5:=X.t5;have a5:=X.a5;have z5:=X.z5;have v5:=X.v5;have u5:=run_underlying X.t5
 go_enter L.f169,Body.n169_ntmps ρ
 go_wp2
 go_region_o
 all_goals(go_wp2;go_ret;exact⟨rfl,((lO.refl [g] w).drew).freeze (by simp) _⟩)
set_option maxHeartbeats 2000000 in
set_option maxRecDepth 100000 in
theorem L5 (L:Lays.n169 P ρ) (X:Builder.Extra P ρ) (b:Nat) (p:Value) (w:World) (hb:jE w b (ρ.t 72) #[p,.slice none 0 0]):Calls P (ρ.f 169) #[.pointer (some ⟨b,0,none⟩)] w fun e w'=>e=.returned (.string ⟨#[]⟩)∧lO [] w w':=by
 have hUS:=Any.unsafeString_none L X;have c1:w.drew.cell? ⟨b,1,none⟩=some (.slice none 0 0):=hb.drew.cell 1 _ rfl;have hSD:(Builtin.unsafeSliceData_ #[(ρ.t 37)] (ρ.t 127) #[.slice none 0 0]).run P w.drew=.ok (.pointer none) w.drew:=rfl;have mixed:=L.mixed;have t72:=L.t72;have a72:=L.a72;have z72:=L.z72;have v72:=L.v72;have u72:=run_underlying L.t72;have t70:=L.t70;have a70:=L.a70;have z70:=L.z70;have v70:=L.v70;have u70:=run_underlying L.t70;have t37:=L.t37;have a37:=L.a37;have z37:=L.z37;have v37:=L.v37;have u37:=run_underlying L.t37;have t127:=L.t127;have a127:=L.a127;have z127:=L.z127;have v127:=L.v127;have u127:=run_underlying L.t127;have t3:=L.t3;have a3:=L.a3;have z3:=L.z3;have v3:=L.v3;have u3:=run_underlying L.t3;have t9:=L.t9;have a9:=L.a9;have z9:=L.z9;have v9:=L.v9;have u9:=run_underlying L.t9;have t5:=X.t5;have a5:=X.a5;have z5:=X.z5;have v5:=X.v5;have u5:=run_underlying X.t5
 go_enter L.f169,Body.n169_ntmps ρ
 go_wp2
 go_region_o
 all_goals(go_wp2;go_ret;exact⟨rfl,(lO.refl [] w).drew⟩)
set_option maxHeartbeats 2000000 in
set_option maxRecDepth 100000 in
theorem J3 (L:Lays.n169 P ρ) (X:Builder.Extra P ρ) (b g:Nat) (p:Value) (cur:Array Value) (w:World) (hb:jE w b (ρ.t 72) #[p,.slice (some ⟨g,0,none⟩) 0 0]) (hg:jE w g (ρ.t 5) cur):Calls P (ρ.f 169) #[.pointer (some ⟨b,0,none⟩)] w fun e w'=>e=.returned (.string ⟨#[]⟩)∧lO [] w w':=by
 have hUS:=Any.unsafeString_none L X;have c1:w.drew.cell? ⟨b,1,none⟩=some (.slice (some ⟨g,0,none⟩) 0 0):=hb.drew.cell 1 _ rfl;have hSD:(Builtin.unsafeSliceData_ #[(ρ.t 37)] (ρ.t 127) #[.slice (some ⟨g,0,none⟩) 0 0]).run P w.drew=.ok (.pointer (some ⟨w.drew.heap.size,0,none⟩)) (w.drew.alloc (.view ⟨g,0,none⟩ (ρ.t 5))):=
  Lib.run_unsafeSliceData_zero w.drew _ _ (ρ.t 5) L.t127 ⟨g,0,none⟩ 0 ((ρ.t 5),cur.size) (by have hg':w.drew.heap[g]?=some (.cells cur (ρ.t 5) (0,0)):=hg;simp[World.shape?,hg'])
 have c2:(w.drew.alloc (.view ⟨g,0,none⟩ (ρ.t 5))).cell? ⟨b,1,none⟩=some (.slice (some ⟨g,0,none⟩) 0 0):=(hb.drew.alloc _).cell 1 _ rfl;have c3:(w.alloc (.view ⟨g,0,none⟩ (ρ.t 5))).drew.cell? ⟨b,1,none⟩=some (.slice (some ⟨g,0,none⟩) 0 0):=c2;have c0:w.cell? ⟨b,1,none⟩=some (.slice (some ⟨g,0,none⟩) 0 0):=c1;have mixed:=L.mixed;have t72:=L.t72;have a72:=L.a72;have z72:=L.z72;have v72:=L.v72;have u72:=run_underlying L.t72;have t70:=L.t70;have a70:=L.a70;have z70:=L.z70;have v70:=L.v70;have u70:=run_underlying L.t70;have t37:=L.t37;have a37:=L.a37;have z37:=L.z37;have v37:=L.v37;have u37:=run_underlying L.t37;have t127:=L.t127;have a127:=L.a127;have z127:=L.z127;have v127:=L.v127;have u127:=run_underlying L.t127;have t3:=L.t3;have a3:=L.a3;have z3:=L.z3;have v3:=L.v3;have u3:=run_underlying L.t3;have t9:=L.t9;have a9:=L.a9;have z9:=L.z9;have v9:=L.v9;have u9:=run_underlying L.t9;have t5:=X.t5;have a5:=X.a5;have z5:=X.z5;have v5:=X.v5;have u5:=run_underlying X.t5
 go_enter L.f169,Body.n169_ntmps ρ
 go_wp2
 go_region_o
 all_goals(go_wp2;go_ret;exact⟨rfl,((lO.refl [] w).drew).alloc _⟩)
set_option maxHeartbeats 2000000 in
set_option maxRecDepth 100000 in
theorem LY (L:Lays.n169 P ρ) (X:Builder.Extra P ρ) (b g cap:Nat) (p:Value) (w:World) (hc0:cap≠0) (hb:jE w b (ρ.t 72) #[p,.slice (some ⟨g,0,none⟩) 0 cap]):Calls P (ρ.f 169) #[.pointer (some ⟨b,0,none⟩)] w fun e w'=>e=.returned (.string ⟨#[]⟩)∧lO [] w w':=by
 have hUS:=Any.unsafeString_none L X;have c1:w.drew.cell? ⟨b,1,none⟩=some (.slice (some ⟨g,0,none⟩) 0 cap):=hb.drew.cell 1 _ rfl;have hSD:(Builtin.unsafeSliceData_ #[(ρ.t 37)] (ρ.t 127) #[.slice (some ⟨g,0,none⟩) 0 cap]).run P w.drew=.ok (.pointer (some ⟨g,0,none⟩)) w.drew:=
  Lib.run_unsafeSliceData_row _ _ _ _ _ _ hc0
 clear hc0;have mixed:=L.mixed;have t72:=L.t72;have a72:=L.a72;have z72:=L.z72;have v72:=L.v72;have u72:=run_underlying L.t72;have t70:=L.t70;have a70:=L.a70;have z70:=L.z70;have v70:=L.v70;have u70:=run_underlying L.t70;have t37:=L.t37;have a37:=L.a37;have z37:=L.z37;have v37:=L.v37;have u37:=run_underlying L.t37;have t127:=L.t127;have a127:=L.a127;have z127:=L.z127;have v127:=L.v127;have u127:=run_underlying L.t127;have t3:=L.t3;have a3:=L.a3;have z3:=L.z3;have v3:=L.v3;have u3:=run_underlying L.t3;have t9:=L.t9;have a9:=L.a9;have z9:=L.z9;have v9:=L.v9;have u9:=run_underlying L.t9;have t5:=X.t5;have a5:=X.a5;have z5:=X.z5;have v5:=X.v5;have u5:=run_underlying X.t5
 go_enter L.f169,Body.n169_ntmps ρ
 go_wp2
 go_region_o
 all_goals(go_wp2;go_ret;exact⟨rfl,(lO.refl [] w).drew⟩)
theorem NM (L:Lays.n169 P ρ) (X:Builder.Extra P ρ) (b:Nat) (p:Value) {A:Option Addr}{c:Nat}(out:bH) (w:World) (hb:jE w b (ρ.t 72) #[p,.slice A out.size c]) (hown:jX w (ρ.t 5) 1 A out.size c (Lib.strCells out)) :
  Calls P (ρ.f 169) #[.pointer (some ⟨b,0,none⟩)] w fun e w'=>e=.returned (.string out)∧lO (lP A) w w':=by
 have hemp:out.size=0→out=⟨#[]⟩:=fun h=>by
  cases out with
  |mk d=>
   have:d.size=0:=h;rw[Array.eq_empty_of_size_eq_zero this]
 rcases hown.cases_ with ⟨rfl,h0,rfl,_⟩|⟨g,cur,rfl,hg,r1,r2,r3,r4⟩
 ·rw[h0]at hb;rw[hemp h0];exact L5 L X b p w hb
 ·by_cases h0:out.size=0
  ·rw[h0]at hb;rw[hemp h0];by_cases hc:c=0
   ·subst hc;exact(J3 L X b g p cur w hb hg).mono fun e w' h=>⟨h.1,h.2.mono (by simp)⟩
   ·exact(LY L X b g c p w hc hb).mono fun e w' h=>⟨h.1,h.2.mono (by simp)⟩
  ·refine Lp L X b g c p cur out w hb hg h0 r1 r2 (by simpa using r3) fun j u hu=>?_
   rw[←r4,List.getElem?_take]at hu
   split at hu
   ·rw[aY]at hu;exact hu
   ·cases hu
theorem DM (L:Lays.n169 P ρ) (X:Builder.Extra P ρ):bK P (ρ.f 169) (spec (fun _:bH×AV=>[.ptr 0 0]) (fun i=>[.blk (ρ.t 72) [i.2,.hd 1],.row (ρ.t 5) 1 (kD i.1)]) (fun _=>True) (fun i=>.str i.1) fun _=>[.blk (ρ.t 72) [.any,.any],.dead]):=by
 intro args H K ⟨⟨out,x⟩,ha,hH,_,hK⟩ w r pub vals hm hv;subst ha;subst hH;obtain⟨b,A,c,p,h0,h1,hb,hp,hown,hd,hpb,hpA⟩:=Ep hm;obtain⟨u,us,he,q1,q2⟩:=hv.cons_inv;have q4:=q2.nil_inv;subst q4;have hu:u=.pointer (some ⟨b,0,none⟩):=by
  cases q1 with
  |ptr _ h2=>rw[h0]at h2;cases h2;rfl
 have hvals:vals=#[.pointer (some ⟨b,0,none⟩)]:=Array.toList_inj.1 (by rw[he,hu]);subst hvals;refine(NM L X b p out w hb hown).mono fun e w' ⟨he,hf⟩=>?_
 have hfr:Fr (·∈lP A) pub w pub w':=Fr.of_frm hf hpA;have hk0:∀k,k≠0→(fun k=>if k=0 then r 0 else none:cT) k=none:=fun k hk=>aE hk
 refine⟨_,_,_,fun k=>if k=0 then r 0 else none,pub,he,hK,.str _,⟨fun k e he=>?_,fun k hk=>aE (by simp at hk;omega),fun i j u v hij hu hv=>?_,fun g hg=>hm.fresh g (Nat.le_trans hf.size hg),fun g i hi=>?_,hm.glob.ext hfr.ext⟩,hfr.mono (fun g hg=>.inl ⟨1,_,h1,by simpa [cH]using hg⟩),fun g hg=>?_,fun k z hz hs=>?_,aN _⟩
 ·match k,he with
  |0,he=>
   cases he;simp only[if_true];rw[h0];exact .blk (hb.frm hf hd) (.cons (.any _) (.cons (.any _) .nil)) hpb
  |1,he=>
   cases he;exact .dead
  |k+2,he=>simp at he
 ·exfalso;have a1:i=0:=Classical.byContradiction fun h=>by rw[aE h]at hu;cases hu
  have a2:j=0:=Classical.byContradiction fun h=>by rw[aE h]at hv;cases hv
  exact hij (a1.trans a2.symm)
 ·obtain⟨u,hu⟩:=hm.there g i hi;exact⟨u,hfr.ext.cell g i u hi hu⟩
 ·obtain⟨k,z,hz,hg⟩:=hg;replace hz:(if k=0 then r 0 else none)=some z:=hz;have a1:k=0:=Classical.byContradiction fun h=>by rw[aE h]at hz;cases hz
  subst a1;exact .inl ⟨0,z,by simpa using hz,hg⟩
 ·match k,hz with
  |0,hz=>simpa using hz
  |1,hz=>rw[h1]at hz;cases hz;cases hs
  |k+2,hz=>rw[hm.none_ (k+2) (by simp)]at hz;cases hz
end
end Go.Proofs.YtigdiekbiphhmaaGreatDoor
namespace Go.Proofs.YtigdiekbiphhmaaGreatDoor
open Go.RowKit Go.Shelf
set_option maxHeartbeats 4000000
set_option maxRecDepth 100000
theorem Co (x sep:bH):dY [x] sep=x:=by
 obtain⟨⟨l⟩⟩:=x;unfold dY;rw[List.map_cons,List.map_nil,Lib.join_one]
theorem Bj (sep:List UInt8) (r:List (List UInt8)) (x:List UInt8):Lib.joinTail sep (r++[x])=Lib.joinTail sep r++(sep++x):=by
 unfold Lib.joinTail;simp
theorem mE (y:bH) (r:List bH) (x sep:bH):dY (y :: r++[x]) sep=dY (y :: r) sep++sep++x:=by
 unfold dY;apply ByteArray.ext;rw[List.cons_append,List.map_cons,List.map_append,List.map_cons,List.map_nil,Lib.join_cons,Bj,List.map_cons,Lib.join_cons];simp
theorem BH (sep:bH):dY [] sep=⟨#[]⟩:=rfl
theorem kE:∀(l:List bH) (sep:bH) (n:Nat),(∀s∈l,s.size≤n)→(dY l sep).size≤l.length * (n+sep.size)
 |[],sep,n,_=>by rw[BH];exact aI _
 |y :: r,sep,n,h=>by
  have e:(dY (y :: r) sep).size=y.size+(Lib.joinTail sep.data.toList (r.map (·.data.toList))).length:=by
   show (List.toArray _).size=_;rw[List.size_toArray,List.map_cons,Lib.join_cons,aM,bB];rfl
  have h2:∀r:List bH,(∀s∈r,s.size≤n)→(Lib.joinTail sep.data.toList (r.map (·.data.toList))).length≤r.length * (n+sep.size):=by
   intro r
   induction r with
   |nil=>intro _;exact aI _
   |cons a r ih=>
    intro hr;have h3:=ih fun s hs=>hr s (aW _ hs)
    have h4:=hr a (bD ..);have e2:(Lib.joinTail sep.data.toList ((a :: r).map (·.data.toList))).length=sep.size+a.size+(Lib.joinTail sep.data.toList (r.map (·.data.toList))).length:=by
     unfold Lib.joinTail;rw[List.map_cons,List.map_cons,List.flatten_cons,aM,aM,bB,bB];rfl
    rw[e2,List.length_cons,Nat.add_mul,Nat.one_mul];omega
  have h5:=h2 r fun s hs=>h s (aW _ hs)
  have h6:=h y (bD ..);rw[e,List.length_cons,Nat.add_mul,Nat.one_mul];omega
def PC:dA:=spec (fun i:List bH×bH=>[.sl 1 (bJ (fun s=>.str s) i.1),.str i.2]) (fun _=>[]) (fun i=>(dY i.1 i.2).size≤140737488355328∧i.1.length≤140737488355328) (fun i=>.str (dY i.1 i.2)) fun _=>[]
theorem Ml:bK Tryz.prog 57 PC:=Qz Q6 T2
def mL:bH:=⟨#[44]⟩
def Ik:dA:=spec (fun l:List bH=>[.sl 1 (bJ .str l)]) (fun _=>[]) (fun l=>l.length≤5000∧∀s∈l,s.size≤1000) (fun l=>.str (dY l mL)) fun _=>[]
theorem HJ (P:bI):bM P Y0 Ik:=by
 intro args H K hc;obtain⟨l,rfl,rfl,hp,hK⟩:=hc;refine⟨cL,?_⟩;dsimp only at hp hK⊢;obtain⟨hl,hs⟩:=hp;obtain⟨n,hn⟩:∃n:Nat,n=l.length:=⟨_,rfl⟩
 obtain⟨q,hq⟩:∃q,q=dY l mL:=⟨_,rfl⟩
 rw[←hq]at hK;have z44:(ByteArray.mk (Array.mk [44])).size=1:=rfl;cbv;refine bS [] (fun p:{ p:Nat×bH // p.1≤l.length∧p.2=dY (l.take p.1) mL }=>[(3,.str p.1.2),(4,.i (nI p.1.1))]) (fun _=>[]) (fun p=>eW n p.1.1) ⟨(0,⟨#[]⟩),aI _,rfl⟩ ?_;rintro ⟨⟨k,s⟩,hk,hsk⟩;dsimp only at hk hsk⊢;have hsz:s.size≤5000 * 1001:=by
  rw[hsk];refine Nat.le_trans (kE (l.take k) mL 1000 fun x hx=>hs x (List.mem_of_mem_take hx)) ?_;exact Nat.mul_le_mul (by rw[aS];omega) (aN _)
 rcases aL k l.length with hks|hks
 rotate_left
 ·obtain rfl:k=n:=by omega
  rw[bC (by omega),←hq]at hsk;subst hsk;cbv;repeat'((first|refine .n fun h=>?_|refine .k fun z hz=>?_|fail)<;>cbv)
  (refine .q9 ?_;cbv;exact .inl (.f9 hK))
 obtain⟨x,hx⟩:=cK hks;have hxs:=hs x (aC hx);have htk:=dC hx;rcases Nat.eq_zero_or_pos k with rfl|hk0
 ·have h1:dY (l.take (0+1)) mL=x:=by rw[htk,List.take_zero,List.nil_append,Co]
  rw[List.take_zero,BH]at hsk;subst hsk;cbv;repeat'((first|refine .e ?_|refine .n fun h=>?_|refine .y fun h=>?_|refine .k fun z hz=>?_|refine .u fun u hu hul=>?_|fail)<;>cbv)
  obtain rfl:z=nI 1:=bQ;exact bN ⟨(1,u),hks,by rw[show (1:Nat)=0+1 from rfl,h1];subst_vars;first|exact ByteArray.empty_append|rfl⟩ (bO (by omega))
 ·have h1:dY (l.take (k+1)) mL=s++mL++x:=by
   rw[htk,hsk];cases ht:l.take k with
   |nil=>
    have:=congrArg List.length ht;rw[aS,List.length_nil]at this;omega
   |cons y r=>exact mE y r x mL
  have hcs:(s++mL).size=s.size+1:=by rw[ByteArray.size_append];rfl
  cbv;repeat'((first|refine .e ?_|refine .y fun h=>?_|refine .k fun z hz=>?_|refine .u fun u hu hul=>?_|fail)<;>cbv)
  obtain rfl:z=nI (k+1):=bQ;exact bN ⟨(k+1,u),hks,by rw[h1];subst_vars;rfl⟩ (bO (by omega))
def DP:dA:=spec (fun i:bH×bH=>[.str i.1,.str i.2]) (fun _=>[]) (fun _=>True) (fun i=>Bx ⟨i.1,i.2⟩) fun _=>[]
theorem C0 (P:bI):bM P Yi DP:=by
 intro args H K hc;obtain⟨⟨a,b⟩,rfl,rfl,hp,hK⟩:=hc;refine⟨cL,?_⟩;dsimp only at hp hK⊢;cbv
 (refine .q9 ?_;cbv;exact .inl (.f9 hK))
def Ou:dA:=spec (fun i:bH×Int=>[.str i.1,.i i.2]) (fun _=>[]) (fun i=>-9223372036854775808≤i.2∧i.2≤9223372036854775807) (fun i=>Bx ⟨i.1,eQ i.2⟩) fun _=>[]
theorem BB (P:bI) (hd:bK P 64 (D5 eQ)) (hf:bK P 136 DP):bM P Yr Ou:=by
 intro args H K hc;obtain⟨⟨a,n⟩,rfl,rfl,hp,hK⟩:=hc;refine⟨cL,?_⟩;dsimp only at hp hK⊢;obtain⟨w,hw⟩:∃w,w=eQ n:=⟨_,rfl⟩
 have hK:K (Bx ⟨a,eQ n⟩) []:=hK;rw[←hw]at hK;cbv
 (refine bX hd n hp ?_;try dsimp only)
 rw[←hw];cbv
 (refine bX hf ((a,w):bH×bH) trivial ?_;try dsimp only)
 cbv
 (refine .q9 ?_;cbv;exact .inl (.f9 hK))
theorem HG (P:bI) (hi:bK P 60 (D5 eQ)):bM P XS (D5 eQ):=by
 intro args H K hc;obtain⟨n,rfl,rfl,hp,hK⟩:=hc;refine⟨cL,?_⟩;dsimp only at hp hK⊢;obtain⟨w,hw⟩:∃w,w=eQ n:=⟨_,rfl⟩
 rw[←hw]at hK;cbv
 (refine bX hi n hp ?_;try dsimp only)
 rw[←hw];cbv
 (refine .q9 ?_;cbv;exact .inl (.f9 hK))
def uX (l:List Oo):List bH:=l.flatMap fun f=>[f.name,f.value]
theorem B4:∀l:List Oo,(uX l).length=2 * l.length
 |[]=>rfl
 |f :: l=>by
  have:=B4 l;unfold uX at *;rw[List.flatMap_cons,aM,this,List.length_cons];simp;omega
theorem FW:∀{l:List Oo}{k:Nat}{f:Oo},l[k]?=some f→(uX l)[2 * k]?=some f.name∧(uX l)[2 * k+1]?=some f.value
 |g :: l,0,f,h=>by
  obtain rfl:g=f:=by simpa using h
  exact⟨rfl,rfl⟩
 |g :: l,k+1,f,h=>by
  have:=FW (l:=l) (k:=k) (f:=f) (by simpa using h);have e:uX (g :: l)=g.name :: g.value :: uX l:=rfl;rw[e,show 2 * (k+1)=2 * k+1+1 by omega,List.getElem?_cons_succ,List.getElem?_cons_succ,List.getElem?_cons_succ,List.getElem?_cons_succ];exact this
def AZ:dA:=spec (fun _:List Oo=>[.hd 0]) (fun l=>[.row 9 1 (bJ .str (uX l))]) (fun l=>l.length≤20) (fun l=>.sl 2 (bJ Bx l)) fun l=>[.row 9 1 (bJ .str (uX l))]
theorem Dq (P:bI):bM P YC AZ:=by
 intro args H K hc;obtain⟨l,rfl,rfl,hp,hK⟩:=hc;refine⟨cL,?_⟩;dsimp only at hp hK⊢;have hfl:=B4 l;obtain⟨W,hW⟩:∃W,W=uX l:=⟨_,rfl⟩
 rw[←hW]at hK hfl⊢;obtain⟨n,hn⟩:∃n:Nat,n=l.length:=⟨_,rfl⟩
 cbv;repeat'((first|refine .q fun z hz hz0 hz1=>?_|refine .k fun z hz=>?_|refine .zl fun zs hzs hzl=>?_|fail)<;>cbv)
 obtain rfl:zs=[]:=hzs;refine bS [1] (fun p:{ p:Nat×Nat // p.1≤l.length∧p.2=2 * p.1 }=>[(3,.hd 1),(4,.i (nI p.1.2))]) (fun p=>[.row 9 1 (bJ .str W),.row 230 2 (bJ Bx (l.take p.1.1))]) (fun p=>eW n p.1.1) ⟨(0,0),aI _,rfl⟩ ?_;rintro ⟨⟨k,i⟩,hk,hi⟩;dsimp only at hk hi⊢;obtain⟨L1,hL1⟩:∃L,L=l.take k:=⟨_,rfl⟩
 have hl1:L1.length≤l.length:=by rw[hL1,aS];omega
 rw[←hL1];rcases aL k l.length with hks|hks
 rotate_left
 ·obtain rfl:k=n:=by omega
  have hL:L1=l:=by rw[hL1,bC (by omega)]
  subst hL;cbv;repeat'((first|refine .n fun h=>?_|refine .k fun z hz=>?_|fail)<;>cbv)
  (refine .r9 (Gh.plain 1 rfl) ?_;cbv;exact .inl (.g9 hK))
 obtain⟨⟨fn,fv⟩,hx⟩:=cK hks;have hsn:=dC hx;rw[←hL1]at hsn;obtain⟨h1,h2⟩:=FW hx;rw[←hW,←hi]at h1 h2;obtain⟨j,hj⟩:∃j,j=i+1:=⟨_,rfl⟩
 rw[←hj]at h2;dsimp only at h1 h2;cbv;repeat'((first|refine .e ?_|refine .y fun h=>?_|refine .k fun z hz=>?_|fail)<;>cbv)
 obtain rfl:z=nI j:=bQ;cbv;repeat'((first|refine .e ?_|refine .k fun z hz=>?_|refine .zl fun zs hzs hzl=>?_|fail)<;>cbv)
 obtain rfl:z=nI (i+2):=bQ;obtain rfl:zs=bJ Bx (l.take (k+1)):=by(rw[hsn,cD,cF];exact hzs)
 exact bN ⟨(k+1,i+2),hks,by(show i+2=2 * (k+1);omega)⟩ (bO (by omega))
def eV (b:Bl):Lw:=⟨2,b.number,b.carrier,[⟨⟨#[99,97,114,114,105,101,114]⟩,b.carrier⟩,⟨⟨#[115,104,105,112,112,101,114]⟩,b.shipper⟩,⟨⟨#[102,114,111,109]⟩,b.frm⟩,⟨⟨#[116,111]⟩,b.to⟩,⟨⟨#[98,111,120,101,115]⟩,eQ b.boxes.length⟩,⟨⟨#[109,97,114,107,115]⟩,dY b.boxes mL⟩,⟨⟨#[105,115,115,117,101,100]⟩,eQ b.issued⟩,⟨⟨#[99,108,101,97,110]⟩,if b.clean=true then ⟨#[121,101,115]⟩ else ⟨#[110,111]⟩⟩,⟨⟨#[112,97,114,101,110,116,115]⟩,dY b.parents mL⟩]⟩
structure SJ (b:Bl):Prop where
 bx:b.boxes.length≤5000∧∀s∈b.boxes,s.size≤1000
 pa:b.parents.length≤5000∧∀s∈b.parents,s.size≤1000
 day:-9223372036854775808≤b.issued∧b.issued≤9223372036854775807
theorem B5 {l:List bH}(h:l.length≤5000∧∀s∈l,s.size≤1000):(dY l mL).size≤140737488355328∧l.length≤140737488355328:=by
 have h1:=kE l mL 1000 h.2;have h2:l.length * (1000+mL.size)≤5000 * 1001:=Nat.mul_le_mul h.1 (aN _);omega
def Gu:dA:=spec (fun b:Bl=>[Kd b]) (fun _=>[]) SJ (fun b=>tG (eV b)) fun _=>[]
theorem Ga (P:bI) (hc:bK P 157 (D5 eQ)) (hj:bK P 57 PC) (hf:bK P 156 AZ):bM P YG Gu:=by
 intro args H K hc;obtain⟨⟨number,carrier,shipper,frm,to,boxes,parents,issued,clean⟩,rfl,rfl,hp,hK⟩:=hc;refine⟨cL,?_⟩;dsimp only at hp hK⊢;obtain⟨hbx,hpa,hday⟩:=hp;dsimp only at hbx hpa hday;have hj1:=B5 hbx;have hj2:=B5 hpa;have hK:K (tG (eV ⟨number,carrier,shipper,frm,to,boxes,parents,issued,clean⟩)) []:=hK;unfold eV at hK;dsimp only at hK;obtain⟨w1,hw1⟩:∃w,w=eQ (boxes.length:Int):=⟨_,rfl⟩
 obtain⟨w2,hw2⟩:∃w,w=eQ issued:=⟨_,rfl⟩
 obtain⟨j1,hjj1⟩:∃w,w=dY boxes mL:=⟨_,rfl⟩
 obtain⟨j2,hjj2⟩:∃w,w=dY parents mL:=⟨_,rfl⟩
 rw[←hw1,←hw2,←hjj1,←hjj2]at hK;cases clean with
 |true=>
  cbv;repeat'((first|refine .k fun z hz=>?_|fail)<;>cbv)
  obtain rfl:z=(boxes.length:Int):=bQ
  (refine bX hc (boxes.length:Int) (by omega) ?_;try dsimp only)
  rw[←hw1];cbv
  (refine bX hj ((boxes,mL):List bH×bH) hj1 ?_;try dsimp only)
  rw[←hjj1];cbv
  (refine bX hc issued hday ?_;try dsimp only)
  rw[←hw2];cbv
  (refine bX hj ((parents,mL):List bH×bH) hj2 ?_;try dsimp only)
  rw[←hjj2];cbv
  (refine fI hf ([⟨⟨#[99,97,114,114,105,101,114]⟩,carrier⟩,⟨⟨#[115,104,105,112,112,101,114]⟩,shipper⟩,⟨⟨#[102,114,111,109]⟩,frm⟩,⟨⟨#[116,111]⟩,to⟩,⟨⟨#[98,111,120,101,115]⟩,w1⟩,⟨⟨#[109,97,114,107,115]⟩,j1⟩,⟨⟨#[105,115,115,117,101,100]⟩,w2⟩,⟨⟨#[99,108,101,97,110]⟩,⟨#[121,101,115]⟩⟩,⟨⟨#[112,97,114,101,110,116,115]⟩,j2⟩]:List Oo) [2] (Nat.le_of_ble_eq_true rfl) ?_;try dsimp only)
  cbv
  (refine .q9 ?_;cbv;exact .inl (.f9 hK))
 |false=>
  cbv;repeat'((first|refine .k fun z hz=>?_|fail)<;>cbv)
  obtain rfl:z=(boxes.length:Int):=bQ
  (refine bX hc (boxes.length:Int) (by omega) ?_;try dsimp only)
  rw[←hw1];cbv
  (refine bX hj ((boxes,mL):List bH×bH) hj1 ?_;try dsimp only)
  rw[←hjj1];cbv
  (refine bX hc issued hday ?_;try dsimp only)
  rw[←hw2];cbv
  (refine bX hj ((parents,mL):List bH×bH) hj2 ?_;try dsimp only)
  rw[←hjj2];cbv
  (refine fI hf ([⟨⟨#[99,97,114,114,105,101,114]⟩,carrier⟩,⟨⟨#[115,104,105,112,112,101,114]⟩,shipper⟩,⟨⟨#[102,114,111,109]⟩,frm⟩,⟨⟨#[116,111]⟩,to⟩,⟨⟨#[98,111,120,101,115]⟩,w1⟩,⟨⟨#[109,97,114,107,115]⟩,j1⟩,⟨⟨#[105,115,115,117,101,100]⟩,w2⟩,⟨⟨#[99,108,101,97,110]⟩,⟨#[110,111]⟩⟩,⟨⟨#[112,97,114,101,110,116,115]⟩,j2⟩]:List Oo) [2] (Nat.le_of_ble_eq_true rfl) ?_;try dsimp only)
  cbv
  (refine .q9 ?_;cbv;exact .inl (.f9 hK))
theorem CE (P:bI) (hn:bK P 137 Ou) (hj:bK P 138 Ik) (hf:bK P 136 DP):bM P x97 Gu:=by
 intro args H K hc;obtain⟨⟨number,carrier,shipper,frm,to,boxes,parents,issued,clean⟩,rfl,rfl,hp,hK⟩:=hc;refine⟨cL,?_⟩;dsimp only at hp hK⊢;obtain⟨hbx,hpa,hday⟩:=hp;dsimp only at hbx hpa hday;have hK:K (tG (eV ⟨number,carrier,shipper,frm,to,boxes,parents,issued,clean⟩)) []:=hK;unfold eV at hK;dsimp only at hK;obtain⟨w1,hw1⟩:∃w,w=eQ (boxes.length:Int):=⟨_,rfl⟩
 obtain⟨w2,hw2⟩:∃w,w=eQ issued:=⟨_,rfl⟩
 obtain⟨j1,hjj1⟩:∃w,w=dY boxes mL:=⟨_,rfl⟩
 obtain⟨j2,hjj2⟩:∃w,w=dY parents mL:=⟨_,rfl⟩
 rw[←hw1,←hw2,←hjj1,←hjj2]at hK;cases clean with
 |true=>
  cbv;repeat'((first|refine .k fun z hz=>?_|fail)<;>cbv)
  have hzb:z=(boxes.length:Int):=bQ;have hw1:w1=eQ z:=by rw[hw1,hzb]
  (refine bX hf ((⟨#[99,97,114,114,105,101,114]⟩,carrier):bH×bH) trivial ?_;try dsimp only)
  cbv
  (refine bX hf ((⟨#[115,104,105,112,112,101,114]⟩,shipper):bH×bH) trivial ?_;try dsimp only)
  cbv
  (refine bX hf ((⟨#[102,114,111,109]⟩,frm):bH×bH) trivial ?_;try dsimp only)
  cbv
  (refine bX hf ((⟨#[116,111]⟩,to):bH×bH) trivial ?_;try dsimp only)
  cbv
  (refine bX hn ((⟨#[98,111,120,101,115]⟩,z):bH×Int) (by dsimp only;((try simp only[vn]at *)<;>omega)) ?_;try dsimp only)
  rw[←hw1];cbv
  (refine bX hj boxes hbx ?_;try dsimp only)
  rw[←hjj1];cbv
  (refine bX hf ((⟨#[109,97,114,107,115]⟩,j1):bH×bH) trivial ?_;try dsimp only)
  cbv
  (refine bX hn ((⟨#[105,115,115,117,101,100]⟩,issued):bH×Int) hday ?_;try dsimp only)
  rw[←hw2];cbv
  (refine bX hf ((⟨#[99,108,101,97,110]⟩,⟨#[121,101,115]⟩):bH×bH) trivial ?_;try dsimp only)
  cbv
  (refine bX hj parents hpa ?_;try dsimp only)
  rw[←hjj2];cbv
  (refine bX hf ((⟨#[112,97,114,101,110,116,115]⟩,j2):bH×bH) trivial ?_;try dsimp only)
  cbv
  (refine .q9 ?_;cbv;exact .inl (.f9 hK))
 |false=>
  cbv;repeat'((first|refine .k fun z hz=>?_|fail)<;>cbv)
  have hzb:z=(boxes.length:Int):=bQ;have hw1:w1=eQ z:=by rw[hw1,hzb]
  (refine bX hf ((⟨#[99,97,114,114,105,101,114]⟩,carrier):bH×bH) trivial ?_;try dsimp only)
  cbv
  (refine bX hf ((⟨#[115,104,105,112,112,101,114]⟩,shipper):bH×bH) trivial ?_;try dsimp only)
  cbv
  (refine bX hf ((⟨#[102,114,111,109]⟩,frm):bH×bH) trivial ?_;try dsimp only)
  cbv
  (refine bX hf ((⟨#[116,111]⟩,to):bH×bH) trivial ?_;try dsimp only)
  cbv
  (refine bX hn ((⟨#[98,111,120,101,115]⟩,z):bH×Int) (by dsimp only;((try simp only[vn]at *)<;>omega)) ?_;try dsimp only)
  rw[←hw1];cbv
  (refine bX hj boxes hbx ?_;try dsimp only)
  rw[←hjj1];cbv
  (refine bX hf ((⟨#[109,97,114,107,115]⟩,j1):bH×bH) trivial ?_;try dsimp only)
  cbv
  (refine bX hn ((⟨#[105,115,115,117,101,100]⟩,issued):bH×Int) hday ?_;try dsimp only)
  rw[←hw2];cbv
  (refine bX hf ((⟨#[99,108,101,97,110]⟩,⟨#[110,111]⟩):bH×bH) trivial ?_;try dsimp only)
  cbv
  (refine bX hj parents hpa ?_;try dsimp only)
  rw[←hjj2];cbv
  (refine bX hf ((⟨#[112,97,114,101,110,116,115]⟩,j2):bH×bH) trivial ?_;try dsimp only)
  cbv
  (refine .q9 ?_;cbv;exact .inl (.f9 hK))
end Go.Proofs.YtigdiekbiphhmaaGreatDoor
namespace Go.Proofs.YtigdiekbiphhmaaGreatDoor
open Go.RowKit
set_option maxHeartbeats 4000000
set_option maxRecDepth 100000
def fL (z:Int):bH:=if z=8 then ⟨#[101,110,100,111,114,115,101]⟩ else if z=20 then ⟨#[115,117,114,114,101,110,100,101,114]⟩ else if z=23 then ⟨#[108,111,115,116]⟩ else if z=24 then ⟨#[114,101,112,108,97,99,101]⟩ else eS
def Ue:List bH:=[⟨#[111,114,100,101,114]⟩,⟨#[97,112,112,108,121]⟩,⟨#[105,115,115,117,101,100]⟩,⟨#[100,101,99,108,105,110,101,100]⟩,⟨#[115,104,105,112]⟩,⟨#[108,97,100,105,110,103]⟩,⟨#[99,111,118,101,114]⟩,⟨#[99,111,118,101,114,101,100]⟩,⟨#[101,110,100,111,114,115,101]⟩,⟨#[101,110,100,111,114,115,101,100]⟩,⟨#[112,114,101,115,101,110,116]⟩,⟨#[114,101,102,117,115,101,100]⟩,⟨#[97,99,99,101,112,116,101,100]⟩,⟨#[112,97,105,100]⟩,⟨#[112,97,112,101,114,115]⟩,⟨#[100,101,99,108,97,114,101]⟩,⟨#[100,117,116,121]⟩,⟨#[116,114,97,110,115,102,101,114]⟩,⟨#[99,114,101,100,105,116,101,100]⟩,⟨#[114,101,108,101,97,115,101]⟩,⟨#[115,117,114,114,101,110,100,101,114]⟩,⟨#[100,101,108,105,118,101,114,101,100]⟩,⟨#[111,98,106,101,99,116,101,100]⟩,⟨#[108,111,115,116]⟩,⟨#[114,101,112,108,97,99,101]⟩,⟨#[114,101,112,108,97,99,101,100]⟩,⟨#[108,97,110,100,101,100]⟩,⟨#[114,101,109,105,116]⟩,⟨#[97,99,107]⟩]
def mG (z:Int):Prop:=z=8∨z=20∨z=23∨z=24
def DY:dA:=spec (fun _:Unit=>[]) (fun _=>[]) (fun _=>True) (fun _=>.sl 1 (bJ .str Ue)) fun _=>[]
theorem E7 (P:bI):bM P Z6 DY:=by
 intro args H K hc;obtain⟨u,rfl,rfl,hp,hK⟩:=hc;refine⟨cL,?_⟩;dsimp only at hp hK⊢;cbv
 (refine .r9 (Gh.plain 0 rfl) ?_;cbv;exact .inl (.g9 hK))
def GC:dA:=spec (fun z:Int=>[.i z]) (fun _=>[]) mG (fun z=>.str (fL z)) fun _=>[]
theorem Im (P:bI):bM P XI GC:=by
 intro args H K hc;obtain⟨z,rfl,rfl,hp,hK⟩:=hc;refine⟨cL,?_⟩;dsimp only at hp hK⊢;rcases hp with rfl|rfl|rfl|rfl
 all_goals
  cbv;repeat'((first|refine .n fun h=>?_|refine .y fun h=>?_|refine .o ?_|fail)<;>cbv)
  (refine .q9 ?_;cbv;exact .inl (.f9 hK))
theorem Jg:∀{H:List cG}{k:Nat}{e e2:cG},H[k]?=some e→Gr e e2→jW H (H.set k e2)
 |[],k,e,e2,h,_=>by cases h
 |a :: H,0,e,e2,h,hl=>by
  obtain rfl:a=e:=by simpa using h
  exact .cons hl (jW.refl H)
 |a :: H,k+1,e,e2,h,hl=>.cons (.refl a) (Jg (by simpa using h) hl)
theorem Gh.leAt {M:Nat}{st:St}(k:Nat) {e:cG}(e2:cG) (hk:st.H[k]?=some e) (h:Gr e e2):Gh M st ⟨st.T,st.H.set k e2⟩:=Gh.le _ (Jg hk h)
theorem sX {t sz:Nat}{l m:List AV}(h:xQ l m):Gr (.row t sz [.agg l]) (.row t sz [.agg m]):=.row (.cons (.agg h) .nil)
def KB:dA:=spec (fun l:dQ=>[eL l]) (fun _=>[]) (fun l=>mG l.kind) (fun _=>.hd 0) fun l=>[.row 58 14 (bJ eL (eR fL l))]
theorem Em (P:bI) (hn:bK P 146 GC):bM P Xj KB:=by
 intro args H K hc;obtain⟨⟨frm,to,number,kind,ack,deal,text,party,index,day,cur,amt,docs,boxes⟩,rfl,rfl,hp,hK⟩:=hc;refine⟨cL,?_⟩;dsimp only at hp hK⊢
 try dsimp only at hp
 have hK:K (.hd 0) [.row 58 14 (bJ eL (eR fL ⟨frm,to,number,kind,ack,deal,text,party,index,day,cur,amt,docs,boxes⟩))]:=hK;unfold eR oN at hK;dsimp only at hK;obtain⟨w,hw⟩:∃w,w=fL kind:=⟨_,rfl⟩
 rw[←hw]at hK;cbv
 (refine bX hn kind hp ?_;try dsimp only)
 rw[←hw];cbv;refine cZ (Gh.leAt 1 (.row 58 14 (bJ eL [⟨eS,frm,0,22,0,eS,w,party,index,0,eS,0,[],[]⟩])) rfl (sX Bh)) ?_;cbv
 (refine .q9 ?_;cbv;exact .inl (eN.sel [1] _ _ (by rfl) (by rfl) (by decide) (by rfl) cL (by rfl) (by rfl) (Le.refl _) (jW.refl _) hK))
def CY:dA:=spec (fun i:List eC×eC=>[.sl 5 (bJ dG i.1),dG i.2]) (fun _=>[]) (fun i=>i.1.length≤100000∧i.2.box.size≤maxLen∧i.2.frm.size≤maxLen∧i.2.to.size≤maxLen∧i.2.place.size≤maxLen) (fun i=>.i (iD i.1 i.2)) fun _=>[]
theorem Cz (P:bI) (hn:bK P 181 (iL (fun s=>s.size≤maxLen) bT)) (hd:bK P 182 xK) (ho:bK P 41 EX):bM P Xg CY:=by
 intro args H K hc;obtain⟨⟨H,box,frm,to,place,day⟩,rfl,rfl,hp,hK⟩:=hc;refine⟨cL,?_⟩;dsimp only at hp hK⊢;obtain⟨hl,hs1,hs2,hs3,hs4⟩:=hp
 try dsimp only at hl hs1 hs2 hs3 hs4
 obtain⟨e,he⟩:∃e,e=iD H ⟨box,frm,to,place,day⟩:=⟨_,rfl⟩
 rw[←he]at hK;unfold iD wM BZ at he;dsimp only at he;obtain⟨b1,hb1⟩:∃b,b=bT box:=⟨_,rfl⟩
 obtain⟨b2,hb2⟩:∃b,b=bT frm:=⟨_,rfl⟩
 obtain⟨b3,hb3⟩:∃b,b=bT to:=⟨_,rfl⟩
 obtain⟨b4,hb4⟩:∃b,b=bT place:=⟨_,rfl⟩
 obtain⟨b5,hb5⟩:∃b,b=gK day:=⟨_,rfl⟩
 obtain⟨O,hO⟩:∃O,O=nE H box:=⟨_,rfl⟩
 have hOl:O.length≤H.length:=by rw[hO];exact IO _ _
 rw[←hb1,←hb2,←hb3,←hb4,←hb5,←hO]at he;cbv
 (refine bX hn box hs1 ?_;try dsimp only)
 rw[←hb1];cases b1 with
 |false=>
  cbv
  (refine .q9 ?_;cbv;exact .inl (.f9 (fO hK (by rw[he];rfl))))
 |true=>
  cbv
  (refine bX hn frm hs2 ?_;try dsimp only)
  rw[←hb2];cases b2 with
  |false=>
   cbv
   (refine .q9 ?_;cbv;exact .inl (.f9 (fO hK (by rw[he];rfl))))
  |true=>
   cbv
   (refine bX hn to hs3 ?_;try dsimp only)
   rw[←hb3];cases b3 with
   |false=>
    cbv
    (refine .q9 ?_;cbv;exact .inl (.f9 (fO hK (by rw[he];rfl))))
   |true=>
    cbv
    (refine bX hn place hs4 ?_;try dsimp only)
    rw[←hb4];cases b4 with
    |false=>
     cbv
     (refine .q9 ?_;cbv;exact .inl (.f9 (fO hK (by rw[he];rfl))))
    |true=>
     cbv;repeat'((first|refine .mk (fun h=>?_) fun h=>?_|fail)<;>cbv)
     ·(refine .q9 ?_;cbv;exact .inl (.f9 (fO hK (by rw[he,aF (by simp[‹frm=to›])]))))
     ·have hne:¬frm=to:=by assumption
      rw[aE (by simp[hne])]at he
      (refine bX hd day trivial ?_;try dsimp only)
      rw[←hb5];cases b5 with
      |false=>
       cbv
       (refine .q9 ?_;cbv;exact .inl (.f9 (fO hK (by rw[he];rfl))))
      |true=>
       rw[aE (by decide)]at he;cbv
       (refine bX ho ((H,box):List eC×bH) hl ?_;try dsimp only)
       rw[←hO];rcases Nat.eq_zero_or_pos O.length with h0|h0
       ·obtain rfl:O=[]:=aR h0;cbv;repeat'((first|refine .y fun h=>?_|refine .k fun z hz=>?_|fail)<;>cbv)
        (refine .q9 ?_;cbv;exact .inl (.f9 (fO hK (by rw[he];rfl))))
       ·obtain⟨m,hm⟩:∃m:Nat,O.length=m+1:=⟨O.length - 1,by omega⟩
        obtain⟨l,hlx⟩:=cK (L:=O) (i:=m) (by omega);have hgl:O.getLast?=some l:=by rw[List.getLast?_eq_getElem?,hm];exact hlx
        rw[hgl]at he;obtain⟨lbox,lfrm,lto,lplace,lday⟩:=l;dsimp only at he;cbv;repeat'((first|refine .n fun h=>?_|refine .k fun z hz=>?_|fail)<;>cbv)
        obtain rfl:z=nI m:=bQ;cbv;repeat'((first|refine .e ?_|refine .mk (fun h=>?_) fun h=>?_|refine .k fun z hz=>?_|fail)<;>cbv)
        ·(refine .q9 ?_;cbv;exact .inl (.f9 (fO hK (by rw[he,aE (fun h=>h (by assumption)),aF (by assumption)]))))
        ·(refine .q9 ?_;cbv;exact .inl (.f9 (fO hK (by rw[he,aE (fun h=>h (by assumption)),aE (by omega),aF bQ]))))
        ·(refine .q9 ?_;cbv;exact .inl (.f9 (fO hK (by rw[he,aE (fun h=>h (by assumption)),aE (by omega),aE bQ]))))
        ·(refine .q9 ?_;cbv;exact .inl (.f9 (fO hK (by rw[he,aF (by assumption)]))))
def pZ (b:Bool):AV:=.bl b
def Fc:Cs→AV
 |⟨S,free,⟨c,L⟩,H,D⟩=>.agg [.sl 1 (bJ dO S),.sl 1 (bJ pZ free),.str c,.sl 11 (bJ iP L),.sl 5 (bJ dG H),.sl 5 (bJ dG D)]
def qP:dA:=spec (fun q:Cs×Nat×Int=>[Fc q.1,.i (nI q.2.1),.i q.2.2]) (fun _=>[]) (fun q=>q.1.S.length≤8∧q.2.1 < q.1.S.length) (fun q=>Fc (oQ q.1 q.2.1 q.2.2)) fun _=>[]
theorem Gx (P:bI):bM P Zz qP:=by
 intro args H K hc;obtain⟨⟨⟨S,free,⟨c,L⟩,H,D⟩,i,st⟩,rfl,rfl,hp,hK⟩:=hc;refine⟨cL,?_⟩;dsimp only at hp hK⊢;obtain⟨hS,hi⟩:=hp
 try dsimp only at hS hi
 obtain⟨s0,hs0⟩:=cK hi;cbv;repeat'((first|refine .e ?_|refine .o ?_|refine .z fun zs hzs=>?_|fail)<;>cbv)
 obtain rfl:zs=bJ dO (S.set i st):=by rw[hzs,dV dO (S.set i st),List.map_set,←dV];rfl
 (refine .r9 (Gh.plain 2 rfl) ?_;cbv;exact .inl (.g9 hK))
def zO:dA:=spec (fun q:jD×bH×Int=>[jS q.1,.str q.2.1,.i q.2.2]) (fun _=>[]) (fun q=>q.1.boxes.length≤70∧q.1.number.size≤300) (fun q=>Kd (gQ q.2.1 (cN q.1.de 0 true) q.2.2)) fun _=>[]
theorem Gj (P:bI) (hm:bK P 20 pP):bM P Zq zO:=by
 intro args H K hc;obtain⟨⟨⟨number,seller,buyer,carrier,issuer,house,insurer,frm,to,cur,amt,boxes,term,latest,expiry,tenor,duty⟩,name,day⟩,rfl,rfl,hp,hK⟩:=hc;refine⟨cL,?_⟩;dsimp only at hp hK⊢;obtain⟨hb,hs⟩:=hp
 try dsimp only at hb hs
 obtain⟨q,hq⟩:∃q,q=jD.marks ⟨number,seller,buyer,carrier,issuer,house,insurer,frm,to,cur,amt,boxes,term,latest,expiry,tenor,duty⟩:=⟨_,rfl⟩
 have hK:K (Kd ⟨PJ++number,name,seller,frm,to,jD.marks ⟨number,seller,buyer,carrier,issuer,house,insurer,frm,to,cur,amt,boxes,term,latest,expiry,tenor,duty⟩,[],day,true⟩) []:=hK;rw[←hq]at hK;have z3:(ByteArray.mk (Array.mk [98,108,45])).size=3:=rfl;obtain⟨bn,hbn⟩:∃b,b=PJ++number:=⟨_,rfl⟩
 rw[←hbn]at hK;cbv;repeat'((first|refine .u fun u hu hul=>?_|fail)<;>cbv)
 obtain rfl:u=bn:=by rw[hbn];assumption
 (refine bX hm (⟨number,seller,buyer,carrier,issuer,house,insurer,frm,to,cur,amt,boxes,term,latest,expiry,tenor,duty⟩:jD) hb ?_;try dsimp only)
 rw[←hq];cbv
 (refine .q9 ?_;cbv;exact .inl (.g9 hK))
def gX (f:bH→eC):List eC→List bH→List eC×Bool
 |H,[]=>(H,true)
 |H,b :: r=>if iD H (f b)≠0 then (H,false) else gX f (H++[f b]) r
theorem BR (f:bH→eC):∀(bs:List bH) (H:List eC),(iE f H bs=none∧(gX f H bs).2=false)∨∃H',iE f H bs=some H'∧gX f H bs=(H',true)
 |[],H=>.inr ⟨H,rfl,rfl⟩
 |b :: r,H=>by
  have g1:gX f H (b :: r)=if iD H (f b)≠0 then (H,false) else gX f (H++[f b]) r:=rfl
  have g2:iE f H (b :: r)=if iD H (f b)≠0 then none else iE f (H++[f b]) r:=rfl
  rw[g1,g2];by_cases h:iD H (f b)≠0
  ·rw[aF h,aF h];exact .inl ⟨rfl,rfl⟩
  ·rw[aE h,aE h];exact BR f r _
structure ZC (f:bH→eC) (H:List eC) (bs:List bH) (p:Nat×List eC):Prop where
 le:p.1≤bs.length
 eq:gX f H bs=gX f p.2 (bs.drop p.1)
 len:p.2.length≤H.length+p.1
structure T1 where
 H:List eC
 d:jD
 frm:bH
 to:bH
 place:bH
 day:Int
structure Sr (q:T1):Prop where
 len:q.H.length≤50000
 ok:Gq q.d
 sz:q.frm.size≤1000∧q.to.size≤1000∧q.place.size≤1000
def Zf (r:List eC×Bool):AV:=.tup [.sl 5 (bJ dG r.1),.bl r.2]
def tY:dA:=spec (fun q:T1=>[.sl 5 (bJ dG q.H),jS q.d,.str q.frm,.str q.to,.str q.place,.i q.day]) (fun _=>[]) Sr (fun q=>Zf (gX (cU q.frm q.to q.place q.day) q.H q.d.marks)) fun _=>[]
theorem kJ {d:jD}(h:Gq d):∀s∈d.marks,s.size≤60:=fun s hs=>by
 unfold jD.marks at hs;obtain⟨b,hb,rfl⟩:=aX.1 hs;exact h.mks b hb
theorem gD {d:jD}(h:Gq d):d.marks.length≤70:=by
 unfold jD.marks;rw[aJ];exact h.bx
theorem DO (P:bI) (hm:bK P 20 pP) (hh:bK P 141 CY):bM P Yg tY:=by
 intro args H K hc;obtain⟨⟨H,d,from_,to_,place_,day_⟩,rfl,rfl,hp,hK⟩:=hc;refine⟨cL,?_⟩;dsimp only at hp hK⊢;obtain⟨hl,hok,hz1,hz2,hz3⟩:=hp
 try dsimp only at hl hok hz1 hz2 hz3
 have hml:=gD hok;have hms:=kJ hok;have hbl:=hok.bx;obtain⟨bs,hbs⟩:∃q,q=d.marks:=⟨_,rfl⟩
 obtain⟨⟨H9,o9⟩,hq⟩:∃q,q=gX (cU from_ to_ place_ day_) H bs:=⟨_,rfl⟩
 have hK:K (Zf (gX (cU from_ to_ place_ day_) H d.marks)) []:=hK;rw[←hbs,←hq]at hK;rw[←hbs]at hml hms;obtain⟨n,hn⟩:∃n:Nat,n=bs.length:=⟨_,rfl⟩
 obtain⟨number,seller,buyer,carrier,issuer,house,insurer,frm,to,cur,amt,boxes,term,latest,expiry,tenor,duty⟩:=d
 try dsimp only at hbl
 cbv
 (refine bX hm (⟨number,seller,buyer,carrier,issuer,house,insurer,frm,to,cur,amt,boxes,term,latest,expiry,tenor,duty⟩:jD) hbl ?_;try dsimp only)
 rw[←hbs];cbv;refine bS [] (fun p:{ p:Nat×List eC // ZC (cU from_ to_ place_ day_) H bs p }=>[(0,.sl 5 (bJ dG p.1.2)),(15,.i (nI p.1.1))]) (fun _=>[.blk 67 [.str number,.str seller,.str buyer,.str carrier,.str issuer,.str house,.str insurer,.str frm,.str to,.str cur,.i amt,.sl 3 (bJ F6 boxes),.i term,.i latest,.i expiry,.i tenor,.i duty]]) (fun p=>eW n p.1.1) ⟨(0,H),⟨aI _,rfl,aN _⟩⟩ ?_;rintro ⟨⟨k,Hk⟩,⟨hk,heq,hlen⟩⟩;dsimp only at hk heq hlen⊢;rcases aL k bs.length with hks|hks
 rotate_left
 ·obtain rfl:k=n:=by omega
  rw[List.drop_of_length_le (by omega),←hq]at heq;have e1:(H9,o9)=(Hk,true):=heq;cases e1;cbv;repeat'((first|refine .n fun h=>?_|refine .k fun z hz=>?_|fail)<;>cbv)
  (refine .q9 ?_;cbv;exact .inl (.f9 hK))
 obtain⟨b,hx⟩:=cK hks;have hbz:=hms b (aC hx);have hdr:bs.drop k=b :: bs.drop (k+1):=by
  obtain⟨h1,rfl⟩:=aA.1 hx;exact List.drop_eq_getElem_cons h1
 have heq2:gX (cU from_ to_ place_ day_) H bs=if iD Hk ⟨b,from_,to_,place_,day_⟩≠0 then (Hk,false) else gX (cU from_ to_ place_ day_) (Hk++[⟨b,from_,to_,place_,day_⟩]) (bs.drop (k+1)):=by rw[heq,hdr];rfl
 clear heq hdr;obtain⟨e,he⟩:∃e,e=iD Hk ⟨b,from_,to_,place_,day_⟩:=⟨_,rfl⟩
 rw[←he]at heq2;cbv;repeat'((first|refine .e ?_|refine .y fun h=>?_|refine .k fun z hz=>?_|fail)<;>cbv)
 (refine bX hh ((Hk,⟨b,from_,to_,place_,day_⟩):List eC×eC) ⟨by dsimp only;omega,by dsimp only;unfold maxLen;omega,by dsimp only;unfold maxLen;omega,by dsimp only;unfold maxLen;omega,by dsimp only;unfold maxLen;omega⟩ ?_;try dsimp only)
 rw[←he];cbv;repeat'((first|refine .mk (fun h=>?_) fun h=>?_|refine .k fun z hz=>?_|refine .o ?_|refine .zl fun zs hzs hzl=>?_|refine And.intro ?_ ?_|fail)<;>cbv)
 all_goals first
  |(rw[aF (by assumption),←hq]at heq2
    cases heq2
    (refine .q9 ?_;cbv;exact .inl (.f9 hK)))
  |(rw[aE (fun h=>h (by assumption))]at heq2
    obtain rfl:z=nI (k+1):=bQ;obtain rfl:zs=bJ dG (Hk++[⟨b,from_,to_,place_,day_⟩]):=by(rw[cD,cF];first|exact hzs|(subst_vars;rfl))
    refine dK (Gh.plain 2 rfl) ?_;cbv;exact bN ⟨(k+1,Hk++[⟨b,from_,to_,place_,day_⟩]),⟨hks,heq2,by(show (Hk++[_]).length≤H.length+(k+1);rw[aM,List.length_cons,List.length_nil];omega)⟩⟩ (bO (by omega)))
  |(rw[aE (fun h=>h (by assumption))]at heq2
    obtain rfl:z=nI (k+1):=bQ;obtain rfl:zs=bJ dG (Hk++[⟨b,from_,to_,place_,day_⟩]):=by(rw[cD,cF];first|exact hzs|(subst_vars;rfl))
    refine dK (Gh.plain 3 rfl) ?_;cbv;exact bN ⟨(k+1,Hk++[⟨b,from_,to_,place_,day_⟩]),⟨hks,heq2,by(show (Hk++[_]).length≤H.length+(k+1);rw[aM,List.length_cons,List.length_nil];omega)⟩⟩ (bO (by omega)))
  |(rw[aE (fun h=>h (by assumption))]at heq2
    obtain rfl:z=nI (k+1):=bQ;obtain rfl:zs=bJ dG (Hk++[⟨b,from_,to_,place_,day_⟩]):=by(rw[cD,cF];first|exact hzs|(subst_vars;rfl))
    refine dK (Gh.plain 4 rfl) ?_;cbv;exact bN ⟨(k+1,Hk++[⟨b,from_,to_,place_,day_⟩]),⟨hks,heq2,by(show (Hk++[_]).length≤H.length+(k+1);rw[aM,List.length_cons,List.length_nil];omega)⟩⟩ (bO (by omega)))
section
variable {P:bI}{N M:Nat}
theorem dL.block {id:Nat}{c:fM}{Q:vC→St→Prop}{st:St}(h:dL P N M c (Wx id Q) st):dL P N M (.block id c) Q st:=⟨fun code C act w r pub hx hN hM hh=>by
 cases code with
 |block id' c'=>
  unfold eD at hx;obtain⟨y,hy,h'⟩:=map_some hx;cases h';refine wp_block (wp_mono (h.out c' C act w r pub hy hN hM hh) fun e a' w' hq=>?_);cases e with
  |normal=>exact hq
  |exit id'=>
   show if id'=id then _ else _
   obtain⟨st',r',pub',hk,hh⟩:=hq;have hk:if id'=id then Q .norm st' else Q (.exit id') st':=hk
   split
   ·rename_i e;rw[aF e]at hk;exact⟨st',r',pub',hk,hh⟩
   ·rename_i e;rw[aE e]at hk;exact⟨st',r',pub',hk,hh⟩
  |ret=>exact hq
  |goto l=>exact hq
  |panic ch=>exact hq.elim
  |outgrown=>exact hq.elim
 |region id ops draw=>
  unfold eD at hx;cases draw with
  |false=>
   simp only[aZ,if_false]at hx;obtain⟨l,hl,h⟩:=map_some hx;cases h
  |true=>
   simp only[if_true]at hx
   split at hx
   ·obtain⟨p,hp,h⟩:=map_some hx;cases h
   ·cases hx
 |cond c c1 c2=>
  unfold eD at hx
  split at hx<;>cases hx
 |seq c1 c2=>
  unfold eD at hx
  split at hx<;>cases hx
 |loop c=>unfold eD at hx;obtain⟨y,hy,h⟩:=map_some hx;cases h
 |scope c=>unfold eD at hx;obtain⟨y,hy,h⟩:=map_some hx;cases h
 |_=>cases hx⟩
theorem UA {c:fM}{Q:vC→St→Prop}{st:St}{ι:Type}(F:ι→St) (μ:ι→Ms) (i0:ι) (h0:Gh M st (F i0)) (hr:∀i,dL P N M c (Af M F μ (μ i) Q) (F i)):qI P N M c Q st:=by
 refine⟨fun code C a w r pub hc hN hM h=>?_⟩;obtain⟨r1,p1,h1⟩:=h0 C a w r pub hM h;refine xL (fun n a w=>∃i r pub,(μ i).val=n∧bP C (F i) a w r pub) (fun n a w hI=>?_) (n0:=(μ i0).val) ⟨i0,r1,p1,rfl,h1⟩;obtain⟨i,r,pub,rfl,hh⟩:=hI;refine wp_mono ((hr i).out code C a w r pub hc hN hM hh) fun e a' w' hq=>?_
 cases e with
 |normal=>
  obtain⟨st',r',pub',⟨⟨st2,j,hg,rfl,hlt⟩⟩,hh'⟩:=hq;obtain⟨r2,p2,h2⟩:=hg C a' w' r' pub' hM hh';exact⟨(μ j).val,hlt,j,r2,p2,rfl,h2⟩
 |exit id=>exact hq
 |ret=>exact hq
 |goto l=>exact hq
 |panic ch=>exact hq.elim
 |outgrown=>exact hq.elim
theorem zN {c:fM}{Q:vC→St→Prop}{T:List (Nat×AV)}{H:List cG}{ι:Type}(hs:List Nat) (F:ι→List (Nat×AV)) (G:ι→List cG) (μ:ι→Ms) (i0:ι)
  (hr:∀i,dL P N M c (Af M (fun i=>⟨F i++jL hs c.wr T,G i⟩) μ (μ i) Q) ⟨F i++jL hs c.wr T,G i⟩)
  (hw:sK T (F i0):=by repeat'(first|exact trivial|refine⟨.inl rfl,?_⟩|refine⟨.inr rfl,?_⟩)) (hH:H.take (G i0).length=G i0:=by rfl) (hb:vQ (G i0).length (F i0++jL hs c.wr T)=true:=by rfl) (hbH:fD (G i0).length (G i0)=true:=by rfl) (hM:M≤(G i0).length:=by exact Nat.le_of_ble_eq_true rfl):qI P N M c Q ⟨T,H⟩:=
 UA (fun i=>⟨F i++jL hs c.wr T,G i⟩) μ i0 (Gh.weakG (Cg hw fun m=>by rcases nJ hs T c.wr m with h|h;(· exact .inl h);exact .inr h.2) hH hb hbH hM) hr
end
section
variable {P:bI}{N M:Nat}
end
theorem bP.freeze_ {C:nH}{st:St}{a:Act}{w:World}{r:cT}{pub:cY}(h:bP C st a w r pub) (k:Nat) {t sz:Nat}{xs:List AV}(hk:st.H[k]?=some (.tip t sz xs)) :
  bP C ⟨jI k (.sl sz xs) st.T,st.H.map (cG.kill k (.sl sz xs))⟩ a w r pub∧∀z,r k=some z→bU pub w r (.sl sz xs) z:=by
 have hy:∀z,r k=some z→bU pub w r (.sl sz xs) z:=fun z hz=>by
  obtain⟨A,d,c,x,us,hr,_⟩:=h.ent_tip hk;rw[hr]at hz;cases hz;have h1:=h.view1 (x:=.hd k) (.hd hr rfl);simp only[St.view1,hk]at h1;exact h1
 refine⟨⟨⟨fun j e he=>?_,fun j hj=>h.mod.none_ j (by simpa using hj),h.mod.disj,h.mod.fresh,h.mod.there,h.mod.glob⟩,h.own,h.fr,h.slots.kill (fun _ _=>rfl) hy,h.defers,h.size,h.stab,by simpa using h.low⟩,hy⟩;rw[aD]at he;cases hj:st.H[j]? with
 |none=>rw[hj]at he;cases he
 |some e0=>
  rw[hj]at he;cases he;exact(h.mod.ent j e0 hj).kill (Fr.refl (fun _=>False) _ _) (fun _ _ _ _ h=>h) (fun _ _=>rfl) hy
theorem bR.kill_ {pub:cY}{w:World}{r:cT}{n:Nat}{y:AV}{l:List AV}{us:List Value}(h:bR pub w r l us) (hy:∀z,r n=some z→bU pub w r y z):bR pub w r (AV.killL n l y) us:=
 ⟨by rw[AV.killL_map,aJ];exact h.len,fun i z u hz hu=>by
  obtain⟨x,hx,rfl⟩:=AV.killL_get hz;exact(h.at_ i x u hx hu).kill (fun _ _=>rfl) hy⟩
theorem fS {P:bI}{f:Nat}{keep:List Nat}{args:List AV}{st:St}{K:AV→St→Prop}(k:Nat) {t sz:Nat}{xs:List AV}(hk:vD st.H[k]?=some (t,sz,xs))
  (h:fY P keep f (AV.killL k args (.sl sz xs)) ⟨jI k (.sl sz xs) st.T,(st.H.set k (.tip t sz xs)).map (cG.kill k (.sl sz xs))⟩ K):fY P keep f args st K:=by
 have hk':st.H[k]?=some (.row t sz xs):=by
  cases he:st.H[k]? with
  |none=>rw[he]at hk;cases hk
  |some e=>cases e<;>rw[he]at hk<;>cases hk<;>rfl
 refine⟨fun C a w r pub vals hh hv=>?_⟩;obtain⟨pub1,h1,hext⟩:=hh.publish hk';have hkl:=(aA.1 hk').1;obtain⟨h2,hy⟩:=h1.freeze_ (t:=t) (sz:=sz) (xs:=xs) k (aQ hkl);refine(h.out C a w r pub1 vals h2 ((hv.ext hext).kill_ hy)).mono fun e w' hw=>?_
 obtain⟨v,x,st',r',pub',e1,e2,e3,e4,e5,e6⟩:=hw;exact⟨v,x,st',r',pub',e1,e2,e3,e4,hext.trans e5,e6⟩
end Go.Proofs.YtigdiekbiphhmaaGreatDoor
end
