/-
  Texts of this proof,joined: VO,GO,FR,GP,JF.
-/
import Derived.Test.YtooioahiijbomaaGreatDoorA7
import Derived.Deep.Slices
import Derived.Deep.Fields
import Derived.ChangeSame
import Derived.ProofKit
import Derived.OpenShut
import Derived.ChangeOld
import Derived.Below
import Derived.Test.YtooioahiijbomaaGreatDoorRows
import Derived.KernelRfl
import Derived.Test.YtooioahiijbomaaGreatDoorChecked
import Derived.JoinedOf
set_option linter.unusedVariables false
set_option linter.unusedSimpArgs false
noncomputable section
namespace Go.Proofs.YtooioahiijbomaaGreatDoor
open Go.ChangeShapes Go.WideShapes Go.Deep Go.RowKit
inductive Sh where
 |int (k:IntKind)
 |str
 |bl
 |sl (sz:Nat) (e:Sh)
 |st (l:List Sh)
mutual
def Sh.width:Sh→Nat
 |.int _=>1
 |.str=>1
 |.bl=>1
 |.sl _ _=>1
 |.st l=>Sh.widthL l
def Sh.widthL:List Sh→Nat
 |[]=>0
 |s :: l=>s.width+Sh.widthL l
end
mutual
def Op (B:Nat):Sh→List AV→Prop
 |.int k,cs=>∃n,cs=[.int k n]∧(Lit.int k n).wf=true
 |.str,cs=>∃s,cs=[.str s]∧s.size≤maxLen∧s.size≤B
 |.bl,cs=>∃b,cs=[.bl b]
 |.sl sz e,cs=>∃xs,cs=[.sl sz xs]∧xs.length≤maxLen∧∀x∈xs,x=cO sz x.cells∧Op B e x.cells
 |.st l,cs=>jD B l cs
def jD (B:Nat):List Sh→List AV→Prop
 |[],cs=>cs=[]
 |s :: l,cs=>∃a b,cs=a++b∧Op B s a∧jD B l b
end
mutual
theorem Op.one {B:Nat}:∀(s:Sh) (cs:List AV),Op B s cs→cs.all AV.one=true
 |.int k,cs,h=>by unfold Op at h;obtain⟨n,rfl,_⟩:=h;rfl
 |.str,cs,h=>by unfold Op at h;obtain⟨n,rfl,_⟩:=h;rfl
 |.bl,cs,h=>by unfold Op at h;obtain⟨n,rfl⟩:=h;rfl
 |.sl sz e,cs,h=>by unfold Op at h;obtain⟨xs,rfl,_⟩:=h;rfl
 |.st l,cs,h=>by unfold Op at h;exact jD.one l cs h
theorem jD.one {B:Nat}:∀(l:List Sh) (cs:List AV),jD B l cs→cs.all AV.one=true
 |[],cs,h=>by unfold jD at h;subst h;rfl
 |s :: l,cs,h=>by
  unfold jD at h;obtain⟨a,b,rfl,h1,h2⟩:=h;rw[List.all_append,Op.one s a h1,jD.one l b h2];rfl
end
def Kf (P:bG) (g:TypeId→Option Sh):List Field→Nat→Nat→Option (List Sh)
 |[],off,tot=>if off=tot then some [] else none
 |f :: l,off,tot=>if f.offset=off then match g f.type,Kf P g l (off+P.cellsOf f.type) tot with
  |some s,some r=>some (s :: r)
  |_,_=>none
  else none
mutual
theorem Op.len {B:Nat}:∀(s:Sh) (cs:List AV),Op B s cs→cs.length=s.width
 |.int k,cs,h=>by unfold Op at h;obtain⟨n,rfl,_⟩:=h;rfl
 |.str,cs,h=>by unfold Op at h;obtain⟨n,rfl,_⟩:=h;rfl
 |.bl,cs,h=>by unfold Op at h;obtain⟨n,rfl⟩:=h;rfl
 |.sl sz e,cs,h=>by unfold Op at h;obtain⟨xs,rfl,_⟩:=h;rfl
 |.st l,cs,h=>by unfold Op at h;exact jD.len l cs h
theorem jD.len {B:Nat}:∀(l:List Sh) (cs:List AV),jD B l cs→cs.length=Sh.widthL l
 |[],cs,h=>by unfold jD at h;subst h;rfl
 |s :: l,cs,h=>by
  unfold jD at h;obtain⟨a,b,rfl,h1,h2⟩:=h;rw[aM,Op.len s a h1,jD.len l b h2];rfl
end
def CT (P:bG):Nat→TypeId→Option Sh
 |0,_=>none
 |n+1,t=>match P.underlying t with
  |some .bool=>some .bl
  |some (.int k)=>some (.int k)
  |some .string=>some .str
  |some (.slice e)=>match CT P n e with
   |some s=>if s.width=P.cellsOf e then some (.sl (P.cellsOf e) s) else none
   |none=>none
  |some (.struct fs)=>(Kf P (CT P n) fs.toList 0 (P.cellsOf t)).map .st
  |_=>none
def jC (w:World):cI:=fun b=>match w.heap[b]? with
 |some (.cells arr _ _)=>arr.size
 |_=>0
theorem HU {w:World}{b i:Nat}{u:Value}(h:w.cell? ⟨b,i,none⟩=some u):i < jC w b:=by
 unfold World.cell? at h;unfold jC;cases hb:w.heap[b]? with
 |none=>simp[hb]at h
 |some o=>
  cases o<;>simp[hb]at h⊢;rename_i arr _ _;rcases aL i arr.size with h1|h1
  ·exact h1
  ·rw[Array.getElem?_eq_none h1]at h;simp at h
theorem DI {w:World}{b i:Nat}(h:i < jC w b):∃u,w.cell? ⟨b,i,none⟩=some u:=by
 unfold jC at h;cases hb:w.heap[b]? with
 |none=>simp[hb]at h
 |some o=>
  cases o<;>simp[hb]at h;rename_i arr _ _;exact⟨arr[i],by unfold World.cell?;simp[hb,aK h]⟩
theorem kW.door (w:World) (hg:gB (jC w) w):kW (jC w) w cM []:=
 ⟨fun k e he=>(by simp at he),fun _ _=>rfl,(fun _ _ _ _ _ h=>by cases h),(fun b hb=>by unfold jC;rw[Array.getElem?_eq_none hb]),fun b i hi=>DI hi,hg⟩
theorem vT {sz:Nat}{l:List AV}(hl:l.length=sz) (h1:l.all AV.one=true):(cO sz l).cells=l:=eM hl h1
theorem Cj {α:Type}{p:Nat→α→Prop}:∀(n:Nat),(∀i,i < n→∃a,p i a)→∃l:List α,l.length=n∧∀i (h:i < l.length),p i l[i]
 |0,_=>⟨[],rfl,fun i h=>by simp at h⟩
 |n+1,h=>by
  obtain⟨l,hl,hp⟩:=Cj n (fun i hi=>h i (by omega));obtain⟨a,ha⟩:=h n (by omega);refine⟨l++[a],by simp[hl],fun i hi=>?_⟩;by_cases h1:i < l.length
  ·rw[List.getElem_append_left h1];exact hp i h1
  ·simp at hi;obtain rfl:i=n:=by omega
   subst hl;simpa using ha
theorem oB (b o n:Nat):(⟨b,o,none⟩:Addr).add n=⟨b,o+n,none⟩:=by unfold Addr.add;split<;>simp_all
section
variable {B:Nat}
variable {H:Type}{enc:TypeId×Value→H}{P:bG}{w:World}{base:Nat}{spare:Nat→Bool}{held:Bool}
theorem bO.single {x:AV}{u:Value}{pub:cI}{r:cF}(h:bS pub w r x u):bO pub w r [x] [u]:=.cons h .nil
def NZ:Sh→List AV→AV
 |.st _,cz=>.agg cz
 |_,cz=>cz.headD .any
theorem DX {v:Value}(h:∀cs,v≠.agg cs):v.cells.toList=[v]:=by
 cases v with
 |agg cs=>exact absurd rfl (h cs)
 |_=>rfl
theorem E4 {α:Type}{sz:Nat}{e:Sh}{f:α→AV}{q:α→Prop}(h:∀cz,Op B e cz→∃x:α,cO sz cz=f x∧q x) {cs:List AV}(ho:Op B (.sl sz e) cs):∃L:List α,cs=[.sl sz (bK f L)]∧L.length≤maxLen∧∀x∈L,q x:=by
 unfold Op at ho;obtain⟨xs,rfl,hl,hx⟩:=ho;have key:∀xs:List AV,(∀x∈xs,x=cO sz x.cells∧Op B e x.cells)→∃L:List α,xs=bK f L∧∀x∈L,q x:=fun xs=>by
  induction xs with
  |nil=>exact fun _=>⟨[],rfl,fun x hx=>by cases hx⟩
  |cons y ys ih=>
   intro hx;obtain⟨L,rfl,hL⟩:=ih fun x hm=>hx x (aV _ hm)
   obtain⟨e1,e2⟩:=hx y (bC ..);obtain⟨x,hf,hq⟩:=h _ e2;refine⟨x :: L,?_,fun z hz=>?_⟩
   ·show y :: bK f L=f x :: bK f L;rw[e1,hf]
   ·rcases List.mem_cons.1 hz with rfl|hz
    ·exact hq
    ·exact hL z hz
 obtain⟨L,rfl,hL⟩:=key xs hx;exact⟨L,rfl,by rwa [bN]at hl,hL⟩
theorem qE {n:Int}(h:(Lit.int .i64 n).wf=true):-9223372036854775808≤n∧n≤9223372036854775807:=by
 simp only[Lit.wf,aO,decide_eq_true_eq]at h;have h1:IntKind.i64.min=-9223372036854775808:=rfl;have h2:IntKind.i64.max=9223372036854775807:=rfl;omega
theorem M8 {f:Nat}{c:cQ}(hf:bH P f c) {args:List AV}{vals:Array Value}(hv:bO (jC w) w cM args vals.toList) (hc:c args [] fun x _=>x=.bl true) (hg:gB (jC w) w) :
  Calls P f vals w fun e w'=>e=.returned (.bool true)∧Below w.heap.size w w':=by
 refine(hf args [] _ hc w cM (jC w) vals (kW.door w hg) hv).mono fun e w' ⟨v,x,H',r',pub',he,hx,hvx,_,hfr,_⟩=>?_
 subst he;subst hx;cases hvx;exact⟨rfl,hfr.os,hfr.tape,hfr.output,hfr.size,fun j hj=>(hfr.keep j hj (fun⟨_,_,h,_⟩=>by cases h)).1⟩
end
end Go.Proofs.YtooioahiijbomaaGreatDoor
namespace Go.Proofs.YtooioahiijbomaaGreatDoor
open Go.ChangeShapes Go.WideShapes Go.Deep Go.RowKit
mutual
def AV.wt:AV→Nat
 |.str s=>s.size+1
 |.sl _ xs=>AV.wtL xs+1
 |.agg l=>AV.wtL l+1
 |_=>1
def AV.wtL:List AV→Nat
 |[]=>0
 |x :: l=>AV.wt x+AV.wtL l
end
theorem FU:∀(l m:List AV),AV.wtL (l++m)=AV.wtL l+AV.wtL m
 |[],m=>by rw[List.nil_append];unfold AV.wtL;omega
 |x :: l,m=>by
  rw[List.cons_append];show AV.wt x+AV.wtL (l++m)=AV.wt x+AV.wtL l+AV.wtL m;rw[FU l m];omega
def Sh.sb:Sh→Nat
 |.st _=>1
 |_=>0
theorem LU {e:Sh}{cz:List AV}(ho:Op maxLen e cz):AV.wt (cO e.width cz)≤AV.wtL cz+e.sb:=by
 have hl:=Op.len _ _ ho;unfold cO
 split
 ·match cz,hl with
  |[],_=>simp_all
  |[c],_=>exact Nat.le_add_right _ _
  |_ :: _ :: _,_=>simp_all
 ·cases e with
  |st l=>exact aN _
  |_=>exact absurd rfl ‹_›
theorem wJ {H:Type}{sz:Nat}:∀(A:List (List AV)) (E:List (DataW H)),A.length=E.length→(∀(i:Nat) (cz:List AV) (d:DataW H),A[i]?=some cz→E[i]?=some d→AV.wt (cO sz cz)≤Rows.uptoBulk d)→AV.wtL (A.map (cO sz))≤Rows.uptoBulkAll E
 |[],_,_,_=>aI _
 |cz :: A,[],h,_=>by cases h
 |cz :: A,d :: E,h,hp=>by
  have h1:=hp 0 cz d rfl rfl;have h2:=wJ A E (by simpa using h) fun i c e hc he=>hp (i+1) c e (by simpa using hc) (by simpa using he)
  show AV.wt (cO sz cz)+AV.wtL (A.map (cO sz))≤Rows.uptoBulk d+Rows.uptoBulkAll E;omega
section
variable {H:Type}{enc:TypeId×Value→H}{P:bG}{w:World}{base:Nat}{spare:Nat→Bool}{held:Bool}
theorem AJ {g:TypeId→Option Sh}{cs:List Value}(hg:∀t s,g t=some s→∀fuel cs x,DataW.trod enc P w base spare held fuel t cs=some x→∃cz,Op maxLen s cz∧bO (jC w) w cM cz cs∧AV.wtL cz+s.sb≤Rows.uptoBulk x.1) :
  ∀(l:List Field) (ds:List (DataW H)) (off tot:Nat) (ss:List Sh),Kf P g l off tot=some ss→cs.length=tot→ds.length=l.length→(∀(j:Nat) (f:Field),l[j]?=some f→∃fuel y,ds[j]?=some y.1∧DataW.trod enc P w base spare held fuel f.type ((cs.drop f.offset).take (P.cellsOf f.type))=some y) →
   ∃cz,jD maxLen ss cz∧bO (jC w) w cM cz (cs.drop off)∧AV.wtL cz≤Rows.uptoBulkAll ds
 |[],ds,off,tot,ss,h,hl,hd,_=>by
  unfold Kf at h
  split at h
  ·cases h;rename_i e;refine⟨[],by unfold jD;rfl,?_,aI _⟩;rw[List.drop_eq_nil_of_le (by omega)];exact .nil
  ·cases h
 |f :: l,[],off,tot,ss,h,hl,hd,hf=>by cases hd
 |f :: l,d :: ds,off,tot,ss,h,hl,hd,hf=>by
  unfold Kf at h
  split at h
  ·rename_i e
   split at h
   ·rename_i s r hs hr;cases h;obtain⟨fuel,y,hdy,hy⟩:=hf 0 f rfl;obtain rfl:d=y.1:=Option.some.inj hdy;obtain⟨cz1,h1,h2,hw1⟩:=hg _ _ hs _ _ _ hy;obtain⟨cz2,h3,h4,hw2⟩:=AJ hg l ds _ tot r hr hl (by simpa using hd) (fun j f hm=>hf (j+1) f (by simpa using hm));refine⟨cz1++cz2,by unfold jD;exact⟨cz1,cz2,rfl,h1,h3⟩,?_,?_⟩
    ·rw[e]at h2;have:=h2.app h4;rw[←List.drop_drop,List.take_append_drop]at this;exact this
    ·rw[FU];show _≤Rows.uptoBulk y.1+Rows.uptoBulkAll ds;omega
   ·cases h
  ·cases h
theorem qY:∀(n:Nat) (t:TypeId) (s:Sh),CT P n t=some s→∀(fuel:Nat) (cs:List Value) (x:DataW H×List MemPlace),DataW.trod enc P w base spare held fuel t cs=some x→∃cz,Op maxLen s cz∧bO (jC w) w cM cz cs∧AV.wtL cz+s.sb≤Rows.uptoBulk x.1
 |0,t,s,h=>by cases h
 |n+1,t,s,h=>by
  intro fuel cs x hx;have ih:=qY n;unfold CT at h
  split at h
  ·rename_i ht;cases h;obtain⟨b,rfl,rfl⟩:=DataW.trod_bool ht hx;exact⟨[.bl b],by unfold Op;exact⟨b,rfl⟩,.single (.bl b),by show 1+0+0≤1;omega⟩
  ·rename_i k ht;cases h;obtain⟨b,rfl,rfl,hw⟩:=DataW.trod_int ht hx;exact⟨[.int k b],by unfold Op;exact⟨b,rfl,hw⟩,.single (.int k b),by show 1+0+0≤1;omega⟩
  ·rename_i ht;cases h;obtain⟨b,rfl,rfl,hw⟩:=DataW.trod_string ht hx;have h4:b.data.toList.length=b.size:=by rw[bA];rfl
   exact⟨[.str b],by unfold Op;exact⟨b,rfl,hw,hw⟩,.single (.str b),by show b.size+1+0+0≤b.data.toList.length+1;omega⟩
  ·rename_i e ht
   split at h
   ·rename_i se hse
    split at h
    ·rename_i hwd;cases h;rcases open_slice ht hx with ⟨rfl,rfl⟩|⟨a,len,cap,m,n',D,Pl,rfl,_,hl,hm,hmm,rfl,hi⟩
     ·refine⟨[.sl (P.cellsOf e) []],by unfold Op;exact⟨[],rfl,aI _,fun x hx=>by cases hx⟩,.single (.sl (A:=none) (c:=0) (xs:=[]) (aN _) (by unfold maxLen;omega) (fun _=>⟨rfl,rfl⟩) (fun x hx=>by cases hx) (fun _ _=>undef) (fun i x j u hx=>by simp at hx) (fun i x j u hx=>by simp at hx)),by show 0+1+0+0≤1;omega⟩
     ·have hle:len≤m:=by rw[hmm];split<;>omega
      have each:∀i,i < len→∃cz,Op maxLen se cz∧AV.wtL cz+se.sb≤Rows.uptoBulk (D i)∧∃vs:List Value,bO (jC w) w cM cz vs∧∀j v,vs[j]?=some v→w.cell? ((a.add (i * P.cellsOf e)).add j)=some v:=fun i hil=>by
       obtain⟨cs',hc,ht'⟩:=hi i (by omega);obtain⟨cz,h1,h2,hwz⟩:=ih e se hse _ _ _ ht';obtain⟨_,hcl,hat⟩:=World.cells?_some hc;exact⟨cz,h1,hwz,cs',h2,fun j v hv=>by rw[hat j (by rw[←hcl];exact(aA.1 hv).1),hv]⟩
      obtain⟨A,hAl,hA⟩:∃A:List (List AV),A.length=len∧∀i (h:i < A.length),Op maxLen se A[i]∧AV.wtL A[i]+se.sb≤Rows.uptoBulk (D i)∧∃vs:List Value,bO (jC w) w cM A[i] vs∧∀j v,vs[j]?=some v→w.cell? ((a.add (i * P.cellsOf e)).add j)=some v:=Cj len (p:=fun i cz=>Op maxLen se cz∧AV.wtL cz+se.sb≤Rows.uptoBulk (D i)∧∃vs:List Value,bO (jC w) w cM cz vs∧∀j v,vs[j]?=some v→w.cell? ((a.add (i * P.cellsOf e)).add j)=some v) each;have hcells:∀(cz:List AV),Op maxLen se cz→(cO (P.cellsOf e) cz).cells=cz:=fun cz ho=>vT ((Op.len _ _ ho).trans hwd) (Op.one _ _ ho)
      refine⟨[.sl (P.cellsOf e) (A.map (cO (P.cellsOf e)))],?_,?_,?_⟩
      ·unfold Op;refine⟨_,rfl,by rw[aJ,hAl];omega,fun x hx=>?_⟩;obtain⟨cz,has,rfl⟩:=aW.1 hx;obtain⟨i,hil,rfl⟩:=List.getElem_of_mem has;rw[hcells _ (hA i hil).1];exact⟨rfl,(hA i hil).1⟩
      ·refine .single ?_;rw[←hAl,←aJ (f:=cO (P.cellsOf e))];have get:∀(i:Nat) (x:AV) (j:Nat) (u:AV),(A.map (cO (P.cellsOf e)))[i]?=some x→x.cells[j]?=some u→∃v,w.cell? ((a.add (i * P.cellsOf e)).add j)=some v∧bS (jC w) w cM u v:=fun i x j u hx hu=>by
        rw[aD]at hx;rcases aL i A.length with hil|hil
        ·rw[aB hil]at hx;cases hx;obtain⟨ho,_,vs,hvs,hc⟩:=hA i hil;rw[hcells _ ho]at hu;obtain⟨v,hv,hr⟩:=hvs.get hu;exact⟨v,hc j v hv,hr⟩
        ·rw[List.getElem?_eq_none hil]at hx;cases hx
       refine .sl (by rw[aJ];omega) (by omega) (fun h=>by cases h) (fun x hx=>?_) (fun i j=>(w.cell? ((a.add (i * P.cellsOf e)).add j)).getD undef) (fun i x j u hx hu=>?_) (fun i x j u hx hu=>?_)
       ·obtain⟨cz,has,rfl⟩:=aW.1 hx;obtain⟨i,hil,rfl⟩:=List.getElem_of_mem has;rw[hcells _ (hA i hil).1];exact⟨(Op.len _ _ (hA i hil).1).trans hwd,Op.one _ _ (hA i hil).1⟩
       ·obtain⟨v,hv,hr⟩:=get i x j u hx hu;rw[hv];exact hr
       ·obtain⟨v,hv,hr⟩:=get i x j u hx hu;have hsp:a.spot=none:=by
         rw[aD]at hx;cases hAi:A[i]? with
         |none=>rw[hAi]at hx;cases hx
         |some cz=>
          rw[hAi]at hx;cases hx;obtain⟨hil,rfl⟩:=aA.1 hAi;have hju:j < A[i].length:=by rw[hcells _ (hA i hil).1]at hu;exact(aA.1 hu).1
          have hli:=Op.len _ _ (hA i hil).1;obtain⟨ho,_,vs,hvs,hc⟩:=hA 0 (by omega);have hl0:=Op.len _ _ ho;have hv0:0 < vs.length:=by rw[hvs.len];omega
          have:=World.cell?_spot (hc 0 vs[0] (aB hv0));simpa [Addr.add]using this
        obtain⟨b,o,spot⟩:=a;dsimp only at hsp;subst hsp;rw[hv];have e1:((⟨b,o,none⟩:Addr).add (i * P.cellsOf e)).add j=⟨b,o+i * P.cellsOf e+j,none⟩:=by
         rw[oB,oB]
        rw[e1]at hv;exact⟨b,o,rfl,HU hv,hv⟩
      ·have h5:=wJ (sz:=P.cellsOf e) A ((List.range len).map D) (by rw[hAl,aJ,List.length_range]) fun i cz d hc hd=>by
        obtain⟨hil,rfl⟩:=aA.1 hc;rw[aD,List.getElem?_range (by omega)]at hd;cases hd;have h6:=hA i hil;exact Nat.le_trans (by rw[←hwd];exact LU h6.1) h6.2.1
       show AV.wtL (A.map (cO (P.cellsOf e)))+1+0+0≤Rows.uptoBulkAll _+Rows.uptoBulkAll _+1;omega
    ·cases h
   ·cases h
  ·rename_i fs ht;obtain⟨ss,hss,rfl⟩:=map_some h;obtain⟨xs,n',_,hxa,hl,hlen,hf⟩:=DataW.trod_struct ht hx;obtain⟨cz,h1,h2,hwz⟩:=AJ (cs:=cs) ih fs.toList (xs.map (·.1)) 0 _ ss hss hl (by rw[aJ,hlen];simp) (fun j f hj=>by
    have hjl:j < xs.length:=by rw[hlen];simpa using(aA.1 hj).1
    exact⟨n',xs[j],by rw[aD,aB hjl];rfl,by rw[hf j f (by simpa using hj),aB hjl]⟩)
   refine⟨cz,by unfold Op;exact h1,by simpa using h2,?_⟩;rw[hxa];show _≤Rows.uptoBulkAll _+1;exact Nat.succ_le_succ hwz
  ·cases h
theorem qT {n:Nat}{t:TypeId}{s:Sh}{r:Reach}{b0:Nat}{v:Value}{d:DataW H}{p:List MemPlace}(hs:CT P n t=some s) (hv:Value.okWide P w r b0 t v) (hd:DataW.Trod enc P w base spare held t v d p) :
  ∃cz,Op maxLen s cz∧bS (jC w) w cM (NZ s cz) v∧AV.wtL cz+s.sb≤Rows.uptoBulk d:=by
 obtain⟨fuel,hf⟩:=hd;obtain⟨cz,h1,h2,hwz⟩:=qY n t s hs _ _ _ hf;refine⟨cz,h1,?_,hwz⟩;have scal:(∀cs,v≠.agg cs)→∀a,cz=[a]→bS (jC w) w cM a v:=fun hne a ha=>by
  rw[DX hne,ha]at h2;exact h2.at_ 0 a v rfl rfl
 cases n with
 |zero=>cases hs
 |succ n=>
  unfold CT at hs
  split at hs
  ·rename_i ht;cases hs;unfold Op at h1;obtain⟨b,rfl⟩:=h1;exact scal (fun cs hc=>by subst hc;simp[Value.okWide,ht,Cell.okWide,Cell.ok]at hv) _ rfl
  ·rename_i k ht;cases hs;unfold Op at h1;obtain⟨b,rfl,_⟩:=h1;exact scal (fun cs hc=>by subst hc;simp[Value.okWide,ht,Cell.okWide,Cell.ok]at hv) _ rfl
  ·rename_i ht;cases hs;unfold Op at h1;obtain⟨b,rfl,_⟩:=h1;exact scal (fun cs hc=>by subst hc;simp[Value.okWide,ht,Cell.okWide,Cell.ok]at hv) _ rfl
  ·rename_i e ht
   split at hs
   ·split at hs
    ·cases hs;unfold Op at h1;obtain⟨b,rfl,_⟩:=h1;exact scal (fun cs hc=>by subst hc;simp[Value.okWide,ht,Cell.okWide,Cell.ok]at hv) _ rfl
    ·cases hs
   ·cases hs
  ·rename_i fs ht;obtain⟨ss,hss,rfl⟩:=map_some hs;simp only[Value.okWide,ht]at hv;obtain⟨cs,rfl,_⟩:=hv;exact .agg (by simpa [Value.cells]using h2.len) fun i x u hx hu=>h2.at_ i x u hx (by simpa [Value.cells]using hu)
  ·cases hs
end
end Go.Proofs.YtooioahiijbomaaGreatDoor
namespace Go.Proofs.YtooioahiijbomaaGreatDoor
open Go.RowKit
set_option maxHeartbeats 8000000
set_option maxRecDepth 100000
set_option maxHeartbeats 2000000
def Kk:Sh:=.st [.str,.int .i64]
def Kz:Sh:=.st [.str,.int .i64,.sl 2 Kk]
def LD:Sh:=.st [.str,.str,.str,.str,.str,.str,.str,.str,.str,.st [.str,.int .i64],.sl 3 Kz,.int .i64,.int .i64,.int .i64,.int .i64,.int .i64]
def sG:Sh:=.st [LD,.int .u16,.int .u16]
theorem Kd:CT Tryz.prog 9 29=some sG:=by kernel_rfl
theorem KP {n:Int}(h:(Lit.int .u16 n).wf=true):0≤n∧n≤65535:=by
 simp only[Lit.wf,aO,decide_eq_true_eq]at h;have h1:IntKind.u16.min=0:=rfl;have h2:IntKind.u16.max=65535:=rfl;omega
theorem OZ (cz:List AV) (h:Op maxLen Kk cz):∃x:Lo,cO 2 cz=rX x∧i64 x.count:=by
 unfold Kk Op at h
 (unfold jD at h;obtain⟨_,_,rfl,h1,h⟩:=h;unfold Op at h1;obtain⟨a0,rfl,w0⟩:=h1)
 (unfold jD at h;obtain⟨_,_,rfl,h1,h⟩:=h;unfold Op at h1;obtain⟨a1,rfl,w1⟩:=h1)
 (unfold jD at h;subst h)
 exact⟨⟨a0,a1⟩,rfl,qE w1⟩
theorem OJ (cz:List AV) (h:Op maxLen Kz cz):∃x:Bx,cO 3 cz=CO x∧∀y∈x.lots,i64 y.count:=by
 unfold Kz Op at h
 (unfold jD at h;obtain⟨_,_,rfl,h1,h⟩:=h;unfold Op at h1;obtain⟨a0,rfl,w0⟩:=h1)
 (unfold jD at h;obtain⟨_,_,rfl,h1,h⟩:=h;unfold Op at h1;obtain⟨a1,rfl,w1⟩:=h1)
 unfold jD at h;obtain⟨_,_,rfl,h1,h⟩:=h;obtain⟨L,rfl,hl,hL⟩:=E4 OZ h1
 (unfold jD at h;subst h)
 exact⟨⟨a0,a1,L⟩,rfl,hL⟩
def Sb:Tr→List AV
 |⟨⟨number,seller,buyer,carrier,issuer,house,insurer,frm,to,cur,amt,boxes,term,latest,expiry,tenor,duty⟩,issued,presented⟩=>[.str number,.str seller,.str buyer,.str carrier,.str issuer,.str house,.str insurer,.str frm,.str to,.str cur,.i amt,.sl 3 (bK CO boxes),.i term,.i latest,.i expiry,.i tenor,.i duty,.int .u16 issued,.int .u16 presented]
theorem RT (x:Tr):AV.agg (Sb x)=Sa x:=by obtain⟨⟨number,seller,buyer,carrier,issuer,house,insurer,frm,to,cur,amt,boxes,term,latest,expiry,tenor,duty⟩,issued,presented⟩:=x;rfl
structure Rg (x:Tr):Prop where
 amt:i64 x.d.amt
 term:i64 x.d.term
 latest:i64 x.d.latest
 expiry:i64 x.d.expiry
 tenor:i64 x.d.tenor
 c:∀b∈x.d.boxes,∀y∈b.lots,i64 y.count
 i:0≤x.issued∧x.issued≤65535
 p:0≤x.presented∧x.presented≤65535
theorem I0 (cz:List AV) (h:Op maxLen sG cz):∃x:Tr,cz=Sb x∧Rg x:=by
 unfold sG Op jD at h;obtain⟨_,_,rfl,hd,h⟩:=h
 (unfold jD at h;obtain⟨_,_,rfl,h1,h⟩:=h;unfold Op at h1;obtain⟨is_,rfl,wi⟩:=h1)
 (unfold jD at h;obtain⟨_,_,rfl,h1,h⟩:=h;unfold Op at h1;obtain⟨pr,rfl,wp⟩:=h1)
 (unfold jD at h;subst h)
 have h:=hd;unfold LD Op at h
 (unfold jD at h;obtain⟨_,_,rfl,h1,h⟩:=h;unfold Op at h1;obtain⟨a0,rfl,w0⟩:=h1)
 (unfold jD at h;obtain⟨_,_,rfl,h1,h⟩:=h;unfold Op at h1;obtain⟨a1,rfl,w1⟩:=h1)
 (unfold jD at h;obtain⟨_,_,rfl,h1,h⟩:=h;unfold Op at h1;obtain⟨a2,rfl,w2⟩:=h1)
 (unfold jD at h;obtain⟨_,_,rfl,h1,h⟩:=h;unfold Op at h1;obtain⟨a3,rfl,w3⟩:=h1)
 (unfold jD at h;obtain⟨_,_,rfl,h1,h⟩:=h;unfold Op at h1;obtain⟨a4,rfl,w4⟩:=h1)
 (unfold jD at h;obtain⟨_,_,rfl,h1,h⟩:=h;unfold Op at h1;obtain⟨a5,rfl,w5⟩:=h1)
 (unfold jD at h;obtain⟨_,_,rfl,h1,h⟩:=h;unfold Op at h1;obtain⟨a6,rfl,w6⟩:=h1)
 (unfold jD at h;obtain⟨_,_,rfl,h1,h⟩:=h;unfold Op at h1;obtain⟨a7,rfl,w7⟩:=h1)
 (unfold jD at h;obtain⟨_,_,rfl,h1,h⟩:=h;unfold Op at h1;obtain⟨a8,rfl,w8⟩:=h1)
 unfold jD at h;obtain⟨_,_,rfl,hm,h'⟩:=h;have h:=hm;unfold Op at h
 (unfold jD at h;obtain⟨_,_,rfl,h1,h⟩:=h;unfold Op at h1;obtain⟨b0,rfl,v0⟩:=h1)
 (unfold jD at h;obtain⟨_,_,rfl,h1,h⟩:=h;unfold Op at h1;obtain⟨b1,rfl,v1⟩:=h1)
 (unfold jD at h;subst h)
 have h:=h';unfold jD at h;obtain⟨_,_,rfl,h1,h⟩:=h;obtain⟨L,rfl,hl,hL⟩:=E4 OJ h1
 (unfold jD at h;obtain⟨_,_,rfl,h1,h⟩:=h;unfold Op at h1;obtain⟨c0,rfl,u0⟩:=h1)
 (unfold jD at h;obtain⟨_,_,rfl,h1,h⟩:=h;unfold Op at h1;obtain⟨c1,rfl,u1⟩:=h1)
 (unfold jD at h;obtain⟨_,_,rfl,h1,h⟩:=h;unfold Op at h1;obtain⟨c2,rfl,u2⟩:=h1)
 (unfold jD at h;obtain⟨_,_,rfl,h1,h⟩:=h;unfold Op at h1;obtain⟨c3,rfl,u3⟩:=h1)
 (unfold jD at h;obtain⟨_,_,rfl,h1,h⟩:=h;unfold Op at h1;obtain⟨c4,rfl,u4⟩:=h1)
 (unfold jD at h;subst h)
 exact⟨⟨⟨a0,a1,a2,a3,a4,a5,a6,a7,a8,b0,b1,L,c0,c1,c2,c3,c4⟩,is_,pr⟩,rfl,⟨qE v1,qE u0,qE u1,qE u2,qE u3,hL,KP wi,KP wp⟩⟩
theorem Fj:∀L:List Lo,AV.wtL (bK rX L)=A7 L
 |[]=>rfl
 |⟨g,c⟩ :: L=>by
  have ih:=Fj L;have e:A7 (⟨g,c⟩ :: L)=g.size+3+A7 L:=by unfold A7;rw[List.map_cons,List.sum_cons]
  rw[e,←ih];show g.size+1+(1+0)+1+AV.wtL (bK rX L)=_;omega
theorem B8:∀L:List Bx,pE L≤AV.wtL (bK CO L)
 |[]=>aN _
 |⟨m,k,l⟩ :: L=>by
  have ih:=B8 L;have hl:=Fj l;have e:pE (⟨m,k,l⟩ :: L)=m.size+3+A7 l+pE L:=by rw[lC]
  rw[e];show _≤m.size+1+(1+(AV.wtL (bK rX l)+1+0))+1+AV.wtL (bK CO L);omega
theorem It:∀(l:List bF) (sep:bF),(eS l sep).size≤(l.map fun s=>s.size+sep.size).sum
 |[],sep=>aN _
 |y :: r,sep=>by
  have e:(eS (y :: r) sep).size=y.size+(Lib.joinTail sep.data.toList (r.map (·.data.toList))).length:=by
   show (List.toArray _).size=_;rw[List.size_toArray,List.map_cons,Lib.join_cons,aM,bA];rfl
  have h2:∀r:List bF,(Lib.joinTail sep.data.toList (r.map (·.data.toList))).length=(r.map fun s=>s.size+sep.size).sum:=by
   intro r
   induction r with
   |nil=>rfl
   |cons a r ih=>
    have e2:(Lib.joinTail sep.data.toList ((a :: r).map (·.data.toList))).length=sep.size+a.size+(Lib.joinTail sep.data.toList (r.map (·.data.toList))).length:=by
     unfold Lib.joinTail;rw[List.map_cons,List.map_cons,List.flatten_cons,aM,aM,bA,bA];rfl
    rw[e2,ih,List.map_cons,List.sum_cons];omega
  rw[e,h2,List.map_cons,List.sum_cons];omega
theorem xI:∀l:List Bx,((l.map Bx.mark).map fun s=>s.size+gI.size).sum≤pE l
 |[]=>aN _
 |b :: l=>by
  have ih:=xI l;have h1:gI.size=1:=rfl;rw[List.map_cons,List.map_cons,List.sum_cons,lC];omega
theorem Rv {x:Tr}(hi:Rg x) (hw:AV.wtL (Sb x)≤1048576):LL x:=by
 obtain⟨⟨number,seller,buyer,carrier,issuer,house,insurer,frm,to,cur,amt,boxes,term,latest,expiry,tenor,duty⟩,issued,presented⟩:=x;obtain⟨i1,i2,i3,i4,i5,i6,i7,i8⟩:=hi
 try dsimp only at i1 i2 i3 i4 i5 i6 i7 i8
 have hw:number.size+1+(seller.size+1+(buyer.size+1+(carrier.size+1+(issuer.size+1+(house.size+1+(insurer.size+1+(frm.size+1+(to.size+1+(cur.size+1+(1+(AV.wtL (bK CO boxes)+1+(1+(1+(1+(1+(1+(1+(1+0))))))))))))))))))≤1048576:=hw;have hb:=B8 boxes;have hl:=Dr boxes;have hm:(hZ boxes).size≤pE boxes:=Nat.le_trans (It _ _) (xI boxes);have hbx:RD boxes:=⟨by omega,i6⟩
 exact⟨⟨⟨(show boxes.length≤1048576 by omega),(show (hZ boxes).size≤140737488355328 by omega)⟩,i1,i2,(show number.size≤1048576 by omega),hbx⟩,i7,i8,(show pE boxes≤1048576 by omega),⟨(show number.size≤1048576 by omega),(show seller.size≤1048576 by omega),(show buyer.size≤1048576 by omega),(show carrier.size≤1048576 by omega),(show issuer.size≤1048576 by omega),(show insurer.size≤1048576 by omega),(show frm.size≤1048576 by omega),(show to.size≤1048576 by omega),(show cur.size≤1048576 by omega),(show (hZ boxes).size≤2097152 by omega),i3,i4,i5⟩⟩
end Go.Proofs.YtooioahiijbomaaGreatDoor
namespace Go.Proofs.YtooioahiijbomaaGreatDoor
open Go
theorem dE {a b:Bool}(ha:a=true) (hb:b=true):(a && b)=true:=by rw[ha,hb];rfl
theorem O3 {P:bG}{f:FuncId}{fn:Func}{s:ChangeSpec}{c:OpenClaim}(h0:(c.wf (OpenSpec.ofChange s))=true) (h1:(laidOutB P)=true) (h2:(mapsRowed P)=true) (h3:(fn.params.all (P.readableRec ·))=true) (h4:(namedTie P c.named s.vars)=true) (h5:((c.stops == []))=true) (h6:((P.stops == []))=true) (h7:((c.knobs == []))=true) (h8:((P.stopKnobs == []))=true) (h9:((c.inPlace == P.inPlace f))=true) (h10:((c.unfollowed == P.unfollowed f))=true) (h11:((c.recurses == P.recurses f))=true) (h12:((c.named == P.varsNamed f))=true) (h13:((c.maps == (fn.params.toList++s.plain.varTypes P).any (P.mapsRec ·)))=true) (h14:((c.ifaces == (fn.params.toList++s.plain.varTypes P).any (P.ifacesRec ·)))=true) (h15:((c.mapsOut == P.mapsAmong fn.resultTypes.toList))=true) (h16:((c.loops == (fn.params.toList++s.plain.varTypes P).any (P.loopsFrom ·)))=true) (h17:((c.wideKeys == (fn.params.toList++s.plain.varTypes P++fn.resultTypes.toList).any (P.wideKeysFrom ·)))=true) (h18:(s.vars.all (P.varReadable ·))=true) (h19:(fn.resultTypes.all (fun t=>P.readableRec t && decide (t < P.types.size)))=true) (h20:((c.ifacesOut == fn.resultTypes.toList.any (P.ifacesRec ·)))=true) (h21:((c.loopsOut == fn.resultTypes.toList.any (P.loopsFrom ·)))=true) (h22:((c.plainKeys == P.plainKeys))=true) (h23:(c.shortTexts.isNone)=true) (h24:(P.stopsHeard)=true) (h25:(P.mayEnter)=true) (h26:((c.lifted == P.liftsFinal))=true) (h27:((P.make == some c.make))=true) (h28:((c.kinds == (if c.domain.isEmpty then [] else fn.params.toList.map fun t=>match P.underlying t with|some (.int k)=>some k|_=>none)))=true) (h29:((c.pinned == c.pinnedBy))=true) (h30:((c.veiled == (fn.params.toList++s.plain.varTypes P++fn.resultTypes.toList).any (P.veiledRec ·)))=true) (h31:(c.veiledFits P fn.params.toList (fn.params.toList++s.plain.varTypes P++fn.resultTypes.toList))=true):joinedFacts P f fn s c=true:=(dE (dE (dE (dE (dE (dE (dE (dE (dE (dE (dE (dE (dE (dE (dE (dE (dE (dE (dE (dE (dE (dE (dE (dE (dE (dE (dE (dE (dE (dE (dE h0 h1) h2) h3) h4) h5) h6) h7) h8) h9) h10) h11) h12) h13) h14) h15) h16) h17) h18) h19) h20) h21) h22) h23) h24) h25) h26) h27) h28) h29) h30) h31)
theorem L6:laidOutB Tryz.pinned.checked.prog=true:=by kernel_rfl
theorem I9:mapsRowed Tryz.pinned.checked.prog=true:=by kernel_rfl
theorem I3:Tryz.pinned.checked.prog.stopsHeard=true:=by kernel_rfl
theorem Ls:Tryz.pinned.checked.prog.mayEnter=true:=by kernel_rfl
end Go.Proofs.YtooioahiijbomaaGreatDoor
end
