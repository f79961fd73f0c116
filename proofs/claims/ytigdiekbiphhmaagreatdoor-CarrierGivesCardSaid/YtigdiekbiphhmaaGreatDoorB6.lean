/-
  Texts of this proof,joined: CPE,CPF,CPG,CPH,CPI,CPJ,CPK,CLZ,CWA,CWB,CWC,CWD,CWE,CWF,NumLaw,CWI,CLB,VBJ,VBD,CWG,CWH,VQ,VU,VW,VX,VY.
-/
import Derived.Test.YtigdiekbiphhmaaGreatDoorB5
import Derived.Shelf.SlIter.Keys
import Derived.Shelf.SlIter.Sorted
import Derived.KernelRfl
import Derived.Test.YtigdiekbiphhmaaGreatDoorChecked
import Derived.Lib.ParseIntBCases
import Derived.Lib.ItoaMem
import Derived.Shelf.Strconv.Itoa4
import Derived.Lib.Walk
import Derived.Lib.AppendIntMem
import Derived.WalkKit
import Derived.BigCall
import Derived.BigGuard
import Derived.Shelf.Strings.OnBuilder
import Derived.Shelf.Strings.Builder1
set_option linter.unusedVariables false
set_option linter.unusedSimpArgs false
noncomputable section
namespace Go.Proofs.YtigdiekbiphhmaaGreatDoor
open Go.RowKit
set_option maxHeartbeats 2000000
set_option maxRecDepth 100000
theorem H6 {L:List Br}(f:Br→Br) (hf:∀b,(f b).b.number=b.b.number) (t:bG):lT (L.map f) t=(lT L t).map f:=by
 unfold lT;rw[List.find?_map];congr 1;congr 1;funext b;show decide ((f b).b.number=t)=_;rw[hf b]
theorem QJ {R:Rg}{a:At}(h0:eE R.bills (cR a)=0):∃y,lT R.bills a.bill=some y∧lP y (cR a)=0:=by
 rw[B4]at h0;have hak:(cR a).bill=a.bill:=rfl;rw[hak]at h0;cases hl:lT R.bills a.bill with
 |none=>rw[hl]at h0;exact absurd h0 (show ¬(4:Int)=0 by decide)
 |some y=>rw[hl]at h0;exact⟨y,rfl,h0⟩
set_option maxHeartbeats 1000000
theorem qT (H K:List XL) (b:bG):fH (H++K) b=fH H b++fH K b:=by unfold fH;rw[List.filter_append]
theorem LM {H:List XL}{x:XL}(h:rE H x=0):bR x.box=true∧bR x.to=true∧bR x.place=true∧eN x.day=true∧fH H x.box=[]:=by
 unfold rE at h
 split at h
 ·cases h
 rename_i h1
 split at h
 ·cases h
 rename_i h2
 split at h
 ·cases h
 rename_i h3;simp only[Bool.or_eq_true,Bool.not_eq_true',not_or,Bool.not_eq_false]at h1 h2;exact⟨h1.1.1,h1.1.2,h1.2,h2,Decidable.not_not.1 h3⟩
theorem Bu {H:List XL}{x:XL}(h:eW H x=0):(bR x.box=true∧bR x.frm=true∧bR x.to=true∧bR x.place=true∧x.frm≠x.to)∧eN x.day=true∧∃l,(fH H x.box).getLast?=some l∧l.to=x.frm∧l.day≤x.day:=by
 unfold eW at h
 split at h
 ·cases h
 rename_i h1
 split at h
 ·cases h
 rename_i h2;unfold oR at h1;simp only[Bool.or_eq_true,Bool.not_eq_true',not_or,Bool.not_eq_false,decide_eq_true_eq]at h1 h2;refine⟨⟨h1.1.1.1.1,h1.1.1.1.2,h1.1.1.2,h1.1.2,h1.2⟩,h2,?_⟩;unfold vZ at h
 split at h
 ·cases h
 rename_i l hl
 split at h
 ·cases h
 rename_i h3
 split at h
 ·cases h
 rename_i h4;exact⟨l,hl,Decidable.not_not.1 h3,Int.not_lt.1 h4⟩
theorem MX {H:List XL}{x:XL}(h1:bR x.box=true∧bR x.frm=true∧bR x.to=true∧bR x.place=true∧x.frm≠x.to) (h2:eN x.day=true) {l:XL}(hl:(fH H x.box).getLast?=some l) (h3:l.to=x.frm) (h4:l.day≤x.day) (h5:(fH H x.box).length < 4096):eW H x=0:=by
 unfold eW;have hw:oR x=false:=by
  unfold oR;rw[h1.1,h1.2.1,h1.2.2.1,h1.2.2.2.1,aG h1.2.2.2.2];rfl
 rw[hw,aE (by decide),h2,aE (by decide)];unfold vZ;rw[hl];dsimp only;rw[aE (fun k=>k h3),aE (Int.not_lt.2 h4),aE (by omega)]
theorem sW (x:XL) (b:bG):fH [x] b=if x.box=b then [x] else []:=by
 unfold fH;by_cases h:x.box=b
 ·rw[aF h,List.filter_cons_of_pos (by simpa using h)];rfl
 ·rw[aE h,List.filter_cons_of_neg (by simpa using h)];rfl
structure O5 (name:bG) (d:De) (day:Int) (H H':List XL) (bs:List bG):Prop where
 nd:bs.Nodup
 own:∀b∈bs,fH H b=[]∧fH H' b=[cF eS d.seller d.frm day b,cF d.seller name d.frm day b]∧bR b=true
 other:∀b,b∉bs→fH H' b=fH H b
 name:bs≠[]→bR name=true∧eN day=true
theorem A3 {name:bG}{d:De}{day:Int}:∀{bs:List bG}{H H':List XL},iG name d day H bs=some H'→O5 name d day H H' bs
 |[],H,H',h=>by
  cases h;exact⟨.nil,fun b hb=>(by cases hb),fun _ _=>rfl,fun h=>absurd rfl h⟩
 |b :: r,H,H',h=>by
  obtain⟨x1,hx1⟩:∃x,x=cF eS d.seller d.frm day b:=⟨_,rfl⟩
  obtain⟨x2,hx2⟩:∃x,x=cF d.seller name d.frm day b:=⟨_,rfl⟩
  have g2:iG name d day H (b :: r)=if rE H x1≠0 then none else if eW (H++[x1]) x2≠0 then none else iG name d day (H++[x1]++[x2]) r:=by subst hx1 hx2;rfl
  rw[g2]at h
  split at h
  ·cases h
  rename_i h1
  split at h
  ·cases h
  rename_i h2;have hb:=LM (Decidable.not_not.1 h1);have hh:=Bu (Decidable.not_not.1 h2);have b1:x1.box=b:=by rw[hx1];rfl
  have b2:x2.box=b:=by rw[hx2];rfl
  have hs:=A3 h;have ho:∀c,fH (H++[x1]++[x2]) c=fH H c++if b=c then [x1,x2] else []:=fun c=>by
   rw[qT,qT,sW,sW,b1,b2];by_cases e:b=c
   ·rw[aF e,aF e,aF e,XI];rfl
   ·rw[aE e,aE e,aE e,List.append_nil]
  have hbn:b∉r:=fun hm=>by
   have:=(hs.own b hm).1;rw[ho,aF rfl]at this;simp at this
  rw[b1]at hb;refine⟨List.nodup_cons.2 ⟨hbn,hs.nd⟩,fun c hc=>?_,fun c hc=>?_,fun _=>?_⟩
  ·rcases List.mem_cons.1 hc with rfl|hc
   ·refine⟨hb.2.2.2.2,?_,hb.1⟩;rw[hs.other c hbn,ho,aF rfl,hb.2.2.2.2,hx1,hx2];rfl
   ·obtain⟨o1,o2,o3⟩:=hs.own c hc;have e:¬b=c:=fun e=>hbn (e ▸ hc)
    rw[ho,aE e,List.append_nil]at o1;exact⟨o1,o2,o3⟩
  ·rw[hs.other c (fun hm=>hc (aW _ hm)),ho,aE (fun e:b=c=>hc (by rw[←e];exact bD ..)),List.append_nil]
  ·have e1:x2.to=name:=by rw[hx2];rfl
   have e2:x2.day=day:=by rw[hx2];rfl
   rw[e1,e2]at hh;exact⟨hh.1.2.2.1,hh.2.1⟩
open Classical in
theorem Ci {f:bG→XL}(hf:∀b,(f b).box=b):∀{bs:List bG},bs.Nodup→∀b,fH (bs.map f) b=if b∈bs then [f b] else []
 |[],_,b=>by rw[aE (by simp)];rfl
 |c :: r,hn,b=>by
  obtain⟨h1,h2⟩:=List.nodup_cons.1 hn;rw[List.map_cons,show f c :: r.map f=[f c]++r.map f from rfl,qT,sW,hf,Ci hf h2];by_cases e:c=b
  ·subst e;rw[aF rfl,aE h1,aF (bD ..)];rfl
  ·rw[aE e];by_cases hm:b∈r
   ·rw[aF hm,aF (aW _ hm)];rfl
   ·rw[aE hm,aE (fun h=>(List.mem_cons.1 h).elim (fun h=>e h.symm) hm)];rfl
theorem Ab {f:bG→XL}(hf:∀b,(f b).box=b):∀{bs:List bG}{H H':List XL},bs.Nodup→eP f H bs=some H'→H'=H++bs.map f∧∀b∈bs,eW H (f b)=0
 |[],H,H',_,h=>by cases h;exact⟨by simp,fun b hb=>(by cases hb)⟩
 |c :: r,H,H',hn,h=>by
  obtain⟨h1,h2⟩:=List.nodup_cons.1 hn;have g2:eP f H (c :: r)=if eW H (f c)≠0 then none else eP f (H++[f c]) r:=rfl
  rw[g2]at h
  split at h
  ·cases h
  rename_i h3;obtain⟨e1,e2⟩:=Ab hf h2 h;refine⟨by rw[e1,List.map_cons];simp,fun b hb=>?_⟩;rcases List.mem_cons.1 hb with rfl|hb
  ·exact Decidable.not_not.1 h3
  ·have:=e2 b hb;have e3:fH (H++[f c]) (f b).box=fH H (f b).box:=by
    rw[qT,sW,hf,hf,aE (fun e:c=b=>h1 (by rw[e];exact hb)),List.append_nil]
   unfold eW at this⊢;rwa [e3]at this
theorem Bt {f:bG→XL}(hf:∀b,(f b).box=b):∀{bs:List bG}{H:List XL},bs.Nodup→(∀b∈bs,eW H (f b)=0)→eP f H bs=some (H++bs.map f)
 |[],H,_,_=>by rw[List.map_nil,List.append_nil];rfl
 |c :: r,H,hn,h=>by
  obtain⟨h1,h2⟩:=List.nodup_cons.1 hn;have g2:eP f H (c :: r)=if eW H (f c)≠0 then none else eP f (H++[f c]) r:=rfl
  rw[g2,aE (fun k=>k (h c (bD ..))),Bt hf h2 fun b hb=>?_]
  ·rw[List.map_cons];simp
  ·have:=h b (aW _ hb);have e3:fH (H++[f c]) (f b).box=fH H (f b).box:=by
    rw[qT,sW,hf,hf,aE (fun e:c=b=>h1 (by rw[e];exact hb)),List.append_nil]
   unfold eW at this⊢;rwa [e3]
set_option maxHeartbeats 2000000
def sL (s:Su) (x:Cs) (i:Nat) (d:De) (st:Int):Prop:=s.deals[i]?=some d∧x.S[i]?=some st
structure SZ (name:bG) (T:Int) (H:List XL) (d:De) (st:Int):Prop where
 nd:d.boxes.Nodup
 each:∀b∈d.boxes,bR b=true∧bR name=true∧∃k0 k1 tl,fH H b=k0 :: k1 :: tl∧k1.to=name∧k1.day≤T∧(st≠4→tl=[])∧(st=4→∃k2,tl=[k2]∧k2.to≠name)
def qH (T:Int) (o:Og):Prop:=∀e∈o.chain,e.day≤T
structure tB (T:Int) (y:Br):Prop where
 iss:y.b.issued≤T
 o0:qH T y.o0
 o1:qH T y.o1
 o2:qH T y.o2
structure eZ (T:Int) (s:Su) (name:bG) (x:Cs):Prop where
 rng:∀(i:Nat) (st:Int),x.S[i]?=some st→0≤st∧st≤4
 own:∀i d st,sL s x i d st→st≠0→cX s name d.number=some i
 box:∀i d st,sL s x i d st→st≠0→SZ name T x.H d st
 dis:∀i j d e st su,sL s x i d st→sL s x j e su→i≠j→st≠0→su≠0→∀b∈d.boxes,b∉e.boxes
 bill:∀y∈x.reg.bills,∃i d st,sL s x i d st∧2≤st∧y.b.number=cW d.number∧y.b.boxes=d.boxes∧y.b.to=d.to
 sail:∀i d st,sL s x i d st→2≤st→∃y,lT x.reg.bills (cW d.number)=some y
 days:∀y∈x.reg.bills,tB T y
 del:∀h∈x.D,∃i d,sL s x i d 4∧h.box∈d.boxes
 dnd:(x.D.map XL.box).Nodup
 inv:∃n,zD n x.reg
theorem uI {T:Int}{c:Bool}{f:Og→Og}{o:Og}(h1:qH T (f o)) (h2:qH T o):qH T (bif c then f o else o):=by cases c;exact h2;exact h1
theorem sV {T:Int}{idx:Int}{f:Og→Og}(hf:∀o,qH T o→qH T (f o)) {y:Br}(h:tB T y):tB T (sO idx f y):=by
 obtain⟨b,st,o0,o1,o2⟩:=y;obtain⟨h1,h2,h3,h4⟩:=h;exact⟨h1,uI (hf _ h2) h2,uI (hf _ h3) h3,uI (hf _ h4) h4⟩
theorem yS {T:Int}{s:Int}(o:Og) (h:qH T o):qH T (Aa s o):=h
theorem Be {T:Int}{s:Int}{y:Br}(h:tB T y):tB T (AK s y):=by
 obtain⟨b,st,o0,o1,o2⟩:=y;exact⟨h.iss,h.o0,h.o1,h.o2⟩
theorem Jq {T:Int}{a:At}(ha:a.day≤T) {y:Br}(h:tB T y):tB T (jH a y):=by
 unfold jH
 split
 ·refine sV (fun o ho=>?_) h;obtain⟨st,hd,c⟩:=o;intro e he;have he:e∈c++[⟨a.by_,a.to,0,a.day⟩]:=he;rcases List.mem_append.1 he with h1|h1
  ·exact ho e h1
  ·obtain rfl:=List.mem_singleton.1 h1;exact ha
 split
 ·exact sV yS (Be h)
 split
 ·exact sV yS h
 split
 ·exact sV yS h
 ·exact Be h
theorem A7 {n:Nat}{R:Rg}(h:zD n R) {a:At}(hk:¬a.kind=0):(∀y∈(iN R a).1.bills,∃z∈R.bills,y=z∨y=jH a z)∧∀t,(∃y,lT R.bills t=some y)→∃y,lT (iN R a).1.bills t=some y:=by
 rw[oH hk];dsimp only;by_cases h0:eE R.bills (cR a)=0
 ·rw[qA h.nd _ _ h0];constructor
  ·intro y hy;obtain⟨z,hz,rfl⟩:=aX.1 hy;refine⟨z,hz,?_⟩
   split
   ·exact .inr rfl
   ·exact .inl rfl
  ·rintro t ⟨y,hy⟩;rw[H6 _ (fun b=>by split;rw[uX];rfl),hy];exact⟨_,rfl⟩
 ·rw[yI _ _ h0];exact⟨fun y hy=>⟨y,hy,.inl rfl⟩,fun t h=>h⟩
theorem eZ.reg_act {T:Int}{s:Su}{name:bG}{x:Cs}(h:eZ T s name x) {a:At}(hk:1≤a.kind∧a.kind≤5) (hd:a.day≤T) (hb:tY a.b):eZ T s name { x with reg:=(iN x.reg a).1 }:=by
 obtain⟨n,hn⟩:=h.inv;obtain⟨h1,h2⟩:=A7 hn (a:=a) (by omega);refine⟨h.rng,h.own,h.box,h.dis,fun y hy=>?_,fun i d st hd2 h3=>h2 _ (h.sail i d st hd2 h3),fun y hy=>?_,h.del,h.dnd,⟨n+1,GT hn ⟨by omega,hk.2⟩ hb⟩⟩
 ·obtain⟨z,hz,he⟩:=h1 y hy;obtain⟨i,d,st,g1,g2,g3,g4,g5⟩:=h.bill z hz;have hbz:y.b=z.b:=by rcases he with rfl|rfl;rfl;exact uX a z
  exact⟨i,d,st,g1,g2,by rw[hbz];exact g3,by rw[hbz];exact g4,by rw[hbz];exact g5⟩
 ·obtain⟨z,hz,he⟩:=h1 y hy;rcases he with rfl|rfl
  ·exact h.days _ hz
  ·exact Jq hd (h.days z hz)
theorem nW {s:Su}{x:Cs}{i j:Nat}{e:De}{su st':Int}(h:sL s (iQ x i st') j e su):(j=i∧su=st'∧s.deals[i]?=some e)∨(j≠i∧sL s x j e su):=by
 obtain⟨h1,h2⟩:=h;by_cases hj:j=i
 ·subst hj;exact .inl ⟨rfl,zQ h2,h1⟩
 ·exact .inr ⟨hj,h1,by
   have h2:(x.S.set i st')[j]?=some su:=h2;rwa [aU (fun e=>hj e.symm)]at h2⟩
theorem BV {s:Su}{x:Cs}{i:Nat}{d:De}{st st':Int}(h:sL s x i d st):sL s (iQ x i st') i d st':=⟨h.1,by
 show (x.S.set i st')[i]?=some st';rw[aQ (aA.1 h.2).1]⟩
theorem BR {s:Su}{x:Cs}{i j:Nat}{d:De}{st st':Int}(h:sL s x j d st) (hj:j≠i):sL s (iQ x i st') j d st:=⟨h.1,by
 show (x.S.set i st')[j]?=some st;rw[aU (fun e=>hj e.symm)];exact h.2⟩
theorem qI {s:Su}{x:Cs}{i:Nat}{d e:De}{st su:Int}(h:sL s x i d st) (k:sL s x i e su):d=e∧st=su:=⟨Option.some.inj (h.1.symm.trans k.1),Option.some.inj (h.2.symm.trans k.2)⟩
theorem eZ.land {T:Int}{s:Su}{name:bG}{x:Cs}(h:eZ T s name x) {i:Nat}{d:De}(hi:sL s x i d 2):eZ T s name (iQ x i 3):=by
 have hbx:=h.box i d 2 hi (by decide);refine⟨fun j st hj=>?_,fun j e su hj hn=>?_,fun j e su hj hn=>?_,fun j k e g su sv hj hk hjk h1 h2 b hb=>?_,fun y hy=>?_,fun j e su hj h2=>?_,h.days,fun g hg=>?_,h.dnd,h.inv⟩
 ·have hj:(x.S.set i 3)[j]?=some st:=hj;by_cases e:j=i
  ·subst e;rw[zQ hj];decide
  ·rw[aU (fun k=>e k.symm)]at hj;exact h.rng j st hj
 ·rcases nW hj with ⟨rfl,rfl,he⟩|⟨_,he⟩
  ·rw[hi.1]at he;cases he;exact h.own _ d 2 hi (by decide)
  ·exact h.own j e su he hn
 ·rcases nW hj with ⟨rfl,rfl,he⟩|⟨_,he⟩
  ·rw[hi.1]at he;cases he;refine⟨hbx.nd,fun b hb=>?_⟩;obtain⟨g1,g2,k0,k1,tl,g3,g4,g5,g6,_⟩:=hbx.each b hb;exact⟨g1,g2,k0,k1,tl,g3,g4,g5,fun _=>g6 (by decide),fun h=>absurd h (by decide)⟩
  ·exact h.box j e su he hn
 ·rcases nW hj with ⟨rfl,rfl,he⟩|⟨_,he⟩
  ·rw[hi.1]at he;cases he;rcases nW hk with ⟨rfl,_,_⟩|⟨_,he2⟩
   ·exact absurd rfl hjk
   ·exact h.dis _ k d g 2 sv hi he2 hjk (by decide) h2 b hb
  ·rcases nW hk with ⟨rfl,rfl,he2⟩|⟨_,he2⟩
   ·rw[hi.1]at he2;cases he2;exact h.dis j _ e d su 2 he hi hjk h1 (by decide) b hb
   ·exact h.dis j k e g su sv he he2 hjk h1 h2 b hb
 ·obtain⟨j,e,su,g1,g2,g3⟩:=h.bill y hy;by_cases k:j=i
  ·subst k;obtain⟨rfl,rfl⟩:=qI hi g1;exact⟨j,d,3,BV hi,by decide,g3⟩
  ·exact⟨j,e,su,BR g1 k,g2,g3⟩
 ·rcases nW hj with ⟨rfl,rfl,he⟩|⟨_,he⟩
  ·rw[hi.1]at he;cases he;exact h.sail _ d 2 hi (by decide)
  ·exact h.sail j e su he h2
 ·obtain⟨j,e,g1,g2⟩:=h.del g hg;by_cases k:j=i
  ·subst k;have:=(qI hi g1).2;exact absurd this (by decide)
  ·exact⟨j,e,BR g1 k,g2⟩
theorem eZ.move {T:Int}{s:Su}{name:bG}{x:Cs}(h:eZ T s name x) {i:Nat}{d:De}{st st':Int}(hi:sL s x i d st) (h1:1≤st'∧st'≤4) (hst:st≠4) (hup:2≤st→2≤st') (hown:cX s name d.number=some i) {H' D':List XL}{reg':Rg}
  (hbox:SZ name T H' d st') (hoth:∀j e su,sL s x j e su→j≠i→su≠0→∀b∈e.boxes,fH H' b=fH x.H b) (hdis:∀j e su,sL s x j e su→j≠i→su≠0→∀b∈d.boxes,b∉e.boxes)
  (hbill:∀y∈reg'.bills,(∃z∈x.reg.bills,y.b=z.b)∨(y.b.number=cW d.number∧y.b.boxes=d.boxes∧y.b.to=d.to∧2≤st')) (hkeep:∀t,(∃y,lT x.reg.bills t=some y)→∃y,lT reg'.bills t=some y) (hsail:2≤st'→∃y,lT reg'.bills (cW d.number)=some y)
  (hdays:∀y∈reg'.bills,tB T y) (hdel:∀g∈D',g∈x.D∨(st'=4∧g.box∈d.boxes)) (hdnd:(D'.map XL.box).Nodup) (hinv:∃n,zD n reg'):eZ T s name { iQ x i st' with H:=H',D:=D',reg:=reg' }:=by
 have hset:∀j e su,sL s { iQ x i st' with H:=H',D:=D',reg:=reg' } j e su→(j=i∧su=st'∧s.deals[i]?=some e)∨(j≠i∧sL s x j e su):=fun j e su hj=>nW (x:=x) (i:=i) (st':=st') hj
 have hnew:sL s { iQ x i st' with H:=H',D:=D',reg:=reg' } i d st':=BV (x:=x) hi;have hold:∀{j e su},sL s x j e su→j≠i→sL s { iQ x i st' with H:=H',D:=D',reg:=reg' } j e su:=fun hj hk=>BR (x:=x) (i:=i) (st':=st') hj hk
 refine⟨fun j su hj=>?_,fun j e su hj hn=>?_,fun j e su hj hn=>?_,fun j k e g su sv hj hk hjk g1 g2 b hb=>?_,fun y hy=>?_,fun j e su hj g2=>?_,hdays,fun g hg=>?_,hdnd,hinv⟩
 ·have hj:(x.S.set i st')[j]?=some su:=hj;by_cases e:j=i
  ·subst e;rw[zQ hj];omega
  ·rw[aU (fun k=>e k.symm)]at hj;exact h.rng j su hj
 ·rcases hset j e su hj with ⟨rfl,rfl,he⟩|⟨_,he⟩
  ·rw[hi.1]at he;cases he;exact hown
  ·exact h.own j e su he hn
 ·rcases hset j e su hj with ⟨rfl,rfl,he⟩|⟨hji,he⟩
  ·rw[hi.1]at he;cases he;exact hbox
  ·have hb:=h.box j e su he hn;refine⟨hb.nd,fun b hbb=>?_⟩;rw[show fH ({ iQ x i st' with H:=H',D:=D',reg:=reg' }:Cs).H b=fH x.H b from hoth j e su he hji hn b hbb];exact hb.each b hbb
 ·rcases hset j e su hj with ⟨rfl,rfl,he⟩|⟨hji,he⟩
  ·rw[hi.1]at he;cases he;rcases hset k g sv hk with ⟨rfl,_,_⟩|⟨hki,he2⟩
   ·exact absurd rfl hjk
   ·exact hdis k g sv he2 hki g2 b hb
  ·rcases hset k g sv hk with ⟨rfl,rfl,he2⟩|⟨_,he2⟩
   ·rw[hi.1]at he2;cases he2;exact fun hm=>hdis j e su he hji g1 b hm hb
   ·exact h.dis j k e g su sv he he2 hjk g1 g2 b hb
 ·rcases hbill y hy with ⟨z,hz,hyz⟩|⟨g1,g2,g3,g4⟩
  ·obtain⟨j,e,su,k1,k2,k3,k4,k5⟩:=h.bill z hz;rw[←hyz]at k3 k4 k5;by_cases k:j=i
   ·subst k;obtain⟨rfl,rfl⟩:=qI hi k1;exact⟨j,d,st',hnew,hup k2,k3,k4,k5⟩
   ·exact⟨j,e,su,hold k1 k,k2,k3,k4,k5⟩
  ·exact⟨i,d,st',hnew,g4,g1,g2,g3⟩
 ·rcases hset j e su hj with ⟨rfl,rfl,he⟩|⟨_,he⟩
  ·rw[hi.1]at he;cases he;exact hsail g2
  ·exact hkeep _ (h.sail j e su he g2)
 ·rcases hdel g hg with g1|⟨g1,g2⟩
  ·obtain⟨j,e,k1,k2⟩:=h.del g g1;have k:j≠i:=fun k=>by
    subst k;exact hst (qI hi k1).2
   exact⟨j,e,hold k1 k,k2⟩
  ·subst g1;exact⟨i,d,hnew,g2⟩
theorem eZ.ship {T:Int}{s:Su}{name:bG}{x:Cs}(h:eZ T s name x) {i:Nat}{d:De}(hi:sL s x i d 0) (hown:cX s name d.number=some i) {day:Int}(hT:day≤T) {H':List XL}(hs:iG name d day x.H d.boxes=some H'):eZ T s name (iQ { x with H:=H' } i 1):=by
 have hs:=A3 hs;have hne:∀j e su,sL s x j e su→su≠0→∀b∈e.boxes,b∉d.boxes:=fun j e su hj hn b hb hd=>by
  obtain⟨_,_,k0,k1,tl,g1,_⟩:=(h.box j e su hj hn).each b hb;rw[(hs.own b hd).1]at g1;cases g1
 refine h.move (st':=1) (H':=H') (D':=x.D) (reg':=x.reg) hi (by decide) (by decide) (fun k=>absurd k (by decide)) hown ⟨hs.nd,fun b hb=>?_⟩ (fun j e su hj _ hn b hb=>hs.other b (hne j e su hj hn b hb)) (fun j e su hj _ hn b hb hm=>hne j e su hj hn b hm hb)
  (fun y hy=>.inl ⟨y,hy,rfl⟩) (fun t ht=>ht) (fun k=>absurd k (by decide)) h.days (fun g hg=>.inl hg) h.dnd h.inv
 obtain⟨g1,g2,g3⟩:=hs.own b hb;have hnm:=hs.name (fun e=>by rw[e]at hb;cases hb);exact⟨g3,hnm.1,_,_,[],g2,rfl,hT,fun _=>rfl,fun k=>absurd k (by decide)⟩
theorem eZ.sailed {T:Int}{s:Su}{name:bG}{x:Cs}(h:eZ T s name x) {i:Nat}{d:De}(hi:sL s x i d 1) (hd:J5 d) {day:Int}(hT:day≤T) {fr:Bool}(he:fW ⟨x.reg,eQ name (cG d 1 fr) day,d.seller⟩=0):eZ T s name { iQ x i 2 with reg:=iY ⟨x.reg,eQ name (cG d 1 fr) day,d.seller⟩ }:=by
 have hbx:=h.box i d 1 hi (by decide);have hown:=h.own i d 1 hi (by decide);obtain⟨n,hn⟩:=h.inv;have hm:=zM he;have hb5:∀y∈(iY ⟨x.reg,eQ name (cG d 1 fr) day,d.seller⟩).bills,y∈x.reg.bills∨y=DF (eQ name (cG d 1 fr) day) d.seller:=fun y hy=>by
  rw[hm]at hy;rcases List.mem_append.1 hy with h1|h1
  ·exact .inl h1
  ·exact .inr (List.mem_singleton.1 h1)
 obtain⟨_,e2,_,_⟩:=Bi he;rw[PC]at e2;have e2:(lT x.reg.bills (cW d.number)).isSome=false:=e2;have e2:lT x.reg.bills (cW d.number)=none:=by simpa using e2
 have hlk:∀t,lT (x.reg.bills++[DF (eQ name (cG d 1 fr) day) d.seller]) t=(lT x.reg.bills t).or (lT [DF (eQ name (cG d 1 fr) day) d.seller] t):=fun t=>by
  unfold lT;rw[List.find?_append]
 refine h.move (st':=2) (H':=x.H) (D':=x.D) (reg':=iY ⟨x.reg,eQ name (cG d 1 fr) day,d.seller⟩) hi (by decide) (by decide) (fun k=>absurd k (by decide)) hown ⟨hbx.nd,fun b hb=>?_⟩ (fun j e su hj _ hn b hb=>rfl) (fun j e su hj hk hn b hb=>h.dis i j d e 1 su hi hj (fun e=>hk e.symm) (by decide) hn b hb)
  (fun y hy=>?_) (fun t ht=>?_) (fun _=>?_) (fun y hy=>?_) (fun g hg=>.inl hg) h.dnd ⟨n,yH hn ⟨?_,?_⟩⟩
 ·obtain⟨g1,g2,k0,k1,tl,g3,g4,g5,g6,_⟩:=hbx.each b hb;exact⟨g1,g2,k0,k1,tl,g3,g4,g5,fun _=>g6 (by decide),fun k=>absurd k (by decide)⟩
 ·rcases hb5 y hy with h1|rfl
  ·exact .inl ⟨y,h1,rfl⟩
  ·exact .inr ⟨rfl,rfl,rfl,by decide⟩
 ·rw[hm];obtain⟨y,hy⟩:=ht;exact⟨y,by rw[hlk,hy];rfl⟩
 ·rw[hm];refine⟨DF (eQ name (cG d 1 fr) day) d.seller,?_⟩;rw[hlk,e2];show lT [DF (eQ name (cG d 1 fr) day) d.seller] (cW d.number)=_;unfold lT;exact List.find?_cons_of_pos (p:=fun b:Br=>decide (b.b.number=cW d.number)) (aH rfl)
 ·rcases hb5 y hy with h1|rfl
  ·exact h.days y h1
  ·exact⟨hT,fun e he=>(by cases he),fun e he=>(by cases he),fun e he=>(by cases he)⟩
 ·unfold J5 at hd;show d.boxes.length≤5000;omega
 ·exact aI _
theorem eZ.given {T:Int}{s:Su}{name:bG}{x:Cs}(h:eZ T s name x) {i:Nat}{d:De}(hi:sL s x i d 3) {who:bG}{day:Int}(hT:day≤T) {H':List XL}(hs:eP (cF name who d.to day) x.H d.boxes=some H') {a:At}(hk:1≤a.kind∧a.kind≤5) (ha:a.day≤T) (hb:tY a.b) :
  eZ T s name (iQ { x with D:=x.D++H'.drop x.H.length,H:=H',reg:=(iN x.reg a).1 } i 4)∧H'.drop x.H.length=d.boxes.map (cF name who d.to day)∧(∀b∈d.boxes,b∉x.D.map XL.box)∧d.boxes.Nodup∧(d.boxes≠[]→bR who=true∧who≠name):=by
 have hbx:=h.box i d 3 hi (by decide);have hown:=h.own i d 3 hi (by decide);have hf:∀b,(cF name who d.to day b).box=b:=fun _=>rfl
 obtain⟨e1,e2⟩:=Ab hf hbx.nd hs;have edr:H'.drop x.H.length=d.boxes.map (cF name who d.to day):=by rw[e1,List.drop_left]
 have hoD:∀b∈d.boxes,b∉x.D.map XL.box:=fun b hb hm=>by
  obtain⟨g,hg,rfl⟩:=aX.1 hm;obtain⟨j,e,k1,k2⟩:=h.del g hg;have hji:i≠j:=fun k=>by
   subst k;exact absurd (qI hi k1).2 (by decide)
  exact h.dis i j d e 3 4 hi k1 hji (by decide) (by decide) _ hb k2
 have hmb:(d.boxes.map (cF name who d.to day)).map XL.box=d.boxes:=by
  rw[List.map_map];exact List.map_id _
 have hown2:∀b,fH H' b=fH x.H b++fH (d.boxes.map (cF name who d.to day)) b:=fun b=>by rw[e1,qT]
 have hw:∀b∈d.boxes,bR who=true∧who≠name:=fun b hb=>by
  obtain⟨⟨_,_,g1,_,g2⟩,_⟩:=Bu (e2 b hb);exact⟨g1,fun e=>g2 e.symm⟩
 have hr:=h.reg_act hk ha hb;refine⟨?_,edr,hoD,hbx.nd,fun hne=>?_⟩
 ·rw[edr];obtain⟨n,hn⟩:=h.inv;obtain⟨q1,q2⟩:=A7 hn (a:=a) (by omega);refine h.move (st':=4) (H':=H') (D':=x.D++d.boxes.map (cF name who d.to day)) (reg':=(iN x.reg a).1) hi (by decide) (by decide) (fun _=>by decide) hown ⟨hbx.nd,fun b hb=>?_⟩ (fun j e su hj hji hn b hb=>?_) (fun j e su hj hk hn b hb=>h.dis i j d e 3 su hi hj (fun e=>hk e.symm) (by decide) hn b hb)
   (fun y hy=>?_) q2 (fun _=>q2 _ (h.sail i d 3 hi (by decide))) hr.days (fun g hg=>?_) ?_ hr.inv
  ·obtain⟨g1,g2,k0,k1,tl,g3,g4,g5,g6,_⟩:=hbx.each b hb;obtain rfl:=g6 (by decide);refine⟨g1,g2,k0,k1,[cF name who d.to day b],?_,g4,g5,fun k=>absurd rfl k,fun _=>⟨_,rfl,(hw b hb).2⟩⟩;rw[hown2,g3,Ci hf hbx.nd,aF hb];rfl
  ·have hnb:b∉d.boxes:=fun hm=>h.dis i j d e 3 su hi hj (fun k=>hji k.symm) (by decide) hn b hm hb
   rw[hown2,Ci hf hbx.nd,aE hnb,List.append_nil]
  ·obtain⟨z,hz,he⟩:=q1 y hy;refine .inl ⟨z,hz,?_⟩;rcases he with rfl|rfl
   ·rfl
   ·exact uX a z
  ·rcases List.mem_append.1 hg with g1|g1
   ·exact .inl g1
   ·obtain⟨b,hb,rfl⟩:=aX.1 g1;exact .inr ⟨rfl,hb⟩
  ·rw[List.map_append,hmb,List.nodup_append];exact⟨h.dnd,hbx.nd,fun b hb c hc e=>hoD c hc (e ▸ hb)⟩
 ·obtain⟨b,hb⟩:=List.exists_mem_of_ne_nil _ hne;exact hw b hb
theorem eZ.free {T:Int}{s:Su}{name:bG}{x:Cs}(h:eZ T s name x) (F:List Bool):eZ T s name { x with free:=F }:=⟨h.rng,h.own,h.box,h.dis,h.bill,h.sail,h.days,h.del,h.dnd,h.inv⟩
theorem Ba {c:bG}{b:Bl}(h:xA c b=true):1≤b.boxes.length∧bR b.to=true:=by
 obtain⟨nq1,cq1,sq1,frm1,to1,bq1,pq1,iq1,lq1⟩:=b;unfold xA at h;simp only[aO,decide_eq_true_eq]at h;exact⟨h.2.2.1.1,h.1.2.2⟩
structure Vo (s:Su) (name:bG) (x x':Cs) (l:dK) (day:Int):Prop where
 k20:l.kind=20
 who:bR l.frm=true
 ex:∃i d y,cX s name l.deal=some i∧s.deals[i]?=some d∧x'.D=x.D++d.boxes.map (cF name l.frm d.to day)∧(∀b∈d.boxes,b∉x.D.map XL.box)∧d.boxes.Nodup∧lT x'.reg.bills (cW l.deal)=some y∧y.st=1∧y.b.boxes=d.boxes
theorem Nj {n:Nat}{R:Rg}(h:zD n R) {a:At}(hk:a.kind=2) (h0:eE R.bills (cR a)=0):∃z y,lT R.bills a.bill=some z∧lT (iN R a).1.bills a.bill=some y∧y.st=1∧y.b=z.b:=by
 obtain⟨z,hz,_⟩:=QJ h0;have hkn:¬a.kind=0:=by omega
 have hak:(cR a).bill=a.bill:=rfl;refine⟨z,jH a z,hz,?_,?_,uX a z⟩
 ·rw[oH hkn];dsimp only;rw[qA h.nd _ _ h0,hak,H6 _ (fun b=>by split;rw[uX];rfl),hz];show some (if z.b.number=a.bill then jH a z else z)=_;rw[aF (jW hz).2]
 ·unfold jH;rw[aE (by omega),aF hk,(sU _ _ _).2,(zL _ _).2]
theorem eZ.take {T:Int}{s:Su}{name:bG}{x:Cs}(nm:Int→bG) (h:eZ T s name x) (l:dK) {day:Int}(hT:day≤T) :
  eZ T s name (eA nm s name x l day).1∧((eA nm s name x l day).1.D=x.D∨Vo s name x (eA nm s name x l day).1 l day):=by
 unfold eA;cases hi:cX s name l.deal with
 |none=>exact⟨h,.inl rfl⟩
 |some i=>
 dsimp only;by_cases hp:iS s.parties l.frm=false
 ·rw[aF hp];exact⟨h,.inl rfl⟩
 rw[aE hp];cases h1:s.deals[i]? with
 |none=>exact⟨h,.inl rfl⟩
 |some d=>
 cases h2:x.S[i]? with
 |none=>exact⟨h,.inl rfl⟩
 |some st=>
 cases h3:x.free[i]? with
 |none=>exact⟨h,.inl rfl⟩
 |some fr=>
 dsimp only;have hd:sL s x i d st:=⟨h1,h2⟩
 have hnum:d.number=l.deal:=by
  obtain⟨d2,g1,_,g2⟩:=jX hi;rw[h1]at g1;cases g1;exact g2
 have hown:cX s name d.number=some i:=by rw[hnum];exact hi
 by_cases k4:l.kind=4
 ·rw[aF k4];dsimp only;by_cases hc:l.frm=d.seller∧st=0
  ·rw[aF hc];cases hs:iG name d day x.H d.boxes with
   |none=>exact⟨h,.inl rfl⟩
   |some H'=>
    obtain⟨_,rfl⟩:=hc;exact⟨h.ship hd hown hT hs,.inl rfl⟩
  ·rw[aE hc];exact⟨h,.inl rfl⟩
 rw[aE k4];by_cases k19:l.kind=19
 ·rw[aF k19];dsimp only;by_cases hc:d.house≠eS∧l.frm=d.house
  ·rw[aF hc];exact⟨h.free _,.inl rfl⟩
  ·rw[aE hc];exact⟨h,.inl rfl⟩
 rw[aE k19];by_cases kk:l.kind=8∨l.kind=20∨l.kind=23∨l.kind=24
 ·rw[aF kk];obtain⟨k,hk⟩:∃k:Int,k=if l.kind=8 then 1 else if l.kind=20 then 2 else if l.kind=23 then 3 else 4:=⟨_,rfl⟩
  have hk4:1≤k∧k≤4:=by
   rw[hk]
   split
   ·decide
   split
   ·decide
   split<;>decide
  have hk2:k=2→l.kind=20:=fun e=>by
   rw[e]at hk
   split at hk
   ·exact absurd hk (by decide)
   split at hk
   ·assumption
   split at hk<;>exact absurd hk (by decide)
  rw[←hk];clear hk;have hr:=h.reg_act (a:=dM k d l day) ⟨hk4.1,by show k≤5;omega⟩ hT kJ;by_cases hc:(iN x.reg (dM k d l day)).2≠0∨(k=1∧(iS s.parties l.party=false∨l.party=l.frm))
  ·rw[aF hc];exact⟨h,.inl rfl⟩
  rw[aE hc];by_cases e2:k=2
  ·rw[aF e2];cases hs:eP (cF name l.frm d.to day) x.H d.boxes with
   |none=>exact⟨h,.inl rfl⟩
   |some H'=>
    dsimp only;by_cases hst:st≠3∨fr=false
    ·rw[aF hst];exact⟨h,.inl rfl⟩
    rw[aE hst];have h3:st=3:=Decidable.not_not.1 fun e=>hst (.inl e)
    subst h3;subst e2;obtain⟨g1,g2,g3,g4,g5⟩:=h.given hd (who:=l.frm) hT hs (a:=dM 2 d l day) ⟨by show (1:Int)≤2;decide,by show (2:Int)≤5;decide⟩ hT kJ;refine⟨g1,.inr ⟨hk2 rfl,?_,?_⟩⟩
    ·by_cases hne:d.boxes=[]
     ·exfalso;obtain⟨y,hy⟩:=h.sail i d 3 hd (by decide);obtain⟨n,hn⟩:=h.inv;obtain⟨j,e,su,q1,q2,q3,q4,_⟩:=h.bill y (jW hy).1;have hm:=(hn.all y (jW hy).1).may;have e3:y.b.number=cW d.number:=(jW hy).2;have e4:e.number=d.number:=by
       have e5:cW e.number=cW d.number:=q3.symm.trans e3;unfold cW at e5;have:=congrArg (fun b:bG=>b.data.toList) e5;simp only[ByteArray.data_append,Array.toList_append,List.append_cancel_left_eq]at this;exact Cp this
      have hj:=h.own j e su q1 (by omega);rw[e4,hown]at hj;cases hj;obtain⟨rfl,_⟩:=qI hd q1;rw[hne]at q4;have:=(Ba hm).1;rw[q4]at this;exact absurd this (by decide)
     ·exact(g5 hne).1
    ·obtain⟨n,hn⟩:=h.inv;have h0:eE x.reg.bills (cR (dM 2 d l day))=0:=by
      have h9:¬(iN x.reg (dM 2 d l day)).2≠0:=fun e=>hc (.inl e)
      rw[oH (show ¬(dM 2 d l day).kind=0 from (by decide:¬(2:Int)=0))]at h9;exact Decidable.not_not.1 h9
     obtain⟨z,y,hz,hy,hys,hyb⟩:=Nj hn (show (dM 2 d l day).kind=2 from rfl) h0;have hbl:(dM 2 d l day).bill=cW l.deal:=by show cW d.number=_;rw[hnum]
     rw[hbl]at hz hy;refine⟨i,d,y,hi,h1,?_,g3,g4,hy,hys,?_⟩
     ·show x.D++H'.drop x.H.length=_;rw[g2]
     ·obtain⟨j,e,su,q1,q2,q3,q4,_⟩:=h.bill z (jW hz).1;have e3:z.b.number=cW l.deal:=(jW hz).2;have e4:e.number=d.number:=by
       have e5:cW e.number=cW d.number:=by rw[hnum];exact q3.symm.trans e3
       unfold cW at e5;have:=congrArg (fun b:bG=>b.data.toList) e5;simp only[ByteArray.data_append,Array.toList_append,List.append_cancel_left_eq]at this;exact Cp this
      have hj:=h.own j e su q1 (by omega);rw[e4,hown]at hj;cases hj;obtain⟨rfl,_⟩:=qI hd q1;rw[hyb,q4]
  ·rw[aE e2];exact⟨hr,.inl rfl⟩
 ·rw[aE kk];exact⟨h,.inl rfl⟩
theorem eZ.car {T:Int}{s:Su}{name:bG}{x:Cs}(lad:Bl→HL) (h:eZ T s name x) (hb:∀d∈s.deals,J5 d) (kind:Int) (deal:bG) {day:Int}(hT:day≤T) :
  eZ T s name (jJ lad s name x kind deal day).1∧(jJ lad s name x kind deal day).1.D=x.D:=by
 unfold jJ;by_cases hk:kind≠5∧kind≠6
 ·rw[aF hk];exact⟨h,rfl⟩
 rw[aE hk];cases hi:cX s name deal with
 |none=>exact⟨h,rfl⟩
 |some i=>
 dsimp only;cases h1:s.deals[i]? with
 |none=>exact⟨h,rfl⟩
 |some d=>
 cases h2:x.S[i]? with
 |none=>exact⟨h,rfl⟩
 |some st=>
 dsimp only;have hd:sL s x i d st:=⟨h1,h2⟩
 by_cases k6:kind=6
 ·rw[aF k6];by_cases hs:st≠2
  ·rw[aF hs];exact⟨h,rfl⟩
  ·rw[aE hs];obtain rfl:=Decidable.not_not.1 hs;exact⟨h.land hd,rfl⟩
 ·rw[aE k6];by_cases hs:st≠1
  ·rw[aF hs];exact⟨h,rfl⟩
  ·rw[aE hs];obtain rfl:=Decidable.not_not.1 hs;by_cases he:fW ⟨x.reg,eQ name (cG d 1 true) day,d.seller⟩≠0
   ·rw[aF he];exact⟨h,rfl⟩
   ·rw[aE he];exact⟨h.sailed hd (hb d (aC h1)) hT (Decidable.not_not.1 he),rfl⟩
def vD (k:Int) (y:Br):Og:=if k=0 then y.o0 else if k=1 then y.o1 else y.o2
theorem uN {T:Int}{o:Og}{iss:Int}(h:qH T o) (hi:iss≤T):gH o iss≤T:=by
 unfold gH
 split
 ·rename_i e he;exact h e (List.mem_of_getLast? he)
 ·exact hi
theorem OG {T:Int}{n:Nat}{c:bG}{y:Br}(hy:XR n c y) (hd:tB T y) {k:Int}(hk:k=0∨k=1∨k=2) {who bill:bG}{day:Int}(hday:eN day=true) (hT:T≤day) (hs:(vD k y).state=0) (hw:(vD k y).holder=who):lP y ⟨bill,k,0,who,0,day,true,false⟩=0:=by
 have hst:y.st=0:=by
  have h1:=hy.st;unfold TL at h1;unfold vD at hs;rcases hk with rfl|rfl|rfl
  ·have hs:y.o0.state=0:=hs;rcases h1 with h1|⟨_,h1|h1|h1⟩|h1<;>omega
  ·have hs:y.o1.state=0:=hs;rcases h1 with h1|⟨_,h1|h1|h1⟩|h1<;>omega
  ·have hs:y.o2.state=0:=hs;rcases h1 with h1|⟨_,h1|h1|h1⟩|h1<;>omega
 have l0:=uN hd.o0 hd.iss;have l1:=uN hd.o1 hd.iss;have l2:=uN hd.o2 hd.iss;have key:∀p:Og→Bool,p (vD k y)=false→jK k y p=false:=fun p hp=>by
  unfold jK;unfold vD at hp;rcases hk with rfl|rfl|rfl
  ·have hp:p y.o0=false:=hp;rw[hp];rfl
  ·have hp:p y.o1=false:=hp;rw[hp];rfl
  ·have hp:p y.o2=false:=hp;rw[hp];rfl
 unfold lP;have e1:k1 ⟨bill,k,0,who,0,day,true,false⟩=false:=by
  unfold k1;rw[aG (by show ¬k < 0;omega),aG (by show ¬3≤k;omega)];rfl
 have e2:k2 ⟨bill,k,0,who,0,day,true,false⟩=false:=by
  unfold k2;dsimp only;rw[hday];rfl
 have e3:k3 y ⟨bill,k,0,who,0,day,true,false⟩=false:=by
  unfold k3;rw[hst];dsimp only;rw[key _ (by unfold mT;rw[hs];rfl)];rfl
 have e4:k4 y ⟨bill,k,0,who,0,day,true,false⟩=false:=by
  unfold k4;exact key _ (by unfold iM;rw[hw];simp)
 have e5:k5 y ⟨bill,k,0,who,0,day,true,false⟩=false:=by
  unfold k5;dsimp only;rw[key _ (by
   unfold zY;refine aG ?_;show ¬day < gH (vD k y) y.b.issued;unfold vD
   split
   ·omega
   split<;>omega)]
  rfl
 rw[e1,e2,e3,e4,e5];rfl
def eB (who name n:bG) (k:Int):dK:={ lX with frm:=who,to:=name,kind:=20,deal:=n,index:=k }
theorem eZ.gives {T:Int}{s:Su}{name:bG}{x:Cs}(nm:Int→bG) (h:eZ T s name x) {n:bG}{i:Nat}{d:De}(hi:cX s name n=some i) (h1:s.deals[i]?=some d) (h2:x.S[i]?=some 3) (h3:x.free[i]?=some true) {y:Br}(hy:lT x.reg.bills (cW n)=some y) {k:Int}(hk:k=0∨k=1∨k=2) (hs:(vD k y).state=0) (hp:iS s.parties (vD k y).holder=true) (hne:(vD k y).holder≠name) {day:Int}(hday:eN day=true) (hT:T≤day) :
  (eA nm s name x (eB (vD k y).holder name n k) day).2=cC n day [{ lX with to:=(vD k y).holder,kind:=21,boxes:=d.boxes }]∧(eA nm s name x (eB (vD k y).holder name n k) day).1.S[i]?=some 4:=by
 obtain⟨who,hwho⟩:∃w,w=(vD k y).holder:=⟨_,rfl⟩
 rw[←hwho]at hp hne⊢;have hd:sL s x i d 3:=⟨h1,h2⟩
 have hnum:d.number=n:=by
  obtain⟨d2,g1,_,g2⟩:=jX hi;rw[h1]at g1;cases g1;exact g2
 obtain⟨m,hinv⟩:=h.inv;have hbr:=hinv.all y (jW hy).1;have hdy:=h.days y (jW hy).1;have hbx:=h.box i d 3 hd (by decide);have hwn:bR who=true:=by
  rw[hwho];unfold vD
  split
  ·exact hbr.h0.name
  split
  ·exact hbr.h1.name
  ·exact hbr.h2.name
 obtain⟨hm1,hm2⟩:=Ba hbr.may;have hto:bR d.to=true:=by
  obtain⟨j,e,su,q1,q2,q3,q4,q5⟩:=h.bill y (jW hy).1;have e4:e.number=d.number:=by
   have e5:cW e.number=cW d.number:=by rw[hnum];exact q3.symm.trans (jW hy).2
   unfold cW at e5;have:=congrArg (fun b:bG=>b.data.toList) e5;simp only[ByteArray.data_append,Array.toList_append,List.append_cancel_left_eq]at this;exact Cp this
  have hj:=h.own j e su q1 (by omega);rw[e4,hnum,hi]at hj;cases hj;obtain⟨rfl,_⟩:=qI hd q1;rw[←q5];exact hm2
 have hask:eE x.reg.bills (cR (dM 2 d (eB who name n k) day))=0:=by
  have e:cR (dM 2 d (eB who name n k) day)=⟨cW d.number,k,0,who,0,day,true,false⟩:=by
   unfold cR dM eB;simp
  rw[e,B4];dsimp only;rw[hnum,hy];exact OG hbr hdy hk hday hT hs hwho.symm
 have hdo:(iN x.reg (dM 2 d (eB who name n k) day)).2=0:=by
  rw[oH (show ¬(dM 2 d (eB who name n k) day).kind=0 from (by decide:¬(2:Int)=0))];exact hask
 have hhands:eP (cF name who d.to day) x.H d.boxes=some (x.H++d.boxes.map (cF name who d.to day)):=by
  refine Bt (fun _=>rfl) hbx.nd fun b hb=>?_
  obtain⟨g1,g2,k0,k1,tl,g3,g4,g5,g6,_⟩:=hbx.each b hb;obtain rfl:=g6 (by decide);have hown:fH x.H (cF name who d.to day b).box=[k0,k1]:=g3;refine MX ⟨g1,g2,hwn,hto,fun e=>hne e.symm⟩ hday (l:=k1) (by rw[hown];rfl) g4 (Int.le_trans g5 hT) (by rw[hown];exact(by decide:2 < 4096))
 unfold eA;have ed:(eB who name n k).deal=n:=rfl;have ef:(eB who name n k).frm=who:=rfl;have ek:(eB who name n k).kind=20:=rfl;rw[ed,hi];dsimp only;rw[ef,hp,h1,h2,h3,ek];dsimp only;rw[aE (by decide),aE (by decide),aE (by decide),aF (.inr (.inl rfl))];simp only[aE (show ¬(20:Int)=8 by decide),↓reduceIte];rw[hdo,aE (by
  rintro (e|⟨e,_⟩)
  ·exact e rfl
  ·exact absurd e (by decide)),hhands]
 dsimp only;rw[aE (by
  rintro (e|e)
  ·exact e rfl
  ·cases e)]
 exact⟨rfl,(BV (x:=x) hd).2⟩
set_option maxHeartbeats 1000000
def Mf (L:List bG) (p:bG):List bG:=if iS L p=true then L else L++[p]
def vE (l:List bG):List bG:=l.foldl Mf []
def EQ (name:bG) (L:List Dp) (d:De):List Dp:=if (iF Dp.number L d.number).isSome=true∨d.carrier≠name then L else L++[cG d 0 (decide (d.house=eS))]
def uS (name:bG) (l:List De):List Dp:=l.foldl (EQ name) []
def LP (s:Su) (name:bG):Cr:=⟨name,vE s.parties,uS name s.deals,⟨name,[]⟩,[],[]⟩
def zR (s:Su) (name:bG):Cs:=⟨s.deals.map fun _=>0,s.deals.map fun d=>decide (d.house=eS),⟨name,[]⟩,[],[]⟩
theorem C7 {l:List bG}{p:bG}:iS l p=true↔p∈l:=by
 unfold iS;rw[List.any_eq_true];constructor
 ·rintro ⟨x,hx,e⟩;rw[decide_eq_true_eq]at e;exact e ▸ hx
 ·exact fun h=>⟨p,h,aH rfl⟩
theorem Kv {L:List bG}{p q:bG}:q∈Mf L p↔q∈L∨q=p:=by
 unfold Mf;by_cases h:iS L p=true
 ·rw[aF h];exact⟨.inl,fun k=>k.elim id fun e=>e ▸ C7.1 h⟩
 ·rw[aE h,List.mem_append,List.mem_singleton]
theorem Dt:∀(l L:List bG) (q:bG),q∈l.foldl Mf L↔q∈L∨q∈l
 |[],L,q=>by simp
 |p :: l,L,q=>by
  rw[List.foldl_cons,Dt l,Kv,List.mem_cons];constructor
  ·rintro ((a|a)|a)
   ·exact .inl a
   ·exact .inr (.inl a)
   ·exact .inr (.inr a)
  ·rintro (a|a|a)
   ·exact .inl (.inl a)
   ·exact .inl (.inr a)
   ·exact .inr a
theorem Oo (l:List bG) (p:bG):iS (vE l) p=iS l p:=by
 rw[Bool.eq_iff_iff,C7,C7];exact(Dt l [] p).trans (by simp)
def Np (name n:bG) (d:De):Bool:=decide (d.carrier=name) && decide (d.number=n)
structure Er (name:bG) (pre:List De) (L:List Dp):Prop where
 nd:(L.map Dp.number).Nodup
 lk:∀n,iF Dp.number L n=(pre.find? (Np name n)).map fun d=>cG d 0 (decide (d.house=eS))
theorem Er.step {name:bG}{pre:List De}{L:List Dp}(h:Er name pre L) (d:De):Er name (pre++[d]) (EQ name L d):=by
 unfold EQ;by_cases hc:(iF Dp.number L d.number).isSome=true∨d.carrier≠name
 ·rw[aF hc];refine⟨h.nd,fun n=>?_⟩;rw[h.lk n,List.find?_append];cases hf:pre.find? (Np name n) with
  |some e=>rfl
  |none=>
   have hn:Np name n d=false:=by
    unfold Np;rcases hc with hc|hc
    ·by_cases e:d.number=n
     ·rw[e,h.lk n,hf]at hc;cases hc
     ·rw[aG e,Bool.and_false]
    ·rw[aG hc,Bool.false_and]
   rw[List.find?_cons_of_neg (by rw[hn];decide)];rfl
 ·rw[aE hc];have h1:iF Dp.number L d.number=none:=by
   cases hl:iF Dp.number L d.number with
   |none=>rfl
   |some y=>exact absurd (.inl (by rw[hl];rfl)) hc
  have h2:d.carrier=name:=Decidable.not_not.1 fun e=>hc (.inr e)
  refine⟨?_,fun n=>?_⟩
  ·rw[List.map_append,List.nodup_append];refine⟨h.nd,by simp,fun a ha b' hb e=>?_⟩;subst e;obtain⟨y,hy,hya⟩:=aX.1 ha;have hb:a=d.number:=by
    obtain rfl:=List.mem_singleton.1 hb;rfl
   exact nC h1 hy (hya.trans hb)
  ·rw[xL,h.lk n,List.find?_append];cases hf:pre.find? (Np name n) with
   |some e=>rfl
   |none=>
    by_cases e:d.number=n
    ·have hi:Np name n d=true:=by unfold Np;rw[aH h2,aH e];rfl
     rw[List.find?_cons_of_pos hi];unfold iF;rw[List.find?_cons_of_pos (p:=fun b:Dp=>decide (b.number=n)) (show decide ((cG d 0 (decide (d.house=eS))).number=n)=true from aH e)];rfl
    ·have hi:¬Np name n d=true:=by unfold Np;rw[aG e,Bool.and_false];decide
     rw[List.find?_cons_of_neg hi];unfold iF;rw[List.find?_cons_of_neg (p:=fun b:Dp=>decide (b.number=n)) (show ¬decide ((cG d 0 (decide (d.house=eS))).number=n)=true by rw[decide_eq_true_eq];exact e)];rfl
theorem Hu (name:bG):∀(l pre:List De) (L:List Dp),Er name pre L→Er name (pre++l) (l.foldl (EQ name) L)
 |[],pre,L,h=>by rw[List.append_nil];exact h
 |d :: l,pre,L,h=>by
  rw[List.foldl_cons,show pre++d :: l=pre++[d]++l by simp];exact Hu name l _ _ (h.step d)
theorem fN.new (s:Su) (name:bG):fN s (LP s name) (zR s name):=by
 have h:=Hu name s.deals [] [] ⟨.nil,fun n=>rfl⟩;rw[List.nil_append]at h;have hfi:∀n,s.deals.find? (Np name n)=(cX s name n).bind fun i=>s.deals[i]?:=fun n=>by
  unfold cX;rw[List.find?_eq_bind_findIdx?_getElem?];rfl
 refine⟨fun p=>Oo _ _,h.nd,aJ ..,aJ ..,fun n hn=>?_,fun n i d st fr hi hd hs hf=>?_,rfl,⟨0,BP 0 name⟩,.nil,rfl⟩
 ·have hn:cX s name n=none:=hn;show iF Dp.number (uS name s.deals) n=none;rw[show iF Dp.number (uS name s.deals) n=_ from h.lk n,hfi,hn];rfl
 ·have hi:cX s name n=some i:=hi;show iF Dp.number (uS name s.deals) n=_;rw[show iF Dp.number (uS name s.deals) n=_ from h.lk n,hfi,hi];show (s.deals[i]?).map _=_;rw[hd];have hs:(s.deals.map fun _=>(0:Int))[i]?=some st:=hs;have hf:(s.deals.map fun d=>decide (d.house=eS))[i]?=some fr:=hf;rw[aD,hd]at hs hf;cases hs;cases hf;rfl
theorem eZ.new (T:Int) (s:Su) (name:bG):eZ T s name (zR s name):=by
 have h0:∀(i:Nat) (st:Int),(zR s name).S[i]?=some st→st=0:=fun i st h=>by
  have h:(s.deals.map fun _=>(0:Int))[i]?=some st:=h;rw[aD]at h;cases hd:s.deals[i]? with
  |none=>rw[hd]at h;cases h
  |some d=>rw[hd]at h;cases h;rfl
 refine⟨fun i st h=>by rw[h0 i st h];decide,fun i d st h hn=>absurd (h0 i st h.2) hn,fun i d st h hn=>absurd (h0 i st h.2) hn,fun i j d e st su h _ _ hn=>absurd (h0 i st h.2) hn,fun y hy=>(by cases hy),fun i d st h hn=>?_,fun y hy=>(by cases hy),fun g hg=>(by cases hg),.nil,⟨0,BP 0 name⟩⟩;rw[h0 i st h.2]at hn;exact absurd hn (by decide)
def kR:Go.Shelf.Ren:=⟨fun|7=>59|10=>92|n=>n,fun|0=>0|3=>128|4=>4|23=>116|26=>9|27=>156|28=>157|33=>192|n=>n,fun|n=>n⟩
theorem ZB:Go.Proofs.SlLaysZ.n7 Tryz.prog kR:={
 mixed:=by kernel_rfl
 f7 := ⟨"maps.Keys[map[string]*supercargo/carrier.deal,string,*supercargo/carrier.deal]", by kernel_rfl, Tryz.func59.trans (congrArg some (by kernel_rfl))⟩
 f10 := ⟨"maps.Keys[map[string]*supercargo/carrier.deal,string,*supercargo/carrier.deal]$1", by kernel_rfl, Tryz.func92.trans (congrArg some (by kernel_rfl))⟩
 t0:=Tryz.underlying0
 a0:=Tryz.isAgg0
 z0:=Tryz.sizeOf0
 v0:=Tryz.zeroValue0
 t4:=Tryz.underlying4
 a4:=Tryz.isAgg4
 z4:=Tryz.sizeOf4
 v4:=Tryz.zeroValue4
 t23:=Tryz.underlying116
 a23:=Tryz.isAgg116
 z23:=Tryz.sizeOf116
 v23:=Tryz.zeroValue116
 t26:=Tryz.underlying9
 a26:=Tryz.isAgg9
 z26:=Tryz.sizeOf9
 v26:=Tryz.zeroValue9
 t27:=Tryz.underlying156
 a27:=Tryz.isAgg156
 z27:=Tryz.sizeOf156
 v27:=Tryz.zeroValue156
 t28:=Tryz.underlying157
 a28:=Tryz.isAgg157
 z28:=Tryz.sizeOf157
 v28:=Tryz.zeroValue157
 t33:=Tryz.underlying192
 a33:=Tryz.isAgg192
 z33:=Tryz.sizeOf192
 v33:=Tryz.zeroValue192 }
def Zd:Go.Shelf.Ren:=⟨fun|7=>72|10=>103|n=>n,fun|0=>0|3=>39|4=>4|23=>172|26=>9|27=>156|28=>157|33=>192|n=>n,fun|n=>n⟩
theorem ZC:Go.Proofs.SlLaysZ.n7 Tryz.prog Zd:={
 mixed:=by kernel_rfl
 f7 := ⟨"maps.Keys[map[string][]supercargo/api.Hand,string,[]supercargo/api.Hand]", by kernel_rfl, Tryz.func72.trans (congrArg some (by kernel_rfl))⟩
 f10 := ⟨"maps.Keys[map[string][]supercargo/api.Hand,string,[]supercargo/api.Hand]$1", by kernel_rfl, Tryz.func103.trans (congrArg some (by kernel_rfl))⟩
 t0:=Tryz.underlying0
 a0:=Tryz.isAgg0
 z0:=Tryz.sizeOf0
 v0:=Tryz.zeroValue0
 t4:=Tryz.underlying4
 a4:=Tryz.isAgg4
 z4:=Tryz.sizeOf4
 v4:=Tryz.zeroValue4
 t23:=Tryz.underlying172
 a23:=Tryz.isAgg172
 z23:=Tryz.sizeOf172
 v23:=Tryz.zeroValue172
 t26:=Tryz.underlying9
 a26:=Tryz.isAgg9
 z26:=Tryz.sizeOf9
 v26:=Tryz.zeroValue9
 t27:=Tryz.underlying156
 a27:=Tryz.isAgg156
 z27:=Tryz.sizeOf156
 v27:=Tryz.zeroValue156
 t28:=Tryz.underlying157
 a28:=Tryz.isAgg157
 z28:=Tryz.sizeOf157
 v28:=Tryz.zeroValue157
 t33:=Tryz.underlying192
 a33:=Tryz.isAgg192
 z33:=Tryz.sizeOf192
 v33:=Tryz.zeroValue192 }
end Go.Proofs.YtigdiekbiphhmaaGreatDoor
namespace Go.Proofs.YtigdiekbiphhmaaGreatDoor
open Go.RowKit Go.Shelf Go.Maps
set_option maxHeartbeats 2000000
set_option maxRecDepth 100000
end Go.Proofs.YtigdiekbiphhmaaGreatDoor
namespace Go.Proofs.YtigdiekbiphhmaaGreatDoor
open Go.RowKit
set_option maxHeartbeats 2000000
set_option maxRecDepth 100000
theorem Fm (P:bH):bN P UQ (iE (fun _=>True) bR):=by
 intro args H K hc;obtain⟨s,rfl,rfl,_,hK⟩:=hc;refine⟨cN,?_⟩;dsimp only at hK⊢;cbv;repeat'((first|refine .mk (fun h=>?_) fun h=>?_|refine .k fun z hz=>?_|fail)<;>cbv)
 ·exact XJ.mk ⟨_,Gh.refl _,.inl (.v9 (cD hK (by(rw[fQ bS]))))⟩
 ·exact XJ.mk ⟨_,Gh.refl _,.inl (.v9 (cD hK (by(rw[fQ bS]))))⟩
 obtain⟨n,hn⟩:∃n,n=s.size:=⟨_,rfl⟩
 refine bV [] (fun p:{ k:Nat // k≤s.size∧jM s k }=>[(15,.i (nI p.1))]) (fun _=>[]) (fun p=>fK n p.1) ⟨0,aI _,kI s⟩ ?_;rintro ⟨k,hk,hf⟩;dsimp only;rcases aL k s.size with hks|hks
 rotate_left
 ·obtain rfl:n=k:=by omega
  rw[hn]at hf;cbv;repeat'((first|refine .n fun h=>?_|fail)<;>cbv)
  exact XJ.mk ⟨_,Gh.refl _,.inl (.v9 (cD hK (by(rw[oS hf bS bS]))))⟩
 cbv;repeat'((first|refine .y fun h=>?_|fail)<;>cbv)
 refine dE hks fun z hz=>?_
 have hch:=HD (c:=s[k]) hz;unfold kZ iR at hch;cbv;repeat'((first|refine .n fun h=>?_|refine .y fun h=>?_|refine .mk (fun h=>?_) fun h=>?_|refine .k fun z hz=>?_|fail)<;>cbv)
 all_goals first
  |(obtain rfl:z=nI (k+1):=bS
    exact bL ⟨k+1,hks,fC hks hf (by rw[hch];simp;omega)⟩ (bM (by omega)))
  |exact XJ.mk ⟨_,Gh.refl _,.inl (.v9 (cD hK (by(rw[qZ hks (by rw[hch];simp;omega)]))))⟩
def rZ (l:List bG):Bool:=l.all bR
def xW:dN:=spec (fun _:List bG=>[.hd 0]) (fun l=>[.row 9 1 (bI .str l)]) (fun l=>l.length≤8) (fun l=>.bl (rZ l)) fun l=>[.row 9 1 (bI .str l)]
theorem KK {l:List bG}{k:Nat}{x:bG}(hx:l[k]?=some x) (h:bR x=false):rZ l=false:=by
 unfold rZ;rw[List.all_eq_false];exact⟨x,aC hx,by rw[h];decide⟩
theorem LT {l:List bG}(h:∀j x,j < l.length→l[j]?=some x→bR x=true):rZ l=true:=by
 unfold rZ;rw[aT];intro x hx;obtain⟨j,hj⟩:=aV hx;exact h j x (aA.1 hj).1 hj
theorem Eh (P:bH) (hn:bJ P 104 (iE (fun _=>True) bR)):bN P XE xW:=by
 intro args H K hc;obtain⟨l,rfl,rfl,hp,hK⟩:=hc;refine⟨cN,?_⟩;dsimp only at hp hK⊢;obtain⟨q,hq⟩:∃q,q=rZ l:=⟨_,rfl⟩
 rw[←hq]at hK;obtain⟨n,hnl⟩:∃n:Nat,n=l.length:=⟨_,rfl⟩
 cbv;repeat'((first|refine .k fun z hz=>?_|fail)<;>cbv)
 refine bV [] (fun p:{ k:Nat // k≤l.length∧∀j x,j < k→l[j]?=some x→bR x=true }=>[(7,.i (nI p.1))]) (fun _=>[.row 9 1 (bI .str l)]) (fun p=>fK 8 p.1) ⟨0,aI _,fun j x h=>absurd h (Nat.not_lt_zero j)⟩ ?_;rintro ⟨k,hk,hf⟩;dsimp only at hk hf⊢;rcases aL k l.length with hks|hks
 rotate_left
 ·obtain rfl:k=n:=by omega
  rw[hnl]at hf;cbv;repeat'((first|refine .n fun h=>?_|fail)<;>cbv)
  (refine .q9 ?_;cbv;exact .inl (.f9 (cD hK (by rw[hq,LT hf]))))
 obtain⟨x,hx⟩:=cM hks;cbv;repeat'((first|refine .e ?_|refine .y fun h=>?_|fail)<;>cbv)
 obtain⟨b,hb⟩:∃b,b=bR x:=⟨_,rfl⟩
 (refine XG hn x trivial ?_;try dsimp only)
 rw[←hb];cases b with
 |true=>
  cbv;repeat'((first|refine .k fun z hz=>?_|fail)<;>cbv)
  obtain rfl:z=nI (k+1):=bS;exact bL ⟨k+1,hks,fun j y hj hy=>(by
     rcases aL j k with h1|h1
     ·exact hf j y h1 hy
     ·obtain rfl:j=k:=by omega
      rw[hx]at hy;cases hy;exact hb.symm)⟩ (bM (by omega))
 |false=>
  cbv
  (refine .q9 ?_;cbv;exact .inl (.f9 (cD hK (by rw[hq,KK hx hb.symm]))))
def vT:dN:=spec (fun d:Int=>[.i d]) (fun _=>[]) (fun _=>True) (fun d=>.bl (eN d)) fun _=>[]
theorem J3 (P:bH):bN P Xb vT:=by
 intro args H K hc;obtain⟨d,rfl,rfl,hp,hK⟩:=hc;refine⟨cN,?_⟩;dsimp only at hp hK⊢;have hd:eN d=(decide (0≤d) && decide (d≤1048576)):=rfl;obtain⟨q,hq⟩:∃q,q=eN d:=⟨_,rfl⟩
 rw[←hq]at hK hd;cbv;repeat'((first|refine .mk (fun h=>?_) fun h=>?_|fail)<;>cbv)
 all_goals exact XJ.mk ⟨_,Gh.refl _,.inl (.v9 (cD hK (by(rw[hd];simp;omega))))⟩
def dC:XL→AV
 |⟨box,frm,to,place,day⟩=>.agg [.str box,.str frm,.str to,.str place,.i day]
def gE:dB→AU
 |⟨box,hist⟩=>(.str box,.hd 0,[.tip 77 5 (bI dC hist)])
def PD (L:List dB):List cH:=[.blk 174 [.ph 1],.pool 172 (bI gE L) []]
structure lD (L:List dB):Prop where
 few:L.length≤4096
 nd:(L.map dB.box).Nodup
 ne:∀b∈L,b.hist≠[]∧b.hist.length≤4096
 day:∀b∈L,∀h∈b.hist,h.day≤1048576
 sz:∀b∈L,b.box.size≤16∧∀h∈b.hist,h.to.size≤16∧h.place.size≤16
def N0 (L:List dB) (x:XL):List dB:=if rD L x=0 then L++[⟨x.box,[x]⟩] else L
def MO (L:List dB) (x:XL):List dB:=if hC L x=0 then iP dB.box L x.box (gU x) else L
def HI:dN:=spec (fun _:Unit=>[]) (fun _=>[]) (fun _=>True) (fun _=>.ptr 0 0) fun _=>PD []
theorem IH (P:bH):bN P Xk HI:=by
 intro args H K hc;obtain⟨u,rfl,rfl,hp,hK⟩:=hc;refine⟨cN,?_⟩;dsimp only at hp hK⊢;cbv
 (refine .q9 ?_;cbv;exact .inl (eU.sel [1,0] _ _ (by rfl) (by rfl) (by decide) (by rfl) cN (by rfl) (by rfl) (Le.refl _) (jS.refl _) hK))
def Gg:dN:=spec (fun i:List dB×XL=>[.ptr 0 0,.str i.2.box,.str i.2.to,.str i.2.place,.i i.2.day]) (fun i=>PD i.1) (fun i=>lD i.1∧i.2.frm=eS) (fun i=>.i (rD i.1 i.2)) fun i=>PD (N0 i.1 i.2)
theorem QF (L:List dB) (x:XL):rD L x=if rZ [x.box,x.to,x.place]=false then 1 else if eN x.day=false then 3 else match kK dB.box L x.box with
  |some _=>5
  |none=>if 4096≤L.length then 7 else 0:=by
 unfold rD;have e1:(!bR x.box || !bR x.to || !bR x.place)=!rZ [x.box,x.to,x.place]:=by
  unfold rZ;simp only[List.all_cons,List.all_nil,Bool.and_true];cases bR x.box<;>cases bR x.to<;>cases bR x.place<;>rfl
 rw[e1];cases rZ [x.box,x.to,x.place] with
 |false=>rfl
 |true=>
  cases eN x.day with
  |false=>rfl
  |true=>
   simp only[Bool.not_true,aZ,if_false,reduceCtorEq];cases ha:kK dB.box L x.box with
   |none=>rw[uE ha];rfl
   |some i=>
    obtain⟨y,hy,_⟩:=dY ha;rw[XN ha hy];rfl
theorem Gz (P:bH) (hn:bJ P 74 xW) (hd:bJ P 75 vT):bN P T4 Gg:=by
 intro args H K hc;obtain⟨⟨L,box,frm,to,place,day⟩,rfl,rfl,hp,hK⟩:=hc;refine⟨cN,?_⟩;obtain⟨hok,hfrm⟩:=hp;dsimp only at hfrm;subst hfrm;obtain⟨e,he⟩:∃e,e=rD L ⟨box,eS,to,place,day⟩:=⟨_,rfl⟩
 have hM:N0 L ⟨box,eS,to,place,day⟩=if e=0 then L++[⟨box,[⟨box,eS,to,place,day⟩]⟩] else L:=by rw[he];rfl
 obtain⟨M,hMM⟩:∃M,M=N0 L ⟨box,eS,to,place,day⟩:=⟨_,rfl⟩
 dsimp only at hK;rw[←he,←hMM]at hK;rw[←hMM]at hM;rw[QF]at he;obtain⟨b1,hb1⟩:∃b,b=rZ [box,to,place]:=⟨_,rfl⟩
 obtain⟨b2,hb2⟩:∃b,b=eN day:=⟨_,rfl⟩
 dsimp only at he;rw[←hb1,←hb2]at he;obtain⟨n,hn0⟩:∃n:Nat,n=L.length:=⟨_,rfl⟩
 rw[←hn0]at he;cbv
 (refine gT hn ([box,to,place]) [2] (by simp) ?_;try dsimp only)
 rw[←hb1];cases b1 with
 |false=>
  obtain rfl:e=1:=he;obtain rfl:M=L:=hM;cbv
  (refine .q9 ?_;cbv;exact .inl (.f9 hK))
 |true=>
  cbv
  (refine XG hd day trivial ?_;try dsimp only)
  rw[←hb2];cases b2 with
  |false=>
   obtain rfl:e=3:=he;obtain rfl:M=L:=hM;cbv
   (refine .q9 ?_;cbv;exact .inl (.f9 hK))
  |true=>
   simp only[aZ,if_false,reduceCtorEq]at he;cbv;refine fR dB.box (fun _=>rfl) (fun i y hai hy hky=>?_) (fun hai=>?_)<;>dsimp only at *
   ·rw[hai]at he;obtain rfl:e=5:=he;obtain rfl:M=L:=hM;obtain⟨bx,hist⟩:=y;cbv;refine XJ.mk ⟨_,Gh.back0 1 [3] gE rfl hy,?_⟩;cbv;exact .inl (.f9 hK)
   ·rw[hai]at he;dsimp only at he;cbv;repeat'((first|refine .mk (fun h=>?_) fun h=>?_|refine .k fun z hz=>?_|fail)<;>cbv)
    ·obtain rfl:e=7:=by rw[he,aF bS]
     obtain rfl:M=L:=hM
     (refine .q9 ?_;cbv;exact .inl (.f9 hK))
    ·obtain rfl:e=0:=by rw[he,aE bS]
     rw[aF rfl]at hM;refine lE dB.box (fun _=>rfl) hai (fun es n2 hes hn2=>?_);cbv;refine cV (Gh.publish 3 rfl) ?_;cbv;refine XJ.mk ⟨_,Gh.backN2 1 [3] gE ⟨box,[⟨box,eS,to,place,day⟩]⟩ hes hn2 hM,?_⟩;cbv;exact .inl (.f9 hK)
structure sS (n:Nat) (seen:List Nat):Prop where
 nd:seen.Nodup
 lt:∀i∈seen,i < n
theorem sS.nil {n:Nat}:sS n []:=⟨.nil,fun i h=>by cases h⟩
theorem sS.snoc {n:Nat}{seen:List Nat}{i:Nat}(h:sS n seen) (hi:i < n) (hn:i∉seen):sS n (seen++[i]):=by
 refine⟨List.nodup_append.2 ⟨h.nd,List.nodup_cons.2 ⟨by simp,.nil⟩,fun a ha b hb e=>?_⟩,fun j hj=>?_⟩
 ·obtain rfl:=List.mem_singleton.1 hb;subst e;exact hn ha
 ·rcases List.mem_append.1 hj with h1|h1
  ·exact h.lt j h1
  ·obtain rfl:=List.mem_singleton.1 h1;exact hi
theorem sS.len {n:Nat}{seen:List Nat}(h:sS n seen):seen.length≤n:=by
 have:=h.nd.length_le_of_subset (l₂:=List.range n) fun i hi=>List.mem_range.2 (h.lt i hi)
 rwa [List.length_range]at this
def sZ {α:Type}(L:List α) (seen:List Nat):List α:=seen.filterMap fun i=>L[i]?
theorem GV {α:Type}{L:List α}{seen:List Nat}{i:Nat}{y:α}(hy:L[i]?=some y):sZ L (seen++[i])=sZ L seen++[y]:=by
 unfold sZ;rw[List.filterMap_append,List.filterMap_cons,hy];rfl
theorem A4 {α:Type}:∀L:List α,(List.range L.length).filterMap (fun i=>L[i]?)=L
 |[]=>rfl
 |x :: L=>by
  rw[List.length_cons,List.range_succ_eq_map,List.filterMap_cons,List.filterMap_map];have e:((fun i=>(x :: L)[i]?) ∘ Nat.succ)=fun i=>L[i]?:=by funext i;rfl
  rw[e,A4 L];rfl
theorem Jo {α:Type}{L:List α}{seen:List Nat}(h:sS L.length seen) (hall:∀i,i < L.length→i∈seen):(sZ L seen).Perm L:=by
 have hp:seen.Perm (List.range L.length):=(List.perm_ext_iff_of_nodup h.nd List.nodup_range).2 fun i=>⟨fun hi=>List.mem_range.2 (h.lt i hi),fun hi=>hall i (List.mem_range.1 hi)⟩
 have h2:=hp.filterMap fun i=>L[i]?
 rwa [A4]at h2
theorem Jp {α:Type}{key:α→bG}{L:List α}{seen:List Nat}{i:Nat}{y:α}(hn:(L.map key).Nodup) (hy:L[i]?=some y) (hni:i∉seen):kK key (sZ L seen) (key y)=none:=by
 cases hx:kK key (sZ L seen) (key y) with
 |none=>rfl
 |some j=>
  obtain⟨z,hz,hk⟩:=dY hx;have hm:=aC hz;unfold sZ at hm;obtain⟨n,hns,hnz⟩:=List.mem_filterMap.1 hm;exfalso;obtain⟨hi,rfl⟩:=aA.1 hy;obtain⟨hj,rfl⟩:=aA.1 hnz;have e:=oA (l:=L.map key) (i:=n) (j:=i) (hi:=by rw[aJ];exact hj) (hj:=by rw[aJ];exact hi) hn (by rw[List.getElem_map,List.getElem_map];exact hk);subst e;exact hni hns
theorem Dd (P:bH):bN P Ws (lR 5 72):=by
 intro args H K hc;obtain⟨xs,rfl,rfl,⟨h1,h2⟩,hK⟩:=hc;refine⟨cN,?_⟩;dsimp only at h1 h2 hK⊢;cbv;repeat'((first|refine .zl fun zs hzs hzl=>?_|refine .mk (fun h=>?_) ?_|fail)<;>cbv)
 ·subst h;exact⟨⟨_,Gh.refl _,.inl (eU.val rfl (.one (.one (.nil _))) hK)⟩⟩
 ·have hzs:zs=xs:=hzs;subst hzs;exact⟨⟨_,Gh.publish 0 rfl,.inr (.v9 hK)⟩⟩
theorem Ca (P:bH):bN P Ws (vG 77 5 72):=by
 intro args H K hc;obtain⟨xs,rfl,rfl,⟨h1,h2⟩,hK⟩:=hc;refine⟨cN,?_⟩;dsimp only at h1 h2 hK⊢;cbv;repeat'((first|refine .zl fun zs hzs hzl=>?_|refine .mk (fun h=>?_) ?_|fail)<;>cbv)
 ·subst h;exact⟨⟨_,Gh.adopt 2 77 5 rfl,.inl (eU.pre [.row 77 5 []] rfl (aI _) rfl rfl (Le.refl _) (jS.refl _) hK)⟩⟩
 ·have hzs:zs=xs:=hzs;subst hzs;exact⟨⟨_,Gh.refl _,.inl (eU.pre [.row 77 5 zs] rfl (aI _) rfl rfl (Le.refl _) (jS.refl _) hK)⟩⟩
theorem OT (L:List dB) (x:XL):hC L x=if (!rZ [x.box,x.frm,x.to,x.place] || decide (x.frm=x.to))=true then 1 else if eN x.day=false then 3 else match kK dB.box L x.box with
  |some i=>(match L[i]? with
   |some y=>vZ y.hist x
   |none=>4)
  |none=>4:=by
 unfold hC;have e1:oR x=(!rZ [x.box,x.frm,x.to,x.place] || decide (x.frm=x.to)):=by
  unfold oR rZ;simp only[List.all_cons,List.all_nil,Bool.and_true];cases bR x.box<;>cases bR x.frm<;>cases bR x.to<;>cases bR x.place<;>rfl
 rw[e1]
 split
 ·rfl
 ·cases eN x.day with
  |false=>rfl
  |true=>
   simp only[Bool.not_true,aZ,if_false,reduceCtorEq];cases ha:kK dB.box L x.box with
   |none=>rw[uE ha]
   |some i=>
    obtain⟨y,hy,_⟩:=dY ha;rw[XN ha hy];dsimp only;rw[hy]
def Hs:dN:=spec (fun i:List dB×XL=>[.ptr 0 0,dC i.2]) (fun i=>PD i.1) (fun i=>lD i.1) (fun i=>.i (hC i.1 i.2)) fun i=>PD (MO i.1 i.2)
theorem I8 (P:bH) (hn:bJ P 74 xW) (hd:bJ P 75 vT):bN P W0 Hs:=by
 intro args H K hc;obtain⟨⟨L,box,frm,to,place,day⟩,rfl,rfl,hok,hK⟩:=hc;refine⟨cN,?_⟩;dsimp only at hok;obtain⟨e,he⟩:∃e,e=hC L ⟨box,frm,to,place,day⟩:=⟨_,rfl⟩
 have hM:MO L ⟨box,frm,to,place,day⟩=if e=0 then iP dB.box L box (gU ⟨box,frm,to,place,day⟩) else L:=by rw[he];rfl
 obtain⟨M,hMM⟩:∃M,M=MO L ⟨box,frm,to,place,day⟩:=⟨_,rfl⟩
 dsimp only at hK;rw[←he,←hMM]at hK;rw[←hMM]at hM;rw[OT]at he;obtain⟨b1,hb1⟩:∃b,b=rZ [box,frm,to,place]:=⟨_,rfl⟩
 obtain⟨b2,hb2⟩:∃b,b=eN day:=⟨_,rfl⟩
 dsimp only at he;rw[←hb1,←hb2]at he;cbv
 (refine gT hn ([box,frm,to,place]) [3] (by simp) ?_;try dsimp only)
 rw[←hb1];cases b1 with
 |false=>
  obtain rfl:e=1:=he;obtain rfl:M=L:=hM;cbv
  (refine .q9 ?_;cbv;exact .inl (.f9 hK))
 |true=>
  cbv;repeat'((first|refine .mk (fun h=>?_) fun h=>?_|fail)<;>cbv)
  ·obtain rfl:e=1:=by rw[he];simp[‹frm=to›]
   obtain rfl:M=L:=hM
   (refine .q9 ?_;cbv;exact .inl (.f9 hK))
  ·have hne:¬frm=to:=by assumption
   simp only[hne,Bool.not_true,decide_false,Bool.or_self,aZ,if_false]at he
   (refine XG hd day trivial ?_;try dsimp only)
   rw[←hb2];cases b2 with
   |false=>
    obtain rfl:e=3:=he;obtain rfl:M=L:=hM;cbv
    (refine .q9 ?_;cbv;exact .inl (.f9 hK))
   |true=>
    simp only[reduceCtorEq,if_false]at he;cbv;refine fR dB.box (fun _=>rfl) (fun i y hai hy hky=>?_) (fun hai=>?_)<;>try dsimp only at *
    rotate_left
    ·rw[hai]at he;obtain rfl:e=4:=he;obtain rfl:M=L:=hM;cbv
     (refine .q9 ?_;cbv;exact .inl (.f9 hK))
    ·rw[hai]at he;dsimp only at he;rw[hy]at he;dsimp only at he;have hyok:=hok.ne y (aC hy);have hup:=nE hok.nd (s:=box) (gU ⟨box,frm,to,place,day⟩) hai hy;obtain⟨bx,hist⟩:=y;obtain⟨hne1,hlen⟩:=hyok;dsimp only at hne1 hlen he hky;subst hky;obtain⟨m,hm⟩:∃m:Nat,hist.length=m+1:=⟨hist.length - 1,by have:=List.length_pos_iff.2 hne1;omega⟩
     obtain⟨l,hl⟩:=cM (L:=hist) (i:=m) (by omega);have hgl:hist.getLast?=some l:=by rw[List.getLast?_eq_getElem?,hm];exact hl
     unfold vZ at he;rw[hgl]at he;obtain⟨lbox,lfrm,lto,lplace,lday⟩:=l;dsimp only at he;have hM2:e=0→M=L.set i ⟨bx,hist++[⟨bx,frm,to,place,day⟩]⟩:=fun h=>by rw[hM,aF h,hup];rfl
     clear hup;cbv;repeat'((first|refine .k fun z hz=>?_|fail)<;>cbv)
     obtain rfl:z=nI m:=bS;cbv;repeat'((first|refine .e ?_|refine .mk (fun h=>?_) fun h=>?_|refine .k fun z hz=>?_|refine .zl fun zs hzs hzl=>?_|fail)<;>cbv)
     ·obtain rfl:e=6:=by rw[he,aE (fun h=>h (by assumption)),aF (by assumption)]
      obtain rfl:M=L:=hM
      (refine .r9 (Gh.back0 1 [4] gE rfl hy) ?_;cbv;exact .inl (.f9 hK))
     ·obtain rfl:e=7:=by rw[he,aE (fun h=>h (by assumption)),aE (by omega),aF bS]
      obtain rfl:M=L:=hM
      (refine .r9 (Gh.back0 1 [4] gE rfl hy) ?_;cbv;exact .inl (.f9 hK))
     ·obtain rfl:e=0:=by rw[he,aE (fun h=>h (by assumption)),aE (by omega),aE bS]
      have hM3:=hM2 rfl;obtain rfl:zs=bI dC (hist++[⟨bx,frm,to,place,day⟩]):=by(rw[cB,cE];exact hzs)
      refine LS dB.box (fun _=>rfl) hai ?_;cbv;rw[hM3]at hK;refine XJ.mk ⟨_,Gh.back 1 [4] gE ⟨bx,hist++[⟨bx,frm,to,place,day⟩]⟩ rfl hy,?_⟩;cbv;exact .inl (.f9 hK)
     ·obtain rfl:e=8:=by rw[he,aF (by assumption)]
      obtain rfl:M=L:=hM
      (refine .r9 (Gh.back0 1 [4] gE rfl hy) ?_;cbv;exact .inl (.f9 hK))
def C5:dN:=pA (fun _:List dB=>[.ptr 0 0]) PD lD (fun L L'=>L'.Perm L) (fun _ _=>.ptr 2 0) fun L L'=>PD L++[.blk 174 [.ph 3],.pool 172 (bI gE L') []]
theorem F8 (P:bH) (hnew:bJ P 51 HI) (hcl:bJ P 52 (vG 77 5 72)):bN P Xe C5:=by
 intro args H K hc;obtain⟨L,rfl,rfl,hp,hK⟩:=hc;refine⟨cN,?_⟩;dsimp only at hp hK⊢;have hnd:=hp.nd;cbv
 (refine xK hnew () trivial ?_;try dsimp only)
 cbv;repeat'((first|refine .k fun z hz=>?_|fail)<;>cbv)
 obtain⟨n,hn⟩:∃n:Nat,n=L.length:=⟨_,rfl⟩
 obtain rfl:z=nI n:=bS;refine bV [] (fun q:{ q:List Nat×Nat // sS L.length q.1∧q.2=q.1.length }=>[]) (fun q=>[.blk 174 [.ph 1],.pool 172 (bI gE L) [],.blk 174 [.ph 3],.pool 172 (bI gE (sZ L q.1.1)) [],.iter (.ph 1) n q.1.1]) (fun q=>fK 4097 q.1.2) ⟨([],0),.nil,rfl⟩ ?_;rintro ⟨⟨seen,k⟩,hse,hk⟩;dsimp only at hse hk⊢;have hsl:=hse.len;have hfew:=hp.few;obtain⟨L1,hL1⟩:∃l,l=sZ L seen:=⟨_,rfl⟩
 rw[←hL1];cbv;refine Cx hn (fun i y hy hni=>?_) (fun hall=>?_)<;>try dsimp only at *
 ·have hlen:=(hp.ne y (aC hy)).2;have hse2:=hse.snoc (aA.1 hy).1 hni;have hnew1:=Jp hnd hy hni;have hsn:=GV (seen:=seen) hy;obtain⟨s2,hs2⟩:∃s,s=seen++[i]:=⟨_,rfl⟩
  rw[←hs2]at hse2 hsn⊢;rw[←hL1]at hnew1 hsn;have hlt:k < 4097:=by omega
  have hsk:s2.length=k+1:=by rw[hs2,hk];simp
  obtain⟨bx,hist⟩:=y;dsimp only at hnew1 hsn hlen;cbv;refine Aj hs2 hn hy ?_;cbv
  (refine xK hcl _ ⟨by rw[bY];unfold maxLen;omega,by rw[bY];omega⟩ ?_;try dsimp only)
  cbv;refine lE dB.box (fun _=>rfl) hnew1 (fun es n2 hes hn2=>?_);cbv;refine dV (Gh.publish 6 rfl) ?_;cbv;refine dV (Gh.back0 1 [5] gE rfl hy) ?_;cbv;refine dV (Gh.backN2 3 [6] gE ⟨bx,hist⟩ hes hn2 hsn) ?_;cbv;exact bL ⟨(s2,k+1),hse2,hsk.symm⟩ (bM hlt)
 ·have hperm:L1.Perm L:=by rw[hL1];exact Jo hse ‹∀i,i < L.length→i∈seen›
  cbv
  (refine .q9 ?_;cbv;exact .inl (.f9 (hK L1 hperm)))
theorem K9 {s x:bG}(h:Op.bytesLess s.toList x.toList=true∨s=x):lC x s=false:=by
 rw[EM]at h;rcases h with h|rfl
 ·exact aG (fun h2=>List.lt_irrefl _ (List.lt_trans (of_decide_eq_true h) h2))
 ·exact aG (List.lt_irrefl _)
theorem H5 {s x:bG}(h:¬(Op.bytesLess s.toList x.toList=true∨s=x)):lC x s=true:=by
 rw[EM,not_or]at h;cases hx:lC x s with
 |true=>rfl
 |false=>
  exfalso;have h1:=zB hx;have h2:=zB (Bool.eq_false_iff.2 h.1);exact h.2 (by rw[←mM s,←mM x];exact congrArg Ns (List.le_antisymm h1 h2))
def Hp:dN:=spec (fun i:List XL×bG=>[.sl 5 (bI dC i.1),.str i.2]) (fun _=>[]) (fun i=>i.1.length≤100000) (fun i=>.sl 5 (bI dC (fH i.1 i.2))) fun _=>[]
theorem Hh (H:List XL) (s:bG):(fH H s).length≤H.length:=List.length_filter_le _ _
theorem FX (P:bH):bN P W1 Hp:=by
 intro args H K hc;obtain⟨⟨H,s⟩,rfl,rfl,hp,hK⟩:=hc;refine⟨cN,?_⟩;dsimp only at hp hK⊢;obtain⟨n,hn⟩:∃n:Nat,n=H.length:=⟨_,rfl⟩
 cbv;refine bV [0] (fun p:{ k:Nat // k≤H.length }=>[(5,.hd 0),(6,.i (nI p.1))]) (fun p=>[.row 77 5 (bI dC (fH (H.take p.1) s))]) (fun p=>fK n p.1) ⟨0,aI _⟩ ?_;rintro ⟨k,hk⟩;dsimp only at hk⊢;obtain⟨L1,hL1⟩:∃l,l=fH (H.take k) s:=⟨_,rfl⟩
 have hl1:L1.length≤H.length:=by rw[hL1];exact Nat.le_trans (Hh _ _) (by rw[aS];omega)
 rw[←hL1];rcases aL k H.length with hks|hks
 rotate_left
 ·obtain rfl:k=n:=by omega
  have hL:L1=fH H s:=by rw[hL1,bC (by omega)]
  rw[←hL]at hK;cbv;repeat'((first|refine .n fun h=>?_|refine .k fun z hz=>?_|fail)<;>cbv)
  (refine .r9 (Gh.plain 0 rfl) ?_;cbv;exact .inl (.g9 hK))
 obtain⟨x,hx⟩:=cM hks;have hsn:=kC (H.take k) x s;rw[←dX hx,←hL1]at hsn;obtain⟨box,frm,to,place,day⟩:=x;dsimp only at hsn;cbv;repeat'((first|refine .e ?_|refine .y fun h=>?_|refine .mk (fun h=>?_) fun h=>?_|refine .k fun z hz=>?_|refine .zl fun zs hzs hzl=>?_|fail)<;>cbv)
 ·rw[aF (by assumption)]at hsn;obtain rfl:z=nI (k+1):=bS;obtain rfl:zs=bI dC (fH (H.take (k+1)) s):=by(rw[hsn,cB,cE];exact hzs)
  exact bL ⟨k+1,hks⟩ (bM (by omega))
 ·rw[aE (by assumption),List.append_nil]at hsn;obtain rfl:z=nI (k+1):=bS;rw[←hsn];exact bL ⟨k+1,hks⟩ (bM (by omega))
def Mb:dN:=spec (fun i:List bG×bG=>[.sl 1 (bI .str i.1),.str i.2]) (fun _=>[]) (fun i=>i.1.length≤100000) (fun i=>.sl 1 (bI .str (tQ i.1 i.2))) fun _=>[]
structure Uv (l:List bG) (s:bG) (q:List bG) (p:Nat×Bool×List bG):Prop where
 le:p.1≤l.length
 eq:p.2.2++mH s p.2.1 (l.drop p.1)=q
 len:p.2.2.length≤p.1+bif p.2.1 then 1 else 0
theorem FO (P:bH):bN P Xt Mb:=by
 intro args H K hc;obtain⟨⟨l,s⟩,rfl,rfl,hp,hK⟩:=hc;refine⟨cN,?_⟩;dsimp only at hp hK⊢;obtain⟨n,hn⟩:∃n:Nat,n=l.length:=⟨_,rfl⟩
 obtain⟨q,hq⟩:∃q,q=tQ l s:=⟨_,rfl⟩
 rw[←hq]at hK;cbv;refine bV [0] (fun p:{ p:Nat×Bool×List bG // Uv l s q p }=>[(5,.hd 0),(6,.bl p.1.2.1),(7,.i (nI p.1.1))]) (fun p=>[.row 9 1 (bI .str p.1.2.2)]) (fun p=>fK n p.1.1) ⟨(0,false,[]),⟨aI _,by rw[hq];rfl,aI _⟩⟩ ?_;rintro ⟨⟨k,d,out⟩,⟨hk,ho,hol⟩⟩;dsimp only at hk ho hol⊢;rcases aL k l.length with hks|hks
 rotate_left
 ·obtain rfl:k=n:=by omega
  rw[List.drop_of_length_le (by omega)]at ho;have hol2:out.length≤k+1:=by cases d;exact Nat.le_succ_of_le hol;exact hol
  cases d with
  |true=>
   obtain rfl:out=q:=by rw[←ho];exact(List.append_nil _).symm
   cbv;repeat'((first|refine .n fun h=>?_|refine .k fun z hz=>?_|fail)<;>cbv)
   (refine .r9 (Gh.plain 0 rfl) ?_;cbv;exact .inl (.g9 hK))
  |false=>
   cbv;repeat'((first|refine .n fun h=>?_|refine .k fun z hz=>?_|refine .zl fun zs hzs hzl=>?_|fail)<;>cbv)
   obtain rfl:zs=bI .str q:=by(rw[←ho];show zs=bI AV.str (out++[s]);rw[cB,cE];exact hzs)
   (refine .r9 (Gh.plain 0 rfl) ?_;cbv;exact .inl (.g9 hK))
 obtain⟨x,hx⟩:=cM hks;have hdr:l.drop k=x :: l.drop (k+1):=by
  obtain⟨h1,rfl⟩:=aA.1 hx;exact List.drop_eq_getElem_cons h1
 rw[hdr]at ho;unfold mH at ho;cases d with
 |true=>
  have hol:out.length≤k+1:=hol;simp only[Bool.not_true,Bool.false_and,aZ,if_false,List.nil_append,Bool.true_or]at ho;cbv;repeat'((first|refine .e ?_|refine .y fun h=>?_|refine .mk (fun h=>?_) fun h=>?_|refine .k fun z hz=>?_|refine .zl fun zs hzs hzl=>?_|fail)<;>cbv)
  ·rw[aF (by assumption)]at ho;obtain rfl:z=nI (k+1):=bS;exact bL ⟨(k+1,true,out),⟨hks,ho,by(show out.length≤k+1+1;omega)⟩⟩ (bM (by omega))
  ·rw[aE (by assumption)]at ho;obtain rfl:z=nI (k+1):=bS;obtain rfl:zs=bI .str (out++[x]):=by(rw[cB,cE];exact hzs)
   exact bL ⟨(k+1,true,out++[x]),⟨hks,by(show out++[x]++_=q;rw[XI];exact ho),by(show (out++[x]).length≤k+1+1;simp;omega)⟩⟩ (bM (by omega))
 |false=>
  have hol:out.length≤k:=hol;simp only[Bool.not_false,Bool.true_and,Bool.false_or]at ho;cbv;repeat'((first|refine .e ?_|refine .y fun h=>?_|refine .mk (fun h=>?_) fun h=>?_|refine .k fun z hz=>?_|refine .zl fun zs hzs hzl=>?_|fail)<;>cbv)
  ·rw[K9 (by assumption),aF (by rfl),aF (by assumption)]at ho;obtain rfl:z=nI (k+1):=bS;obtain rfl:zs=bI .str (out++[s]):=by(rw[cB,cE];exact hzs)
   exact bL ⟨(k+1,true,out++[s]),⟨hks,by(show out++[s]++_=q;rw[XI];exact ho),by(show (out++[s]).length≤k+1+1;simp;omega)⟩⟩ (bM (by omega))
  ·rw[K9 (by assumption),aF (by rfl),aE (by assumption)]at ho;obtain rfl:z=nI (k+1):=bS;obtain rfl:zs=bI .str (out++[s]++[x]):=by(rw[cB,cE,cB,cE];subst_vars;rfl)
   exact bL ⟨(k+1,true,out++[s]++[x]),⟨hks,by(show out++[s]++[x]++_=q;rw[XI,XI];exact ho),by(show (out++[s]++[x]).length≤k+1+1;simp;omega)⟩⟩ (bM (by omega))
  ·rw[H5 (by assumption),aE (by decide),aF (by assumption)]at ho;obtain rfl:z=nI (k+1):=bS;exact bL ⟨(k+1,false,out),⟨hks,ho,by(show out.length≤k+1;omega)⟩⟩ (bM (by omega))
  ·rw[H5 (by assumption),aE (by decide),aE (by assumption)]at ho;obtain rfl:z=nI (k+1):=bS;obtain rfl:zs=bI .str (out++[x]):=by(rw[cB,cE];exact hzs)
   exact bL ⟨(k+1,false,out++[x]),⟨hks,by(show out++[x]++_=q;rw[XI];exact ho),by(show (out++[x]).length≤k+1;simp;omega)⟩⟩ (bM (by omega))
def Co:dN:=spec (fun H:List XL=>[.sl 5 (bI dC H)]) (fun _=>[]) (fun H=>H.length≤100000) (fun H=>.sl 1 (bI .str (lA H))) fun _=>[]
theorem Kp (l:List bG) (s:bG):(tQ l s).length≤l.length+1:=by
 have h:∀(l:List bG) (d:Bool),(mH s d l).length≤l.length+(if d=true then 0 else 1):=by
  intro l
  induction l with
  |nil=>intro d;cases d<;>simp[mH]
  |cons x r ih=>
   intro d;unfold mH;have h1:=ih (d || !lC x s);have h2:(if x=s then ([]:List bG) else [x]).length≤1:=by split<;>simp
   rw[aM,aM,List.length_cons];cases d with
   |true=>
    simp only[Bool.not_true,Bool.false_and,aZ,if_false,List.length_nil,Bool.true_or,if_true]at h1⊢;omega
   |false=>
    cases hl:lC x s with
    |true=>rw[hl]at h1;simp at h1⊢;omega
    |false=>rw[hl]at h1;simp at h1⊢;omega
 exact h l false
theorem Gc:∀(H:List XL),(lA H).length≤H.length:=by
 have h:∀(H:List XL) (l:List bG),(H.foldl (fun l h=>tQ l h.box) l).length≤l.length+H.length:=by
  intro H
  induction H with
  |nil=>intro l;exact aN _
  |cons a H ih=>
   intro l;have h1:=ih (tQ l a.box);have h2:=Kp l a.box;rw[List.foldl_cons,List.length_cons];omega
 intro H;have:=h H [];simpa [lA]using this
theorem CJ (P:bH) (hp:bJ P 62 Mb):bN P W5 Co:=by
 intro args H0 K hc;obtain⟨H,rfl,rfl,hb,hK⟩:=hc;refine⟨cN,?_⟩;dsimp only at hb hK⊢;obtain⟨n,hn⟩:∃n:Nat,n=H.length:=⟨_,rfl⟩
 cbv;refine iI (Gh.plain 0 rfl) ?_;cbv;refine bV [] (fun p:{ k:Nat // k≤H.length }=>[(3,.sl 1 (bI .str (lA (H.take p.1)))),(4,.i (nI p.1))]) (fun p=>[]) (fun p=>fK n p.1) ⟨0,aI _⟩ ?_;rintro ⟨k,hk⟩;dsimp only at hk⊢;obtain⟨L1,hL1⟩:∃l,l=lA (H.take k):=⟨_,rfl⟩
 have hl1:L1.length≤H.length:=by rw[hL1];exact Nat.le_trans (Gc _) (by rw[aS];omega)
 rw[←hL1];rcases aL k H.length with hks|hks
 rotate_left
 ·obtain rfl:k=n:=by omega
  have hL:L1=lA H:=by rw[hL1,bC (by omega)]
  rw[←hL]at hK;cbv;repeat'((first|refine .n fun h=>?_|refine .k fun z hz=>?_|fail)<;>cbv)
  (refine .q9 ?_;cbv;exact .inl (.f9 hK))
 obtain⟨x,hx⟩:=cM hks;have hsn:lA (H.take (k+1))=tQ L1 x.box:=by
  rw[dX hx,hL1];unfold lA;rw[List.foldl_append];rfl
 obtain⟨box,frm,to,place,day⟩:=x;dsimp only at hsn;cbv;repeat'((first|refine .e ?_|refine .y fun h=>?_|refine .k fun z hz=>?_|fail)<;>cbv)
 (refine XG hp ((L1,box):List bG×bG) (by dsimp only;omega) ?_;try dsimp only)
 rw[←hsn];cbv;repeat'((first|refine .k fun z hz=>?_|fail)<;>cbv)
 obtain rfl:z=nI (k+1):=bS;exact bL ⟨k+1,hks⟩ (bM (by omega))
theorem Dc (P:bH) (hn:bJ P 204 (iE (fun s=>s.size≤maxLen) bR)):bN P T8 (iE (fun s=>s.size≤maxLen) bR):=by
 intro args H K hc;obtain⟨s,rfl,rfl,hp,hK⟩:=hc;refine⟨cN,?_⟩;dsimp only at hp hK⊢;obtain⟨b,hb⟩:∃b,b=bR s:=⟨_,rfl⟩
 rw[←hb]at hK;cbv
 (refine XG hn s hp ?_;try dsimp only)
 rw[←hb];cbv
 (refine .q9 ?_;cbv;exact .inl (.f9 hK))
theorem Ej (P:bH):bN P Vb vT:=by
 intro args H K hc;obtain⟨d,rfl,rfl,hp,hK⟩:=hc;refine⟨cN,?_⟩;dsimp only at hp hK⊢;have hd:eN d=(decide (0≤d) && decide (d≤1048576)):=rfl;obtain⟨q,hq⟩:∃q,q=eN d:=⟨_,rfl⟩
 rw[←hq]at hK hd;cbv;repeat'((first|refine .mk (fun h=>?_) fun h=>?_|fail)<;>cbv)
 all_goals exact XJ.mk ⟨_,Gh.refl _,.inl (.v9 (cD hK (by(rw[hd];simp;omega))))⟩
def AL:Ml→AV
 |⟨name,value⟩=>.agg [.str name,.str value]
def sJ:HL→AV
 |⟨kind,number,issuer,fields⟩=>.agg [.i kind,.str number,.str issuer,.sl 2 (bI AL fields)]
def dP:dK→AV
 |⟨frm,to,number,kind,ack,deal,text,party,index,day,cur,amt,docs,boxes⟩=>.agg [.str frm,.str to,.i number,.i kind,.i ack,.str deal,.str text,.str party,.i index,.i day,.str cur,.i amt,.sl 4 (bI sJ docs),.sl 1 (bI .str boxes)]
theorem kS.r {s:bG}{a b:Unit→Prop}(k:a ()):kS s s a b:=⟨fun _=>k,fun h=>absurd rfl h⟩
theorem kT.r {p:Prop}{a b:Unit→Prop}(k:a ()) (d:p:=by simp):kT p a b:=⟨fun _=>k,fun h=>absurd d h⟩
def FI:dN:=spec (fun l:List Ml=>[.sl 2 (bI AL l),.sl 2 (bI AL l)]) (fun _=>[]) (fun l=>l.length≤1000) (fun _=>.bl true) fun _=>[]
theorem GN (P:bH):bN P Vn FI:=by
 intro args H K hc;obtain⟨l,rfl,rfl,hp,hK⟩:=hc;refine⟨cN,?_⟩;dsimp only at hp hK⊢;obtain⟨n,hn⟩:∃n:Nat,n=l.length:=⟨_,rfl⟩
 cbv;repeat'((first|refine .y fun h=>?_|refine .k fun z hz=>?_|fail)<;>cbv)
 refine bV [] (fun p:{ k:Nat // k≤l.length }=>[(5,.i (nI p.1))]) (fun _=>[]) (fun p=>fK 1000 p.1) ⟨0,aI _⟩ ?_;rintro ⟨k,hk⟩;dsimp only at hk⊢;rcases aL k l.length with hks|hks
 rotate_left
 ·obtain rfl:k=n:=by omega
  cbv;repeat'((first|refine .n fun h=>?_|refine .k fun z hz=>?_|fail)<;>cbv)
  (refine .q9 ?_;cbv;exact .inl (.f9 hK))
 obtain⟨⟨name,value⟩,hx⟩:=cM hks;cbv;repeat'((first|refine kS.r ?_|refine kT.r ?_|(first|refine .e ?_|refine .y fun h=>?_|refine .k fun z hz=>?_|fail))<;>cbv)
 obtain rfl:z=nI (k+1):=bS;exact bL ⟨k+1,hks⟩ (bM (by omega))
def GR:dN:=spec (fun d:HL=>[sJ d,sJ d]) (fun _=>[]) (fun d=>d.fields.length≤1000) (fun _=>.bl true) fun _=>[]
theorem DS (P:bH) (hs:bJ P 180 FI):bN P Ve GR:=by
 intro args H K hc;obtain⟨⟨kind,number,issuer,fields⟩,rfl,rfl,hp,hK⟩:=hc;refine⟨cN,?_⟩;dsimp only at hp hK⊢;cbv;repeat'((first|refine kS.r ?_|refine kT.r ?_|(first|refine .y fun h=>?_|fail))<;>cbv)
 (refine XG hs fields hp ?_;try dsimp only)
 cbv;repeat'((first|refine kS.r ?_|refine kT.r ?_|(first|fail))<;>cbv)
 (refine .q9 ?_;cbv;exact .inl (.f9 hK))
def sP (l:dK):Prop:=l.docs.length≤1000∧l.boxes.length≤1000∧∀d∈l.docs,d.fields.length≤1000
def GB:dN:=spec (fun l:dK=>[dP l,dP l]) (fun _=>[]) sP (fun _=>.bl true) fun _=>[]
theorem FQ (P:bH) (ha:bJ P 139 GR):bN P Xv GB:=by
 intro args H K hc;obtain⟨⟨frm,to,number,kind,ack,deal,text,party,index,day,cur,amt,docs,boxes⟩,rfl,rfl,hp,hK⟩:=hc;refine⟨cN,?_⟩;dsimp only at hp hK⊢;obtain⟨h1,h2,h3⟩:=hp;dsimp only at h1 h2 h3;obtain⟨n,hn⟩:∃n:Nat,n=docs.length:=⟨_,rfl⟩
 obtain⟨m,hm⟩:∃m:Nat,m=boxes.length:=⟨_,rfl⟩
 cbv;repeat'((first|refine kS.r ?_|refine kT.r ?_|(first|refine .y fun h=>?_|refine .k fun z hz=>?_|fail))<;>cbv)
 refine bV [] (fun p:{ k:Nat // k≤docs.length }=>[(5,.i (nI p.1))]) (fun _=>[.blk 58 [.str frm,.str to,.i number,.i kind,.i ack,.str deal,.str text,.str party,.i index,.i day,.str cur,.i amt,.sl 4 (bI sJ docs),.sl 1 (bI .str boxes)],.blk 58 [.str frm,.str to,.i number,.i kind,.i ack,.str deal,.str text,.str party,.i index,.i day,.str cur,.i amt,.sl 4 (bI sJ docs),.sl 1 (bI .str boxes)]]) (fun p=>fK 1000 p.1) ⟨0,aI _⟩ ?_;rintro ⟨k,hk⟩;dsimp only at hk⊢;rcases aL k docs.length with hks|hks
 ·obtain⟨⟨dk,dn,di,df⟩,hx⟩:=cM hks;have hfl:=h3 _ (aC hx);dsimp only at hfl;cbv;repeat'((first|refine kS.r ?_|refine kT.r ?_|(first|refine .e ?_|refine .y fun h=>?_|refine .k fun z hz=>?_|fail))<;>cbv)
  (refine XG ha (⟨dk,dn,di,df⟩:HL) hfl ?_;try dsimp only)
  cbv;repeat'((first|refine kS.r ?_|refine kT.r ?_|(first|refine .k fun z hz=>?_|fail))<;>cbv)
  obtain rfl:z=nI (k+1):=bS;exact bL ⟨k+1,hks⟩ (bM (by omega))
 ·obtain rfl:k=n:=by omega
  cbv;repeat'((first|refine kS.r ?_|refine kT.r ?_|(first|refine .n fun h=>?_|refine .k fun z hz=>?_|fail))<;>cbv)
  refine bV [] (fun p:{ k:Nat // k≤boxes.length }=>[(6,.i (nI p.1))]) (fun _=>[.blk 58 [.str frm,.str to,.i number,.i kind,.i ack,.str deal,.str text,.str party,.i index,.i day,.str cur,.i amt,.sl 4 (bI sJ docs),.sl 1 (bI .str boxes)],.blk 58 [.str frm,.str to,.i number,.i kind,.i ack,.str deal,.str text,.str party,.i index,.i day,.str cur,.i amt,.sl 4 (bI sJ docs),.sl 1 (bI .str boxes)]]) (fun p=>fK 1000 p.1) ⟨0,aI _⟩ ?_;rintro ⟨j,hj⟩;dsimp only at hj⊢;rcases aL j boxes.length with hjs|hjs
  ·obtain⟨x,hx⟩:=cM hjs;cbv;repeat'((first|refine kS.r ?_|refine kT.r ?_|(first|refine .e ?_|refine .y fun h=>?_|refine .k fun z hz=>?_|fail))<;>cbv)
   obtain rfl:z=nI (j+1):=bS;exact bL ⟨j+1,hjs⟩ (bM (by omega))
  ·obtain rfl:j=m:=by omega
   cbv;repeat'((first|refine kS.r ?_|refine kT.r ?_|(first|refine .n fun h=>?_|refine .k fun z hz=>?_|fail))<;>cbv)
   (refine .q9 ?_;cbv;exact .inl (.f9 hK))
def KT:dN:=spec (fun l:List dK=>[.sl 14 (bI dP l),.sl 14 (bI dP l)]) (fun _=>[]) (fun l=>l.length≤1000∧∀x∈l,sP x) (fun _=>.bl true) fun _=>[]
theorem I6 (P:bH) (hs:bJ P 98 GB):bN P WI KT:=by
 intro args H K hc;obtain⟨l,rfl,rfl,hp,hK⟩:=hc;refine⟨cN,?_⟩;dsimp only at hp hK⊢;obtain⟨hll,hal⟩:=hp;obtain⟨n,hn⟩:∃n:Nat,n=l.length:=⟨_,rfl⟩
 cbv;repeat'((first|refine .y fun h=>?_|refine .k fun z hz=>?_|fail)<;>cbv)
 refine bV [] (fun p:{ k:Nat // k≤l.length }=>[(5,.i (nI p.1))]) (fun _=>[]) (fun p=>fK 1000 p.1) ⟨0,aI _⟩ ?_;rintro ⟨k,hk⟩;dsimp only at hk⊢;rcases aL k l.length with hks|hks
 rotate_left
 ·obtain rfl:k=n:=by omega
  cbv;repeat'((first|refine .n fun h=>?_|refine .k fun z hz=>?_|fail)<;>cbv)
  (refine .q9 ?_;cbv;exact .inl (.f9 hK))
 obtain⟨x,hx⟩:=cM hks;have hok:=hal x (aC hx);obtain⟨frm,to,number,kind,ack,deal,text,party,index,day,cur,amt,docs,boxes⟩:=x;cbv;repeat'((first|refine .e ?_|refine .y fun h=>?_|refine .k fun z hz=>?_|fail)<;>cbv)
 (refine XG hs (⟨frm,to,number,kind,ack,deal,text,party,index,day,cur,amt,docs,boxes⟩:dK) hok ?_;try dsimp only)
 cbv;repeat'((first|refine .k fun z hz=>?_|fail)<;>cbv)
 obtain rfl:z=nI (k+1):=bS;exact bL ⟨k+1,hks⟩ (bM (by omega))
theorem nA {s:bG}{k:Nat}{c:Int}{K:Int→Prop}(h:k < s.size) (hc:c=((s[k]'h).toNat:Int)) (hk:K c):xQ s (nI k) K:=dE h fun z hz=>by
 obtain rfl:c=z:=hc.trans hz.symm;exact hk
theorem En (P:bH):bN P Ua (iE (fun s=>s.size≤maxLen) bR):=by
 intro args H K hc;obtain⟨s,rfl,rfl,hp,hK⟩:=hc;refine⟨cN,?_⟩;dsimp only at hp hK⊢;unfold maxLen at hp;obtain⟨n,hn⟩:∃n,n=s.size:=⟨_,rfl⟩
 cbv;refine bV [] (fun p:{ k:Nat // k≤s.size∧jM s k }=>[(3,.i (nI p.1))]) (fun _=>[]) (fun p=>fK n p.1) ⟨0,aI _,kI s⟩ ?_;rintro ⟨k,hk,hf⟩;dsimp only at hk hf⊢;rcases aL k s.size with hks|hks
 rotate_left
 ·obtain rfl:n=k:=by omega
  rw[hn]at hf;cbv;repeat'((first|refine .n fun h=>?_|refine .mk (fun h=>?_) fun h=>?_|refine .k fun z hz=>?_|fail)<;>cbv)
  ·exact XJ.mk ⟨_,Gh.refl _,.inl (.v9 (cD hK (by(rw[oS hf bS bS]))))⟩
  ·exact XJ.mk ⟨_,Gh.refl _,.inl (.v9 (cD hK (by(rw[fQ bS]))))⟩
  ·exact XJ.mk ⟨_,Gh.refl _,.inl (.v9 (cD hK (by(rw[fQ bS]))))⟩
 obtain⟨c,hc⟩:∃c,c=((s[k]'hks).toNat:Int):=⟨_,rfl⟩
 have hch:=HD (c:=s[k]) hc;unfold kZ iR at hch;cbv;repeat'((first|refine .y fun h=>?_|refine .k fun z hz=>?_|fail)<;>cbv)
 refine nA hks hc ?_;cbv;repeat'((first|refine .mk (fun h=>?_) fun h=>?_|fail)<;>cbv)
 all_goals(try(refine nA hks hc ?_;cbv;repeat'((first|refine .mk (fun h=>?_) fun h=>?_|refine .k fun z hz=>?_|fail)<;>cbv)))
 all_goals(try(refine nA hks hc ?_;cbv;repeat'((first|refine .n fun h=>?_|refine .mk (fun h=>?_) fun h=>?_|refine .k fun z hz=>?_|fail)<;>cbv)))
 all_goals(try(refine nA hks hc ?_;cbv;repeat'((first|refine .n fun h=>?_|refine .y fun h=>?_|fail)<;>cbv)))
 all_goals(try(refine nA hks hc ?_;cbv;repeat'((first|refine .n fun h=>?_|fail)<;>cbv)))
 all_goals first
  |(obtain rfl:z=nI (k+1):=bS
    exact bL ⟨k+1,hks,fC hks hf (by rw[hch];simp;omega)⟩ (bM (by omega)))
  |exact XJ.mk ⟨_,Gh.refl _,.inl (.v9 (cD hK (by(rw[qZ hks (by rw[hch];simp;omega)]))))⟩
set_option maxHeartbeats 4000000
structure Wi where
 good:bG
 count:Int
structure Dx where
 mark:bG
 kind:Int
 lots:List Wi
structure iW where
 number:bG
 seller:bG
 buyer:bG
 carrier:bG
 issuer:bG
 house:bG
 insurer:bG
 frm:bG
 to:bG
 cur:bG
 amt:Int
 boxes:List Dx
 term:Int
 latest:Int
 expiry:Int
 tenor:Int
 duty:Int
structure Fc where
 name:bG
 bank:bG
 kind:Int
structure T0 where
 account:bG
 currency:bG
 amount:Int
structure gW where
 parties:List Fc
 deals:List iW
 funds:List T0
 rest:List Int
 holidays:List Int
def To:Wi→AV
 |⟨good,count⟩=>.agg [.str good,.i count]
def EW:Dx→AV
 |⟨mark,kind,lots⟩=>.agg [.str mark,.i kind,.sl 2 (bI To lots)]
def iJ:iW→AV
 |⟨number,seller,buyer,carrier,issuer,house,insurer,frm,to,cur,amt,boxes,term,latest,expiry,tenor,duty⟩=>.agg [.str number,.str seller,.str buyer,.str carrier,.str issuer,.str house,.str insurer,.str frm,.str to,.str cur,.i amt,.sl 3 (bI EW boxes),.i term,.i latest,.i expiry,.i tenor,.i duty]
def jQ:Fc→AV
 |⟨name,bank,kind⟩=>.agg [.str name,.str bank,.i kind]
def jT:T0→AV
 |⟨account,currency,amount⟩=>.agg [.str account,.str currency,.i amount]
def cY (z:Int):AV:=.i z
def HM:gW→AV
 |⟨parties,deals,funds,rest,holidays⟩=>.agg [.sl 3 (bI jQ parties),.sl 17 (bI iJ deals),.sl 3 (bI jT funds),.sl 1 (bI cY rest),.sl 1 (bI cY holidays)]
def iW.marks (d:iW):List bG:=d.boxes.map Dx.mark
def iW.de (d:iW):De:=⟨d.number,d.seller,d.buyer,d.carrier,d.house,d.frm,d.to,d.marks⟩
def gW.su (s:gW):Su:=⟨s.parties.map Fc.name,s.deals.map iW.de⟩
structure Fd (d:iW):Prop where
 bx:d.boxes.length≤70
 mks:∀b∈d.boxes,b.mark.size≤60
 sz:d.number.size≤300∧d.seller.size≤300∧d.buyer.size≤300∧d.carrier.size≤300∧d.house.size≤300∧d.frm.size≤300∧d.to.size≤300
structure lL (s:gW):Prop where
 pa:s.parties.length≤20
 de:s.deals.length≤8
 pn:∀p∈s.parties,p.name.size≤60
 ok:∀d∈s.deals,Fd d
def Wo (l:List Fc) (s:bG) (k:Nat):Prop:=∀j y,j < k→l[j]?=some y→¬y.name=s
theorem Rc {l:List Fc}{s:bG}(h:Wo l s l.length):iS (l.map Fc.name) s=false:=by
 unfold iS;rw[List.any_eq_false];intro x hx;obtain⟨p,hp,rfl⟩:=aX.1 hx;obtain⟨j,hj⟩:=aV hp;simpa using h j p (aA.1 hj).1 hj
theorem N4 {l:List Fc}{s:bG}{k:Nat}{y:Fc}(hy:l[k]?=some y) (h:y.name=s):iS (l.map Fc.name) s=true:=by
 unfold iS;rw[List.any_eq_true];exact⟨y.name,aX.2 ⟨y,aC hy,rfl⟩,by simpa using h⟩
def lK:dN:=spec (fun i:gW×bG=>[HM i.1,.str i.2]) (fun _=>[]) (fun i=>i.1.parties.length≤20) (fun i=>.bl (iS i.1.su.parties i.2)) fun _=>[]
theorem Ge (P:bH):bN P W7 lK:=by
 intro args H K hc;obtain⟨⟨⟨parties,deals,funds,rest,holidays⟩,s⟩,rfl,rfl,hp,hK⟩:=hc;refine⟨cN,?_⟩;dsimp only at hp hK⊢;obtain⟨q,hq⟩:∃q,q=iS (parties.map Fc.name) s:=⟨_,rfl⟩
 have hK:K (.bl (iS (parties.map Fc.name) s)) []:=hK;rw[←hq]at hK;obtain⟨n,hn⟩:∃n:Nat,n=parties.length:=⟨_,rfl⟩
 cbv;refine bV [] (fun p:{ k:Nat // k≤parties.length∧Wo parties s k }=>[(5,.i (nI p.1))]) (fun _=>[.blk 29 [.sl 3 (bI jQ parties),.sl 17 (bI iJ deals),.sl 3 (bI jT funds),.sl 1 (bI cY rest),.sl 1 (bI cY holidays)]]) (fun p=>fK n p.1) ⟨0,aI _,fun j y h=>absurd h (Nat.not_lt_zero j)⟩ ?_;rintro ⟨k,hk,hf⟩;dsimp only at hk hf⊢;rcases aL k parties.length with hks|hks
 rotate_left
 ·obtain rfl:k=n:=by omega
  rw[hn]at hf;cbv;repeat'((first|refine .n fun h=>?_|refine .k fun z hz=>?_|fail)<;>cbv)
  (refine .q9 ?_;cbv;exact .inl (.f9 (cD hK (by rw[hq,Rc hf]))))
 obtain⟨⟨pn,pb,pk⟩,hx⟩:=cM hks;cbv;repeat'((first|refine .e ?_|refine .y fun h=>?_|refine .mk (fun h=>?_) fun h=>?_|refine .k fun z hz=>?_|fail)<;>cbv)
 ·(refine .q9 ?_;cbv;exact .inl (.f9 (cD hK (by rw[hq,N4 hx (by assumption)]))))
 ·obtain rfl:z=nI (k+1):=bS;exact bL ⟨k+1,hks,fun j y hj hy=>(by
     rcases aL j k with h1|h1
     ·exact hf j y h1 hy
     ·obtain rfl:j=k:=by omega
      rw[hx]at hy;cases hy;assumption)⟩ (bM (by omega))
def TX (l:List iW) (name s:bG) (k:Nat):Prop:=∀j y,j < k→l[j]?=some y→¬(y.carrier=name∧y.number=s)
def Pv (o:Option Nat):Int:=match o with
 |some i=>Int.ofNat i
 |none=>-1
theorem MG {l:List iW}{P:List bG}{name s:bG}(h:TX l name s l.length):cX ⟨P,l.map iW.de⟩ name s=none:=by
 unfold cX;rw[List.findIdx?_eq_none_iff];intro x hx;obtain⟨d,hd,rfl⟩:=aX.1 hx;obtain⟨j,hj⟩:=aV hd;have:=h j d (aA.1 hj).1 hj;rw[not_and]at this;by_cases h1:d.carrier=name
 ·have h2:=this h1;show (decide (d.carrier=name) && decide (d.number=s))=false;rw[aG h2,Bool.and_false]
 ·show (decide (d.carrier=name) && decide (d.number=s))=false;rw[aG h1,Bool.false_and]
theorem Kd {l:List iW}{P:List bG}{name s:bG}{k:Nat}{y:iW}(h:TX l name s k) (hy:l[k]?=some y) (h1:y.carrier=name) (h2:y.number=s):cX ⟨P,l.map iW.de⟩ name s=some k:=by
 unfold cX;rw[List.findIdx?_eq_some_iff_getElem];obtain⟨hk,rfl⟩:=aA.1 hy;refine⟨by rw[aJ];exact hk,?_,fun j hj=>?_⟩
 ·rw[List.getElem_map];show (decide (l[k].carrier=name) && decide (l[k].number=s))=true;rw[aH h1,aH h2];rfl
 ·rw[List.getElem_map];have hjl:j < l.length:=by omega
  have:=h j l[j] hj (aB hjl);show ¬(decide (l[j].carrier=name) && decide (l[j].number=s))=true;simpa using this
def mJ:dN:=spec (fun i:gW×bG×bG=>[HM i.1,.str i.2.1,.str i.2.2]) (fun _=>[]) (fun i=>i.1.deals.length≤8) (fun i=>.i (Pv (cX i.1.su i.2.1 i.2.2))) fun _=>[]
theorem JR (P:bH):bN P WU mJ:=by
 intro args H K hc;obtain⟨⟨⟨parties,deals,funds,rest,holidays⟩,name,s⟩,rfl,rfl,hp,hK⟩:=hc;refine⟨cN,?_⟩;dsimp only at hp hK⊢;obtain⟨q,hq⟩:∃q,q=cX ⟨parties.map Fc.name,deals.map iW.de⟩ name s:=⟨_,rfl⟩
 have hK:K (.i (Pv (cX ⟨parties.map Fc.name,deals.map iW.de⟩ name s))) []:=hK;rw[←hq]at hK;obtain⟨n,hn⟩:∃n:Nat,n=deals.length:=⟨_,rfl⟩
 cbv;refine bV [] (fun p:{ k:Nat // k≤deals.length∧TX deals name s k }=>[(7,.i (nI p.1))]) (fun _=>[.blk 29 [.sl 3 (bI jQ parties),.sl 17 (bI iJ deals),.sl 3 (bI jT funds),.sl 1 (bI cY rest),.sl 1 (bI cY holidays)]]) (fun p=>fK n p.1) ⟨0,aI _,fun j y h=>absurd h (Nat.not_lt_zero j)⟩ ?_;rintro ⟨k,hk,hf⟩;dsimp only at hk hf⊢;rcases aL k deals.length with hks|hks
 rotate_left
 ·obtain rfl:k=n:=by omega
  rw[hn]at hf;cbv;repeat'((first|refine .n fun h=>?_|refine .k fun z hz=>?_|fail)<;>cbv)
  (refine .q9 ?_;cbv;exact .inl (.f9 (fS hK (by rw[hq,MG hf];rfl))))
 obtain⟨y,hx⟩:=cM hks;have hyes:=fun h1 h2=>Kd (P:=parties.map Fc.name) hf hx h1 h2
 have hno:¬(y.carrier=name∧y.number=s)→TX deals name s (k+1):=fun h j z hj hz=>(by
   rcases aL j k with h1|h1
   ·exact hf j z h1 hz
   ·obtain rfl:j=k:=by omega
    rw[hx]at hz;cases hz;exact h)
 obtain⟨number,seller,buyer,carrier,issuer,house,insurer,frm,to,cur,amt,boxes,term,latest,expiry,tenor,duty⟩:=y;dsimp only at hyes hno;cbv;repeat'((first|refine .e ?_|refine .y fun h=>?_|refine .mk (fun h=>?_) fun h=>?_|refine .k fun z hz=>?_|fail)<;>cbv)
 all_goals first
  |(obtain rfl:z=nI (k+1):=bS
    exact bL ⟨k+1,hks,hno (fun h=>by first|exact absurd h.1 (by assumption)|exact absurd h.2 (by assumption))⟩ (bM (by omega)))
  |(refine .q9 ?_;cbv;exact .inl (.f9 (fS hK (by rw[hq,hyes (by assumption) (by assumption)];rfl))))
def mV:dN:=spec (fun d:iW=>[iJ d]) (fun _=>[]) (fun d=>d.boxes.length≤70) (fun d=>.sl 1 (bI .str d.marks)) fun _=>[]
theorem FJ (P:bH):bN P Xp mV:=by
 intro args H K hc;obtain⟨⟨number,seller,buyer,carrier,issuer,house,insurer,frm,to,cur,amt,boxes,term,latest,expiry,tenor,duty⟩,rfl,rfl,hp,hK⟩:=hc;refine⟨cN,?_⟩;dsimp only at hp hK⊢;obtain⟨q,hq⟩:∃q,q=boxes.map Dx.mark:=⟨_,rfl⟩
 have hK:K (.sl 1 (bI .str (boxes.map Dx.mark))) []:=hK;rw[←hq]at hK;obtain⟨n,hn⟩:∃n:Nat,n=boxes.length:=⟨_,rfl⟩
 cbv;refine bV [1] (fun p:{ k:Nat // k≤boxes.length }=>[(3,.hd 1),(4,.i (nI p.1))]) (fun p=>[.blk 67 [.str number,.str seller,.str buyer,.str carrier,.str issuer,.str house,.str insurer,.str frm,.str to,.str cur,.i amt,.sl 3 (bI EW boxes),.i term,.i latest,.i expiry,.i tenor,.i duty],.row 9 1 (bI .str ((boxes.take p.1).map Dx.mark))]) (fun p=>fK n p.1) ⟨0,aI _⟩ ?_;rintro ⟨k,hk⟩;dsimp only at hk⊢;obtain⟨L1,hL1⟩:∃l,l=(boxes.take k).map Dx.mark:=⟨_,rfl⟩
 have hl1:L1.length≤boxes.length:=by rw[hL1,aJ,aS];omega
 rw[←hL1];rcases aL k boxes.length with hks|hks
 rotate_left
 ·obtain rfl:k=n:=by omega
  have hL:L1=q:=by rw[hL1,hq,bC (by omega)]
  subst hL;cbv;repeat'((first|refine .n fun h=>?_|refine .k fun z hz=>?_|fail)<;>cbv)
  (refine .r9 (Gh.plain 1 rfl) ?_;cbv;exact .inl (.g9 hK))
 obtain⟨x,hx⟩:=cM hks;have hsn:(boxes.take (k+1)).map Dx.mark=L1++[x.mark]:=by rw[dX hx,List.map_append,hL1];rfl
 obtain⟨mark,kind,lots⟩:=x;dsimp only at hsn;cbv;repeat'((first|refine .e ?_|refine .y fun h=>?_|refine .k fun z hz=>?_|refine .zl fun zs hzs hzl=>?_|fail)<;>cbv)
 obtain rfl:z=nI (k+1):=bS;obtain rfl:zs=bI .str ((boxes.take (k+1)).map Dx.mark):=by(rw[hsn,cB,cE];exact hzs)
 exact bL ⟨k+1,hks⟩ (bM (by omega))
def BX:dN:=spec (fun i:List XL×XL=>[.sl 5 (bI dC i.1),.str i.2.box,.str i.2.to,.str i.2.place,.i i.2.day]) (fun _=>[]) (fun i=>i.1.length≤100000∧i.2.box.size≤maxLen∧i.2.to.size≤maxLen∧i.2.place.size≤maxLen) (fun i=>.i (rE i.1 i.2)) fun _=>[]
theorem EB (P:bH) (hn:bJ P 181 (iE (fun s=>s.size≤maxLen) bR)) (hd:bJ P 182 vT) (ho:bJ P 41 Hp) (hb:bJ P 39 Co):bN P Ud BX:=by
 intro args H K hc;obtain⟨⟨H,box,frm,to,place,day⟩,rfl,rfl,hp,hK⟩:=hc;refine⟨cN,?_⟩;dsimp only at hp hK⊢;obtain⟨hl,hs1,hs2,hs3⟩:=hp
 try dsimp only at hl hs1 hs2 hs3
 obtain⟨e,he⟩:∃e,e=rE H ⟨box,frm,to,place,day⟩:=⟨_,rfl⟩
 rw[←he]at hK;unfold rE at he;dsimp only at he;obtain⟨b1,hb1⟩:∃b,b=bR box:=⟨_,rfl⟩
 obtain⟨b2,hb2⟩:∃b,b=bR to:=⟨_,rfl⟩
 obtain⟨b3,hb3⟩:∃b,b=bR place:=⟨_,rfl⟩
 obtain⟨b4,hb4⟩:∃b,b=eN day:=⟨_,rfl⟩
 obtain⟨O,hO⟩:∃O,O=fH H box:=⟨_,rfl⟩
 obtain⟨B,hB⟩:∃B,B=lA H:=⟨_,rfl⟩
 rw[←hb1,←hb2,←hb3,←hb4,←hO,←hB]at he;cbv
 (refine XG hn box hs1 ?_;try dsimp only)
 rw[←hb1];cases b1 with
 |false=>
  cbv
  (refine .q9 ?_;cbv;exact .inl (.f9 (fS hK (by rw[he];rfl))))
 |true=>
  cbv
  (refine XG hn to hs2 ?_;try dsimp only)
  rw[←hb2];cases b2 with
  |false=>
   cbv
   (refine .q9 ?_;cbv;exact .inl (.f9 (fS hK (by rw[he];rfl))))
  |true=>
   cbv
   (refine XG hn place hs3 ?_;try dsimp only)
   rw[←hb3];cases b3 with
   |false=>
    cbv
    (refine .q9 ?_;cbv;exact .inl (.f9 (fS hK (by rw[he];rfl))))
   |true=>
    cbv
    (refine XG hd day trivial ?_;try dsimp only)
    rw[←hb4];cases b4 with
    |false=>
     cbv
     (refine .q9 ?_;cbv;exact .inl (.f9 (fS hK (by rw[he];rfl))))
    |true=>
     cbv
     (refine XG ho ((H,box):List XL×bG) hl ?_;try dsimp only)
     rw[←hO];have he:e=if O≠[] then 5 else if 4096≤B.length then 7 else 0:=he
     cbv;repeat'((first|refine .mk (fun h=>?_) fun h=>?_|refine .k fun z hz=>?_|fail)<;>cbv)
     ·(refine .q9 ?_;cbv;exact .inl (.f9 (fS hK (by rw[he,aF (fun h2=>by subst h2;revert h hz;simp[bI];omega)]))))
     ·have hO2:O=[]:=aR bS;rw[aE (fun h2=>h2 hO2)]at he
      (refine XG hb H hl ?_;try dsimp only)
      rw[←hB];cbv;repeat'((first|refine .mk (fun h=>?_) fun h=>?_|refine .k fun z hz=>?_|fail)<;>cbv)
      ·(refine .q9 ?_;cbv;exact .inl (.f9 (fS hK (by rw[he,aF bS]))))
      ·(refine .q9 ?_;cbv;exact .inl (.f9 (fS hK (by rw[he,aE bS]))))
theorem F4 (u:Nat) (h:u < 10):Lib.decDigits u=[UInt8.ofNat (48+u)]:=by rw[Lib.decDigits,dif_pos h]
theorem FR (u:Nat) (h:¬u < 10):Lib.decDigits u=Lib.decDigits (u / 10)++[UInt8.ofNat (48+u % 10)]:=by rw[Lib.decDigits,dif_neg h]
theorem Hx:∀(k u:Nat),1≤k→u < 10 ^ k→(Lib.decDigits u).length≤k
  |0,u,h,_=>by omega
  |k+1,u,_,h=>by
   by_cases h0:u < 10
   · rw[F4 u h0];simp
   · rw[FR u h0]
     have hk:1≤k:=by
       rcases k with _|k
       · simp at h;omega
       · omega
     have:=Hx k (u / 10) hk (by rw[Nat.pow_succ]at h;omega);simp;omega
def XH (n:Int):Prop:=-4611686018427387904≤n∧n≤4611686018427387904
instance (n:Int):Decidable (XH n):=by unfold XH;infer_instance
end Go.Proofs.YtigdiekbiphhmaaGreatDoor
namespace Go.Proofs.YtigdiekbiphhmaaGreatDoor
open Go.Shelf Go.RowKit
set_option maxRecDepth 100000
def CW:Go.Shelf.Ren:=⟨fun|171=>60|243=>93|246=>131|283=>170|284=>171|285=>172|286=>173|129=>169|317=>198|318=>199|319=>200|320=>201|337=>210|338=>211|n=>n,fun|3=>3|9=>9|2=>2|4=>4|171=>261|0=>0|53=>260|37=>146|5=>5|173=>263|212=>281|51=>258|20=>20|213=>282|46=>226|232=>292|233=>293|n=>n,fun|17=>4|18=>5|19=>6|n=>n⟩
theorem M5:Go.Proofs.LaysM.n171 Tryz.prog CW:={
 mixed:=by kernel_rfl
 f129:=Tryz.func169.trans (congrArg some (by kernel_rfl))
 f171:=Tryz.func60.trans (congrArg some (by kernel_rfl))
 f243:=Tryz.func93.trans (congrArg some (by kernel_rfl))
 f246:=Tryz.func131.trans (congrArg some (by kernel_rfl))
 f283:=Tryz.func170.trans (congrArg some (by kernel_rfl))
 f284:=Tryz.func171.trans (congrArg some (by kernel_rfl))
 f285:=Tryz.func172.trans (congrArg some (by kernel_rfl))
 f286:=Tryz.func173.trans (congrArg some (by kernel_rfl))
 f317:=Tryz.func198.trans (congrArg some (by kernel_rfl))
 f318:=Tryz.func199.trans (congrArg some (by kernel_rfl))
 f319:=Tryz.func200.trans (congrArg some (by kernel_rfl))
 f320:=Tryz.func201.trans (congrArg some (by kernel_rfl))
 f337:=Tryz.func210.trans (congrArg some (by kernel_rfl))
 f338:=Tryz.func211.trans (congrArg some (by kernel_rfl))
 t0:=Tryz.underlying0
 a0:=Tryz.isAgg0
 z0:=Tryz.sizeOf0
 v0:=Tryz.zeroValue0
 t2:=Tryz.underlying2
 a2:=Tryz.isAgg2
 z2:=Tryz.sizeOf2
 v2:=Tryz.zeroValue2
 t3:=Tryz.underlying3
 a3:=Tryz.isAgg3
 z3:=Tryz.sizeOf3
 v3:=Tryz.zeroValue3
 t4:=Tryz.underlying4
 a4:=Tryz.isAgg4
 z4:=Tryz.sizeOf4
 v4:=Tryz.zeroValue4
 t5:=Tryz.underlying5
 a5:=Tryz.isAgg5
 z5:=Tryz.sizeOf5
 v5:=Tryz.zeroValue5
 t9:=Tryz.underlying9
 a9:=Tryz.isAgg9
 z9:=Tryz.sizeOf9
 v9:=Tryz.zeroValue9
 t20:=Tryz.underlying20
 a20:=Tryz.isAgg20
 z20:=Tryz.sizeOf20
 v20:=Tryz.zeroValue20
 t37:=Tryz.underlying146
 a37:=Tryz.isAgg146
 z37:=Tryz.sizeOf146
 v37:=Tryz.zeroValue146
 t46:=Tryz.underlying226
 a46:=Tryz.isAgg226
 z46:=Tryz.sizeOf226
 v46:=Tryz.zeroValue226
 t51:=Tryz.underlying258
 a51:=Tryz.isAgg258
 z51:=Tryz.sizeOf258
 v51:=Tryz.zeroValue258
 t53:=Tryz.underlying260
 a53:=Tryz.isAgg260
 z53:=Tryz.sizeOf260
 v53:=Tryz.zeroValue260
 t171:=Tryz.underlying261
 a171:=Tryz.isAgg261
 z171:=Tryz.sizeOf261
 v171:=Tryz.zeroValue261
 t173:=Tryz.underlying263
 a173:=Tryz.isAgg263
 z173:=Tryz.sizeOf263
 v173:=Tryz.zeroValue263
 t212:=Tryz.underlying281
 a212:=Tryz.isAgg281
 z212:=Tryz.sizeOf281
 v212:=Tryz.zeroValue281
 t213:=Tryz.underlying282
 a213:=Tryz.isAgg282
 z213:=Tryz.sizeOf282
 t232:=Tryz.underlying292
 a232:=Tryz.isAgg292
 z232:=Tryz.sizeOf292
 v232:=Tryz.zeroValue292
 t233:=Tryz.underlying293
 a233:=Tryz.isAgg293
 z233:=Tryz.sizeOf293
 v233:=Tryz.zeroValue293
 g17:=by kernel_rfl
 g18:=by kernel_rfl
 g19:=by kernel_rfl
 i0:=by kernel_rfl
 i2:=by kernel_rfl
 i3:=by kernel_rfl
 i4:=by kernel_rfl
 i5:=by kernel_rfl
 i9:=by kernel_rfl
 i20:=by kernel_rfl
 i37:=by kernel_rfl
 i46:=by kernel_rfl
 i51:=by kernel_rfl
 i53:=by kernel_rfl
 i171:=by kernel_rfl
 i173:=by kernel_rfl
 i212:=by kernel_rfl
 i232:=by kernel_rfl
 i233:=by kernel_rfl
 m17:=by kernel_rfl
 m18:=by kernel_rfl
 m19:=by kernel_rfl }
theorem GP (w:World) (k:Nat) (os:Array Obj):Below w.heap.size w (Sort.grow (w.drewN k) os):=
 ⟨rfl,rfl,rfl,by simp[Sort.grow,World.drewN],fun j hj=>by
  show ((w.drewN k).heap++os)[j]?=_;rw[Array.getElem?_append_left (by exact hj)];rfl⟩
theorem Ew {pub : cZ} {w : World} (h : kU pub w) : Lib.TabIs Tryz.prog w "internal/strconv.uint64pow10" .u64 Lib.pow10Tab := by
 obtain⟨t,fz,hb⟩:=h.block (g:=4) (by show 0 < 20;omega)
 have hg : Tryz.prog.globalNamed "internal/strconv.uint64pow10" = some 4 := by kernel_rfl
 unfold Lib.TabIs World.var?;rw[hg];simp only[Option.bind_some];rw[hb];rfl
def gF (n:Int):bG:=⟨(Lib.itoa n).toArray⟩
def E1 (ito:Int→bG):dN:=spec (fun n:Int=>[.i n]) (fun _=>[]) (fun n=>-9223372036854775808≤n∧n≤9223372036854775807) (fun n=>.str (ito n)) fun _=>[]
theorem KF:bJ Tryz.prog 60 (E1 gF):=QB fun n hp pub w vals hf hg hv=>by
 obtain⟨u,us',hl,h1,h2⟩:=hv.cons_inv;have h3:=h2.nil_inv;subst h3;cases h1;have h4:vals=#[.int .i64 n]:=Array.toList_inj.1 (by simpa using hl);subst h4;refine(Any.strconv_Itoa M5 n hp.1 hp.2 w (Ew hg)).mono fun e w' ⟨he,k,os,hw⟩=>?_
 subst hw;exact xT.plain he (GP w k os) hf (.str _)
set_option maxHeartbeats 4000000
theorem Sa {K:AV→List cH→Prop}{b c:bG}{H:List cH}(h:K (.str c) H) (e:b=c):K (.str b) H:=e ▸ h
def Ro (k:Nat):dN:=spec (fun n:Int=>[.i n]) (fun _=>[]) (fun n=>n.natAbs=k∧-9223372036854775808≤n∧n≤9223372036854775807) (fun n=>.str (gF n)) fun _=>[]
theorem qR {z:Int}{d:Nat}(hd:d < 10) (h:z=IntKind.u8.wrap (48+(d:Int))):pB [z]=⟨#[UInt8.ofNat (48+d)]⟩:=by
 have e:z=((48+d:Nat):Int):=by rw[h,IntKind.wrap_u8];omega
 rw[e];rfl
theorem F5 {n:Int}(h0:0≤n) (h1:n < 10) {z1 z:Int}(e1:z1=48+n) (e2:z=IntKind.u8.wrap z1):gF n=pB [z]:=by
 obtain⟨m,rfl⟩:∃m:Nat,n=m:=⟨n.toNat,by omega⟩
 rw[qR (d:=m) (by omega) (by rw[e2,e1])];unfold gF;rw[Lib.itoa_nonneg,F4 m (by omega)]
theorem Ll {n:Int}(h0:10≤n) {q r z1 z:Int}(eq:q=n.tdiv 10) (er:r=n.tmod 10) (e1:z1=48+r) (e2:z=IntKind.u8.wrap z1):gF n=gF q++pB [z]:=by
 obtain⟨m,rfl⟩:∃m:Nat,n=m:=⟨n.toNat,by omega⟩
 have er':r=((m % 10:Nat):Int):=er;have eq':q=((m / 10:Nat):Int):=eq;rw[qR (d:=m % 10) (by omega) (by rw[e2,e1,er']),eq'];unfold gF;rw[Lib.itoa_nonneg,Lib.itoa_nonneg,FR m (by omega)];apply ByteArray.ext;simp
theorem EO {n:Int}(h0:n < 0) (h1:-10 < n) {z1 z:Int}(e1:z1=48 - n) (e2:z=IntKind.u8.wrap z1):gF n=⟨⟨[45]⟩⟩++pB [z]:=by
 obtain⟨m,rfl⟩:∃m:Nat,n=-(m:Int):=⟨n.natAbs,by omega⟩
 rw[qR (d:=m) (by omega) (by rw[e2,e1];congr 1;omega)];unfold gF;rw[Lib.itoa_neg m (by omega),F4 m (by omega)];apply ByteArray.ext;simp
theorem BM {n:Int}(h0:n≤-10) {q r z1 z:Int}(eq:q=n.tdiv 10) (er:r=n.tmod 10) (e1:z1=48 - r) (e2:z=IntKind.u8.wrap z1):gF n=gF q++pB [z]:=by
 obtain⟨m,rfl⟩:∃m:Nat,n=-(m:Int):=⟨n.natAbs,by omega⟩
 have er':r=-((m % 10:Nat):Int):=by rw[er,Int.neg_tmod];rfl
 have eq':q=-((m / 10:Nat):Int):=by rw[eq,Int.neg_tdiv];rfl
 rw[qR (d:=m % 10) (by omega) (by rw[e2,e1,er'];congr 1;omega),eq'];unfold gF;rw[Lib.itoa_neg m (by omega),Lib.itoa_neg (m / 10) (by omega),FR m (by omega)];apply ByteArray.ext;simp
theorem Qk (n:Int):(n.tdiv 10).natAbs=n.natAbs / 10:=by
 rw[Int.natAbs_tdiv];rfl
theorem Jm {q:Int}(h:q.natAbs < 100000000000000000000):(gF q).size≤21:=by
 have hd:=Hx 20 q.natAbs (by omega) h;have:(gF q).size=(Lib.itoa q).length:=by simp[gF,ByteArray.size]
 rw[this];unfold Lib.itoa
 split
 ·simp only[List.length_cons];omega
 ·rw[show q.toNat=q.natAbs by omega];omega
theorem H8 (P:bH) (k:Nat) (ih:∀m,m < k→bJ P 64 (Ro m)):bN P Wx (Ro k):=by
 intro args H K hc;obtain⟨n,rfl,rfl,hp,hK⟩:=hc;refine⟨cN,?_⟩;dsimp only at hK hp⊢;have hq:=Qk n;have h1:∀z:Int,(pB [z]).size=1:=fun z=>rfl
 have z45:(ByteArray.mk (Array.mk [45])).size=1:=rfl;have qk:∀{K:Int→Prop},(∀q,q=n.tdiv 10→q.natAbs=n.natAbs / 10→K q)→Is .i64 n 10 K:=fun h=>⟨⟨by decide,IntWalk.i64_in _ (by omega)⟩,fun z hz=>h z hz (by rw[hz];exact hq)⟩
 have rk:∀{K:Int→Prop},(∀r,r=n.tmod 10→r.natAbs < 10→K r)→Iw n 10 K:=fun h=>⟨by decide,fun z hz=>h z hz (by rw[hz,Int.natAbs_tmod];exact Nat.mod_lt _ (by decide))⟩
 have small:∀q:Int,q.natAbs=n.natAbs / 10→-9223372036854775808≤q∧q≤9223372036854775807∧(gF q).size≤21:=fun q h=>⟨by omega,by omega,Jm (by omega)⟩
 cbv;repeat'((first|refine .q fun z hz hz0 hz1=>?_|refine .mk (fun h=>?_) fun h=>?_|refine .k fun z hz=>?_|refine .u fun u hu hul=>?_|refine .s fun s hs hsl=>?_|refine And.intro ?_ ?_|fail)<;>cbv)
 ·exact XJ.mk ⟨_,Gh.refl _,.inl (.v9 (Sa hK (by rw[EO (by assumption) (by assumption) (by assumption) (by assumption)];subst_vars;rfl)))⟩
 ·refine qk fun q hq1 hq2=>?_
  cbv;refine rk fun r hr1 hr2=>?_
  obtain⟨sm1,sm2,sm3⟩:=small q hq2;cbv;repeat'((first|refine .k fun z hz=>?_|refine .s fun s hs hsl=>?_|refine And.intro ?_ ?_|fail)<;>cbv)
  ·refine mP (ih q.natAbs (by omega)) q ⟨rfl,sm1,sm2⟩ rfl rfl rfl ?_;obtain⟨w,hw⟩:∃w,w=gF q:=⟨_,rfl⟩
   rw[←hw]at sm3⊢;cbv;repeat'((first|refine .u fun u hu hul=>?_|refine .s fun s hs hsl=>?_|fail)<;>cbv)
   exact XJ.mk ⟨_,Gh.refl _,.inl (.v9 (Sa hK (by rw[BM (by assumption) hq1 hr1 (by assumption) (by assumption),←hw];subst_vars;rfl)))⟩
  ·refine mP (ih q.natAbs (by omega)) q ⟨rfl,sm1,sm2⟩ rfl rfl rfl ?_;obtain⟨w,hw⟩:∃w,w=gF q:=⟨_,rfl⟩
   rw[←hw]at sm3⊢;cbv;repeat'((first|refine .u fun u hu hul=>?_|fail)<;>cbv)
   exact XJ.mk ⟨_,Gh.refl _,.inl (.v9 (Sa hK (by rw[BM (by assumption) hq1 hr1 (by assumption) (by assumption),←hw];subst_vars;rfl)))⟩
 ·exact XJ.mk ⟨_,Gh.refl _,.inl (.v9 (Sa hK (by rw[F5 (by assumption) (by assumption) (by assumption) (by assumption)];subst_vars;rfl)))⟩
 all_goals
  rename_i q hq1 _ _ r hr1 _ _;obtain⟨sm1,sm2,sm3⟩:=small q (by rw[hq1];exact hq);have hq2:q.natAbs=n.natAbs / 10:=by rw[hq1];exact hq
  refine mP (ih q.natAbs (by omega)) q ⟨rfl,sm1,sm2⟩ rfl rfl rfl ?_;obtain⟨w,hw⟩:∃w,w=gF q:=⟨_,rfl⟩
  rw[←hw]at sm3⊢;cbv;repeat'((first|refine .u fun u hu hul=>?_|refine .s fun s hs hsl=>?_|fail)<;>cbv)
  exact XJ.mk ⟨_,Gh.refl _,.inl (.v9 (Sa hK (by rw[Ll (by assumption) hq1 hr1 (by assumption) (by assumption),←hw];subst_vars;rfl)))⟩
theorem Qt {P:bH}(h:R0 P 64=some Wx):bJ P 64 (E1 gF):=by
 have key:∀k,bJ P 64 (Ro k):=fun k=>by
  induction k using Nat.strongRecOn with
  |_ k ih=>exact bK h (H8 P k ih)
 intro args H K ⟨n,h1,h2,h3,h4⟩;exact key n.natAbs args H K ⟨n,h1,h2,⟨rfl,h3⟩,h4⟩
end Go.Proofs.YtigdiekbiphhmaaGreatDoor
namespace Go.Proofs.YtigdiekbiphhmaaGreatDoor
open Go.Shelf Go.RowKit
set_option maxRecDepth 100000
def MU:Go.Shelf.Ren:=⟨fun|156=>57|165=>89|166=>56|169=>61|240=>88|241=>127|276=>126|277=>158|n=>n,fun|0=>0|3=>3|4=>4|5=>5|9=>9|20=>20|31=>56|37=>146|70=>145|72=>148|75=>150|80=>83|76=>151|127=>193|164=>221|n=>n,fun|n=>n⟩
theorem OC:Lays.n156 Tryz.prog MU:={
 mixed:=by kernel_rfl
 f156:=Tryz.func57.trans (congrArg some (by kernel_rfl))
 f165:=Tryz.func89.trans (congrArg some (by kernel_rfl))
 f166:=Tryz.func56.trans (congrArg some (by kernel_rfl))
 f169:=Tryz.func61.trans (congrArg some (by kernel_rfl))
 f240:=Tryz.func88.trans (congrArg some (by kernel_rfl))
 f241:=Tryz.func127.trans (congrArg some (by kernel_rfl))
 f276:=Tryz.func126.trans (congrArg some (by kernel_rfl))
 f277:=Tryz.func158.trans (congrArg some (by kernel_rfl))
 t0:=Tryz.underlying0
 a0:=Tryz.isAgg0
 z0:=Tryz.sizeOf0
 v0:=Tryz.zeroValue0
 t3:=Tryz.underlying3
 a3:=Tryz.isAgg3
 z3:=Tryz.sizeOf3
 v3:=Tryz.zeroValue3
 t4:=Tryz.underlying4
 a4:=Tryz.isAgg4
 z4:=Tryz.sizeOf4
 v4:=Tryz.zeroValue4
 t9:=Tryz.underlying9
 a9:=Tryz.isAgg9
 z9:=Tryz.sizeOf9
 v9:=Tryz.zeroValue9
 t20:=Tryz.underlying20
 a20:=Tryz.isAgg20
 z20:=Tryz.sizeOf20
 v20:=Tryz.zeroValue20
 t31:=Tryz.underlying56
 a31:=Tryz.isAgg56
 z31:=Tryz.sizeOf56
 v31:=Tryz.zeroValue56
 t37:=Tryz.underlying146
 a37:=Tryz.isAgg146
 z37:=Tryz.sizeOf146
 v37:=Tryz.zeroValue146
 t70:=Tryz.underlying145
 a70:=Tryz.isAgg145
 z70:=Tryz.sizeOf145
 v70:=Tryz.zeroValue145
 t72:=Tryz.underlying148
 a72:=Tryz.isAgg148
 z72:=Tryz.sizeOf148
 v72:=Tryz.zeroValue148
 t75:=Tryz.underlying150
 a75:=Tryz.isAgg150
 z75:=Tryz.sizeOf150
 v75:=Tryz.zeroValue150
 t76:=Tryz.underlying151
 a76:=Tryz.isAgg151
 z76:=Tryz.sizeOf151
 v76:=Tryz.zeroValue151
 t127:=Tryz.underlying193
 a127:=Tryz.isAgg193
 z127:=Tryz.sizeOf193
 v127:=Tryz.zeroValue193
 t164:=Tryz.underlying221
 a164:=Tryz.isAgg221
 z164:=Tryz.sizeOf221
 v164:=Tryz.zeroValue221 }
theorem U1:Builder.Extra Tryz.prog MU:={
 sizeBuilder:=by kernel_rfl
 liesBuilder:=by kernel_rfl
 t5:=Tryz.underlying5
 a5:=Tryz.isAgg5
 z5:=Tryz.sizeOf5
 v5:=Tryz.zeroValue5
 infoByte:=by kernel_rfl
 cellsByte:=by kernel_rfl
 sizeByte:=by kernel_rfl
 neB5:=by decide }
end Go.Proofs.YtigdiekbiphhmaaGreatDoor
namespace Go.Proofs.YtigdiekbiphhmaaGreatDoor
open Go.RowKit Go.Shelf
theorem Ln {P:bH}{f:Nat}{ι:Type}{a:ι→List AV}{p:ι→Prop}{r:ι→AV}
  (h:∀i,p i→∀(pub:cZ) (w:World) (vals:Array Value),bT pub w dA (a i) vals.toList→Calls P f vals w fun e w'=>Below w.heap.size w w'∧∃v,e=.returned v∧∀pub' w',bU pub' w' dA (r i) v) :
  bJ P f (spec a (fun _=>[]) p r fun _=>[]):=by
 intro args H K ⟨i,ha,hH,hp,hK⟩ w rh pub vals hm hv;subst ha;subst hH;have:=DP hm;subst this;refine(h i hp pub w vals hv).mono fun e w' ⟨hw,v,he,hr⟩=>?_
 have hfr:Fr (fun _=>False) pub w pub w':=⟨hw.os,hw.tape,hw.output,hw.size,fun b hb _=>⟨hw.block b hb,rfl⟩,fun _=>aN _,fun b i u hi hu=>by
  rw[World.cell?_of_block (w:=w) (a:=⟨b,i,none⟩) (hw.block b (World.block_lt_of_cell? w _ hu))];exact hu,fun b n _ hn=>mC (hw.block b (qP hn)) hn⟩
 exact⟨v,r i,[],dA,pub,he,hK,hr _ _,hm.frm hfr (fun _ _ _ _ _ h=>h) (fun b hb=>hm.fresh b (Nat.le_trans hw.size hb)) (fun b i hi=>by
  obtain⟨u,hu⟩:=hm.there b i hi;exact⟨u,hfr.ext.cell b i u hi hu⟩),hfr.mono (fun _ h=>h.elim),fun b hb=>.inl hb,fun _ _ h _=>h,aN _⟩
def gD (xs:List bG) (sep:bG):bG:=⟨(Lib.join (xs.map (·.data.toList)) sep.data.toList).toArray⟩
theorem N6 {P:bH}{ρ:Ren}(L:Lays.n156 P ρ) (X:Builder.Extra P ρ):bJ P (ρ.f 156) (spec (fun i:List bG×bG=>[.sl 1 (bI (fun s=>.str s) i.1),.str i.2]) (fun _=>[]) (fun i=>(gD i.1 i.2).size≤140737488355328∧i.1.length≤140737488355328) (fun i=>.str (gD i.1 i.2)) fun _=>[]):=
 Ln fun⟨xs,sep⟩ ⟨hlen,hN⟩ pub w vals hv=>by
  obtain⟨u,us,he,q1,q2⟩:=hv.cons_inv;obtain⟨us',he',q3⟩:=q2.str_inv;have q4:=q3.nil_inv;subst q4;dsimp only at *;cases q1 with
  |@sl _ _ _ A c hc hm hn hs g hr hg=>
   have hl:(bI (fun s=>AV.str s) xs).length=xs.length:=by simp[dZ]
   rw[hl]at hc he;have hvals:vals=#[.slice A xs.length c,.string sep]:=Array.toList_inj.1 (by rw[he,he']);subst hvals;have hl2:(Lib.join (xs.map (·.data.toList)) sep.data.toList).length≤140737488355328:=by
    have:(gD xs sep).size=(Lib.join (xs.map (·.data.toList)) sep.data.toList).length:=by simp[gD,ByteArray.size]
    omega
   cases A with
   |none=>
    obtain⟨h0,_⟩:=hn rfl;have h0':xs=[]:=aR (by rw[←hl,h0];rfl);subst h0';refine(Any.strings_Join_none L X none c sep w).mono fun e w' ⟨he,hw⟩=>⟨hw ▸ Below.refl _ _,_,he,fun _ _=>?_⟩
    exact .str _
   |some ad=>
    cases hx:xs with
    |nil=>
     refine(Any.strings_Join_none L X (some ad) c sep w).mono fun e w' ⟨he,hw⟩=>⟨hw ▸ Below.refl _ _,_,he,fun _ _=>?_⟩
     exact .str _
    |cons x0 r0=>
     rw[←hx];have cell:∀(j:Nat) (x:bG),xs[j]?=some x→∃b o,some ad=some ⟨b,o,none⟩∧w.cell? ⟨b,o+j,none⟩=some (.string x):=fun j x hj=>by
      have hj':(bI (fun s=>AV.str s) xs)[j]?=some (.str x):=by simp[dZ,hj]
      obtain⟨b,o,h1,_,h3⟩:=hg j _ 0 (.str x) hj' rfl;have h4:=hr j _ 0 (.str x) hj' rfl;generalize g j 0=gj at h3 h4;cases h4;exact⟨b,o,h1,by simpa using h3⟩
     obtain⟨b,o,h1,h2⟩:=cell 0 x0 (by rw[hx];rfl);cases h1;refine(Any.strings_Join L X b o c xs sep w (fun j x hj=>?_) (World.block_lt_of_cell? w _ h2) hN hc hl2).mono fun e w' ⟨he,hw⟩=>⟨hw,_,he,fun _ _=>.str _⟩
     obtain⟨b',o',h1',h2'⟩:=cell j x hj;cases h1';exact h2'
end Go.Proofs.YtigdiekbiphhmaaGreatDoor
namespace Go.Proofs.YtigdiekbiphhmaaGreatDoor
open Go.RowKit Go.Shelf
section
variable {P:bH}{ρ:Ren}
end
end Go.Proofs.YtigdiekbiphhmaaGreatDoor
namespace Go.Proofs.YtigdiekbiphhmaaGreatDoor
open Go.RowKit Go.Shelf
set_option maxHeartbeats 4000000
set_option maxRecDepth 100000
theorem JU (x sep:bG):gD [x] sep=x:=by
 obtain⟨⟨l⟩⟩:=x;unfold gD;rw[List.map_cons,List.map_nil,Lib.join_one]
theorem Ax (sep:List UInt8) (r:List (List UInt8)) (x:List UInt8):Lib.joinTail sep (r++[x])=Lib.joinTail sep r++(sep++x):=by
 unfold Lib.joinTail;simp
theorem Gr (y:bG) (r:List bG) (x sep:bG):gD (y :: r++[x]) sep=gD (y :: r) sep++sep++x:=by
 unfold gD;apply ByteArray.ext;rw[List.cons_append,List.map_cons,List.map_append,List.map_cons,List.map_nil,Lib.join_cons,Ax,List.map_cons,Lib.join_cons];simp
theorem AY (sep:bG):gD [] sep=⟨#[]⟩:=rfl
theorem zI:∀(l:List bG) (sep:bG) (n:Nat),(∀s∈l,s.size≤n)→(gD l sep).size≤l.length * (n+sep.size)
 |[],sep,n,_=>by rw[AY];exact aI _
 |y :: r,sep,n,h=>by
  have e:(gD (y :: r) sep).size=y.size+(Lib.joinTail sep.data.toList (r.map (·.data.toList))).length:=by
   show (List.toArray _).size=_;rw[List.size_toArray,List.map_cons,Lib.join_cons,aM,bB];rfl
  have h2:∀r:List bG,(∀s∈r,s.size≤n)→(Lib.joinTail sep.data.toList (r.map (·.data.toList))).length≤r.length * (n+sep.size):=by
   intro r
   induction r with
   |nil=>intro _;exact aI _
   |cons a r ih=>
    intro hr;have h3:=ih fun s hs=>hr s (aW _ hs)
    have h4:=hr a (bD ..);have e2:(Lib.joinTail sep.data.toList ((a :: r).map (·.data.toList))).length=sep.size+a.size+(Lib.joinTail sep.data.toList (r.map (·.data.toList))).length:=by
     unfold Lib.joinTail;rw[List.map_cons,List.map_cons,List.flatten_cons,aM,aM,bB,bB];rfl
    rw[e2,List.length_cons,Nat.add_mul,Nat.one_mul];omega
  have h5:=h2 r fun s hs=>h s (aW _ hs)
  have h6:=h y (bD ..);rw[e,List.length_cons,Nat.add_mul,Nat.one_mul];omega
def PA:dN:=spec (fun i:List bG×bG=>[.sl 1 (bI (fun s=>.str s) i.1),.str i.2]) (fun _=>[]) (fun i=>(gD i.1 i.2).size≤140737488355328∧i.1.length≤140737488355328) (fun i=>.str (gD i.1 i.2)) fun _=>[]
theorem Kr:bJ Tryz.prog 57 PA:=N6 OC U1
def mA:bG:=⟨#[44]⟩
def GS:dN:=spec (fun l:List bG=>[.sl 1 (bI .str l)]) (fun _=>[]) (fun l=>l.length≤5000∧∀s∈l,s.size≤1000) (fun l=>.str (gD l mA)) fun _=>[]
theorem Gp (P:bH):bN P Wg GS:=by
 intro args H K hc;obtain⟨l,rfl,rfl,hp,hK⟩:=hc;refine⟨cN,?_⟩;dsimp only at hp hK⊢;obtain⟨hl,hs⟩:=hp;obtain⟨n,hn⟩:∃n:Nat,n=l.length:=⟨_,rfl⟩
 obtain⟨q,hq⟩:∃q,q=gD l mA:=⟨_,rfl⟩
 rw[←hq]at hK;have z44:(ByteArray.mk (Array.mk [44])).size=1:=rfl;cbv;refine bV [] (fun p:{ p:Nat×bG // p.1≤l.length∧p.2=gD (l.take p.1) mA }=>[(3,.str p.1.2),(4,.i (nI p.1.1))]) (fun _=>[]) (fun p=>fK n p.1.1) ⟨(0,⟨#[]⟩),aI _,rfl⟩ ?_;rintro ⟨⟨k,s⟩,hk,hsk⟩;dsimp only at hk hsk⊢;have hsz:s.size≤5000 * 1001:=by
  rw[hsk];refine Nat.le_trans (zI (l.take k) mA 1000 fun x hx=>hs x (List.mem_of_mem_take hx)) ?_;exact Nat.mul_le_mul (by rw[aS];omega) (aN _)
 rcases aL k l.length with hks|hks
 rotate_left
 ·obtain rfl:k=n:=by omega
  rw[bC (by omega),←hq]at hsk;subst hsk;cbv;repeat'((first|refine .n fun h=>?_|refine .k fun z hz=>?_|fail)<;>cbv)
  (refine .q9 ?_;cbv;exact .inl (.f9 hK))
 obtain⟨x,hx⟩:=cM hks;have hxs:=hs x (aC hx);have htk:=dX hx;rcases Nat.eq_zero_or_pos k with rfl|hk0
 ·have h1:gD (l.take (0+1)) mA=x:=by rw[htk,List.take_zero,List.nil_append,JU]
  rw[List.take_zero,AY]at hsk;subst hsk;cbv;repeat'((first|refine .e ?_|refine .n fun h=>?_|refine .y fun h=>?_|refine .k fun z hz=>?_|refine .u fun u hu hul=>?_|fail)<;>cbv)
  obtain rfl:z=nI 1:=bS;exact bL ⟨(1,u),hks,by rw[show (1:Nat)=0+1 from rfl,h1];subst_vars;first|exact ByteArray.empty_append|rfl⟩ (bM (by omega))
 ·have h1:gD (l.take (k+1)) mA=s++mA++x:=by
   rw[htk,hsk];cases ht:l.take k with
   |nil=>
    have:=congrArg List.length ht;rw[aS,List.length_nil]at this;omega
   |cons y r=>exact Gr y r x mA
  have hcs:(s++mA).size=s.size+1:=by rw[ByteArray.size_append];rfl
  cbv;repeat'((first|refine .e ?_|refine .y fun h=>?_|refine .k fun z hz=>?_|refine .u fun u hu hul=>?_|fail)<;>cbv)
  obtain rfl:z=nI (k+1):=bS;exact bL ⟨(k+1,u),hks,by rw[h1];subst_vars;rfl⟩ (bM (by omega))
def C2:dN:=spec (fun i:bG×bG=>[.str i.1,.str i.2]) (fun _=>[]) (fun _=>True) (fun i=>AL ⟨i.1,i.2⟩) fun _=>[]
theorem Cj (P:bH):bN P U2 C2:=by
 intro args H K hc;obtain⟨⟨a,b⟩,rfl,rfl,hp,hK⟩:=hc;refine⟨cN,?_⟩;dsimp only at hp hK⊢;cbv
 (refine .q9 ?_;cbv;exact .inl (.f9 hK))
def Mo:dN:=spec (fun i:bG×Int=>[.str i.1,.i i.2]) (fun _=>[]) (fun i=>-9223372036854775808≤i.2∧i.2≤9223372036854775807) (fun i=>AL ⟨i.1,gF i.2⟩) fun _=>[]
theorem AN (P:bH) (hd:bJ P 64 (E1 gF)) (hf:bJ P 136 C2):bN P Vc Mo:=by
 intro args H K hc;obtain⟨⟨a,n⟩,rfl,rfl,hp,hK⟩:=hc;refine⟨cN,?_⟩;dsimp only at hp hK⊢;obtain⟨w,hw⟩:∃w,w=gF n:=⟨_,rfl⟩
 have hK:K (AL ⟨a,gF n⟩) []:=hK;rw[←hw]at hK;cbv
 (refine XG hd n hp ?_;try dsimp only)
 rw[←hw];cbv
 (refine XG hf ((a,w):bG×bG) trivial ?_;try dsimp only)
 cbv
 (refine .q9 ?_;cbv;exact .inl (.f9 hK))
theorem Gm (P:bH) (hi:bJ P 60 (E1 gF)):bN P UC (E1 gF):=by
 intro args H K hc;obtain⟨n,rfl,rfl,hp,hK⟩:=hc;refine⟨cN,?_⟩;dsimp only at hp hK⊢;obtain⟨w,hw⟩:∃w,w=gF n:=⟨_,rfl⟩
 rw[←hw]at hK;cbv
 (refine XG hi n hp ?_;try dsimp only)
 rw[←hw];cbv
 (refine .q9 ?_;cbv;exact .inl (.f9 hK))
def tV (l:List Ml):List bG:=l.flatMap fun f=>[f.name,f.value]
theorem Bn:∀l:List Ml,(tV l).length=2 * l.length
 |[]=>rfl
 |f :: l=>by
  have:=Bn l;unfold tV at *;rw[List.flatMap_cons,aM,this,List.length_cons];simp;omega
theorem EP:∀{l:List Ml}{k:Nat}{f:Ml},l[k]?=some f→(tV l)[2 * k]?=some f.name∧(tV l)[2 * k+1]?=some f.value
 |g :: l,0,f,h=>by
  obtain rfl:g=f:=by simpa using h
  exact⟨rfl,rfl⟩
 |g :: l,k+1,f,h=>by
  have:=EP (l:=l) (k:=k) (f:=f) (by simpa using h);have e:tV (g :: l)=g.name :: g.value :: tV l:=rfl;rw[e,show 2 * (k+1)=2 * k+1+1 by omega,List.getElem?_cons_succ,List.getElem?_cons_succ,List.getElem?_cons_succ,List.getElem?_cons_succ];exact this
def Ah:dN:=spec (fun _:List Ml=>[.hd 0]) (fun l=>[.row 9 1 (bI .str (tV l))]) (fun l=>l.length≤20) (fun l=>.sl 2 (bI AL l)) fun l=>[.row 9 1 (bI .str (tV l))]
theorem CD (P:bH):bN P Vp Ah:=by
 intro args H K hc;obtain⟨l,rfl,rfl,hp,hK⟩:=hc;refine⟨cN,?_⟩;dsimp only at hp hK⊢;have hfl:=Bn l;obtain⟨W,hW⟩:∃W,W=tV l:=⟨_,rfl⟩
 rw[←hW]at hK hfl⊢;obtain⟨n,hn⟩:∃n:Nat,n=l.length:=⟨_,rfl⟩
 cbv;repeat'((first|refine .q fun z hz hz0 hz1=>?_|refine .k fun z hz=>?_|refine .zl fun zs hzs hzl=>?_|fail)<;>cbv)
 obtain rfl:zs=[]:=hzs;refine bV [1] (fun p:{ p:Nat×Nat // p.1≤l.length∧p.2=2 * p.1 }=>[(3,.hd 1),(4,.i (nI p.1.2))]) (fun p=>[.row 9 1 (bI .str W),.row 230 2 (bI AL (l.take p.1.1))]) (fun p=>fK n p.1.1) ⟨(0,0),aI _,rfl⟩ ?_;rintro ⟨⟨k,i⟩,hk,hi⟩;dsimp only at hk hi⊢;obtain⟨L1,hL1⟩:∃L,L=l.take k:=⟨_,rfl⟩
 have hl1:L1.length≤l.length:=by rw[hL1,aS];omega
 rw[←hL1];rcases aL k l.length with hks|hks
 rotate_left
 ·obtain rfl:k=n:=by omega
  have hL:L1=l:=by rw[hL1,bC (by omega)]
  subst hL;cbv;repeat'((first|refine .n fun h=>?_|refine .k fun z hz=>?_|fail)<;>cbv)
  (refine .r9 (Gh.plain 1 rfl) ?_;cbv;exact .inl (.g9 hK))
 obtain⟨⟨fn,fv⟩,hx⟩:=cM hks;have hsn:=dX hx;rw[←hL1]at hsn;obtain⟨h1,h2⟩:=EP hx;rw[←hW,←hi]at h1 h2;obtain⟨j,hj⟩:∃j,j=i+1:=⟨_,rfl⟩
 rw[←hj]at h2;dsimp only at h1 h2;cbv;repeat'((first|refine .e ?_|refine .y fun h=>?_|refine .k fun z hz=>?_|fail)<;>cbv)
 obtain rfl:z=nI j:=bS;cbv;repeat'((first|refine .e ?_|refine .k fun z hz=>?_|refine .zl fun zs hzs hzl=>?_|fail)<;>cbv)
 obtain rfl:z=nI (i+2):=bS;obtain rfl:zs=bI AL (l.take (k+1)):=by(rw[hsn,cB,cE];exact hzs)
 exact bL ⟨(k+1,i+2),hks,by(show i+2=2 * (k+1);omega)⟩ (bM (by omega))
def eV (b:Bl):HL:=⟨2,b.number,b.carrier,[⟨⟨#[99,97,114,114,105,101,114]⟩,b.carrier⟩,⟨⟨#[115,104,105,112,112,101,114]⟩,b.shipper⟩,⟨⟨#[102,114,111,109]⟩,b.frm⟩,⟨⟨#[116,111]⟩,b.to⟩,⟨⟨#[98,111,120,101,115]⟩,gF b.boxes.length⟩,⟨⟨#[109,97,114,107,115]⟩,gD b.boxes mA⟩,⟨⟨#[105,115,115,117,101,100]⟩,gF b.issued⟩,⟨⟨#[99,108,101,97,110]⟩,if b.clean=true then ⟨#[121,101,115]⟩ else ⟨#[110,111]⟩⟩,⟨⟨#[112,97,114,101,110,116,115]⟩,gD b.parents mA⟩]⟩
structure PG (b:Bl):Prop where
 bx:b.boxes.length≤5000∧∀s∈b.boxes,s.size≤1000
 pa:b.parents.length≤5000∧∀s∈b.parents,s.size≤1000
 day:-9223372036854775808≤b.issued∧b.issued≤9223372036854775807
theorem Bo {l:List bG}(h:l.length≤5000∧∀s∈l,s.size≤1000):(gD l mA).size≤140737488355328∧l.length≤140737488355328:=by
 have h1:=zI l mA 1000 h.2;have h2:l.length * (1000+mA.size)≤5000 * 1001:=Nat.mul_le_mul h.1 (aN _);omega
def Fg:dN:=spec (fun b:Bl=>[IA b]) (fun _=>[]) PG (fun b=>sJ (eV b)) fun _=>[]
theorem EZ (P:bH) (hc:bJ P 157 (E1 gF)) (hj:bJ P 57 PA) (hf:bJ P 156 Ah):bN P Vs Fg:=by
 intro args H K hc;obtain⟨⟨number,carrier,shipper,frm,to,boxes,parents,issued,clean⟩,rfl,rfl,hp,hK⟩:=hc;refine⟨cN,?_⟩;dsimp only at hp hK⊢;obtain⟨hbx,hpa,hday⟩:=hp;dsimp only at hbx hpa hday;have hj1:=Bo hbx;have hj2:=Bo hpa;have hK:K (sJ (eV ⟨number,carrier,shipper,frm,to,boxes,parents,issued,clean⟩)) []:=hK;unfold eV at hK;dsimp only at hK;obtain⟨w1,hw1⟩:∃w,w=gF (boxes.length:Int):=⟨_,rfl⟩
 obtain⟨w2,hw2⟩:∃w,w=gF issued:=⟨_,rfl⟩
 obtain⟨j1,hjj1⟩:∃w,w=gD boxes mA:=⟨_,rfl⟩
 obtain⟨j2,hjj2⟩:∃w,w=gD parents mA:=⟨_,rfl⟩
 rw[←hw1,←hw2,←hjj1,←hjj2]at hK;cases clean with
 |true=>
  cbv;repeat'((first|refine .k fun z hz=>?_|fail)<;>cbv)
  obtain rfl:z=(boxes.length:Int):=bS
  (refine XG hc (boxes.length:Int) (by omega) ?_;try dsimp only)
  rw[←hw1];cbv
  (refine XG hj ((boxes,mA):List bG×bG) hj1 ?_;try dsimp only)
  rw[←hjj1];cbv
  (refine XG hc issued hday ?_;try dsimp only)
  rw[←hw2];cbv
  (refine XG hj ((parents,mA):List bG×bG) hj2 ?_;try dsimp only)
  rw[←hjj2];cbv
  (refine gT hf ([⟨⟨#[99,97,114,114,105,101,114]⟩,carrier⟩,⟨⟨#[115,104,105,112,112,101,114]⟩,shipper⟩,⟨⟨#[102,114,111,109]⟩,frm⟩,⟨⟨#[116,111]⟩,to⟩,⟨⟨#[98,111,120,101,115]⟩,w1⟩,⟨⟨#[109,97,114,107,115]⟩,j1⟩,⟨⟨#[105,115,115,117,101,100]⟩,w2⟩,⟨⟨#[99,108,101,97,110]⟩,⟨#[121,101,115]⟩⟩,⟨⟨#[112,97,114,101,110,116,115]⟩,j2⟩]:List Ml) [2] (Nat.le_of_ble_eq_true rfl) ?_;try dsimp only)
  cbv
  (refine .q9 ?_;cbv;exact .inl (.f9 hK))
 |false=>
  cbv;repeat'((first|refine .k fun z hz=>?_|fail)<;>cbv)
  obtain rfl:z=(boxes.length:Int):=bS
  (refine XG hc (boxes.length:Int) (by omega) ?_;try dsimp only)
  rw[←hw1];cbv
  (refine XG hj ((boxes,mA):List bG×bG) hj1 ?_;try dsimp only)
  rw[←hjj1];cbv
  (refine XG hc issued hday ?_;try dsimp only)
  rw[←hw2];cbv
  (refine XG hj ((parents,mA):List bG×bG) hj2 ?_;try dsimp only)
  rw[←hjj2];cbv
  (refine gT hf ([⟨⟨#[99,97,114,114,105,101,114]⟩,carrier⟩,⟨⟨#[115,104,105,112,112,101,114]⟩,shipper⟩,⟨⟨#[102,114,111,109]⟩,frm⟩,⟨⟨#[116,111]⟩,to⟩,⟨⟨#[98,111,120,101,115]⟩,w1⟩,⟨⟨#[109,97,114,107,115]⟩,j1⟩,⟨⟨#[105,115,115,117,101,100]⟩,w2⟩,⟨⟨#[99,108,101,97,110]⟩,⟨#[110,111]⟩⟩,⟨⟨#[112,97,114,101,110,116,115]⟩,j2⟩]:List Ml) [2] (Nat.le_of_ble_eq_true rfl) ?_;try dsimp only)
  cbv
  (refine .q9 ?_;cbv;exact .inl (.f9 hK))
theorem BU (P:bH) (hn:bJ P 137 Mo) (hj:bJ P 138 GS) (hf:bJ P 136 C2):bN P Xj Fg:=by
 intro args H K hc;obtain⟨⟨number,carrier,shipper,frm,to,boxes,parents,issued,clean⟩,rfl,rfl,hp,hK⟩:=hc;refine⟨cN,?_⟩;dsimp only at hp hK⊢;obtain⟨hbx,hpa,hday⟩:=hp;dsimp only at hbx hpa hday;have hK:K (sJ (eV ⟨number,carrier,shipper,frm,to,boxes,parents,issued,clean⟩)) []:=hK;unfold eV at hK;dsimp only at hK;obtain⟨w1,hw1⟩:∃w,w=gF (boxes.length:Int):=⟨_,rfl⟩
 obtain⟨w2,hw2⟩:∃w,w=gF issued:=⟨_,rfl⟩
 obtain⟨j1,hjj1⟩:∃w,w=gD boxes mA:=⟨_,rfl⟩
 obtain⟨j2,hjj2⟩:∃w,w=gD parents mA:=⟨_,rfl⟩
 rw[←hw1,←hw2,←hjj1,←hjj2]at hK;cases clean with
 |true=>
  cbv;repeat'((first|refine .k fun z hz=>?_|fail)<;>cbv)
  have hzb:z=(boxes.length:Int):=bS;have hw1:w1=gF z:=by rw[hw1,hzb]
  (refine XG hf ((⟨#[99,97,114,114,105,101,114]⟩,carrier):bG×bG) trivial ?_;try dsimp only)
  cbv
  (refine XG hf ((⟨#[115,104,105,112,112,101,114]⟩,shipper):bG×bG) trivial ?_;try dsimp only)
  cbv
  (refine XG hf ((⟨#[102,114,111,109]⟩,frm):bG×bG) trivial ?_;try dsimp only)
  cbv
  (refine XG hf ((⟨#[116,111]⟩,to):bG×bG) trivial ?_;try dsimp only)
  cbv
  (refine XG hn ((⟨#[98,111,120,101,115]⟩,z):bG×Int) (by dsimp only;((try simp only[vn]at *)<;>omega)) ?_;try dsimp only)
  rw[←hw1];cbv
  (refine XG hj boxes hbx ?_;try dsimp only)
  rw[←hjj1];cbv
  (refine XG hf ((⟨#[109,97,114,107,115]⟩,j1):bG×bG) trivial ?_;try dsimp only)
  cbv
  (refine XG hn ((⟨#[105,115,115,117,101,100]⟩,issued):bG×Int) hday ?_;try dsimp only)
  rw[←hw2];cbv
  (refine XG hf ((⟨#[99,108,101,97,110]⟩,⟨#[121,101,115]⟩):bG×bG) trivial ?_;try dsimp only)
  cbv
  (refine XG hj parents hpa ?_;try dsimp only)
  rw[←hjj2];cbv
  (refine XG hf ((⟨#[112,97,114,101,110,116,115]⟩,j2):bG×bG) trivial ?_;try dsimp only)
  cbv
  (refine .q9 ?_;cbv;exact .inl (.f9 hK))
 |false=>
  cbv;repeat'((first|refine .k fun z hz=>?_|fail)<;>cbv)
  have hzb:z=(boxes.length:Int):=bS;have hw1:w1=gF z:=by rw[hw1,hzb]
  (refine XG hf ((⟨#[99,97,114,114,105,101,114]⟩,carrier):bG×bG) trivial ?_;try dsimp only)
  cbv
  (refine XG hf ((⟨#[115,104,105,112,112,101,114]⟩,shipper):bG×bG) trivial ?_;try dsimp only)
  cbv
  (refine XG hf ((⟨#[102,114,111,109]⟩,frm):bG×bG) trivial ?_;try dsimp only)
  cbv
  (refine XG hf ((⟨#[116,111]⟩,to):bG×bG) trivial ?_;try dsimp only)
  cbv
  (refine XG hn ((⟨#[98,111,120,101,115]⟩,z):bG×Int) (by dsimp only;((try simp only[vn]at *)<;>omega)) ?_;try dsimp only)
  rw[←hw1];cbv
  (refine XG hj boxes hbx ?_;try dsimp only)
  rw[←hjj1];cbv
  (refine XG hf ((⟨#[109,97,114,107,115]⟩,j1):bG×bG) trivial ?_;try dsimp only)
  cbv
  (refine XG hn ((⟨#[105,115,115,117,101,100]⟩,issued):bG×Int) hday ?_;try dsimp only)
  rw[←hw2];cbv
  (refine XG hf ((⟨#[99,108,101,97,110]⟩,⟨#[110,111]⟩):bG×bG) trivial ?_;try dsimp only)
  cbv
  (refine XG hj parents hpa ?_;try dsimp only)
  rw[←hjj2];cbv
  (refine XG hf ((⟨#[112,97,114,101,110,116,115]⟩,j2):bG×bG) trivial ?_;try dsimp only)
  cbv
  (refine .q9 ?_;cbv;exact .inl (.f9 hK))
end Go.Proofs.YtigdiekbiphhmaaGreatDoor
namespace Go.Proofs.YtigdiekbiphhmaaGreatDoor
open Go.RowKit
set_option maxHeartbeats 4000000
set_option maxRecDepth 100000
def fB (z:Int):bG:=if z=8 then ⟨#[101,110,100,111,114,115,101]⟩ else if z=20 then ⟨#[115,117,114,114,101,110,100,101,114]⟩ else if z=23 then ⟨#[108,111,115,116]⟩ else if z=24 then ⟨#[114,101,112,108,97,99,101]⟩ else eS
def QV:List bG:=[⟨#[111,114,100,101,114]⟩,⟨#[97,112,112,108,121]⟩,⟨#[105,115,115,117,101,100]⟩,⟨#[100,101,99,108,105,110,101,100]⟩,⟨#[115,104,105,112]⟩,⟨#[108,97,100,105,110,103]⟩,⟨#[99,111,118,101,114]⟩,⟨#[99,111,118,101,114,101,100]⟩,⟨#[101,110,100,111,114,115,101]⟩,⟨#[101,110,100,111,114,115,101,100]⟩,⟨#[112,114,101,115,101,110,116]⟩,⟨#[114,101,102,117,115,101,100]⟩,⟨#[97,99,99,101,112,116,101,100]⟩,⟨#[112,97,105,100]⟩,⟨#[112,97,112,101,114,115]⟩,⟨#[100,101,99,108,97,114,101]⟩,⟨#[100,117,116,121]⟩,⟨#[116,114,97,110,115,102,101,114]⟩,⟨#[99,114,101,100,105,116,101,100]⟩,⟨#[114,101,108,101,97,115,101]⟩,⟨#[115,117,114,114,101,110,100,101,114]⟩,⟨#[100,101,108,105,118,101,114,101,100]⟩,⟨#[111,98,106,101,99,116,101,100]⟩,⟨#[108,111,115,116]⟩,⟨#[114,101,112,108,97,99,101]⟩,⟨#[114,101,112,108,97,99,101,100]⟩,⟨#[108,97,110,100,101,100]⟩,⟨#[114,101,109,105,116]⟩,⟨#[97,99,107]⟩]
def lU (z:Int):Prop:=z=8∨z=20∨z=23∨z=24
def Da:dN:=spec (fun _:Unit=>[]) (fun _=>[]) (fun _=>True) (fun _=>.sl 1 (bI .str QV)) fun _=>[]
theorem D4 (P:bH):bN P Xa Da:=by
 intro args H K hc;obtain⟨u,rfl,rfl,hp,hK⟩:=hc;refine⟨cN,?_⟩;dsimp only at hp hK⊢;cbv
 (refine .r9 (Gh.plain 0 rfl) ?_;cbv;exact .inl (.g9 hK))
def Fo:dN:=spec (fun z:Int=>[.i z]) (fun _=>[]) lU (fun z=>.str (fB z)) fun _=>[]
theorem GU (P:bH):bN P Us Fo:=by
 intro args H K hc;obtain⟨z,rfl,rfl,hp,hK⟩:=hc;refine⟨cN,?_⟩;dsimp only at hp hK⊢;rcases hp with rfl|rfl|rfl|rfl
 all_goals
  cbv;repeat'((first|refine .n fun h=>?_|refine .y fun h=>?_|refine .o ?_|fail)<;>cbv)
  (refine .q9 ?_;cbv;exact .inl (.f9 hK))
theorem HC:∀{H:List cH}{k:Nat}{e e2:cH},H[k]?=some e→Fe e e2→jS H (H.set k e2)
 |[],k,e,e2,h,_=>by cases h
 |a :: H,0,e,e2,h,hl=>by
  obtain rfl:a=e:=by simpa using h
  exact .cons hl (jS.refl H)
 |a :: H,k+1,e,e2,h,hl=>.cons (.refl a) (HC (by simpa using h) hl)
theorem Gh.leAt {M:Nat}{st:St}(k:Nat) {e:cH}(e2:cH) (hk:st.H[k]?=some e) (h:Fe e e2):Gh M st ⟨st.T,st.H.set k e2⟩:=Gh.le _ (HC hk h)
theorem sA {t sz:Nat}{l m:List AV}(h:wG l m):Fe (.row t sz [.agg l]) (.row t sz [.agg m]):=.row (.cons (.agg h) .nil)
def IZ:dN:=spec (fun l:dK=>[dP l]) (fun _=>[]) (fun l=>lU l.kind) (fun _=>.hd 0) fun l=>[.row 58 14 (bI dP (eL fB l))]
theorem Dr (P:bH) (hn:bJ P 146 Fo):bN P T5 IZ:=by
 intro args H K hc;obtain⟨⟨frm,to,number,kind,ack,deal,text,party,index,day,cur,amt,docs,boxes⟩,rfl,rfl,hp,hK⟩:=hc;refine⟨cN,?_⟩;dsimp only at hp hK⊢
 try dsimp only at hp
 have hK:K (.hd 0) [.row 58 14 (bI dP (eL fB ⟨frm,to,number,kind,ack,deal,text,party,index,day,cur,amt,docs,boxes⟩))]:=hK;unfold eL lX at hK;dsimp only at hK;obtain⟨w,hw⟩:∃w,w=fB kind:=⟨_,rfl⟩
 rw[←hw]at hK;cbv
 (refine XG hn kind hp ?_;try dsimp only)
 rw[←hw];cbv;refine cV (Gh.leAt 1 (.row 58 14 (bI dP [⟨eS,frm,0,22,0,eS,w,party,index,0,eS,0,[],[]⟩])) rfl (sA Aw)) ?_;cbv
 (refine .q9 ?_;cbv;exact .inl (eU.sel [1] _ _ (by rfl) (by rfl) (by decide) (by rfl) cN (by rfl) (by rfl) (Le.refl _) (jS.refl _) hK))
def Cg:dN:=spec (fun i:List XL×XL=>[.sl 5 (bI dC i.1),dC i.2]) (fun _=>[]) (fun i=>i.1.length≤100000∧i.2.box.size≤maxLen∧i.2.frm.size≤maxLen∧i.2.to.size≤maxLen∧i.2.place.size≤maxLen) (fun i=>.i (eW i.1 i.2)) fun _=>[]
theorem BO (P:bH) (hn:bJ P 181 (iE (fun s=>s.size≤maxLen) bR)) (hd:bJ P 182 vT) (ho:bJ P 41 Hp):bN P T2 Cg:=by
 intro args H K hc;obtain⟨⟨H,box,frm,to,place,day⟩,rfl,rfl,hp,hK⟩:=hc;refine⟨cN,?_⟩;dsimp only at hp hK⊢;obtain⟨hl,hs1,hs2,hs3,hs4⟩:=hp
 try dsimp only at hl hs1 hs2 hs3 hs4
 obtain⟨e,he⟩:∃e,e=eW H ⟨box,frm,to,place,day⟩:=⟨_,rfl⟩
 rw[←he]at hK;unfold eW oR vZ at he;dsimp only at he;obtain⟨b1,hb1⟩:∃b,b=bR box:=⟨_,rfl⟩
 obtain⟨b2,hb2⟩:∃b,b=bR frm:=⟨_,rfl⟩
 obtain⟨b3,hb3⟩:∃b,b=bR to:=⟨_,rfl⟩
 obtain⟨b4,hb4⟩:∃b,b=bR place:=⟨_,rfl⟩
 obtain⟨b5,hb5⟩:∃b,b=eN day:=⟨_,rfl⟩
 obtain⟨O,hO⟩:∃O,O=fH H box:=⟨_,rfl⟩
 have hOl:O.length≤H.length:=by rw[hO];exact Hh _ _
 rw[←hb1,←hb2,←hb3,←hb4,←hb5,←hO]at he;cbv
 (refine XG hn box hs1 ?_;try dsimp only)
 rw[←hb1];cases b1 with
 |false=>
  cbv
  (refine .q9 ?_;cbv;exact .inl (.f9 (fS hK (by rw[he];rfl))))
 |true=>
  cbv
  (refine XG hn frm hs2 ?_;try dsimp only)
  rw[←hb2];cases b2 with
  |false=>
   cbv
   (refine .q9 ?_;cbv;exact .inl (.f9 (fS hK (by rw[he];rfl))))
  |true=>
   cbv
   (refine XG hn to hs3 ?_;try dsimp only)
   rw[←hb3];cases b3 with
   |false=>
    cbv
    (refine .q9 ?_;cbv;exact .inl (.f9 (fS hK (by rw[he];rfl))))
   |true=>
    cbv
    (refine XG hn place hs4 ?_;try dsimp only)
    rw[←hb4];cases b4 with
    |false=>
     cbv
     (refine .q9 ?_;cbv;exact .inl (.f9 (fS hK (by rw[he];rfl))))
    |true=>
     cbv;repeat'((first|refine .mk (fun h=>?_) fun h=>?_|fail)<;>cbv)
     ·(refine .q9 ?_;cbv;exact .inl (.f9 (fS hK (by rw[he,aF (by simp[‹frm=to›])]))))
     ·have hne:¬frm=to:=by assumption
      rw[aE (by simp[hne])]at he
      (refine XG hd day trivial ?_;try dsimp only)
      rw[←hb5];cases b5 with
      |false=>
       cbv
       (refine .q9 ?_;cbv;exact .inl (.f9 (fS hK (by rw[he];rfl))))
      |true=>
       rw[aE (by decide)]at he;cbv
       (refine XG ho ((H,box):List XL×bG) hl ?_;try dsimp only)
       rw[←hO];rcases Nat.eq_zero_or_pos O.length with h0|h0
       ·obtain rfl:O=[]:=aR h0;cbv;repeat'((first|refine .y fun h=>?_|refine .k fun z hz=>?_|fail)<;>cbv)
        (refine .q9 ?_;cbv;exact .inl (.f9 (fS hK (by rw[he];rfl))))
       ·obtain⟨m,hm⟩:∃m:Nat,O.length=m+1:=⟨O.length - 1,by omega⟩
        obtain⟨l,hlx⟩:=cM (L:=O) (i:=m) (by omega);have hgl:O.getLast?=some l:=by rw[List.getLast?_eq_getElem?,hm];exact hlx
        rw[hgl]at he;obtain⟨lbox,lfrm,lto,lplace,lday⟩:=l;dsimp only at he;cbv;repeat'((first|refine .n fun h=>?_|refine .k fun z hz=>?_|fail)<;>cbv)
        obtain rfl:z=nI m:=bS;cbv;repeat'((first|refine .e ?_|refine .mk (fun h=>?_) fun h=>?_|refine .k fun z hz=>?_|fail)<;>cbv)
        ·(refine .q9 ?_;cbv;exact .inl (.f9 (fS hK (by rw[he,aE (fun h=>h (by assumption)),aF (by assumption)]))))
        ·(refine .q9 ?_;cbv;exact .inl (.f9 (fS hK (by rw[he,aE (fun h=>h (by assumption)),aE (by omega),aF bS]))))
        ·(refine .q9 ?_;cbv;exact .inl (.f9 (fS hK (by rw[he,aE (fun h=>h (by assumption)),aE (by omega),aE bS]))))
        ·(refine .q9 ?_;cbv;exact .inl (.f9 (fS hK (by rw[he,aF (by assumption)]))))
def mR (b:Bool):AV:=.bl b
def D8:Cs→AV
 |⟨S,free,⟨c,L⟩,H,D⟩=>.agg [.sl 1 (bI cY S),.sl 1 (bI mR free),.str c,.sl 11 (bI iD L),.sl 5 (bI dC H),.sl 5 (bI dC D)]
def pQ:dN:=spec (fun q:Cs×Nat×Int=>[D8 q.1,.i (nI q.2.1),.i q.2.2]) (fun _=>[]) (fun q=>q.1.S.length≤8∧q.2.1 < q.1.S.length) (fun q=>D8 (iQ q.1 q.2.1 q.2.2)) fun _=>[]
theorem Fk (P:bH):bN P WK pQ:=by
 intro args H K hc;obtain⟨⟨⟨S,free,⟨c,L⟩,H,D⟩,i,st⟩,rfl,rfl,hp,hK⟩:=hc;refine⟨cN,?_⟩;dsimp only at hp hK⊢;obtain⟨hS,hi⟩:=hp
 try dsimp only at hS hi
 obtain⟨s0,hs0⟩:=cM hi;cbv;repeat'((first|refine .e ?_|refine .o ?_|refine .z fun zs hzs=>?_|fail)<;>cbv)
 obtain rfl:zs=bI cY (S.set i st):=by rw[hzs,dZ cY (S.set i st),List.map_set,←dZ];rfl
 (refine .r9 (Gh.plain 2 rfl) ?_;cbv;exact .inl (.g9 hK))
def yC:dN:=spec (fun q:iW×bG×Int=>[iJ q.1,.str q.2.1,.i q.2.2]) (fun _=>[]) (fun q=>q.1.boxes.length≤70∧q.1.number.size≤300) (fun q=>IA (eQ q.2.1 (cG q.1.de 0 true) q.2.2)) fun _=>[]
theorem E7 (P:bH) (hm:bJ P 20 mV):bN P WE yC:=by
 intro args H K hc;obtain⟨⟨⟨number,seller,buyer,carrier,issuer,house,insurer,frm,to,cur,amt,boxes,term,latest,expiry,tenor,duty⟩,name,day⟩,rfl,rfl,hp,hK⟩:=hc;refine⟨cN,?_⟩;dsimp only at hp hK⊢;obtain⟨hb,hs⟩:=hp
 try dsimp only at hb hs
 obtain⟨q,hq⟩:∃q,q=iW.marks ⟨number,seller,buyer,carrier,issuer,house,insurer,frm,to,cur,amt,boxes,term,latest,expiry,tenor,duty⟩:=⟨_,rfl⟩
 have hK:K (IA ⟨Dj++number,name,seller,frm,to,iW.marks ⟨number,seller,buyer,carrier,issuer,house,insurer,frm,to,cur,amt,boxes,term,latest,expiry,tenor,duty⟩,[],day,true⟩) []:=hK;rw[←hq]at hK;have z3:(ByteArray.mk (Array.mk [98,108,45])).size=3:=rfl;obtain⟨bn,hbn⟩:∃b,b=Dj++number:=⟨_,rfl⟩
 rw[←hbn]at hK;cbv;repeat'((first|refine .u fun u hu hul=>?_|fail)<;>cbv)
 obtain rfl:u=bn:=by rw[hbn];assumption
 (refine XG hm (⟨number,seller,buyer,carrier,issuer,house,insurer,frm,to,cur,amt,boxes,term,latest,expiry,tenor,duty⟩:iW) hb ?_;try dsimp only)
 rw[←hq];cbv
 (refine .q9 ?_;cbv;exact .inl (.g9 hK))
def gP (f:bG→XL):List XL→List bG→List XL×Bool
 |H,[]=>(H,true)
 |H,b :: r=>if eW H (f b)≠0 then (H,false) else gP f (H++[f b]) r
theorem A9 (f:bG→XL):∀(bs:List bG) (H:List XL),(eP f H bs=none∧(gP f H bs).2=false)∨∃H',eP f H bs=some H'∧gP f H bs=(H',true)
 |[],H=>.inr ⟨H,rfl,rfl⟩
 |b :: r,H=>by
  have g1:gP f H (b :: r)=if eW H (f b)≠0 then (H,false) else gP f (H++[f b]) r:=rfl
  have g2:eP f H (b :: r)=if eW H (f b)≠0 then none else eP f (H++[f b]) r:=rfl
  rw[g1,g2];by_cases h:eW H (f b)≠0
  ·rw[aF h,aF h];exact .inl ⟨rfl,rfl⟩
  ·rw[aE h,aE h];exact A9 f r _
structure WN (f:bG→XL) (H:List XL) (bs:List bG) (p:Nat×List XL):Prop where
 le:p.1≤bs.length
 eq:gP f H bs=gP f p.2 (bs.drop p.1)
 len:p.2.length≤H.length+p.1
structure QM where
 H:List XL
 d:iW
 frm:bG
 to:bG
 place:bG
 day:Int
structure Pw (q:QM):Prop where
 len:q.H.length≤50000
 ok:Fd q.d
 sz:q.frm.size≤1000∧q.to.size≤1000∧q.place.size≤1000
def Wv (r:List XL×Bool):AV:=.tup [.sl 5 (bI dC r.1),.bl r.2]
def tC:dN:=spec (fun q:QM=>[.sl 5 (bI dC q.H),iJ q.d,.str q.frm,.str q.to,.str q.place,.i q.day]) (fun _=>[]) Pw (fun q=>Wv (gP (cF q.frm q.to q.place q.day) q.H q.d.marks)) fun _=>[]
theorem kB {d:iW}(h:Fd d):∀s∈d.marks,s.size≤60:=fun s hs=>by
 unfold iW.marks at hs;obtain⟨b,hb,rfl⟩:=aX.1 hs;exact h.mks b hb
theorem fV {d:iW}(h:Fd d):d.marks.length≤70:=by
 unfold iW.marks;rw[aJ];exact h.bx
theorem C1 (P:bH) (hm:bJ P 20 mV) (hh:bJ P 141 Cg):bN P UZ tC:=by
 intro args H K hc;obtain⟨⟨H,d,from_,to_,place_,day_⟩,rfl,rfl,hp,hK⟩:=hc;refine⟨cN,?_⟩;dsimp only at hp hK⊢;obtain⟨hl,hok,hz1,hz2,hz3⟩:=hp
 try dsimp only at hl hok hz1 hz2 hz3
 have hml:=fV hok;have hms:=kB hok;have hbl:=hok.bx;obtain⟨bs,hbs⟩:∃q,q=d.marks:=⟨_,rfl⟩
 obtain⟨⟨H9,o9⟩,hq⟩:∃q,q=gP (cF from_ to_ place_ day_) H bs:=⟨_,rfl⟩
 have hK:K (Wv (gP (cF from_ to_ place_ day_) H d.marks)) []:=hK;rw[←hbs,←hq]at hK;rw[←hbs]at hml hms;obtain⟨n,hn⟩:∃n:Nat,n=bs.length:=⟨_,rfl⟩
 obtain⟨number,seller,buyer,carrier,issuer,house,insurer,frm,to,cur,amt,boxes,term,latest,expiry,tenor,duty⟩:=d
 try dsimp only at hbl
 cbv
 (refine XG hm (⟨number,seller,buyer,carrier,issuer,house,insurer,frm,to,cur,amt,boxes,term,latest,expiry,tenor,duty⟩:iW) hbl ?_;try dsimp only)
 rw[←hbs];cbv;refine bV [] (fun p:{ p:Nat×List XL // WN (cF from_ to_ place_ day_) H bs p }=>[(0,.sl 5 (bI dC p.1.2)),(15,.i (nI p.1.1))]) (fun _=>[.blk 67 [.str number,.str seller,.str buyer,.str carrier,.str issuer,.str house,.str insurer,.str frm,.str to,.str cur,.i amt,.sl 3 (bI EW boxes),.i term,.i latest,.i expiry,.i tenor,.i duty]]) (fun p=>fK n p.1.1) ⟨(0,H),⟨aI _,rfl,aN _⟩⟩ ?_;rintro ⟨⟨k,Hk⟩,⟨hk,heq,hlen⟩⟩;dsimp only at hk heq hlen⊢;rcases aL k bs.length with hks|hks
 rotate_left
 ·obtain rfl:k=n:=by omega
  rw[List.drop_of_length_le (by omega),←hq]at heq;have e1:(H9,o9)=(Hk,true):=heq;cases e1;cbv;repeat'((first|refine .n fun h=>?_|refine .k fun z hz=>?_|fail)<;>cbv)
  (refine .q9 ?_;cbv;exact .inl (.f9 hK))
 obtain⟨b,hx⟩:=cM hks;have hbz:=hms b (aC hx);have hdr:bs.drop k=b :: bs.drop (k+1):=by
  obtain⟨h1,rfl⟩:=aA.1 hx;exact List.drop_eq_getElem_cons h1
 have heq2:gP (cF from_ to_ place_ day_) H bs=if eW Hk ⟨b,from_,to_,place_,day_⟩≠0 then (Hk,false) else gP (cF from_ to_ place_ day_) (Hk++[⟨b,from_,to_,place_,day_⟩]) (bs.drop (k+1)):=by rw[heq,hdr];rfl
 clear heq hdr;obtain⟨e,he⟩:∃e,e=eW Hk ⟨b,from_,to_,place_,day_⟩:=⟨_,rfl⟩
 rw[←he]at heq2;cbv;repeat'((first|refine .e ?_|refine .y fun h=>?_|refine .k fun z hz=>?_|fail)<;>cbv)
 (refine XG hh ((Hk,⟨b,from_,to_,place_,day_⟩):List XL×XL) ⟨by dsimp only;omega,by dsimp only;unfold maxLen;omega,by dsimp only;unfold maxLen;omega,by dsimp only;unfold maxLen;omega,by dsimp only;unfold maxLen;omega⟩ ?_;try dsimp only)
 rw[←he];cbv;repeat'((first|refine .mk (fun h=>?_) fun h=>?_|refine .k fun z hz=>?_|refine .o ?_|refine .zl fun zs hzs hzl=>?_|refine And.intro ?_ ?_|fail)<;>cbv)
 all_goals first
  |(rw[aF (by assumption),←hq]at heq2
    cases heq2
    (refine .q9 ?_;cbv;exact .inl (.f9 hK)))
  |(rw[aE (fun h=>h (by assumption))]at heq2
    obtain rfl:z=nI (k+1):=bS;obtain rfl:zs=bI dC (Hk++[⟨b,from_,to_,place_,day_⟩]):=by(rw[cB,cE];first|exact hzs|(subst_vars;rfl))
    refine dV (Gh.plain 2 rfl) ?_;cbv;exact bL ⟨(k+1,Hk++[⟨b,from_,to_,place_,day_⟩]),⟨hks,heq2,by(show (Hk++[_]).length≤H.length+(k+1);rw[aM,List.length_cons,List.length_nil];omega)⟩⟩ (bM (by omega)))
  |(rw[aE (fun h=>h (by assumption))]at heq2
    obtain rfl:z=nI (k+1):=bS;obtain rfl:zs=bI dC (Hk++[⟨b,from_,to_,place_,day_⟩]):=by(rw[cB,cE];first|exact hzs|(subst_vars;rfl))
    refine dV (Gh.plain 3 rfl) ?_;cbv;exact bL ⟨(k+1,Hk++[⟨b,from_,to_,place_,day_⟩]),⟨hks,heq2,by(show (Hk++[_]).length≤H.length+(k+1);rw[aM,List.length_cons,List.length_nil];omega)⟩⟩ (bM (by omega)))
  |(rw[aE (fun h=>h (by assumption))]at heq2
    obtain rfl:z=nI (k+1):=bS;obtain rfl:zs=bI dC (Hk++[⟨b,from_,to_,place_,day_⟩]):=by(rw[cB,cE];first|exact hzs|(subst_vars;rfl))
    refine dV (Gh.plain 4 rfl) ?_;cbv;exact bL ⟨(k+1,Hk++[⟨b,from_,to_,place_,day_⟩]),⟨hks,heq2,by(show (Hk++[_]).length≤H.length+(k+1);rw[aM,List.length_cons,List.length_nil];omega)⟩⟩ (bM (by omega)))
section
variable {P:bH}{N M:Nat}
theorem dG.block {id:Nat}{c:fL}{Q:uA→St→Prop}{st:St}(h:dG P N M c (Th id Q) st):dG P N M (.block id c) Q st:=⟨fun code C act w r pub hx hN hM hh=>by
 cases code with
 |block id' c'=>
  unfold eC at hx;obtain⟨y,hy,h'⟩:=map_some hx;cases h';refine wp_block (wp_mono (h.out c' C act w r pub hy hN hM hh) fun e a' w' hq=>?_);cases e with
  |normal=>exact hq
  |exit id'=>
   show if id'=id then _ else _
   obtain⟨st',r',pub',hk,hh⟩:=hq;have hk:if id'=id then Q .norm st' else Q (.exit id') st':=hk
   split
   ·rename_i e;rw[aF e]at hk;exact⟨st',r',pub',hk,hh⟩
   ·rename_i e;rw[aE e]at hk;exact⟨st',r',pub',hk,hh⟩
  |ret=>exact hq
  |goto l=>exact hq
  |panic ch=>exact hq.elim
  |outgrown=>exact hq.elim
 |region id ops draw=>
  unfold eC at hx;cases draw with
  |false=>
   simp only[aZ,if_false]at hx;obtain⟨l,hl,h⟩:=map_some hx;cases h
  |true=>
   simp only[if_true]at hx
   split at hx
   ·obtain⟨p,hp,h⟩:=map_some hx;cases h
   ·cases hx
 |cond c c1 c2=>
  unfold eC at hx
  split at hx<;>cases hx
 |seq c1 c2=>
  unfold eC at hx
  split at hx<;>cases hx
 |loop c=>unfold eC at hx;obtain⟨y,hy,h⟩:=map_some hx;cases h
 |scope c=>unfold eC at hx;obtain⟨y,hy,h⟩:=map_some hx;cases h
 |_=>cases hx⟩
theorem Ri {c:fL}{Q:uA→St→Prop}{st:St}{ι:Type}(F:ι→St) (μ:ι→Ms) (i0:ι) (h0:Gh M st (F i0)) (hr:∀i,dG P N M c (yR M F μ (μ i) Q) (F i)):pK P N M c Q st:=by
 refine⟨fun code C a w r pub hc hN hM h=>?_⟩;obtain⟨r1,p1,h1⟩:=h0 C a w r pub hM h;refine vU (fun n a w=>∃i r pub,(μ i).val=n∧bQ C (F i) a w r pub) (fun n a w hI=>?_) (n0:=(μ i0).val) ⟨i0,r1,p1,rfl,h1⟩;obtain⟨i,r,pub,rfl,hh⟩:=hI;refine wp_mono ((hr i).out code C a w r pub hc hN hM hh) fun e a' w' hq=>?_
 cases e with
 |normal=>
  obtain⟨st',r',pub',⟨⟨st2,j,hg,rfl,hlt⟩⟩,hh'⟩:=hq;obtain⟨r2,p2,h2⟩:=hg C a' w' r' pub' hM hh';exact⟨(μ j).val,hlt,j,r2,p2,rfl,h2⟩
 |exit id=>exact hq
 |ret=>exact hq
 |goto l=>exact hq
 |panic ch=>exact hq.elim
 |outgrown=>exact hq.elim
theorem yB {c:fL}{Q:uA→St→Prop}{T:List (Nat×AV)}{H:List cH}{ι:Type}(hs:List Nat) (F:ι→List (Nat×AV)) (G:ι→List cH) (μ:ι→Ms) (i0:ι)
  (hr:∀i,dG P N M c (yR M (fun i=>⟨F i++jG hs c.wr T,G i⟩) μ (μ i) Q) ⟨F i++jG hs c.wr T,G i⟩)
  (hw:rP T (F i0):=by repeat'(first|exact trivial|refine⟨.inl rfl,?_⟩|refine⟨.inr rfl,?_⟩)) (hH:H.take (G i0).length=G i0:=by rfl) (hb:uO (G i0).length (F i0++jG hs c.wr T)=true:=by rfl) (hbH:jR (G i0).length (G i0)=true:=by rfl) (hM:M≤(G i0).length:=by exact Nat.le_of_ble_eq_true rfl):pK P N M c Q ⟨T,H⟩:=
 Ri (fun i=>⟨F i++jG hs c.wr T,G i⟩) μ i0 (Gh.weakG (BB hw fun m=>by rcases mY hs T c.wr m with h|h;(· exact .inl h);exact .inr h.2) hH hb hbH hM) hr
end
section
variable {P:bH}{N M:Nat}
end
theorem bQ.freeze_ {C:nS}{st:St}{a:Act}{w:World}{r:cT}{pub:cZ}(h:bQ C st a w r pub) (k:Nat) {t sz:Nat}{xs:List AV}(hk:st.H[k]?=some (.tip t sz xs)) :
  bQ C ⟨jE k (.sl sz xs) st.T,st.H.map (cH.kill k (.sl sz xs))⟩ a w r pub∧∀z,r k=some z→bU pub w r (.sl sz xs) z:=by
 have hy:∀z,r k=some z→bU pub w r (.sl sz xs) z:=fun z hz=>by
  obtain⟨A,d,c,x,us,hr,_⟩:=h.ent_tip hk;rw[hr]at hz;cases hz;have h1:=h.view1 (x:=.hd k) (.hd hr rfl);simp only[St.view1,hk]at h1;exact h1
 refine⟨⟨⟨fun j e he=>?_,fun j hj=>h.mod.none_ j (by simpa using hj),h.mod.disj,h.mod.fresh,h.mod.there,h.mod.glob⟩,h.own,h.fr,h.slots.kill (fun _ _=>rfl) hy,h.defers,h.size,h.stab,by simpa using h.low⟩,hy⟩;rw[aD]at he;cases hj:st.H[j]? with
 |none=>rw[hj]at he;cases he
 |some e0=>
  rw[hj]at he;cases he;exact(h.mod.ent j e0 hj).kill (Fr.refl (fun _=>False) _ _) (fun _ _ _ _ h=>h) (fun _ _=>rfl) hy
theorem bT.kill_ {pub:cZ}{w:World}{r:cT}{n:Nat}{y:AV}{l:List AV}{us:List Value}(h:bT pub w r l us) (hy:∀z,r n=some z→bU pub w r y z):bT pub w r (AV.killL n l y) us:=
 ⟨by rw[AV.killL_map,aJ];exact h.len,fun i z u hz hu=>by
  obtain⟨x,hx,rfl⟩:=AV.killL_get hz;exact(h.at_ i x u hx hu).kill (fun _ _=>rfl) hy⟩
theorem kN {P:bH}{f:Nat}{keep:List Nat}{args:List AV}{st:St}{K:AV→St→Prop}(k:Nat) {t sz:Nat}{xs:List AV}(hk:uC st.H[k]?=some (t,sz,xs))
  (h:gG P keep f (AV.killL k args (.sl sz xs)) ⟨jE k (.sl sz xs) st.T,(st.H.set k (.tip t sz xs)).map (cH.kill k (.sl sz xs))⟩ K):gG P keep f args st K:=by
 have hk':st.H[k]?=some (.row t sz xs):=by
  cases he:st.H[k]? with
  |none=>rw[he]at hk;cases hk
  |some e=>cases e<;>rw[he]at hk<;>cases hk<;>rfl
 refine⟨fun C a w r pub vals hh hv=>?_⟩;obtain⟨pub1,h1,hext⟩:=hh.publish hk';have hkl:=(aA.1 hk').1;obtain⟨h2,hy⟩:=h1.freeze_ (t:=t) (sz:=sz) (xs:=xs) k (aQ hkl);refine(h.out C a w r pub1 vals h2 ((hv.ext hext).kill_ hy)).mono fun e w' hw=>?_
 obtain⟨v,x,st',r',pub',e1,e2,e3,e4,e5,e6⟩:=hw;exact⟨v,x,st',r',pub',e1,e2,e3,e4,hext.trans e5,e6⟩
end Go.Proofs.YtigdiekbiphhmaaGreatDoor
end
