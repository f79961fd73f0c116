/-
  Texts of this proof,joined: CWN,CWV,CYA,CYB,CYC,CYD,CYE,CYF,CYG,CYN,CYO,CYP,CJS,CYH,CAV,CYM,SGA,SGB,SG3,CJA,CYI,CYJ,VO,CYZ,JF.
-/
import Derived.Test.YtigdiekbiphhmaaGreatDoorK7
import Derived.KernelRfl
import Derived.Deep.Slices
import Derived.Deep.Fields
import Derived.ChangeSame
import Derived.ProofKit
import Derived.OpenShut
import Derived.ChangeOld
import Derived.Below
import Derived.Test.YtigdiekbiphhmaaGreatDoorChecked
import Derived.Test.YtigdiekbiphhmaaGreatDoorRows
import Derived.JoinedOf
set_option linter.unusedVariables false
set_option linter.unusedSimpArgs false
noncomputable section
namespace Go.Proofs.YtigdiekbiphhmaaGreatDoor
open Go.RowKit
set_option maxHeartbeats 8000000
set_option maxRecDepth 100000
structure W6 (b:Br):Prop where
 n:b.b.number.size≤1000
 h0:b.o0.holder.size≤1000
 h1:b.o1.holder.size≤1000
 h2:b.o2.holder.size≤1000
 s0:0≤b.o0.state∧b.o0.state≤3
 s1:0≤b.o1.state∧b.o1.state≤3
 s2:0≤b.o2.state∧b.o2.state≤3
theorem fU (s t:bH):jM (s++t)=jM s++jM t:=by
 obtain⟨⟨l⟩⟩:=s;obtain⟨⟨m⟩⟩:=t;unfold jM;rw[ByteArray.data_append];exact Array.toList_append ..
theorem fB (l:List UInt8):jM (lV l)=l:=rfl
theorem fQ (l:List UInt8):(lV l).size=l.length:=rfl
theorem Dj (s:bH):(jM s).length=s.size:=rfl
theorem rR {W:List bH}{f:bH→List UInt8}{c:Nat}(h:∀x∈W,(f x).length≤c):(W.flatMap f).length≤c * W.length:=by
 induction W with
 |nil=>exact aI _
 |cons a W ih=>
  rw[List.flatMap_cons,aM,List.length_cons,Nat.mul_succ];have h1:=h a (bD ..);have h2:=ih fun x hx=>h x (aW _ hx)
  omega
theorem AD (z:Int):(vX z).length≤9:=by unfold vX;(repeat' split)<;>decide
theorem Ct (z:Int):(zZ z).length≤7:=by unfold zZ;(repeat' split)<;>decide
theorem EY (b:Bool):(Oc b).length≤8:=by cases b<;>decide
theorem BQ (d:Dp):(xX d).length≤d.number.size+30:=by
 unfold xX;have h1:=AD d.state;have h2:=EY d.rel;have h3:=Dj d.number;have h4:R6.length=5:=rfl;simp only[aM,List.length_cons,List.length_nil];omega
theorem lR (n:bH) (k:UInt8) (o:Og):(lM n k o).length≤n.size+o.holder.size+30:=by
 unfold lM;have h1:=Ct o.state;have h2:=Dj n;have h3:=Dj o.holder;have h4:Sc.length=9:=rfl;simp only[aM,List.length_cons,List.length_nil];omega
def VT (name:bH) (D:List jD):List bH:=(D.map jD.de).foldl (fun l d=>if d.carrier=name then oF l d.number else l) []
theorem Lo (name:bH) (D:List jD):(VT name D).length≤D.length:=by
 have h:∀(D:List De) (l:List bH),(D.foldl (fun l d=>if d.carrier=name then oF l d.number else l) l).length≤l.length+D.length:=by
  intro D
  induction D with
  |nil=>intro l;exact aN _
  |cons a D ih=>
   intro l;rw[List.foldl_cons,List.length_cons];refine Nat.le_trans (ih _) ?_
   split
   ·have:=Eg l a.number;omega
   ·omega
 have:=h (D.map jD.de) [];rw[aJ]at this;exact Nat.le_trans this (by simp)
theorem NE:eQ 0=⟨#[48]⟩:=by kernel_rfl
theorem Md:eQ 1=⟨#[49]⟩:=by kernel_rfl
theorem Pg:eQ 2=⟨#[50]⟩:=by kernel_rfl
def Vk (o:bH) (y:Br):Nat→bH
 |0=>o
 |1=>o++lV (lM y.b.number 48 y.o0)
 |2=>o++lV (lM y.b.number 48 y.o0)++lV (lM y.b.number 49 y.o1)
 |_=>o++lV (lM y.b.number 48 y.o0)++lV (lM y.b.number 49 y.o1)++lV (lM y.b.number 50 y.o2)
theorem Vj (o:bH) (y:Br):Vk o y 3=o++lV (Ef y):=by
 apply jO;show jM (o++lV (lM y.b.number 48 y.o0)++lV (lM y.b.number 49 y.o1)++lV (lM y.b.number 50 y.o2))=_;unfold Ef;simp only[fU,fB,bG]
theorem Qq (o:bH) (y:Br) (h:W6 y) (j:Nat):(Vk o y j).size≤o.size+6200:=by
 have h1:=lR y.b.number 48 y.o0;have h2:=lR y.b.number 49 y.o1;have h3:=lR y.b.number 50 y.o2;have g0:=h.n;have g1:=h.h0;have g2:=h.h1;have g3:=h.h2
 match j with
 |0=>show o.size≤_;omega
 |1=>show (o++_).size≤_;rw[ByteArray.size_append,fQ];omega
 |2=>show (o++_++_).size≤_;rw[ByteArray.size_append,ByteArray.size_append,fQ,fQ];omega
 |j+3=>show (o++_++_++_).size≤_;rw[ByteArray.size_append,ByteArray.size_append,ByteArray.size_append,fQ,fQ,fQ];omega
theorem MU (L:List Br) (p:Br→Bool):(gM L p).length≤L.length:=by
 unfold gM dN;rw[aJ,List.length_mergeSort,aJ];exact List.length_filterMap_le ..
def Gp:bH:=⟨#[32]⟩
def Mb:bH:=⟨#[10]⟩
def Bw (s:bH):List cG:=[.blk 148 [yL s,.hd 1],.row 5 1 (kD s)]
def OP:dA:=spec (fun i:bH×bH=>[.ptr 0 0,.str i.2]) (fun i=>Bw i.1) (fun i=>i.1.size+i.2.size≤140737488355328∧i.2.size≠0) (fun i=>.tup [.int .i64 i.2.size,.v .nilIface]) fun i=>Bw (i.1++i.2)
def IG:dA:=spec (fun _:bH×AV=>[.ptr 0 0]) (fun i=>[.blk 148 [i.2,.hd 1],.row 5 1 (kD i.1)]) (fun _=>True) (fun i=>.str i.1) fun _=>[.blk 148 [.any,.any],.dead]
def NY:dA:=spec (fun i:bH×List bH=>[.sl 1 (bJ .str i.2),.ptr 0 0]) (fun i=>Bw i.1) (fun i=>i.1.size+(dY i.2 Gp).size+1≤140737488355328∧i.2.length≤1000) (fun _=>.tup []) fun i=>Bw (i.1++(dY i.2 Gp++Mb))
theorem IM (s:bH):fD (Bw s).length (Bw s)=true:=by
 show fD 2 [.blk 148 [yL s,.hd 1],.row 5 1 (kD s)]=true;unfold yL
 split<;>rfl
def yU (a:Nat) (s:bH):AV:=if s.size=0 then .v (.pointer none) else .ptr a 0
theorem C7 (a b n:Nat) (s:bH):gA [a,b] n (Bw s)=[.blk 148 [yU a s,.hd b],.row 5 1 (kD s)]:=by
 show gA [a,b] n [.blk 148 [yL s,.hd 1],.row 5 1 (kD s)]=_;unfold yL yU
 split<;>rfl
theorem nQ {P:bI}{f:Nat}{ι:Type}{ag:ι→List AV}{o o':ι→bH}{p:ι→Prop}{r:ι→AV}(hf:bK P f (spec ag (fun i=>Bw (o i)) p r fun i=>Bw (o' i))) (i:ι) (a b:Nat) {keep:List Nat}{args:List AV}{st:St}{K:AV→St→Prop}
  (hp:p i) (hargs:args=AV.renL [a,b] st.H.length (ag i)) (hba:AV.bndL 2 (ag i)=true) (hnd:[a,b].Nodup) (hlt:([a,b].all fun k=>Nat.blt k st.H.length)=true) (ha:st.H[a]?=some (.blk 148 [yU a (o i),.hd b])) (hb:st.H[b]?=some (.row 5 1 (kD (o i)))) (hkeep:(keep.all fun k=>![a,b].contains k && Nat.blt k st.H.length)=true)
  (hK:K ((r i).ren [a,b] st.H.length) ⟨iO st.T [b],rZ (gO st.H [b]) [a,b] [.blk 148 [yU a (o' i),.hd b],.row 5 1 (kD (o' i))]⟩):fY P keep f args st K:=by
 refine sU hf i [a,b] hp hargs rfl hnd hlt ?_ hba (IM _) hkeep ?_
 ·rw[C7];show [st.H[a]?,st.H[b]?]=_;rw[ha,hb];rfl
 ·rw[C7];exact hK
theorem N7 (t u:Nat) (s:bH) (xs:List AV):fD 2 [.blk t [yU 0 s,.hd 1],.row u 1 xs]=true:=by
 unfold yU
 split<;>rfl
theorem K5 (P:bI) (hj:bK P 57 PC) (hw:bK P 56 OP):bM P x55 NY:=by
 intro args H K hc;obtain⟨⟨out,ws⟩,rfl,rfl,hp,hK⟩:=hc;refine⟨cL,?_⟩;dsimp only at hp hK⊢;obtain⟨hsz,hl⟩:=hp
 try dsimp only at hsz hl
 obtain⟨j,hj1⟩:∃j,j=dY ws Gp:=⟨_,rfl⟩
 obtain⟨o2,ho2⟩:∃o,o=out++(j++Mb):=⟨_,rfl⟩
 obtain⟨sl2,hsl2⟩:∃a,a=yU 0 o2:=⟨_,rfl⟩
 obtain⟨by2,hby2⟩:∃a,a=kD o2:=⟨_,rfl⟩
 replace hK:K (.tup []) [.blk 148 [sl2,.hd 1],.row 5 1 by2]:=by rw[hsl2,hby2,ho2,hj1];exact hK
 rw[←hj1]at hsz;obtain⟨sl,hsl⟩:∃a,a=yU 0 out:=⟨_,rfl⟩
 obtain⟨by1,hby⟩:∃a,a=kD out:=⟨_,rfl⟩
 have hn1:Mb.size=1:=rfl;have hb0:Bw out=[.blk 148 [sl,.hd 1],.row 5 1 by1]:=by rw[hsl,hby];rfl
 rw[hb0];clear hb0;cbv
 (refine bX hj ((ws,Gp):List bH×bH) ⟨by dsimp only;rw[←hj1];omega,by dsimp only;omega⟩ ?_;try dsimp only)
 rw[←hj1];have z3:(ByteArray.mk (Array.mk [10])).size=1:=rfl;cbv;repeat'((first|refine .u fun u hu hul=>?_|fail)<;>cbv)
 obtain⟨jn,hjn⟩:∃j2,j2=j++Mb:=⟨_,rfl⟩
 obtain rfl:u=jn:=by rw[hjn];assumption
 subst hsl hby;refine nQ hw ((out,u):bH×bH) 0 1 ⟨by dsimp only;omega,by dsimp only;omega⟩ rfl rfl (by decide) rfl rfl rfl rfl ?_
 try dsimp only
 rw[hjn,←ho2,←hsl2,←hby2];cbv;refine bZ.mk ⟨_,Gh.refl _,?_⟩;cbv;exact .inl (eN.pre _ (by rfl) cL (by rfl) (by rw[hsl2];exact N7 _ _ _ _) (Le.refl _) (jW.refl _) hK)
structure Sx (C:Cr):Prop where
 nd:(C.deals.map Dp.number).Nodup
 dl:C.deals.length≤8
 dz:∀d∈C.deals,d.number.size≤300∧0≤d.state∧d.state≤4
 few:C.reg.bills.length≤256
 all:∀b∈C.reg.bills,inB b
 bz:∀b∈C.reg.bills,W6 b
 rn:fW C.reg.bills
 cu:iJ C.cust
def GV:dA:=spec (fun _:Cr=>[.ptr 0 0]) uQ Sx (fun C=>.str (lV (OI C))) uQ
structure CtF (P:bI):Prop where
 so:A5 P
 l7:SlLaysZ.n7 P pG
 ml:dB P 55
 li:bK P 55 NY
 st:bK P 61 IG
 bi:bK P 35 DB
 ors:bK P 16 oV
 it:bK P 60 (D5 eQ)
 bo:bK P 38 CH
 no:bK P 42 Re
theorem wI (a b c d s:bH):jM (dY [a,b,c,d] s)=jM a++(jM s++(jM b++(jM s++(jM c++(jM s++jM d))))):=by
 have h:[a,b,c,d]=a :: [b,c]++[d]:=rfl;have h2:[a,b,c]=a :: [b]++[c]:=rfl;have h3:[a,b]=a :: []++[b]:=rfl;rw[h,mE,h2,mE,h3,mE,Co];simp only[fU,bG]
theorem JX (a b c d e s:bH):jM (dY [a,b,c,d,e] s)=jM a++(jM s++(jM b++(jM s++(jM c++(jM s++(jM d++(jM s++jM e))))))):=by
 have h:[a,b,c,d,e]=a :: [b,c,d]++[e]:=rfl;rw[h,mE];have h4:jM (dY (a :: [b,c,d]) s)=_:=wI a b c d s;simp only[fU,h4,bG]
def dS:bH:=⟨#[100,101,97,108]⟩
theorem LL (d:Dp):dY [dS,d.number,lV (vX d.state),lV (Oc d.rel)] Gp++Mb=lV (xX d):=by
 apply jO;rw[fU,wI,fB,fB,fB];unfold xX;simp only[bG];rfl
def Xa:bH:=⟨#[111,114,105,103,105,110,97,108]⟩
theorem wZ (n h:bH) (k:UInt8) (o:Og) (d:bH) (hd:d=⟨#[k]⟩) (hh:o.holder=h):dY [Xa,n,d,lV (zZ o.state),h] Gp++Mb=lV (lM n k o):=by
 subst hd hh;apply jO;rw[fU,JX,fB,fB];unfold lM;simp only[bG];rfl
theorem Mq {L:List Br}{bill:bH}{y:Br}(hl:qF L bill=some y):yM L bill=J1 bill y:=by rw[I9,hl]
theorem NP (o:bH) (y:Br) (hy:W6 y) {nm:bH}(hn:y.b.number=nm) (j:Nat) (hj:j < 3):∃s h,(J1 nm y)[j]?=some ⟨nm,nI j,s,h⟩∧(0≤s∧s≤3)∧h.size≤1000∧(eQ (nI j)).size=1∧Vk o y (j+1)=Vk o y j++(dY [Xa,nm,eQ (nI j),lV (zZ s),h] Gp++Mb):=by
 obtain⟨b,st,⟨sa,ha,ca⟩,⟨sb,hb,cb⟩,⟨sc,hc,cc⟩⟩:=y;dsimp only at hn;subst hn
 match j,hj with
 |0,_=>exact⟨sa,ha,rfl,hy.s0,hy.h0,by rw[show eQ (nI 0)=⟨#[48]⟩ from NE];rfl,by rw[wZ b.number ha 48 ⟨sa,ha,ca⟩ (eQ (nI 0)) NE rfl];rfl⟩
 |1,_=>exact⟨sb,hb,rfl,hy.s1,hy.h1,by rw[show eQ (nI 1)=⟨#[49]⟩ from Md];rfl,by rw[wZ b.number hb 49 ⟨sb,hb,cb⟩ (eQ (nI 1)) Md rfl];rfl⟩
 |2,_=>exact⟨sc,hc,rfl,hy.s2,hy.h2,by rw[show eQ (nI 2)=⟨#[50]⟩ from Pg];rfl,by rw[wZ b.number hc 50 ⟨sc,hc,cc⟩ (eQ (nI 2)) Pg rfl];rfl⟩
def U5:bH:=⟨#[98,111,120]⟩
theorem Pq (b:bH) (own:List eC) (h:eC) (hl:own.getLast?=some h):dY [U5,b,h.to,h.place] Gp++Mb=lV (T6 b own):=by
 apply jO;rw[fU,wI,fB];unfold T6;rw[hl];simp only[bG];rfl
theorem Tu {L:List cP}(hc:iJ L) {b:bH}(hb:b∈dN (L.map cP.box)):∃h:eC,EM L b=(h.to,h.place,true)∧b.size≤16∧h.to.size≤16∧h.place.size≤16∧dY [U5,b,h.to,h.place] Gp++Mb=lV (Rf L b):=by
 obtain⟨c,hcm,he⟩:=aX.1 ((kM _).mem_iff.1 hb);have hl:gL cP.box L b=some c:=sR hc.nd hcm he;obtain⟨h,hh⟩:∃h,c.hist.getLast?=some h:=by
  cases hx:c.hist.getLast? with
  |none=>exact absurd (List.getLast?_eq_none_iff.1 hx) (hc.ne c hcm).1
  |some h=>exact⟨h,rfl⟩
 have hsz:=hc.sz c hcm;have hsh:=hsz.2 h (List.mem_of_getLast? hh);refine⟨h,?_,he ▸ hsz.1,hsh.1,hsh.2,?_⟩
 ·unfold EM;cases ha:kA cP.box L b with
  |none=>exact absurd he (jH (qM ha) hcm)
  |some i=>
   obtain⟨y,hy,hye⟩:=eA ha;have h2:=mB ha hy;rw[hl]at h2;cases h2;dsimp only;rw[hy];dsimp only;rw[hh]
 ·rw[Pq b c.hist h hh];unfold Rf;rw[hl]
theorem Hz (P:bI) (F:CtF P):bM P Z0 GV:=by
 intro args H K hc;obtain⟨⟨name,parties,deals,⟨rc,rL⟩,cust,deliv⟩,rfl,rfl,hp,hK⟩:=hc;refine⟨cL,?_⟩;dsimp only at hp hK⊢;obtain⟨hnd,hdl,hdz,hfew,hall,hbz,hrn,hcu⟩:=hp
 try dsimp only at hnd hdl hdz hfew hall hbz hrn hcu
 obtain⟨W,hW⟩:∃W,W=dN (deals.map Dp.number):=⟨_,rfl⟩
 have hWl:W.length=deals.length:=by rw[hW,iG,aJ]
 obtain⟨dF,hdF⟩:∃f,f=FY deals:=⟨_,rfl⟩
 obtain⟨O,hO⟩:∃O:Nat→bH,O=fun k=>lV ((W.take k).flatMap dF):=⟨_,rfl⟩
 obtain⟨SL,hSL⟩:∃f:bH→AV,f=yU 8:=⟨_,rfl⟩
 obtain⟨BY,hBY⟩:∃f:bH→List AV,f=kD:=⟨_,rfl⟩
 cbv;refine yC (ρK:=pG) F.l7 2 rfl rfl ?_;cbv;refine sI (ρK:=pG) (ρS:=iV) F.l7 F.so.l6 F.so.s F.so.e9 rfl 9 2 (f:=gI) (L:=deals) Dp.number (fun _=>rfl) rfl rfl hnd (fun a ha=>by have:=(hdz a ha).1;unfold maxLen;omega) (by omega) rfl ?_;rw[←hW];cbv;repeat'((first|refine .k fun z hz=>?_|fail)<;>cbv)
 refine gH (Gh.plain 10 rfl) ?_;cbv;refine gH (Gh.adoptC 8 1 5 1 rfl rfl) ?_;cbv;have hO0:SL (O 0)=.v (.pointer none):=by rw[hSL,hO];rfl
 have hB0:BY (O 0)=[]:=by rw[hBY,hO];rfl
 refine gH (Gh.cast [.blk 118 [.str name,.hd 1,.ph 2,.ptr 3 0,.ptr 5 0,.hd 7],.map 70 (bJ iF parties),.pool 116 (bJ gI deals) [],.blk 122 [.str rc,.ph 4],.pool 120 (bJ aaI rL) [],.blk 174 [.ph 6],.pool 172 (bJ eX cust) [],.tip 77 5 (bJ dG deliv),.blk 148 [SL (O 0),.hd 11],.blk 116 [.ph 2],.tip 9 1 (bJ .str W),.row 5 1 (BY (O 0))] (by rw[hO0,hB0])) ?_;clear hO0 hB0;obtain⟨n,hn⟩:∃n:Nat,n=W.length:=⟨_,rfl⟩
 have hSLc:∀o,SL o=.v (.pointer none)∨SL o=.ptr 8 0:=fun o=>by rw[hSL];unfold yU;split<;>simp
 have hSLe:∀o,SL o=yU 8 o:=fun o=>by rw[hSL]
 have hSLb:∀o,(SL o).bnd 12=true:=fun o=>by rw[hSL];unfold yU;split<;>rfl
 refine bS [] (fun p:{ k:Nat // k≤W.length }=>[(27,.i (nI p.1))]) (fun p=>[.blk 118 [.str name,.hd 1,.ph 2,.ptr 3 0,.ptr 5 0,.hd 7],.map 70 (bJ iF parties),.pool 116 (bJ gI deals) [],.blk 122 [.str rc,.ph 4],.pool 120 (bJ aaI rL) [],.blk 174 [.ph 6],.pool 172 (bJ eX cust) [],.tip 77 5 (bJ dG deliv),.blk 148 [SL (O p.1),.hd 11],.blk 116 [.ph 2],.tip 9 1 (bJ .str W),.row 5 1 (BY (O p.1))]) (fun p=>eW n p.1) ⟨0,aI _⟩ ?_ (hbH:=(by show fD 12 _=true;simp only[fD,qD,AV.bndL,hSLb];rfl));rintro ⟨k,hk⟩;dsimp only at hk⊢;have hWat:∀nm,nm∈W→∃d∈deals,d.number=nm:=fun nm hm=>by
  rw[hW]at hm;obtain⟨d,hd,he⟩:=aX.1 ((kM _).mem_iff.1 hm);exact⟨d,hd,he⟩
 have hOs:∀k nm,W[k]?=some nm→O (k+1)=O k++lV (dF nm):=fun k nm hx=>by
  rw[hO];apply jO;dsimp only;rw[dC hx,fU,fB,fB,fB,List.flatMap_append];simp
 rcases aL k W.length with hks|hks
 ·obtain⟨nm,hx⟩:=cK hks;cbv;repeat'((first|refine .e ?_|refine .y fun h=>?_|fail)<;>cbv)
  refine eE Dp.number (fun _=>rfl) (fun i y hai hy hky=>?_) (fun hai=>?_)<;>try dsimp only at *
  rotate_left
  ·obtain⟨d,hd,he⟩:=hWat nm (aC hx);exact absurd he (jH (qM hai) hd)
  have hdzy:=hdz y (aC hy);have hdy:dF nm=xX y:=by rw[hdF];unfold FY;rw[mB hai hy]
  have hln:=LL y;rw[←hdy]at hln;have hOn:=hOs k nm hx;rw[hky]at hln;rw[←hln]at hOn;have hws:(dY [dS,nm,lV (vX y.state),lV (Oc y.rel)] Gp).size≤4 * (300+1):=by
   refine kE _ _ 300 fun x hx=>?_
   have h1:=AD y.state;have h2:=EY y.rel;have h3:=hdzy.1;rw[hky]at h3;simp only[List.mem_cons,List.not_mem_nil,or_false]at hx;rcases hx with rfl|rfl|rfl|rfl
   ·decide
   ·exact h3
   ·rw[fQ];omega
   ·rw[fQ];omega
  have hOl:(O k).size≤3200:=by
   rw[hO];dsimp only;rw[fQ];have:=rR (W:=W.take k) (f:=dF) (c:=400) fun nm hm=>by
    obtain⟨d,hd,he⟩:=hWat nm (List.mem_of_mem_take hm);have hl:gL Dp.number deals nm=some d:=sR hnd hd he;have h1:dF nm=xX d:=by rw[hdF];unfold FY;rw[hl]
    have h2:=BQ d;have h3:=(hdz d hd).1;rw[h1];omega
   rw[aS]at this;omega
  obtain⟨number,seller,buyer,house,dfrm,dto,dboxes,state,rel⟩:=y;dsimp only at hky hdzy hln hOn hws;subst hky;obtain⟨o1,ho1⟩:∃o,o=O k:=⟨_,rfl⟩
  rw[←ho1]at hOn hOl⊢;clear hdy hln hOs hWat hdF hO;obtain⟨ws,hwsE⟩:∃ws,ws=[dS,number,lV (vX state),lV (Oc rel)]:=⟨_,rfl⟩
  rw[←hwsE]at hws hOn;have hwsl:ws.length=4:=by rw[hwsE];rfl
  cases rel with
  |true=>
   cbv;repeat'((first|refine .mk (fun h=>?_) fun h=>?_|refine .o ?_|refine And.intro ?_ ?_|fail)<;>cbv)
   all_goals first
   |exact F.ml
   |skip
   all_goals
    first|(obtain rfl:=‹state=Int.ofNat _›)|(obtain rfl:state=Int.ofNat 0:=by(obtain⟨_,hz1,hz2⟩:=hdzy;((try simp only[vn]at *)<;>omega)))
    rcases hSLc o1 with hs1|hs1
   all_goals
    rw[hs1];refine fS 13 rfl ?_;cbv;refine nQ F.li ((o1,ws):bH×List bH) 8 11 ⟨by dsimp only;omega,by dsimp only;omega⟩ (by subst hwsE;rfl) rfl (by decide) rfl (by rw[←hSLe,hs1];rfl) (by subst hBY;rfl) rfl ?_
    try dsimp only
    rw[←hOn,←hSL,←hBY];cbv;repeat'((first|refine .k fun z hz=>?_|fail)<;>cbv)
    obtain rfl:z=nI (k+1):=bQ;rcases hSLc (O (k+1))with hs2|hs2
   all_goals
    rw[hs2];refine dK (Gh.back0 2 [12] gI rfl hy) ?_;cbv;exact bN ⟨k+1,hks⟩ (bO (by omega)) (hH:=(by dsimp only;rw[hs2];rfl)) (hbH:=(by show fD 12 _=true;simp only[fD,qD,AV.bndL,hSLb];rfl))
  |false=>
   cbv;repeat'((first|refine .mk (fun h=>?_) fun h=>?_|refine .o ?_|refine And.intro ?_ ?_|fail)<;>cbv)
   all_goals first
   |exact F.ml
   |skip
   all_goals
    first|(obtain rfl:=‹state=Int.ofNat _›)|(obtain rfl:state=Int.ofNat 0:=by(obtain⟨_,hz1,hz2⟩:=hdzy;((try simp only[vn]at *)<;>omega)))
    rcases hSLc o1 with hs1|hs1
   all_goals
    rw[hs1];refine fS 13 rfl ?_;cbv;refine nQ F.li ((o1,ws):bH×List bH) 8 11 ⟨by dsimp only;omega,by dsimp only;omega⟩ (by subst hwsE;rfl) rfl (by decide) rfl (by rw[←hSLe,hs1];rfl) (by subst hBY;rfl) rfl ?_
    try dsimp only
    rw[←hOn,←hSL,←hBY];cbv;repeat'((first|refine .k fun z hz=>?_|fail)<;>cbv)
    obtain rfl:z=nI (k+1):=bQ;rcases hSLc (O (k+1))with hs2|hs2
   all_goals
    rw[hs2];refine dK (Gh.back0 2 [12] gI rfl hy) ?_;cbv;exact bN ⟨k+1,hks⟩ (bO (by omega)) (hH:=(by dsimp only;rw[hs2];rfl)) (hbH:=(by show fD 12 _=true;simp only[fD,qD,AV.bndL,hSLb];rfl))
 have hk9:k=n:=by omega
 have hOn:O n=lV (W.flatMap dF):=by rw[hO,hn];dsimp only;rw[List.take_length]
 have hOnl:(O n).size≤3200:=by
  rw[hOn,fQ];have:=rR (W:=W) (f:=dF) (c:=400) fun nm hm=>by
   obtain⟨d,hd,he⟩:=hWat nm hm;have hl:gL Dp.number deals nm=some d:=sR hnd hd he;have h1:dF nm=xX d:=by rw[hdF];unfold FY;rw[hl]
   have h2:=BQ d;have h3:=(hdz d hd).1;rw[h1];omega
  omega
 rw[hk9];clear hOs hWat
 obtain⟨o1,ho1⟩:∃o,o=O n:=⟨_,rfl⟩
 rw[←ho1]at hOn hOnl⊢;obtain⟨Wb,hWb⟩:∃w,w=gM rL fun _=>true:=⟨_,rfl⟩
 have hWbl:Wb.length≤256:=by rw[hWb];exact Nat.le_trans (MU rL _) hfew
 obtain⟨bF,hbF⟩:∃f,f=Pc rL:=⟨_,rfl⟩
 have hWbat:∀nm,nm∈Wb→∃y,y∈rL∧qF rL nm=some y∧y.b.number=nm∧bF nm=Ef y:=fun nm hm=>by
  rw[hWb]at hm;obtain⟨b,hb,-,he⟩:=PD.1 hm;cases hl:qF rL nm with
  |none=>
   unfold qF at hl;rw[List.find?_eq_none]at hl;exact absurd he (by simpa using hl b hb)
  |some y=>
   refine⟨y,List.mem_of_find?_eq_some hl,rfl,by have:=List.find?_some hl;simpa using this,?_⟩;rw[hbF];unfold Pc;rw[hl]
 obtain⟨O2,hO2⟩:∃f:Nat→bH,f=fun k=>o1++lV ((Wb.take k).flatMap bF):=⟨_,rfl⟩
 have hO20:O2 0=o1:=by rw[hO2];apply jO;rw[fU];simp[fB]
 have hO2s:∀k nm,Wb[k]?=some nm→O2 (k+1)=O2 k++lV (bF nm):=fun k nm hx=>by
  rw[hO2];apply jO;dsimp only;rw[dC hx,fU,fU,fU,fB,fB,fB,List.flatMap_append,bG];simp
 have hdF2:=hdF;have hO2l:∀k,(O2 k).size≤1700000:=fun k=>by
  rw[hO2];dsimp only;rw[ByteArray.size_append,fQ];have:=rR (W:=Wb.take k) (f:=bF) (c:=6200) fun nm hx=>by
   obtain⟨y,hy,-,-,he⟩:=hWbat nm (List.mem_of_mem_take hx);rw[he];have h:=hbz y hy;have g1:=lR y.b.number 48 y.o0;have g2:=lR y.b.number 49 y.o1;have g3:=lR y.b.number 50 y.o2;have:=h.n;have:=h.h0;have:=h.h1;have:=h.h2;unfold Ef;rw[aM,aM];omega
  rw[aS]at this;omega
 obtain⟨nw,hnw⟩:∃n:Nat,n=Wb.length:=⟨_,rfl⟩
 have hO2n:O2 nw=lV (W.flatMap dF++Wb.flatMap bF):=by
  rw[hO2,hOn,hnw];apply jO;dsimp only;rw[fU,fB,fB,fB,List.take_length]
 clear hO2;rcases hSLc o1 with hs1|hs1
 all_goals
  rw[hs1];cbv;repeat'((first|refine .n fun h=>?_|fail)<;>cbv)
  (refine fI F.bi (⟨rc,rL⟩:Rg) [3,4] ⟨hfew,hall⟩ ?_;try dsimp only)
  rw[←hWb];cbv;repeat'((first|refine .k fun z hz=>?_|fail)<;>cbv)
  refine bS [] (fun p:{ k:Nat // k≤Wb.length }=>[(59,.i (nI p.1))]) (fun p=>[.blk 118 [.str name,.hd 1,.ph 2,.ptr 3 0,.ptr 5 0,.hd 7],.map 70 (bJ iF parties),.pool 116 (bJ gI deals) [],.blk 122 [.str rc,.ph 4],.pool 120 (bJ aaI rL) [],.blk 174 [.ph 6],.pool 172 (bJ eX cust) [],.tip 77 5 (bJ dG deliv),.blk 148 [SL (O2 p.1),.hd 11],.blk 116 [.ph 2],.tip 9 1 (bJ .str W),.row 5 1 (BY (O2 p.1))]) (fun p=>eW nw p.1) ⟨0,aI _⟩ ?_ (hH:=(by dsimp only;rw[hO20,hs1];rfl)) (hbH:=(by show fD 12 _=true;simp only[fD,qD,AV.bndL,hSLb];rfl));rintro ⟨k2,hk2⟩;dsimp only at hk2⊢;rcases aL k2 Wb.length with hks2|hks2
  ·obtain⟨nm,hx⟩:=cK hks2;obtain⟨y,hy,hyl,hyn,hye⟩:=hWbat nm (aC hx);have hyz:=hbz y hy;have hnx:=hO2s k2 nm hx;have hol:=hO2l k2;obtain⟨oB,hoB⟩:∃o,o=O2 k2:=⟨_,rfl⟩
   rw[hye,←hoB,←Vj]at hnx;rw[←hoB]at hol⊢;have hor:=Mq hyl;obtain⟨orl,horl⟩:∃l,l=yM rL nm:=⟨_,rfl⟩
   have horl3:orl.length=3:=by rw[horl,hor];obtain⟨b,st,⟨sa,ha,ca⟩,⟨sb,hb,cb⟩,⟨sc,hc,cc⟩⟩:=y;rfl
   rw[←horl]at hor;obtain⟨O3,hO3⟩:∃f,f=Vk oB y:=⟨_,rfl⟩
   have hst3:∀j,j < 3→∃s h,orl[j]?=some ⟨nm,nI j,s,h⟩∧(0≤s∧s≤3)∧h.size≤1000∧(eQ (nI j)).size=1∧O3 (j+1)=O3 j++(dY [Xa,nm,eQ (nI j),lV (zZ s),h] Gp++Mb):=fun j hj=>by rw[hor,hO3];exact NP oB y hyz hyn j hj
   have hO30:O3 0=oB:=by rw[hO3];rfl
   have hO33:O3 3=O2 (k2+1):=by rw[hO3];exact hnx.symm
   have hO3l:∀j,(O3 j).size≤1710000:=fun j=>by have:=Qq oB y hyz j;rw[hO3];omega
   have hnml:nm.size≤1000:=hyn ▸ hyz.n;clear hO3 hor hnx hyz hye hyl hyn hy;rcases hSLc oB with hs2|hs2
   all_goals
    rw[hs2];cbv;repeat'((first|refine .e ?_|refine .y fun h=>?_|fail)<;>cbv)
    (refine fI F.ors ((⟨rc,rL⟩,nm):Rg×bH) [3,4] trivial ?_;try dsimp only)
    rw[←horl];cbv;repeat'((first|refine .k fun z hz=>?_|fail)<;>cbv)
    refine bS [] (fun p:{ k:Nat // k≤3 }=>[(70,.i (nI p.1))]) (fun p=>[.blk 118 [.str name,.hd 1,.ph 2,.ptr 3 0,.ptr 5 0,.hd 7],.map 70 (bJ iF parties),.pool 116 (bJ gI deals) [],.blk 122 [.str rc,.ph 4],.pool 120 (bJ aaI rL) [],.blk 174 [.ph 6],.pool 172 (bJ eX cust) [],.tip 77 5 (bJ dG deliv),.blk 148 [SL (O3 p.1),.hd 11],.blk 116 [.ph 2],.tip 9 1 (bJ .str W),.row 5 1 (BY (O3 p.1))]) (fun p=>eW 3 p.1) ⟨0,aI _⟩ ?_ (hH:=(by dsimp only;rw[hO30,hs2];rfl)) (hbH:=(by show fD 12 _=true;simp only[fD,qD,AV.bndL,hSLb];rfl));rintro ⟨j,hj⟩;dsimp only at hj⊢;rcases aL j 3 with hj3|hj3
    rotate_left
    ·obtain rfl:j=3:=by omega
     rw[hO33];cbv;repeat'((first|refine .n fun h=>?_|refine .k fun z hz=>?_|fail)<;>cbv)
     obtain rfl:z=nI (k2+1):=bQ;exact bN ⟨k2+1,hks2⟩ (bO (by omega)) (hbH:=(by show fD 12 _=true;simp only[fD,qD,AV.bndL,hSLb];rfl))
    obtain⟨st,hh,hx3,hs3,hhl,hil,hO3n⟩:=hst3 j hj3;have hO3j:=hO3l j;obtain⟨dg,hdg⟩:∃d,d=eQ (nI j):=⟨_,rfl⟩
    rw[←hdg]at hil hO3n;obtain⟨ws,hwsE⟩:∃ws,ws=[Xa,nm,dg,lV (zZ st),hh]:=⟨_,rfl⟩
    rw[←hwsE]at hO3n;have hwsl:ws.length=5:=by rw[hwsE];rfl
    have hws:(dY ws Gp).size≤5 * (1000+1):=by
     rw[hwsE];refine kE _ _ 1000 fun x hx=>?_
     have h1:=Ct st;simp only[List.mem_cons,List.not_mem_nil,or_false]at hx;rcases hx with rfl|rfl|rfl|rfl|rfl
     ·decide
     ·exact hnml
     ·omega
     ·rw[fQ];omega
     ·exact hhl
    obtain⟨o3,ho3⟩:∃o,o=O3 j:=⟨_,rfl⟩
    rw[←ho3]at hO3n hO3j⊢;clear ho3;cbv;repeat'((first|refine .e ?_|refine .n fun h=>?_|refine .y fun h=>?_|refine .mk (fun h=>?_) fun h=>?_|refine .o ?_|fail)<;>cbv)
    all_goals first|(exfalso;obtain⟨hq1,hq2⟩:=hs3;((try simp only[vn]at *)<;>omega))|skip
    all_goals
     (refine bX F.it (nI j:Int) ⟨by exact bQ,by exact bQ⟩ ?_;try dsimp only)
     rw[←hdg];cbv;repeat'((first|refine And.intro ?_ ?_|fail)<;>cbv)
    all_goals first
    |exact F.ml
    |skip
    all_goals
     first|(obtain rfl:=‹st=Int.ofNat _›)|(obtain rfl:st=Int.ofNat 0:=by(obtain⟨hz1,hz2⟩:=hs3;((try simp only[vn]at *)<;>omega)))
     rcases hSLc o3 with hs4|hs4
    all_goals
     rw[hs4];refine fS 13 rfl ?_;cbv;refine nQ F.li ((o3,ws):bH×List bH) 8 11 ⟨by dsimp only;omega,by dsimp only;omega⟩ (by subst hwsE;rfl) rfl (by decide) rfl (by rw[←hSLe,hs4];rfl) (by subst hBY;rfl) rfl ?_
     try dsimp only
     rw[←hO3n,←hSL,←hBY];cbv;repeat'((first|refine .k fun z hz=>?_|fail)<;>cbv)
     obtain rfl:z=nI (j+1):=bQ;exact bN ⟨j+1,hj3⟩ (bO (by omega)) (hbH:=(by show fD 12 _=true;simp only[fD,qD,AV.bndL,hSLb];rfl))
  have hk29:k2=nw:=by omega
  rw[hk29];obtain⟨oE,hoE⟩:∃o,o=O2 nw:=⟨_,rfl⟩
  have hoEl:=hO2l nw;rw[←hoE]at hO2n hoEl⊢;obtain⟨X,hX⟩:∃X,X=dN (cust.map cP.box):=⟨_,rfl⟩
  have hXl:X.length≤4096:=by rw[hX,iG,aJ];exact hcu.few
  obtain⟨xF,hxF⟩:∃f,f=Rf cust:=⟨_,rfl⟩
  have hXat:∀b,b∈X→∃h:eC,EM cust b=(h.to,h.place,true)∧b.size≤16∧h.to.size≤16∧h.place.size≤16∧dY [U5,b,h.to,h.place] Gp++Mb=lV (xF b):=fun b hb=>by
   rw[hX]at hb;rw[hxF];exact Tu hcu hb
  obtain⟨O4,hO4⟩:∃f:Nat→bH,f=fun k=>oE++lV ((X.take k).flatMap xF):=⟨_,rfl⟩
  have hO40:O4 0=oE:=by rw[hO4];apply jO;rw[fU];simp[fB]
  have hO4s:∀k nm,X[k]?=some nm→O4 (k+1)=O4 k++lV (xF nm):=fun k nm hx=>by
   rw[hO4];apply jO;dsimp only;rw[dC hx,fU,fU,fU,fB,fB,fB,List.flatMap_append,bG];simp
  have hO4l:∀k,(O4 k).size≤3000000:=fun k=>by
   rw[hO4];dsimp only;rw[ByteArray.size_append,fQ];have:=rR (W:=X.take k) (f:=xF) (c:=100) fun nm hx=>by
    obtain⟨h,-,h1,h2,h3,h4⟩:=hXat nm (List.mem_of_mem_take hx);have h5:=congrArg ByteArray.size h4;rw[fQ]at h5;rw[←h5,ByteArray.size_append];have h6:=kE [U5,nm,h.to,h.place] Gp 16 fun x hx=>by
     simp only[List.mem_cons,List.not_mem_nil,or_false]at hx;rcases hx with rfl|rfl|rfl|rfl
     ·decide
     ·exact h1
     ·exact h2
     ·exact h3
    have h7:Gp.size=1:=rfl;have h8:Mb.size=1:=rfl;have h9:[U5,nm,h.to,h.place].length=4:=rfl;rw[h9,h7]at h6;omega
   rw[aS]at this;omega
  obtain⟨nx,hnx⟩:∃n:Nat,n=X.length:=⟨_,rfl⟩
  have hO4n:O4 nx=lV (OI ⟨name,parties,deals,⟨rc,rL⟩,cust,deliv⟩):=by
   rw[hO4,hO2n,hnx,hxF,hX,hWb,hbF,hdF2,hW];apply jO;dsimp only;rw[fU,fB,fB,fB,List.take_length,bG];rfl
  rw[←hO4n]at hK;clear hO4 hO4n;rcases hSLc oE with hs5|hs5
  all_goals
   rw[hs5];cbv;repeat'((first|refine .n fun h=>?_|fail)<;>cbv)
   (refine fI F.bo cust [5,6] hcu ?_;try dsimp only)
   rw[←hX];cbv;repeat'((first|refine .k fun z hz=>?_|fail)<;>cbv)
   refine bS [] (fun p:{ k:Nat // k≤X.length }=>[(104,.i (nI p.1))]) (fun p=>[.blk 118 [.str name,.hd 1,.ph 2,.ptr 3 0,.ptr 5 0,.hd 7],.map 70 (bJ iF parties),.pool 116 (bJ gI deals) [],.blk 122 [.str rc,.ph 4],.pool 120 (bJ aaI rL) [],.blk 174 [.ph 6],.pool 172 (bJ eX cust) [],.tip 77 5 (bJ dG deliv),.blk 148 [SL (O4 p.1),.hd 11],.blk 116 [.ph 2],.tip 9 1 (bJ .str W),.row 5 1 (BY (O4 p.1))]) (fun p=>eW nx p.1) ⟨0,aI _⟩ ?_ (hH:=(by dsimp only;rw[hO40,hs5];rfl)) (hbH:=(by show fD 12 _=true;simp only[fD,qD,AV.bndL,hSLb];rfl));rintro ⟨k4,hk4⟩;dsimp only at hk4⊢;rcases aL k4 X.length with hks4|hks4
   ·obtain⟨b,hx⟩:=cK hks4;obtain⟨h9,hnow,hb1,hb2,hb3,hln⟩:=hXat b (aC hx);have hOn4:=hO4s k4 b hx;have hol4:=hO4l k4;rw[←hln]at hOn4;obtain⟨ws,hwsE⟩:∃ws,ws=[U5,b,h9.to,h9.place]:=⟨_,rfl⟩
    rw[←hwsE]at hOn4;have hwsl:ws.length=4:=by rw[hwsE];rfl
    have hws:(dY ws Gp).size≤4 * (16+1):=by
     rw[hwsE];refine kE _ _ 16 fun x hx=>?_
     simp only[List.mem_cons,List.not_mem_nil,or_false]at hx;rcases hx with rfl|rfl|rfl|rfl
     ·decide
     ·exact hb1
     ·exact hb2
     ·exact hb3
    obtain⟨hbox,hfrm,hto,hplace,hday⟩:=h9;dsimp only at hnow hwsE;obtain⟨o5,ho5⟩:∃o,o=O4 k4:=⟨_,rfl⟩
    rw[←ho5]at hOn4 hol4⊢;clear ho5 hXat hO4s hO4l;rcases hSLc o5 with hs6|hs6
    all_goals
     rw[hs6];cbv;repeat'((first|refine .e ?_|refine .y fun h=>?_|fail)<;>cbv)
     (refine fI F.no ((cust,b):List cP×bH) [5,6] hcu ?_;try dsimp only)
     rw[hnow];cbv;repeat'((first|refine And.intro ?_ ?_|fail)<;>cbv)
     ·exact F.ml
     refine fS 12 rfl ?_;cbv;refine nQ F.li ((o5,ws):bH×List bH) 8 11 ⟨by dsimp only;omega,by dsimp only;omega⟩ (by subst hwsE;rfl) rfl (by decide) rfl (by rw[←hSLe,hs6];rfl) (by subst hBY;rfl) rfl ?_
     try dsimp only
     rw[←hOn4,←hSL,←hBY];cbv;repeat'((first|refine .k fun z hz=>?_|fail)<;>cbv)
     obtain rfl:z=nI (k4+1):=bQ;exact bN ⟨k4+1,hks4⟩ (bO (by omega)) (hbH:=(by show fD 12 _=true;simp only[fD,qD,AV.bndL,hSLb];rfl))
   have hk49:k4=nx:=by omega
   rw[hk49];obtain⟨o6,ho6⟩:∃o,o=O4 nx:=⟨_,rfl⟩
   rw[←ho6]at hK⊢;cbv;repeat'((first|refine .n fun h=>?_|fail)<;>cbv)
   refine sU F.st ((o6,yL o6):bH×AV) [8,11] trivial rfl rfl (by decide) rfl (by subst hSL hBY;exact(congrArg (List.map some) (C7 8 11 _ o6)).symm) rfl (IM o6) rfl ?_
   try dsimp only
   cbv
   (refine .q9 ?_;cbv;exact .inl (.f9 hK))
set_option maxHeartbeats 4000000
theorem kB {α:Type}{L:List α}{i:Nat}{x:α}(h:L[i]?=some x):L.set i x=L:=by
 obtain⟨hl,rfl⟩:=aA.1 h;exact List.set_getElem_self hl
section
variable {s:Su}{C:Cr}{x:Cs}{d:Dp}{i:Nat}{l:dQ}{day:Int}{L0:List cP}
def Fw (C:Cr) (i:Nat) (d:Dp) (l:dQ) (day:Int) (L0:List cP):Prop:=∃L1,L1.Perm C.cust∧rH fL { C with cust:=L1 } d l day=({ (fZ ⟨C,i,d,l,day⟩ L0).2.1 with deals:=C.deals.set i (fZ ⟨C,i,d,l,day⟩ L0).2.2.1 },(fZ ⟨C,i,d,l,day⟩ L0).2.2.2)
theorem Wr (h:fJ s C x) (hd:gL Dp.number C.deals l.deal=some d):∃e st fr,d=cN e st fr:=by
 cases hi:dP s C.name l.deal with
 |none=>rw[h.no _ hi]at hd;cases hd
 |some j=>
  obtain⟨e,st,fr,-,-,-,-,h5⟩:=h.at hi;rw[h5]at hd;cases hd;exact⟨e,st,fr,rfl⟩
theorem Ib (h:fJ s C x) (ha:kA Dp.number C.deals l.deal=some i) (hd:C.deals[i]?=some d) (hp:L0.Perm C.cust) (hk:l.kind=4):Fw C i d l day L0:=by
 have hlk:=mB ha hd;obtain⟨e,st,fr,rfl⟩:=Wr h hlk;have hnum:(cN e st fr).number=l.deal:=(lQ hlk).2;have hX:fZ ⟨C,i,cN e st fr,l,day⟩ L0=aaK ⟨C,i,cN e st fr,l,day⟩ L0:=aF hk;have hP:∀M,rH fL { C with cust:=M } (cN e st fr) l day=(sB { C with cust:=M } (cN e st fr) l day,[]):=fun M=>aF hk
 unfold Fw;rw[hX];by_cases h1:l.frm≠(cN e st fr).seller∨(cN e st fr).state≠0
 ·refine⟨C.cust,.refl _,?_⟩;rw[hP];have g1:aaK ⟨C,i,cN e st fr,l,day⟩ L0=(false,C,cN e st fr,[]):=aF h1;have g2:sB { C with cust:=C.cust } (cN e st fr) l day=C:=aF h1;rw[g1,g2,kB hd]
 ·have g1:aaK ⟨C,i,cN e st fr,l,day⟩ L0=match fC C.name (cN e st fr) day L0 (cN e st fr).boxes with
   |none=>(false,C,cN e st fr,[])
   |some L=>(true,{ C with cust:=L },wW 1 (cN e st fr),[]):=aE h1
  have g2:∀M,sB { C with cust:=M } (cN e st fr) l day=match fC C.name (cN e st fr) day M (cN e st fr).boxes with
   |none=>{ C with cust:=M }
   |some L=>qC { { C with cust:=M } with cust:=L } (cN e st fr).number (wW 1):=fun M=>aE h1
  rw[g1];rcases zR C.name e st fr day (cN e st fr).boxes L0 x.H (h.cust.perm hp.symm)with ⟨k1,k2⟩|⟨L',H',k1,k2,k3⟩
  ·refine⟨C.cust,.refl _,?_⟩;rw[hP,g2,k1];rcases zR C.name e st fr day (cN e st fr).boxes C.cust x.H h.cust with ⟨k3,k4⟩|⟨L',H',k3,k4,k5⟩
   ·rw[k3];dsimp only;rw[kB hd]
   ·rw[k2]at k4;cases k4
  ·refine⟨L0,hp,?_⟩;rw[hP,g2,k1];dsimp only;unfold qC;dsimp only;rw[hnum,nN h.nd (wW 1) ha hd]
theorem Ld (h:fJ s C x) (ha:kA Dp.number C.deals l.deal=some i) (hd:C.deals[i]?=some d) (hp:L0.Perm C.cust) (hk:l.kind=20):Fw C i d l day L0:=by
 have hlk:=mB ha hd;have hnum:d.number=l.deal:=(lQ hlk).2;have hX:fZ ⟨C,i,d,l,day⟩ L0=pR ⟨C,i,d,l,day⟩ L0:=by
  unfold fZ;dsimp only;rw[aE (by omega),aE (by omega),aF hk]
 have hP:∀M,rH fL { C with cust:=M } d l day=Fi fL { C with cust:=M } d l day:=fun M=>by
  unfold rH;rw[aE (by omega),aE (by omega),aF hk]
 unfold Fw;rw[hX];by_cases h1:d.state≠3∨d.rel=false
 ·refine⟨C.cust,.refl _,?_⟩;rw[hP];have g1:pR ⟨C,i,d,l,day⟩ L0=(false,C,d,eR fL l):=aF h1;have g2:Fi fL { C with cust:=C.cust } d l day=(C,eR fL l):=aF h1;rw[g1,g2,kB hd]
 ·have g1:pR ⟨C,i,d,l,day⟩ L0=match eU (cU C.name l.frm d.to day) L0 d.boxes with
   |none=>(false,C,d,eR fL l)
   |some L=>if jN C.reg (cJ 2 d l day)≠0 then (false,C,d,eR fL l) else (true,{ C with cust:=L,deliv:=C.deliv++d.boxes.map (cU C.name l.frm d.to day),reg:=xW C.reg (cJ 2 d l day) },wW 4 d,[{ oN with to:=l.frm,kind:=21,boxes:=d.boxes }]):=aE h1
  have g2:∀M,Fi fL { C with cust:=M } d l day=match eU (cU C.name l.frm d.to day) M d.boxes with
   |none=>({ C with cust:=M },eR fL l)
   |some L=>if jN C.reg (cJ 2 d l day)≠0 then ({ C with cust:=M },eR fL l) else
    (qC { C with cust:=L,deliv:=C.deliv++d.boxes.map (cU C.name l.frm d.to day),reg:=xW C.reg (cJ 2 d l day) } d.number (wW 4),[{ oN with to:=l.frm,kind:=21,boxes:=d.boxes }]):=fun M=>aE h1
  rw[g1];rcases qG (cU C.name l.frm d.to day) d.boxes L0 x.H (h.cust.perm hp.symm)with ⟨k1,k2⟩|⟨L',k1,k2,k3⟩
  ·refine⟨C.cust,.refl _,?_⟩;rw[hP,g2,k1];rcases qG (cU C.name l.frm d.to day) d.boxes C.cust x.H h.cust with ⟨k3,k4⟩|⟨L',k3,k4,k5⟩
   ·rw[k3];dsimp only;rw[kB hd]
   ·rw[k2]at k4;cases k4
  ·by_cases h2:jN C.reg (cJ 2 d l day)≠0
   ·refine⟨C.cust,.refl _,?_⟩;rw[hP,g2,k1];dsimp only;rw[aF h2];rcases qG (cU C.name l.frm d.to day) d.boxes C.cust x.H h.cust with ⟨k4,k5⟩|⟨L'',k4,k5,k6⟩
    ·rw[k2]at k5;cases k5
    ·rw[k4];dsimp only;rw[aF h2,kB hd]
   ·refine⟨L0,hp,?_⟩;rw[hP,g2,k1];dsimp only;rw[aE h2,aE h2];unfold qC;dsimp only;rw[hnum,nN h.nd (wW 4) ha hd]
theorem KS (h:fJ s C x) (ha:kA Dp.number C.deals l.deal=some i) (hd:C.deals[i]?=some d) (hp:L0.Perm C.cust):Fw C i d l day L0:=by
 by_cases k1:l.kind=4
 ·exact Ib h ha hd hp k1
 by_cases k3:l.kind=20
 ·exact Ld h ha hd hp k3
 have hlk:=mB ha hd;have hnum:d.number=l.deal:=(lQ hlk).2;refine⟨C.cust,.refl _,?_⟩;show rH fL C d l day=_;unfold fZ rH;dsimp only;rw[aE k1,aE k1];by_cases k2:l.kind=8
 ·rw[aF k2,aF k2];by_cases h2:kY C.parties l.party=false∨l.party=l.frm∨jN C.reg (cJ 1 d l day)≠0
  ·rw[AB h2];have:AC fL C d l day=(C,eR fL l):=aF h2;rw[this,kB hd]
  ·have g1:AC fL C d l day=({ C with reg:=xW C.reg (cJ 1 d l day) },[{ oN with to:=l.party,kind:=9,index:=l.index,party:=l.party }]):=aE h2;unfold mT;dsimp only;rw[g1,kB hd]
 rw[aE k2,aE k2,aE k3,aE k3];by_cases k4:l.kind=19
 ·rw[aF k4,aF k4];unfold BG Fx;dsimp only;by_cases h2:d.house≠eS∧l.frm=d.house
  ·rw[aF h2,aF h2];unfold qC;rw[hnum,nN h.nd MI ha hd]
  ·rw[aE h2,aE h2,kB hd]
 rw[aE k4,aE k4];by_cases k5:l.kind=23
 ·rw[aF k5,aF k5];by_cases h2:jN C.reg (cJ 3 d l day)=0
  ·rw[vG h2];have g1:sL fL C d l day=({ C with reg:=xW C.reg (cJ 3 d l day) },[]):=aE (fun h=>h h2);rw[g1,kB hd]
  ·rw[Bc h2];have g1:sL fL C d l day=(C,eR fL l):=aF h2;rw[g1,kB hd]
 rw[aE k5,aE k5];by_cases k6:l.kind=24
 ·rw[aF k6,aF k6];by_cases h2:jN C.reg (cJ 4 d l day)=0
  ·rw[wG h2];have g1:sF fL C d l day=({ C with reg:=xW C.reg (cJ 4 d l day) },[{ oN with to:=l.frm,kind:=25,index:=l.index }]):=aE (fun h=>h h2);rw[g1,kB hd]
  ·rw[AF h2];have g1:sF fL C d l day=(C,eR fL l):=aF h2;rw[g1,kB hd]
 rw[aE k6,aE k6,kB hd]
theorem JL (h:fJ s C x) (l:dQ) (day:Int) (hp:L0.Perm C.cust):∃L1,L1.Perm C.cust∧(iB C l day L0).2=nO fL { C with cust:=L1 } l day:=by
 cases ha:kA Dp.number C.deals l.deal with
 |none=>
  refine⟨C.cust,.refl _,?_⟩;rw[sQ ha];unfold nO;dsimp only;rw[qM ha]
 |some i=>
  obtain⟨d,hd,hdn⟩:=eA ha;have hlk:=mB ha hd;by_cases hin:kY C.parties l.frm=false
  ·refine⟨C.cust,.refl _,?_⟩;rw[vH hin];unfold nO;dsimp only;rw[hlk];dsimp only;rw[aF hin]
  ·obtain⟨L1,hp1,he⟩:=KS (day:=day) h ha hd hp;refine⟨L1,hp1,?_⟩;unfold iB nO;dsimp only;rw[ha,hlk];dsimp only;rw[hd];dsimp only;rw[aE hin,aE hin,he]
end
set_option maxHeartbeats 8000000
structure DQ where
 C:Cr
 s:jC
 name:bH
 x:Cs
 o:jZ
structure Zh (q:DQ):Prop where
 c:Vy ⟨q.C,q.o.a.kind,q.o.a.n,q.o.a.deal,q.o.day⟩
 a:R8 ⟨q.s,q.name,q.x,q.o.a,q.o.day⟩
 eq:(lH eV q.C q.o.a.kind q.o.a.deal q.o.day).2=(kZ eV q.s.su q.name q.x q.o.a.kind q.o.a.deal q.o.day).2
 ok:(kZ eV q.s.su q.name q.x q.o.a.kind q.o.a.deal q.o.day).2.1.length≤1000∧∀l∈(kZ eV q.s.su q.name q.x q.o.a.kind q.o.a.deal q.o.day).2.1,tM l
structure Y9 (q:DQ):Prop where
 c:T3 ⟨q.C,q.o.l,q.o.day⟩
 t:Sl ⟨q.s,q.name,q.x,q.o.l,q.o.day⟩
 eq:∀L0:List cP,L0.Perm q.C.cust→(iB q.C q.o.l q.o.day L0).2.2=(fA fL q.s.su q.name q.x q.o.l q.o.day).2
 ok:(fA fL q.s.su q.name q.x q.o.l q.o.day).2.length≤1000∧∀l∈(fA fL q.s.su q.name q.x q.o.l q.o.day).2,tM l
def tC (q:DQ):List AV:=[.ptr 0 0,Jq q.s,.str q.name,Fc q.x,sE q.o]
def Wt:dA:=spec tC (fun q=>uQ q.C) (fun q=>q.o.kind=0∧Zh q) (fun q=>.tup [Fc (kZ eV q.s.su q.name q.x q.o.a.kind q.o.a.deal q.o.day).1,.bl true]) fun q=>uQ (lH eV q.C q.o.a.kind q.o.a.deal q.o.day).1
def Va:dA:=oA tC (fun q=>uQ q.C) (fun q=>q.o.kind=1∧Y9 q) (fun q (L0:List cP)=>L0.Perm q.C.cust) (fun q _=>.tup [Fc (fA fL q.s.su q.name q.x q.o.l q.o.day).1,.bl true]) fun q L0=>Pb (iB q.C q.o.l q.o.day L0).1 (iB q.C q.o.l q.o.day L0).2.1 q.C.cust
def Wv:dA:=spec tC (fun q=>uQ q.C) (fun q=>¬q.o.kind=0∧¬q.o.kind=1) (fun q=>.tup [Fc q.x,.bl true]) fun q=>uQ q.C
theorem Tb (P:bI) (hac:bK P 23 (xO fun _=>True)) (hra:bK P 65 (Uj fun _=>True)) (hal:bK P 66 MS):bM P Xc Wt:=by
 intro args H0 K hc;obtain⟨⟨C,s,name,x,⟨okind,day,⟨ak,an,adeal⟩,l⟩⟩,rfl,rfl,⟨hk,hcq,haq,heq,hok⟩,hK⟩:=hc;refine⟨cL,?_⟩;dsimp only at hk hcq haq heq hok hK⊢;subst hk;obtain⟨r1,hr1⟩:∃r,r=lH eV C ak adeal day:=⟨_,rfl⟩
 obtain⟨r2,hr2⟩:∃r,r=kZ eV s.su name x ak adeal day:=⟨_,rfl⟩
 rw[←hr1,←hr2]at heq;rw[←hr2]at hok hK;rw[←hr1]at hK;obtain⟨⟨name1,parties1,deals1,⟨rc1,rL1⟩,cust1,deliv1⟩,l1,e1⟩:=r1;obtain⟨⟨S2,free2,⟨c2,L2⟩,H2,D2⟩,l2,e2⟩:=r2;dsimp only at heq hok hK;cases heq;obtain⟨cname,cparties,cdeals,⟨rc,rL⟩,cust,deliv⟩:=C;obtain⟨parties,deals,funds,rest,holidays⟩:=s;obtain⟨S,free,⟨c,L⟩,H,D⟩:=x;obtain⟨frm,to,number,lkind,ack,ldeal,text,party,index,day0,cur,amt,docs,boxes⟩:=l;unfold tC;dsimp only;cbv;repeat'((first|refine .y fun h=>?_|fail)<;>cbv)
 (refine fI hac (⟨⟨cname,cparties,cdeals,⟨rc,rL⟩,cust,deliv⟩,ak,an,adeal,day⟩:CQ) [0,1,2,3,4,5,6,7] ⟨trivial,hcq⟩ ?_;try dsimp only)
 rw[←hr1];cbv
 (refine bX hra (⟨⟨parties,deals,funds,rest,holidays⟩,name,⟨S,free,⟨c,L⟩,H,D⟩,⟨ak,an,adeal⟩,day⟩:Tl) ⟨trivial,haq⟩ ?_;try dsimp only)
 rw[←hr2];cbv;repeat'((first|refine .y fun h=>?_|fail)<;>cbv)
 (refine bX hal l1 hok ?_;try dsimp only)
 cbv
 (refine .q9 ?_;cbv;exact .inl (.g9 hK))
theorem Rp (P:bI) (hti:bK P 24 CI):bM P Xc Wv:=by
 intro args H0 K hc;obtain⟨⟨C,s,name,x,⟨okind,day,⟨ak,an,adeal⟩,l⟩⟩,rfl,rfl,⟨hk0,hk1⟩,hK⟩:=hc;refine⟨cL,?_⟩;dsimp only at hk0 hk1 hK⊢;obtain⟨cname,cparties,cdeals,⟨rc,rL⟩,cust,deliv⟩:=C;obtain⟨parties,deals,funds,rest,holidays⟩:=s;obtain⟨S,free,⟨c,L⟩,H,D⟩:=x;obtain⟨frm,to,number,lkind,ack,ldeal,text,party,index,day0,cur,amt,docs,boxes⟩:=l;unfold tC;dsimp only;cbv;repeat'((first|refine .n fun h=>?_|fail)<;>cbv)
 all_goals
  (refine fI hti ((⟨cname,cparties,cdeals,⟨rc,rL⟩,cust,deliv⟩,day):Cr×Int) [0,1,2,3,4,5,6,7] trivial ?_;try dsimp only)
  cbv;repeat'((first|refine .y fun h=>?_|fail)<;>cbv)
  (refine .q9 ?_;cbv;exact .inl (.g9 hK))
theorem PX (P:bI) (hta:bK P 18 (sS fun _=>True)) (hrt:bK P 67 (Om fun _=>True)) (hal:bK P 66 MS):bM P Xc Va:=by
 intro args H0 K hc;obtain⟨⟨C,s,name,x,⟨okind,day,⟨ak,an,adeal⟩,l⟩⟩,rfl,rfl,⟨hk,hcq,htq,heq,hok⟩,hK⟩:=hc;refine⟨cL,?_⟩;dsimp only at hk hcq htq heq hok hK⊢;subst hk;obtain⟨r2,hr2⟩:∃r,r=fA fL s.su name x l day:=⟨_,rfl⟩
 rw[←hr2]at hok hK heq;obtain⟨⟨S2,free2,⟨c2,L2⟩,H2,D2⟩,l2⟩:=r2;dsimp only at heq hok;obtain⟨cname,cparties,cdeals,⟨rc,rL⟩,cust,deliv⟩:=C;obtain⟨parties,deals,funds,rest,holidays⟩:=s;obtain⟨S,free,⟨c,L⟩,H,D⟩:=x;obtain⟨frm,to,number,lkind,ack,ldeal,text,party,index,day0,cur,amt,docs,boxes⟩:=l;unfold tC;dsimp only;cbv;repeat'((first|refine .n fun h=>?_|refine .y fun h=>?_|fail)<;>cbv)
 refine eB hta (⟨⟨cname,cparties,cdeals,⟨rc,rL⟩,cust,deliv⟩,⟨frm,to,number,lkind,ack,ldeal,text,party,index,day0,cur,amt,docs,boxes⟩,day⟩:TQ) [0,1,2,3,4,5,6,7] ⟨trivial,hcq⟩ rfl rfl (by decide) rfl rfl rfl rfl rfl ?_;intro L0 hp0;have hK:=hK L0 hp0;have heq:=heq L0 hp0;obtain⟨r1,hr1⟩:∃r,r=iB ⟨cname,cparties,cdeals,⟨rc,rL⟩,cust,deliv⟩ ⟨frm,to,number,lkind,ack,ldeal,text,party,index,day0,cur,amt,docs,boxes⟩ day L0:=⟨_,rfl⟩
 rw[←hr1]at hK heq
 try dsimp only
 rw[←hr1];obtain⟨mv,⟨name1,parties1,deals1,⟨rc1,rL1⟩,cust1,deliv1⟩,l1⟩:=r1
 try dsimp only at hK heq
 subst heq;clear hr1;cases mv with
 |false=>
  cbv
  (refine bX hrt (⟨⟨parties,deals,funds,rest,holidays⟩,name,⟨S,free,⟨c,L⟩,H,D⟩,⟨frm,to,number,lkind,ack,ldeal,text,party,index,day0,cur,amt,docs,boxes⟩,day⟩:QI) ⟨trivial,htq⟩ ?_;try dsimp only)
  rw[←hr2];cbv
  (refine bX hal l1 hok ?_;try dsimp only)
  cbv
  (refine .q9 ?_;cbv;exact .inl (.g9 hK))
 |true=>
  cbv
  (refine bX hrt (⟨⟨parties,deals,funds,rest,holidays⟩,name,⟨S,free,⟨c,L⟩,H,D⟩,⟨frm,to,number,lkind,ack,ldeal,text,party,index,day0,cur,amt,docs,boxes⟩,day⟩:QI) ⟨trivial,htq⟩ ?_;try dsimp only)
  rw[←hr2];cbv
  (refine bX hal l1 hok ?_;try dsimp only)
  cbv
  (refine .q9 ?_;cbv;exact .inl (eN.sel [0,1,2,3,4,5,6,7,12,13] _ _ (by rfl) (by rfl) (by decide) (by rfl) cL (by rfl) (by rfl) (Le.refl _) (jW.refl _) hK))
set_option maxHeartbeats 4000000
structure XB (k:Nat) (s:jC) (x:Cs):Prop where
 S:x.S.length=s.deals.length
 F:x.free.length=s.deals.length
 st:∀z∈x.S,0≤z∧z≤4
 inv:vN k x.reg
 H:x.H.length≤140 * k
 D:x.D.length≤70 * k
theorem pD {L:List Int}{i:Nat}{y z:Int}(h:z∈L.set i y):z∈L∨z=y:=by
 rcases List.mem_or_eq_of_mem_set h with h|h
 ·exact .inl h
 ·exact .inr h
theorem BK {name:bH}{d:De}{day:Int}:∀{bs:List bH}{H H':List eC},kX name d day H bs=some H'→H'.length=H.length+2 * bs.length
 |[],H,H',h=>by cases h;simp
 |b :: r,H,H',h=>by
  have g:kX name d day H (b :: r)=if vL H (cU eS d.seller d.frm day b)≠0 then none else if iD (H++[cU eS d.seller d.frm day b]) (cU d.seller name d.frm day b)≠0 then none else kX name d day (H++[cU eS d.seller d.frm day b]++[cU d.seller name d.frm day b]) r:=rfl
  rw[g]at h
  split at h
  ·cases h
  split at h
  ·cases h
  have:=BK h;simp only[aM,List.length_cons,List.length_nil]at this⊢;omega
theorem Ao {f:bH→eC}:∀{bs:List bH}{H H':List eC},iE f H bs=some H'→H'.length=H.length+bs.length
 |[],H,H',h=>by cases h;simp
 |b :: r,H,H',h=>by
  have g:iE f H (b :: r)=if iD H (f b)≠0 then none else iE f (H++[f b]) r:=rfl
  rw[g]at h
  split at h
  ·cases h
  have:=Ao h;simp only[aM,List.length_cons,List.length_nil]at this⊢;omega
section
variable {k:Nat}{s:jC}{x:Cs}{name:bH}{l:dQ}{day:Int}
theorem XB.succ (h:XB k s x):XB (k+1) s x:=⟨h.S,h.F,h.st,h.inv.mono (Nat.le_succ k),by have:=h.H;omega,by have:=h.D;omega⟩
theorem XB.reg (h:XB k s x) {R:Rg}(hR:vN (k+1) R):XB (k+1) s { x with reg:=R }:=⟨h.S,h.F,h.st,hR,by have:=h.H;show x.H.length≤_;omega,by have:=h.D;show x.D.length≤_;omega⟩
theorem E9 {i:Nat}{d:De}(hs:nP s) (hd:s.su.deals[i]?=some d):d.boxes.length≤70:=by
 have hd:(s.deals.map jD.de)[i]?=some d:=hd;rw[aD]at hd;cases he:s.deals[i]? with
 |none=>rw[he]at hd;cases hd
 |some e=>
  rw[he]at hd;cases hd;have:=(hs.ok e (aC he)).bx;show (e.boxes.map IP.mark).length≤70;rw[aJ];exact this
theorem Uy:xS cJ.noBl:=⟨aI _,aI _⟩
theorem XB.take (h:XB k s x) (hs:nP s) (nm:Int→bH):XB (k+1) s (fA nm s.su name x l day).1:=by
 unfold fA
 split
 ·exact h.succ
 rename_i i hi
 split
 ·exact h.succ
 split
 rotate_left
 ·exact h.succ
 rename_i d st fr hd hst hfr;have hbx:=E9 hs hd
 split
 ·split
  ·split
   ·exact h.succ
   ·rename_i H hH;have:=BK hH;have hx:=h.H;refine⟨?_,h.F,fun z hz=>?_,h.inv.mono (Nat.le_succ k),?_,?_⟩
    ·show (x.S.set i 1).length=_;rw[bA];exact h.S
    ·rcases pD (show z∈x.S.set i 1 from hz)with hz|hz
     ·exact h.st z hz
     ·omega
    ·show H.length≤_;omega
    ·have:=h.D;show x.D.length≤_;omega
  ·exact h.succ
 split
 ·split
  ·refine⟨h.S,?_,h.st,h.inv.mono (Nat.le_succ k),?_,?_⟩
   ·show (x.free.set i true).length=_;rw[bA];exact h.F
   ·have:=h.H;show x.H.length≤_;omega
   ·have:=h.D;show x.D.length≤_;omega
  ·exact h.succ
 split
 rotate_left
 ·exact h.succ
 rename_i hk4 hk19 hkk;dsimp only;have hdo:∀k9:Int,0≤k9∧k9≤5→vN (k+1) (kF x.reg (eY k9 d l day)).1:=fun k9 hk9=>O0 h.inv hk9 Uy
 have hk9:0≤(if l.kind=8 then (1:Int) else if l.kind=20 then 2 else if l.kind=23 then 3 else 4)∧(if l.kind=8 then (1:Int) else if l.kind=20 then 2 else if l.kind=23 then 3 else 4)≤5:=by
  repeat' split
  all_goals decide
 obtain⟨k9,hke⟩:∃k9:Int,k9=(if l.kind=8 then (1:Int) else if l.kind=20 then 2 else if l.kind=23 then 3 else 4):=⟨_,rfl⟩
 rw[←hke]at hk9⊢;clear hke
 split
 ·exact h.succ
 split
 ·split
  ·exact h.succ
  ·rename_i H hH
   split
   ·exact h.succ
   ·have h1:=Ao hH;have hx:=h.H;have hy:=h.D;refine⟨?_,h.F,fun z hz=>?_,hdo _ hk9,?_,?_⟩
    ·show (x.S.set i 4).length=_;rw[bA];exact h.S
    ·rcases pD (show z∈x.S.set i 4 from hz)with hz|hz
     ·exact h.st z hz
     ·omega
    ·show H.length≤_;omega
    ·show (x.D++H.drop x.H.length).length≤_;rw[aM,List.length_drop];omega
 ·exact h.reg (hdo _ hk9)
theorem XB.car (h:XB k s x) (hs:nP s) (kind:Int) (deal:bH):XB (k+1) s (kZ eV s.su name x kind deal day).1:=by
 unfold kZ
 split
 ·exact h.succ
 split
 ·exact h.succ
 rename_i i hi
 split
 rotate_left
 ·exact h.succ
 rename_i d st hd hst;have hbx:=E9 hs hd
 split
 ·split
  ·exact h.succ
  ·refine⟨?_,h.F,fun z hz=>?_,h.inv.mono (Nat.le_succ k),?_,?_⟩
   ·show (x.S.set i 3).length=_;rw[bA];exact h.S
   ·rcases pD (show z∈x.S.set i 3 from hz)with hz|hz
    ·exact h.st z hz
    ·omega
   ·have:=h.H;show x.H.length≤_;omega
   ·have:=h.D;show x.D.length≤_;omega
 split
 ·exact h.succ
 dsimp only
 split
 ·exact h.succ
 ·refine⟨?_,h.F,fun z hz=>?_,(D6 h.inv ⟨by show d.boxes.length≤5000;omega,aI _⟩).mono (Nat.le_succ k),?_,?_⟩
  ·show (x.S.set i 2).length=_;rw[bA];exact h.S
  ·rcases pD (show z∈x.S.set i 2 from hz)with hz|hz
   ·exact h.st z hz
   ·omega
  ·have:=h.H;show x.H.length≤_;omega
  ·have:=h.D;show x.D.length≤_;omega
theorem XB.new (s:jC) (name:bH):XB 0 s (Dd s.su name):=by
 refine⟨?_,?_,fun z hz=>?_,IH 0 name,aN _,aN _⟩
 ·show ((s.deals.map jD.de).map fun _=>(0:Int)).length=_;rw[aJ,aJ]
 ·show ((s.deals.map jD.de).map fun d=>decide (d.house=eS)).length=_;rw[aJ,aJ]
 ·obtain⟨d,_,rfl⟩:=aX.1 (show z∈(s.deals.map jD.de).map fun _=>(0:Int) from hz);decide
theorem XB.csOk (h:XB k s x) (hk:k≤100):UZ s x:=⟨h.S,h.F,by have:=h.H;omega,by have:=h.D;omega,h.inv.few,h.inv.inB (by omega)⟩
end
structure PB (C:Cr):Prop where
 cu:iJ C.cust
 dz:∀d∈C.deals,d.number.size≤300∧d.boxes.length≤70∧∀b∈d.boxes,b.size≤60
theorem Cj {name:bH}{d:Dp}{day:Int}:∀{bs:List bH}{L L':List cP},iJ L→fC name d day L bs=some L'→iJ L'
 |[],L,L',hc,h=>by cases h;exact hc
 |b :: r,L,L',hc,h=>by
  have g:fC name d day L (b :: r)=if rY L (cU eS d.seller d.frm day b)≠0 then none else if gZ (L++[⟨b,[cU eS d.seller d.frm day b]⟩]) (cU d.seller name d.frm day b)≠0 then none else fC name d day (iT cP.box (L++[⟨b,[cU eS d.seller d.frm day b]⟩]) b (hC (cU d.seller name d.frm day b))) r:=rfl
  rw[g]at h
  split at h
  ·cases h
  rename_i h1
  split at h
  ·cases h
  rename_i h2;have e1:rY L (cU eS d.seller d.frm day b)=0:=by omega
  have e2:gZ (L++[⟨b,[cU eS d.seller d.frm day b]⟩]) (cU d.seller name d.frm day b)=0:=by omega
  exact Cj ((hc.beg e1).hand (x:=cU d.seller name d.frm day b) e2) h
theorem BS {f:bH→eC}:∀{bs:List bH}{L L':List cP},iJ L→eU f L bs=some L'→iJ L'
 |[],L,L',hc,h=>by cases h;exact hc
 |b :: r,L,L',hc,h=>by
  have g:eU f L (b :: r)=if gZ L (f b)≠0 then none else eU f (iT cP.box L (f b).box (hC (f b))) r:=rfl
  rw[g]at h
  split at h
  ·cases h
  rename_i h1;have e1:gZ L (f b)=0:=by omega
  exact BS (hc.hand e1) h
section
variable {C:Cr}{l:dQ}{day:Int}
theorem PB.perm (h:PB C) {L:List cP}(p:L.Perm C.cust):PB { C with cust:=L }:=⟨h.cu.perm p.symm,h.dz⟩
theorem PB.upd (h:PB C) (n:bH) {f:Dp→Dp}(hf:∀d,(f d).number=d.number∧(f d).boxes=d.boxes):PB (qC C n f):=⟨h.cu,fun d hd=>by
 obtain⟨e,he,rfl⟩:=aX.1 (show d∈C.deals.map fun b=>if b.number=n then f b else b from hd)
 split
 ·rw[(hf e).1,(hf e).2];exact h.dz e he
 ·exact h.dz e he⟩
theorem uN (st:Int) (d:Dp):(wW st d).number=d.number∧(wW st d).boxes=d.boxes:=⟨rfl,rfl⟩
theorem PB.kind (h:PB C) (nm:Int→bH) (d:Dp):PB (rH nm C d l day).1:=by
 unfold rH
 split
 ·show PB (sB C d l day);unfold sB
  split
  ·exact h
  split
  ·exact h
  ·rename_i L hL;exact PB.upd (C:={ C with cust:=L }) ⟨Cj h.cu hL,h.dz⟩ _ (uN 1)
 split
 ·unfold AC
  split
  ·exact h
  ·exact⟨h.cu,h.dz⟩
 split
 ·unfold Fi
  split
  ·exact h
  split
  ·exact h
  ·rename_i L hL
   split
   ·exact h
   ·exact PB.upd (C:={ C with cust:=L,deliv:=_,reg:=_ }) ⟨BS h.cu hL,h.dz⟩ _ (uN 4)
 split
 ·show PB (Fx C d l);unfold Fx
  split
  ·exact h.upd _ fun d=>⟨rfl,rfl⟩
  ·exact h
 split
 ·unfold sL
  split
  ·exact h
  ·exact⟨h.cu,h.dz⟩
 split
 ·unfold sF
  split
  ·exact h
  ·exact⟨h.cu,h.dz⟩
 exact h
theorem PB.take (h:PB C) (nm:Int→bH):PB (nO nm C l day).1:=by
 unfold nO
 split
 ·exact h
 split
 ·exact h
 ·exact h.kind nm _
theorem PB.car (h:PB C) (kind:Int) (deal:bH):PB (lH eV C kind deal day).1:=by
 unfold lH
 split
 ·exact h
 split
 ·exact h
 rename_i d hd;by_cases h1:d.state≠(if kind=5 then 1 else 2)
 ·rw[aF h1];exact h
 rw[aE h1];by_cases hk:kind=5
 ·rw[aF hk];unfold uR
  split
  ·exact h
  ·exact PB.upd (C:={ C with reg:=jY ⟨C.reg,gQ C.name d day,d.seller⟩ }) ⟨h.cu,h.dz⟩ _ (uN 2)
 ·rw[aE hk];exact h.upd _ (uN 3)
end
theorem kL {n:bH}{day:Int}{ls:List dQ}(h:ls.length≤1∧∀l∈ls,tM l):(cI n day ls).length≤1000∧∀l∈cI n day ls,tM l:=by
 unfold cI;refine⟨by rw[aJ];omega,fun l hl=>?_⟩;obtain⟨x,hx,rfl⟩:=aX.1 hl;exact h.2 x hx
theorem rU {l:dQ}(h:tM l):[l].length≤1∧∀x∈[l],tM x:=⟨aN _,fun x hx=>by
 obtain rfl:x=l:=by simpa using hx
 exact h⟩
theorem uM {l:dQ}(hd:l.docs=[]) (hb:l.boxes.length≤1000):tM l:=⟨by rw[hd];exact aI _,hb,fun d hm=>by rw[hd]at hm;cases hm⟩
theorem DC (nm:Int→bH) (l:dQ):(eR nm l).length≤1∧∀x∈eR nm l,tM x:=rU (uM rfl (aI _))
theorem iS:([]:List dQ).length≤1000∧∀x∈([]:List dQ),tM x:=⟨aI _,fun x hx=>by cases hx⟩
theorem Pv:([]:List dQ).length≤1∧∀x∈([]:List dQ),tM x:=⟨aI _,fun x hx=>by cases hx⟩
theorem MM {s:jC}(hs:nP s) {x:Cs}{name:bH}{l:dQ}{day:Int}(nm:Int→bH):(fA nm s.su name x l day).2.length≤1000∧∀y∈(fA nm s.su name x l day).2,tM y:=by
 unfold fA
 split
 ·exact iS
 split
 ·exact iS
 split
 rotate_left
 ·exact iS
 rename_i d st fr hd hst hfr;have hbx:=E9 hs hd
 split
 ·exact iS
 split
 ·exact iS
 split
 rotate_left
 ·exact iS
 dsimp only;obtain⟨k9,hke⟩:∃k9:Int,k9=(if l.kind=8 then (1:Int) else if l.kind=20 then 2 else if l.kind=23 then 3 else 4):=⟨_,rfl⟩
 rw[←hke];clear hke
 split
 ·exact kL (DC nm l)
 split
 ·split
  ·exact kL (DC nm l)
  ·split
   ·exact kL (DC nm l)
   ·exact kL (rU (uM rfl (by show d.boxes.length≤1000;omega)))
 ·refine kL ?_
  split
  ·exact rU (uM rfl (aI _))
  split
  ·exact rU (uM rfl (aI _))
  ·exact Pv
theorem Rr {s:jC}(hs:nP s) {x:Cs}{name:bH}{day:Int}(kind:Int) (deal:bH):(kZ eV s.su name x kind deal day).2.1.length≤1000∧∀y∈(kZ eV s.su name x kind deal day).2.1,tM y:=by
 unfold kZ
 split
 ·exact iS
 split
 ·exact iS
 split
 rotate_left
 ·exact iS
 rename_i d st hd hst;have hbx:=E9 hs hd
 split
 ·split
  ·exact iS
  ·exact kL (rU (uM rfl (by show d.boxes.length≤1000;omega)))
 split
 ·exact iS
 dsimp only
 split
 ·exact iS
 ·refine kL (rU ⟨Nat.le_of_ble_eq_true rfl,aI _,fun d2 hd2=>?_⟩);obtain rfl:d2=eV (gQ name (cN d st true) day):=by simpa using hd2
  exact Nat.le_of_ble_eq_true rfl
structure Jt (k:Nat) (s:jC) (name:bH) (C:Cr) (x:Cs):Prop where
 rel:fJ s.su C x
 nm:C.name=name
 xb:XB k s x
 pb:PB C
structure CU (o:jZ):Prop where
 day:-9223372036854775808≤o.day∧o.day≤9223372036854775807
 a:o.a.deal.size≤300
 l:o.l.frm.size≤300∧o.l.deal.size≤300∧o.l.party.size≤300
section
variable {k:Nat}{s:jC}{name:bH}{C:Cr}{x:Cs}{o:jZ}{l:dQ}{day:Int}{L0:List cP}
theorem Jt.inv (h:Jt k s name C x):vN k C.reg:=by rw[h.rel.reg];exact h.xb.inv
theorem Jt.crOk (h:Jt k s name C x) (hk:k≤100):Uf C:=⟨h.rel.nd,h.inv.few,h.inv.inB (by omega),fun d hd=>by have:=(h.pb.dz d hd).1;omega,fun d hd=>(h.pb.dz d hd).2.1,fun d hd=>(h.pb.dz d hd).2.2⟩
theorem Jt.tqOk (h:Jt k s name C x) (hk:k≤100):T3 ⟨C,l,day⟩:=⟨h.crOk hk,h.pb.cu,by
 show C.deliv.length≤40000;rw[h.rel.del];have:=h.xb.D;omega⟩
theorem WL (hs:nP s):∀d∈s.su.deals,UO d:=fun d hd=>by
 obtain⟨i,hi⟩:=aV hd;exact E9 hs hi
theorem Jt.act (h:Jt k s name C x) (hs:nP s) (kind:Int) (deal:bH) (day:Int):Jt (k+1) s name (lH eV C kind deal day).1 (kZ eV s.su name x kind deal day).1∧(lH eV C kind deal day).2=(kZ eV s.su name x kind deal day).2:=by
 obtain⟨h1,h2,h3⟩:=fJ.car (day:=day) eV h.rel (WL hs) kind deal;rw[h.nm]at h1 h2 h3;exact⟨⟨h1,h3,h.xb.car hs kind deal,h.pb.car kind deal⟩,h2⟩
theorem Jt.take (h:Jt k s name C x) (hs:nP s) (l:dQ) (day:Int) (hp:L0.Perm C.cust):Jt (k+1) s name (iB C l day L0).2.1 (fA fL s.su name x l day).1∧(iB C l day L0).2.2=(fA fL s.su name x l day).2:=by
 obtain⟨L1,hp1,he⟩:=JL h.rel l day hp;obtain⟨h1,h2,h3⟩:=(h.rel.perm hp1.symm).take fL l day;have h3:(nO fL { C with cust:=L1 } l day).1.name=C.name:=h3;have h1:fJ s.su (nO fL { C with cust:=L1 } l day).1 (fA fL s.su C.name x l day).1:=h1;have h2:(nO fL { C with cust:=L1 } l day).2=(fA fL s.su C.name x l day).2:=h2;have h4:=(h.pb.perm hp1).take (l:=l) (day:=day) fL;rw[←he]at h1 h2 h3 h4;rw[h.nm]at h1 h2 h3;exact⟨⟨h1,h3,h.xb.take hs fL,h4⟩,h2⟩
theorem Jt.succ (h:Jt k s name C x):Jt (k+1) s name C x:=⟨h.rel,h.nm,h.xb.succ,h.pb⟩
theorem Jt.doA (h:Jt k s name C x) (hk:k≤100) (hs:nP s) (hn:name.size≤60) (ho:CU o):Zh ⟨C,s,name,x,o⟩:=
 ⟨⟨h.crOk hk,ho.day⟩,⟨hs,h.xb.csOk hk,⟨hn,ho.a⟩,ho.day⟩,(h.act hs _ _ _).2,Rr hs _ _⟩
theorem Jt.doT (h:Jt k s name C x) (hk:k≤100) (hs:nP s) (hn:name.size≤60) (ho:CU o):Y9 ⟨C,s,name,x,o⟩:=
 ⟨h.tqOk hk,⟨hs,h.xb.csOk hk,⟨hn,ho.l.1,ho.l.2.1,ho.l.2.2⟩⟩,fun L0 hp=>(h.take hs _ _ hp).2,MM hs fL⟩
end
def xV (s:jC) (name:bH) (x:Cs) (o:jZ):Cs:=if o.kind=0 then (kZ eV s.su name x o.a.kind o.a.deal o.day).1 else if o.kind=1 then (fA fL s.su name x o.l o.day).1 else x
structure DJ where
 q:DQ
 k:Nat
structure Vu (j:DJ):Prop where
 jt:Jt j.k j.q.s j.q.name j.q.C j.q.x
 k:j.k≤100
 s:nP j.q.s
 n:j.q.name.size≤60
 o:CU j.q.o
def TZ:dA:=oA (fun j:DJ=>tC j.q) (fun j=>uQ j.q.C) Vu (fun j (r:Bool×Cr)=>Jt (j.k+1) j.q.s j.q.name r.2 (xV j.q.s j.q.name j.q.x j.q.o)) (fun j _=>.tup [Fc (xV j.q.s j.q.name j.q.x j.q.o),.bl true]) fun j r=>Pb r.1 r.2 j.q.C.cust
theorem Ux {P:bI}(hac:bK P 23 (xO fun _=>True)) (hra:bK P 65 (Uj fun _=>True)) (hta:bK P 18 (sS fun _=>True)) (hrt:bK P 67 (Om fun _=>True)) (hti:bK P 24 CI) (hal:bK P 66 MS):bM P Xc TZ:=by
 intro args H0 K hc;obtain⟨⟨⟨C,s,name,x,o⟩,k⟩,h1,h2,⟨hj,hk,hs,hn,ho⟩,hK⟩:=hc;dsimp only at hj hk hs hn ho;by_cases k0:o.kind=0
 ·have e:xV s name x o=(kZ eV s.su name x o.a.kind o.a.deal o.day).1:=aF k0;have h5:=hK (false,(lH eV C o.a.kind o.a.deal o.day).1) (by dsimp only;rw[e];exact(hj.act hs _ _ _).1);dsimp only at h5;rw[e]at h5;exact Tb P hac hra hal args H0 K ⟨⟨C,s,name,x,o⟩,h1,h2,⟨k0,hj.doA hk hs hn ho⟩,h5⟩
 by_cases k1:o.kind=1
 ·have e:xV s name x o=(fA fL s.su name x o.l o.day).1:=(aE k0).trans (aF k1);refine PX P hta hrt hal args H0 K ⟨⟨C,s,name,x,o⟩,h1,h2,⟨k1,hj.doT hk hs hn ho⟩,fun L0 hp=>?_⟩;have h5:=hK ((iB C o.l o.day L0).1,(iB C o.l o.day L0).2.1) (by dsimp only;rw[e];exact(hj.take hs _ _ hp).1);dsimp only at h5;rw[e]at h5;exact h5
 ·have e:xV s name x o=x:=(aE k0).trans (aE k1);have h5:=hK (false,C) (by dsimp only;rw[e];exact hj.succ);dsimp only at h5;rw[e]at h5;exact Rp P hti args H0 K ⟨⟨C,s,name,x,o⟩,h1,h2,⟨k0,k1⟩,h5⟩
theorem Jt.new {s:jC}{name:bH}(hs:nP s):Jt 0 s name (NT s.su name) (Dd s.su name):=by
 refine⟨fJ.new s.su name,rfl,XB.new s name,⟨⟨aI _,.nil,fun b hb=>(by cases hb),fun b hb=>(by cases hb),fun b hb=>(by cases hb)⟩,?_⟩⟩;have h:∀(l:List De) (L:List Dp),(∀d∈l,d.number.size≤300∧d.boxes.length≤70∧∀b∈d.boxes,b.size≤60)→(∀d∈L,d.number.size≤300∧d.boxes.length≤70∧∀b∈d.boxes,b.size≤60)→∀d∈l.foldl (FX name) L,d.number.size≤300∧d.boxes.length≤70∧∀b∈d.boxes,b.size≤60:=by
  intro l
  induction l with
  |nil=>intro L _ hL d hd;exact hL d hd
  |cons a l ih=>
   intro L hl hL;rw[List.foldl_cons];refine ih _ (fun d hd=>hl d (aW _ hd)) fun d hd=>?_
   unfold FX at hd
   split at hd
   ·exact hL d hd
   ·rcases List.mem_append.1 hd with hd|hd
    ·exact hL d hd
    ·obtain rfl:d=cN a 0 (decide (a.house=eS)):=by simpa using hd
     exact hl a (bD ..)
 refine h s.su.deals [] (fun d hd=>?_) fun d hd=>by cases hd
 obtain⟨e,he,rfl⟩:=aX.1 (show d∈s.deals.map jD.de from hd);have hok:=hs.ok e he;refine⟨hok.sz.1,?_,fun b hb=>?_⟩
 ·show (e.boxes.map IP.mark).length≤70;rw[aJ];exact hok.bx
 ·exact kJ hok b hb
set_option maxHeartbeats 8000000
def Ab (s:jC) (name:bH) (l:List jZ):Cs:=l.foldl (xV s name) (Dd s.su name)
structure YO where
 s:jC
 name:bH
 l:List jZ
structure Vz (q:YO):Prop where
 s:nP q.s
 n:q.name.size≤60
 l:q.l.length≤40
 o:∀o∈q.l,CU o
def C2:dA:=oA (fun q:YO=>[Jq q.s,.str q.name,.sl 19 (bJ sE q.l)]) (fun _=>[]) Vz (fun q C=>Jt q.l.length q.s q.name C (Ab q.s q.name q.l)) (fun q _=>.tup [.ptr 0 0,Fc (Ab q.s q.name q.l)]) fun _ C=>uQ C
theorem E4 (P:bI) (hn:bK P 21 yZ) (hrn:bK P 31 Gw) (hdo:bK P 32 TZ):bM P ZP C2:=by
 intro args H K hc;obtain⟨⟨⟨parties,deals,funds,rest,holidays⟩,name,l⟩,rfl,rfl,hp,hK⟩:=hc;refine⟨cL,?_⟩;dsimp only at hp hK⊢;obtain⟨hs,hnz,hll,hlo⟩:=hp;dsimp only at hs hnz hll hlo;have hjn:=Jt.new (name:=name) hs;obtain⟨n,hnn⟩:∃n:Nat,n=l.length:=⟨_,rfl⟩
 obtain⟨⟨name1,parties1,deals1,⟨rc1,rL1⟩,cust1,deliv1⟩,hC0⟩:∃C,C=NT (jC.su ⟨parties,deals,funds,rest,holidays⟩) name:=⟨_,rfl⟩
 obtain⟨⟨S,free,⟨c,L⟩,H,D⟩,hx0⟩:∃x,x=Dd (jC.su ⟨parties,deals,funds,rest,holidays⟩) name:=⟨_,rfl⟩
 rw[←hC0,←hx0]at hjn;cbv;repeat'((first|refine And.intro ?_ ?_|fail)<;>cbv)
 all_goals
  repeat'(first
   |((refine yV hn ((name,⟨parties,deals,funds,rest,holidays⟩):bH×jC) hs ?_;try dsimp only)
     rw[←hC0];cbv;repeat'((first|refine And.intro ?_ ?_|fail)<;>cbv))
   |((refine bX hrn ((⟨parties,deals,funds,rest,holidays⟩,name):jC×bH) hs.de ?_;try dsimp only)
     rw[←hx0];cbv))
 all_goals first
 |refine gH (Gh.sel (st':=⟨[(1,.str name),(2,.sl 19 (bJ sE l)),(3,.ptr 8 0),(7,.ptr 9 0),(8,.ptr 0 0),(9,.ptr 10 0),(10,.i 0)],[.blk 118 [.str name1,.hd 1,.ph 2,.ptr 3 0,.ptr 5 0,.hd 7],.map 70 (bJ iF parties1),.pool 116 (bJ gI deals1) [],.blk 122 [.str rc1,.ph 4],.pool 120 (bJ aaI rL1) [],.blk 174 [.ph 6],.pool 172 (bJ eX cust1) [],.tip 77 5 (bJ dG deliv1),.blk 29 [.sl 3 (bJ lE parties),.sl 17 (bJ jS deals),.sl 3 (bJ lK funds),.sl 1 (bJ dO rest),.sl 1 (bJ dO holidays)],.blk 41 [.v (.slice none 0 0),.v (.slice none 0 0),.str ⟨#[]⟩,.v (.slice none 0 0),.v (.slice none 0 0),.v (.slice none 0 0)],.blk 41 [.sl 1 (bJ dO S),.sl 1 (bJ pZ free),.str c,.sl 11 (bJ iP L),.sl 5 (bJ dG H),.sl 5 (bJ dG D)]]⟩) [3,4,5,6,7,8,9,10,0,1,2] (by repeat'(first|exact trivial|refine⟨.inl rfl,?_⟩|refine⟨.inr rfl,?_⟩)) rfl (by decide) rfl rfl) ?_
 |refine gH (Gh.sel (st':=⟨[(1,.str name),(2,.sl 19 (bJ sE l)),(3,.ptr 8 0),(7,.ptr 9 0),(8,.ptr 0 0),(9,.ptr 10 0),(10,.i 0)],[.blk 118 [.str name1,.hd 1,.ph 2,.ptr 3 0,.ptr 5 0,.hd 7],.map 70 (bJ iF parties1),.pool 116 (bJ gI deals1) [],.blk 122 [.str rc1,.ph 4],.pool 120 (bJ aaI rL1) [],.blk 174 [.ph 6],.pool 172 (bJ eX cust1) [],.tip 77 5 (bJ dG deliv1),.blk 29 [.sl 3 (bJ lE parties),.sl 17 (bJ jS deals),.sl 3 (bJ lK funds),.sl 1 (bJ dO rest),.sl 1 (bJ dO holidays)],.blk 41 [.v (.slice none 0 0),.v (.slice none 0 0),.str ⟨#[]⟩,.v (.slice none 0 0),.v (.slice none 0 0),.v (.slice none 0 0)],.blk 41 [.sl 1 (bJ dO S),.sl 1 (bJ pZ free),.str c,.sl 11 (bJ iP L),.sl 5 (bJ dG H),.sl 5 (bJ dG D)]]⟩) [2,3,4,5,6,7,8,9,0,1,10] (by repeat'(first|exact trivial|refine⟨.inl rfl,?_⟩|refine⟨.inr rfl,?_⟩)) rfl (by decide) rfl rfl) ?_
 all_goals
  refine bS [] (fun p:{ p:Nat×Cr×Cs // p.1≤l.length∧Jt p.1 ⟨parties,deals,funds,rest,holidays⟩ name p.2.1 p.2.2∧p.2.2=Ab ⟨parties,deals,funds,rest,holidays⟩ name (l.take p.1) }=>[(10,.i (nI p.1.1))]) (fun p=>[.blk 118 [.str p.1.2.1.name,.hd 1,.ph 2,.ptr 3 0,.ptr 5 0,.hd 7],.map 70 (bJ iF p.1.2.1.parties),.pool 116 (bJ gI p.1.2.1.deals) [],.blk 122 [.str p.1.2.1.reg.carrier,.ph 4],.pool 120 (bJ aaI p.1.2.1.reg.bills) [],.blk 174 [.ph 6],.pool 172 (bJ eX p.1.2.1.cust) [],.tip 77 5 (bJ dG p.1.2.1.deliv),.blk 29 [.sl 3 (bJ lE parties),.sl 17 (bJ jS deals),.sl 3 (bJ lK funds),.sl 1 (bJ dO rest),.sl 1 (bJ dO holidays)],.blk 41 [.v (.slice none 0 0),.v (.slice none 0 0),.str ⟨#[]⟩,.v (.slice none 0 0),.v (.slice none 0 0),.v (.slice none 0 0)],.blk 41 [.sl 1 (bJ dO p.1.2.2.S),.sl 1 (bJ pZ p.1.2.2.free),.str p.1.2.2.reg.carrier,.sl 11 (bJ iP p.1.2.2.reg.bills),.sl 5 (bJ dG p.1.2.2.H),.sl 5 (bJ dG p.1.2.2.D)]]) (fun p=>eW n p.1.1) ⟨(0,⟨name1,parties1,deals1,⟨rc1,rL1⟩,cust1,deliv1⟩,⟨S,free,⟨c,L⟩,H,D⟩),aI _,hjn,hx0⟩ ?_;rintro ⟨⟨k,⟨name2,parties2,deals2,⟨rc2,rL2⟩,cust2,deliv2⟩,⟨S2,free2,⟨c2,L2⟩,H2,D2⟩⟩,hk,hj,hx⟩;dsimp only at hk hj hx⊢;rcases aL k l.length with hks|hks
  ·obtain⟨o,ho⟩:=cK hks;have hoo:=hlo o (aC ho);have hpx:Ab ⟨parties,deals,funds,rest,holidays⟩ name (l.take (k+1))=xV ⟨parties,deals,funds,rest,holidays⟩ name ⟨S2,free2,⟨c2,L2⟩,H2,D2⟩ o:=by
    unfold Ab at hx⊢;rw[dC ho,List.foldl_append,←hx];rfl
   obtain⟨⟨S3,free3,⟨c3,L3⟩,H3,D3⟩,hx3⟩:∃y,y=xV ⟨parties,deals,funds,rest,holidays⟩ name ⟨S2,free2,⟨c2,L2⟩,H2,D2⟩ o:=⟨_,rfl⟩
   rw[←hx3]at hpx;have hdj:Vu ⟨⟨⟨name2,parties2,deals2,⟨rc2,rL2⟩,cust2,deliv2⟩,⟨parties,deals,funds,rest,holidays⟩,name,⟨S2,free2,⟨c2,L2⟩,H2,D2⟩,o⟩,k⟩:=⟨hj,by dsimp only;omega,hs,hnz,hoo⟩
   obtain⟨okind,oday,⟨ak,an,adeal⟩,⟨frm,to,number,lkind,ack,ldeal,text,party,index,day0,cur,amt,docs,boxes⟩⟩:=o;cbv;repeat'((first|refine .e ?_|refine .y fun h=>?_|refine .k fun z hz=>?_|refine And.intro ?_ ?_|fail)<;>cbv)
   all_goals
    refine eB hdo (⟨⟨⟨name2,parties2,deals2,⟨rc2,rL2⟩,cust2,deliv2⟩,⟨parties,deals,funds,rest,holidays⟩,name,⟨S2,free2,⟨c2,L2⟩,H2,D2⟩,⟨okind,oday,⟨ak,an,adeal⟩,⟨frm,to,number,lkind,ack,ldeal,text,party,index,day0,cur,amt,docs,boxes⟩⟩⟩,k⟩:DJ) [0,1,2,3,4,5,6,7] hdj rfl rfl (by decide) rfl rfl rfl rfl rfl ?_;rintro ⟨mv,⟨name3,parties3,deals3,⟨rc3,rL3⟩,cust3,deliv3⟩⟩ hj3;dsimp only at hj3;rw[←hx3]at hj3
    try dsimp only
    rw[←hx3];cases mv with
    |false=>
     cbv;repeat'((first|refine .k fun z hz=>?_|fail)<;>cbv)
     obtain rfl:z=nI (k+1):=bQ;exact bN ⟨(k+1,⟨name3,parties3,deals3,⟨rc3,rL3⟩,cust3,deliv3⟩,⟨S3,free3,⟨c3,L3⟩,H3,D3⟩),hks,hj3,hpx.symm⟩ (bO (by omega))
    |true=>
     cbv;repeat'((first|refine .k fun z hz=>?_|fail)<;>cbv)
     obtain rfl:z=nI (k+1):=bQ
     first
     |refine dK (Gh.sel (st':=⟨[(1,.str name),(2,.sl 19 (bJ sE l)),(3,.ptr 8 0),(7,.ptr 9 0),(8,.ptr 0 0),(9,.ptr 10 0),(10,.i (nI (k+1)))],[.blk 118 [.str name3,.hd 1,.ph 2,.ptr 3 0,.ptr 5 0,.hd 7],.map 70 (bJ iF parties3),.pool 116 (bJ gI deals3) [],.blk 122 [.str rc3,.ph 4],.pool 120 (bJ aaI rL3) [],.blk 174 [.ph 6],.pool 172 (bJ eX cust3) [],.tip 77 5 (bJ dG deliv3),.blk 29 [.sl 3 (bJ lE parties),.sl 17 (bJ jS deals),.sl 3 (bJ lK funds),.sl 1 (bJ dO rest),.sl 1 (bJ dO holidays)],.blk 41 [.v (.slice none 0 0),.v (.slice none 0 0),.str ⟨#[]⟩,.v (.slice none 0 0),.v (.slice none 0 0),.v (.slice none 0 0)],.blk 41 [.sl 1 (bJ dO S3),.sl 1 (bJ pZ free3),.str c3,.sl 11 (bJ iP L3),.sl 5 (bJ dG H3),.sl 5 (bJ dG D3)]]⟩) [0,1,2,3,4,11,12,7,8,9,10] (by repeat'(first|exact trivial|refine⟨.inl rfl,?_⟩|refine⟨.inr rfl,?_⟩)) rfl (by decide) rfl rfl) ?_
     |refine dK (Gh.sel (st':=⟨[(1,.str name),(2,.sl 19 (bJ sE l)),(3,.ptr 8 0),(7,.ptr 9 0),(8,.ptr 0 0),(9,.ptr 10 0),(10,.i (nI (k+1)))],[.blk 118 [.str name3,.hd 1,.ph 2,.ptr 3 0,.ptr 5 0,.hd 7],.map 70 (bJ iF parties3),.pool 116 (bJ gI deals3) [],.blk 122 [.str rc3,.ph 4],.pool 120 (bJ aaI rL3) [],.blk 174 [.ph 6],.pool 172 (bJ eX cust3) [],.tip 77 5 (bJ dG deliv3),.blk 29 [.sl 3 (bJ lE parties),.sl 17 (bJ jS deals),.sl 3 (bJ lK funds),.sl 1 (bJ dO rest),.sl 1 (bJ dO holidays)],.blk 41 [.v (.slice none 0 0),.v (.slice none 0 0),.str ⟨#[]⟩,.v (.slice none 0 0),.v (.slice none 0 0),.v (.slice none 0 0)],.blk 41 [.sl 1 (bJ dO S3),.sl 1 (bJ pZ free3),.str c3,.sl 11 (bJ iP L3),.sl 5 (bJ dG H3),.sl 5 (bJ dG D3)]]⟩) [0,1,2,3,4,12,13,7,8,9,10] (by repeat'(first|exact trivial|refine⟨.inl rfl,?_⟩|refine⟨.inr rfl,?_⟩)) rfl (by decide) rfl rfl) ?_
     exact bN ⟨(k+1,⟨name3,parties3,deals3,⟨rc3,rL3⟩,cust3,deliv3⟩,⟨S3,free3,⟨c3,L3⟩,H3,D3⟩),hks,hj3,hpx.symm⟩ (bO (by omega))
  have hkn:k=l.length:=by omega
  have hpl:Ab ⟨parties,deals,funds,rest,holidays⟩ name l=⟨S2,free2,⟨c2,L2⟩,H2,D2⟩:=by rw[hx,hkn,List.take_length]
  have hK:=hK ⟨name2,parties2,deals2,⟨rc2,rL2⟩,cust2,deliv2⟩ (by rw[hpl,←hkn];exact hj);rw[hpl]at hK;cbv;repeat'((first|refine .n fun h=>?_|refine .k fun z hz=>?_|fail)<;>cbv)
  (refine .q9 ?_;cbv;exact .inl (.g9 hK))
set_option maxHeartbeats 4000000
theorem Be {z:Int}(h:Am z):0≤z∧z≤3:=by rcases h with rfl|rfl<;>decide
theorem SO {st a b c:Int}(h:WZ st a b c):(0≤a∧a≤3)∧(0≤b∧b≤3)∧(0≤c∧c≤3):=by
 rcases h with ⟨_,h1,h2,h3⟩|⟨_,⟨rfl,rfl,rfl⟩|⟨rfl,rfl,rfl⟩|⟨rfl,rfl,rfl⟩⟩|⟨_,rfl,rfl,rfl⟩
 ·exact⟨Be h1,Be h2,Be h3⟩
 all_goals decide
theorem Q3 {c:bH}{b:Bl}(h:yN c b=true):bT b.number=true:=by
 cases hn:bT b.number with
 |true=>rfl
 |false=>
  unfold yN at h;simp[hn]at h
theorem wU.brT {n:Nat}{c:bH}{b:Br}(h:wU n c b):W6 b:=by
 have h1:=jK (Q3 h.may);have h2:=jK h.h0.name;have h3:=jK h.h1.name;have h4:=jK h.h2.name;obtain⟨h5,h6,h7⟩:=SO h.st;exact⟨by omega,by omega,by omega,by omega,h5,h6,h7⟩
section
variable {k:Nat}{s:jC}{name:bH}{C:Cr}{x:Cs}
theorem fJ.nums {s:Su}{C:Cr}{x:Cs}(h:fJ s C x):Wc s C.name=dN (C.deals.map Dp.number):=by
 obtain⟨h1,h2⟩:=An C.name s.deals [] .nil;refine JH h1 h.nd fun n=>(h2 n).trans ?_
 rw[←Gy];constructor
 ·rintro (a|⟨i,hi⟩)
  ·cases a
  ·obtain⟨d,st,fr,g1,g2,g3,g4,g5⟩:=h.at hi;obtain⟨g6,g7⟩:=lQ g5;exact aX.2 ⟨_,g6,g7⟩
 ·intro hm;refine .inr ?_;cases hi:dP s C.name n with
  |some i=>exact⟨i,rfl⟩
  |none=>
   obtain⟨d,hd,hn⟩:=aX.1 hm;exact absurd hn (jH (h.no n hi) hd)
theorem Jt.dlen (h:Jt k s name C x) (hs:nP s):C.deals.length≤8:=by
 have h1:=congrArg List.length h.rel.nums;rw[iG,aJ]at h1;rw[←h1];exact Nat.le_trans (Lo _ _) hs.de
theorem Jt.ctxOk (h:Jt k s name C x) (hs:nP s) (hk:k≤100):Sx C:=by
 refine⟨h.rel.nd,h.dlen hs,fun d hd=>?_,h.inv.few,h.inv.inB (by omega),fun b hb=>(h.inv.all b hb).brT,h.inv.nd,h.pb.cu⟩;have hl:gL Dp.number C.deals d.number=some d:=sR h.rel.nd hd rfl;refine⟨(h.pb.dz d hd).1,?_⟩;cases hi:dP s.su C.name d.number with
 |none=>rw[h.rel.no _ hi]at hl;cases hl
 |some i=>
  obtain⟨e,st,fr,h1,h2,h3,h4,h5⟩:=h.rel.at hi;rw[h5]at hl;cases hl;exact h.xb.st st (aC h2)
end
set_option maxHeartbeats 2000000
section
variable {T:Int}{k:Nat}{s:jC}{name:bH}{C:Cr}{x:Cs}{o:jZ}
end
section
variable {k:Nat}{s:jC}{name:bH}{C:Cr}{x:Cs}{n:bH}{i:Nat}{day:Int}
end
def AO (L:List cP) (s:bH):List eC:=match kA cP.box L s with
 |some i=>(match L[i]? with
  |some y=>y.hist
  |none=>[])
 |none=>[]
theorem Df (L:List cP) (s:bH):AO L s=match gL cP.box L s with
  |some b=>b.hist
  |none=>[]:=by
 unfold AO;cases ha:kA cP.box L s with
 |none=>rw[qM ha]
 |some i=>
  obtain⟨y,hy,_⟩:=eA ha;rw[mB ha hy];dsimp only;rw[hy]
theorem jV.hist {L:List cP}{H:List eC}(h:jV L H) (s:bH):AO L s=nE H s:=by
 rw[Df];cases hl:gL cP.box L s with
 |none=>exact(h.no s hl).symm
 |some b=>exact(h.yes s b hl).1
structure Ra (L0:List cP) (bs:List bH) (i:Nat) (L:List cP):Prop where
 ok:iJ L
 same:∀j b,i≤j→bs[j]?=some b→gL cP.box L b=gL cP.box L0 b
theorem Ra.start {L0 L:List cP}(bs:List bH) (h:iJ L0) (p:L.Perm L0):Ra L0 bs 0 L:=⟨h.perm p.symm,fun _ b _ _=>Aq p ((p.map _).nodup_iff.2 h.nd) b⟩
theorem Ra.hist {L0 L:List cP}{H:List eC}{bs:List bH}{i:Nat}{b:bH}(h:Ra L0 bs i L) (hc:jV L0 H) (hb:bs[i]?=some b):AO L b=nE H b:=by
 rw[←hc.hist,Df,Df,h.same i b (aN _) hb]
theorem SY {L:List cP}{x:eC}{b:bH}(h:b≠x.box):gL cP.box (BF L x) b=gL cP.box L b:=by
 unfold BF
 split
 ·rw[tV _ _ _ (nS x),aE h]
 ·rfl
theorem Ra.hand {L0 L:List cP}{bs:List bH}{i:Nat}{x:eC}(h:Ra L0 bs i L) (hn:bs.Nodup) (hb:bs[i]?=some x.box):Ra L0 bs (i+1) (BF L x):=by
 refine⟨?_,fun j b hj hbj=>?_⟩
 ·unfold BF
  split
  ·rename_i h0;exact h.ok.hand h0
  ·exact h.ok
 ·rw[SY (fun e=>?_)]
  ·exact h.same j b (by omega) hbj
  ·subst e;obtain⟨h1,e1⟩:=aA.1 hb;obtain⟨h2,e2⟩:=aA.1 hbj;have:=kC (hi:=h1) (hj:=h2) hn (e1.trans e2.symm);omega
theorem Q7 {L:List cP}(h:iJ L):(dN (L.map cP.box)).Nodup:=(kM _).nodup_iff.2 h.nd
theorem JQ {L L0:List cP}(p:L.Perm L0):dN (L.map cP.box)=dN (L0.map cP.box):=tH (p.map _)
def Zo (n:bH) (j:Int) (who:bH):At:=⟨3,j,0,n,who,eS,cJ.noBl⟩
def sH (L:List Br) (n:bH) (j:Int) (who:bH):List Br:=gB L ⟨n,j,0,who,0,0,false,false⟩ (rI ⟨n,j,0,who,0,0,false,false⟩)
theorem M3 {k:Nat}{c:bH}{L:List Br}(h:vN k ⟨c,L⟩) (n:bH) (j:Int) (who:bH):vN (k+1) ⟨c,sH L n j who⟩:=Je h (a:=Zo n j who) ⟨by show (1:Int)≤3;decide,by show (3:Int)≤5;decide⟩
theorem IZ {L:List Br}(hn:fW L) (n t:bH) (j:Int) (who:bH):∃f:Br→Br,(∀b,f b=b∨f b=rI ⟨n,j,0,who,0,0,false,false⟩ b)∧qF (sH L n j who) t=if t=n then (qF L t).map f else qF L t:=by
 unfold sH;by_cases h0:eM L ⟨n,j,0,who,0,0,false,false⟩=0
 ·refine⟨rI ⟨n,j,0,who,0,0,false,false⟩,fun b=>.inr rfl,?_⟩;rw[uF hn _ _ h0,RW _ (fun b=>by
   split
   ·show (rI _ b).b.number=_;unfold rI;rw[(tS _ _ _).1]
   ·rfl)]
  cases hl:qF L t with
  |none=>simp
  |some y=>
   have hy:=(C6 hl).2;by_cases e:t=n
   ·rw[aF e];show some (if y.b.number=n then _ else y)=_;rw[aF (hy.trans e)];rfl
   ·rw[aE e];show some (if y.b.number=n then _ else y)=_;rw[aE (fun e2=>e (hy.symm.trans e2))]
 ·refine⟨id,fun b=>.inl rfl,?_⟩;rw[zU _ _ h0]
  split
  ·cases qF L t<;>rfl
  ·rfl
def Rn (y b:Br):Prop:=y.o0.chain=b.o0.chain∧y.o1.chain=b.o1.chain∧y.o2.chain=b.o2.chain
theorem vW (z:Int) (o:Og):(xU z o).chain=o.chain:=by obtain⟨_,_,_⟩:=o;rfl
theorem Qw (a:Ak) (b:Br):Rn (rI a b) b:=by
 obtain⟨b1,st,o0,o1,o2⟩:=b;unfold rI tL;dsimp only;refine⟨?_,?_,?_⟩
 ·show (bif eJ a.index 0 then xU 3 o0 else o0).chain=_;cases eJ a.index 0
  ·rfl
  ·exact vW _ _
 ·show (bif eJ a.index 1 then xU 3 o1 else o1).chain=_;cases eJ a.index 1
  ·rfl
  ·exact vW _ _
 ·show (bif eJ a.index 2 then xU 3 o2 else o2).chain=_;cases eJ a.index 2
  ·rfl
  ·exact vW _ _
theorem Rn.refl (b:Br):Rn b b:=⟨rfl,rfl,rfl⟩
theorem Rn.trans {a b c:Br}(h:Rn a b) (g:Rn b c):Rn a c:=⟨h.1.trans g.1,h.2.1.trans g.2.1,h.2.2.trans g.2.2⟩
structure QQ (k:Nat) (c:bH) (L0:List Br) (i:Nat) (L:List Br):Prop where
 inv:vN (k+3 * i) ⟨c,L⟩
 same:∀(j:Nat) (b:Br),i≤j→L0[j]?=some b→qF L b.b.number=some b
structure JP (k:Nat) (c:bH) (L0:List Br) (i m:Nat) (b:Br) (L:List Br):Prop where
 inv:vN (k+3 * i+m) ⟨c,L⟩
 same:∀(j:Nat) (b:Br),i+1≤j→L0[j]?=some b→qF L b.b.number=some b
 own:∃y,qF L b.b.number=some y∧Rn y b
section
variable {k:Nat}{c:bH}{L0 L:List Br}{i m:Nat}{b:Br}
theorem QQ.start (h:vN k ⟨c,L0⟩) (p:L.Perm L0):QQ k c L0 0 L:=⟨h.perm rfl p.symm,fun j b _ hb=>by
 rw[Q8 p (rA p.symm h.nd)];exact EQ h.nd (aC hb) rfl⟩
theorem QQ.bill (h:QQ k c L0 i L) (hb:L0[i]?=some b):JP k c L0 i 0 b L:=⟨h.inv,fun j b2 hj=>h.same j b2 (by omega),b,h.same i b (aN _) hb,Rn.refl b⟩
theorem QQ.lk (h:QQ k c L0 i L) (hb:L0[i]?=some b):qF L b.b.number=some b:=h.same i b (aN _) hb
theorem Rw (hn:fW L0) {i j:Nat}{a b:Br}(ha:L0[i]?=some a) (hb:L0[j]?=some b) (e:a.b.number=b.b.number):i=j:=by
 have h1:(L0.map fun b:Br=>b.b.number)[i]?=some a.b.number:=by rw[aD,ha];rfl
 have h2:(L0.map fun b:Br=>b.b.number)[j]?=some a.b.number:=by rw[aD,hb,e];rfl
 obtain⟨g1,e1⟩:=aA.1 h1;obtain⟨g2,e2⟩:=aA.1 h2;exact kC (l:=L0.map fun b:Br=>b.b.number) (hi:=g1) (hj:=g2) hn (e1.trans e2.symm)
theorem JP.lose (hn:fW L0) (hb:L0[i]?=some b) (h:JP k c L0 i m b L) (j:Int) (who:bH):JP k c L0 i (m+1) b (sH L b.b.number j who):=by
 obtain⟨y,hy,hc⟩:=h.own;refine⟨M3 h.inv _ _ _,fun j2 b2 hj2 hb2=>?_,?_⟩
 ·obtain⟨f,hf,e⟩:=IZ h.inv.nd b.b.number b2.b.number j who;rw[e,aE (fun e2=>?_)]
  ·exact h.same j2 b2 hj2 hb2
  ·have:=Rw hn hb2 hb e2;omega
 ·obtain⟨f,hf,e⟩:=IZ h.inv.nd b.b.number b.b.number j who;rw[e,aF rfl,hy];refine⟨f y,rfl,?_⟩;rcases hf y with h1|h1
  ·rw[h1];exact hc
  ·rw[h1];exact(Qw _ _).trans hc
theorem JP.next (h:JP k c L0 i 3 b L):QQ k c L0 (i+1) L:=⟨h.inv.mono (by omega),h.same⟩
theorem JP.chain (h:JP k c L0 i m b L) {j:Int}(hj:j=0∨j=1∨j=2):(lN L b.b.number j).1.chain=(onI j b).chain:=by
 obtain⟨⟨yb,yst,y0,y1,y2⟩,hy,c0,c1,c2⟩:=h.own;rw[Mg,hy];rcases hj with rfl|rfl|rfl
 ·exact c0
 ·exact c1
 ·exact c2
end
set_option maxHeartbeats 8000000
def Mn:dA:=spec (fun i:List cP×bH=>[.ptr 0 0,.str i.2]) (fun i=>Gs i.1) (fun i=>iJ i.1) (fun i=>.sl 5 (bJ dG (AO i.1 i.2))) fun i=>Gs i.1
theorem LT (P:bI) (hcl:bK P 52 (jR 5 72)) (hcn:bK P 52 IC):bM P x40 Mn:=by
 intro args H K hc;obtain⟨⟨L,box⟩,rfl,rfl,hok,hK⟩:=hc;refine⟨cL,?_⟩;dsimp only at hok hK;unfold AO at hK;cbv;refine eE cP.box (fun _=>rfl) (fun i y hai hy hky=>?_) (fun hai=>?_)<;>try dsimp only at *
 ·rw[hai]at hK;dsimp only at hK;rw[hy]at hK;dsimp only at hK;have hlen:=(hok.ne y (aC hy)).2;obtain⟨bx,hist⟩:=y;dsimp only at hlen hK hky;cbv
  (refine bX hcl _ ⟨by rw[bY];unfold maxLen;omega,by rw[bY];omega⟩ ?_;try dsimp only)
  cbv
  (refine .r9 (Gh.back0 1 [2] eX rfl hy) ?_;cbv;exact .inl (.f9 hK))
 ·rw[hai]at hK;cbv
  (refine bX hcn () trivial ?_;try dsimp only)
  cbv
  (refine .q9 ?_;cbv;exact .inl (.g9 hK))
theorem BO:A5 Tryz.prog:=⟨HR (fun blk off cap ss W h1 h2 h3=>Any.slices_Sort_string vA blk off cap ss W h1 h2 h3) (fun p cap W=>Any.slices_Sort_string_none vA p cap W),enters_of vA.f190 rfl rfl,Uo⟩
theorem Qk:bK Tryz.prog 56 OP:=EE PT T2
theorem OB:bK Tryz.prog 61 IG:=DM QU T2
theorem I8:bK Tryz.prog 64 (D5 eQ):=TH (by kernel_rfl)
def A7:dA:=spec (fun _:Unit=>[]) (fun _=>[]) (fun _=>True) (fun _=>.bl true) fun _=>[]
def FB (d:Int):Prop:=-9223372036854775808≤d∧d≤9223372036854775807
structure Zg (q:AW):Prop where
 f:Mk q
 d:∀o∈q.l,FB o.day
def Zd:dA:=spec (fun q:AW=>[Jq q.s,.str q.name,.sl 19 (bJ sE q.l)]) (fun _=>[]) Zg (fun _=>.bl true) fun _=>[]
theorem UD {s:jC}{name:bH}{l:List jZ}(h:Do s name l) (hd:∀o∈l,FB o.day):Vz ⟨s,name,l⟩:=⟨h.s,h.n,h.l.len,fun o ho=>⟨hd o ho,(h.l.sz o ho).1,(h.l.sz o ho).2⟩⟩
structure Bi (x y:AV):Prop where
 one:x.one=true→y.one=true
 to:∀(pub:cY) (w:World) (r:cT) (v:Value),bU pub w r x v→bU pub w r y v
def I4:List AV→List AV→Prop
 |[],[]=>True
 |x :: l,y :: m=>Bi x y∧I4 l m
 |_,_=>False
def Sw:List AV→List AV→Prop
 |[],[]=>True
 |x :: l,y :: m=>I4 x.cells y.cells∧Sw l m
 |_,_=>False
theorem Bi.refl (x:AV):Bi x x:=⟨id,fun _ _ _ _ h=>h⟩
theorem Bi.nil (sz:Nat):Bi (.v (.slice none 0 0)) (.sl sz []):=⟨fun _=>rfl,fun _ _ _ _ h=>(N1.nil sz).to h⟩
theorem I4.len:∀{l m:List AV},I4 l m→m.length=l.length
 |[],[],_=>rfl
 |_ :: _,_ :: _,h=>congrArg (· + 1) (I4.len h.2)
 |[],_ :: _,h=>h.elim
 |_ :: _,[],h=>h.elim
theorem I4.at:∀{l m:List AV},I4 l m→∀{i:Nat}{y:AV},m[i]?=some y→∃x,l[i]?=some x∧Bi x y
 |[],[],_,i,y,hy=>by simp at hy
 |x :: l,z :: m,h,0,y,hy=>by
  simp only[List.getElem?_cons_zero,bE]at hy;subst hy;exact⟨x,rfl,h.1⟩
 |x :: l,z :: m,h,i+1,y,hy=>by
  simp only[List.getElem?_cons_succ]at hy;obtain⟨u,hu,k⟩:=I4.at h.2 hy;exact⟨u,by simpa using hu,k⟩
 |[],_ :: _,h,_,_,_=>h.elim
 |_ :: _,[],h,_,_,_=>h.elim
theorem I4.ones:∀{l m:List AV},I4 l m→l.all AV.one=true→m.all AV.one=true
 |[],[],_,_=>rfl
 |x :: l,y :: m,h,k=>by
  simp only[List.all_cons,aO]at k⊢;exact⟨h.1.one k.1,I4.ones h.2 k.2⟩
 |[],_ :: _,h,_=>h.elim
 |_ :: _,[],h,_=>h.elim
theorem Bi.agg {l m:List AV}(h:I4 l m):Bi (.agg l) (.agg m):=⟨fun k=>(by cases k),fun pub w r v hv=>by
 cases hv with
 |agg hl h1=>
  refine .agg (hl.trans h.len.symm) fun i y u hy hu=>?_
  obtain⟨x,hx,k⟩:=h.at hy;exact k.to _ _ _ _ (h1 i x u hx hu)⟩
theorem Sw.len:∀{l m:List AV},Sw l m→m.length=l.length
 |[],[],_=>rfl
 |_ :: _,_ :: _,h=>congrArg (· + 1) (Sw.len h.2)
 |[],_ :: _,h=>h.elim
 |_ :: _,[],h=>h.elim
theorem Sw.at:∀{l m:List AV},Sw l m→∀{i:Nat}{y:AV},m[i]?=some y→∃x,l[i]?=some x∧I4 x.cells y.cells
 |[],[],_,i,y,hy=>by simp at hy
 |x :: l,z :: m,h,0,y,hy=>by
  simp only[List.getElem?_cons_zero,bE]at hy;subst hy;exact⟨x,rfl,h.1⟩
 |x :: l,z :: m,h,i+1,y,hy=>by
  simp only[List.getElem?_cons_succ]at hy;obtain⟨u,hu,k⟩:=Sw.at h.2 hy;exact⟨u,by simpa using hu,k⟩
 |[],_ :: _,h,_,_,_=>h.elim
 |_ :: _,[],h,_,_,_=>h.elim
theorem Bi.sl {sz:Nat}{l m:List AV}(h:Sw l m):Bi (.sl sz l) (.sl sz m):=⟨fun _=>rfl,fun pub w r v hv=>by
 cases hv with
 |@sl _ _ _ A c hc hm hn hs g hr hg=>
  have hlen:=h.len;rw[show l.length=m.length from hlen.symm];refine .sl (by omega) hm (fun e=>?_) (fun y hy=>?_) g (fun i y j u hy hu=>?_) fun i y j u hy hu=>?_
  ·obtain⟨h1,h2⟩:=hn e;subst h1;exact⟨List.length_eq_zero_iff.1 hlen,h2⟩
  ·obtain⟨i,hi⟩:=aV hy;obtain⟨x,hx,k⟩:=h.at hi;obtain⟨k1,k2⟩:=hs x (aC hx);exact⟨k.len.trans k1,k.ones k2⟩
  ·obtain⟨x,hx,k⟩:=h.at hy;obtain⟨z,hz,k2⟩:=k.at hu;exact k2.to _ _ _ _ (hr i x j z hx hz)
  ·obtain⟨x,hx,k⟩:=h.at hy;obtain⟨z,hz,k2⟩:=k.at hu;exact hg i x j z hx hz⟩
theorem Bf {P:bI}{keep:List Nat}{f:Nat}{args:List AV}(args2:List AV) {st:St}{K:AV→St→Prop}(h:I4 args args2) (hc:fY P keep f args2 st K):fY P keep f args st K:=
 ⟨fun C a w r pub vals hh hv=>hc.out C a w r pub vals hh ⟨hv.len.trans h.len.symm,fun i y u hy hu=>by
  obtain⟨x,hx,k⟩:=h.at hy;exact k.to _ _ _ _ (hv.at_ i x u hx hu)⟩⟩
set_option maxHeartbeats 4000000
def wS:bH:=⟨⟨[115]⟩⟩
def wC:bH:=⟨⟨[99]⟩⟩
def wD:bH:=⟨⟨[100]⟩⟩
def wY:bH:=⟨⟨[121]⟩⟩
def wF:bH:=⟨⟨[102]⟩⟩
def wT:bH:=⟨⟨[116]⟩⟩
def wE:bH:=⟨⟨[]⟩⟩
def wX:bH:=⟨⟨[97,97,97,97,48,48,48,48,48,49,50,48]⟩⟩
def Wg:jC:=⟨[⟨wS,wE,0⟩,⟨wC,wE,0⟩],[⟨wD,wS,wY,wC,wE,wE,wE,wF,wT,wE,0,[⟨wX,0,[]⟩],0,0,0,0,0⟩],[],[],[]⟩
def U2:dQ:=⟨wS,wE,0,4,0,wD,wE,wE,0,0,wE,0,[],[]⟩
def Vm:dQ:=⟨wS,wE,0,20,0,wD,wE,wE,0,0,wE,0,[],[]⟩
def TK (st:Int):Dp:=⟨wD,wS,wY,wE,wF,wT,[wX],st,true⟩
def WS:List eC:=[⟨wX,eS,wS,wF,1⟩,⟨wX,wS,wC,wF,1⟩]
def wB:Bl:=gQ wC (TK 1) 2
def Zk:List Br:=[Tf wB wS]
def wP:Cr:=⟨wC,[wS,wC],[TK 0],⟨wC,[]⟩,[],[]⟩
def TS:Cr:=⟨wC,[wS,wC],[TK 1],⟨wC,[]⟩,[⟨wX,WS⟩],[]⟩
def YZ:Cr:=⟨wC,[wS,wC],[TK 2],⟨wC,Zk⟩,[⟨wX,WS⟩],[]⟩
def Xd:Cr:=⟨wC,[wS,wC],[TK 3],⟨wC,Zk⟩,[⟨wX,WS⟩],[]⟩
theorem Pd:NT Wg.su wC=wP:=by rfl
theorem Sv:iB wP U2 1 []=(true,TS,[]):=by rfl
theorem Ff:gP ⟨⟨wC,[]⟩,wB,wS⟩=0:=by
 have e1:i1 ⟨⟨wC,[]⟩,wB,wS⟩=false:=by decide +kernel
 have e2:i2 ⟨⟨wC,[]⟩,wB,wS⟩=false:=rfl;have e3:i3 ⟨⟨wC,[]⟩,wB,wS⟩=false:=by rw[NA];rfl
 have e4:i4 ⟨⟨wC,[]⟩,wB,wS⟩=false:=rfl;unfold gP;rw[e1,e2,e3,e4];rfl
theorem Vv:∃l,lH eV TS 5 wD 2=(YZ,[l],0):=by
 have h:lH eV TS 5 wD 2=uR eV TS (TK 1) 2:=by rfl
 have h2:uR eV TS (TK 1) 2=(qC { TS with reg:=jY ⟨⟨wC,[]⟩,wB,wS⟩ } wD (wW 2),cI wD 2 [{ oN with to:=wS,kind:=5,docs:=[eV wB] }],0):=by
  unfold uR;exact aE (by
   show ¬gP ⟨⟨wC,[]⟩,wB,wS⟩≠0;rw[Ff];decide)
 rw[h,h2,E0 Ff];exact⟨_,rfl⟩
theorem Wy:∃l,lH eV YZ 6 wD 3=(Xd,[l],0):=⟨_,rfl⟩
theorem Vb:∃C l,iB Xd Vm 4 [⟨wX,WS⟩]=(true,C,[l])∧l.kind=21∧∃h,C.deliv=[h]:=by
 refine⟨_,_,rfl,rfl,_,rfl⟩
theorem DN (P:bI) (hn:bK P 21 yZ) (hta:bK P 18 (sS fun _=>True)) (hac:bK P 23 (xO fun _=>True)) (hde:bK P 22 Nz) (hki:bK P 30 HZ):bM P x11 A7:=by
 intro args H K hc;obtain⟨u,rfl,rfl,hp,hK⟩:=hc;refine⟨cL,?_⟩;dsimp only at hp hK⊢;obtain⟨l1,hl1⟩:=Vv;obtain⟨l2,hl2⟩:=Wy;obtain⟨C4,l3,hl3,hk3,h4,hd4⟩:=Vb;have hsu:nP Wg:=⟨by decide,by decide,by decide,by
  intro d hd;obtain rfl:=List.mem_singleton.1 hd;exact⟨by decide,by decide,by decide⟩⟩
 have j0:=Jt.new (name:=wC) hsu;rw[Pd]at j0;have j1:=(j0.take (L0:=[]) hsu U2 1 (.refl _)).1;rw[Sv]at j1;dsimp only at j1;have j2:=(j1.act hsu 5 wD 2).1;rw[hl1]at j2;dsimp only at j2;have j3:=(j2.act hsu 6 wD 3).1;rw[hl2]at j3;dsimp only at j3;have t0:=j0.tqOk (l:=U2) (day:=1) (by decide);have c1:=j1.crOk (by decide);have c2:=j2.crOk (by decide);have t3:=j3.tqOk (l:=Vm) (day:=4) (by decide);clear j0 j1 j2 j3;cbv;refine Bf [.str wC,Jq Wg] (by unfold Jq Wg;repeat'(first|exact trivial|exact Bi.refl _|exact Bi.nil _|refine Bi.agg ?_|refine Bi.sl ?_|refine And.intro ?_ ?_)) ?_
 (refine yV hn ((wC,Wg):bH×jC) hsu ?_;try dsimp only)
 rw[Pd];cbv;refine Bf [.ptr 4 0,eL U2,.i 1] (by unfold eL U2;repeat'(first|exact trivial|exact Bi.refl _|exact Bi.nil _|refine Bi.agg ?_|refine Bi.sl ?_|refine And.intro ?_ ?_)) ?_;refine eB hta (⟨wP,U2,1⟩:TQ) [4,5,6,7,8,9,10,11] ⟨trivial,t0⟩ rfl rfl (by decide) rfl rfl rfl rfl rfl ?_;intro L0 hp0;obtain rfl:L0=[]:=List.perm_nil.1 hp0;dsimp only;rw[Sv];cbv
 (refine fI hac (⟨TS,5,0,wD,2⟩:CQ) [4,5,6,7,8,12,13,11] ⟨trivial,c1,by decide⟩ ?_;try dsimp only)
 rw[hl1];cbv
 (refine fI hac (⟨YZ,6,0,wD,3⟩:CQ) [4,5,6,7,8,12,13,11] ⟨trivial,c2,by decide⟩ ?_;try dsimp only)
 rw[hl2];cbv;refine Bf [.ptr 4 0,eL Vm,.i 4] (by unfold eL Vm;repeat'(first|exact trivial|exact Bi.refl _|exact Bi.nil _|refine Bi.agg ?_|refine Bi.sl ?_|refine And.intro ?_ ?_)) ?_;refine eB hta (⟨Xd,Vm,4⟩:TQ) [4,5,6,7,8,12,13,11] ⟨trivial,t3⟩ rfl rfl (by decide) rfl rfl rfl rfl rfl ?_;intro L1 hp1;obtain rfl:L1=[⟨wX,WS⟩]:=List.perm_singleton.1 hp1;dsimp only;rw[hl3];have hdl:C4.deliv.length≤1000000:=by rw[hd4];exact Nat.le_of_ble_eq_true rfl
 obtain⟨name4,parties4,deals4,⟨rc4,rL4⟩,cust4,deliv4⟩:=C4;dsimp only at hd4;subst hd4;obtain⟨hb4,hf4,ht4,hp4,hy4⟩:=h4;obtain⟨frm3,to3,nq3,kind3,ack3,deal3,text3,party3,index3,day3,cur3,amt3,docs3,bq3⟩:=l3;dsimp only at hk3;subst hk3;cbv;repeat'((first|refine .y fun h=>?_|refine .k fun z hz=>?_|fail)<;>cbv)
 refine bW.i0 ?_;cbv;repeat'((first|refine .y fun h=>?_|fail)<;>cbv)
 (refine fI hde (⟨name4,parties4,deals4,⟨rc4,rL4⟩,cust4,[⟨hb4,hf4,ht4,hp4,hy4⟩]⟩:Cr) [4,5,6,7,8,14,15,11] hdl ?_;try dsimp only)
 cbv;repeat'((first|refine .y fun h=>?_|refine .k fun z hz=>?_|fail)<;>cbv)
 (refine fI hki (⟨name4,parties4,deals4,⟨rc4,rL4⟩,cust4,[⟨hb4,hf4,ht4,hp4,hy4⟩]⟩:Cr) [4,5,6,7,8,14,15,11] trivial ?_;try dsimp only)
 cbv;repeat'((first|refine .y fun h=>?_|fail)<;>cbv)
 (refine .q9 ?_;cbv;exact .inl (.f9 hK))
set_option maxHeartbeats 20000000
def CD:dA:=spec (fun i:Rg×At=>[I7 i.1,PK i.2]) (fun _=>[]) (fun i=>(i.2.kind=1∨i.2.kind=2∨i.2.kind=4∨i.2.kind=5)∧i.1.bills.length≤256∧(∀b∈i.1.bills,mJ b)∧i.2.to.size≤maxLen) (fun i=>.i (eM i.1.bills (cX i.2))) fun _=>[]
theorem CM (P:bI) (hf:bK P 63 sJ) (hd:bK P 175 DZ) (hn:bK P 133 (iL (fun s=>s.size≤maxLen) bT)) (hw:bK P 143 oP) (hu:bK P 183 CX):bM P VR CD:=by
 intro args H K hc;obtain⟨⟨⟨carrier,L⟩,a⟩,rfl,rfl,hp,hK⟩:=hc;refine⟨cL,?_⟩;dsimp only at hp hK⊢;obtain⟨hkind,hp,hch,hto⟩:=hp;rcases hkind with hkind|hkind|hkind|hkind
 all_goals
  obtain⟨q,hq⟩:∃q,q=eM L (cX a):=⟨_,rfl⟩
  obtain⟨e,he⟩:∃e,e=pA (fun b:Br=>decide (b.b.number=a.bill)) L:=⟨_,rfl⟩
  rw[←hq]at hK;obtain⟨q1,hq1⟩:∃q,q=k1 (cX a):=⟨_,rfl⟩
  obtain⟨q2,hq2⟩:∃q,q=k2 (cX a):=⟨_,rfl⟩
  have hwo:=FQ (a:=a);have hq1':=hq1;rw[IW]at hq1';have hq2':=hq2;rw[Ss]at hq2';rw[←hq1]at hwo;have hbill:(cX a).bill=a.bill:=rfl;obtain⟨ws,hws⟩:∃ws,ws=iW a:=⟨_,rfl⟩
  have hwl:(if a.kind=5∨(a.kind=1∧a.index=-1) then [AV.i 0,.i 1,.i 2] else [.i a.index])=bJ iA ws:=by
   rw[hws];unfold iW
   split<;>rfl
  obtain⟨ms,hms⟩:∃ms,ms=bJ iA ws:=⟨_,rfl⟩
  rw[←hms]at hwl;have hwlen:ws.length≤3:=by
   rw[hws];unfold iW
   split
   ·exact aN 3
   ·exact Nat.le_add_left 1 2
  rw[←hws]at hwo;have hq0:q=match oL L a.bill with
   |some i=>match L[i]? with
    |some b=>nT b (cX a)
    |none=>4
   |none=>4:=hq
  clear hq;cases hb:oL L a.bill with
  |none=>
   rw[lJ,hb]at he;subst he;rw[hb]at hq0;dsimp only at hq0;subst hq0;obtain⟨kind,index,day,bill,by_,to,b⟩:=a;dsimp only at hkind;obtain⟨nq1,cq1,sq1,frm1,to1,bq1,pq1,iq1,lq1⟩:=b;cbv
   (refine bX hf ((⟨carrier,L⟩:Rg),bill) (by dsimp only;omega) ?_;try dsimp only)
   rw[lJ,hb];cbv;repeat'((first|refine .y fun h=>?_|fail)<;>cbv)
   exact bZ.mk ⟨_,Gh.refl _,.inl (.v9 (Pe hK (by rfl)))⟩
  |some i=>
   obtain⟨x,hx,_⟩:=eA hb;have he2:=he;rw[lJ,hb]at he2;rw[hb]at hq0;dsimp only at hq0;rw[hx]at hq0;dsimp only at hq0;have hc:=hch x (aC hx);have hae:nT x (cX a)=if k1 (cX a) then 3 else if k2 (cX a) then 1 else if k3 x (cX a) then 9 else if k4 x (cX a) then 8 else if k5 x (cX a) then 6 else 0:=rfl
   rw[hae,←hq1,←hq2]at hq0;clear hae;obtain⟨w1,hw1⟩:∃w,w=k3 x (cX a):=⟨_,rfl⟩
   obtain⟨w2,hw2⟩:∃w,w=k4 x (cX a):=⟨_,rfl⟩
   obtain⟨w3,hw3⟩:∃w,w=k5 x (cX a):=⟨_,rfl⟩
   rw[←hw1,←hw2,←hw3]at hq0;have hww:q1=false→w1=ws.any (Vh x (if a.kind=4 then 3 else 0))∧w2=ws.any (Vt x a.by_)∧w3=ws.any (U4 x a.kind a.day):=fun h=>by
    rw[hq1]at h;rw[hws,hw1,hw2,hw3];exact⟨FZ h x,EK h x,Ge h x⟩
   clear hw1 hw2 hw3;obtain⟨d5,hd5⟩:∃d,d=gK a.day:=⟨_,rfl⟩
   obtain⟨n5,hn5⟩:∃d,d=bT a.to:=⟨_,rfl⟩
   unfold iC at hq2';rw[←hd5,←hn5]at hq2';obtain⟨kind,index,day,bill,by_,to,b⟩:=a;dsimp only at hkind;obtain⟨nq2,cq2,sq2,frm2,to2,bq2,pq2,iq2,lq2⟩:=b;dsimp only at hq1' hq2' hto he he2 hd5 hn5 hwl hww;cbv
   (refine bX hf ((⟨carrier,L⟩:Rg),bill) (by dsimp only;omega) ?_;try dsimp only)
   rw[←he,he2];cbv;repeat'((first|refine .n fun h=>?_|refine .y fun h=>?_|refine .mk (fun h=>?_) fun h=>?_|fail)<;>cbv)
   all_goals try
    ((refine bX hd day trivial ?_;try dsimp only)
     rw[←hd5];cases d5<;>(cbv;repeat'((first|refine .e ?_|refine .n fun h=>?_|refine .y fun h=>?_|refine And.intro ?_ ?_|fail)<;>cbv)))
   all_goals try
    ((refine bX hn to hto ?_;try dsimp only)
     rw[←hn5];cases n5<;>(cbv;repeat'((first|refine .e ?_|refine .mk (fun h=>?_) fun h=>?_|refine And.intro ?_ ?_|fail)<;>cbv)))
   all_goals try
    (have f1:q1=true:=by(rw[hq1'];exact aH (by omega))
     (refine .q9 ?_;cbv;exact .inl (.f9 (fO hK (by rw[hq0,f1];rfl))))
     done)
   all_goals have f1:q1=false:=by(rw[hq1'];exact aG (by omega))
   all_goals try
    (have f2:q2=true:=by
      rw[hq2']
      first
       |(rw[aG (by omega:¬kind=3)];rfl)
       |(rw[aH (by omega:kind=1)];exact Bool.or_true _)
       |(rw[aH (by omega:kind=1),aH (by assumption:to=by_)];exact Bool.or_true _)
     (refine .q9 ?_;cbv;exact .inl (.f9 (fO hK (by rw[hq0,f1,f2];rfl))))
     done)
   all_goals
    (have f2:q2=false:=by
      rw[hq2']
      first
       |(rw[aH (by omega:kind=3),aG (by omega:¬kind=1)];rfl)
       |(rw[aG (by omega:¬kind=3),aG (by omega:¬kind=1)];rfl)
       |(rw[aG (by omega:¬kind=3),aH (by omega:kind=1),aG (by assumption:¬to=by_)];rfl)
     rw[f1,f2]at hq0)
   all_goals
    (have hwo:=hwo f1
     (refine bX hw (⟨kind,index,day,bill,by_,to,⟨nq2,cq2,sq2,frm2,to2,bq2,pq2,iq2,lq2⟩⟩:At) trivial ?_;try dsimp only)
     rw[hwl,hms];obtain⟨g1,g2,g3⟩:=hww f1;obtain⟨sv,hsv⟩:∃sv:Int,sv=if kind=4 then 3 else 0:=⟨_,rfl⟩
     rw[←hsv]at g1)
   all_goals
    (first
     |rw[aE (by omega:¬kind=4)]at hsv
     |rw[aF (by omega:kind=4)]at hsv
     obtain⟨⟨nq1,cq1,sq1,frm1,to1,bq1,pq1,iq1,lq1⟩,st1,⟨sa1,ha1,ca1⟩,⟨sb1,hb1,cb1⟩,⟨sc1,hc1,cc1⟩⟩:=x;obtain⟨P1,hP1⟩:∃p,p=Vh ⟨⟨nq1,cq1,sq1,frm1,to1,bq1,pq1,iq1,lq1⟩,st1,⟨sa1,ha1,ca1⟩,⟨sb1,hb1,cb1⟩,⟨sc1,hc1,cc1⟩⟩ sv:=⟨_,rfl⟩
     obtain⟨P2,hP2⟩:∃p,p=Vt ⟨⟨nq1,cq1,sq1,frm1,to1,bq1,pq1,iq1,lq1⟩,st1,⟨sa1,ha1,ca1⟩,⟨sb1,hb1,cb1⟩,⟨sc1,hc1,cc1⟩⟩ by_:=⟨_,rfl⟩
     obtain⟨P3,hP3⟩:∃p,p=U4 ⟨⟨nq1,cq1,sq1,frm1,to1,bq1,pq1,iq1,lq1⟩,st1,⟨sa1,ha1,ca1⟩,⟨sb1,hb1,cb1⟩,⟨sc1,hc1,cc1⟩⟩ kind day:=⟨_,rfl⟩
     rw[←hP1]at g1;rw[←hP2]at g2;rw[←hP3]at g3;obtain⟨v0,hv0⟩:∃v,v=iN ⟨sa1,ha1,ca1⟩ iq1:=⟨_,rfl⟩
     have a0:P1 0=(!decide (st1=0) || !decide (sa1=sv)):=by rw[hP1];rfl
     have b0:P2 0=(!decide (ha1=by_)):=by rw[hP2];rfl
     have c0:P3 0=(!decide (kind=3) && decide (day < v0)):=by rw[hP3,hv0];rfl
     obtain⟨v1,hv1⟩:∃v,v=iN ⟨sb1,hb1,cb1⟩ iq1:=⟨_,rfl⟩
     have a1:P1 1=(!decide (st1=0) || !decide (sb1=sv)):=by rw[hP1];rfl
     have b1:P2 1=(!decide (hb1=by_)):=by rw[hP2];rfl
     have c1:P3 1=(!decide (kind=3) && decide (day < v1)):=by rw[hP3,hv1];rfl
     obtain⟨v2,hv2⟩:∃v,v=iN ⟨sc1,hc1,cc1⟩ iq1:=⟨_,rfl⟩
     have a2:P1 2=(!decide (st1=0) || !decide (sc1=sv)):=by rw[hP1];rfl
     have b2:P2 2=(!decide (hc1=by_)):=by rw[hP2];rfl
     have c2:P3 2=(!decide (kind=3) && decide (day < v2)):=by rw[hP3,hv2];rfl
     have aP:∀k,P1 k=(!decide (st1=0) || !decide ((Ot k ⟨⟨nq1,cq1,sq1,frm1,to1,bq1,pq1,iq1,lq1⟩,st1,⟨sa1,ha1,ca1⟩,⟨sb1,hb1,cb1⟩,⟨sc1,hc1,cc1⟩⟩).state=sv)):=fun k=>by rw[hP1];rfl
     clear hP1 hP2 hP3;subst hsv;cbv;repeat'((first|refine .n fun h=>?_|refine .y fun h=>?_|fail)<;>cbv)
     refine bS [] (fun q:{ j:Nat // j≤ws.length∧iM P1 ws j }=>[(9,.i (nI q.1))]) (fun q=>[.blk 38 [.str carrier,.sl 11 (bJ iP L)],.blk 204 (yP ⟨kind,index,day,bill,by_,to,⟨nq2,cq2,sq2,frm2,to2,bq2,pq2,iq2,lq2⟩⟩),.blk 104 (yD ⟨⟨nq1,cq1,sq1,frm1,to1,bq1,pq1,iq1,lq1⟩,st1,⟨sa1,ha1,ca1⟩,⟨sb1,hb1,cb1⟩,⟨sc1,hc1,cc1⟩⟩)]) (fun q=>eW 4 q.1) ⟨0,aI _,.zero⟩ ?_;rintro ⟨j1,hj1,hn1⟩;dsimp only at hj1 hn1⊢;cbv;repeat'((first|refine .mk (fun h=>?_) fun h=>?_|refine .k fun z hz=>?_|fail)<;>cbv)
     ·refine cM bQ bQ fun i l hi hl=>?_
      obtain rfl:j1=i:=bQ;rcases hwo l (aC hl)with rfl|rfl|rfl
      ·cbv;repeat'((first|refine .mk (fun h=>?_) fun h=>?_|refine .k fun z hz=>?_|refine bW.i0 ?_|fail)<;>cbv)
       ·have e:P1 0=false:=by rw[a0,aH (by assumption:st1=0),aH (by assumption:sa1=_)];rfl
        obtain rfl:z=nI (j1+1):=bQ;exact bN ⟨j1+1,by exact bQ,hn1.succ hl e⟩ (bO bQ)
       ·have e:P1 0=true:=by rw[a0,aG (by assumption:¬sa1=_)];exact Bool.or_true _
        (refine .q9 ?_;cbv;exact .inl (.f9 (fO hK (by rw[hq0,g1.trans (gF hl e)];rfl))))
      ·cbv;repeat'((first|refine .mk (fun h=>?_) fun h=>?_|refine .k fun z hz=>?_|refine bW.i1 ?_|fail)<;>cbv)
       ·have e:P1 1=false:=by rw[a1,aH (by assumption:st1=0),aH (by assumption:sb1=_)];rfl
        obtain rfl:z=nI (j1+1):=bQ;exact bN ⟨j1+1,by exact bQ,hn1.succ hl e⟩ (bO bQ)
       ·have e:P1 1=true:=by rw[a1,aG (by assumption:¬sb1=_)];exact Bool.or_true _
        (refine .q9 ?_;cbv;exact .inl (.f9 (fO hK (by rw[hq0,g1.trans (gF hl e)];rfl))))
      ·cbv;repeat'((first|refine .mk (fun h=>?_) fun h=>?_|refine .k fun z hz=>?_|refine bW.i2 ?_|fail)<;>cbv)
       ·have e:P1 2=false:=by rw[a2,aH (by assumption:st1=0),aH (by assumption:sc1=_)];rfl
        obtain rfl:z=nI (j1+1):=bQ;exact bN ⟨j1+1,by exact bQ,hn1.succ hl e⟩ (bO bQ)
       ·have e:P1 2=true:=by rw[a2,aG (by assumption:¬sc1=_)];exact Bool.or_true _
        (refine .q9 ?_;cbv;exact .inl (.f9 (fO hK (by rw[hq0,g1.trans (gF hl e)];rfl))))
     ·obtain⟨l,hl⟩:=cK (L:=ws) (i:=j1) bQ;have e:P1 l=true:=by rw[aP,aG (by assumption:¬st1=0)];rfl
      (refine .q9 ?_;cbv;exact .inl (.f9 (fO hK (by rw[hq0,g1.trans (gF hl e)];rfl))))
     ·have ej1:j1=ws.length:=bQ;rw[ej1]at hn1;have f1:=g1.trans (iR hn1);rw[f1]at hq0;refine bS [] (fun q:{ j:Nat // j≤ws.length∧iM P2 ws j }=>[(10,.i (nI q.1))]) (fun q=>[.blk 38 [.str carrier,.sl 11 (bJ iP L)],.blk 204 (yP ⟨kind,index,day,bill,by_,to,⟨nq2,cq2,sq2,frm2,to2,bq2,pq2,iq2,lq2⟩⟩),.blk 104 (yD ⟨⟨nq1,cq1,sq1,frm1,to1,bq1,pq1,iq1,lq1⟩,st1,⟨sa1,ha1,ca1⟩,⟨sb1,hb1,cb1⟩,⟨sc1,hc1,cc1⟩⟩)]) (fun q=>eW 4 q.1) ⟨0,aI _,.zero⟩ ?_;rintro ⟨j2,hj2,hn2⟩;dsimp only at hj2 hn2⊢;cbv;repeat'((first|refine .mk (fun h=>?_) fun h=>?_|refine .k fun z hz=>?_|fail)<;>cbv)
      rotate_left
      ·have ej2:j2=ws.length:=bQ;rw[ej2]at hn2;have f2:=g2.trans (iR hn2);rw[f2]at hq0;refine bS [] (fun q:{ j:Nat // j≤ws.length∧iM P3 ws j }=>[(11,.i (nI q.1))]) (fun q=>[.blk 38 [.str carrier,.sl 11 (bJ iP L)],.blk 204 (yP ⟨kind,index,day,bill,by_,to,⟨nq2,cq2,sq2,frm2,to2,bq2,pq2,iq2,lq2⟩⟩),.blk 104 (yD ⟨⟨nq1,cq1,sq1,frm1,to1,bq1,pq1,iq1,lq1⟩,st1,⟨sa1,ha1,ca1⟩,⟨sb1,hb1,cb1⟩,⟨sc1,hc1,cc1⟩⟩)]) (fun q=>eW 4 q.1) ⟨0,aI _,.zero⟩ ?_;rintro ⟨j3,hj3,hn3⟩;dsimp only at hj3 hn3⊢;cbv;repeat'((first|refine .n fun h=>?_|refine .mk (fun h=>?_) fun h=>?_|refine .k fun z hz=>?_|fail)<;>cbv)
       rotate_left
       ·have ej3:j3=ws.length:=bQ;rw[ej3]at hn3;have f3:=g3.trans (iR hn3);rw[f3]at hq0
        (refine .q9 ?_;cbv;exact .inl (.f9 (fO hK (by rw[hq0];rfl))))
       ·refine cM bQ bQ fun i l hi hl=>?_
        obtain rfl:j3=i:=bQ;rcases hwo l (aC hl)with rfl|rfl|rfl
        ·have e3:¬kind=3:=by omega
         cbv
         (refine bX hu ((⟨⟨nq1,cq1,sq1,frm1,to1,bq1,pq1,iq1,lq1⟩,st1,⟨sa1,ha1,ca1⟩,⟨sb1,hb1,cb1⟩,⟨sc1,hc1,cc1⟩⟩:Br),0) ⟨.inl rfl,hc⟩ ?_;try dsimp only)
         have ev:iN (Ot 0 ⟨⟨nq1,cq1,sq1,frm1,to1,bq1,pq1,iq1,lq1⟩,st1,⟨sa1,ha1,ca1⟩,⟨sb1,hb1,cb1⟩,⟨sc1,hc1,cc1⟩⟩) iq1=v0:=hv0.symm;rw[ev];cbv;repeat'((first|refine .mk (fun h=>?_) fun h=>?_|refine .k fun z hz=>?_|fail)<;>cbv)
         ·have e:P3 0=true:=by rw[c0,aG e3,aH (by assumption:day < v0)];rfl
          (refine .q9 ?_;cbv;exact .inl (.f9 (fO hK (by rw[hq0,g3.trans (gF hl e)];rfl))))
         ·have e:P3 0=false:=by rw[c0,aG (by omega:¬day < v0)];exact Bool.and_false _
          obtain rfl:z=nI (j3+1):=bQ;exact bN ⟨j3+1,by exact bQ,hn3.succ hl e⟩ (bO bQ)
        ·have e3:¬kind=3:=by omega
         cbv
         (refine bX hu ((⟨⟨nq1,cq1,sq1,frm1,to1,bq1,pq1,iq1,lq1⟩,st1,⟨sa1,ha1,ca1⟩,⟨sb1,hb1,cb1⟩,⟨sc1,hc1,cc1⟩⟩:Br),1) ⟨.inr (.inl rfl),hc⟩ ?_;try dsimp only)
         have ev:iN (Ot 1 ⟨⟨nq1,cq1,sq1,frm1,to1,bq1,pq1,iq1,lq1⟩,st1,⟨sa1,ha1,ca1⟩,⟨sb1,hb1,cb1⟩,⟨sc1,hc1,cc1⟩⟩) iq1=v1:=hv1.symm;rw[ev];cbv;repeat'((first|refine .mk (fun h=>?_) fun h=>?_|refine .k fun z hz=>?_|fail)<;>cbv)
         ·have e:P3 1=true:=by rw[c1,aG e3,aH (by assumption:day < v1)];rfl
          (refine .q9 ?_;cbv;exact .inl (.f9 (fO hK (by rw[hq0,g3.trans (gF hl e)];rfl))))
         ·have e:P3 1=false:=by rw[c1,aG (by omega:¬day < v1)];exact Bool.and_false _
          obtain rfl:z=nI (j3+1):=bQ;exact bN ⟨j3+1,by exact bQ,hn3.succ hl e⟩ (bO bQ)
        ·have e3:¬kind=3:=by omega
         cbv
         (refine bX hu ((⟨⟨nq1,cq1,sq1,frm1,to1,bq1,pq1,iq1,lq1⟩,st1,⟨sa1,ha1,ca1⟩,⟨sb1,hb1,cb1⟩,⟨sc1,hc1,cc1⟩⟩:Br),2) ⟨.inr (.inr rfl),hc⟩ ?_;try dsimp only)
         have ev:iN (Ot 2 ⟨⟨nq1,cq1,sq1,frm1,to1,bq1,pq1,iq1,lq1⟩,st1,⟨sa1,ha1,ca1⟩,⟨sb1,hb1,cb1⟩,⟨sc1,hc1,cc1⟩⟩) iq1=v2:=hv2.symm;rw[ev];cbv;repeat'((first|refine .mk (fun h=>?_) fun h=>?_|refine .k fun z hz=>?_|fail)<;>cbv)
         ·have e:P3 2=true:=by rw[c2,aG e3,aH (by assumption:day < v2)];rfl
          (refine .q9 ?_;cbv;exact .inl (.f9 (fO hK (by rw[hq0,g3.trans (gF hl e)];rfl))))
         ·have e:P3 2=false:=by rw[c2,aG (by omega:¬day < v2)];exact Bool.and_false _
          obtain rfl:z=nI (j3+1):=bQ;exact bN ⟨j3+1,by exact bQ,hn3.succ hl e⟩ (bO bQ)
      ·refine cM bQ bQ fun i l hi hl=>?_
       obtain rfl:j2=i:=bQ;rcases hwo l (aC hl)with rfl|rfl|rfl
       ·cbv;repeat'((first|refine .mk (fun h=>?_) fun h=>?_|refine .k fun z hz=>?_|refine bW.i0 ?_|fail)<;>cbv)
        ·have e:P2 0=false:=by rw[b0,aH (by assumption:ha1=by_)];rfl
         obtain rfl:z=nI (j2+1):=bQ;exact bN ⟨j2+1,by exact bQ,hn2.succ hl e⟩ (bO bQ)
        ·have e:P2 0=true:=by rw[b0,aG (by assumption:¬ha1=by_)];rfl
         (refine .q9 ?_;cbv;exact .inl (.f9 (fO hK (by rw[hq0,g2.trans (gF hl e)];rfl))))
       ·cbv;repeat'((first|refine .mk (fun h=>?_) fun h=>?_|refine .k fun z hz=>?_|refine bW.i1 ?_|fail)<;>cbv)
        ·have e:P2 1=false:=by rw[b1,aH (by assumption:hb1=by_)];rfl
         obtain rfl:z=nI (j2+1):=bQ;exact bN ⟨j2+1,by exact bQ,hn2.succ hl e⟩ (bO bQ)
        ·have e:P2 1=true:=by rw[b1,aG (by assumption:¬hb1=by_)];rfl
         (refine .q9 ?_;cbv;exact .inl (.f9 (fO hK (by rw[hq0,g2.trans (gF hl e)];rfl))))
       ·cbv;repeat'((first|refine .mk (fun h=>?_) fun h=>?_|refine .k fun z hz=>?_|refine bW.i2 ?_|fail)<;>cbv)
        ·have e:P2 2=false:=by rw[b2,aH (by assumption:hc1=by_)];rfl
         obtain rfl:z=nI (j2+1):=bQ;exact bN ⟨j2+1,by exact bQ,hn2.succ hl e⟩ (bO bQ)
        ·have e:P2 2=true:=by rw[b2,aG (by assumption:¬hc1=by_)];rfl
         (refine .q9 ?_;cbv;exact .inl (.f9 (fO hK (by rw[hq0,g2.trans (gF hl e)];rfl)))))
theorem Hq {P:bI}{f:Nat}(hA:bK P f CD) (h3:bK P f (mQ 3)):bK P f mU:=by
 intro args H K hc;obtain⟨i,rfl,rfl,⟨hk,hp⟩,hK⟩:=hc;by_cases h:i.2.kind=3
 ·exact h3 _ _ K ⟨i,rfl,rfl,⟨h,hp⟩,hK⟩
 ·exact hA _ _ K ⟨i,rfl,rfl,⟨by omega,hp⟩,hK⟩
set_option maxHeartbeats 4000000
theorem Dl (P:bI) (hf:bK P 63 sJ) (hd:bK P 175 DZ) (hn:bK P 133 (iL (fun s=>s.size≤maxLen) bT)) (hw:bK P 143 oP) (hu:bK P 183 CX):bM P VR (mQ 3):=by
 intro args H K hc;obtain⟨⟨⟨carrier,L⟩,a⟩,rfl,rfl,hp,hK⟩:=hc;refine⟨cL,?_⟩;dsimp only at hp hK⊢;obtain⟨hkind,hp,hch,hto⟩:=hp;obtain⟨q,hq⟩:∃q,q=eM L (cX a):=⟨_,rfl⟩
 obtain⟨e,he⟩:∃e,e=pA (fun b:Br=>decide (b.b.number=a.bill)) L:=⟨_,rfl⟩
 rw[←hq]at hK;obtain⟨q1,hq1⟩:∃q,q=k1 (cX a):=⟨_,rfl⟩
 obtain⟨q2,hq2⟩:∃q,q=k2 (cX a):=⟨_,rfl⟩
 have hwo:=FQ (a:=a);have hq1':=hq1;rw[IW]at hq1';have hq2':=hq2;rw[Ss]at hq2';rw[←hq1]at hwo;have hbill:(cX a).bill=a.bill:=rfl;obtain⟨ws,hws⟩:∃ws,ws=iW a:=⟨_,rfl⟩
 have hwl:(if a.kind=5∨(a.kind=1∧a.index=-1) then [AV.i 0,.i 1,.i 2] else [.i a.index])=bJ iA ws:=by
  rw[hws];unfold iW
  split<;>rfl
 obtain⟨ms,hms⟩:∃ms,ms=bJ iA ws:=⟨_,rfl⟩
 rw[←hms]at hwl;have hwlen:ws.length≤3:=by
  rw[hws];unfold iW
  split
  ·exact aN 3
  ·exact Nat.le_add_left 1 2
 rw[←hws]at hwo;have hq0:q=match oL L a.bill with
  |some i=>match L[i]? with
   |some b=>nT b (cX a)
   |none=>4
  |none=>4:=hq
 clear hq;cases hb:oL L a.bill with
 |none=>
  rw[lJ,hb]at he;subst he;rw[hb]at hq0;dsimp only at hq0;subst hq0;obtain⟨kind,index,day,bill,by_,to,b⟩:=a;obtain rfl:kind=3:=hkind;obtain⟨nq1,cq1,sq1,frm1,to1,bq1,pq1,iq1,lq1⟩:=b;cbv
  (refine bX hf ((⟨carrier,L⟩:Rg),bill) (by dsimp only;omega) ?_;try dsimp only)
  rw[lJ,hb];cbv;repeat'((first|refine .y fun h=>?_|fail)<;>cbv)
  exact bZ.mk ⟨_,Gh.refl _,.inl (.v9 (Pe hK (by rfl)))⟩
 |some i=>
  obtain⟨x,hx,_⟩:=eA hb;have he2:=he;rw[lJ,hb]at he2;rw[hb]at hq0;dsimp only at hq0;rw[hx]at hq0;dsimp only at hq0;have hc:=hch x (aC hx);have hae:nT x (cX a)=if k1 (cX a) then 3 else if k2 (cX a) then 1 else if k3 x (cX a) then 9 else if k4 x (cX a) then 8 else if k5 x (cX a) then 6 else 0:=rfl
  rw[hae,←hq1,←hq2]at hq0;clear hae;obtain⟨w1,hw1⟩:∃w,w=k3 x (cX a):=⟨_,rfl⟩
  obtain⟨w2,hw2⟩:∃w,w=k4 x (cX a):=⟨_,rfl⟩
  obtain⟨w3,hw3⟩:∃w,w=k5 x (cX a):=⟨_,rfl⟩
  rw[←hw1,←hw2,←hw3]at hq0;have hww:q1=false→w1=ws.any (Vh x (if a.kind=4 then 3 else 0))∧w2=ws.any (Vt x a.by_)∧w3=ws.any (U4 x a.kind a.day):=fun h=>by
   rw[hq1]at h;rw[hws,hw1,hw2,hw3];exact⟨FZ h x,EK h x,Ge h x⟩
  clear hw1 hw2 hw3;obtain⟨d5,hd5⟩:∃d,d=gK a.day:=⟨_,rfl⟩
  obtain⟨n5,hn5⟩:∃d,d=bT a.to:=⟨_,rfl⟩
  unfold iC at hq2';rw[←hd5,←hn5]at hq2';obtain⟨kind,index,day,bill,by_,to,b⟩:=a;obtain rfl:kind=3:=hkind;obtain⟨nq2,cq2,sq2,frm2,to2,bq2,pq2,iq2,lq2⟩:=b;dsimp only at hq1' hq2' hto he he2 hd5 hn5 hwl hww;cbv
  (refine bX hf ((⟨carrier,L⟩:Rg),bill) (by dsimp only;omega) ?_;try dsimp only)
  rw[←he,he2];cbv;repeat'((first|refine .e ?_|refine .n fun h=>?_|refine .y fun h=>?_|refine .mk (fun h=>?_) fun h=>?_|refine And.intro ?_ ?_|fail)<;>cbv)
  all_goals try
   ((refine bX hd day trivial ?_;try dsimp only)
    rw[←hd5];cases d5<;>(cbv))
  all_goals try
   ((refine bX hn to hto ?_;try dsimp only)
    rw[←hn5];cases n5<;>(cbv))
  all_goals try
   (have f1:q1=true:=by(rw[hq1'];exact aH (by omega))
    (refine .q9 ?_;cbv;exact .inl (.f9 (fO hK (by rw[hq0,f1];rfl))))
    done)
  all_goals have f1:q1=false:=by(rw[hq1'];exact aG (by omega))
  all_goals try
   (have f2:q2=true:=by
     rw[hq2']
     first
      |(rw[aG (by decide:¬(3:Int)=3)];rfl)
      |(rw[aH (by decide:(3:Int)=1)];exact Bool.or_true _)
      |(rw[aH (by decide:(3:Int)=1),aH (by assumption:to=by_)];exact Bool.or_true _)
    (refine .q9 ?_;cbv;exact .inl (.f9 (fO hK (by rw[hq0,f1,f2];rfl))))
    done)
  all_goals
   (have f2:q2=false:=by
     rw[hq2']
     first
      |(rw[aH (by decide:(3:Int)=3),aG (by decide:¬(3:Int)=1)];rfl)
      |(rw[aG (by decide:¬(3:Int)=3),aG (by decide:¬(3:Int)=1)];rfl)
      |(rw[aG (by decide:¬(3:Int)=3),aH (by decide:(3:Int)=1),aG (by assumption:¬to=by_)];rfl)
    rw[f1,f2]at hq0)
  all_goals
   (have hwo:=hwo f1
    (refine bX hw (⟨3,index,day,bill,by_,to,⟨nq2,cq2,sq2,frm2,to2,bq2,pq2,iq2,lq2⟩⟩:At) trivial ?_;try dsimp only)
    rw[hwl,hms];obtain⟨g1,g2,g3⟩:=hww f1;obtain⟨sv,hsv⟩:∃sv:Int,sv=if (3:Int)=4 then 3 else 0:=⟨_,rfl⟩
    rw[←hsv]at g1)
  all_goals
   (rw[aE (by decide)]at hsv
    obtain⟨⟨nq1,cq1,sq1,frm1,to1,bq1,pq1,iq1,lq1⟩,st1,⟨sa1,ha1,ca1⟩,⟨sb1,hb1,cb1⟩,⟨sc1,hc1,cc1⟩⟩:=x;obtain⟨P1,hP1⟩:∃p,p=Vh ⟨⟨nq1,cq1,sq1,frm1,to1,bq1,pq1,iq1,lq1⟩,st1,⟨sa1,ha1,ca1⟩,⟨sb1,hb1,cb1⟩,⟨sc1,hc1,cc1⟩⟩ sv:=⟨_,rfl⟩
    obtain⟨P2,hP2⟩:∃p,p=Vt ⟨⟨nq1,cq1,sq1,frm1,to1,bq1,pq1,iq1,lq1⟩,st1,⟨sa1,ha1,ca1⟩,⟨sb1,hb1,cb1⟩,⟨sc1,hc1,cc1⟩⟩ by_:=⟨_,rfl⟩
    obtain⟨P3,hP3⟩:∃p,p=U4 ⟨⟨nq1,cq1,sq1,frm1,to1,bq1,pq1,iq1,lq1⟩,st1,⟨sa1,ha1,ca1⟩,⟨sb1,hb1,cb1⟩,⟨sc1,hc1,cc1⟩⟩ (3:Int) day:=⟨_,rfl⟩
    rw[←hP1]at g1;rw[←hP2]at g2;rw[←hP3]at g3;obtain⟨v0,hv0⟩:∃v,v=iN ⟨sa1,ha1,ca1⟩ iq1:=⟨_,rfl⟩
    have a0:P1 0=(!decide (st1=0) || !decide (sa1=sv)):=by rw[hP1];rfl
    have b0:P2 0=(!decide (ha1=by_)):=by rw[hP2];rfl
    have c0:P3 0=(!decide ((3:Int)=3) && decide (day < v0)):=by rw[hP3,hv0];rfl
    obtain⟨v1,hv1⟩:∃v,v=iN ⟨sb1,hb1,cb1⟩ iq1:=⟨_,rfl⟩
    have a1:P1 1=(!decide (st1=0) || !decide (sb1=sv)):=by rw[hP1];rfl
    have b1:P2 1=(!decide (hb1=by_)):=by rw[hP2];rfl
    have c1:P3 1=(!decide ((3:Int)=3) && decide (day < v1)):=by rw[hP3,hv1];rfl
    obtain⟨v2,hv2⟩:∃v,v=iN ⟨sc1,hc1,cc1⟩ iq1:=⟨_,rfl⟩
    have a2:P1 2=(!decide (st1=0) || !decide (sc1=sv)):=by rw[hP1];rfl
    have b2:P2 2=(!decide (hc1=by_)):=by rw[hP2];rfl
    have c2:P3 2=(!decide ((3:Int)=3) && decide (day < v2)):=by rw[hP3,hv2];rfl
    have aP:∀k,P1 k=(!decide (st1=0) || !decide ((Ot k ⟨⟨nq1,cq1,sq1,frm1,to1,bq1,pq1,iq1,lq1⟩,st1,⟨sa1,ha1,ca1⟩,⟨sb1,hb1,cb1⟩,⟨sc1,hc1,cc1⟩⟩).state=sv)):=fun k=>by rw[hP1];rfl
    have hp3:∀k,P3 k=false:=fun k=>by rw[hP3];rfl
    clear hP1 hP2 hP3;subst hsv;cbv;repeat'((first|refine .n fun h=>?_|fail)<;>cbv)
    refine bS [] (fun q:{ j:Nat // j≤ws.length∧iM P1 ws j }=>[(9,.i (nI q.1))]) (fun q=>[.blk 38 [.str carrier,.sl 11 (bJ iP L)],.blk 204 (yP ⟨(3:Int),index,day,bill,by_,to,⟨nq2,cq2,sq2,frm2,to2,bq2,pq2,iq2,lq2⟩⟩),.blk 104 (yD ⟨⟨nq1,cq1,sq1,frm1,to1,bq1,pq1,iq1,lq1⟩,st1,⟨sa1,ha1,ca1⟩,⟨sb1,hb1,cb1⟩,⟨sc1,hc1,cc1⟩⟩)]) (fun q=>eW 4 q.1) ⟨0,aI _,.zero⟩ ?_;rintro ⟨j1,hj1,hn1⟩;dsimp only at hj1 hn1⊢;cbv;repeat'((first|refine .mk (fun h=>?_) fun h=>?_|refine .k fun z hz=>?_|fail)<;>cbv)
    ·refine cM bQ bQ fun i l hi hl=>?_
     obtain rfl:j1=i:=bQ;rcases hwo l (aC hl)with rfl|rfl|rfl
     ·cbv;repeat'((first|refine .mk (fun h=>?_) fun h=>?_|refine .k fun z hz=>?_|refine bW.i0 ?_|fail)<;>cbv)
      ·have e:P1 0=false:=by rw[a0,aH (by assumption:st1=0),aH (by assumption:sa1=_)];rfl
       obtain rfl:z=nI (j1+1):=bQ;exact bN ⟨j1+1,by exact bQ,hn1.succ hl e⟩ (bO bQ)
      ·have e:P1 0=true:=by rw[a0,aG (by assumption:¬sa1=_)];exact Bool.or_true _
       (refine .q9 ?_;cbv;exact .inl (.f9 (fO hK (by rw[hq0,g1.trans (gF hl e)];rfl))))
     ·cbv;repeat'((first|refine .mk (fun h=>?_) fun h=>?_|refine .k fun z hz=>?_|refine bW.i1 ?_|fail)<;>cbv)
      ·have e:P1 1=false:=by rw[a1,aH (by assumption:st1=0),aH (by assumption:sb1=_)];rfl
       obtain rfl:z=nI (j1+1):=bQ;exact bN ⟨j1+1,by exact bQ,hn1.succ hl e⟩ (bO bQ)
      ·have e:P1 1=true:=by rw[a1,aG (by assumption:¬sb1=_)];exact Bool.or_true _
       (refine .q9 ?_;cbv;exact .inl (.f9 (fO hK (by rw[hq0,g1.trans (gF hl e)];rfl))))
     ·cbv;repeat'((first|refine .mk (fun h=>?_) fun h=>?_|refine .k fun z hz=>?_|refine bW.i2 ?_|fail)<;>cbv)
      ·have e:P1 2=false:=by rw[a2,aH (by assumption:st1=0),aH (by assumption:sc1=_)];rfl
       obtain rfl:z=nI (j1+1):=bQ;exact bN ⟨j1+1,by exact bQ,hn1.succ hl e⟩ (bO bQ)
      ·have e:P1 2=true:=by rw[a2,aG (by assumption:¬sc1=_)];exact Bool.or_true _
       (refine .q9 ?_;cbv;exact .inl (.f9 (fO hK (by rw[hq0,g1.trans (gF hl e)];rfl))))
    ·obtain⟨l,hl⟩:=cK (L:=ws) (i:=j1) bQ;have e:P1 l=true:=by rw[aP,aG (by assumption:¬st1=0)];rfl
     (refine .q9 ?_;cbv;exact .inl (.f9 (fO hK (by rw[hq0,g1.trans (gF hl e)];rfl))))
    ·have ej1:j1=ws.length:=bQ;rw[ej1]at hn1;have f1:=g1.trans (iR hn1);rw[f1]at hq0;refine bS [] (fun q:{ j:Nat // j≤ws.length∧iM P2 ws j }=>[(10,.i (nI q.1))]) (fun q=>[.blk 38 [.str carrier,.sl 11 (bJ iP L)],.blk 204 (yP ⟨(3:Int),index,day,bill,by_,to,⟨nq2,cq2,sq2,frm2,to2,bq2,pq2,iq2,lq2⟩⟩),.blk 104 (yD ⟨⟨nq1,cq1,sq1,frm1,to1,bq1,pq1,iq1,lq1⟩,st1,⟨sa1,ha1,ca1⟩,⟨sb1,hb1,cb1⟩,⟨sc1,hc1,cc1⟩⟩)]) (fun q=>eW 4 q.1) ⟨0,aI _,.zero⟩ ?_;rintro ⟨j2,hj2,hn2⟩;dsimp only at hj2 hn2⊢;cbv;repeat'((first|refine .mk (fun h=>?_) fun h=>?_|refine .k fun z hz=>?_|fail)<;>cbv)
     rotate_left
     ·have ej2:j2=ws.length:=bQ;rw[ej2]at hn2;have f2:=g2.trans (iR hn2);rw[f2]at hq0;refine bS [] (fun q:{ j:Nat // j≤ws.length∧iM P3 ws j }=>[(11,.i (nI q.1))]) (fun q=>[.blk 38 [.str carrier,.sl 11 (bJ iP L)],.blk 204 (yP ⟨(3:Int),index,day,bill,by_,to,⟨nq2,cq2,sq2,frm2,to2,bq2,pq2,iq2,lq2⟩⟩),.blk 104 (yD ⟨⟨nq1,cq1,sq1,frm1,to1,bq1,pq1,iq1,lq1⟩,st1,⟨sa1,ha1,ca1⟩,⟨sb1,hb1,cb1⟩,⟨sc1,hc1,cc1⟩⟩)]) (fun q=>eW 4 q.1) ⟨0,aI _,.zero⟩ ?_;rintro ⟨j3,hj3,hn3⟩;dsimp only at hj3 hn3⊢;cbv;repeat'((first|refine .y fun h=>?_|refine .mk (fun h=>?_) fun h=>?_|refine .k fun z hz=>?_|fail)<;>cbv)
      rotate_left
      ·have ej3:j3=ws.length:=bQ;rw[ej3]at hn3;have f3:=g3.trans (iR hn3);rw[f3]at hq0
       (refine .q9 ?_;cbv;exact .inl (.f9 (fO hK (by rw[hq0];rfl))))
      ·obtain⟨l,hl⟩:=cK (L:=ws) (i:=j3) bQ;obtain rfl:z=nI (j3+1):=bQ;exact bN ⟨j3+1,by exact bQ,hn3.succ hl (hp3 l)⟩ (bO bQ)
     ·refine cM bQ bQ fun i l hi hl=>?_
      obtain rfl:j2=i:=bQ;rcases hwo l (aC hl)with rfl|rfl|rfl
      ·cbv;repeat'((first|refine .mk (fun h=>?_) fun h=>?_|refine .k fun z hz=>?_|refine bW.i0 ?_|fail)<;>cbv)
       ·have e:P2 0=false:=by rw[b0,aH (by assumption:ha1=by_)];rfl
        obtain rfl:z=nI (j2+1):=bQ;exact bN ⟨j2+1,by exact bQ,hn2.succ hl e⟩ (bO bQ)
       ·have e:P2 0=true:=by rw[b0,aG (by assumption:¬ha1=by_)];rfl
        (refine .q9 ?_;cbv;exact .inl (.f9 (fO hK (by rw[hq0,g2.trans (gF hl e)];rfl))))
      ·cbv;repeat'((first|refine .mk (fun h=>?_) fun h=>?_|refine .k fun z hz=>?_|refine bW.i1 ?_|fail)<;>cbv)
       ·have e:P2 1=false:=by rw[b1,aH (by assumption:hb1=by_)];rfl
        obtain rfl:z=nI (j2+1):=bQ;exact bN ⟨j2+1,by exact bQ,hn2.succ hl e⟩ (bO bQ)
       ·have e:P2 1=true:=by rw[b1,aG (by assumption:¬hb1=by_)];rfl
        (refine .q9 ?_;cbv;exact .inl (.f9 (fO hK (by rw[hq0,g2.trans (gF hl e)];rfl))))
      ·cbv;repeat'((first|refine .mk (fun h=>?_) fun h=>?_|refine .k fun z hz=>?_|refine bW.i2 ?_|fail)<;>cbv)
       ·have e:P2 2=false:=by rw[b2,aH (by assumption:hc1=by_)];rfl
        obtain rfl:z=nI (j2+1):=bQ;exact bN ⟨j2+1,by exact bQ,hn2.succ hl e⟩ (bO bQ)
       ·have e:P2 2=true:=by rw[b2,aG (by assumption:¬hc1=by_)];rfl
        (refine .q9 ?_;cbv;exact .inl (.f9 (fO hK (by rw[hq0,g2.trans (gF hl e)];rfl)))))
theorem Si:bK Tryz.prog 50 Q0:=bL (by kernel_rfl) (MN _)
theorem Ov:bK Tryz.prog 51 Jm:=bL (by kernel_rfl) (Kk _)
theorem Fn:bK Tryz.prog 21 yZ:=bL (by kernel_rfl) (F3 _ Si Ov)
theorem LG:bK Tryz.prog 48 rD:=bL (by kernel_rfl) (Du _)
theorem Jz:bK Tryz.prog 49 qT:=bL (by kernel_rfl) (HF _)
theorem JM:bK Tryz.prog 52 (wQ 77 5 72):=bL (by kernel_rfl) (CS _)
theorem CB:bK Tryz.prog 68 A9:=bL (by kernel_rfl) (Hr _ Ov JM)
theorem QN:bK Tryz.prog 104 (iL (fun _=>True) bT):=bL (by kernel_rfl) (GA _)
theorem FK:bK Tryz.prog 74 zI:=bL (by kernel_rfl) (Fk _ QN)
theorem Pn:bK Tryz.prog 75 xK:=bL (by kernel_rfl) (LH _)
theorem PW:bK Tryz.prog 118 HA:=bL (by kernel_rfl) (HV _ FK Pn)
theorem HS:bK Tryz.prog 43 E1:=bL (by kernel_rfl) (KL _ FK Pn)
theorem QE:bK Tryz.prog 79 (uB (fun k=>k=4) aaK):=bL (by kernel_rfl) (GW _ CB PW HS)
theorem zQ:bK Tryz.prog 120 Cn:=bL (by kernel_rfl) (HL _)
theorem zX:bK Tryz.prog 184 (Fz lL):=bL (by kernel_rfl) (Bz _)
theorem Ck:bK Tryz.prog 185 (Fz iU):=bL (by kernel_rfl) (CN _)
theorem wR:bK Tryz.prog 144 (iL (fun _=>True) bT):=bL (by kernel_rfl) (Kc _ zX Ck)
theorem TW:bK Tryz.prog 106 (pU [.ptr 1 0] fun _ _=>false):=bL (by kernel_rfl) (Kh _)
theorem Sy:bK Tryz.prog 107 (B1 k1):=bL (by kernel_rfl) (KH _)
theorem JA:bK Tryz.prog 109 DZ:=bL (by kernel_rfl) (IE _)
theorem Tm:bK Tryz.prog 108 (B1 k2):=bL (by kernel_rfl) (Lh _ JA)
theorem WJ:bK Tryz.prog 112 (Pi pB):=bL (by kernel_rfl) (Pp _)
theorem La:bK Tryz.prog 111 (EH 112 pB):=bL (by kernel_rfl) (zY _ 112 pB ⟨by kernel_rfl⟩ WJ)
theorem UR:bK Tryz.prog 110 (pU [.ptr 1 0,.ptr 0 0] k3):=bL (by kernel_rfl) (KR _ La)
theorem WG:bK Tryz.prog 114 (Pi jG):=bL (by kernel_rfl) (Ny _)
theorem Lz:bK Tryz.prog 111 (EH 114 jG):=bL (by kernel_rfl) (zY _ 114 jG ⟨by kernel_rfl⟩ WG)
theorem S4:bK Tryz.prog 113 (pU [.ptr 1 0,.ptr 0 0] k4):=bL (by kernel_rfl) (Kv _ Lz)
theorem UW:bK Tryz.prog 117 O7:=bL (by kernel_rfl) (JW _)
theorem Wz:bK Tryz.prog 116 TF:=bL (by kernel_rfl) (M7 _ UW)
theorem Lf:bK Tryz.prog 111 (N0 116):=bL (by kernel_rfl) (Hw _ 116 ⟨by kernel_rfl⟩ Wz)
theorem Uq:bK Tryz.prog 115 (pU [.ptr 0 0,.ptr 1 0] k5):=bL (by kernel_rfl) (KV _ Lf)
theorem P7:bK Tryz.prog 105 SV:=bL (by kernel_rfl) (Iq _ ⟨⟨by kernel_rfl⟩,⟨by kernel_rfl⟩,⟨by kernel_rfl⟩,⟨by kernel_rfl⟩,⟨by kernel_rfl⟩,⟨by kernel_rfl⟩,TW,Sy,Tm,UR,S4,Uq⟩)
theorem Q2:bK Tryz.prog 106 (spec (fun _:Unit=>[.ptr 0 0]) (fun _=>[.blk 119 [.v (.pointer none)]]) (fun _=>True) (fun _=>.bl true) fun _=>[.blk 119 [.v (.pointer none)]]):=bL (by kernel_rfl) (H5 _)
theorem Nb:bK Tryz.prog 105 Ul:=bL (by kernel_rfl) (Es _ ⟨by kernel_rfl⟩ Q2)
theorem IL:bK Tryz.prog 78 Lc:=bL (by kernel_rfl) (NZ _ P7 Nb)
theorem Qf:bK Tryz.prog 212 H8:=bL (by kernel_rfl) (Hb _ wR)
theorem PM:bK Tryz.prog 214 (BT 1):=bL (by kernel_rfl) (GT _)
theorem O5:bK Tryz.prog 213 (BT 2):=bL (by kernel_rfl) (FR _)
theorem Qi:bK Tryz.prog 205 ID:=bL (by kernel_rfl) (Hf _ Qf PM O5)
theorem RZ:bK Tryz.prog 186 G5:=bL (by kernel_rfl) (HD _ wR Qi)
theorem Km:bK Tryz.prog 145 DU:=bL (by kernel_rfl) (DD _ RZ)
theorem Lr:bK Tryz.prog 119 Bb:=bL (by kernel_rfl) (CZ _ wR IL Km)
theorem RT:bK Tryz.prog 146 GC:=bL (by kernel_rfl) (Im _)
theorem uT:bK Tryz.prog 121 KB:=bL (by kernel_rfl) (Em _ RT)
theorem GZ:bK Tryz.prog 80 (gJ (fun k=>k=8) mT):=bL (by kernel_rfl) (BC _ zQ Lr uT)
theorem Vr:bK Tryz.prog 147 Ug:=bL (by kernel_rfl) (OC _)
theorem qS:bK Tryz.prog 87 (jR 1 16):=bL (by kernel_rfl) (FM _)
theorem En:bK Tryz.prog 122 sM:=bL (by kernel_rfl) (Az _ Vr qS IL)
theorem CJ:bK Tryz.prog 81 (AK (fun k=>k=20) pR):=bL (by kernel_rfl) (yG _ CB HS zQ En qS uT)
theorem Iv:bK Tryz.prog 82 (gJ (fun k=>k=19) BG):=bL (by kernel_rfl) (Bs _)
theorem Mu:bK Tryz.prog 46 IX:=bL (by kernel_rfl) (Lv _ IL)
theorem PY:bK Tryz.prog 83 (gJ (fun k=>k=23) qK):=bL (by kernel_rfl) (Ic _ zQ Mu uT)
theorem Lq:bK Tryz.prog 123 AR:=bL (by kernel_rfl) (DG _ IL)
theorem GD:bK Tryz.prog 84 (gJ (fun k=>k=24) qX):=bL (by kernel_rfl) (Bv _ zQ Lq uT)
theorem Jn:bK Tryz.prog 18 (sS fun _=>True):=bL (by kernel_rfl) (JU LG Jz ⟨⟨by kernel_rfl⟩,QE,⟨by kernel_rfl⟩,GZ,⟨by kernel_rfl⟩,CJ,⟨by kernel_rfl⟩,Iv,⟨by kernel_rfl⟩,PY,⟨by kernel_rfl⟩,GD⟩)
theorem S5:bK Tryz.prog 53 Cc:=bL (by kernel_rfl) (KA _)
theorem RX:bK Tryz.prog 120 GE:=bL (by kernel_rfl) (Ht _)
theorem WI:bK Tryz.prog 206 LS:=bL (by kernel_rfl) (M4 _ zX Ck)
theorem Ri:bK Tryz.prog 170 pE:=bL (by kernel_rfl) (HW _)
theorem Vp:bK Tryz.prog 131 TB:=bL (by kernel_rfl) (Mh _ Ri)
theorem PP:bK Tryz.prog 93 pE:=bL (by kernel_rfl) (IA _ Vp)
theorem Rv:bK Tryz.prog 60 pE:=bL (by kernel_rfl) (Kr _ PP)
theorem Nx:bK Tryz.prog 207 UF:=bL (by kernel_rfl) (Fo _ Rv)
theorem Q5:bK Tryz.prog 187 (iL (fun _=>True) lC):=bL (by kernel_rfl) (Ix _ WI Nx)
theorem SX:bK Tryz.prog 188 (SQ fun s=>!bT s):=bL (by kernel_rfl) (LP _ wR)
theorem Nu:bK Tryz.prog 189 (O9 188 fun s=>!bT s):=bL (by kernel_rfl) (KK _ 188 (fun s=>!bT s) ⟨by kernel_rfl⟩ SX)
theorem O6:bK Tryz.prog 152 (NK 188 fun s=>!bT s):=bL (by kernel_rfl) (LZ _ 188 (fun s=>!bT s) Nu)
theorem WB:bK Tryz.prog 149 Tr:=bL (by kernel_rfl) (Mp _ wR Q5 JA O6)
theorem TJ:bK Tryz.prog 148 (yH [.ptr 2 0,.ptr 3 0,.ptr 4 0] i1):=bL (by kernel_rfl) (LF _ WB wR)
theorem Ui:bK Tryz.prog 150 (yH [.ptr 2 0,.ptr 3 0] i2):=bL (by kernel_rfl) (Li _)
theorem Rq:bK Tryz.prog 208 HP:=bL (by kernel_rfl) (It _)
theorem Ip:bK Tryz.prog 191 xD:=bL (by kernel_rfl) (Bo _ Rq)
theorem Tz:bK Tryz.prog 190 (ND lG):=bL (by kernel_rfl) (Ly _ Ip)
theorem DI:bK Tryz.prog 69 (UJ 190 lG):=bL (by kernel_rfl) (Bm _ 190 lG ⟨by kernel_rfl⟩ Tz JC)
theorem Wd:bK Tryz.prog 154 UX:=bL (by kernel_rfl) (OA _ DI)
theorem P4:bK Tryz.prog 153 (spec (fun i:oR×bH=>[.str i.2,.ptr 2 0]) (fun i=>uI i.1) (fun i=>C8 i.1) (fun i=>.bl (Dz i.1 i.2)) fun i=>uI i.1):=bL (by kernel_rfl) (HY _ Wd)
theorem Tv:bK Tryz.prog 189 Px:=bL (by kernel_rfl) (Lm _ ⟨by kernel_rfl⟩ P4)
theorem T0:bK Tryz.prog 152 OM:=bL (by kernel_rfl) (JN _ Tv)
theorem UH:bK Tryz.prog 151 (yH [.ptr 3 0,.ptr 2 0] i3):=bL (by kernel_rfl) (LM _ T0)
theorem UE:bK Tryz.prog 155 (yH [.ptr 2 0] i4):=bL (by kernel_rfl) (Lj _)
theorem N4:bK Tryz.prog 105 PE:=bL (by kernel_rfl) (FD _ ⟨⟨by kernel_rfl⟩,⟨by kernel_rfl⟩,⟨by kernel_rfl⟩,⟨by kernel_rfl⟩,TJ,Ui,UH,UE⟩)
theorem sO:bK Tryz.prog 54 CV:=bL (by kernel_rfl) (Bt _ qS)
theorem Rz:bK Tryz.prog 124 Hy:=bL (by kernel_rfl) (Iz _ N4 sO)
theorem RY:bK Tryz.prog 157 (D5 eQ):=bL (by kernel_rfl) (HG _ MD)
theorem Kb:bK Tryz.prog 156 AZ:=bL (by kernel_rfl) (Dq _)
theorem N8:bK Tryz.prog 125 Gu:=bL (by kernel_rfl) (Ga _ RY Ml Kb)
theorem Ro:bK Tryz.prog 85 (qL sC):=bL (by kernel_rfl) (G4 _ RX qS Rz N8)
theorem QF:bK Tryz.prog 86 (qL F4):=bL (by kernel_rfl) (GJ _ qS)
theorem MC:bK Tryz.prog 23 (xO fun _=>True):=bL (by kernel_rfl) (Ni S5 ⟨by kernel_rfl⟩ Ro ⟨by kernel_rfl⟩ QF Jz)
theorem Cv:bK Tryz.prog 52 (jR 5 72):=bL (by kernel_rfl) (D4 _)
theorem UC:bK Tryz.prog 22 Nz:=bL (by kernel_rfl) (LD _ Cv)
theorem QW:bK Tryz.prog 30 HZ:=bL (by kernel_rfl) (HN _)
theorem KO:bK Tryz.prog 11 A7:=bL (by kernel_rfl) (DN _ Fn Jn MC UC QW)
theorem QL:bK Tryz.prog 31 Gw:=bL (by kernel_rfl) (Ie _)
theorem GQ:bK Tryz.prog 13 nV:=bL (by kernel_rfl) (Lx _)
theorem Dx:bK Tryz.prog 94 qP:=bL (by kernel_rfl) (Gx _)
theorem uJ:bK Tryz.prog 20 pP:=bL (by kernel_rfl) (G1 _)
theorem Me:bK Tryz.prog 95 zO:=bL (by kernel_rfl) (Gj _ uJ)
theorem BN:bK Tryz.prog 178 (Fz lL):=bL (by kernel_rfl) (Dg _)
theorem AU:bK Tryz.prog 179 (Fz iU):=bL (by kernel_rfl) (EV _)
theorem yY:bK Tryz.prog 133 (iL (fun s=>s.size≤maxLen) bT):=bL (by kernel_rfl) (Iy _ BN AU)
theorem PQ:bK Tryz.prog 174 Hi:=bL (by kernel_rfl) (Ih _ yY)
theorem GL:bK Tryz.prog 175 DZ:=bL (by kernel_rfl) (Ke _)
theorem IK:bK Tryz.prog 202 (iL (fun _=>True) mO):=bL (by kernel_rfl) (HU _ BN AU)
theorem Uz:bK Tryz.prog 203 LS:=bL (by kernel_rfl) (Ln _ IK)
theorem Mm:bK Tryz.prog 176 (iL (fun _=>True) lC):=bL (by kernel_rfl) (ET _ IK AU Uz)
theorem Vc:bK Tryz.prog 177 W7:=bL (by kernel_rfl) (P6 _)
theorem TX:bK Tryz.prog 132 Mx:=bL (by kernel_rfl) (J0 _ PQ GL Mm Vc)
theorem pI:bK Tryz.prog 63 sJ:=bL (by kernel_rfl) (KF _)
theorem Up:bK Tryz.prog 134 Nl:=bL (by kernel_rfl) (LJ _ Vc)
theorem PU:bK Tryz.prog 135 Ia:=bL (by kernel_rfl) (Ir _)
theorem Fe:bK Tryz.prog 96 tU:=bL (by kernel_rfl) (EO _ TX yY pI Up PU)
theorem BJ:bK Tryz.prog 136 DP:=bL (by kernel_rfl) (C0 _)
theorem H4:bK Tryz.prog 137 Ou:=bL (by kernel_rfl) (BB _ I8 BJ)
theorem QY:bK Tryz.prog 138 Ik:=bL (by kernel_rfl) (HJ _)
theorem LX:bK Tryz.prog 97 Gu:=bL (by kernel_rfl) (CE _ H4 QY BJ)
theorem Qp:bK Tryz.prog 65 (Uj fun _=>True):=bL (by kernel_rfl) (JJ GQ Dx uJ Me Fe LX)
theorem QO:bK Tryz.prog 17 nD:=bL (by kernel_rfl) (Hx _)
theorem MF:bK Tryz.prog 204 (iL (fun s=>s.size≤maxLen) bT):=bL (by kernel_rfl) (Fq _)
theorem BW:bK Tryz.prog 181 (iL (fun s=>s.size≤maxLen) bT):=bL (by kernel_rfl) (D0 _ MF)
theorem Eu:bK Tryz.prog 182 xK:=bL (by kernel_rfl) (Fm _)
theorem zP:bK Tryz.prog 41 EX:=bL (by kernel_rfl) (Hg _)
theorem IV:bK Tryz.prog 62 Ob:=bL (by kernel_rfl) (G7 _)
theorem vS:bK Tryz.prog 39 zD:=bL (by kernel_rfl) (Dv _ IV)
theorem Po:bK Tryz.prog 140 CG:=bL (by kernel_rfl) (FH _ BW Eu zP vS)
theorem B8:bK Tryz.prog 141 CY:=bL (by kernel_rfl) (Cz _ BW Eu zP)
theorem Oy:bK Tryz.prog 99 zL:=bL (by kernel_rfl) (EA _ uJ Po B8 Dx)
theorem UP:bK Tryz.prog 100 (qA 0):=bL (by kernel_rfl) (Kj _ Fe)
theorem pL:bK Tryz.prog 143 oP:=bL (by kernel_rfl) (HM _)
theorem I1:bK Tryz.prog 183 CX:=bL (by kernel_rfl) (IF _)
theorem LI:bK Tryz.prog 142 CD:=bL (by kernel_rfl) (CM _ pI GL yY pL I1)
theorem Kg:bK Tryz.prog 142 (mQ 3):=bL (by kernel_rfl) (Dl _ pI GL yY pL I1)
theorem jJ:bK Tryz.prog 142 mU:=Hq LI Kg
theorem Tp:bK Tryz.prog 100 (qA 1):=bL (by kernel_rfl) (JT _ jJ pI pL)
theorem TD:bK Tryz.prog 100 (qA 2):=Pz (by kernel_rfl) (Kw _ jJ pI pL)
theorem TN:bK Tryz.prog 100 (qA 3):=bL (by kernel_rfl) (Ll _ jJ pI pL)
theorem SN:bK Tryz.prog 100 (qA 4):=bL (by kernel_rfl) (LU _ jJ pI pL)
theorem Sz:bK Tryz.prog 100 (qA 5):=bL (by kernel_rfl) (J6 _ jJ pI pL)
theorem ME:bK Tryz.prog 100 Hc:=Um UP Tp TD TN SN Sz
theorem PH:bK Tryz.prog 33 DY:=bL (by kernel_rfl) (E7 _)
theorem Qj:bK Tryz.prog 101 sZ:=bL (by kernel_rfl) (H6 _ PH)
theorem JV:bK Tryz.prog 102 tY:=bL (by kernel_rfl) (DO _ uJ B8)
theorem NI:bK Tryz.prog 67 (Om fun _=>True):=bL (by kernel_rfl) (HK GQ QO Oy ME Qj JV Dx uJ)
theorem Qo:bK Tryz.prog 24 CI:=bL (by kernel_rfl) (GK _)
theorem P5:bK Tryz.prog 180 G0:=bL (by kernel_rfl) (Id _)
theorem Pu:bK Tryz.prog 139 Ii:=bL (by kernel_rfl) (EU _ P5)
theorem QK:bK Tryz.prog 98 HX:=bL (by kernel_rfl) (G9 _ Pu)
theorem Tc:bK Tryz.prog 66 MS:=bL (by kernel_rfl) (KJ _ QK)
theorem Y4:bK Tryz.prog 32 TZ:=bL (by kernel_rfl) (Ux MC Qp Jn NI Qo Tc)
theorem N9:bK Tryz.prog 14 C2:=bL (by kernel_rfl) (E4 _ Fn QL Y4)
theorem WV:bK Tryz.prog 12 HO:=bL (by kernel_rfl) (MW _)
theorem UU:bK Tryz.prog 55 NY:=bL (by kernel_rfl) (K5 _ Ml Qk)
theorem O1:bK Tryz.prog 70 (SZ fun _=>true):=bL (by kernel_rfl) (EG _)
theorem EW:bK Tryz.prog 69 (SU 70 fun _=>true):=bL (by kernel_rfl) (C9 _ 70 (fun _=>true) ⟨by kernel_rfl⟩ O1 JC)
theorem Jw:bK Tryz.prog 35 DB:=bL (by kernel_rfl) (Il _ EW)
theorem xM:bK Tryz.prog 16 oV:=bL (by kernel_rfl) (Ag _)
theorem I6:bK Tryz.prog 38 CH:=bL (by kernel_rfl) (GU _ BO UT)
theorem Y3:bK Tryz.prog 73 YF:=bL (by kernel_rfl) (Q1 _)
theorem Sg:bK Tryz.prog 42 Re:=bL (by kernel_rfl) (MY _ Y3)
theorem QV:bK Tryz.prog 27 GV:=bL (by kernel_rfl) (Hz _ ⟨BO,Th,⟨by kernel_rfl⟩,UU,OB,Jw,xM,MD,I6,Sg⟩)
theorem Vo:bK Tryz.prog 71 Uh:=bL (by kernel_rfl) (Py _)
theorem FI:bK Tryz.prog 36 DX:=bL (by kernel_rfl) (EZ _ Vo)
theorem MH:bK Tryz.prog 29 G2:=bL (by kernel_rfl) (EF _)
theorem Kl:bK Tryz.prog 77 (wQ 180 4 48):=bL (by kernel_rfl) (DK _)
theorem UY:bK Tryz.prog 47 MP:=bL (by kernel_rfl) (J7 _ Si sO Kl)
theorem Ud:bK Tryz.prog 15 OL:=bL (by kernel_rfl) (KC _ UY)
theorem Ti:bK Tryz.prog 19 Mz:=bL (by kernel_rfl) (Lg _)
theorem Rk:bK Tryz.prog 26 Ij:=bL (by kernel_rfl) (GG _)
theorem Ta:bK Tryz.prog 34 Pk:=bL (by kernel_rfl) (K6 _ CB)
theorem KD:bK Tryz.prog 37 HE:=bL (by kernel_rfl) (DL _)
theorem J4:bK Tryz.prog 52 IC:=bL (by kernel_rfl) (Ec _)
theorem Ua:bK Tryz.prog 40 Mn:=bL (by kernel_rfl) (LT _ Cv J4)
theorem Is:bK Tryz.prog 76 Pf:=bL (by kernel_rfl) (Bk _)
theorem Oa:bK Tryz.prog 77 (jR 4 48):=bL (by kernel_rfl) (ED _)
theorem PN:bK Tryz.prog 45 HH:=bL (by kernel_rfl) (Hj _ Is Oa)
theorem OW:bK Tryz.prog 44 CA:=bL (by kernel_rfl) (Ek _)
set_option maxHeartbeats 8000000
end Go.Proofs.YtigdiekbiphhmaaGreatDoor
namespace Go.Proofs.YtigdiekbiphhmaaGreatDoor
open Go.ChangeShapes Go.WideShapes Go.Deep Go.RowKit
inductive Sh where
 |int (k:IntKind)
 |str
 |bl
 |sl (sz:Nat) (e:Sh)
 |st (l:List Sh)
mutual
def Sh.width:Sh→Nat
 |.int _=>1
 |.str=>1
 |.bl=>1
 |.sl _ _=>1
 |.st l=>Sh.widthL l
def Sh.widthL:List Sh→Nat
 |[]=>0
 |s :: l=>s.width+Sh.widthL l
end
mutual
def Op (B:Nat):Sh→List AV→Prop
 |.int k,cs=>∃n,cs=[.int k n]∧(Lit.int k n).wf=true
 |.str,cs=>∃s,cs=[.str s]∧s.size≤maxLen∧s.size≤B
 |.bl,cs=>∃b,cs=[.bl b]
 |.sl sz e,cs=>∃xs,cs=[.sl sz xs]∧xs.length≤maxLen∧∀x∈xs,x=dH sz x.cells∧Op B e x.cells
 |.st l,cs=>fK B l cs
def fK (B:Nat):List Sh→List AV→Prop
 |[],cs=>cs=[]
 |s :: l,cs=>∃a b,cs=a++b∧Op B s a∧fK B l b
end
mutual
theorem Op.one {B:Nat}:∀(s:Sh) (cs:List AV),Op B s cs→cs.all AV.one=true
 |.int k,cs,h=>by unfold Op at h;obtain⟨n,rfl,_⟩:=h;rfl
 |.str,cs,h=>by unfold Op at h;obtain⟨n,rfl,_⟩:=h;rfl
 |.bl,cs,h=>by unfold Op at h;obtain⟨n,rfl⟩:=h;rfl
 |.sl sz e,cs,h=>by unfold Op at h;obtain⟨xs,rfl,_⟩:=h;rfl
 |.st l,cs,h=>by unfold Op at h;exact fK.one l cs h
theorem fK.one {B:Nat}:∀(l:List Sh) (cs:List AV),fK B l cs→cs.all AV.one=true
 |[],cs,h=>by unfold fK at h;subst h;rfl
 |s :: l,cs,h=>by
  unfold fK at h;obtain⟨a,b,rfl,h1,h2⟩:=h;rw[List.all_append,Op.one s a h1,fK.one l b h2];rfl
end
def PA (P:bI) (g:TypeId→Option Sh):List Field→Nat→Nat→Option (List Sh)
 |[],off,tot=>if off=tot then some [] else none
 |f :: l,off,tot=>if f.offset=off then match g f.type,PA P g l (off+P.cellsOf f.type) tot with
  |some s,some r=>some (s :: r)
  |_,_=>none
  else none
mutual
theorem Op.len {B:Nat}:∀(s:Sh) (cs:List AV),Op B s cs→cs.length=s.width
 |.int k,cs,h=>by unfold Op at h;obtain⟨n,rfl,_⟩:=h;rfl
 |.str,cs,h=>by unfold Op at h;obtain⟨n,rfl,_⟩:=h;rfl
 |.bl,cs,h=>by unfold Op at h;obtain⟨n,rfl⟩:=h;rfl
 |.sl sz e,cs,h=>by unfold Op at h;obtain⟨xs,rfl,_⟩:=h;rfl
 |.st l,cs,h=>by unfold Op at h;exact fK.len l cs h
theorem fK.len {B:Nat}:∀(l:List Sh) (cs:List AV),fK B l cs→cs.length=Sh.widthL l
 |[],cs,h=>by unfold fK at h;subst h;rfl
 |s :: l,cs,h=>by
  unfold fK at h;obtain⟨a,b,rfl,h1,h2⟩:=h;rw[aM,Op.len s a h1,fK.len l b h2];rfl
end
def E8 (P:bI):Nat→TypeId→Option Sh
 |0,_=>none
 |n+1,t=>match P.underlying t with
  |some .bool=>some .bl
  |some (.int k)=>some (.int k)
  |some .string=>some .str
  |some (.slice e)=>match E8 P n e with
   |some s=>if s.width=P.cellsOf e then some (.sl (P.cellsOf e) s) else none
   |none=>none
  |some (.struct fs)=>(PA P (E8 P n) fs.toList 0 (P.cellsOf t)).map .st
  |_=>none
def nM (w:World):cY:=fun b=>match w.heap[b]? with
 |some (.cells arr _ _)=>arr.size
 |_=>0
theorem Kf {w:World}{b i:Nat}{u:Value}(h:w.cell? ⟨b,i,none⟩=some u):i < nM w b:=by
 unfold World.cell? at h;unfold nM;cases hb:w.heap[b]? with
 |none=>simp[hb]at h
 |some o=>
  cases o<;>simp[hb]at h⊢;rename_i arr _ _;rcases aL i arr.size with h1|h1
  ·exact h1
  ·rw[Array.getElem?_eq_none h1]at h;simp at h
theorem HB {w:World}{b i:Nat}(h:i < nM w b):∃u,w.cell? ⟨b,i,none⟩=some u:=by
 unfold nM at h;cases hb:w.heap[b]? with
 |none=>simp[hb]at h
 |some o=>
  cases o<;>simp[hb]at h;rename_i arr _ _;exact⟨arr[i],by unfold World.cell?;simp[hb,aK h]⟩
theorem nU.door (w:World) (hg:lF (nM w) w):nU (nM w) w dD []:=
 ⟨fun k e he=>(by simp at he),fun _ _=>rfl,(fun _ _ _ _ _ h=>by cases h),(fun b hb=>by unfold nM;rw[Array.getElem?_eq_none hb]),fun b i hi=>HB hi,hg⟩
theorem BE {sz:Nat}{l:List AV}(hl:l.length=sz) (h1:l.all AV.one=true):(dH sz l).cells=l:=fP hl h1
theorem Fd {α:Type}{p:Nat→α→Prop}:∀(n:Nat),(∀i,i < n→∃a,p i a)→∃l:List α,l.length=n∧∀i (h:i < l.length),p i l[i]
 |0,_=>⟨[],rfl,fun i h=>by simp at h⟩
 |n+1,h=>by
  obtain⟨l,hl,hp⟩:=Fd n (fun i hi=>h i (by omega));obtain⟨a,ha⟩:=h n (by omega);refine⟨l++[a],by simp[hl],fun i hi=>?_⟩;by_cases h1:i < l.length
  ·rw[List.getElem_append_left h1];exact hp i h1
  ·simp at hi;obtain rfl:i=n:=by omega
   subst hl;simpa using ha
theorem sD (b o n:Nat):(⟨b,o,none⟩:Addr).add n=⟨b,o+n,none⟩:=by unfold Addr.add;split<;>simp_all
def Sa (B:Nat) (P:bI) {H:Type}(t:TypeId) (d:DataW H):Prop:=maxLen≤B∨(reachBytes≤B∧∀n∈d.weights P t,n≤reachBytes)
theorem rG {P:bI}{H:Type}:∀{ts:List TypeId}{ds:List (DataW H)}{i:Nat}{t:TypeId}{d:DataW H},ts[i]?=some t→ds[i]?=some d→∀n∈d.weights P t,n∈DataW.weightsEach P ts ds
 |[],_,i,t,d,h,_=>by simp at h
 |_ :: _,[],i,t,d,_,h=>by simp at h
 |u :: ts,e :: ds,0,t,d,h,k=>by
  intro n hn;simp at h k;subst h k;unfold DataW.weightsEach;exact List.mem_append_left _ hn
 |u :: ts,e :: ds,i+1,t,d,h,k=>by
  intro n hn;unfold DataW.weightsEach;exact List.mem_append_right _ (rG (by simpa using h) (by simpa using k) n hn)
theorem Jy {P:bI}{H:Type}{e:TypeId}:∀{ds:List (DataW H)}{i:Nat}{d:DataW H},ds[i]?=some d→∀n∈d.weights P e,n∈DataW.weightsAll P e ds
 |[],i,d,h=>by simp at h
 |x :: ds,0,d,h=>by
  intro n hn;simp at h;subst h;unfold DataW.weightsAll;exact List.mem_append_left _ hn
 |x :: ds,i+1,d,h=>by
  intro n hn;unfold DataW.weightsAll;exact List.mem_append_right _ (Jy (by simpa using h) n hn)
section
variable {B:Nat}
variable {H:Type}{enc:TypeId×Value→H}{P:bI}{w:World}{base:Nat}{spare:Nat→Bool}{held:Bool}
theorem Ju {g:TypeId→Option Sh}{cs:List Value}(hg:∀t s,g t=some s→∀fuel cs x,DataW.trod enc P w base spare held fuel t cs=some x→Sa B P t x.1→∃cz,Op B s cz∧bR (nM w) w dD cz cs) :
  ∀(l:List Field) (off tot:Nat) (ss:List Sh),PA P g l off tot=some ss→cs.length=tot→(∀f∈l,∃fuel y,DataW.trod enc P w base spare held fuel f.type ((cs.drop f.offset).take (P.cellsOf f.type))=some y∧Sa B P f.type y.1) →
   ∃cz,fK B ss cz∧bR (nM w) w dD cz (cs.drop off)
 |[],off,tot,ss,h,hl,_=>by
  unfold PA at h
  split at h
  ·cases h;rename_i e;refine⟨[],by unfold fK;rfl,?_⟩;rw[List.drop_eq_nil_of_le (by omega)];exact .nil
  ·cases h
 |f :: l,off,tot,ss,h,hl,hf=>by
  unfold PA at h
  split at h
  ·rename_i e
   split at h
   ·rename_i s r hs hr;cases h;obtain⟨fuel,y,hy,hly⟩:=hf f (bD ..);obtain⟨cz1,h1,h2⟩:=hg _ _ hs _ _ _ hy hly;obtain⟨cz2,h3,h4⟩:=Ju hg l _ tot r hr hl (fun f hm=>hf f (aW _ hm));refine⟨cz1++cz2,by unfold fK;exact⟨cz1,cz2,rfl,h1,h3⟩,?_⟩;rw[e]at h2;have:=h2.app h4;rw[←List.drop_drop,List.take_append_drop]at this;exact this
   ·cases h
  ·cases h
theorem bR.single {x:AV}{u:Value}{pub:cY}{r:cT}(h:bU pub w r x u):bR pub w r [x] [u]:=.cons h .nil
theorem AH:∀(n:Nat) (t:TypeId) (s:Sh),E8 P n t=some s→∀(fuel:Nat) (cs:List Value) (x:DataW H×List MemPlace),DataW.trod enc P w base spare held fuel t cs=some x→Sa B P t x.1→∃cz,Op B s cz∧bR (nM w) w dD cz cs
 |0,t,s,h=>by cases h
 |n+1,t,s,h=>by
  intro fuel cs x hx hlt;have ih:=AH n;unfold E8 at h
  split at h
  ·rename_i ht;cases h;obtain⟨b,rfl,_⟩:=DataW.trod_bool ht hx;exact⟨[.bl b],by unfold Op;exact⟨b,rfl⟩,.single (.bl b)⟩
  ·rename_i k ht;cases h;obtain⟨b,rfl,_,hw⟩:=DataW.trod_int ht hx;exact⟨[.int k b],by unfold Op;exact⟨b,rfl,hw⟩,.single (.int k b)⟩
  ·rename_i ht;cases h;obtain⟨b,rfl,rfl,hw⟩:=DataW.trod_string ht hx;have hb:b.size≤B:=by
    rcases hlt with h1|⟨h1,h2⟩
    ·omega
    ·have h3:=h2 b.data.toList.length (by dsimp only;unfold DataW.weights;exact bD ..);have h4:b.data.toList.length=b.size:=by rw[bB];rfl
     omega
   exact⟨[.str b],by unfold Op;exact⟨b,rfl,hw,hb⟩,.single (.str b)⟩
  ·rename_i e ht
   split at h
   ·rename_i se hse
    split at h
    ·rename_i hwd;cases h;rcases open_slice ht hx with ⟨rfl,_⟩|⟨a,len,cap,m,n',D,Pl,rfl,_,hl,hm,hmm,rfl,hi⟩
     ·refine⟨[.sl (P.cellsOf e) []],by unfold Op;exact⟨[],rfl,aI _,fun x hx=>by cases hx⟩,.single (.sl (A:=none) (c:=0) (xs:=[]) (aN _) (by unfold maxLen;omega) (fun _=>⟨rfl,rfl⟩) (fun x hx=>by cases hx) (fun _ _=>undef) (fun i x j u hx=>by simp at hx) (fun i x j u hx=>by simp at hx))⟩
     ·have hle:len≤m:=by rw[hmm];split<;>omega
      have each:∀i,i < len→∃cz,Op B se cz∧∃vs:List Value,bR (nM w) w dD cz vs∧∀j v,vs[j]?=some v→w.cell? ((a.add (i * P.cellsOf e)).add j)=some v:=fun i hil=>by
       obtain⟨cs',hc,ht'⟩:=hi i (by omega);have hli:Sa B P e (D i):=by
        rcases hlt with h1|⟨h1,h2⟩
        ·exact .inl h1
        ·refine .inr ⟨h1,fun n hn=>h2 n ?_⟩;unfold DataW.weights;rw[ht];refine aW _ (List.mem_append_left _ (Jy (i:=i) (d:=D i) ?_ n hn));rw[aD,List.getElem?_range hil];rfl
       obtain⟨cz,h1,h2⟩:=ih e se hse _ _ _ ht' hli;obtain⟨_,hcl,hat⟩:=World.cells?_some hc;exact⟨cz,h1,cs',h2,fun j v hv=>by rw[hat j (by rw[←hcl];exact(aA.1 hv).1),hv]⟩
      obtain⟨A,hAl,hA⟩:∃A:List (List AV),A.length=len∧∀i (h:i < A.length),Op B se A[i]∧∃vs:List Value,bR (nM w) w dD A[i] vs∧∀j v,vs[j]?=some v→w.cell? ((a.add (i * P.cellsOf e)).add j)=some v:=Fd len (p:=fun i cz=>Op B se cz∧∃vs:List Value,bR (nM w) w dD cz vs∧∀j v,vs[j]?=some v→w.cell? ((a.add (i * P.cellsOf e)).add j)=some v) each;have hcells:∀(cz:List AV),Op B se cz→(dH (P.cellsOf e) cz).cells=cz:=fun cz ho=>BE ((Op.len _ _ ho).trans hwd) (Op.one _ _ ho)
      refine⟨[.sl (P.cellsOf e) (A.map (dH (P.cellsOf e)))],?_,?_⟩
      ·unfold Op;refine⟨_,rfl,by rw[aJ,hAl];omega,fun x hx=>?_⟩;obtain⟨cz,has,rfl⟩:=aX.1 hx;obtain⟨i,hil,rfl⟩:=List.getElem_of_mem has;rw[hcells _ (hA i hil).1];exact⟨rfl,(hA i hil).1⟩
      ·refine .single ?_;rw[←hAl,←aJ (f:=dH (P.cellsOf e))];have get:∀(i:Nat) (x:AV) (j:Nat) (u:AV),(A.map (dH (P.cellsOf e)))[i]?=some x→x.cells[j]?=some u→∃v,w.cell? ((a.add (i * P.cellsOf e)).add j)=some v∧bU (nM w) w dD u v:=fun i x j u hx hu=>by
        rw[aD]at hx;rcases aL i A.length with hil|hil
        ·rw[aB hil]at hx;cases hx;obtain⟨ho,vs,hvs,hc⟩:=hA i hil;rw[hcells _ ho]at hu;obtain⟨v,hv,hr⟩:=hvs.get hu;exact⟨v,hc j v hv,hr⟩
        ·rw[List.getElem?_eq_none hil]at hx;cases hx
       refine .sl (by rw[aJ];omega) (by omega) (fun h=>by cases h) (fun x hx=>?_) (fun i j=>(w.cell? ((a.add (i * P.cellsOf e)).add j)).getD undef) (fun i x j u hx hu=>?_) (fun i x j u hx hu=>?_)
       ·obtain⟨cz,has,rfl⟩:=aX.1 hx;obtain⟨i,hil,rfl⟩:=List.getElem_of_mem has;rw[hcells _ (hA i hil).1];exact⟨(Op.len _ _ (hA i hil).1).trans hwd,Op.one _ _ (hA i hil).1⟩
       ·obtain⟨v,hv,hr⟩:=get i x j u hx hu;rw[hv];exact hr
       ·obtain⟨v,hv,hr⟩:=get i x j u hx hu;have hsp:a.spot=none:=by
         rw[aD]at hx;cases hAi:A[i]? with
         |none=>rw[hAi]at hx;cases hx
         |some cz=>
          rw[hAi]at hx;cases hx;obtain⟨hil,rfl⟩:=aA.1 hAi;have hju:j < A[i].length:=by rw[hcells _ (hA i hil).1]at hu;exact(aA.1 hu).1
          have hli:=Op.len _ _ (hA i hil).1;obtain⟨ho,vs,hvs,hc⟩:=hA 0 (by omega);have hl0:=Op.len _ _ ho;have hv0:0 < vs.length:=by rw[hvs.len];omega
          have:=World.cell?_spot (hc 0 vs[0] (aB hv0));simpa [Addr.add]using this
        obtain⟨b,o,spot⟩:=a;dsimp only at hsp;subst hsp;rw[hv];have e1:((⟨b,o,none⟩:Addr).add (i * P.cellsOf e)).add j=⟨b,o+i * P.cellsOf e+j,none⟩:=by
         rw[sD,sD]
        rw[e1]at hv;exact⟨b,o,rfl,Kf hv,hv⟩
    ·cases h
   ·cases h
  ·rename_i fs ht;obtain⟨ss,hss,rfl⟩:=map_some h;obtain⟨xs,n',_,hxa,hl,hlen,hf⟩:=DataW.trod_struct ht hx;obtain⟨cz,h1,h2⟩:=Ju (cs:=cs) ih fs.toList 0 _ ss hss hl (fun f hm=>by
    obtain⟨j,hj⟩:=aV hm;have hjl:j < xs.length:=by rw[hlen];simpa using(aA.1 hj).1
    refine⟨n',xs[j],by rw[hf j f (by simpa using hj),aB hjl],?_⟩;rcases hlt with h1|⟨h1,h2⟩
    ·exact .inl h1
    ·refine .inr ⟨h1,fun n hn=>h2 n ?_⟩;rw[hxa];unfold DataW.weights;rw[ht];exact rG (i:=j) (t:=f.type) (d:=xs[j].1) (by rw[aD,hj];rfl) (by rw[aD,aB hjl];rfl) n hn)
   exact⟨cz,by unfold Op;exact h1,by simpa using h2⟩
  ·cases h
def Sb:Sh→List AV→AV
 |.st _,cz=>.agg cz
 |_,cz=>cz.headD .any
theorem GO {v:Value}(h:∀cs,v≠.agg cs):v.cells.toList=[v]:=by
 cases v with
 |agg cs=>exact absurd rfl (h cs)
 |_=>rfl
theorem Ax {n:Nat}{t:TypeId}{s:Sh}{r:Reach}{b0:Nat}{v:Value}{d:DataW H}{p:List MemPlace}(hs:E8 P n t=some s) (hv:Value.okWide P w r b0 t v) (hd:DataW.Trod enc P w base spare held t v d p) (hlt:Sa B P t d) :
  ∃cz,Op B s cz∧bU (nM w) w dD (Sb s cz) v:=by
 obtain⟨fuel,hf⟩:=hd;obtain⟨cz,h1,h2⟩:=AH (B:=B) n t s hs _ _ _ hf hlt;refine⟨cz,h1,?_⟩;have scal:(∀cs,v≠.agg cs)→∀a,cz=[a]→bU (nM w) w dD a v:=fun hne a ha=>by
  rw[GO hne,ha]at h2;exact h2.at_ 0 a v rfl rfl
 cases n with
 |zero=>cases hs
 |succ n=>
  unfold E8 at hs
  split at hs
  ·rename_i ht;cases hs;unfold Op at h1;obtain⟨b,rfl⟩:=h1;exact scal (fun cs hc=>by subst hc;simp[Value.okWide,ht,Cell.okWide,Cell.ok]at hv) _ rfl
  ·rename_i k ht;cases hs;unfold Op at h1;obtain⟨b,rfl,_⟩:=h1;exact scal (fun cs hc=>by subst hc;simp[Value.okWide,ht,Cell.okWide,Cell.ok]at hv) _ rfl
  ·rename_i ht;cases hs;unfold Op at h1;obtain⟨b,rfl,_⟩:=h1;exact scal (fun cs hc=>by subst hc;simp[Value.okWide,ht,Cell.okWide,Cell.ok]at hv) _ rfl
  ·rename_i e ht
   split at hs
   ·split at hs
    ·cases hs;unfold Op at h1;obtain⟨b,rfl,_⟩:=h1;exact scal (fun cs hc=>by subst hc;simp[Value.okWide,ht,Cell.okWide,Cell.ok]at hv) _ rfl
    ·cases hs
   ·cases hs
  ·rename_i fs ht;obtain⟨ss,hss,rfl⟩:=map_some hs;simp only[Value.okWide,ht]at hv;obtain⟨cs,rfl,_⟩:=hv;exact .agg (by simpa [Value.cells]using h2.len) fun i x u hx hu=>h2.at_ i x u hx (by simpa [Value.cells]using hu)
  ·cases hs
theorem kU {α:Type}{sz:Nat}{e:Sh}{f:α→AV}{q:α→Prop}(h:∀cz,Op B e cz→∃x:α,dH sz cz=f x∧q x) {cs:List AV}(ho:Op B (.sl sz e) cs):∃L:List α,cs=[.sl sz (bJ f L)]∧L.length≤maxLen∧∀x∈L,q x:=by
 unfold Op at ho;obtain⟨xs,rfl,hl,hx⟩:=ho;have key:∀xs:List AV,(∀x∈xs,x=dH sz x.cells∧Op B e x.cells)→∃L:List α,xs=bJ f L∧∀x∈L,q x:=fun xs=>by
  induction xs with
  |nil=>exact fun _=>⟨[],rfl,fun x hx=>by cases hx⟩
  |cons y ys ih=>
   intro hx;obtain⟨L,rfl,hL⟩:=ih fun x hm=>hx x (aW _ hm)
   obtain⟨e1,e2⟩:=hx y (bD ..);obtain⟨x,hf,hq⟩:=h _ e2;refine⟨x :: L,?_,fun z hz=>?_⟩
   ·show y :: bJ f L=f x :: bJ f L;rw[e1,hf]
   ·rcases List.mem_cons.1 hz with rfl|hz
    ·exact hq
    ·exact hL z hz
 obtain⟨L,rfl,hL⟩:=key xs hx;exact⟨L,rfl,by rwa [bY]at hl,hL⟩
theorem Na {n:Int}(h:(Lit.int .i64 n).wf=true):-9223372036854775808≤n∧n≤9223372036854775807:=by
 simp only[Lit.wf,aO,decide_eq_true_eq]at h;have h1:IntKind.i64.min=-9223372036854775808:=rfl;have h2:IntKind.i64.max=9223372036854775807:=rfl;omega
theorem Rc {f:Nat}{c:dA}(hf:bK P f c) {args:List AV}{vals:Array Value}(hv:bR (nM w) w dD args vals.toList) (hc:c args [] fun x _=>x=.bl true) (hg:lF (nM w) w) :
  Calls P f vals w fun e w'=>e=.returned (.bool true)∧Below w.heap.size w w':=by
 refine(hf args [] _ hc w dD (nM w) vals (nU.door w hg) hv).mono fun e w' ⟨v,x,H',r',pub',he,hx,hvx,_,hfr,_⟩=>?_
 subst he;subst hx;cases hvx;exact⟨rfl,hfr.os,hfr.tape,hfr.output,hfr.size,fun j hj=>(hfr.keep j hj (fun⟨_,_,h,_⟩=>by cases h)).1⟩
end
end Go.Proofs.YtigdiekbiphhmaaGreatDoor
namespace Go.Proofs.YtigdiekbiphhmaaGreatDoor
open Go.RowKit
def C5:Sh:=.st [.str,.str]
def Ox:Sh:=.st [.int .i64,.str,.str,.sl 2 C5]
def Ae:Sh:=.st [.str,.str,.int .i64,.int .i64,.int .i64,.str,.str,.str,.int .i64,.int .i64,.st [.str,.int .i64],.sl 4 Ox,.sl 1 .str]
def CW:Sh:=.st [.int .i64,.int .i64,.st [.int .i64,.int .i64,.str],Ae]
def DE:Sh:=.st [.str,.str,.int .i64]
def NQ:Sh:=.st [.str,.int .i64]
def OX:Sh:=.st [.str,.int .i64,.sl 2 NQ]
def Hl:Sh:=.st [.str,.str,.str,.str,.str,.str,.str,.str,.str,.st [.str,.int .i64],.sl 3 OX,.int .i64,.int .i64,.int .i64,.int .i64,.int .i64]
def CK:Sh:=.st [.str,.str,.int .i64]
def zC:Sh:=.st [.sl 3 DE,.sl 17 Hl,.sl 3 CK,.st [.sl 1 (.int .i64),.sl 1 (.int .i64)]]
theorem IQ:reachBytes≤140737488355328:=by decide
theorem nZ {s:bH}(h:s.size≤maxLen∧s.size≤reachBytes):eZ s:=Nat.le_trans h.2 IQ
theorem Jf {B:Nat}{cs:List AV}(h:Op B (.sl 1 (.int .i64)) cs):∃L:List Int,cs=[.sl 1 (bJ dO L)]∧L.length≤maxLen∧∀z∈L,FB z:=
 kU (f:=dO) (q:=FB) (fun cz h=>by
  unfold Op at h;obtain⟨n,rfl,h1⟩:=h;exact⟨n,rfl,Na h1⟩) h
theorem TG (cz:List AV) (h:Op reachBytes C5 cz):∃x:Oo,dH 2 cz=Bx x∧True:=by
 unfold C5 Op at h
 (unfold fK at h;obtain⟨_,_,rfl,h1,h⟩:=h;unfold Op at h1;obtain⟨a0,rfl,w0⟩:=h1)
 (unfold fK at h;obtain⟨_,_,rfl,h1,h⟩:=h;unfold Op at h1;obtain⟨a1,rfl,w1⟩:=h1)
 (unfold fK at h;subst h)
 exact⟨⟨a0,a1⟩,rfl,trivial⟩
theorem T7 (cz:List AV) (h:Op reachBytes Ox cz):∃x:Lw,dH 4 cz=tG x∧True:=by
 unfold Ox Op at h
 (unfold fK at h;obtain⟨_,_,rfl,h1,h⟩:=h;unfold Op at h1;obtain⟨a0,rfl,w0⟩:=h1)
 (unfold fK at h;obtain⟨_,_,rfl,h1,h⟩:=h;unfold Op at h1;obtain⟨a1,rfl,w1⟩:=h1)
 (unfold fK at h;obtain⟨_,_,rfl,h1,h⟩:=h;unfold Op at h1;obtain⟨a2,rfl,w2⟩:=h1)
 unfold fK at h;obtain⟨_,_,rfl,h1,h⟩:=h;obtain⟨L,rfl,hl,hL⟩:=kU TG h1
 (unfold fK at h;subst h)
 exact⟨⟨a0,a1,a2,L⟩,rfl,trivial⟩
def Yz:dQ→List AV
 |⟨frm,to,number,kind,ack,deal,text,party,index,day,cur,amt,docs,boxes⟩=>[.str frm,.str to,.i number,.i kind,.i ack,.str deal,.str text,.str party,.i index,.i day,.str cur,.i amt,.sl 4 (bJ tG docs),.sl 1 (bJ .str boxes)]
def X6 (x:dQ):Prop:=eZ x.frm∧eZ x.deal∧eZ x.party
theorem US (cz:List AV) (h:Op reachBytes Ae cz):∃x:dQ,cz=Yz x∧X6 x:=by
 unfold Ae Op at h
 (unfold fK at h;obtain⟨_,_,rfl,h1,h⟩:=h;unfold Op at h1;obtain⟨a0,rfl,w0⟩:=h1)
 (unfold fK at h;obtain⟨_,_,rfl,h1,h⟩:=h;unfold Op at h1;obtain⟨a1,rfl,w1⟩:=h1)
 (unfold fK at h;obtain⟨_,_,rfl,h1,h⟩:=h;unfold Op at h1;obtain⟨a2,rfl,w2⟩:=h1)
 (unfold fK at h;obtain⟨_,_,rfl,h1,h⟩:=h;unfold Op at h1;obtain⟨a3,rfl,w3⟩:=h1)
 (unfold fK at h;obtain⟨_,_,rfl,h1,h⟩:=h;unfold Op at h1;obtain⟨a4,rfl,w4⟩:=h1)
 (unfold fK at h;obtain⟨_,_,rfl,h1,h⟩:=h;unfold Op at h1;obtain⟨a5,rfl,w5⟩:=h1)
 (unfold fK at h;obtain⟨_,_,rfl,h1,h⟩:=h;unfold Op at h1;obtain⟨a6,rfl,w6⟩:=h1)
 (unfold fK at h;obtain⟨_,_,rfl,h1,h⟩:=h;unfold Op at h1;obtain⟨a7,rfl,w7⟩:=h1)
 (unfold fK at h;obtain⟨_,_,rfl,h1,h⟩:=h;unfold Op at h1;obtain⟨a8,rfl,w8⟩:=h1)
 (unfold fK at h;obtain⟨_,_,rfl,h1,h⟩:=h;unfold Op at h1;obtain⟨a9,rfl,w9⟩:=h1)
 unfold fK at h;obtain⟨_,_,rfl,hm,h'⟩:=h;have h:=hm;unfold Op at h
 (unfold fK at h;obtain⟨_,_,rfl,h1,h⟩:=h;unfold Op at h1;obtain⟨b0,rfl,v0⟩:=h1)
 (unfold fK at h;obtain⟨_,_,rfl,h1,h⟩:=h;unfold Op at h1;obtain⟨b1,rfl,v1⟩:=h1)
 (unfold fK at h;subst h)
 have h:=h';unfold fK at h;obtain⟨_,_,rfl,h1,h⟩:=h;obtain⟨L,rfl,hl,hL⟩:=kU T7 h1;unfold fK at h;obtain⟨_,_,rfl,h1,h⟩:=h;obtain⟨B,rfl,hb,hB⟩:=kU (f:=AV.str) (q:=fun _=>True) (fun cz h=>by unfold Op at h;obtain⟨s,rfl,h1,_⟩:=h;exact⟨s,rfl,trivial⟩) h1
 (unfold fK at h;subst h)
 exact⟨⟨a0,a1,a2,a3,a4,a5,a6,a7,a8,a9,b0,b1,L,B⟩,rfl,nZ w0,nZ w5,nZ w7⟩
def T5 (c:jZ):Prop:=(eZ c.a.deal∧eZ c.l.frm∧eZ c.l.deal∧eZ c.l.party)∧FB c.day
theorem Rj (cz:List AV) (h:Op reachBytes CW cz):∃x:jZ,dH 19 cz=sE x∧T5 x:=by
 unfold CW Op at h
 (unfold fK at h;obtain⟨_,_,rfl,h1,h⟩:=h;unfold Op at h1;obtain⟨a0,rfl,w0⟩:=h1)
 (unfold fK at h;obtain⟨_,_,rfl,h1,h⟩:=h;unfold Op at h1;obtain⟨a1,rfl,w1⟩:=h1)
 unfold fK at h;obtain⟨_,_,rfl,hm,h'⟩:=h;have h:=hm;unfold Op at h
 (unfold fK at h;obtain⟨_,_,rfl,h1,h⟩:=h;unfold Op at h1;obtain⟨b0,rfl,v0⟩:=h1)
 (unfold fK at h;obtain⟨_,_,rfl,h1,h⟩:=h;unfold Op at h1;obtain⟨b1,rfl,v1⟩:=h1)
 (unfold fK at h;obtain⟨_,_,rfl,h1,h⟩:=h;unfold Op at h1;obtain⟨b2,rfl,v2⟩:=h1)
 (unfold fK at h;subst h)
 have h:=h';unfold fK at h;obtain⟨_,_,rfl,h1,h⟩:=h;obtain⟨x,rfl,g1,g2,g3⟩:=US _ h1
 (unfold fK at h;subst h)
 obtain⟨frm,to,number,kind,ack,deal,text,party,index,day,cur,amt,docs,boxes⟩:=x;exact⟨⟨a0,a1,⟨b0,b1,b2⟩,⟨frm,to,number,kind,ack,deal,text,party,index,day,cur,amt,docs,boxes⟩⟩,rfl,⟨⟨nZ v2,g1,g2,g3⟩,Na w1⟩⟩
theorem Ph {cs:List AV}(h:Op reachBytes (.sl 19 CW) cs):∃L:List jZ,cs=[.sl 19 (bJ sE L)]∧L.length≤maxLen∧∀a∈L,T5 a:=kU Rj h
theorem UL (cz:List AV) (h:Op reachBytes DE cz):∃x:Gn,dH 3 cz=lE x∧eZ x.name:=by
 unfold DE Op at h
 (unfold fK at h;obtain⟨_,_,rfl,h1,h⟩:=h;unfold Op at h1;obtain⟨a0,rfl,w0⟩:=h1)
 (unfold fK at h;obtain⟨_,_,rfl,h1,h⟩:=h;unfold Op at h1;obtain⟨a1,rfl,w1⟩:=h1)
 (unfold fK at h;obtain⟨_,_,rfl,h1,h⟩:=h;unfold Op at h1;obtain⟨a2,rfl,w2⟩:=h1)
 (unfold fK at h;subst h)
 exact⟨⟨a0,a1,a2⟩,rfl,nZ w0⟩
theorem SM (cz:List AV) (h:Op reachBytes CK cz):∃x:Xe,dH 3 cz=lK x∧True:=by
 unfold CK Op at h
 (unfold fK at h;obtain⟨_,_,rfl,h1,h⟩:=h;unfold Op at h1;obtain⟨a0,rfl,w0⟩:=h1)
 (unfold fK at h;obtain⟨_,_,rfl,h1,h⟩:=h;unfold Op at h1;obtain⟨a1,rfl,w1⟩:=h1)
 (unfold fK at h;obtain⟨_,_,rfl,h1,h⟩:=h;unfold Op at h1;obtain⟨a2,rfl,w2⟩:=h1)
 (unfold fK at h;subst h)
 exact⟨⟨a0,a1,a2⟩,rfl,trivial⟩
theorem TT (cz:List AV) (h:Op reachBytes NQ cz):∃x:Y2,dH 2 cz=WD x∧True:=by
 unfold NQ Op at h
 (unfold fK at h;obtain⟨_,_,rfl,h1,h⟩:=h;unfold Op at h1;obtain⟨a0,rfl,w0⟩:=h1)
 (unfold fK at h;obtain⟨_,_,rfl,h1,h⟩:=h;unfold Op at h1;obtain⟨a1,rfl,w1⟩:=h1)
 (unfold fK at h;subst h)
 exact⟨⟨a0,a1⟩,rfl,trivial⟩
theorem Un (cz:List AV) (h:Op reachBytes OX cz):∃x:IP,dH 3 cz=F6 x∧eZ x.mark:=by
 unfold OX Op at h
 (unfold fK at h;obtain⟨_,_,rfl,h1,h⟩:=h;unfold Op at h1;obtain⟨a0,rfl,w0⟩:=h1)
 (unfold fK at h;obtain⟨_,_,rfl,h1,h⟩:=h;unfold Op at h1;obtain⟨a1,rfl,w1⟩:=h1)
 unfold fK at h;obtain⟨_,_,rfl,h1,h⟩:=h;obtain⟨L,rfl,hl,hL⟩:=kU TT h1
 (unfold fK at h;subst h)
 exact⟨⟨a0,a1,L⟩,rfl,nZ w0⟩
def YJ (d:jD):Prop:=d.boxes.length≤maxLen∧(∀b∈d.boxes,eZ b.mark)∧eZ d.number∧eZ d.seller∧eZ d.buyer∧eZ d.carrier∧eZ d.house∧eZ d.frm∧eZ d.to
theorem SR (cz:List AV) (h:Op reachBytes Hl cz):∃x:jD,dH 17 cz=jS x∧YJ x:=by
 unfold Hl Op at h
 (unfold fK at h;obtain⟨_,_,rfl,h1,h⟩:=h;unfold Op at h1;obtain⟨a0,rfl,w0⟩:=h1)
 (unfold fK at h;obtain⟨_,_,rfl,h1,h⟩:=h;unfold Op at h1;obtain⟨a1,rfl,w1⟩:=h1)
 (unfold fK at h;obtain⟨_,_,rfl,h1,h⟩:=h;unfold Op at h1;obtain⟨a2,rfl,w2⟩:=h1)
 (unfold fK at h;obtain⟨_,_,rfl,h1,h⟩:=h;unfold Op at h1;obtain⟨a3,rfl,w3⟩:=h1)
 (unfold fK at h;obtain⟨_,_,rfl,h1,h⟩:=h;unfold Op at h1;obtain⟨a4,rfl,w4⟩:=h1)
 (unfold fK at h;obtain⟨_,_,rfl,h1,h⟩:=h;unfold Op at h1;obtain⟨a5,rfl,w5⟩:=h1)
 (unfold fK at h;obtain⟨_,_,rfl,h1,h⟩:=h;unfold Op at h1;obtain⟨a6,rfl,w6⟩:=h1)
 (unfold fK at h;obtain⟨_,_,rfl,h1,h⟩:=h;unfold Op at h1;obtain⟨a7,rfl,w7⟩:=h1)
 (unfold fK at h;obtain⟨_,_,rfl,h1,h⟩:=h;unfold Op at h1;obtain⟨a8,rfl,w8⟩:=h1)
 unfold fK at h;obtain⟨_,_,rfl,hm,h'⟩:=h;have h:=hm;unfold Op at h
 (unfold fK at h;obtain⟨_,_,rfl,h1,h⟩:=h;unfold Op at h1;obtain⟨b0,rfl,v0⟩:=h1)
 (unfold fK at h;obtain⟨_,_,rfl,h1,h⟩:=h;unfold Op at h1;obtain⟨b1,rfl,v1⟩:=h1)
 (unfold fK at h;subst h)
 have h:=h';unfold fK at h;obtain⟨_,_,rfl,h1,h⟩:=h;obtain⟨L,rfl,hl,hL⟩:=kU Un h1
 (unfold fK at h;obtain⟨_,_,rfl,h1,h⟩:=h;unfold Op at h1;obtain⟨c0,rfl,u0⟩:=h1)
 (unfold fK at h;obtain⟨_,_,rfl,h1,h⟩:=h;unfold Op at h1;obtain⟨c1,rfl,u1⟩:=h1)
 (unfold fK at h;obtain⟨_,_,rfl,h1,h⟩:=h;unfold Op at h1;obtain⟨c2,rfl,u2⟩:=h1)
 (unfold fK at h;obtain⟨_,_,rfl,h1,h⟩:=h;unfold Op at h1;obtain⟨c3,rfl,u3⟩:=h1)
 (unfold fK at h;obtain⟨_,_,rfl,h1,h⟩:=h;unfold Op at h1;obtain⟨c4,rfl,u4⟩:=h1)
 (unfold fK at h;subst h)
 exact⟨⟨a0,a1,a2,a3,a4,a5,a6,a7,a8,b0,b1,L,c0,c1,c2,c3,c4⟩,rfl,⟨hl,hL,nZ w0,nZ w1,nZ w2,nZ w3,nZ w5,nZ w7,nZ w8⟩⟩
def Zm:jC→List AV
 |⟨parties,deals,funds,rest,holidays⟩=>[.sl 3 (bJ lE parties),.sl 17 (bJ jS deals),.sl 3 (bJ lK funds),.sl 1 (bJ dO rest),.sl 1 (bJ dO holidays)]
theorem WE (s:jC):.agg (Zm s)=Jq s:=by obtain⟨parties,deals,funds,rest,holidays⟩:=s;rfl
theorem Ns (cz:List AV) (h:Op reachBytes zC cz):∃s:jC,cz=Zm s∧UI s:=by
 unfold zC Op at h;unfold fK at h;obtain⟨_,_,rfl,h1,h⟩:=h;obtain⟨P,rfl,hp,hP⟩:=kU UL h1;unfold fK at h;obtain⟨_,_,rfl,h1,h⟩:=h;obtain⟨D,rfl,hd,hD⟩:=kU SR h1;unfold fK at h;obtain⟨_,_,rfl,h1,h⟩:=h;obtain⟨F,rfl,hf,hF⟩:=kU SM h1;unfold fK at h;obtain⟨_,_,rfl,hm,h⟩:=h
 (unfold fK at h;subst h)
 have h:=hm;unfold Op at h;unfold fK at h;obtain⟨_,_,rfl,h1,h⟩:=h;obtain⟨R,rfl,hr,hR⟩:=Jf h1;unfold fK at h;obtain⟨_,_,rfl,h1,h⟩:=h;obtain⟨G,rfl,hg,hG⟩:=Jf h1
 (unfold fK at h;subst h)
 exact⟨⟨P,D,F,R,G⟩,rfl,⟨hp,hd,hP,hD⟩⟩
section
open Go.ChangeShapes Go.WideShapes Go.Deep
end
theorem Vq {s:jC}{name:bH}{l:List jZ}(h0:UI s) (h1:name.size≤reachBytes) (h2:l.length≤maxLen) (h3:∀a∈l,T5 a):Zg ⟨s,name,l⟩:=⟨⟨h0,Nat.le_trans h1 IQ,⟨h2,fun c hc=>(h3 c hc).1⟩⟩,fun o ho=>(h3 o ho).2⟩
theorem NH:E8 Tryz.prog 9 29=some zC:=by kernel_rfl
theorem Pt:E8 Tryz.prog 9 30=some (.sl 19 CW):=by kernel_rfl
end Go.Proofs.YtigdiekbiphhmaaGreatDoor
namespace Go.Proofs.YtigdiekbiphhmaaGreatDoor
open Go
theorem dZ {a b:Bool}(ha:a=true) (hb:b=true):(a && b)=true:=by rw[ha,hb];rfl
theorem S0 {P:bI}{f:FuncId}{fn:Func}{s:ChangeSpec}{c:OpenClaim}(h0:(c.wf (OpenSpec.ofChange s))=true) (h1:(laidOutB P)=true) (h2:(mapsRowed P)=true) (h3:(fn.params.all (P.readableRec ·))=true) (h4:(namedTie P c.named s.vars)=true) (h5:((c.stops == []))=true) (h6:((P.stops == []))=true) (h7:((c.knobs == []))=true) (h8:((P.stopKnobs == []))=true) (h9:((c.inPlace == P.inPlace f))=true) (h10:((c.unfollowed == P.unfollowed f))=true) (h11:((c.recurses == P.recurses f))=true) (h12:((c.named == P.varsNamed f))=true) (h13:((c.maps == (fn.params.toList++s.plain.varTypes P).any (P.mapsRec ·)))=true) (h14:((c.ifaces == (fn.params.toList++s.plain.varTypes P).any (P.ifacesRec ·)))=true) (h15:((c.mapsOut == P.mapsAmong fn.resultTypes.toList))=true) (h16:((c.loops == (fn.params.toList++s.plain.varTypes P).any (P.loopsFrom ·)))=true) (h17:((c.wideKeys == (fn.params.toList++s.plain.varTypes P++fn.resultTypes.toList).any (P.wideKeysFrom ·)))=true) (h18:(s.vars.all (P.varReadable ·))=true) (h19:(fn.resultTypes.all (fun t=>P.readableRec t && decide (t < P.types.size)))=true) (h20:((c.ifacesOut == fn.resultTypes.toList.any (P.ifacesRec ·)))=true) (h21:((c.loopsOut == fn.resultTypes.toList.any (P.loopsFrom ·)))=true) (h22:((c.plainKeys == P.plainKeys))=true) (h23:(c.shortTexts.isNone)=true) (h24:(P.stopsHeard)=true) (h25:(P.mayEnter)=true) (h26:((c.lifted == P.liftsFinal))=true) (h27:((P.make == some c.make))=true) (h28:((c.kinds == (if c.domain.isEmpty then [] else fn.params.toList.map fun t=>match P.underlying t with|some (.int k)=>some k|_=>none)))=true) (h29:((c.pinned == c.pinnedBy))=true) (h30:((c.veiled == (fn.params.toList++s.plain.varTypes P++fn.resultTypes.toList).any (P.veiledRec ·)))=true) (h31:(c.veiledFits P fn.params.toList (fn.params.toList++s.plain.varTypes P++fn.resultTypes.toList))=true):joinedFacts P f fn s c=true:=(dZ (dZ (dZ (dZ (dZ (dZ (dZ (dZ (dZ (dZ (dZ (dZ (dZ (dZ (dZ (dZ (dZ (dZ (dZ (dZ (dZ (dZ (dZ (dZ (dZ (dZ (dZ (dZ (dZ (dZ (dZ h0 h1) h2) h3) h4) h5) h6) h7) h8) h9) h10) h11) h12) h13) h14) h15) h16) h17) h18) h19) h20) h21) h22) h23) h24) h25) h26) h27) h28) h29) h30) h31)
theorem Qy:laidOutB Tryz.pinned.checked.prog=true:=by kernel_rfl
theorem MT:mapsRowed Tryz.pinned.checked.prog=true:=by kernel_rfl
theorem Oe:Tryz.pinned.checked.prog.stopsHeard=true:=by kernel_rfl
theorem OO:Tryz.pinned.checked.prog.mayEnter=true:=by kernel_rfl
end Go.Proofs.YtigdiekbiphhmaaGreatDoor
end
