/-
  Texts of this proof,joined: CWN,CWV,CYA,CYB,CYC,CYD,CYE,CYF,CYG,CYN,CYO,CYP,CJS,CYH,CAV,CYM,SGA,SGB,SG3,CJA,CYI,CYJ,VO,CYZ,JF.
-/
import Derived.Test.YtigdiekbiphhmaaGreatDoorS7
import Derived.KernelRfl
import Derived.Deep.Slices
import Derived.Deep.Fields
import Derived.ChangeSame
import Derived.ProofKit
import Derived.OpenShut
import Derived.ChangeOld
import Derived.Below
import Derived.Test.YtigdiekbiphhmaaGreatDoorChecked
import Derived.Test.YtigdiekbiphhmaaGreatDoorRows
import Derived.JoinedOf
set_option linter.unusedVariables false
set_option linter.unusedSimpArgs false
noncomputable section
namespace Go.Proofs.YtigdiekbiphhmaaGreatDoor
open Go.RowKit
set_option maxHeartbeats 8000000
set_option maxRecDepth 100000
structure Wn (b:Br):Prop where
 n:b.b.number.size≤1000
 h0:b.o0.holder.size≤1000
 h1:b.o1.holder.size≤1000
 h2:b.o2.holder.size≤1000
 s0:0≤b.o0.state∧b.o0.state≤3
 s1:0≤b.o1.state∧b.o1.state≤3
 s2:0≤b.o2.state∧b.o2.state≤3
theorem fV (s t:bH):jK (s++t)=jK s++jK t:=by
 obtain⟨⟨l⟩⟩:=s;obtain⟨⟨m⟩⟩:=t;unfold jK;rw[ByteArray.data_append];exact Array.toList_append ..
theorem eL (l:List UInt8):jK (kU l)=l:=rfl
theorem fS (l:List UInt8):(kU l).size=l.length:=rfl
theorem DD (s:bH):(jK s).length=s.size:=rfl
theorem rV {W:List bH}{f:bH→List UInt8}{c:Nat}(h:∀x∈W,(f x).length≤c):(W.flatMap f).length≤c * W.length:=by
 induction W with
 |nil=>exact aI _
 |cons a W ih=>
  rw[List.flatMap_cons,aM,List.length_cons,Nat.mul_succ];have h1:=h a (bD ..);have h2:=ih fun x hx=>h x (aW _ hx)
  omega
theorem AK (z:Int):(tJ z).length≤9:=by unfold tJ;(repeat' split)<;>decide
theorem Z3 (z:Int):(xY z).length≤7:=by unfold xY;(repeat' split)<;>decide
theorem Fd (b:Bool):(NS b).length≤8:=by cases b<;>decide
theorem B7 (d:Dp):(qB d).length≤d.number.size+30:=by
 unfold qB;have h1:=AK d.state;have h2:=Fd d.rel;have h3:=DD d.number;have h4:Ra.length=5:=rfl;simp only[aM,List.length_cons,List.length_nil];omega
theorem lU (n:bH) (k:UInt8) (o:Og):(iR n k o).length≤n.size+o.holder.size+30:=by
 unfold iR;have h1:=Z3 o.state;have h2:=DD n;have h3:=DD o.holder;have h4:Re.length=9:=rfl;simp only[aM,List.length_cons,List.length_nil];omega
def US (name:bH) (D:List jM):List bH:=(D.map jM.de).foldl (fun l d=>if d.carrier=name then oM l d.number else l) []
theorem Ld (name:bH) (D:List jM):(US name D).length≤D.length:=by
 have h:∀(D:List De) (l:List bH),(D.foldl (fun l d=>if d.carrier=name then oM l d.number else l) l).length≤l.length+D.length:=by
  intro D
  induction D with
  |nil=>intro l;exact aN _
  |cons a D ih=>
   intro l;rw[List.foldl_cons,List.length_cons];refine Nat.le_trans (ih _) ?_
   split
   ·have:=EC l a.number;omega
   ·omega
 have:=h (D.map jM.de) [];rw[aJ]at this;exact Nat.le_trans this (by simp)
theorem Nj:eO 0=⟨#[48]⟩:=by kernel_rfl
theorem LT:eO 1=⟨#[49]⟩:=by kernel_rfl
theorem OR:eO 2=⟨#[50]⟩:=by kernel_rfl
def UC (o:bH) (y:Br):Nat→bH
 |0=>o
 |1=>o++kU (iR y.b.number 48 y.o0)
 |2=>o++kU (iR y.b.number 48 y.o0)++kU (iR y.b.number 49 y.o1)
 |_=>o++kU (iR y.b.number 48 y.o0)++kU (iR y.b.number 49 y.o1)++kU (iR y.b.number 50 y.o2)
theorem UB (o:bH) (y:Br):UC o y 3=o++kU (lO y):=by
 apply iY;show jK (o++kU (iR y.b.number 48 y.o0)++kU (iR y.b.number 49 y.o1)++kU (iR y.b.number 50 y.o2))=_;unfold lO;simp only[fV,eL,bG]
theorem PV (o:bH) (y:Br) (h:Wn y) (j:Nat):(UC o y j).size≤o.size+6200:=by
 have h1:=lU y.b.number 48 y.o0;have h2:=lU y.b.number 49 y.o1;have h3:=lU y.b.number 50 y.o2;have g0:=h.n;have g1:=h.h0;have g2:=h.h1;have g3:=h.h2
 match j with
 |0=>show o.size≤_;omega
 |1=>show (o++_).size≤_;rw[ByteArray.size_append,fS];omega
 |2=>show (o++_++_).size≤_;rw[ByteArray.size_append,ByteArray.size_append,fS,fS];omega
 |j+3=>show (o++_++_++_).size≤_;rw[ByteArray.size_append,ByteArray.size_append,ByteArray.size_append,fS,fS,fS];omega
theorem MC (L:List Br) (p:Br→Bool):(fW L p).length≤L.length:=by
 unfold fW dN;rw[aJ,List.length_mergeSort,aJ];exact List.length_filterMap_le ..
def Gy:bH:=⟨#[32]⟩
def LS:bH:=⟨#[10]⟩
def Z1 (s:bH):List cG:=[.blk 148 [yV s,.hd 1],.row 5 1 (kG s)]
def Ot:dL:=spec (fun i:bH×bH=>[.ptr 0 0,.str i.2]) (fun i=>Z1 i.1) (fun i=>i.1.size+i.2.size≤140737488355328∧i.2.size≠0) (fun i=>.tup [.int .i64 i.2.size,.v .nilIface]) fun i=>Z1 (i.1++i.2)
def IH:dL:=spec (fun _:bH×AV=>[.ptr 0 0]) (fun i=>[.blk 148 [i.2,.hd 1],.row 5 1 (kG i.1)]) (fun _=>True) (fun i=>.str i.1) fun _=>[.blk 148 [.any,.any],.dead]
def NE:dL:=spec (fun i:bH×List bH=>[.sl 1 (bJ .str i.2),.ptr 0 0]) (fun i=>Z1 i.1) (fun i=>i.1.size+(dX i.2 Gy).size+1≤140737488355328∧i.2.length≤1000) (fun _=>.tup []) fun i=>Z1 (i.1++(dX i.2 Gy++LS))
theorem IP (s:bH):fG (Z1 s).length (Z1 s)=true:=by
 show fG 2 [.blk 148 [yV s,.hd 1],.row 5 1 (kG s)]=true;unfold yV
 split<;>rfl
def zF (a:Nat) (s:bH):AV:=if s.size=0 then .v (.pointer none) else .ptr a 0
theorem Ds (a b n:Nat) (s:bH):gJ [a,b] n (Z1 s)=[.blk 148 [zF a s,.hd b],.row 5 1 (kG s)]:=by
 show gJ [a,b] n [.blk 148 [yV s,.hd 1],.row 5 1 (kG s)]=_;unfold yV zF
 split<;>rfl
theorem oA {P:bI}{f:Nat}{ι:Type}{ag:ι→List AV}{o o':ι→bH}{p:ι→Prop}{r:ι→AV}(hf:bK P f (spec ag (fun i=>Z1 (o i)) p r fun i=>Z1 (o' i))) (i:ι) (a b:Nat) {keep:List Nat}{args:List AV}{st:St}{K:AV→St→Prop}
  (hp:p i) (hargs:args=AV.renL [a,b] st.H.length (ag i)) (hba:AV.bndL 2 (ag i)=true) (hnd:[a,b].Nodup) (hlt:([a,b].all fun k=>Nat.blt k st.H.length)=true) (ha:st.H[a]?=some (.blk 148 [zF a (o i),.hd b])) (hb:st.H[b]?=some (.row 5 1 (kG (o i)))) (hkeep:(keep.all fun k=>![a,b].contains k && Nat.blt k st.H.length)=true)
  (hK:K ((r i).ren [a,b] st.H.length) ⟨iT st.T [b],sG (gQ st.H [b]) [a,b] [.blk 148 [zF a (o' i),.hd b],.row 5 1 (kG (o' i))]⟩):gC P keep f args st K:=by
 refine tH hf i [a,b] hp hargs rfl hnd hlt ?_ hba (IP _) hkeep ?_
 ·rw[Ds];show [st.H[a]?,st.H[b]?]=_;rw[ha,hb];rfl
 ·rw[Ds];exact hK
theorem NN (t u:Nat) (s:bH) (xs:List AV):fG 2 [.blk t [zF 0 s,.hd 1],.row u 1 xs]=true:=by
 unfold zF
 split<;>rfl
theorem KU (P:bI) (hj:bK P 57 Pc) (hw:bK P 56 Ot):bM P Zp NE:=by
 intro args H K hc;obtain⟨⟨out,ws⟩,rfl,rfl,hp,hK⟩:=hc;refine⟨cK,?_⟩;dsimp only at hp hK⊢;obtain⟨hsz,hl⟩:=hp
 try dsimp only at hsz hl
 obtain⟨j,hj1⟩:∃j,j=dX ws Gy:=⟨_,rfl⟩
 obtain⟨o2,ho2⟩:∃o,o=out++(j++LS):=⟨_,rfl⟩
 obtain⟨sl2,hsl2⟩:∃a,a=zF 0 o2:=⟨_,rfl⟩
 obtain⟨by2,hby2⟩:∃a,a=kG o2:=⟨_,rfl⟩
 replace hK:K (.tup []) [.blk 148 [sl2,.hd 1],.row 5 1 by2]:=by rw[hsl2,hby2,ho2,hj1];exact hK
 rw[←hj1]at hsz;obtain⟨sl,hsl⟩:∃a,a=zF 0 out:=⟨_,rfl⟩
 obtain⟨by1,hby⟩:∃a,a=kG out:=⟨_,rfl⟩
 have hn1:LS.size=1:=rfl;have hb0:Z1 out=[.blk 148 [sl,.hd 1],.row 5 1 by1]:=by rw[hsl,hby];rfl
 rw[hb0];clear hb0;cbv
 (refine ZO hj ((ws,Gy):List bH×bH) ⟨by dsimp only;rw[←hj1];omega,by dsimp only;omega⟩ ?_;try dsimp only)
 rw[←hj1];have z3:(ByteArray.mk (Array.mk [10])).size=1:=rfl;cbv;repeat'((first|refine .u fun u hu hul=>?_|fail)<;>cbv)
 obtain⟨jn,hjn⟩:∃j2,j2=j++LS:=⟨_,rfl⟩
 obtain rfl:u=jn:=by rw[hjn];assumption
 subst hsl hby;refine oA hw ((out,u):bH×bH) 0 1 ⟨by dsimp only;omega,by dsimp only;omega⟩ rfl rfl (by decide) rfl rfl rfl rfl ?_
 try dsimp only
 rw[hjn,←ho2,←hsl2,←hby2];cbv;refine bY.mk ⟨_,Gh.refl _,?_⟩;cbv;exact .inl (eY.pre _ (by rfl) cK (by rfl) (by rw[hsl2];exact NN _ _ _ _) (Le.refl _) (kD.refl _) hK)
structure Rx (C:Cr):Prop where
 nd:(C.deals.map Dp.number).Nodup
 dl:C.deals.length≤8
 dz:∀d∈C.deals,d.number.size≤300∧0≤d.state∧d.state≤4
 few:C.reg.bills.length≤256
 all:∀b∈C.reg.bills,inB b
 bz:∀b∈C.reg.bills,Wn b
 rn:lJ C.reg.bills
 cu:jW C.cust
def Au:dL:=spec (fun _:Cr=>[.ptr 0 0]) yY Rx (fun C=>.str (kU (eQ C))) yY
structure ZD (P:bI):Prop where
 so:Bh P
 l7:SlLaysZ.n7 P pK
 ml:dB P 55
 li:bK P 55 NE
 st:bK P 61 IH
 bi:bK P 35 Ib
 ors:bK P 16 tD
 it:bK P 60 (Es eO)
 bo:bK P 38 GV
 no:bK P 42 TW
theorem xD (a b c d s:bH):jK (dX [a,b,c,d] s)=jK a++(jK s++(jK b++(jK s++(jK c++(jK s++jK d))))):=by
 have h:[a,b,c,d]=a :: [b,c]++[d]:=rfl;have h2:[a,b,c]=a :: [b]++[c]:=rfl;have h3:[a,b]=a :: []++[b]:=rfl;rw[h,mK,h2,mK,h3,mK,CJ];simp only[fV,bG]
theorem JR (a b c d e s:bH):jK (dX [a,b,c,d,e] s)=jK a++(jK s++(jK b++(jK s++(jK c++(jK s++(jK d++(jK s++jK e))))))):=by
 have h:[a,b,c,d,e]=a :: [b,c,d]++[e]:=rfl;rw[h,mK];have h4:jK (dX (a :: [b,c,d]) s)=_:=xD a b c d s;simp only[fV,h4,bG]
def dS:bH:=⟨#[100,101,97,108]⟩
theorem LC (d:Dp):dX [dS,d.number,kU (tJ d.state),kU (NS d.rel)] Gy++LS=kU (qB d):=by
 apply iY;rw[fV,xD,eL,eL,eL];unfold qB;simp only[bG];rfl
def Wr:bH:=⟨#[111,114,105,103,105,110,97,108]⟩
theorem xO (n h:bH) (k:UInt8) (o:Og) (d:bH) (hd:d=⟨#[k]⟩) (hh:o.holder=h):dX [Wr,n,d,kU (xY o.state),h] Gy++LS=kU (iR n k o):=by
 subst hd hh;apply iY;rw[fV,JR,eL,eL];unfold iR;simp only[bG];rfl
theorem Mc {L:List Br}{bill:bH}{y:Br}(hl:yH L bill=some y):BS L bill=Mr bill y:=by rw[Qj,hl]
theorem Nw (o:bH) (y:Br) (hy:Wn y) {nm:bH}(hn:y.b.number=nm) (j:Nat) (hj:j < 3):∃s h,(Mr nm y)[j]?=some ⟨nm,nI j,s,h⟩∧(0≤s∧s≤3)∧h.size≤1000∧(eO (nI j)).size=1∧UC o y (j+1)=UC o y j++(dX [Wr,nm,eO (nI j),kU (xY s),h] Gy++LS):=by
 obtain⟨b,st,⟨sa,ha,ca⟩,⟨sb,hb,cb⟩,⟨sc,hc,cc⟩⟩:=y;dsimp only at hn;subst hn
 match j,hj with
 |0,_=>exact⟨sa,ha,rfl,hy.s0,hy.h0,by rw[show eO (nI 0)=⟨#[48]⟩ from Nj];rfl,by rw[xO b.number ha 48 ⟨sa,ha,ca⟩ (eO (nI 0)) Nj rfl];rfl⟩
 |1,_=>exact⟨sb,hb,rfl,hy.s1,hy.h1,by rw[show eO (nI 1)=⟨#[49]⟩ from LT];rfl,by rw[xO b.number hb 49 ⟨sb,hb,cb⟩ (eO (nI 1)) LT rfl];rfl⟩
 |2,_=>exact⟨sc,hc,rfl,hy.s2,hy.h2,by rw[show eO (nI 2)=⟨#[50]⟩ from OR];rfl,by rw[xO b.number hc 50 ⟨sc,hc,cc⟩ (eO (nI 2)) OR rfl];rfl⟩
def Uo:bH:=⟨#[98,111,120]⟩
theorem O0 (b:bH) (own:List eJ) (h:eJ) (hl:own.getLast?=some h):dX [Uo,b,h.to,h.place] Gy++LS=kU (Qn b own):=by
 apply iY;rw[fV,xD,eL];unfold Qn;rw[hl];simp only[bG];rfl
theorem SK {L:List cV}(hc:jW L) {b:bH}(hb:b∈dN (L.map cV.box)):∃h:eJ,G7 L b=(h.to,h.place,true)∧b.size≤16∧h.to.size≤16∧h.place.size≤16∧dX [Uo,b,h.to,h.place] Gy++LS=kU (F4 L b):=by
 obtain⟨c,hcm,he⟩:=aX.1 ((iQ _).mem_iff.1 hb);have hl:gS cV.box L b=some c:=tE hc.nd hcm he;obtain⟨h,hh⟩:∃h,c.hist.getLast?=some h:=by
  cases hx:c.hist.getLast? with
  |none=>exact absurd (List.getLast?_eq_none_iff.1 hx) (hc.ne c hcm).1
  |some h=>exact⟨h,rfl⟩
 have hsz:=hc.sz c hcm;have hsh:=hsz.2 h (List.mem_of_getLast? hh);refine⟨h,?_,he ▸ hsz.1,hsh.1,hsh.2,?_⟩
 ·unfold G7;cases ha:lI cV.box L b with
  |none=>exact absurd he (iH (sV ha) hcm)
  |some i=>
   obtain⟨y,hy,hye⟩:=eB ha;have h2:=mF ha hy;rw[hl]at h2;cases h2;dsimp only;rw[hy];dsimp only;rw[hh]
 ·rw[O0 b c.hist h hh];unfold F4;rw[hl]
theorem HC (P:bI) (F:ZD P):bM P Zf Au:=by
 intro args H K hc;obtain⟨⟨name,parties,deals,⟨rc,rL⟩,cust,deliv⟩,rfl,rfl,hp,hK⟩:=hc;refine⟨cK,?_⟩;dsimp only at hp hK⊢;obtain⟨hnd,hdl,hdz,hfew,hall,hbz,hrn,hcu⟩:=hp
 try dsimp only at hnd hdl hdz hfew hall hbz hrn hcu
 obtain⟨W,hW⟩:∃W,W=dN (deals.map Dp.number):=⟨_,rfl⟩
 have hWl:W.length=deals.length:=by rw[hW,kE,aJ]
 obtain⟨dF,hdF⟩:∃f,f=sT deals:=⟨_,rfl⟩
 obtain⟨O,hO⟩:∃O:Nat→bH,O=fun k=>kU ((W.take k).flatMap dF):=⟨_,rfl⟩
 obtain⟨SL,hSL⟩:∃f:bH→AV,f=zF 8:=⟨_,rfl⟩
 obtain⟨BY,hBY⟩:∃f:bH→List AV,f=kG:=⟨_,rfl⟩
 cbv;refine yL (ρK:=pK) F.l7 2 rfl rfl ?_;cbv;refine sN (ρK:=pK) (ρS:=jC) F.l7 F.so.l6 F.so.s F.so.e9 rfl 9 2 (f:=gM) (L:=deals) Dp.number (fun _=>rfl) rfl rfl hnd (fun a ha=>by have:=(hdz a ha).1;unfold maxLen;omega) (by omega) rfl ?_;rw[←hW];cbv;repeat'((first|refine .k fun z hz=>?_|fail)<;>cbv)
 refine iL (Gh.plain 10 rfl) ?_;cbv;refine iL (Gh.adoptC 8 1 5 1 rfl rfl) ?_;cbv;have hO0:SL (O 0)=.v (.pointer none):=by rw[hSL,hO];rfl
 have hB0:BY (O 0)=[]:=by rw[hBY,hO];rfl
 refine iL (Gh.cast [.blk 118 [.str name,.hd 1,.ph 2,.ptr 3 0,.ptr 5 0,.hd 7],.map 70 (bJ iK parties),.pool 116 (bJ gM deals) [],.blk 122 [.str rc,.ph 4],.pool 120 (bJ fM rL) [],.blk 174 [.ph 6],.pool 172 (bJ gE cust) [],.tip 77 5 (bJ dP deliv),.blk 148 [SL (O 0),.hd 11],.blk 116 [.ph 2],.tip 9 1 (bJ .str W),.row 5 1 (BY (O 0))] (by rw[hO0,hB0])) ?_;clear hO0 hB0;obtain⟨n,hn⟩:∃n:Nat,n=W.length:=⟨_,rfl⟩
 have hSLc:∀o,SL o=.v (.pointer none)∨SL o=.ptr 8 0:=fun o=>by rw[hSL];unfold zF;split<;>simp
 have hSLe:∀o,SL o=zF 8 o:=fun o=>by rw[hSL]
 have hSLb:∀o,(SL o).bnd 12=true:=fun o=>by rw[hSL];unfold zF;split<;>rfl
 refine bU [] (fun p:{ k:Nat // k≤W.length }=>[(27,.i (nI p.1))]) (fun p=>[.blk 118 [.str name,.hd 1,.ph 2,.ptr 3 0,.ptr 5 0,.hd 7],.map 70 (bJ iK parties),.pool 116 (bJ gM deals) [],.blk 122 [.str rc,.ph 4],.pool 120 (bJ fM rL) [],.blk 174 [.ph 6],.pool 172 (bJ gE cust) [],.tip 77 5 (bJ dP deliv),.blk 148 [SL (O p.1),.hd 11],.blk 116 [.ph 2],.tip 9 1 (bJ .str W),.row 5 1 (BY (O p.1))]) (fun p=>fO n p.1) ⟨0,aI _⟩ ?_ (hbH:=(by show fG 12 _=true;simp only[fG,qH,AV.bndL,hSLb];rfl));rintro ⟨k,hk⟩;dsimp only at hk⊢;have hWat:∀nm,nm∈W→∃d∈deals,d.number=nm:=fun nm hm=>by
  rw[hW]at hm;obtain⟨d,hd,he⟩:=aX.1 ((iQ _).mem_iff.1 hm);exact⟨d,hd,he⟩
 have hOs:∀k nm,W[k]?=some nm→O (k+1)=O k++kU (dF nm):=fun k nm hx=>by
  rw[hO];apply iY;dsimp only;rw[dO hx,fV,eL,eL,eL,List.flatMap_append];simp
 rcases aL k W.length with hks|hks
 ·obtain⟨nm,hx⟩:=cJ hks;cbv;repeat'((first|refine .e ?_|refine .y fun h=>?_|fail)<;>cbv)
  refine fC Dp.number (fun _=>rfl) (fun i y hai hy hky=>?_) (fun hai=>?_)<;>try dsimp only at *
  rotate_left
  ·obtain⟨d,hd,he⟩:=hWat nm (aC hx);exact absurd he (iH (sV hai) hd)
  have hdzy:=hdz y (aC hy);have hdy:dF nm=qB y:=by rw[hdF];unfold sT;rw[mF hai hy]
  have hln:=LC y;rw[←hdy]at hln;have hOn:=hOs k nm hx;rw[hky]at hln;rw[←hln]at hOn;have hws:(dX [dS,nm,kU (tJ y.state),kU (NS y.rel)] Gy).size≤4 * (300+1):=by
   refine kH _ _ 300 fun x hx=>?_
   have h1:=AK y.state;have h2:=Fd y.rel;have h3:=hdzy.1;rw[hky]at h3;simp only[List.mem_cons,List.not_mem_nil,or_false]at hx;rcases hx with rfl|rfl|rfl|rfl
   ·decide
   ·exact h3
   ·rw[fS];omega
   ·rw[fS];omega
  have hOl:(O k).size≤3200:=by
   rw[hO];dsimp only;rw[fS];have:=rV (W:=W.take k) (f:=dF) (c:=400) fun nm hm=>by
    obtain⟨d,hd,he⟩:=hWat nm (List.mem_of_mem_take hm);have hl:gS Dp.number deals nm=some d:=tE hnd hd he;have h1:dF nm=qB d:=by rw[hdF];unfold sT;rw[hl]
    have h2:=B7 d;have h3:=(hdz d hd).1;rw[h1];omega
   rw[aS]at this;omega
  obtain⟨number,seller,buyer,house,dfrm,dto,dboxes,state,rel⟩:=y;dsimp only at hky hdzy hln hOn hws;subst hky;obtain⟨o1,ho1⟩:∃o,o=O k:=⟨_,rfl⟩
  rw[←ho1]at hOn hOl⊢;clear hdy hln hOs hWat hdF hO;obtain⟨ws,hwsE⟩:∃ws,ws=[dS,number,kU (tJ state),kU (NS rel)]:=⟨_,rfl⟩
  rw[←hwsE]at hws hOn;have hwsl:ws.length=4:=by rw[hwsE];rfl
  cases rel with
  |true=>
   cbv;repeat'((first|refine .mk (fun h=>?_) fun h=>?_|refine .o ?_|refine And.intro ?_ ?_|fail)<;>cbv)
   all_goals first
   |exact F.ml
   |skip
   all_goals
    first|(obtain rfl:=‹state=Int.ofNat _›)|(obtain rfl:state=Int.ofNat 0:=by(obtain⟨_,hz1,hz2⟩:=hdzy;((try simp only[vn]at *)<;>omega)))
    rcases hSLc o1 with hs1|hs1
   all_goals
    rw[hs1];refine eP 13 rfl ?_;cbv;refine oA F.li ((o1,ws):bH×List bH) 8 11 ⟨by dsimp only;omega,by dsimp only;omega⟩ (by subst hwsE;rfl) rfl (by decide) rfl (by rw[←hSLe,hs1];rfl) (by subst hBY;rfl) rfl ?_
    try dsimp only
    rw[←hOn,←hSL,←hBY];cbv;repeat'((first|refine .k fun z hz=>?_|fail)<;>cbv)
    obtain rfl:z=nI (k+1):=bQ;rcases hSLc (O (k+1))with hs2|hs2
   all_goals
    rw[hs2];refine dW (Gh.back0 2 [12] gM rfl hy) ?_;cbv;exact bN ⟨k+1,hks⟩ (bO (by omega)) (hH:=(by dsimp only;rw[hs2];rfl)) (hbH:=(by show fG 12 _=true;simp only[fG,qH,AV.bndL,hSLb];rfl))
  |false=>
   cbv;repeat'((first|refine .mk (fun h=>?_) fun h=>?_|refine .o ?_|refine And.intro ?_ ?_|fail)<;>cbv)
   all_goals first
   |exact F.ml
   |skip
   all_goals
    first|(obtain rfl:=‹state=Int.ofNat _›)|(obtain rfl:state=Int.ofNat 0:=by(obtain⟨_,hz1,hz2⟩:=hdzy;((try simp only[vn]at *)<;>omega)))
    rcases hSLc o1 with hs1|hs1
   all_goals
    rw[hs1];refine eP 13 rfl ?_;cbv;refine oA F.li ((o1,ws):bH×List bH) 8 11 ⟨by dsimp only;omega,by dsimp only;omega⟩ (by subst hwsE;rfl) rfl (by decide) rfl (by rw[←hSLe,hs1];rfl) (by subst hBY;rfl) rfl ?_
    try dsimp only
    rw[←hOn,←hSL,←hBY];cbv;repeat'((first|refine .k fun z hz=>?_|fail)<;>cbv)
    obtain rfl:z=nI (k+1):=bQ;rcases hSLc (O (k+1))with hs2|hs2
   all_goals
    rw[hs2];refine dW (Gh.back0 2 [12] gM rfl hy) ?_;cbv;exact bN ⟨k+1,hks⟩ (bO (by omega)) (hH:=(by dsimp only;rw[hs2];rfl)) (hbH:=(by show fG 12 _=true;simp only[fG,qH,AV.bndL,hSLb];rfl))
 have hk9:k=n:=by omega
 have hOn:O n=kU (W.flatMap dF):=by rw[hO,hn];dsimp only;rw[List.take_length]
 have hOnl:(O n).size≤3200:=by
  rw[hOn,fS];have:=rV (W:=W) (f:=dF) (c:=400) fun nm hm=>by
   obtain⟨d,hd,he⟩:=hWat nm hm;have hl:gS Dp.number deals nm=some d:=tE hnd hd he;have h1:dF nm=qB d:=by rw[hdF];unfold sT;rw[hl]
   have h2:=B7 d;have h3:=(hdz d hd).1;rw[h1];omega
  omega
 rw[hk9];clear hOs hWat
 obtain⟨o1,ho1⟩:∃o,o=O n:=⟨_,rfl⟩
 rw[←ho1]at hOn hOnl⊢;obtain⟨Wb,hWb⟩:∃w,w=fW rL fun _=>true:=⟨_,rfl⟩
 have hWbl:Wb.length≤256:=by rw[hWb];exact Nat.le_trans (MC rL _) hfew
 obtain⟨bF,hbF⟩:∃f,f=sS rL:=⟨_,rfl⟩
 have hWbat:∀nm,nm∈Wb→∃y,y∈rL∧yH rL nm=some y∧y.b.number=nm∧bF nm=lO y:=fun nm hm=>by
  rw[hWb]at hm;obtain⟨b,hb,-,he⟩:=Gv.1 hm;cases hl:yH rL nm with
  |none=>
   unfold yH at hl;rw[List.find?_eq_none]at hl;exact absurd he (by simpa using hl b hb)
  |some y=>
   refine⟨y,List.mem_of_find?_eq_some hl,rfl,by have:=List.find?_some hl;simpa using this,?_⟩;rw[hbF];unfold sS;rw[hl]
 obtain⟨O2,hO2⟩:∃f:Nat→bH,f=fun k=>o1++kU ((Wb.take k).flatMap bF):=⟨_,rfl⟩
 have hO20:O2 0=o1:=by rw[hO2];apply iY;rw[fV];simp[eL]
 have hO2s:∀k nm,Wb[k]?=some nm→O2 (k+1)=O2 k++kU (bF nm):=fun k nm hx=>by
  rw[hO2];apply iY;dsimp only;rw[dO hx,fV,fV,fV,eL,eL,eL,List.flatMap_append,bG];simp
 have hdF2:=hdF;have hO2l:∀k,(O2 k).size≤1700000:=fun k=>by
  rw[hO2];dsimp only;rw[ByteArray.size_append,fS];have:=rV (W:=Wb.take k) (f:=bF) (c:=6200) fun nm hx=>by
   obtain⟨y,hy,-,-,he⟩:=hWbat nm (List.mem_of_mem_take hx);rw[he];have h:=hbz y hy;have g1:=lU y.b.number 48 y.o0;have g2:=lU y.b.number 49 y.o1;have g3:=lU y.b.number 50 y.o2;have:=h.n;have:=h.h0;have:=h.h1;have:=h.h2;unfold lO;rw[aM,aM];omega
  rw[aS]at this;omega
 obtain⟨nw,hnw⟩:∃n:Nat,n=Wb.length:=⟨_,rfl⟩
 have hO2n:O2 nw=kU (W.flatMap dF++Wb.flatMap bF):=by
  rw[hO2,hOn,hnw];apply iY;dsimp only;rw[fV,eL,eL,eL,List.take_length]
 clear hO2;rcases hSLc o1 with hs1|hs1
 all_goals
  rw[hs1];cbv;repeat'((first|refine .n fun h=>?_|fail)<;>cbv)
  (refine eW F.bi (⟨rc,rL⟩:Rg) [3,4] ⟨hfew,hall⟩ ?_;try dsimp only)
  rw[←hWb];cbv;repeat'((first|refine .k fun z hz=>?_|fail)<;>cbv)
  refine bU [] (fun p:{ k:Nat // k≤Wb.length }=>[(59,.i (nI p.1))]) (fun p=>[.blk 118 [.str name,.hd 1,.ph 2,.ptr 3 0,.ptr 5 0,.hd 7],.map 70 (bJ iK parties),.pool 116 (bJ gM deals) [],.blk 122 [.str rc,.ph 4],.pool 120 (bJ fM rL) [],.blk 174 [.ph 6],.pool 172 (bJ gE cust) [],.tip 77 5 (bJ dP deliv),.blk 148 [SL (O2 p.1),.hd 11],.blk 116 [.ph 2],.tip 9 1 (bJ .str W),.row 5 1 (BY (O2 p.1))]) (fun p=>fO nw p.1) ⟨0,aI _⟩ ?_ (hH:=(by dsimp only;rw[hO20,hs1];rfl)) (hbH:=(by show fG 12 _=true;simp only[fG,qH,AV.bndL,hSLb];rfl));rintro ⟨k2,hk2⟩;dsimp only at hk2⊢;rcases aL k2 Wb.length with hks2|hks2
  ·obtain⟨nm,hx⟩:=cJ hks2;obtain⟨y,hy,hyl,hyn,hye⟩:=hWbat nm (aC hx);have hyz:=hbz y hy;have hnx:=hO2s k2 nm hx;have hol:=hO2l k2;obtain⟨oB,hoB⟩:∃o,o=O2 k2:=⟨_,rfl⟩
   rw[hye,←hoB,←UB]at hnx;rw[←hoB]at hol⊢;have hor:=Mc hyl;obtain⟨orl,horl⟩:∃l,l=BS rL nm:=⟨_,rfl⟩
   have horl3:orl.length=3:=by rw[horl,hor];obtain⟨b,st,⟨sa,ha,ca⟩,⟨sb,hb,cb⟩,⟨sc,hc,cc⟩⟩:=y;rfl
   rw[←horl]at hor;obtain⟨O3,hO3⟩:∃f,f=UC oB y:=⟨_,rfl⟩
   have hst3:∀j,j < 3→∃s h,orl[j]?=some ⟨nm,nI j,s,h⟩∧(0≤s∧s≤3)∧h.size≤1000∧(eO (nI j)).size=1∧O3 (j+1)=O3 j++(dX [Wr,nm,eO (nI j),kU (xY s),h] Gy++LS):=fun j hj=>by rw[hor,hO3];exact Nw oB y hyz hyn j hj
   have hO30:O3 0=oB:=by rw[hO3];rfl
   have hO33:O3 3=O2 (k2+1):=by rw[hO3];exact hnx.symm
   have hO3l:∀j,(O3 j).size≤1710000:=fun j=>by have:=PV oB y hyz j;rw[hO3];omega
   have hnml:nm.size≤1000:=hyn ▸ hyz.n;clear hO3 hor hnx hyz hye hyl hyn hy;rcases hSLc oB with hs2|hs2
   all_goals
    rw[hs2];cbv;repeat'((first|refine .e ?_|refine .y fun h=>?_|fail)<;>cbv)
    (refine eW F.ors ((⟨rc,rL⟩,nm):Rg×bH) [3,4] trivial ?_;try dsimp only)
    rw[←horl];cbv;repeat'((first|refine .k fun z hz=>?_|fail)<;>cbv)
    refine bU [] (fun p:{ k:Nat // k≤3 }=>[(70,.i (nI p.1))]) (fun p=>[.blk 118 [.str name,.hd 1,.ph 2,.ptr 3 0,.ptr 5 0,.hd 7],.map 70 (bJ iK parties),.pool 116 (bJ gM deals) [],.blk 122 [.str rc,.ph 4],.pool 120 (bJ fM rL) [],.blk 174 [.ph 6],.pool 172 (bJ gE cust) [],.tip 77 5 (bJ dP deliv),.blk 148 [SL (O3 p.1),.hd 11],.blk 116 [.ph 2],.tip 9 1 (bJ .str W),.row 5 1 (BY (O3 p.1))]) (fun p=>fO 3 p.1) ⟨0,aI _⟩ ?_ (hH:=(by dsimp only;rw[hO30,hs2];rfl)) (hbH:=(by show fG 12 _=true;simp only[fG,qH,AV.bndL,hSLb];rfl));rintro ⟨j,hj⟩;dsimp only at hj⊢;rcases aL j 3 with hj3|hj3
    rotate_left
    ·obtain rfl:j=3:=by omega
     rw[hO33];cbv;repeat'((first|refine .n fun h=>?_|refine .k fun z hz=>?_|fail)<;>cbv)
     obtain rfl:z=nI (k2+1):=bQ;exact bN ⟨k2+1,hks2⟩ (bO (by omega)) (hbH:=(by show fG 12 _=true;simp only[fG,qH,AV.bndL,hSLb];rfl))
    obtain⟨st,hh,hx3,hs3,hhl,hil,hO3n⟩:=hst3 j hj3;have hO3j:=hO3l j;obtain⟨dg,hdg⟩:∃d,d=eO (nI j):=⟨_,rfl⟩
    rw[←hdg]at hil hO3n;obtain⟨ws,hwsE⟩:∃ws,ws=[Wr,nm,dg,kU (xY st),hh]:=⟨_,rfl⟩
    rw[←hwsE]at hO3n;have hwsl:ws.length=5:=by rw[hwsE];rfl
    have hws:(dX ws Gy).size≤5 * (1000+1):=by
     rw[hwsE];refine kH _ _ 1000 fun x hx=>?_
     have h1:=Z3 st;simp only[List.mem_cons,List.not_mem_nil,or_false]at hx;rcases hx with rfl|rfl|rfl|rfl|rfl
     ·decide
     ·exact hnml
     ·omega
     ·rw[fS];omega
     ·exact hhl
    obtain⟨o3,ho3⟩:∃o,o=O3 j:=⟨_,rfl⟩
    rw[←ho3]at hO3n hO3j⊢;clear ho3;cbv;repeat'((first|refine .e ?_|refine .n fun h=>?_|refine .y fun h=>?_|refine .mk (fun h=>?_) fun h=>?_|refine .o ?_|fail)<;>cbv)
    all_goals first|(exfalso;obtain⟨hq1,hq2⟩:=hs3;((try simp only[vn]at *)<;>omega))|skip
    all_goals
     (refine ZO F.it (nI j:Int) ⟨by exact bQ,by exact bQ⟩ ?_;try dsimp only)
     rw[←hdg];cbv;repeat'((first|refine And.intro ?_ ?_|fail)<;>cbv)
    all_goals first
    |exact F.ml
    |skip
    all_goals
     first|(obtain rfl:=‹st=Int.ofNat _›)|(obtain rfl:st=Int.ofNat 0:=by(obtain⟨hz1,hz2⟩:=hs3;((try simp only[vn]at *)<;>omega)))
     rcases hSLc o3 with hs4|hs4
    all_goals
     rw[hs4];refine eP 13 rfl ?_;cbv;refine oA F.li ((o3,ws):bH×List bH) 8 11 ⟨by dsimp only;omega,by dsimp only;omega⟩ (by subst hwsE;rfl) rfl (by decide) rfl (by rw[←hSLe,hs4];rfl) (by subst hBY;rfl) rfl ?_
     try dsimp only
     rw[←hO3n,←hSL,←hBY];cbv;repeat'((first|refine .k fun z hz=>?_|fail)<;>cbv)
     obtain rfl:z=nI (j+1):=bQ;exact bN ⟨j+1,hj3⟩ (bO (by omega)) (hbH:=(by show fG 12 _=true;simp only[fG,qH,AV.bndL,hSLb];rfl))
  have hk29:k2=nw:=by omega
  rw[hk29];obtain⟨oE,hoE⟩:∃o,o=O2 nw:=⟨_,rfl⟩
  have hoEl:=hO2l nw;rw[←hoE]at hO2n hoEl⊢;obtain⟨X,hX⟩:∃X,X=dN (cust.map cV.box):=⟨_,rfl⟩
  have hXl:X.length≤4096:=by rw[hX,kE,aJ];exact hcu.few
  obtain⟨xF,hxF⟩:∃f,f=F4 cust:=⟨_,rfl⟩
  have hXat:∀b,b∈X→∃h:eJ,G7 cust b=(h.to,h.place,true)∧b.size≤16∧h.to.size≤16∧h.place.size≤16∧dX [Uo,b,h.to,h.place] Gy++LS=kU (xF b):=fun b hb=>by
   rw[hX]at hb;rw[hxF];exact SK hcu hb
  obtain⟨O4,hO4⟩:∃f:Nat→bH,f=fun k=>oE++kU ((X.take k).flatMap xF):=⟨_,rfl⟩
  have hO40:O4 0=oE:=by rw[hO4];apply iY;rw[fV];simp[eL]
  have hO4s:∀k nm,X[k]?=some nm→O4 (k+1)=O4 k++kU (xF nm):=fun k nm hx=>by
   rw[hO4];apply iY;dsimp only;rw[dO hx,fV,fV,fV,eL,eL,eL,List.flatMap_append,bG];simp
  have hO4l:∀k,(O4 k).size≤3000000:=fun k=>by
   rw[hO4];dsimp only;rw[ByteArray.size_append,fS];have:=rV (W:=X.take k) (f:=xF) (c:=100) fun nm hx=>by
    obtain⟨h,-,h1,h2,h3,h4⟩:=hXat nm (List.mem_of_mem_take hx);have h5:=congrArg ByteArray.size h4;rw[fS]at h5;rw[←h5,ByteArray.size_append];have h6:=kH [Uo,nm,h.to,h.place] Gy 16 fun x hx=>by
     simp only[List.mem_cons,List.not_mem_nil,or_false]at hx;rcases hx with rfl|rfl|rfl|rfl
     ·decide
     ·exact h1
     ·exact h2
     ·exact h3
    have h7:Gy.size=1:=rfl;have h8:LS.size=1:=rfl;have h9:[Uo,nm,h.to,h.place].length=4:=rfl;rw[h9,h7]at h6;omega
   rw[aS]at this;omega
  obtain⟨nx,hnx⟩:∃n:Nat,n=X.length:=⟨_,rfl⟩
  have hO4n:O4 nx=kU (eQ ⟨name,parties,deals,⟨rc,rL⟩,cust,deliv⟩):=by
   rw[hO4,hO2n,hnx,hxF,hX,hWb,hbF,hdF2,hW];apply iY;dsimp only;rw[fV,eL,eL,eL,List.take_length,bG];rfl
  rw[←hO4n]at hK;clear hO4 hO4n;rcases hSLc oE with hs5|hs5
  all_goals
   rw[hs5];cbv;repeat'((first|refine .n fun h=>?_|fail)<;>cbv)
   (refine eW F.bo cust [5,6] hcu ?_;try dsimp only)
   rw[←hX];cbv;repeat'((first|refine .k fun z hz=>?_|fail)<;>cbv)
   refine bU [] (fun p:{ k:Nat // k≤X.length }=>[(104,.i (nI p.1))]) (fun p=>[.blk 118 [.str name,.hd 1,.ph 2,.ptr 3 0,.ptr 5 0,.hd 7],.map 70 (bJ iK parties),.pool 116 (bJ gM deals) [],.blk 122 [.str rc,.ph 4],.pool 120 (bJ fM rL) [],.blk 174 [.ph 6],.pool 172 (bJ gE cust) [],.tip 77 5 (bJ dP deliv),.blk 148 [SL (O4 p.1),.hd 11],.blk 116 [.ph 2],.tip 9 1 (bJ .str W),.row 5 1 (BY (O4 p.1))]) (fun p=>fO nx p.1) ⟨0,aI _⟩ ?_ (hH:=(by dsimp only;rw[hO40,hs5];rfl)) (hbH:=(by show fG 12 _=true;simp only[fG,qH,AV.bndL,hSLb];rfl));rintro ⟨k4,hk4⟩;dsimp only at hk4⊢;rcases aL k4 X.length with hks4|hks4
   ·obtain⟨b,hx⟩:=cJ hks4;obtain⟨h9,hnow,hb1,hb2,hb3,hln⟩:=hXat b (aC hx);have hOn4:=hO4s k4 b hx;have hol4:=hO4l k4;rw[←hln]at hOn4;obtain⟨ws,hwsE⟩:∃ws,ws=[Uo,b,h9.to,h9.place]:=⟨_,rfl⟩
    rw[←hwsE]at hOn4;have hwsl:ws.length=4:=by rw[hwsE];rfl
    have hws:(dX ws Gy).size≤4 * (16+1):=by
     rw[hwsE];refine kH _ _ 16 fun x hx=>?_
     simp only[List.mem_cons,List.not_mem_nil,or_false]at hx;rcases hx with rfl|rfl|rfl|rfl
     ·decide
     ·exact hb1
     ·exact hb2
     ·exact hb3
    obtain⟨hbox,hfrm,hto,hplace,hday⟩:=h9;dsimp only at hnow hwsE;obtain⟨o5,ho5⟩:∃o,o=O4 k4:=⟨_,rfl⟩
    rw[←ho5]at hOn4 hol4⊢;clear ho5 hXat hO4s hO4l;rcases hSLc o5 with hs6|hs6
    all_goals
     rw[hs6];cbv;repeat'((first|refine .e ?_|refine .y fun h=>?_|fail)<;>cbv)
     (refine eW F.no ((cust,b):List cV×bH) [5,6] hcu ?_;try dsimp only)
     rw[hnow];cbv;repeat'((first|refine And.intro ?_ ?_|fail)<;>cbv)
     ·exact F.ml
     refine eP 12 rfl ?_;cbv;refine oA F.li ((o5,ws):bH×List bH) 8 11 ⟨by dsimp only;omega,by dsimp only;omega⟩ (by subst hwsE;rfl) rfl (by decide) rfl (by rw[←hSLe,hs6];rfl) (by subst hBY;rfl) rfl ?_
     try dsimp only
     rw[←hOn4,←hSL,←hBY];cbv;repeat'((first|refine .k fun z hz=>?_|fail)<;>cbv)
     obtain rfl:z=nI (k4+1):=bQ;exact bN ⟨k4+1,hks4⟩ (bO (by omega)) (hbH:=(by show fG 12 _=true;simp only[fG,qH,AV.bndL,hSLb];rfl))
   have hk49:k4=nx:=by omega
   rw[hk49];obtain⟨o6,ho6⟩:∃o,o=O4 nx:=⟨_,rfl⟩
   rw[←ho6]at hK⊢;cbv;repeat'((first|refine .n fun h=>?_|fail)<;>cbv)
   refine tH F.st ((o6,yV o6):bH×AV) [8,11] trivial rfl rfl (by decide) rfl (by subst hSL hBY;exact(congrArg (List.map some) (Ds 8 11 _ o6)).symm) rfl (IP o6) rfl ?_
   try dsimp only
   cbv
   (refine .q9 ?_;cbv;exact .inl (.f9 hK))
set_option maxHeartbeats 4000000
theorem kF {α:Type}{L:List α}{i:Nat}{x:α}(h:L[i]?=some x):L.set i x=L:=by
 obtain⟨hl,rfl⟩:=aA.1 h;exact List.set_getElem_self hl
section
variable {s:Su}{C:Cr}{x:Cs}{d:Dp}{i:Nat}{l:dE}{day:Int}{L0:List cV}
def FF (C:Cr) (i:Nat) (d:Dp) (l:dE) (day:Int) (L0:List cV):Prop:=∃L1,L1.Perm C.cust∧qD fL { C with cust:=L1 } d l day=({ (gD ⟨C,i,d,l,day⟩ L0).2.1 with deals:=C.deals.set i (gD ⟨C,i,d,l,day⟩ L0).2.2.1 },(gD ⟨C,i,d,l,day⟩ L0).2.2.2)
theorem Vd (h:eZ s C x) (hd:gS Dp.number C.deals l.deal=some d):∃e st fr,d=cL e st fr:=by
 cases hi:dD s C.name l.deal with
 |none=>rw[h.no _ hi]at hd;cases hd
 |some j=>
  obtain⟨e,st,fr,-,-,-,-,h5⟩:=h.at hi;rw[h5]at hd;cases hd;exact⟨e,st,fr,rfl⟩
theorem Ic (h:eZ s C x) (ha:lI Dp.number C.deals l.deal=some i) (hd:C.deals[i]?=some d) (hp:L0.Perm C.cust) (hk:l.kind=4):FF C i d l day L0:=by
 have hlk:=mF ha hd;obtain⟨e,st,fr,rfl⟩:=Vd h hlk;have hnum:(cL e st fr).number=l.deal:=(iZ hlk).2;have hX:gD ⟨C,i,cL e st fr,l,day⟩ L0=oK ⟨C,i,cL e st fr,l,day⟩ L0:=aF hk;have hP:∀M,qD fL { C with cust:=M } (cL e st fr) l day=(sI { C with cust:=M } (cL e st fr) l day,[]):=fun M=>aF hk
 unfold FF;rw[hX];by_cases h1:l.frm≠(cL e st fr).seller∨(cL e st fr).state≠0
 ·refine⟨C.cust,.refl _,?_⟩;rw[hP];have g1:oK ⟨C,i,cL e st fr,l,day⟩ L0=(false,C,cL e st fr,[]):=aF h1;have g2:sI { C with cust:=C.cust } (cL e st fr) l day=C:=aF h1;rw[g1,g2,kF hd]
 ·have g1:oK ⟨C,i,cL e st fr,l,day⟩ L0=match fF C.name (cL e st fr) day L0 (cL e st fr).boxes with
   |none=>(false,C,cL e st fr,[])
   |some L=>(true,{ C with cust:=L },sB 1 (cL e st fr),[]):=aE h1
  have g2:∀M,sI { C with cust:=M } (cL e st fr) l day=match fF C.name (cL e st fr) day M (cL e st fr).boxes with
   |none=>{ C with cust:=M }
   |some L=>Z0 { { C with cust:=M } with cust:=L } (cL e st fr).number (sB 1):=fun M=>aE h1
  rw[g1];rcases zY C.name e st fr day (cL e st fr).boxes L0 x.H (h.cust.perm hp.symm)with ⟨k1,k2⟩|⟨L',H',k1,k2,k3⟩
  ·refine⟨C.cust,.refl _,?_⟩;rw[hP,g2,k1];rcases zY C.name e st fr day (cL e st fr).boxes C.cust x.H h.cust with ⟨k3,k4⟩|⟨L',H',k3,k4,k5⟩
   ·rw[k3];dsimp only;rw[kF hd]
   ·rw[k2]at k4;cases k4
  ·refine⟨L0,hp,?_⟩;rw[hP,g2,k1];dsimp only;unfold Z0;dsimp only;rw[hnum,nY h.nd (sB 1) ha hd]
theorem K4 (h:eZ s C x) (ha:lI Dp.number C.deals l.deal=some i) (hd:C.deals[i]?=some d) (hp:L0.Perm C.cust) (hk:l.kind=20):FF C i d l day L0:=by
 have hlk:=mF ha hd;have hnum:d.number=l.deal:=(iZ hlk).2;have hX:gD ⟨C,i,d,l,day⟩ L0=pV ⟨C,i,d,l,day⟩ L0:=by
  unfold gD;dsimp only;rw[aE (by omega),aE (by omega),aF hk]
 have hP:∀M,qD fL { C with cust:=M } d l day=DF fL { C with cust:=M } d l day:=fun M=>by
  unfold qD;rw[aE (by omega),aE (by omega),aF hk]
 unfold FF;rw[hX];by_cases h1:d.state≠3∨d.rel=false
 ·refine⟨C.cust,.refl _,?_⟩;rw[hP];have g1:pV ⟨C,i,d,l,day⟩ L0=(false,C,d,eV fL l):=aF h1;have g2:DF fL { C with cust:=C.cust } d l day=(C,eV fL l):=aF h1;rw[g1,g2,kF hd]
 ·have g1:pV ⟨C,i,d,l,day⟩ L0=match eR (cS C.name l.frm d.to day) L0 d.boxes with
   |none=>(false,C,d,eV fL l)
   |some L=>if jL C.reg (cI 2 d l day)≠0 then (false,C,d,eV fL l) else (true,{ C with cust:=L,deliv:=C.deliv++d.boxes.map (cS C.name l.frm d.to day),reg:=vS C.reg (cI 2 d l day) },sB 4 d,[{ nJ with to:=l.frm,kind:=21,boxes:=d.boxes }]):=aE h1
  have g2:∀M,DF fL { C with cust:=M } d l day=match eR (cS C.name l.frm d.to day) M d.boxes with
   |none=>({ C with cust:=M },eV fL l)
   |some L=>if jL C.reg (cI 2 d l day)≠0 then ({ C with cust:=M },eV fL l) else
    (Z0 { C with cust:=L,deliv:=C.deliv++d.boxes.map (cS C.name l.frm d.to day),reg:=vS C.reg (cI 2 d l day) } d.number (sB 4),[{ nJ with to:=l.frm,kind:=21,boxes:=d.boxes }]):=fun M=>aE h1
  rw[g1];rcases qI (cS C.name l.frm d.to day) d.boxes L0 x.H (h.cust.perm hp.symm)with ⟨k1,k2⟩|⟨L',k1,k2,k3⟩
  ·refine⟨C.cust,.refl _,?_⟩;rw[hP,g2,k1];rcases qI (cS C.name l.frm d.to day) d.boxes C.cust x.H h.cust with ⟨k3,k4⟩|⟨L',k3,k4,k5⟩
   ·rw[k3];dsimp only;rw[kF hd]
   ·rw[k2]at k4;cases k4
  ·by_cases h2:jL C.reg (cI 2 d l day)≠0
   ·refine⟨C.cust,.refl _,?_⟩;rw[hP,g2,k1];dsimp only;rw[aF h2];rcases qI (cS C.name l.frm d.to day) d.boxes C.cust x.H h.cust with ⟨k4,k5⟩|⟨L'',k4,k5,k6⟩
    ·rw[k2]at k5;cases k5
    ·rw[k4];dsimp only;rw[aF h2,kF hd]
   ·refine⟨L0,hp,?_⟩;rw[hP,g2,k1];dsimp only;rw[aE h2,aE h2];unfold Z0;dsimp only;rw[hnum,nY h.nd (sB 4) ha hd]
theorem KH (h:eZ s C x) (ha:lI Dp.number C.deals l.deal=some i) (hd:C.deals[i]?=some d) (hp:L0.Perm C.cust):FF C i d l day L0:=by
 by_cases k1:l.kind=4
 ·exact Ic h ha hd hp k1
 by_cases k3:l.kind=20
 ·exact K4 h ha hd hp k3
 have hlk:=mF ha hd;have hnum:d.number=l.deal:=(iZ hlk).2;refine⟨C.cust,.refl _,?_⟩;show qD fL C d l day=_;unfold gD qD;dsimp only;rw[aE k1,aE k1];by_cases k2:l.kind=8
 ·rw[aF k2,aF k2];by_cases h2:kC C.parties l.party=false∨l.party=l.frm∨jL C.reg (cI 1 d l day)≠0
  ·rw[AJ h2];have:yQ fL C d l day=(C,eV fL l):=aF h2;rw[this,kF hd]
  ·have g1:yQ fL C d l day=({ C with reg:=vS C.reg (cI 1 d l day) },[{ nJ with to:=l.party,kind:=9,index:=l.index,party:=l.party }]):=aE h2;unfold nB;dsimp only;rw[g1,kF hd]
 rw[aE k2,aE k2,aE k3,aE k3];by_cases k4:l.kind=19
 ·rw[aF k4,aF k4];unfold BW FG;dsimp only;by_cases h2:d.house≠eS∧l.frm=d.house
  ·rw[aF h2,aF h2];unfold Z0;rw[hnum,nY h.nd Mq ha hd]
  ·rw[aE h2,aE h2,kF hd]
 rw[aE k4,aE k4];by_cases k5:l.kind=23
 ·rw[aF k5,aF k5];by_cases h2:jL C.reg (cI 3 d l day)=0
  ·rw[vX h2];have g1:rH fL C d l day=({ C with reg:=vS C.reg (cI 3 d l day) },[]):=aE (fun h=>h h2);rw[g1,kF hd]
  ·rw[Bq h2];have g1:rH fL C d l day=(C,eV fL l):=aF h2;rw[g1,kF hd]
 rw[aE k5,aE k5];by_cases k6:l.kind=24
 ·rw[aF k6,aF k6];by_cases h2:jL C.reg (cI 4 d l day)=0
  ·rw[xB h2];have g1:qU fL C d l day=({ C with reg:=vS C.reg (cI 4 d l day) },[{ nJ with to:=l.frm,kind:=25,index:=l.index }]):=aE (fun h=>h h2);rw[g1,kF hd]
  ·rw[AN h2];have g1:qU fL C d l day=(C,eV fL l):=aF h2;rw[g1,kF hd]
 rw[aE k6,aE k6,kF hd]
theorem B0 (h:eZ s C x) (l:dE) (day:Int) (hp:L0.Perm C.cust):∃L1,L1.Perm C.cust∧(gG C l day L0).2=mB fL { C with cust:=L1 } l day:=by
 cases ha:lI Dp.number C.deals l.deal with
 |none=>
  refine⟨C.cust,.refl _,?_⟩;rw[oZ ha];unfold mB;dsimp only;rw[sV ha]
 |some i=>
  obtain⟨d,hd,hdn⟩:=eB ha;have hlk:=mF ha hd;by_cases hin:kC C.parties l.frm=false
  ·refine⟨C.cust,.refl _,?_⟩;rw[rP hin];unfold mB;dsimp only;rw[hlk];dsimp only;rw[aF hin]
  ·obtain⟨L1,hp1,he⟩:=KH (day:=day) h ha hd hp;refine⟨L1,hp1,?_⟩;unfold gG mB;dsimp only;rw[ha,hlk];dsimp only;rw[hd];dsimp only;rw[aE hin,aE hin,he]
end
set_option maxHeartbeats 8000000
structure DQ where
 C:Cr
 s:gZ
 name:bH
 x:Cs
 o:iB
structure YC (q:DQ):Prop where
 c:UP ⟨q.C,q.o.a.kind,q.o.a.n,q.o.a.deal,q.o.day⟩
 a:Rc ⟨q.s,q.name,q.x,q.o.a,q.o.day⟩
 eq:(lE eU q.C q.o.a.kind q.o.a.deal q.o.day).2=(kJ eU q.s.su q.name q.x q.o.a.kind q.o.a.deal q.o.day).2
 ok:(kJ eU q.s.su q.name q.x q.o.a.kind q.o.a.deal q.o.day).2.1.length≤1000∧∀l∈(kJ eU q.s.su q.name q.x q.o.a.kind q.o.a.deal q.o.day).2.1,uA l
structure Yu (q:DQ):Prop where
 c:Tn ⟨q.C,q.o.l,q.o.day⟩
 t:Rn ⟨q.s,q.name,q.x,q.o.l,q.o.day⟩
 eq:∀L0:List cV,L0.Perm q.C.cust→(gG q.C q.o.l q.o.day L0).2.2=(eX fL q.s.su q.name q.x q.o.l q.o.day).2
 ok:(eX fL q.s.su q.name q.x q.o.l q.o.day).2.length≤1000∧∀l∈(eX fL q.s.su q.name q.x q.o.l q.o.day).2,uA l
def tT (q:DQ):List AV:=[.ptr 0 0,F5 q.s,.str q.name,Fn q.x,mG q.o]
def Vf:dL:=spec tT (fun q=>yY q.C) (fun q=>q.o.kind=0∧YC q) (fun q=>.tup [Fn (kJ eU q.s.su q.name q.x q.o.a.kind q.o.a.deal q.o.day).1,.bl true]) fun q=>yY (lE eU q.C q.o.a.kind q.o.a.deal q.o.day).1
def Ut:dL:=sP tT (fun q=>yY q.C) (fun q=>q.o.kind=1∧Yu q) (fun q (L0:List cV)=>L0.Perm q.C.cust) (fun q _=>.tup [Fn (eX fL q.s.su q.name q.x q.o.l q.o.day).1,.bl true]) fun q L0=>ON (gG q.C q.o.l q.o.day L0).1 (gG q.C q.o.l q.o.day L0).2.1 q.C.cust
def Vh:dL:=spec tT (fun q=>yY q.C) (fun q=>¬q.o.kind=0∧¬q.o.kind=1) (fun q=>.tup [Fn q.x,.bl true]) fun q=>yY q.C
theorem Sg (P:bI) (hac:bK P 23 (uQ fun _=>True)) (hra:bK P 65 (Tz fun _=>True)) (hal:bK P 66 MB):bM P Wu Vf:=by
 intro args H0 K hc;obtain⟨⟨C,s,name,x,⟨okind,day,⟨ak,an,adeal⟩,l⟩⟩,rfl,rfl,⟨hk,hcq,haq,heq,hok⟩,hK⟩:=hc;refine⟨cK,?_⟩;dsimp only at hk hcq haq heq hok hK⊢;subst hk;obtain⟨r1,hr1⟩:∃r,r=lE eU C ak adeal day:=⟨_,rfl⟩
 obtain⟨r2,hr2⟩:∃r,r=kJ eU s.su name x ak adeal day:=⟨_,rfl⟩
 rw[←hr1,←hr2]at heq;rw[←hr2]at hok hK;rw[←hr1]at hK;obtain⟨⟨name1,parties1,deals1,⟨rc1,rL1⟩,cust1,deliv1⟩,l1,e1⟩:=r1;obtain⟨⟨S2,free2,⟨c2,L2⟩,H2,D2⟩,l2,e2⟩:=r2;dsimp only at heq hok hK;cases heq;obtain⟨cname,cparties,cdeals,⟨rc,rL⟩,cust,deliv⟩:=C;obtain⟨parties,deals,funds,rest,holidays⟩:=s;obtain⟨S,free,⟨c,L⟩,H,D⟩:=x;obtain⟨frm,to,number,lkind,ack,ldeal,text,party,index,day0,cur,amt,docs,boxes⟩:=l;unfold tT;dsimp only;cbv;repeat'((first|refine .y fun h=>?_|fail)<;>cbv)
 (refine eW hac (⟨⟨cname,cparties,cdeals,⟨rc,rL⟩,cust,deliv⟩,ak,an,adeal,day⟩:CQ) [0,1,2,3,4,5,6,7] ⟨trivial,hcq⟩ ?_;try dsimp only)
 rw[←hr1];cbv
 (refine ZO hra (⟨⟨parties,deals,funds,rest,holidays⟩,name,⟨S,free,⟨c,L⟩,H,D⟩,⟨ak,an,adeal⟩,day⟩:Sq) ⟨trivial,haq⟩ ?_;try dsimp only)
 rw[←hr2];cbv;repeat'((first|refine .y fun h=>?_|fail)<;>cbv)
 (refine ZO hal l1 hok ?_;try dsimp only)
 cbv
 (refine .q9 ?_;cbv;exact .inl (.g9 hK))
theorem QM (P:bI) (hti:bK P 24 vY):bM P Wu Vh:=by
 intro args H0 K hc;obtain⟨⟨C,s,name,x,⟨okind,day,⟨ak,an,adeal⟩,l⟩⟩,rfl,rfl,⟨hk0,hk1⟩,hK⟩:=hc;refine⟨cK,?_⟩;dsimp only at hk0 hk1 hK⊢;obtain⟨cname,cparties,cdeals,⟨rc,rL⟩,cust,deliv⟩:=C;obtain⟨parties,deals,funds,rest,holidays⟩:=s;obtain⟨S,free,⟨c,L⟩,H,D⟩:=x;obtain⟨frm,to,number,lkind,ack,ldeal,text,party,index,day0,cur,amt,docs,boxes⟩:=l;unfold tT;dsimp only;cbv;repeat'((first|refine .n fun h=>?_|fail)<;>cbv)
 all_goals
  (refine eW hti ((⟨cname,cparties,cdeals,⟨rc,rL⟩,cust,deliv⟩,day):Cr×Int) [0,1,2,3,4,5,6,7] trivial ?_;try dsimp only)
  cbv;repeat'((first|refine .y fun h=>?_|fail)<;>cbv)
  (refine .q9 ?_;cbv;exact .inl (.g9 hK))
theorem Pw (P:bI) (hta:bK P 18 (nP fun _=>True)) (hrt:bK P 67 (N1 fun _=>True)) (hal:bK P 66 MB):bM P Wu Ut:=by
 intro args H0 K hc;obtain⟨⟨C,s,name,x,⟨okind,day,⟨ak,an,adeal⟩,l⟩⟩,rfl,rfl,⟨hk,hcq,htq,heq,hok⟩,hK⟩:=hc;refine⟨cK,?_⟩;dsimp only at hk hcq htq heq hok hK⊢;subst hk;obtain⟨r2,hr2⟩:∃r,r=eX fL s.su name x l day:=⟨_,rfl⟩
 rw[←hr2]at hok hK heq;obtain⟨⟨S2,free2,⟨c2,L2⟩,H2,D2⟩,l2⟩:=r2;dsimp only at heq hok;obtain⟨cname,cparties,cdeals,⟨rc,rL⟩,cust,deliv⟩:=C;obtain⟨parties,deals,funds,rest,holidays⟩:=s;obtain⟨S,free,⟨c,L⟩,H,D⟩:=x;obtain⟨frm,to,number,lkind,ack,ldeal,text,party,index,day0,cur,amt,docs,boxes⟩:=l;unfold tT;dsimp only;cbv;repeat'((first|refine .n fun h=>?_|refine .y fun h=>?_|fail)<;>cbv)
 refine cW hta (⟨⟨cname,cparties,cdeals,⟨rc,rL⟩,cust,deliv⟩,⟨frm,to,number,lkind,ack,ldeal,text,party,index,day0,cur,amt,docs,boxes⟩,day⟩:TQ) [0,1,2,3,4,5,6,7] ⟨trivial,hcq⟩ rfl rfl (by decide) rfl rfl rfl rfl rfl ?_;intro L0 hp0;have hK:=hK L0 hp0;have heq:=heq L0 hp0;obtain⟨r1,hr1⟩:∃r,r=gG ⟨cname,cparties,cdeals,⟨rc,rL⟩,cust,deliv⟩ ⟨frm,to,number,lkind,ack,ldeal,text,party,index,day0,cur,amt,docs,boxes⟩ day L0:=⟨_,rfl⟩
 rw[←hr1]at hK heq
 try dsimp only
 rw[←hr1];obtain⟨mv,⟨name1,parties1,deals1,⟨rc1,rL1⟩,cust1,deliv1⟩,l1⟩:=r1
 try dsimp only at hK heq
 subst heq;clear hr1;cases mv with
 |false=>
  cbv
  (refine ZO hrt (⟨⟨parties,deals,funds,rest,holidays⟩,name,⟨S,free,⟨c,L⟩,H,D⟩,⟨frm,to,number,lkind,ack,ldeal,text,party,index,day0,cur,amt,docs,boxes⟩,day⟩:Qe) ⟨trivial,htq⟩ ?_;try dsimp only)
  rw[←hr2];cbv
  (refine ZO hal l1 hok ?_;try dsimp only)
  cbv
  (refine .q9 ?_;cbv;exact .inl (.g9 hK))
 |true=>
  cbv
  (refine ZO hrt (⟨⟨parties,deals,funds,rest,holidays⟩,name,⟨S,free,⟨c,L⟩,H,D⟩,⟨frm,to,number,lkind,ack,ldeal,text,party,index,day0,cur,amt,docs,boxes⟩,day⟩:Qe) ⟨trivial,htq⟩ ?_;try dsimp only)
  rw[←hr2];cbv
  (refine ZO hal l1 hok ?_;try dsimp only)
  cbv
  (refine .q9 ?_;cbv;exact .inl (eY.sel [0,1,2,3,4,5,6,7,12,13] _ _ (by rfl) (by rfl) (by decide) (by rfl) cK (by rfl) (by rfl) (Le.refl _) (kD.refl _) hK))
set_option maxHeartbeats 4000000
structure XB (k:Nat) (s:gZ) (x:Cs):Prop where
 S:x.S.length=s.deals.length
 F:x.free.length=s.deals.length
 st:∀z∈x.S,0≤z∧z≤4
 inv:Cd k x.reg
 H:x.H.length≤140 * k
 D:x.D.length≤70 * k
theorem pH {L:List Int}{i:Nat}{y z:Int}(h:z∈L.set i y):z∈L∨z=y:=by
 rcases List.mem_or_eq_of_mem_set h with h|h
 ·exact .inl h
 ·exact .inr h
theorem B2 {name:bH}{d:De}{day:Int}:∀{bs:List bH}{H H':List eJ},lA name d day H bs=some H'→H'.length=H.length+2 * bs.length
 |[],H,H',h=>by cases h;simp
 |b :: r,H,H',h=>by
  have g:lA name d day H (b :: r)=if wI H (cS eS d.seller d.frm day b)≠0 then none else if iG (H++[cS eS d.seller d.frm day b]) (cS d.seller name d.frm day b)≠0 then none else lA name d day (H++[cS eS d.seller d.frm day b]++[cS d.seller name d.frm day b]) r:=rfl
  rw[g]at h
  split at h
  ·cases h
  split at h
  ·cases h
  have:=B2 h;simp only[aM,List.length_cons,List.length_nil]at this⊢;omega
theorem Aw {f:bH→eJ}:∀{bs:List bH}{H H':List eJ},iJ f H bs=some H'→H'.length=H.length+bs.length
 |[],H,H',h=>by cases h;simp
 |b :: r,H,H',h=>by
  have g:iJ f H (b :: r)=if iG H (f b)≠0 then none else iJ f (H++[f b]) r:=rfl
  rw[g]at h
  split at h
  ·cases h
  have:=Aw h;simp only[aM,List.length_cons,List.length_nil]at this⊢;omega
section
variable {k:Nat}{s:gZ}{x:Cs}{name:bH}{l:dE}{day:Int}
theorem XB.succ (h:XB k s x):XB (k+1) s x:=⟨h.S,h.F,h.st,h.inv.mono (Nat.le_succ k),by have:=h.H;omega,by have:=h.D;omega⟩
theorem XB.reg (h:XB k s x) {R:Rg}(hR:Cd (k+1) R):XB (k+1) s { x with reg:=R }:=⟨h.S,h.F,h.st,hR,by have:=h.H;show x.H.length≤_;omega,by have:=h.D;show x.D.length≤_;omega⟩
theorem Fl {i:Nat}{d:De}(hs:nZ s) (hd:s.su.deals[i]?=some d):d.boxes.length≤70:=by
 have hd:(s.deals.map jM.de)[i]?=some d:=hd;rw[aD]at hd;cases he:s.deals[i]? with
 |none=>rw[he]at hd;cases hd
 |some e=>
  rw[he]at hd;cases hd;have:=(hs.ok e (aC he)).bx;show (e.boxes.map IR.mark).length≤70;rw[aJ];exact this
theorem TP:yS cI.noBl:=⟨aI _,aI _⟩
theorem XB.take (h:XB k s x) (hs:nZ s) (nm:Int→bH):XB (k+1) s (eX nm s.su name x l day).1:=by
 unfold eX
 split
 ·exact h.succ
 rename_i i hi
 split
 ·exact h.succ
 split
 rotate_left
 ·exact h.succ
 rename_i d st fr hd hst hfr;have hbx:=Fl hs hd
 split
 ·split
  ·split
   ·exact h.succ
   ·rename_i H hH;have:=B2 hH;have hx:=h.H;refine⟨?_,h.F,fun z hz=>?_,h.inv.mono (Nat.le_succ k),?_,?_⟩
    ·show (x.S.set i 1).length=_;rw[bA];exact h.S
    ·rcases pH (show z∈x.S.set i 1 from hz)with hz|hz
     ·exact h.st z hz
     ·omega
    ·show H.length≤_;omega
    ·have:=h.D;show x.D.length≤_;omega
  ·exact h.succ
 split
 ·split
  ·refine⟨h.S,?_,h.st,h.inv.mono (Nat.le_succ k),?_,?_⟩
   ·show (x.free.set i true).length=_;rw[bA];exact h.F
   ·have:=h.H;show x.H.length≤_;omega
   ·have:=h.D;show x.D.length≤_;omega
  ·exact h.succ
 split
 rotate_left
 ·exact h.succ
 rename_i hk4 hk19 hkk;dsimp only;have hdo:∀k9:Int,0≤k9∧k9≤5→Cd (k+1) (kI x.reg (fA k9 d l day)).1:=fun k9 hk9=>OC h.inv hk9 TP
 have hk9:0≤(if l.kind=8 then (1:Int) else if l.kind=20 then 2 else if l.kind=23 then 3 else 4)∧(if l.kind=8 then (1:Int) else if l.kind=20 then 2 else if l.kind=23 then 3 else 4)≤5:=by
  repeat' split
  all_goals decide
 obtain⟨k9,hke⟩:∃k9:Int,k9=(if l.kind=8 then (1:Int) else if l.kind=20 then 2 else if l.kind=23 then 3 else 4):=⟨_,rfl⟩
 rw[←hke]at hk9⊢;clear hke
 split
 ·exact h.succ
 split
 ·split
  ·exact h.succ
  ·rename_i H hH
   split
   ·exact h.succ
   ·have h1:=Aw hH;have hx:=h.H;have hy:=h.D;refine⟨?_,h.F,fun z hz=>?_,hdo _ hk9,?_,?_⟩
    ·show (x.S.set i 4).length=_;rw[bA];exact h.S
    ·rcases pH (show z∈x.S.set i 4 from hz)with hz|hz
     ·exact h.st z hz
     ·omega
    ·show H.length≤_;omega
    ·show (x.D++H.drop x.H.length).length≤_;rw[aM,List.length_drop];omega
 ·exact h.reg (hdo _ hk9)
theorem XB.car (h:XB k s x) (hs:nZ s) (kind:Int) (deal:bH):XB (k+1) s (kJ eU s.su name x kind deal day).1:=by
 unfold kJ
 split
 ·exact h.succ
 split
 ·exact h.succ
 rename_i i hi
 split
 rotate_left
 ·exact h.succ
 rename_i d st hd hst;have hbx:=Fl hs hd
 split
 ·split
  ·exact h.succ
  ·refine⟨?_,h.F,fun z hz=>?_,h.inv.mono (Nat.le_succ k),?_,?_⟩
   ·show (x.S.set i 3).length=_;rw[bA];exact h.S
   ·rcases pH (show z∈x.S.set i 3 from hz)with hz|hz
    ·exact h.st z hz
    ·omega
   ·have:=h.H;show x.H.length≤_;omega
   ·have:=h.D;show x.D.length≤_;omega
 split
 ·exact h.succ
 dsimp only
 split
 ·exact h.succ
 ·refine⟨?_,h.F,fun z hz=>?_,(Et h.inv ⟨by show d.boxes.length≤5000;omega,aI _⟩).mono (Nat.le_succ k),?_,?_⟩
  ·show (x.S.set i 2).length=_;rw[bA];exact h.S
  ·rcases pH (show z∈x.S.set i 2 from hz)with hz|hz
   ·exact h.st z hz
   ·omega
  ·have:=h.H;show x.H.length≤_;omega
  ·have:=h.D;show x.D.length≤_;omega
theorem XB.new (s:gZ) (name:bH):XB 0 s (BM s.su name):=by
 refine⟨?_,?_,fun z hz=>?_,II 0 name,aN _,aN _⟩
 ·show ((s.deals.map jM.de).map fun _=>(0:Int)).length=_;rw[aJ,aJ]
 ·show ((s.deals.map jM.de).map fun d=>decide (d.house=eS)).length=_;rw[aJ,aJ]
 ·obtain⟨d,_,rfl⟩:=aX.1 (show z∈(s.deals.map jM.de).map fun _=>(0:Int) from hz);decide
theorem XB.csOk (h:XB k s x) (hk:k≤100):Ug s x:=⟨h.S,h.F,by have:=h.H;omega,by have:=h.D;omega,h.inv.few,h.inv.inB (by omega)⟩
end
structure PB (C:Cr):Prop where
 cu:jW C.cust
 dz:∀d∈C.deals,d.number.size≤300∧d.boxes.length≤70∧∀b∈d.boxes,b.size≤60
theorem CD {name:bH}{d:Dp}{day:Int}:∀{bs:List bH}{L L':List cV},jW L→fF name d day L bs=some L'→jW L'
 |[],L,L',hc,h=>by cases h;exact hc
 |b :: r,L,L',hc,h=>by
  have g:fF name d day L (b :: r)=if sF L (cS eS d.seller d.frm day b)≠0 then none else if iF (L++[⟨b,[cS eS d.seller d.frm day b]⟩]) (cS d.seller name d.frm day b)≠0 then none else fF name d day (iU cV.box (L++[⟨b,[cS eS d.seller d.frm day b]⟩]) b (iC (cS d.seller name d.frm day b))) r:=rfl
  rw[g]at h
  split at h
  ·cases h
  rename_i h1
  split at h
  ·cases h
  rename_i h2;have e1:sF L (cS eS d.seller d.frm day b)=0:=by omega
  have e2:iF (L++[⟨b,[cS eS d.seller d.frm day b]⟩]) (cS d.seller name d.frm day b)=0:=by omega
  exact CD ((hc.beg e1).hand (x:=cS d.seller name d.frm day b) e2) h
theorem Cb {f:bH→eJ}:∀{bs:List bH}{L L':List cV},jW L→eR f L bs=some L'→jW L'
 |[],L,L',hc,h=>by cases h;exact hc
 |b :: r,L,L',hc,h=>by
  have g:eR f L (b :: r)=if iF L (f b)≠0 then none else eR f (iU cV.box L (f b).box (iC (f b))) r:=rfl
  rw[g]at h
  split at h
  ·cases h
  rename_i h1;have e1:iF L (f b)=0:=by omega
  exact Cb (hc.hand e1) h
section
variable {C:Cr}{l:dE}{day:Int}
theorem PB.perm (h:PB C) {L:List cV}(p:L.Perm C.cust):PB { C with cust:=L }:=⟨h.cu.perm p.symm,h.dz⟩
theorem PB.upd (h:PB C) (n:bH) {f:Dp→Dp}(hf:∀d,(f d).number=d.number∧(f d).boxes=d.boxes):PB (Z0 C n f):=⟨h.cu,fun d hd=>by
 obtain⟨e,he,rfl⟩:=aX.1 (show d∈C.deals.map fun b=>if b.number=n then f b else b from hd)
 split
 ·rw[(hf e).1,(hf e).2];exact h.dz e he
 ·exact h.dz e he⟩
theorem vC (st:Int) (d:Dp):(sB st d).number=d.number∧(sB st d).boxes=d.boxes:=⟨rfl,rfl⟩
theorem PB.kind (h:PB C) (nm:Int→bH) (d:Dp):PB (qD nm C d l day).1:=by
 unfold qD
 split
 ·show PB (sI C d l day);unfold sI
  split
  ·exact h
  split
  ·exact h
  ·rename_i L hL;exact PB.upd (C:={ C with cust:=L }) ⟨CD h.cu hL,h.dz⟩ _ (vC 1)
 split
 ·unfold yQ
  split
  ·exact h
  ·exact⟨h.cu,h.dz⟩
 split
 ·unfold DF
  split
  ·exact h
  split
  ·exact h
  ·rename_i L hL
   split
   ·exact h
   ·exact PB.upd (C:={ C with cust:=L,deliv:=_,reg:=_ }) ⟨Cb h.cu hL,h.dz⟩ _ (vC 4)
 split
 ·show PB (FG C d l);unfold FG
  split
  ·exact h.upd _ fun d=>⟨rfl,rfl⟩
  ·exact h
 split
 ·unfold rH
  split
  ·exact h
  ·exact⟨h.cu,h.dz⟩
 split
 ·unfold qU
  split
  ·exact h
  ·exact⟨h.cu,h.dz⟩
 exact h
theorem PB.take (h:PB C) (nm:Int→bH):PB (mB nm C l day).1:=by
 unfold mB
 split
 ·exact h
 split
 ·exact h
 ·exact h.kind nm _
theorem PB.car (h:PB C) (kind:Int) (deal:bH):PB (lE eU C kind deal day).1:=by
 unfold lE
 split
 ·exact h
 split
 ·exact h
 rename_i d hd;by_cases h1:d.state≠(if kind=5 then 1 else 2)
 ·rw[aF h1];exact h
 rw[aE h1];by_cases hk:kind=5
 ·rw[aF hk];unfold vG
  split
  ·exact h
  ·exact PB.upd (C:={ C with reg:=kB ⟨C.reg,gT C.name d day,d.seller⟩ }) ⟨h.cu,h.dz⟩ _ (vC 2)
 ·rw[aE hk];exact h.upd _ (vC 3)
end
theorem kP {n:bH}{day:Int}{ls:List dE}(h:ls.length≤1∧∀l∈ls,uA l):(cF n day ls).length≤1000∧∀l∈cF n day ls,uA l:=by
 unfold cF;refine⟨by rw[aJ];omega,fun l hl=>?_⟩;obtain⟨x,hx,rfl⟩:=aX.1 hl;exact h.2 x hx
theorem sA {l:dE}(h:uA l):[l].length≤1∧∀x∈[l],uA x:=⟨aN _,fun x hx=>by
 obtain rfl:x=l:=by simpa using hx
 exact h⟩
theorem vB {l:dE}(hd:l.docs=[]) (hb:l.boxes.length≤1000):uA l:=⟨by rw[hd];exact aI _,hb,fun d hm=>by rw[hd]at hm;cases hm⟩
theorem D0 (nm:Int→bH) (l:dE):(eV nm l).length≤1∧∀x∈eV nm l,uA x:=sA (vB rfl (aI _))
theorem jA:([]:List dE).length≤1000∧∀x∈([]:List dE),uA x:=⟨aI _,fun x hx=>by cases hx⟩
theorem O7:([]:List dE).length≤1∧∀x∈([]:List dE),uA x:=⟨aI _,fun x hx=>by cases hx⟩
theorem Mw {s:gZ}(hs:nZ s) {x:Cs}{name:bH}{l:dE}{day:Int}(nm:Int→bH):(eX nm s.su name x l day).2.length≤1000∧∀y∈(eX nm s.su name x l day).2,uA y:=by
 unfold eX
 split
 ·exact jA
 split
 ·exact jA
 split
 rotate_left
 ·exact jA
 rename_i d st fr hd hst hfr;have hbx:=Fl hs hd
 split
 ·exact jA
 split
 ·exact jA
 split
 rotate_left
 ·exact jA
 dsimp only;obtain⟨k9,hke⟩:∃k9:Int,k9=(if l.kind=8 then (1:Int) else if l.kind=20 then 2 else if l.kind=23 then 3 else 4):=⟨_,rfl⟩
 rw[←hke];clear hke
 split
 ·exact kP (D0 nm l)
 split
 ·split
  ·exact kP (D0 nm l)
  ·split
   ·exact kP (D0 nm l)
   ·exact kP (sA (vB rfl (by show d.boxes.length≤1000;omega)))
 ·refine kP ?_
  split
  ·exact sA (vB rfl (aI _))
  split
  ·exact sA (vB rfl (aI _))
  ·exact O7
theorem QP {s:gZ}(hs:nZ s) {x:Cs}{name:bH}{day:Int}(kind:Int) (deal:bH):(kJ eU s.su name x kind deal day).2.1.length≤1000∧∀y∈(kJ eU s.su name x kind deal day).2.1,uA y:=by
 unfold kJ
 split
 ·exact jA
 split
 ·exact jA
 split
 rotate_left
 ·exact jA
 rename_i d st hd hst;have hbx:=Fl hs hd
 split
 ·split
  ·exact jA
  ·exact kP (sA (vB rfl (by show d.boxes.length≤1000;omega)))
 split
 ·exact jA
 dsimp only
 split
 ·exact jA
 ·refine kP (sA ⟨Nat.le_of_ble_eq_true rfl,aI _,fun d2 hd2=>?_⟩);obtain rfl:d2=eU (gT name (cL d st true) day):=by simpa using hd2
  exact Nat.le_of_ble_eq_true rfl
structure Jt (k:Nat) (s:gZ) (name:bH) (C:Cr) (x:Cs):Prop where
 rel:eZ s.su C x
 nm:C.name=name
 xb:XB k s x
 pb:PB C
structure Df (o:iB):Prop where
 day:-9223372036854775808≤o.day∧o.day≤9223372036854775807
 a:o.a.deal.size≤300
 l:o.l.frm.size≤300∧o.l.deal.size≤300∧o.l.party.size≤300
section
variable {k:Nat}{s:gZ}{name:bH}{C:Cr}{x:Cs}{o:iB}{l:dE}{day:Int}{L0:List cV}
theorem Jt.inv (h:Jt k s name C x):Cd k C.reg:=by rw[h.rel.reg];exact h.xb.inv
theorem Jt.crOk (h:Jt k s name C x) (hk:k≤100):Tv C:=⟨h.rel.nd,h.inv.few,h.inv.inB (by omega),fun d hd=>by have:=(h.pb.dz d hd).1;omega,fun d hd=>(h.pb.dz d hd).2.1,fun d hd=>(h.pb.dz d hd).2.2⟩
theorem Jt.tqOk (h:Jt k s name C x) (hk:k≤100):Tn ⟨C,l,day⟩:=⟨h.crOk hk,h.pb.cu,by
 show C.deliv.length≤40000;rw[h.rel.del];have:=h.xb.D;omega⟩
theorem Vx (hs:nZ s):∀d∈s.su.deals,T5 d:=fun d hd=>by
 obtain⟨i,hi⟩:=aV hd;exact Fl hs hi
theorem Jt.act (h:Jt k s name C x) (hs:nZ s) (kind:Int) (deal:bH) (day:Int):Jt (k+1) s name (lE eU C kind deal day).1 (kJ eU s.su name x kind deal day).1∧(lE eU C kind deal day).2=(kJ eU s.su name x kind deal day).2:=by
 obtain⟨h1,h2,h3⟩:=eZ.car (day:=day) eU h.rel (Vx hs) kind deal;rw[h.nm]at h1 h2 h3;exact⟨⟨h1,h3,h.xb.car hs kind deal,h.pb.car kind deal⟩,h2⟩
theorem Jt.take (h:Jt k s name C x) (hs:nZ s) (l:dE) (day:Int) (hp:L0.Perm C.cust):Jt (k+1) s name (gG C l day L0).2.1 (eX fL s.su name x l day).1∧(gG C l day L0).2.2=(eX fL s.su name x l day).2:=by
 obtain⟨L1,hp1,he⟩:=B0 h.rel l day hp;obtain⟨h1,h2,h3⟩:=(h.rel.perm hp1.symm).take fL l day;have h3:(mB fL { C with cust:=L1 } l day).1.name=C.name:=h3;have h1:eZ s.su (mB fL { C with cust:=L1 } l day).1 (eX fL s.su C.name x l day).1:=h1;have h2:(mB fL { C with cust:=L1 } l day).2=(eX fL s.su C.name x l day).2:=h2;have h4:=(h.pb.perm hp1).take (l:=l) (day:=day) fL;rw[←he]at h1 h2 h3 h4;rw[h.nm]at h1 h2 h3;exact⟨⟨h1,h3,h.xb.take hs fL,h4⟩,h2⟩
theorem Jt.succ (h:Jt k s name C x):Jt (k+1) s name C x:=⟨h.rel,h.nm,h.xb.succ,h.pb⟩
theorem Jt.doA (h:Jt k s name C x) (hk:k≤100) (hs:nZ s) (hn:name.size≤60) (ho:Df o):YC ⟨C,s,name,x,o⟩:=
 ⟨⟨h.crOk hk,ho.day⟩,⟨hs,h.xb.csOk hk,⟨hn,ho.a⟩,ho.day⟩,(h.act hs _ _ _).2,QP hs _ _⟩
theorem Jt.doT (h:Jt k s name C x) (hk:k≤100) (hs:nZ s) (hn:name.size≤60) (ho:Df o):Yu ⟨C,s,name,x,o⟩:=
 ⟨h.tqOk hk,⟨hs,h.xb.csOk hk,⟨hn,ho.l.1,ho.l.2.1,ho.l.2.2⟩⟩,fun L0 hp=>(h.take hs _ _ hp).2,Mw hs fL⟩
end
def uU (s:gZ) (name:bH) (x:Cs) (o:iB):Cs:=if o.kind=0 then (kJ eU s.su name x o.a.kind o.a.deal o.day).1 else if o.kind=1 then (eX fL s.su name x o.l o.day).1 else x
structure DJ where
 q:DQ
 k:Nat
structure UL (j:DJ):Prop where
 jt:Jt j.k j.q.s j.q.name j.q.C j.q.x
 k:j.k≤100
 s:nZ j.q.s
 n:j.q.name.size≤60
 o:Df j.q.o
def Ti:dL:=sP (fun j:DJ=>tT j.q) (fun j=>yY j.q.C) UL (fun j (r:Bool×Cr)=>Jt (j.k+1) j.q.s j.q.name r.2 (uU j.q.s j.q.name j.q.x j.q.o)) (fun j _=>.tup [Fn (uU j.q.s j.q.name j.q.x j.q.o),.bl true]) fun j r=>ON r.1 r.2 j.q.C.cust
theorem TO {P:bI}(hac:bK P 23 (uQ fun _=>True)) (hra:bK P 65 (Tz fun _=>True)) (hta:bK P 18 (nP fun _=>True)) (hrt:bK P 67 (N1 fun _=>True)) (hti:bK P 24 vY) (hal:bK P 66 MB):bM P Wu Ti:=by
 intro args H0 K hc;obtain⟨⟨⟨C,s,name,x,o⟩,k⟩,h1,h2,⟨hj,hk,hs,hn,ho⟩,hK⟩:=hc;dsimp only at hj hk hs hn ho;by_cases k0:o.kind=0
 ·have e:uU s name x o=(kJ eU s.su name x o.a.kind o.a.deal o.day).1:=aF k0;have h5:=hK (false,(lE eU C o.a.kind o.a.deal o.day).1) (by dsimp only;rw[e];exact(hj.act hs _ _ _).1);dsimp only at h5;rw[e]at h5;exact Sg P hac hra hal args H0 K ⟨⟨C,s,name,x,o⟩,h1,h2,⟨k0,hj.doA hk hs hn ho⟩,h5⟩
 by_cases k1:o.kind=1
 ·have e:uU s name x o=(eX fL s.su name x o.l o.day).1:=(aE k0).trans (aF k1);refine Pw P hta hrt hal args H0 K ⟨⟨C,s,name,x,o⟩,h1,h2,⟨k1,hj.doT hk hs hn ho⟩,fun L0 hp=>?_⟩;have h5:=hK ((gG C o.l o.day L0).1,(gG C o.l o.day L0).2.1) (by dsimp only;rw[e];exact(hj.take hs _ _ hp).1);dsimp only at h5;rw[e]at h5;exact h5
 ·have e:uU s name x o=x:=(aE k0).trans (aE k1);have h5:=hK (false,C) (by dsimp only;rw[e];exact hj.succ);dsimp only at h5;rw[e]at h5;exact QM P hti args H0 K ⟨⟨C,s,name,x,o⟩,h1,h2,⟨k0,k1⟩,h5⟩
theorem Jt.new {s:gZ}{name:bH}(hs:nZ s):Jt 0 s name (KN s.su name) (BM s.su name):=by
 refine⟨eZ.new s.su name,rfl,XB.new s name,⟨⟨aI _,.nil,fun b hb=>(by cases hb),fun b hb=>(by cases hb),fun b hb=>(by cases hb)⟩,?_⟩⟩;have h:∀(l:List De) (L:List Dp),(∀d∈l,d.number.size≤300∧d.boxes.length≤70∧∀b∈d.boxes,b.size≤60)→(∀d∈L,d.number.size≤300∧d.boxes.length≤70∧∀b∈d.boxes,b.size≤60)→∀d∈l.foldl (F9 name) L,d.number.size≤300∧d.boxes.length≤70∧∀b∈d.boxes,b.size≤60:=by
  intro l
  induction l with
  |nil=>intro L _ hL d hd;exact hL d hd
  |cons a l ih=>
   intro L hl hL;rw[List.foldl_cons];refine ih _ (fun d hd=>hl d (aW _ hd)) fun d hd=>?_
   unfold F9 at hd
   split at hd
   ·exact hL d hd
   ·rcases List.mem_append.1 hd with hd|hd
    ·exact hL d hd
    ·obtain rfl:d=cL a 0 (decide (a.house=eS)):=by simpa using hd
     exact hl a (bD ..)
 refine h s.su.deals [] (fun d hd=>?_) fun d hd=>by cases hd
 obtain⟨e,he,rfl⟩:=aX.1 (show d∈s.deals.map jM.de from hd);have hok:=hs.ok e he;refine⟨hok.sz.1,?_,fun b hb=>?_⟩
 ·show (e.boxes.map IR.mark).length≤70;rw[aJ];exact hok.bx
 ·exact kN hok b hb
set_option maxHeartbeats 8000000
def iV (s:gZ) (name:bH) (l:List iB):Cs:=l.foldl (uU s name) (BM s.su name)
structure Um where
 s:gZ
 name:bH
 l:List iB
structure So (q:Um):Prop where
 s:nZ q.s
 n:q.name.size≤60
 l:q.l.length≤40
 o:∀o∈q.l,Df o
def uP:dL:=sP (fun q:Um=>[F5 q.s,.str q.name,.sl 19 (bJ mG q.l)]) (fun _=>[]) So (fun q C=>Jt q.l.length q.s q.name C (iV q.s q.name q.l)) (fun q _=>.tup [.ptr 0 0,Fn (iV q.s q.name q.l)]) fun _ C=>yY C
theorem Fg (P:bI) (hn:bK P 21 uH) (hrn:bK P 31 GE) (hdo:bK P 32 Ti):bM P Y4 uP:=by
 intro args H K hc;obtain⟨⟨⟨parties,deals,funds,rest,holidays⟩,name,l⟩,rfl,rfl,hp,hK⟩:=hc;refine⟨cK,?_⟩;dsimp only at hp hK⊢;obtain⟨hs,hnz,hll,hlo⟩:=hp;dsimp only at hs hnz hll hlo;have hjn:=Jt.new (name:=name) hs;obtain⟨n,hnn⟩:∃n:Nat,n=l.length:=⟨_,rfl⟩
 obtain⟨⟨name1,parties1,deals1,⟨rc1,rL1⟩,cust1,deliv1⟩,hC0⟩:∃C,C=KN (gZ.su ⟨parties,deals,funds,rest,holidays⟩) name:=⟨_,rfl⟩
 obtain⟨⟨S,free,⟨c,L⟩,H,D⟩,hx0⟩:∃x,x=BM (gZ.su ⟨parties,deals,funds,rest,holidays⟩) name:=⟨_,rfl⟩
 rw[←hC0,←hx0]at hjn;cbv;repeat'((first|refine And.intro ?_ ?_|fail)<;>cbv)
 all_goals
  repeat'(first
   |((refine BB hn ((name,⟨parties,deals,funds,rest,holidays⟩):bH×gZ) hs ?_;try dsimp only)
     rw[←hC0];cbv;repeat'((first|refine And.intro ?_ ?_|fail)<;>cbv))
   |((refine ZO hrn ((⟨parties,deals,funds,rest,holidays⟩,name):gZ×bH) hs.de ?_;try dsimp only)
     rw[←hx0];cbv))
 all_goals first
 |refine iL (Gh.sel (st':=⟨[(1,.str name),(2,.sl 19 (bJ mG l)),(3,.ptr 8 0),(7,.ptr 9 0),(8,.ptr 0 0),(9,.ptr 10 0),(10,.i 0)],[.blk 118 [.str name1,.hd 1,.ph 2,.ptr 3 0,.ptr 5 0,.hd 7],.map 70 (bJ iK parties1),.pool 116 (bJ gM deals1) [],.blk 122 [.str rc1,.ph 4],.pool 120 (bJ fM rL1) [],.blk 174 [.ph 6],.pool 172 (bJ gE cust1) [],.tip 77 5 (bJ dP deliv1),.blk 29 [.sl 3 (bJ mP parties),.sl 17 (bJ lD deals),.sl 3 (bJ mT funds),.sl 1 (bJ dZ rest),.sl 1 (bJ dZ holidays)],.blk 41 [.v (.slice none 0 0),.v (.slice none 0 0),.str ⟨#[]⟩,.v (.slice none 0 0),.v (.slice none 0 0),.v (.slice none 0 0)],.blk 41 [.sl 1 (bJ dZ S),.sl 1 (bJ sX free),.str c,.sl 11 (bJ jF L),.sl 5 (bJ dP H),.sl 5 (bJ dP D)]]⟩) [3,4,5,6,7,8,9,10,0,1,2] (by repeat'(first|exact trivial|refine⟨.inl rfl,?_⟩|refine⟨.inr rfl,?_⟩)) rfl (by decide) rfl rfl) ?_
 |refine iL (Gh.sel (st':=⟨[(1,.str name),(2,.sl 19 (bJ mG l)),(3,.ptr 8 0),(7,.ptr 9 0),(8,.ptr 0 0),(9,.ptr 10 0),(10,.i 0)],[.blk 118 [.str name1,.hd 1,.ph 2,.ptr 3 0,.ptr 5 0,.hd 7],.map 70 (bJ iK parties1),.pool 116 (bJ gM deals1) [],.blk 122 [.str rc1,.ph 4],.pool 120 (bJ fM rL1) [],.blk 174 [.ph 6],.pool 172 (bJ gE cust1) [],.tip 77 5 (bJ dP deliv1),.blk 29 [.sl 3 (bJ mP parties),.sl 17 (bJ lD deals),.sl 3 (bJ mT funds),.sl 1 (bJ dZ rest),.sl 1 (bJ dZ holidays)],.blk 41 [.v (.slice none 0 0),.v (.slice none 0 0),.str ⟨#[]⟩,.v (.slice none 0 0),.v (.slice none 0 0),.v (.slice none 0 0)],.blk 41 [.sl 1 (bJ dZ S),.sl 1 (bJ sX free),.str c,.sl 11 (bJ jF L),.sl 5 (bJ dP H),.sl 5 (bJ dP D)]]⟩) [2,3,4,5,6,7,8,9,0,1,10] (by repeat'(first|exact trivial|refine⟨.inl rfl,?_⟩|refine⟨.inr rfl,?_⟩)) rfl (by decide) rfl rfl) ?_
 all_goals
  refine bU [] (fun p:{ p:Nat×Cr×Cs // p.1≤l.length∧Jt p.1 ⟨parties,deals,funds,rest,holidays⟩ name p.2.1 p.2.2∧p.2.2=iV ⟨parties,deals,funds,rest,holidays⟩ name (l.take p.1) }=>[(10,.i (nI p.1.1))]) (fun p=>[.blk 118 [.str p.1.2.1.name,.hd 1,.ph 2,.ptr 3 0,.ptr 5 0,.hd 7],.map 70 (bJ iK p.1.2.1.parties),.pool 116 (bJ gM p.1.2.1.deals) [],.blk 122 [.str p.1.2.1.reg.carrier,.ph 4],.pool 120 (bJ fM p.1.2.1.reg.bills) [],.blk 174 [.ph 6],.pool 172 (bJ gE p.1.2.1.cust) [],.tip 77 5 (bJ dP p.1.2.1.deliv),.blk 29 [.sl 3 (bJ mP parties),.sl 17 (bJ lD deals),.sl 3 (bJ mT funds),.sl 1 (bJ dZ rest),.sl 1 (bJ dZ holidays)],.blk 41 [.v (.slice none 0 0),.v (.slice none 0 0),.str ⟨#[]⟩,.v (.slice none 0 0),.v (.slice none 0 0),.v (.slice none 0 0)],.blk 41 [.sl 1 (bJ dZ p.1.2.2.S),.sl 1 (bJ sX p.1.2.2.free),.str p.1.2.2.reg.carrier,.sl 11 (bJ jF p.1.2.2.reg.bills),.sl 5 (bJ dP p.1.2.2.H),.sl 5 (bJ dP p.1.2.2.D)]]) (fun p=>fO n p.1.1) ⟨(0,⟨name1,parties1,deals1,⟨rc1,rL1⟩,cust1,deliv1⟩,⟨S,free,⟨c,L⟩,H,D⟩),aI _,hjn,hx0⟩ ?_;rintro ⟨⟨k,⟨name2,parties2,deals2,⟨rc2,rL2⟩,cust2,deliv2⟩,⟨S2,free2,⟨c2,L2⟩,H2,D2⟩⟩,hk,hj,hx⟩;dsimp only at hk hj hx⊢;rcases aL k l.length with hks|hks
  ·obtain⟨o,ho⟩:=cJ hks;have hoo:=hlo o (aC ho);have hpx:iV ⟨parties,deals,funds,rest,holidays⟩ name (l.take (k+1))=uU ⟨parties,deals,funds,rest,holidays⟩ name ⟨S2,free2,⟨c2,L2⟩,H2,D2⟩ o:=by
    unfold iV at hx⊢;rw[dO ho,List.foldl_append,←hx];rfl
   obtain⟨⟨S3,free3,⟨c3,L3⟩,H3,D3⟩,hx3⟩:∃y,y=uU ⟨parties,deals,funds,rest,holidays⟩ name ⟨S2,free2,⟨c2,L2⟩,H2,D2⟩ o:=⟨_,rfl⟩
   rw[←hx3]at hpx;have hdj:UL ⟨⟨⟨name2,parties2,deals2,⟨rc2,rL2⟩,cust2,deliv2⟩,⟨parties,deals,funds,rest,holidays⟩,name,⟨S2,free2,⟨c2,L2⟩,H2,D2⟩,o⟩,k⟩:=⟨hj,by dsimp only;omega,hs,hnz,hoo⟩
   obtain⟨okind,oday,⟨ak,an,adeal⟩,⟨frm,to,number,lkind,ack,ldeal,text,party,index,day0,cur,amt,docs,boxes⟩⟩:=o;cbv;repeat'((first|refine .e ?_|refine .y fun h=>?_|refine .k fun z hz=>?_|refine And.intro ?_ ?_|fail)<;>cbv)
   all_goals
    refine cW hdo (⟨⟨⟨name2,parties2,deals2,⟨rc2,rL2⟩,cust2,deliv2⟩,⟨parties,deals,funds,rest,holidays⟩,name,⟨S2,free2,⟨c2,L2⟩,H2,D2⟩,⟨okind,oday,⟨ak,an,adeal⟩,⟨frm,to,number,lkind,ack,ldeal,text,party,index,day0,cur,amt,docs,boxes⟩⟩⟩,k⟩:DJ) [0,1,2,3,4,5,6,7] hdj rfl rfl (by decide) rfl rfl rfl rfl rfl ?_;rintro ⟨mv,⟨name3,parties3,deals3,⟨rc3,rL3⟩,cust3,deliv3⟩⟩ hj3;dsimp only at hj3;rw[←hx3]at hj3
    try dsimp only
    rw[←hx3];cases mv with
    |false=>
     cbv;repeat'((first|refine .k fun z hz=>?_|fail)<;>cbv)
     obtain rfl:z=nI (k+1):=bQ;exact bN ⟨(k+1,⟨name3,parties3,deals3,⟨rc3,rL3⟩,cust3,deliv3⟩,⟨S3,free3,⟨c3,L3⟩,H3,D3⟩),hks,hj3,hpx.symm⟩ (bO (by omega))
    |true=>
     cbv;repeat'((first|refine .k fun z hz=>?_|fail)<;>cbv)
     obtain rfl:z=nI (k+1):=bQ
     first
     |refine dW (Gh.sel (st':=⟨[(1,.str name),(2,.sl 19 (bJ mG l)),(3,.ptr 8 0),(7,.ptr 9 0),(8,.ptr 0 0),(9,.ptr 10 0),(10,.i (nI (k+1)))],[.blk 118 [.str name3,.hd 1,.ph 2,.ptr 3 0,.ptr 5 0,.hd 7],.map 70 (bJ iK parties3),.pool 116 (bJ gM deals3) [],.blk 122 [.str rc3,.ph 4],.pool 120 (bJ fM rL3) [],.blk 174 [.ph 6],.pool 172 (bJ gE cust3) [],.tip 77 5 (bJ dP deliv3),.blk 29 [.sl 3 (bJ mP parties),.sl 17 (bJ lD deals),.sl 3 (bJ mT funds),.sl 1 (bJ dZ rest),.sl 1 (bJ dZ holidays)],.blk 41 [.v (.slice none 0 0),.v (.slice none 0 0),.str ⟨#[]⟩,.v (.slice none 0 0),.v (.slice none 0 0),.v (.slice none 0 0)],.blk 41 [.sl 1 (bJ dZ S3),.sl 1 (bJ sX free3),.str c3,.sl 11 (bJ jF L3),.sl 5 (bJ dP H3),.sl 5 (bJ dP D3)]]⟩) [0,1,2,3,4,11,12,7,8,9,10] (by repeat'(first|exact trivial|refine⟨.inl rfl,?_⟩|refine⟨.inr rfl,?_⟩)) rfl (by decide) rfl rfl) ?_
     |refine dW (Gh.sel (st':=⟨[(1,.str name),(2,.sl 19 (bJ mG l)),(3,.ptr 8 0),(7,.ptr 9 0),(8,.ptr 0 0),(9,.ptr 10 0),(10,.i (nI (k+1)))],[.blk 118 [.str name3,.hd 1,.ph 2,.ptr 3 0,.ptr 5 0,.hd 7],.map 70 (bJ iK parties3),.pool 116 (bJ gM deals3) [],.blk 122 [.str rc3,.ph 4],.pool 120 (bJ fM rL3) [],.blk 174 [.ph 6],.pool 172 (bJ gE cust3) [],.tip 77 5 (bJ dP deliv3),.blk 29 [.sl 3 (bJ mP parties),.sl 17 (bJ lD deals),.sl 3 (bJ mT funds),.sl 1 (bJ dZ rest),.sl 1 (bJ dZ holidays)],.blk 41 [.v (.slice none 0 0),.v (.slice none 0 0),.str ⟨#[]⟩,.v (.slice none 0 0),.v (.slice none 0 0),.v (.slice none 0 0)],.blk 41 [.sl 1 (bJ dZ S3),.sl 1 (bJ sX free3),.str c3,.sl 11 (bJ jF L3),.sl 5 (bJ dP H3),.sl 5 (bJ dP D3)]]⟩) [0,1,2,3,4,12,13,7,8,9,10] (by repeat'(first|exact trivial|refine⟨.inl rfl,?_⟩|refine⟨.inr rfl,?_⟩)) rfl (by decide) rfl rfl) ?_
     exact bN ⟨(k+1,⟨name3,parties3,deals3,⟨rc3,rL3⟩,cust3,deliv3⟩,⟨S3,free3,⟨c3,L3⟩,H3,D3⟩),hks,hj3,hpx.symm⟩ (bO (by omega))
  have hkn:k=l.length:=by omega
  have hpl:iV ⟨parties,deals,funds,rest,holidays⟩ name l=⟨S2,free2,⟨c2,L2⟩,H2,D2⟩:=by rw[hx,hkn,List.take_length]
  have hK:=hK ⟨name2,parties2,deals2,⟨rc2,rL2⟩,cust2,deliv2⟩ (by rw[hpl,←hkn];exact hj);rw[hpl]at hK;cbv;repeat'((first|refine .n fun h=>?_|refine .k fun z hz=>?_|fail)<;>cbv)
  (refine .q9 ?_;cbv;exact .inl (.g9 hK))
set_option maxHeartbeats 4000000
theorem Bu {z:Int}(h:Av z):0≤z∧z≤3:=by rcases h with rfl|rfl<;>decide
theorem RY {st a b c:Int}(h:Wf st a b c):(0≤a∧a≤3)∧(0≤b∧b≤3)∧(0≤c∧c≤3):=by
 rcases h with ⟨_,h1,h2,h3⟩|⟨_,⟨rfl,rfl,rfl⟩|⟨rfl,rfl,rfl⟩|⟨rfl,rfl,rfl⟩⟩|⟨_,rfl,rfl,rfl⟩
 ·exact⟨Bu h1,Bu h2,Bu h3⟩
 all_goals decide
theorem Qz {c:bH}{b:Bl}(h:yW c b=true):bS b.number=true:=by
 cases hn:bS b.number with
 |true=>rfl
 |false=>
  unfold yW at h;simp[hn]at h
theorem vI.brT {n:Nat}{c:bH}{b:Br}(h:vI n c b):Wn b:=by
 have h1:=jR (Qz h.may);have h2:=jR h.h0.name;have h3:=jR h.h1.name;have h4:=jR h.h2.name;obtain⟨h5,h6,h7⟩:=RY h.st;exact⟨by omega,by omega,by omega,by omega,h5,h6,h7⟩
section
variable {k:Nat}{s:gZ}{name:bH}{C:Cr}{x:Cs}
theorem eZ.nums {s:Su}{C:Cr}{x:Cs}(h:eZ s C x):M3 s C.name=dN (C.deals.map Dp.number):=by
 obtain⟨h1,h2⟩:=uK C.name s.deals [] .nil;refine Ez h1 h.nd fun n=>(h2 n).trans ?_
 rw[←Ae];constructor
 ·rintro (a|⟨i,hi⟩)
  ·cases a
  ·obtain⟨d,st,fr,g1,g2,g3,g4,g5⟩:=h.at hi;obtain⟨g6,g7⟩:=iZ g5;exact aX.2 ⟨_,g6,g7⟩
 ·intro hm;refine .inr ?_;cases hi:dD s C.name n with
  |some i=>exact⟨i,rfl⟩
  |none=>
   obtain⟨d,hd,hn⟩:=aX.1 hm;exact absurd hn (iH (h.no n hi) hd)
theorem Jt.dlen (h:Jt k s name C x) (hs:nZ s):C.deals.length≤8:=by
 have h1:=congrArg List.length h.rel.nums;rw[kE,aJ]at h1;rw[←h1];exact Nat.le_trans (Ld _ _) hs.de
theorem Jt.ctxOk (h:Jt k s name C x) (hs:nZ s) (hk:k≤100):Rx C:=by
 refine⟨h.rel.nd,h.dlen hs,fun d hd=>?_,h.inv.few,h.inv.inB (by omega),fun b hb=>(h.inv.all b hb).brT,h.inv.nd,h.pb.cu⟩;have hl:gS Dp.number C.deals d.number=some d:=tE h.rel.nd hd rfl;refine⟨(h.pb.dz d hd).1,?_⟩;cases hi:dD s.su C.name d.number with
 |none=>rw[h.rel.no _ hi]at hl;cases hl
 |some i=>
  obtain⟨e,st,fr,h1,h2,h3,h4,h5⟩:=h.rel.at hi;rw[h5]at hl;cases hl;exact h.xb.st st (aC h2)
theorem Jt.text (h:Jt k s name C x):eQ C=OU s.su name x:=by rw[←h.nm];exact h.rel.text
end
set_option maxHeartbeats 2000000
section
variable {T:Int}{k:Nat}{s:gZ}{name:bH}{C:Cr}{x:Cs}{o:iB}
theorem Lo {l:List iB}{i:Nat}(ho:l[i]?=some o):iV s name (l.take (i+1))=uU s name (iV s name (l.take i)) o:=by
 unfold iV;rw[dO ho,List.foldl_append];rfl
end
section
variable {k:Nat}{s:gZ}{name:bH}{C:Cr}{x:Cs}{n:bH}{i:Nat}{day:Int}
end
section
variable {k:Nat}{c:bH}{L0 L:List Br}{i m:Nat}{b:Br}
end
set_option maxHeartbeats 8000000
theorem B6:Bh Tryz.prog:=⟨HS (fun blk off cap ss W h1 h2 h3=>Any.slices_Sort_string vQ blk off cap ss W h1 h2 h3) (fun p cap W=>Any.slices_Sort_string_none vQ p cap W),enters_of vQ.f190 rfl rfl,TF⟩
theorem PQ:bK Tryz.prog 56 Ot:=EW Ps Tm
theorem Oe:bK Tryz.prog 61 IH:=Ed Qt Tm
theorem Ja:bK Tryz.prog 64 (Es eO):=SX (by kernel_rfl)
def rC:dL:=spec (fun _:Unit=>[]) (fun _=>[]) (fun _=>True) (fun _=>.bl true) fun _=>[]
def sQ (d:Int):Prop:=-9223372036854775808≤d∧d≤9223372036854775807
structure Zd (q:xH):Prop where
 f:CU q
 d:∀o∈q.l,sQ o.day
theorem TU {s:gZ}{name:bH}{l:List iB}(h:zO s name l) (hd:∀o∈l,sQ o.day):So ⟨s,name,l⟩:=⟨h.s,h.n,h.l.len,fun o ho=>⟨hd o ho,(h.l.sz o ho).1,(h.l.sz o ho).2⟩⟩
structure Bz (x y:AV):Prop where
 one:x.one=true→y.one=true
 to:∀(pub:cY) (w:World) (r:cT) (v:Value),bT pub w r x v→bT pub w r y v
def I8:List AV→List AV→Prop
 |[],[]=>True
 |x :: l,y :: m=>Bz x y∧I8 l m
 |_,_=>False
def Rw:List AV→List AV→Prop
 |[],[]=>True
 |x :: l,y :: m=>I8 x.cells y.cells∧Rw l m
 |_,_=>False
theorem Bz.refl (x:AV):Bz x x:=⟨id,fun _ _ _ _ h=>h⟩
theorem Bz.nil (sz:Nat):Bz (.v (.slice none 0 0)) (.sl sz []):=⟨fun _=>rfl,fun _ _ _ _ h=>(NH.nil sz).to h⟩
theorem I8.len:∀{l m:List AV},I8 l m→m.length=l.length
 |[],[],_=>rfl
 |_ :: _,_ :: _,h=>congrArg (· + 1) (I8.len h.2)
 |[],_ :: _,h=>h.elim
 |_ :: _,[],h=>h.elim
theorem I8.at:∀{l m:List AV},I8 l m→∀{i:Nat}{y:AV},m[i]?=some y→∃x,l[i]?=some x∧Bz x y
 |[],[],_,i,y,hy=>by simp at hy
 |x :: l,z :: m,h,0,y,hy=>by
  simp only[List.getElem?_cons_zero,bE]at hy;subst hy;exact⟨x,rfl,h.1⟩
 |x :: l,z :: m,h,i+1,y,hy=>by
  simp only[List.getElem?_cons_succ]at hy;obtain⟨u,hu,k⟩:=I8.at h.2 hy;exact⟨u,by simpa using hu,k⟩
 |[],_ :: _,h,_,_,_=>h.elim
 |_ :: _,[],h,_,_,_=>h.elim
theorem I8.ones:∀{l m:List AV},I8 l m→l.all AV.one=true→m.all AV.one=true
 |[],[],_,_=>rfl
 |x :: l,y :: m,h,k=>by
  simp only[List.all_cons,aO]at k⊢;exact⟨h.1.one k.1,I8.ones h.2 k.2⟩
 |[],_ :: _,h,_=>h.elim
 |_ :: _,[],h,_=>h.elim
theorem Bz.agg {l m:List AV}(h:I8 l m):Bz (.agg l) (.agg m):=⟨fun k=>(by cases k),fun pub w r v hv=>by
 cases hv with
 |agg hl h1=>
  refine .agg (hl.trans h.len.symm) fun i y u hy hu=>?_
  obtain⟨x,hx,k⟩:=h.at hy;exact k.to _ _ _ _ (h1 i x u hx hu)⟩
theorem Rw.len:∀{l m:List AV},Rw l m→m.length=l.length
 |[],[],_=>rfl
 |_ :: _,_ :: _,h=>congrArg (· + 1) (Rw.len h.2)
 |[],_ :: _,h=>h.elim
 |_ :: _,[],h=>h.elim
theorem Rw.at:∀{l m:List AV},Rw l m→∀{i:Nat}{y:AV},m[i]?=some y→∃x,l[i]?=some x∧I8 x.cells y.cells
 |[],[],_,i,y,hy=>by simp at hy
 |x :: l,z :: m,h,0,y,hy=>by
  simp only[List.getElem?_cons_zero,bE]at hy;subst hy;exact⟨x,rfl,h.1⟩
 |x :: l,z :: m,h,i+1,y,hy=>by
  simp only[List.getElem?_cons_succ]at hy;obtain⟨u,hu,k⟩:=Rw.at h.2 hy;exact⟨u,by simpa using hu,k⟩
 |[],_ :: _,h,_,_,_=>h.elim
 |_ :: _,[],h,_,_,_=>h.elim
theorem Bz.sl {sz:Nat}{l m:List AV}(h:Rw l m):Bz (.sl sz l) (.sl sz m):=⟨fun _=>rfl,fun pub w r v hv=>by
 cases hv with
 |@sl _ _ _ A c hc hm hn hs g hr hg=>
  have hlen:=h.len;rw[show l.length=m.length from hlen.symm];refine .sl (by omega) hm (fun e=>?_) (fun y hy=>?_) g (fun i y j u hy hu=>?_) fun i y j u hy hu=>?_
  ·obtain⟨h1,h2⟩:=hn e;subst h1;exact⟨List.length_eq_zero_iff.1 hlen,h2⟩
  ·obtain⟨i,hi⟩:=aV hy;obtain⟨x,hx,k⟩:=h.at hi;obtain⟨k1,k2⟩:=hs x (aC hx);exact⟨k.len.trans k1,k.ones k2⟩
  ·obtain⟨x,hx,k⟩:=h.at hy;obtain⟨z,hz,k2⟩:=k.at hu;exact k2.to _ _ _ _ (hr i x j z hx hz)
  ·obtain⟨x,hx,k⟩:=h.at hy;obtain⟨z,hz,k2⟩:=k.at hu;exact hg i x j z hx hz⟩
theorem Bv {P:bI}{keep:List Nat}{f:Nat}{args:List AV}(args2:List AV) {st:St}{K:AV→St→Prop}(h:I8 args args2) (hc:gC P keep f args2 st K):gC P keep f args st K:=
 ⟨fun C a w r pub vals hh hv=>hc.out C a w r pub vals hh ⟨hv.len.trans h.len.symm,fun i y u hy hu=>by
  obtain⟨x,hx,k⟩:=h.at hy;exact k.to _ _ _ _ (hv.at_ i x u hx hu)⟩⟩
set_option maxHeartbeats 4000000
def wS:bH:=⟨⟨[115]⟩⟩
def wC:bH:=⟨⟨[99]⟩⟩
def wD:bH:=⟨⟨[100]⟩⟩
def wY:bH:=⟨⟨[121]⟩⟩
def wF:bH:=⟨⟨[102]⟩⟩
def wT:bH:=⟨⟨[116]⟩⟩
def wE:bH:=⟨⟨[]⟩⟩
def wX:bH:=⟨⟨[97,97,97,97,48,48,48,48,48,49,50,48]⟩⟩
def U1:gZ:=⟨[⟨wS,wE,0⟩,⟨wC,wE,0⟩],[⟨wD,wS,wY,wC,wE,wE,wE,wF,wT,wE,0,[⟨wX,0,[]⟩],0,0,0,0,0⟩],[],[],[]⟩
def Uk:dE:=⟨wS,wE,0,4,0,wD,wE,wE,0,0,wE,0,[],[]⟩
def UE:dE:=⟨wS,wE,0,20,0,wD,wE,wE,0,0,wE,0,[],[]⟩
def S0 (st:Int):Dp:=⟨wD,wS,wY,wE,wF,wT,[wX],st,true⟩
def VZ:List eJ:=[⟨wX,eS,wS,wF,1⟩,⟨wX,wS,wC,wF,1⟩]
def wB:Bl:=gT wC (S0 1) 2
def YF:List Br:=[Sl wB wS]
def wP:Cr:=⟨wC,[wS,wC],[S0 0],⟨wC,[]⟩,[],[]⟩
def Tb:Cr:=⟨wC,[wS,wC],[S0 1],⟨wC,[]⟩,[⟨wX,VZ⟩],[]⟩
def Yi:Cr:=⟨wC,[wS,wC],[S0 2],⟨wC,YF⟩,[⟨wX,VZ⟩],[]⟩
def Wv:Cr:=⟨wC,[wS,wC],[S0 3],⟨wC,YF⟩,[⟨wX,VZ⟩],[]⟩
theorem OO:KN U1.su wC=wP:=by rfl
theorem Rv:gG wP Uk 1 []=(true,Tb,[]):=by rfl
theorem Fq:gR ⟨⟨wC,[]⟩,wB,wS⟩=0:=by
 have e1:i1 ⟨⟨wC,[]⟩,wB,wS⟩=false:=by decide +kernel
 have e2:i2 ⟨⟨wC,[]⟩,wB,wS⟩=false:=rfl;have e3:i3 ⟨⟨wC,[]⟩,wB,wS⟩=false:=by rw[Nf];rfl
 have e4:i4 ⟨⟨wC,[]⟩,wB,wS⟩=false:=rfl;unfold gR;rw[e1,e2,e3,e4];rfl
theorem UM:∃l,lE eU Tb 5 wD 2=(Yi,[l],0):=by
 have h:lE eU Tb 5 wD 2=vG eU Tb (S0 1) 2:=by rfl
 have h2:vG eU Tb (S0 1) 2=(Z0 { Tb with reg:=kB ⟨⟨wC,[]⟩,wB,wS⟩ } wD (sB 2),cF wD 2 [{ nJ with to:=wS,kind:=5,docs:=[eU wB] }],0):=by
  unfold vG;exact aE (by
   show ¬gR ⟨⟨wC,[]⟩,wB,wS⟩≠0;rw[Fq];decide)
 rw[h,h2,Fe Fq];exact⟨_,rfl⟩
theorem Vk:∃l,lE eU Yi 6 wD 3=(Wv,[l],0):=⟨_,rfl⟩
theorem Uu:∃C l,gG Wv UE 4 [⟨wX,VZ⟩]=(true,C,[l])∧l.kind=21∧∃h,C.deliv=[h]:=by
 refine⟨_,_,rfl,rfl,_,rfl⟩
theorem Ee (P:bI) (hn:bK P 21 uH) (hta:bK P 18 (nP fun _=>True)) (hac:bK P 23 (uQ fun _=>True)) (hde:bK P 22 I7) (hki:bK P 30 HZ):bM P Zo rC:=by
 intro args H K hc;obtain⟨u,rfl,rfl,hp,hK⟩:=hc;refine⟨cK,?_⟩;dsimp only at hp hK⊢;obtain⟨l1,hl1⟩:=UM;obtain⟨l2,hl2⟩:=Vk;obtain⟨C4,l3,hl3,hk3,h4,hd4⟩:=Uu;have hsu:nZ U1:=⟨by decide,by decide,by decide,by
  intro d hd;obtain rfl:=List.mem_singleton.1 hd;exact⟨by decide,by decide,by decide⟩⟩
 have j0:=Jt.new (name:=wC) hsu;rw[OO]at j0;have j1:=(j0.take (L0:=[]) hsu Uk 1 (.refl _)).1;rw[Rv]at j1;dsimp only at j1;have j2:=(j1.act hsu 5 wD 2).1;rw[hl1]at j2;dsimp only at j2;have j3:=(j2.act hsu 6 wD 3).1;rw[hl2]at j3;dsimp only at j3;have t0:=j0.tqOk (l:=Uk) (day:=1) (by decide);have c1:=j1.crOk (by decide);have c2:=j2.crOk (by decide);have t3:=j3.tqOk (l:=UE) (day:=4) (by decide);clear j0 j1 j2 j3;cbv;refine Bv [.str wC,F5 U1] (by unfold F5 U1;repeat'(first|exact trivial|exact Bz.refl _|exact Bz.nil _|refine Bz.agg ?_|refine Bz.sl ?_|refine And.intro ?_ ?_)) ?_
 (refine BB hn ((wC,U1):bH×gZ) hsu ?_;try dsimp only)
 rw[OO];cbv;refine Bv [.ptr 4 0,eD Uk,.i 1] (by unfold eD Uk;repeat'(first|exact trivial|exact Bz.refl _|exact Bz.nil _|refine Bz.agg ?_|refine Bz.sl ?_|refine And.intro ?_ ?_)) ?_;refine cW hta (⟨wP,Uk,1⟩:TQ) [4,5,6,7,8,9,10,11] ⟨trivial,t0⟩ rfl rfl (by decide) rfl rfl rfl rfl rfl ?_;intro L0 hp0;obtain rfl:L0=[]:=List.perm_nil.1 hp0;dsimp only;rw[Rv];cbv
 (refine eW hac (⟨Tb,5,0,wD,2⟩:CQ) [4,5,6,7,8,12,13,11] ⟨trivial,c1,by decide⟩ ?_;try dsimp only)
 rw[hl1];cbv
 (refine eW hac (⟨Yi,6,0,wD,3⟩:CQ) [4,5,6,7,8,12,13,11] ⟨trivial,c2,by decide⟩ ?_;try dsimp only)
 rw[hl2];cbv;refine Bv [.ptr 4 0,eD UE,.i 4] (by unfold eD UE;repeat'(first|exact trivial|exact Bz.refl _|exact Bz.nil _|refine Bz.agg ?_|refine Bz.sl ?_|refine And.intro ?_ ?_)) ?_;refine cW hta (⟨Wv,UE,4⟩:TQ) [4,5,6,7,8,12,13,11] ⟨trivial,t3⟩ rfl rfl (by decide) rfl rfl rfl rfl rfl ?_;intro L1 hp1;obtain rfl:L1=[⟨wX,VZ⟩]:=List.perm_singleton.1 hp1;dsimp only;rw[hl3];have hdl:C4.deliv.length≤1000000:=by rw[hd4];exact Nat.le_of_ble_eq_true rfl
 obtain⟨name4,parties4,deals4,⟨rc4,rL4⟩,cust4,deliv4⟩:=C4;dsimp only at hd4;subst hd4;obtain⟨hb4,hf4,ht4,hp4,hy4⟩:=h4;obtain⟨frm3,to3,nq3,kind3,ack3,deal3,text3,party3,index3,day3,cur3,amt3,docs3,bq3⟩:=l3;dsimp only at hk3;subst hk3;cbv;repeat'((first|refine .y fun h=>?_|refine .k fun z hz=>?_|fail)<;>cbv)
 refine ZX.i0 ?_;cbv;repeat'((first|refine .y fun h=>?_|fail)<;>cbv)
 (refine eW hde (⟨name4,parties4,deals4,⟨rc4,rL4⟩,cust4,[⟨hb4,hf4,ht4,hp4,hy4⟩]⟩:Cr) [4,5,6,7,8,14,15,11] hdl ?_;try dsimp only)
 cbv;repeat'((first|refine .y fun h=>?_|refine .k fun z hz=>?_|fail)<;>cbv)
 (refine eW hki (⟨name4,parties4,deals4,⟨rc4,rL4⟩,cust4,[⟨hb4,hf4,ht4,hp4,hy4⟩]⟩:Cr) [4,5,6,7,8,14,15,11] trivial ?_;try dsimp only)
 cbv;repeat'((first|refine .y fun h=>?_|fail)<;>cbv)
 (refine .q9 ?_;cbv;exact .inl (.f9 hK))
set_option maxHeartbeats 20000000
def CX:dL:=spec (fun i:Rg×At=>[KF i.1,Pi i.2]) (fun _=>[]) (fun i=>(i.2.kind=1∨i.2.kind=2∨i.2.kind=4∨i.2.kind=5)∧i.1.bills.length≤256∧(∀b∈i.1.bills,qR b)∧i.2.to.size≤maxLen) (fun i=>.i (eI i.1.bills (cP i.2))) fun _=>[]
theorem C7 (P:bI) (hf:bK P 63 sO) (hd:bK P 175 Eo) (hn:bK P 133 (iP (fun s=>s.size≤maxLen) bS)) (hw:bK P 143 oT) (hu:bK P 183 Dh):bM P UR CX:=by
 intro args H K hc;obtain⟨⟨⟨carrier,L⟩,a⟩,rfl,rfl,hp,hK⟩:=hc;refine⟨cK,?_⟩;dsimp only at hp hK⊢;obtain⟨hkind,hp,hch,hto⟩:=hp;rcases hkind with hkind|hkind|hkind|hkind
 all_goals
  obtain⟨q,hq⟩:∃q,q=eI L (cP a):=⟨_,rfl⟩
  obtain⟨e,he⟩:∃e,e=pE (fun b:Br=>decide (b.b.number=a.bill)) L:=⟨_,rfl⟩
  rw[←hq]at hK;obtain⟨q1,hq1⟩:∃q,q=k1 (cP a):=⟨_,rfl⟩
  obtain⟨q2,hq2⟩:∃q,q=k2 (cP a):=⟨_,rfl⟩
  have hwo:=FW (a:=a);have hq1':=hq1;rw[IX]at hq1';have hq2':=hq2;rw[Ru]at hq2';rw[←hq1]at hwo;have hbill:(cP a).bill=a.bill:=rfl;obtain⟨ws,hws⟩:∃ws,ws=jD a:=⟨_,rfl⟩
  have hwl:(if a.kind=5∨(a.kind=1∧a.index=-1) then [AV.i 0,.i 1,.i 2] else [.i a.index])=bJ iA ws:=by
   rw[hws];unfold jD
   split<;>rfl
  obtain⟨ms,hms⟩:∃ms,ms=bJ iA ws:=⟨_,rfl⟩
  rw[←hms]at hwl;have hwlen:ws.length≤3:=by
   rw[hws];unfold jD
   split
   ·exact aN 3
   ·exact Nat.le_add_left 1 2
  rw[←hws]at hwo;have hq0:q=match rN L a.bill with
   |some i=>match L[i]? with
    |some b=>mH b (cP a)
    |none=>4
   |none=>4:=hq
  clear hq;cases hb:rN L a.bill with
  |none=>
   rw[lM,hb]at he;subst he;rw[hb]at hq0;dsimp only at hq0;subst hq0;obtain⟨kind,index,day,bill,by_,to,b⟩:=a;dsimp only at hkind;obtain⟨nq1,cq1,sq1,frm1,to1,bq1,pq1,iq1,lq1⟩:=b;cbv
   (refine ZO hf ((⟨carrier,L⟩:Rg),bill) (by dsimp only;omega) ?_;try dsimp only)
   rw[lM,hb];cbv;repeat'((first|refine .y fun h=>?_|fail)<;>cbv)
   exact bY.mk ⟨_,Gh.refl _,.inl (.v9 (OQ hK (by rfl)))⟩
  |some i=>
   obtain⟨x,hx,_⟩:=eB hb;have he2:=he;rw[lM,hb]at he2;rw[hb]at hq0;dsimp only at hq0;rw[hx]at hq0;dsimp only at hq0;have hc:=hch x (aC hx);have hae:mH x (cP a)=if k1 (cP a) then 3 else if k2 (cP a) then 1 else if k3 x (cP a) then 9 else if k4 x (cP a) then 8 else if k5 x (cP a) then 6 else 0:=rfl
   rw[hae,←hq1,←hq2]at hq0;clear hae;obtain⟨w1,hw1⟩:∃w,w=k3 x (cP a):=⟨_,rfl⟩
   obtain⟨w2,hw2⟩:∃w,w=k4 x (cP a):=⟨_,rfl⟩
   obtain⟨w3,hw3⟩:∃w,w=k5 x (cP a):=⟨_,rfl⟩
   rw[←hw1,←hw2,←hw3]at hq0;have hww:q1=false→w1=ws.any (UA x (if a.kind=4 then 3 else 0))∧w2=ws.any (UK x a.by_)∧w3=ws.any (Un x a.kind a.day):=fun h=>by
    rw[hq1]at h;rw[hws,hw1,hw2,hw3];exact⟨Ga h x,E2 h x,Gm h x⟩
   clear hw1 hw2 hw3;obtain⟨d5,hd5⟩:∃d,d=gP a.day:=⟨_,rfl⟩
   obtain⟨n5,hn5⟩:∃d,d=bS a.to:=⟨_,rfl⟩
   unfold hY at hq2';rw[←hd5,←hn5]at hq2';obtain⟨kind,index,day,bill,by_,to,b⟩:=a;dsimp only at hkind;obtain⟨nq2,cq2,sq2,frm2,to2,bq2,pq2,iq2,lq2⟩:=b;dsimp only at hq1' hq2' hto he he2 hd5 hn5 hwl hww;cbv
   (refine ZO hf ((⟨carrier,L⟩:Rg),bill) (by dsimp only;omega) ?_;try dsimp only)
   rw[←he,he2];cbv;repeat'((first|refine .n fun h=>?_|refine .y fun h=>?_|refine .mk (fun h=>?_) fun h=>?_|fail)<;>cbv)
   all_goals try
    ((refine ZO hd day trivial ?_;try dsimp only)
     rw[←hd5];cases d5<;>(cbv;repeat'((first|refine .e ?_|refine .n fun h=>?_|refine .y fun h=>?_|refine And.intro ?_ ?_|fail)<;>cbv)))
   all_goals try
    ((refine ZO hn to hto ?_;try dsimp only)
     rw[←hn5];cases n5<;>(cbv;repeat'((first|refine .e ?_|refine .mk (fun h=>?_) fun h=>?_|refine And.intro ?_ ?_|fail)<;>cbv)))
   all_goals try
    (have f1:q1=true:=by(rw[hq1'];exact aH (by omega))
     (refine .q9 ?_;cbv;exact .inl (.f9 (fX hK (by rw[hq0,f1];rfl))))
     done)
   all_goals have f1:q1=false:=by(rw[hq1'];exact aG (by omega))
   all_goals try
    (have f2:q2=true:=by
      rw[hq2']
      first
       |(rw[aG (by omega:¬kind=3)];rfl)
       |(rw[aH (by omega:kind=1)];exact Bool.or_true _)
       |(rw[aH (by omega:kind=1),aH (by assumption:to=by_)];exact Bool.or_true _)
     (refine .q9 ?_;cbv;exact .inl (.f9 (fX hK (by rw[hq0,f1,f2];rfl))))
     done)
   all_goals
    (have f2:q2=false:=by
      rw[hq2']
      first
       |(rw[aH (by omega:kind=3),aG (by omega:¬kind=1)];rfl)
       |(rw[aG (by omega:¬kind=3),aG (by omega:¬kind=1)];rfl)
       |(rw[aG (by omega:¬kind=3),aH (by omega:kind=1),aG (by assumption:¬to=by_)];rfl)
     rw[f1,f2]at hq0)
   all_goals
    (have hwo:=hwo f1
     (refine ZO hw (⟨kind,index,day,bill,by_,to,⟨nq2,cq2,sq2,frm2,to2,bq2,pq2,iq2,lq2⟩⟩:At) trivial ?_;try dsimp only)
     rw[hwl,hms];obtain⟨g1,g2,g3⟩:=hww f1;obtain⟨sv,hsv⟩:∃sv:Int,sv=if kind=4 then 3 else 0:=⟨_,rfl⟩
     rw[←hsv]at g1)
   all_goals
    (first
     |rw[aE (by omega:¬kind=4)]at hsv
     |rw[aF (by omega:kind=4)]at hsv
     obtain⟨⟨nq1,cq1,sq1,frm1,to1,bq1,pq1,iq1,lq1⟩,st1,⟨sa1,ha1,ca1⟩,⟨sb1,hb1,cb1⟩,⟨sc1,hc1,cc1⟩⟩:=x;obtain⟨P1,hP1⟩:∃p,p=UA ⟨⟨nq1,cq1,sq1,frm1,to1,bq1,pq1,iq1,lq1⟩,st1,⟨sa1,ha1,ca1⟩,⟨sb1,hb1,cb1⟩,⟨sc1,hc1,cc1⟩⟩ sv:=⟨_,rfl⟩
     obtain⟨P2,hP2⟩:∃p,p=UK ⟨⟨nq1,cq1,sq1,frm1,to1,bq1,pq1,iq1,lq1⟩,st1,⟨sa1,ha1,ca1⟩,⟨sb1,hb1,cb1⟩,⟨sc1,hc1,cc1⟩⟩ by_:=⟨_,rfl⟩
     obtain⟨P3,hP3⟩:∃p,p=Un ⟨⟨nq1,cq1,sq1,frm1,to1,bq1,pq1,iq1,lq1⟩,st1,⟨sa1,ha1,ca1⟩,⟨sb1,hb1,cb1⟩,⟨sc1,hc1,cc1⟩⟩ kind day:=⟨_,rfl⟩
     rw[←hP1]at g1;rw[←hP2]at g2;rw[←hP3]at g3;obtain⟨v0,hv0⟩:∃v,v=iS ⟨sa1,ha1,ca1⟩ iq1:=⟨_,rfl⟩
     have a0:P1 0=(!decide (st1=0) || !decide (sa1=sv)):=by rw[hP1];rfl
     have b0:P2 0=(!decide (ha1=by_)):=by rw[hP2];rfl
     have c0:P3 0=(!decide (kind=3) && decide (day < v0)):=by rw[hP3,hv0];rfl
     obtain⟨v1,hv1⟩:∃v,v=iS ⟨sb1,hb1,cb1⟩ iq1:=⟨_,rfl⟩
     have a1:P1 1=(!decide (st1=0) || !decide (sb1=sv)):=by rw[hP1];rfl
     have b1:P2 1=(!decide (hb1=by_)):=by rw[hP2];rfl
     have c1:P3 1=(!decide (kind=3) && decide (day < v1)):=by rw[hP3,hv1];rfl
     obtain⟨v2,hv2⟩:∃v,v=iS ⟨sc1,hc1,cc1⟩ iq1:=⟨_,rfl⟩
     have a2:P1 2=(!decide (st1=0) || !decide (sc1=sv)):=by rw[hP1];rfl
     have b2:P2 2=(!decide (hc1=by_)):=by rw[hP2];rfl
     have c2:P3 2=(!decide (kind=3) && decide (day < v2)):=by rw[hP3,hv2];rfl
     have aP:∀k,P1 k=(!decide (st1=0) || !decide ((N5 k ⟨⟨nq1,cq1,sq1,frm1,to1,bq1,pq1,iq1,lq1⟩,st1,⟨sa1,ha1,ca1⟩,⟨sb1,hb1,cb1⟩,⟨sc1,hc1,cc1⟩⟩).state=sv)):=fun k=>by rw[hP1];rfl
     clear hP1 hP2 hP3;subst hsv;cbv;repeat'((first|refine .n fun h=>?_|refine .y fun h=>?_|fail)<;>cbv)
     refine bU [] (fun q:{ j:Nat // j≤ws.length∧jY P1 ws j }=>[(9,.i (nI q.1))]) (fun q=>[.blk 38 [.str carrier,.sl 11 (bJ jF L)],.blk 204 (yZ ⟨kind,index,day,bill,by_,to,⟨nq2,cq2,sq2,frm2,to2,bq2,pq2,iq2,lq2⟩⟩),.blk 104 (zE ⟨⟨nq1,cq1,sq1,frm1,to1,bq1,pq1,iq1,lq1⟩,st1,⟨sa1,ha1,ca1⟩,⟨sb1,hb1,cb1⟩,⟨sc1,hc1,cc1⟩⟩)]) (fun q=>fO 4 q.1) ⟨0,aI _,.zero⟩ ?_;rintro ⟨j1,hj1,hn1⟩;dsimp only at hj1 hn1⊢;cbv;repeat'((first|refine .mk (fun h=>?_) fun h=>?_|refine .k fun z hz=>?_|fail)<;>cbv)
     ·refine cM bQ bQ fun i l hi hl=>?_
      obtain rfl:j1=i:=bQ;rcases hwo l (aC hl)with rfl|rfl|rfl
      ·cbv;repeat'((first|refine .mk (fun h=>?_) fun h=>?_|refine .k fun z hz=>?_|refine ZX.i0 ?_|fail)<;>cbv)
       ·have e:P1 0=false:=by rw[a0,aH (by assumption:st1=0),aH (by assumption:sa1=_)];rfl
        obtain rfl:z=nI (j1+1):=bQ;exact bN ⟨j1+1,by exact bQ,hn1.succ hl e⟩ (bO bQ)
       ·have e:P1 0=true:=by rw[a0,aG (by assumption:¬sa1=_)];exact Bool.or_true _
        (refine .q9 ?_;cbv;exact .inl (.f9 (fX hK (by rw[hq0,g1.trans (gK hl e)];rfl))))
      ·cbv;repeat'((first|refine .mk (fun h=>?_) fun h=>?_|refine .k fun z hz=>?_|refine ZX.i1 ?_|fail)<;>cbv)
       ·have e:P1 1=false:=by rw[a1,aH (by assumption:st1=0),aH (by assumption:sb1=_)];rfl
        obtain rfl:z=nI (j1+1):=bQ;exact bN ⟨j1+1,by exact bQ,hn1.succ hl e⟩ (bO bQ)
       ·have e:P1 1=true:=by rw[a1,aG (by assumption:¬sb1=_)];exact Bool.or_true _
        (refine .q9 ?_;cbv;exact .inl (.f9 (fX hK (by rw[hq0,g1.trans (gK hl e)];rfl))))
      ·cbv;repeat'((first|refine .mk (fun h=>?_) fun h=>?_|refine .k fun z hz=>?_|refine ZX.i2 ?_|fail)<;>cbv)
       ·have e:P1 2=false:=by rw[a2,aH (by assumption:st1=0),aH (by assumption:sc1=_)];rfl
        obtain rfl:z=nI (j1+1):=bQ;exact bN ⟨j1+1,by exact bQ,hn1.succ hl e⟩ (bO bQ)
       ·have e:P1 2=true:=by rw[a2,aG (by assumption:¬sc1=_)];exact Bool.or_true _
        (refine .q9 ?_;cbv;exact .inl (.f9 (fX hK (by rw[hq0,g1.trans (gK hl e)];rfl))))
     ·obtain⟨l,hl⟩:=cJ (L:=ws) (i:=j1) bQ;have e:P1 l=true:=by rw[aP,aG (by assumption:¬st1=0)];rfl
      (refine .q9 ?_;cbv;exact .inl (.f9 (fX hK (by rw[hq0,g1.trans (gK hl e)];rfl))))
     ·have ej1:j1=ws.length:=bQ;rw[ej1]at hn1;have f1:=g1.trans (iW hn1);rw[f1]at hq0;refine bU [] (fun q:{ j:Nat // j≤ws.length∧jY P2 ws j }=>[(10,.i (nI q.1))]) (fun q=>[.blk 38 [.str carrier,.sl 11 (bJ jF L)],.blk 204 (yZ ⟨kind,index,day,bill,by_,to,⟨nq2,cq2,sq2,frm2,to2,bq2,pq2,iq2,lq2⟩⟩),.blk 104 (zE ⟨⟨nq1,cq1,sq1,frm1,to1,bq1,pq1,iq1,lq1⟩,st1,⟨sa1,ha1,ca1⟩,⟨sb1,hb1,cb1⟩,⟨sc1,hc1,cc1⟩⟩)]) (fun q=>fO 4 q.1) ⟨0,aI _,.zero⟩ ?_;rintro ⟨j2,hj2,hn2⟩;dsimp only at hj2 hn2⊢;cbv;repeat'((first|refine .mk (fun h=>?_) fun h=>?_|refine .k fun z hz=>?_|fail)<;>cbv)
      rotate_left
      ·have ej2:j2=ws.length:=bQ;rw[ej2]at hn2;have f2:=g2.trans (iW hn2);rw[f2]at hq0;refine bU [] (fun q:{ j:Nat // j≤ws.length∧jY P3 ws j }=>[(11,.i (nI q.1))]) (fun q=>[.blk 38 [.str carrier,.sl 11 (bJ jF L)],.blk 204 (yZ ⟨kind,index,day,bill,by_,to,⟨nq2,cq2,sq2,frm2,to2,bq2,pq2,iq2,lq2⟩⟩),.blk 104 (zE ⟨⟨nq1,cq1,sq1,frm1,to1,bq1,pq1,iq1,lq1⟩,st1,⟨sa1,ha1,ca1⟩,⟨sb1,hb1,cb1⟩,⟨sc1,hc1,cc1⟩⟩)]) (fun q=>fO 4 q.1) ⟨0,aI _,.zero⟩ ?_;rintro ⟨j3,hj3,hn3⟩;dsimp only at hj3 hn3⊢;cbv;repeat'((first|refine .n fun h=>?_|refine .mk (fun h=>?_) fun h=>?_|refine .k fun z hz=>?_|fail)<;>cbv)
       rotate_left
       ·have ej3:j3=ws.length:=bQ;rw[ej3]at hn3;have f3:=g3.trans (iW hn3);rw[f3]at hq0
        (refine .q9 ?_;cbv;exact .inl (.f9 (fX hK (by rw[hq0];rfl))))
       ·refine cM bQ bQ fun i l hi hl=>?_
        obtain rfl:j3=i:=bQ;rcases hwo l (aC hl)with rfl|rfl|rfl
        ·have e3:¬kind=3:=by omega
         cbv
         (refine ZO hu ((⟨⟨nq1,cq1,sq1,frm1,to1,bq1,pq1,iq1,lq1⟩,st1,⟨sa1,ha1,ca1⟩,⟨sb1,hb1,cb1⟩,⟨sc1,hc1,cc1⟩⟩:Br),0) ⟨.inl rfl,hc⟩ ?_;try dsimp only)
         have ev:iS (N5 0 ⟨⟨nq1,cq1,sq1,frm1,to1,bq1,pq1,iq1,lq1⟩,st1,⟨sa1,ha1,ca1⟩,⟨sb1,hb1,cb1⟩,⟨sc1,hc1,cc1⟩⟩) iq1=v0:=hv0.symm;rw[ev];cbv;repeat'((first|refine .mk (fun h=>?_) fun h=>?_|refine .k fun z hz=>?_|fail)<;>cbv)
         ·have e:P3 0=true:=by rw[c0,aG e3,aH (by assumption:day < v0)];rfl
          (refine .q9 ?_;cbv;exact .inl (.f9 (fX hK (by rw[hq0,g3.trans (gK hl e)];rfl))))
         ·have e:P3 0=false:=by rw[c0,aG (by omega:¬day < v0)];exact Bool.and_false _
          obtain rfl:z=nI (j3+1):=bQ;exact bN ⟨j3+1,by exact bQ,hn3.succ hl e⟩ (bO bQ)
        ·have e3:¬kind=3:=by omega
         cbv
         (refine ZO hu ((⟨⟨nq1,cq1,sq1,frm1,to1,bq1,pq1,iq1,lq1⟩,st1,⟨sa1,ha1,ca1⟩,⟨sb1,hb1,cb1⟩,⟨sc1,hc1,cc1⟩⟩:Br),1) ⟨.inr (.inl rfl),hc⟩ ?_;try dsimp only)
         have ev:iS (N5 1 ⟨⟨nq1,cq1,sq1,frm1,to1,bq1,pq1,iq1,lq1⟩,st1,⟨sa1,ha1,ca1⟩,⟨sb1,hb1,cb1⟩,⟨sc1,hc1,cc1⟩⟩) iq1=v1:=hv1.symm;rw[ev];cbv;repeat'((first|refine .mk (fun h=>?_) fun h=>?_|refine .k fun z hz=>?_|fail)<;>cbv)
         ·have e:P3 1=true:=by rw[c1,aG e3,aH (by assumption:day < v1)];rfl
          (refine .q9 ?_;cbv;exact .inl (.f9 (fX hK (by rw[hq0,g3.trans (gK hl e)];rfl))))
         ·have e:P3 1=false:=by rw[c1,aG (by omega:¬day < v1)];exact Bool.and_false _
          obtain rfl:z=nI (j3+1):=bQ;exact bN ⟨j3+1,by exact bQ,hn3.succ hl e⟩ (bO bQ)
        ·have e3:¬kind=3:=by omega
         cbv
         (refine ZO hu ((⟨⟨nq1,cq1,sq1,frm1,to1,bq1,pq1,iq1,lq1⟩,st1,⟨sa1,ha1,ca1⟩,⟨sb1,hb1,cb1⟩,⟨sc1,hc1,cc1⟩⟩:Br),2) ⟨.inr (.inr rfl),hc⟩ ?_;try dsimp only)
         have ev:iS (N5 2 ⟨⟨nq1,cq1,sq1,frm1,to1,bq1,pq1,iq1,lq1⟩,st1,⟨sa1,ha1,ca1⟩,⟨sb1,hb1,cb1⟩,⟨sc1,hc1,cc1⟩⟩) iq1=v2:=hv2.symm;rw[ev];cbv;repeat'((first|refine .mk (fun h=>?_) fun h=>?_|refine .k fun z hz=>?_|fail)<;>cbv)
         ·have e:P3 2=true:=by rw[c2,aG e3,aH (by assumption:day < v2)];rfl
          (refine .q9 ?_;cbv;exact .inl (.f9 (fX hK (by rw[hq0,g3.trans (gK hl e)];rfl))))
         ·have e:P3 2=false:=by rw[c2,aG (by omega:¬day < v2)];exact Bool.and_false _
          obtain rfl:z=nI (j3+1):=bQ;exact bN ⟨j3+1,by exact bQ,hn3.succ hl e⟩ (bO bQ)
      ·refine cM bQ bQ fun i l hi hl=>?_
       obtain rfl:j2=i:=bQ;rcases hwo l (aC hl)with rfl|rfl|rfl
       ·cbv;repeat'((first|refine .mk (fun h=>?_) fun h=>?_|refine .k fun z hz=>?_|refine ZX.i0 ?_|fail)<;>cbv)
        ·have e:P2 0=false:=by rw[b0,aH (by assumption:ha1=by_)];rfl
         obtain rfl:z=nI (j2+1):=bQ;exact bN ⟨j2+1,by exact bQ,hn2.succ hl e⟩ (bO bQ)
        ·have e:P2 0=true:=by rw[b0,aG (by assumption:¬ha1=by_)];rfl
         (refine .q9 ?_;cbv;exact .inl (.f9 (fX hK (by rw[hq0,g2.trans (gK hl e)];rfl))))
       ·cbv;repeat'((first|refine .mk (fun h=>?_) fun h=>?_|refine .k fun z hz=>?_|refine ZX.i1 ?_|fail)<;>cbv)
        ·have e:P2 1=false:=by rw[b1,aH (by assumption:hb1=by_)];rfl
         obtain rfl:z=nI (j2+1):=bQ;exact bN ⟨j2+1,by exact bQ,hn2.succ hl e⟩ (bO bQ)
        ·have e:P2 1=true:=by rw[b1,aG (by assumption:¬hb1=by_)];rfl
         (refine .q9 ?_;cbv;exact .inl (.f9 (fX hK (by rw[hq0,g2.trans (gK hl e)];rfl))))
       ·cbv;repeat'((first|refine .mk (fun h=>?_) fun h=>?_|refine .k fun z hz=>?_|refine ZX.i2 ?_|fail)<;>cbv)
        ·have e:P2 2=false:=by rw[b2,aH (by assumption:hc1=by_)];rfl
         obtain rfl:z=nI (j2+1):=bQ;exact bN ⟨j2+1,by exact bQ,hn2.succ hl e⟩ (bO bQ)
        ·have e:P2 2=true:=by rw[b2,aG (by assumption:¬hc1=by_)];rfl
         (refine .q9 ?_;cbv;exact .inl (.f9 (fX hK (by rw[hq0,g2.trans (gK hl e)];rfl)))))
theorem Ht {P:bI}{f:Nat}(hA:bK P f CX) (h3:bK P f (mY 3)):bK P f nD:=by
 intro args H K hc;obtain⟨i,rfl,rfl,⟨hk,hp⟩,hK⟩:=hc;by_cases h:i.2.kind=3
 ·exact h3 _ _ K ⟨i,rfl,rfl,⟨h,hp⟩,hK⟩
 ·exact hA _ _ K ⟨i,rfl,rfl,⟨by omega,hp⟩,hK⟩
set_option maxHeartbeats 4000000
theorem DH (P:bI) (hf:bK P 63 sO) (hd:bK P 175 Eo) (hn:bK P 133 (iP (fun s=>s.size≤maxLen) bS)) (hw:bK P 143 oT) (hu:bK P 183 Dh):bM P UR (mY 3):=by
 intro args H K hc;obtain⟨⟨⟨carrier,L⟩,a⟩,rfl,rfl,hp,hK⟩:=hc;refine⟨cK,?_⟩;dsimp only at hp hK⊢;obtain⟨hkind,hp,hch,hto⟩:=hp;obtain⟨q,hq⟩:∃q,q=eI L (cP a):=⟨_,rfl⟩
 obtain⟨e,he⟩:∃e,e=pE (fun b:Br=>decide (b.b.number=a.bill)) L:=⟨_,rfl⟩
 rw[←hq]at hK;obtain⟨q1,hq1⟩:∃q,q=k1 (cP a):=⟨_,rfl⟩
 obtain⟨q2,hq2⟩:∃q,q=k2 (cP a):=⟨_,rfl⟩
 have hwo:=FW (a:=a);have hq1':=hq1;rw[IX]at hq1';have hq2':=hq2;rw[Ru]at hq2';rw[←hq1]at hwo;have hbill:(cP a).bill=a.bill:=rfl;obtain⟨ws,hws⟩:∃ws,ws=jD a:=⟨_,rfl⟩
 have hwl:(if a.kind=5∨(a.kind=1∧a.index=-1) then [AV.i 0,.i 1,.i 2] else [.i a.index])=bJ iA ws:=by
  rw[hws];unfold jD
  split<;>rfl
 obtain⟨ms,hms⟩:∃ms,ms=bJ iA ws:=⟨_,rfl⟩
 rw[←hms]at hwl;have hwlen:ws.length≤3:=by
  rw[hws];unfold jD
  split
  ·exact aN 3
  ·exact Nat.le_add_left 1 2
 rw[←hws]at hwo;have hq0:q=match rN L a.bill with
  |some i=>match L[i]? with
   |some b=>mH b (cP a)
   |none=>4
  |none=>4:=hq
 clear hq;cases hb:rN L a.bill with
 |none=>
  rw[lM,hb]at he;subst he;rw[hb]at hq0;dsimp only at hq0;subst hq0;obtain⟨kind,index,day,bill,by_,to,b⟩:=a;obtain rfl:kind=3:=hkind;obtain⟨nq1,cq1,sq1,frm1,to1,bq1,pq1,iq1,lq1⟩:=b;cbv
  (refine ZO hf ((⟨carrier,L⟩:Rg),bill) (by dsimp only;omega) ?_;try dsimp only)
  rw[lM,hb];cbv;repeat'((first|refine .y fun h=>?_|fail)<;>cbv)
  exact bY.mk ⟨_,Gh.refl _,.inl (.v9 (OQ hK (by rfl)))⟩
 |some i=>
  obtain⟨x,hx,_⟩:=eB hb;have he2:=he;rw[lM,hb]at he2;rw[hb]at hq0;dsimp only at hq0;rw[hx]at hq0;dsimp only at hq0;have hc:=hch x (aC hx);have hae:mH x (cP a)=if k1 (cP a) then 3 else if k2 (cP a) then 1 else if k3 x (cP a) then 9 else if k4 x (cP a) then 8 else if k5 x (cP a) then 6 else 0:=rfl
  rw[hae,←hq1,←hq2]at hq0;clear hae;obtain⟨w1,hw1⟩:∃w,w=k3 x (cP a):=⟨_,rfl⟩
  obtain⟨w2,hw2⟩:∃w,w=k4 x (cP a):=⟨_,rfl⟩
  obtain⟨w3,hw3⟩:∃w,w=k5 x (cP a):=⟨_,rfl⟩
  rw[←hw1,←hw2,←hw3]at hq0;have hww:q1=false→w1=ws.any (UA x (if a.kind=4 then 3 else 0))∧w2=ws.any (UK x a.by_)∧w3=ws.any (Un x a.kind a.day):=fun h=>by
   rw[hq1]at h;rw[hws,hw1,hw2,hw3];exact⟨Ga h x,E2 h x,Gm h x⟩
  clear hw1 hw2 hw3;obtain⟨d5,hd5⟩:∃d,d=gP a.day:=⟨_,rfl⟩
  obtain⟨n5,hn5⟩:∃d,d=bS a.to:=⟨_,rfl⟩
  unfold hY at hq2';rw[←hd5,←hn5]at hq2';obtain⟨kind,index,day,bill,by_,to,b⟩:=a;obtain rfl:kind=3:=hkind;obtain⟨nq2,cq2,sq2,frm2,to2,bq2,pq2,iq2,lq2⟩:=b;dsimp only at hq1' hq2' hto he he2 hd5 hn5 hwl hww;cbv
  (refine ZO hf ((⟨carrier,L⟩:Rg),bill) (by dsimp only;omega) ?_;try dsimp only)
  rw[←he,he2];cbv;repeat'((first|refine .e ?_|refine .n fun h=>?_|refine .y fun h=>?_|refine .mk (fun h=>?_) fun h=>?_|refine And.intro ?_ ?_|fail)<;>cbv)
  all_goals try
   ((refine ZO hd day trivial ?_;try dsimp only)
    rw[←hd5];cases d5<;>(cbv))
  all_goals try
   ((refine ZO hn to hto ?_;try dsimp only)
    rw[←hn5];cases n5<;>(cbv))
  all_goals try
   (have f1:q1=true:=by(rw[hq1'];exact aH (by omega))
    (refine .q9 ?_;cbv;exact .inl (.f9 (fX hK (by rw[hq0,f1];rfl))))
    done)
  all_goals have f1:q1=false:=by(rw[hq1'];exact aG (by omega))
  all_goals try
   (have f2:q2=true:=by
     rw[hq2']
     first
      |(rw[aG (by decide:¬(3:Int)=3)];rfl)
      |(rw[aH (by decide:(3:Int)=1)];exact Bool.or_true _)
      |(rw[aH (by decide:(3:Int)=1),aH (by assumption:to=by_)];exact Bool.or_true _)
    (refine .q9 ?_;cbv;exact .inl (.f9 (fX hK (by rw[hq0,f1,f2];rfl))))
    done)
  all_goals
   (have f2:q2=false:=by
     rw[hq2']
     first
      |(rw[aH (by decide:(3:Int)=3),aG (by decide:¬(3:Int)=1)];rfl)
      |(rw[aG (by decide:¬(3:Int)=3),aG (by decide:¬(3:Int)=1)];rfl)
      |(rw[aG (by decide:¬(3:Int)=3),aH (by decide:(3:Int)=1),aG (by assumption:¬to=by_)];rfl)
    rw[f1,f2]at hq0)
  all_goals
   (have hwo:=hwo f1
    (refine ZO hw (⟨3,index,day,bill,by_,to,⟨nq2,cq2,sq2,frm2,to2,bq2,pq2,iq2,lq2⟩⟩:At) trivial ?_;try dsimp only)
    rw[hwl,hms];obtain⟨g1,g2,g3⟩:=hww f1;obtain⟨sv,hsv⟩:∃sv:Int,sv=if (3:Int)=4 then 3 else 0:=⟨_,rfl⟩
    rw[←hsv]at g1)
  all_goals
   (rw[aE (by decide)]at hsv
    obtain⟨⟨nq1,cq1,sq1,frm1,to1,bq1,pq1,iq1,lq1⟩,st1,⟨sa1,ha1,ca1⟩,⟨sb1,hb1,cb1⟩,⟨sc1,hc1,cc1⟩⟩:=x;obtain⟨P1,hP1⟩:∃p,p=UA ⟨⟨nq1,cq1,sq1,frm1,to1,bq1,pq1,iq1,lq1⟩,st1,⟨sa1,ha1,ca1⟩,⟨sb1,hb1,cb1⟩,⟨sc1,hc1,cc1⟩⟩ sv:=⟨_,rfl⟩
    obtain⟨P2,hP2⟩:∃p,p=UK ⟨⟨nq1,cq1,sq1,frm1,to1,bq1,pq1,iq1,lq1⟩,st1,⟨sa1,ha1,ca1⟩,⟨sb1,hb1,cb1⟩,⟨sc1,hc1,cc1⟩⟩ by_:=⟨_,rfl⟩
    obtain⟨P3,hP3⟩:∃p,p=Un ⟨⟨nq1,cq1,sq1,frm1,to1,bq1,pq1,iq1,lq1⟩,st1,⟨sa1,ha1,ca1⟩,⟨sb1,hb1,cb1⟩,⟨sc1,hc1,cc1⟩⟩ (3:Int) day:=⟨_,rfl⟩
    rw[←hP1]at g1;rw[←hP2]at g2;rw[←hP3]at g3;obtain⟨v0,hv0⟩:∃v,v=iS ⟨sa1,ha1,ca1⟩ iq1:=⟨_,rfl⟩
    have a0:P1 0=(!decide (st1=0) || !decide (sa1=sv)):=by rw[hP1];rfl
    have b0:P2 0=(!decide (ha1=by_)):=by rw[hP2];rfl
    have c0:P3 0=(!decide ((3:Int)=3) && decide (day < v0)):=by rw[hP3,hv0];rfl
    obtain⟨v1,hv1⟩:∃v,v=iS ⟨sb1,hb1,cb1⟩ iq1:=⟨_,rfl⟩
    have a1:P1 1=(!decide (st1=0) || !decide (sb1=sv)):=by rw[hP1];rfl
    have b1:P2 1=(!decide (hb1=by_)):=by rw[hP2];rfl
    have c1:P3 1=(!decide ((3:Int)=3) && decide (day < v1)):=by rw[hP3,hv1];rfl
    obtain⟨v2,hv2⟩:∃v,v=iS ⟨sc1,hc1,cc1⟩ iq1:=⟨_,rfl⟩
    have a2:P1 2=(!decide (st1=0) || !decide (sc1=sv)):=by rw[hP1];rfl
    have b2:P2 2=(!decide (hc1=by_)):=by rw[hP2];rfl
    have c2:P3 2=(!decide ((3:Int)=3) && decide (day < v2)):=by rw[hP3,hv2];rfl
    have aP:∀k,P1 k=(!decide (st1=0) || !decide ((N5 k ⟨⟨nq1,cq1,sq1,frm1,to1,bq1,pq1,iq1,lq1⟩,st1,⟨sa1,ha1,ca1⟩,⟨sb1,hb1,cb1⟩,⟨sc1,hc1,cc1⟩⟩).state=sv)):=fun k=>by rw[hP1];rfl
    have hp3:∀k,P3 k=false:=fun k=>by rw[hP3];rfl
    clear hP1 hP2 hP3;subst hsv;cbv;repeat'((first|refine .n fun h=>?_|fail)<;>cbv)
    refine bU [] (fun q:{ j:Nat // j≤ws.length∧jY P1 ws j }=>[(9,.i (nI q.1))]) (fun q=>[.blk 38 [.str carrier,.sl 11 (bJ jF L)],.blk 204 (yZ ⟨(3:Int),index,day,bill,by_,to,⟨nq2,cq2,sq2,frm2,to2,bq2,pq2,iq2,lq2⟩⟩),.blk 104 (zE ⟨⟨nq1,cq1,sq1,frm1,to1,bq1,pq1,iq1,lq1⟩,st1,⟨sa1,ha1,ca1⟩,⟨sb1,hb1,cb1⟩,⟨sc1,hc1,cc1⟩⟩)]) (fun q=>fO 4 q.1) ⟨0,aI _,.zero⟩ ?_;rintro ⟨j1,hj1,hn1⟩;dsimp only at hj1 hn1⊢;cbv;repeat'((first|refine .mk (fun h=>?_) fun h=>?_|refine .k fun z hz=>?_|fail)<;>cbv)
    ·refine cM bQ bQ fun i l hi hl=>?_
     obtain rfl:j1=i:=bQ;rcases hwo l (aC hl)with rfl|rfl|rfl
     ·cbv;repeat'((first|refine .mk (fun h=>?_) fun h=>?_|refine .k fun z hz=>?_|refine ZX.i0 ?_|fail)<;>cbv)
      ·have e:P1 0=false:=by rw[a0,aH (by assumption:st1=0),aH (by assumption:sa1=_)];rfl
       obtain rfl:z=nI (j1+1):=bQ;exact bN ⟨j1+1,by exact bQ,hn1.succ hl e⟩ (bO bQ)
      ·have e:P1 0=true:=by rw[a0,aG (by assumption:¬sa1=_)];exact Bool.or_true _
       (refine .q9 ?_;cbv;exact .inl (.f9 (fX hK (by rw[hq0,g1.trans (gK hl e)];rfl))))
     ·cbv;repeat'((first|refine .mk (fun h=>?_) fun h=>?_|refine .k fun z hz=>?_|refine ZX.i1 ?_|fail)<;>cbv)
      ·have e:P1 1=false:=by rw[a1,aH (by assumption:st1=0),aH (by assumption:sb1=_)];rfl
       obtain rfl:z=nI (j1+1):=bQ;exact bN ⟨j1+1,by exact bQ,hn1.succ hl e⟩ (bO bQ)
      ·have e:P1 1=true:=by rw[a1,aG (by assumption:¬sb1=_)];exact Bool.or_true _
       (refine .q9 ?_;cbv;exact .inl (.f9 (fX hK (by rw[hq0,g1.trans (gK hl e)];rfl))))
     ·cbv;repeat'((first|refine .mk (fun h=>?_) fun h=>?_|refine .k fun z hz=>?_|refine ZX.i2 ?_|fail)<;>cbv)
      ·have e:P1 2=false:=by rw[a2,aH (by assumption:st1=0),aH (by assumption:sc1=_)];rfl
       obtain rfl:z=nI (j1+1):=bQ;exact bN ⟨j1+1,by exact bQ,hn1.succ hl e⟩ (bO bQ)
      ·have e:P1 2=true:=by rw[a2,aG (by assumption:¬sc1=_)];exact Bool.or_true _
       (refine .q9 ?_;cbv;exact .inl (.f9 (fX hK (by rw[hq0,g1.trans (gK hl e)];rfl))))
    ·obtain⟨l,hl⟩:=cJ (L:=ws) (i:=j1) bQ;have e:P1 l=true:=by rw[aP,aG (by assumption:¬st1=0)];rfl
     (refine .q9 ?_;cbv;exact .inl (.f9 (fX hK (by rw[hq0,g1.trans (gK hl e)];rfl))))
    ·have ej1:j1=ws.length:=bQ;rw[ej1]at hn1;have f1:=g1.trans (iW hn1);rw[f1]at hq0;refine bU [] (fun q:{ j:Nat // j≤ws.length∧jY P2 ws j }=>[(10,.i (nI q.1))]) (fun q=>[.blk 38 [.str carrier,.sl 11 (bJ jF L)],.blk 204 (yZ ⟨(3:Int),index,day,bill,by_,to,⟨nq2,cq2,sq2,frm2,to2,bq2,pq2,iq2,lq2⟩⟩),.blk 104 (zE ⟨⟨nq1,cq1,sq1,frm1,to1,bq1,pq1,iq1,lq1⟩,st1,⟨sa1,ha1,ca1⟩,⟨sb1,hb1,cb1⟩,⟨sc1,hc1,cc1⟩⟩)]) (fun q=>fO 4 q.1) ⟨0,aI _,.zero⟩ ?_;rintro ⟨j2,hj2,hn2⟩;dsimp only at hj2 hn2⊢;cbv;repeat'((first|refine .mk (fun h=>?_) fun h=>?_|refine .k fun z hz=>?_|fail)<;>cbv)
     rotate_left
     ·have ej2:j2=ws.length:=bQ;rw[ej2]at hn2;have f2:=g2.trans (iW hn2);rw[f2]at hq0;refine bU [] (fun q:{ j:Nat // j≤ws.length∧jY P3 ws j }=>[(11,.i (nI q.1))]) (fun q=>[.blk 38 [.str carrier,.sl 11 (bJ jF L)],.blk 204 (yZ ⟨(3:Int),index,day,bill,by_,to,⟨nq2,cq2,sq2,frm2,to2,bq2,pq2,iq2,lq2⟩⟩),.blk 104 (zE ⟨⟨nq1,cq1,sq1,frm1,to1,bq1,pq1,iq1,lq1⟩,st1,⟨sa1,ha1,ca1⟩,⟨sb1,hb1,cb1⟩,⟨sc1,hc1,cc1⟩⟩)]) (fun q=>fO 4 q.1) ⟨0,aI _,.zero⟩ ?_;rintro ⟨j3,hj3,hn3⟩;dsimp only at hj3 hn3⊢;cbv;repeat'((first|refine .y fun h=>?_|refine .mk (fun h=>?_) fun h=>?_|refine .k fun z hz=>?_|fail)<;>cbv)
      rotate_left
      ·have ej3:j3=ws.length:=bQ;rw[ej3]at hn3;have f3:=g3.trans (iW hn3);rw[f3]at hq0
       (refine .q9 ?_;cbv;exact .inl (.f9 (fX hK (by rw[hq0];rfl))))
      ·obtain⟨l,hl⟩:=cJ (L:=ws) (i:=j3) bQ;obtain rfl:z=nI (j3+1):=bQ;exact bN ⟨j3+1,by exact bQ,hn3.succ hl (hp3 l)⟩ (bO bQ)
     ·refine cM bQ bQ fun i l hi hl=>?_
      obtain rfl:j2=i:=bQ;rcases hwo l (aC hl)with rfl|rfl|rfl
      ·cbv;repeat'((first|refine .mk (fun h=>?_) fun h=>?_|refine .k fun z hz=>?_|refine ZX.i0 ?_|fail)<;>cbv)
       ·have e:P2 0=false:=by rw[b0,aH (by assumption:ha1=by_)];rfl
        obtain rfl:z=nI (j2+1):=bQ;exact bN ⟨j2+1,by exact bQ,hn2.succ hl e⟩ (bO bQ)
       ·have e:P2 0=true:=by rw[b0,aG (by assumption:¬ha1=by_)];rfl
        (refine .q9 ?_;cbv;exact .inl (.f9 (fX hK (by rw[hq0,g2.trans (gK hl e)];rfl))))
      ·cbv;repeat'((first|refine .mk (fun h=>?_) fun h=>?_|refine .k fun z hz=>?_|refine ZX.i1 ?_|fail)<;>cbv)
       ·have e:P2 1=false:=by rw[b1,aH (by assumption:hb1=by_)];rfl
        obtain rfl:z=nI (j2+1):=bQ;exact bN ⟨j2+1,by exact bQ,hn2.succ hl e⟩ (bO bQ)
       ·have e:P2 1=true:=by rw[b1,aG (by assumption:¬hb1=by_)];rfl
        (refine .q9 ?_;cbv;exact .inl (.f9 (fX hK (by rw[hq0,g2.trans (gK hl e)];rfl))))
      ·cbv;repeat'((first|refine .mk (fun h=>?_) fun h=>?_|refine .k fun z hz=>?_|refine ZX.i2 ?_|fail)<;>cbv)
       ·have e:P2 2=false:=by rw[b2,aH (by assumption:hc1=by_)];rfl
        obtain rfl:z=nI (j2+1):=bQ;exact bN ⟨j2+1,by exact bQ,hn2.succ hl e⟩ (bO bQ)
       ·have e:P2 2=true:=by rw[b2,aG (by assumption:¬hc1=by_)];rfl
        (refine .q9 ?_;cbv;exact .inl (.f9 (fX hK (by rw[hq0,g2.trans (gK hl e)];rfl)))))
theorem Rk:bK Tryz.prog 50 Tw:=bL (by kernel_rfl) (Mx _)
theorem N7:bK Tryz.prog 51 Jm:=bL (by kernel_rfl) (Kc _)
theorem A1:bK Tryz.prog 21 uH:=bL (by kernel_rfl) (Gc _ Rk N7)
theorem Lx:bK Tryz.prog 48 rE:=bL (by kernel_rfl) (DR _)
theorem Jw:bK Tryz.prog 49 qT:=bL (by kernel_rfl) (HI _)
theorem JJ:bK Tryz.prog 52 (D8 77 5 72):=bL (by kernel_rfl) (Dc _)
theorem CV:bK Tryz.prog 68 Ek:=bL (by kernel_rfl) (Hu _ N7 JJ)
theorem Qk:bK Tryz.prog 104 (iP (fun _=>True) bS):=bL (by kernel_rfl) (GG _)
theorem FR:bK Tryz.prog 74 zQ:=bL (by kernel_rfl) (Fv _ Qk)
theorem OX:bK Tryz.prog 75 xZ:=bL (by kernel_rfl) (Ly _)
theorem Pv:bK Tryz.prog 118 HD:=bL (by kernel_rfl) (HV _ FR OX)
theorem NO:bK Tryz.prog 43 I3:=bL (by kernel_rfl) (KA _ FR OX)
theorem Qa:bK Tryz.prog 79 (uN (fun k=>k=4) oK):=bL (by kernel_rfl) (G2 _ CV Pv NO)
theorem zX:bK Tryz.prog 120 CH:=bL (by kernel_rfl) (HN _)
theorem Af:bK Tryz.prog 184 (FI lN):=bL (by kernel_rfl) (BP _)
theorem CE:bK Tryz.prog 185 (FI jB):=bL (by kernel_rfl) (C9 _)
theorem xM:bK Tryz.prog 144 (iP (fun _=>True) bS):=bL (by kernel_rfl) (J4 _ Af CE)
theorem Tf:bK Tryz.prog 106 (pZ [.ptr 1 0] fun _ _=>false):=bL (by kernel_rfl) (J9 _)
theorem Rz:bK Tryz.prog 107 (Cl k1):=bL (by kernel_rfl) (Kw _)
theorem Jx:bK Tryz.prog 109 Eo:=bL (by kernel_rfl) (IE _)
theorem Sr:bK Tryz.prog 108 (Cl k2):=bL (by kernel_rfl) (K7 _ Jx)
theorem Vv:bK Tryz.prog 112 (OS nQ):=bL (by kernel_rfl) (OZ _)
theorem KZ:bK Tryz.prog 111 (EZ 112 nQ):=bL (by kernel_rfl) (Ag _ 112 nQ ⟨by kernel_rfl⟩ Vv)
theorem T8:bK Tryz.prog 110 (pZ [.ptr 1 0,.ptr 0 0] k3):=bL (by kernel_rfl) (KG _ KZ)
theorem Vr:bK Tryz.prog 114 (OS iX):=bL (by kernel_rfl) (Nd _)
theorem Lr:bK Tryz.prog 111 (EZ 114 iX):=bL (by kernel_rfl) (Ag _ 114 iX ⟨by kernel_rfl⟩ Vr)
theorem Sb:bK Tryz.prog 113 (pZ [.ptr 1 0,.ptr 0 0] k4):=bL (by kernel_rfl) (Km _ Lr)
theorem Ud:bK Tryz.prog 117 OI:=bL (by kernel_rfl) (JQ _)
theorem Vl:bK Tryz.prog 116 SV:=bL (by kernel_rfl) (MN _ Ud)
theorem K5:bK Tryz.prog 111 (NG 116):=bL (by kernel_rfl) (Hz _ 116 ⟨by kernel_rfl⟩ Vl)
theorem TH:bK Tryz.prog 115 (pZ [.ptr 0 0,.ptr 1 0] k5):=bL (by kernel_rfl) (KL _ K5)
theorem PE:bK Tryz.prog 105 R5:=bL (by kernel_rfl) (Iq _ ⟨⟨by kernel_rfl⟩,⟨by kernel_rfl⟩,⟨by kernel_rfl⟩,⟨by kernel_rfl⟩,⟨by kernel_rfl⟩,⟨by kernel_rfl⟩,Tf,Rz,Sr,T8,Sb,TH⟩)
theorem Qy:bK Tryz.prog 106 (spec (fun _:Unit=>[.ptr 0 0]) (fun _=>[.blk 119 [.v (.pointer none)]]) (fun _=>True) (fun _=>.bl true) fun _=>[.blk 119 [.v (.pointer none)]]):=bL (by kernel_rfl) (H5 _)
theorem MQ:bK Tryz.prog 105 TC:=bL (by kernel_rfl) (EM _ ⟨by kernel_rfl⟩ Qy)
theorem IO:bK Tryz.prog 78 K3:=bL (by kernel_rfl) (NF _ PE MQ)
theorem PL:bK Tryz.prog 212 H8:=bL (by kernel_rfl) (Hg _ xM)
theorem Pk:bK Tryz.prog 214 (Cc 1):=bL (by kernel_rfl) (GZ _)
theorem OG:bK Tryz.prog 213 (Cc 2):=bL (by kernel_rfl) (FX _)
theorem PO:bK Tryz.prog 205 ID:=bL (by kernel_rfl) (Hl _ PL Pk OG)
theorem Q4:bK Tryz.prog 186 Ha:=bL (by kernel_rfl) (HG _ xM PO)
theorem Ke:bK Tryz.prog 145 El:=bL (by kernel_rfl) (D4 _ Q4)
theorem Lh:bK Tryz.prog 119 Bo:=bL (by kernel_rfl) (Dk _ xM IO Ke)
theorem QY:bK Tryz.prog 146 GI:=bL (by kernel_rfl) (Im _)
theorem vH:bK Tryz.prog 121 Ks:=bL (by kernel_rfl) (EH _ QY)
theorem G4:bK Tryz.prog 80 (gO (fun k=>k=8) nB):=bL (by kernel_rfl) (BT _ zX Lh vH)
theorem UI:bK Tryz.prog 147 Tx:=bL (by kernel_rfl) (Of _)
theorem qS:bK Tryz.prog 87 (mJ 1 16):=bL (by kernel_rfl) (FT _)
theorem EI:bK Tryz.prog 122 sU:=bL (by kernel_rfl) (AG _ UI qS IO)
theorem C1:bK Tryz.prog 81 (AU (fun k=>k=20) pV):=bL (by kernel_rfl) (yO _ CV NO zX EI qS vH)
theorem Iv:bK Tryz.prog 82 (gO (fun k=>k=19) BW):=bL (by kernel_rfl) (BH _)
theorem Sa:bK Tryz.prog 46 MK:=bL (by kernel_rfl) (Lm _ IO)
theorem Px:bK Tryz.prog 83 (gO (fun k=>k=23) qL):=bL (by kernel_rfl) (Id _ zX Sa vH)
theorem Lg:bK Tryz.prog 123 A4:=bL (by kernel_rfl) (D7 _ IO)
theorem GJ:bK Tryz.prog 84 (gO (fun k=>k=24) qY):=bL (by kernel_rfl) (BK _ zX Lg vH)
theorem uY:bK Tryz.prog 18 (nP fun _=>True):=bL (by kernel_rfl) (JO Lx Jw ⟨⟨by kernel_rfl⟩,Qa,⟨by kernel_rfl⟩,G4,⟨by kernel_rfl⟩,C1,⟨by kernel_rfl⟩,Iv,⟨by kernel_rfl⟩,Px,⟨by kernel_rfl⟩,GJ⟩)
theorem Sc:bK Tryz.prog 53 Cx:=bL (by kernel_rfl) (Kr _)
theorem Q2:bK Tryz.prog 120 GK:=bL (by kernel_rfl) (Hw _)
theorem Vt:bK Tryz.prog 206 LJ:=bL (by kernel_rfl) (MJ _ Af CE)
theorem QF:bK Tryz.prog 170 pI:=bL (by kernel_rfl) (HW _)
theorem UH:bK Tryz.prog 131 SR:=bL (by kernel_rfl) (LW _ QF)
theorem Po:bK Tryz.prog 93 pI:=bL (by kernel_rfl) (IA _ UH)
theorem QT:bK Tryz.prog 60 pI:=bL (by kernel_rfl) (Ki _ Po)
theorem Nc:bK Tryz.prog 207 TX:=bL (by kernel_rfl) (Fy _ QT)
theorem QB:bK Tryz.prog 187 (iP (fun _=>True) lF):=bL (by kernel_rfl) (Ix _ Vt Nc)
theorem R7:bK Tryz.prog 188 (R0 fun s=>!bS s):=bL (by kernel_rfl) (LG _ xM)
theorem Na:bK Tryz.prog 189 (OL 188 fun s=>!bS s):=bL (by kernel_rfl) (Kz _ 188 (fun s=>!bS s) ⟨by kernel_rfl⟩ R7)
theorem OH:bK Tryz.prog 152 (Np 188 fun s=>!bS s):=bL (by kernel_rfl) (LO _ 188 (fun s=>!bS s) Na)
theorem Vm:bK Tryz.prog 149 Sy:=bL (by kernel_rfl) (Ma _ xM QB Jx OH)
theorem SZ:bK Tryz.prog 148 (yP [.ptr 2 0,.ptr 3 0,.ptr 4 0] i1):=bL (by kernel_rfl) (Lw _ Vm xM)
theorem Ty:bK Tryz.prog 150 (yP [.ptr 2 0,.ptr 3 0] i2):=bL (by kernel_rfl) (K8 _)
theorem QN:bK Tryz.prog 208 HR:=bL (by kernel_rfl) (It _)
theorem Ip:bK Tryz.prog 191 xS:=bL (by kernel_rfl) (BE _ QN)
theorem SQ:bK Tryz.prog 190 (Ni lK):=bL (by kernel_rfl) (Lq _ Ip)
theorem Eb:bK Tryz.prog 69 (T0 190 lK):=bL (by kernel_rfl) (BC _ 190 lK ⟨by kernel_rfl⟩ SQ Jz)
theorem UY:bK Tryz.prog 154 Ue:=bL (by kernel_rfl) (Od _ Eb)
theorem PA:bK Tryz.prog 153 (spec (fun i:oV×bH=>[.str i.2,.ptr 2 0]) (fun i=>uW i.1) (fun i=>Dt i.1) (fun i=>.bl (DY i.1 i.2)) fun i=>uW i.1):=bL (by kernel_rfl) (HY _ UY)
theorem SM:bK Tryz.prog 189 O9:=bL (by kernel_rfl) (Lb _ ⟨by kernel_rfl⟩ PA)
theorem Tj:bK Tryz.prog 152 Oo:=bL (by kernel_rfl) (JK _ SM)
theorem TZ:bK Tryz.prog 151 (yP [.ptr 3 0,.ptr 2 0] i3):=bL (by kernel_rfl) (LD _ Tj)
theorem TV:bK Tryz.prog 155 (yP [.ptr 2 0] i4):=bL (by kernel_rfl) (K9 _)
theorem NK:bK Tryz.prog 105 Pd:=bL (by kernel_rfl) (FL _ ⟨⟨by kernel_rfl⟩,⟨by kernel_rfl⟩,⟨by kernel_rfl⟩,⟨by kernel_rfl⟩,SZ,Ty,TZ,TV⟩)
theorem sZ:bK Tryz.prog 54 G1:=bL (by kernel_rfl) (BI _ qS)
theorem QW:bK Tryz.prog 124 HB:=bL (by kernel_rfl) (Iz _ NK sZ)
theorem Q3:bK Tryz.prog 157 (Es eO):=bL (by kernel_rfl) (HJ _ Ml)
theorem J3:bK Tryz.prog 156 Bb:=bL (by kernel_rfl) (DL _)
theorem NP:bK Tryz.prog 125 GC:=bL (by kernel_rfl) (Gj _ Q3 L4 J3)
theorem QL:bK Tryz.prog 85 (qM sK):=bL (by kernel_rfl) (G9 _ Q2 qS QW NP)
theorem Qb:bK Tryz.prog 86 (qM Gd):=bL (by kernel_rfl) (GQ _ qS)
theorem GP:bK Tryz.prog 23 (uQ fun _=>True):=bL (by kernel_rfl) (MW Sc ⟨by kernel_rfl⟩ QL ⟨by kernel_rfl⟩ Qb Jw)
theorem CO:bK Tryz.prog 52 (mJ 5 72):=bL (by kernel_rfl) (Er _)
theorem Oy:bK Tryz.prog 22 I7:=bL (by kernel_rfl) (Lu _ CO)
theorem Qu:bK Tryz.prog 30 HZ:=bL (by kernel_rfl) (HP _)
theorem wV:bK Tryz.prog 11 rC:=bL (by kernel_rfl) (Ee _ A1 uY GP Oy Qu)
theorem Qi:bK Tryz.prog 31 GE:=bL (by kernel_rfl) (Ig _)
theorem C8:bK Tryz.prog 13 nC:=bL (by kernel_rfl) (Lp _)
theorem DW:bK Tryz.prog 94 qP:=bL (by kernel_rfl) (GF _)
theorem uX:bK Tryz.prog 20 pT:=bL (by kernel_rfl) (G6 _)
theorem LU:bK Tryz.prog 95 zW:=bL (by kernel_rfl) (Gr _ uX)
theorem B5:bK Tryz.prog 178 (FI lN):=bL (by kernel_rfl) (DA _)
theorem A8:bK Tryz.prog 179 (FI jB):=bL (by kernel_rfl) (Fb _)
theorem zI:bK Tryz.prog 133 (iP (fun s=>s.size≤maxLen) bS):=bL (by kernel_rfl) (Iy _ B5 A8)
theorem Pp:bK Tryz.prog 174 Hn:=bL (by kernel_rfl) (Ii _ zI)
theorem GS:bK Tryz.prog 175 Eo:=bL (by kernel_rfl) (J6 _)
theorem IM:bK Tryz.prog 202 (iP (fun _=>True) mW):=bL (by kernel_rfl) (HU _ B5 A8)
theorem TR:bK Tryz.prog 203 LJ:=bL (by kernel_rfl) (Lc _ IM)
theorem L5:bK Tryz.prog 176 (iP (fun _=>True) lF):=bL (by kernel_rfl) (E9 _ IM A8 TR)
theorem Uv:bK Tryz.prog 177 Wo:=bL (by kernel_rfl) (PD _)
theorem Tg:bK Tryz.prog 132 Mh:=bL (by kernel_rfl) (JU _ Pp GS L5 Uv)
theorem pM:bK Tryz.prog 63 sO:=bL (by kernel_rfl) (Ku _)
theorem TG:bK Tryz.prog 134 MY:=bL (by kernel_rfl) (LA _ Uv)
theorem Pt:bK Tryz.prog 135 Ia:=bL (by kernel_rfl) (Ir _)
theorem Fp:bK Tryz.prog 96 uG:=bL (by kernel_rfl) (E6 _ Tg zI pM TG Pt)
theorem B1:bK Tryz.prog 136 Eh:=bL (by kernel_rfl) (Dl _)
theorem H4:bK Tryz.prog 137 N6:=bL (by kernel_rfl) (BR _ Ja B1)
theorem Qv:bK Tryz.prog 138 Ik:=bL (by kernel_rfl) (HL _)
theorem LM:bK Tryz.prog 97 GC:=bL (by kernel_rfl) (CY _ H4 Qv B1)
theorem PU:bK Tryz.prog 65 (Tz fun _=>True):=bL (by kernel_rfl) (JH C8 DW uX LU Fp LM)
theorem Jb:bK Tryz.prog 17 mA:=bL (by kernel_rfl) (HA _)
theorem Mn:bK Tryz.prog 204 (iP (fun s=>s.size≤maxLen) bS):=bL (by kernel_rfl) (FA _)
theorem Ch:bK Tryz.prog 181 (iP (fun s=>s.size≤maxLen) bS):=bL (by kernel_rfl) (Ep _ Mn)
theorem EO:bK Tryz.prog 182 xZ:=bL (by kernel_rfl) (Fx _)
theorem Ef:bK Tryz.prog 41 I0:=bL (by kernel_rfl) (Hm _)
theorem IW:bK Tryz.prog 62 NR:=bL (by kernel_rfl) (Hc _)
theorem Cf:bK Tryz.prog 39 Dy:=bL (by kernel_rfl) (DU _ IW)
theorem OY:bK Tryz.prog 140 C0:=bL (by kernel_rfl) (FO _ Ch EO Ef Cf)
theorem Cu:bK Tryz.prog 141 Dj:=bL (by kernel_rfl) (CT _ Ch EO Ef)
theorem Oa:bK Tryz.prog 99 zT:=bL (by kernel_rfl) (ET _ uX OY Cu DW)
theorem T6:bK Tryz.prog 100 (qF 0):=bL (by kernel_rfl) (Kb _ Fp)
theorem pP:bK Tryz.prog 143 oT:=bL (by kernel_rfl) (HO _)
theorem I1:bK Tryz.prog 183 Dh:=bL (by kernel_rfl) (IF _)
theorem Lz:bK Tryz.prog 142 CX:=bL (by kernel_rfl) (C7 _ pM GS zI pP I1)
theorem J8:bK Tryz.prog 142 (mY 3):=bL (by kernel_rfl) (DH _ pM GS zI pP I1)
theorem jQ:bK Tryz.prog 142 nD:=Ht Lz J8
theorem Sw:bK Tryz.prog 100 (qF 1):=bL (by kernel_rfl) (JN _ jQ pM pP)
theorem ST:bK Tryz.prog 100 (qF 2):=Pa (by kernel_rfl) (Kn _ jQ pM pP)
theorem S6:bK Tryz.prog 100 (qF 3):=bL (by kernel_rfl) (La _ jQ pM pP)
theorem RX:bK Tryz.prog 100 (qF 4):=bL (by kernel_rfl) (LK _ jQ pM pP)
theorem RT:bK Tryz.prog 100 (qF 5):=bL (by kernel_rfl) (JZ _ jQ pM pP)
theorem Mm:bK Tryz.prog 100 Hh:=TD T6 Sw ST S6 RX RT
theorem Gx:bK Tryz.prog 33 Aa:=bL (by kernel_rfl) (Fk _)
theorem PP:bK Tryz.prog 101 tO:=bL (by kernel_rfl) (H6 _ Gx)
theorem JP:bK Tryz.prog 102 uL:=bL (by kernel_rfl) (Eg _ uX Cu)
theorem Nm:bK Tryz.prog 67 (N1 fun _=>True):=bL (by kernel_rfl) (HM C8 Jb Oa Mm PP JP DW uX)
theorem Dm:bK Tryz.prog 24 vY:=bL (by kernel_rfl) (GR _)
theorem PC:bK Tryz.prog 180 G5:=bL (by kernel_rfl) (Ie _)
theorem O6:bK Tryz.prog 139 Ij:=bL (by kernel_rfl) (Fa _ PC)
theorem Qh:bK Tryz.prog 98 HX:=bL (by kernel_rfl) (He _ O6)
theorem Si:bK Tryz.prog 66 MB:=bL (by kernel_rfl) (Ky _ Qh)
theorem Yn:bK Tryz.prog 32 Ti:=bL (by kernel_rfl) (TO GP PU uY Nm Dm Si)
theorem A6:bK Tryz.prog 14 uP:=bL (by kernel_rfl) (Fg _ A1 Qi Yn)
theorem OT:bK Tryz.prog 12 A5:=bL (by kernel_rfl) (ME _)
theorem Ub:bK Tryz.prog 55 NE:=bL (by kernel_rfl) (KU _ L4 PQ)
theorem OE:bK Tryz.prog 70 (R8 fun _=>true):=bL (by kernel_rfl) (EY _)
theorem Fc:bK Tryz.prog 69 (R4 70 fun _=>true):=bL (by kernel_rfl) (Du _ 70 (fun _=>true) ⟨by kernel_rfl⟩ OE Jz)
theorem QI:bK Tryz.prog 35 Ib:=bL (by kernel_rfl) (Il _ Fc)
theorem E5:bK Tryz.prog 16 tD:=bL (by kernel_rfl) (An _)
theorem Qg:bK Tryz.prog 38 GV:=bL (by kernel_rfl) (G0 _ B6 Ua)
theorem Ym:bK Tryz.prog 73 XZ:=bL (by kernel_rfl) (Qx _)
theorem UV:bK Tryz.prog 42 TW:=bL (by kernel_rfl) (MG _ Ym)
theorem DS:bK Tryz.prog 27 Au:=bL (by kernel_rfl) (HC _ ⟨B6,Sn,⟨by kernel_rfl⟩,Ub,Oe,QI,E5,Ml,Qg,UV⟩)
theorem Mp:bK Tryz.prog 29 G8:=bL (by kernel_rfl) (EX _)
set_option maxHeartbeats 8000000
structure YG where
 s:gZ
 name:bH
 l:List iB
 x:dE
 day:Int
def xI (x:dE):iB:=⟨0,0,⟨0,0,eS⟩,x⟩
structure Yt (q:YG):Prop where
 f:CU ⟨q.s,q.name,q.l++[xI q.x]⟩
 d:∀o∈q.l,sQ o.day
 day:sQ q.day
 big:(q.l.length+1) * 240≤140737488355328
def Wp:dL:=spec (fun q:YG=>[F5 q.s,.str q.name,.sl 19 (bJ mG q.l),eD q.x,.i q.day]) (fun _=>[]) Yt (fun _=>.bl true) fun _=>[]
theorem Jn {s:gZ}{name:bH}{l:List iB}{x:dE}(h:zO s name (l++[xI x])) (hd:∀o∈l,sQ o.day):So ⟨s,name,l⟩∧x.frm.size≤300∧x.deal.size≤300∧x.party.size≤300:=by
 have h1:=h.l.len;rw[aM]at h1;have h2:=h.l.sz (xI x) (List.mem_append_right _ (bD ..));exact⟨⟨h.s,h.n,(by show l.length≤40;omega),fun o ho=>by
  have h3:=h.l.sz o (List.mem_append_left _ ho);exact⟨hd o ho,h3.1,h3.2⟩⟩,h2.2⟩
theorem FY {k:Nat}{s:gZ}{name:bH}{C:Cr}{x:Cs}(h:Jt k s name C x) {l:dE}{day:Int}{L0:List cV}(hs:kC s.su.parties l.frm=false∨dD s.su name l.deal=none):gG C l day L0=(false,C,[]):=by
 rcases hs with hs|hs
 ·exact rP (by rw[h.rel.par];exact hs)
 ·have h1:gS Dp.number C.deals l.deal=none:=h.rel.no _ (by rw[h.nm];exact hs);cases ha:lI Dp.number C.deals l.deal with
  |none=>exact oZ ha
  |some i=>
   obtain⟨y,hy,_⟩:=eB ha;rw[mF ha hy]at h1;cases h1
theorem Am (P:bI) (haw:bK P 11 rC) (hfe:bK P 12 A5) (hpa:bK P 17 mA) (hdl:bK P 13 nC) (hpl:bK P 14 uP) (hct:bK P 27 Au) (hta:bK P 18 (nP fun _=>True)) (hti:bK P 24 vY):bM P x8 Wp:=by
 intro args H K hc;obtain⟨⟨s,name,l,x,day⟩,rfl,rfl,hp,hK⟩:=hc;refine⟨cK,?_⟩;dsimp only at hp hK⊢;obtain⟨hf,hd,hday,hbig⟩:=hp
 try dsimp only at hf hd hday hbig
 obtain⟨parties,deals,funds,rest,holidays⟩:=s;obtain⟨frm,to,number,lkind,ack,ldeal,text,party,index,day0,cur,amt,docs,boxes⟩:=x;obtain⟨l2,hl2⟩:∃l2,l2=l++[xI ⟨frm,to,number,lkind,ack,ldeal,text,party,index,day0,cur,amt,docs,boxes⟩]:=⟨_,rfl⟩
 rw[←hl2]at hf;cbv
 (refine ZO haw () trivial ?_;try dsimp only)
 cbv;repeat'((first|refine .o ?_|refine .zl fun zs hzs hzl=>?_|refine And.intro ?_ ?_|fail)<;>cbv)
 all_goals
  obtain rfl:zs=bJ mG l2:=by rw[hl2,bW,cD];exact hzs
  refine eP 2 rfl ?_;cbv;refine cW hfe (⟨⟨parties,deals,funds,rest,holidays⟩,name,l2⟩:xH) [] hf rfl rfl (by decide) rfl rfl rfl rfl rfl ?_;intro b hb;cases b with
  |false=>
   cbv
   (refine .q9 ?_;cbv;exact .inl (.f9 hK))
  |true=>
   have hb:=hb rfl;rw[hl2]at hb;obtain⟨hpk,hz1,hz2,hz3⟩:=Jn hb hd;clear hb;cbv
   all_goals
    (refine ZO hpa ((⟨parties,deals,funds,rest,holidays⟩,frm):gZ×bH) hpk.s.pa ?_;try dsimp only)
    obtain⟨b2,hb2⟩:∃b,b=kC (gZ.su ⟨parties,deals,funds,rest,holidays⟩).parties frm:=⟨_,rfl⟩
    rw[←hb2];cases b2 with
    |false=>
     cbv
     all_goals
      refine cW hpl (⟨⟨parties,deals,funds,rest,holidays⟩,name,l⟩:Um) [] hpk rfl rfl (by decide) rfl rfl rfl rfl rfl ?_;intro C hj;dsimp only at hj;have hs:=hpk.s;have hll:=hpk.l;dsimp only at hs hll;have hctx:=hj.ctxOk hs (by omega);have htq:=hj.tqOk (l:=⟨frm,to,number,lkind,ack,ldeal,text,party,index,day0,cur,amt,docs,boxes⟩) (day:=day) (by omega);have hst:=fun L0=>FY (l:=⟨frm,to,number,lkind,ack,ldeal,text,party,index,day0,cur,amt,docs,boxes⟩) (day:=day) (L0:=L0) hj (.inl hb2.symm)
      obtain⟨tP,htP⟩:∃t,t=kU (eQ C):=⟨_,rfl⟩
      obtain⟨⟨S,free,⟨c,L⟩,H,D⟩,hx⟩:∃x,x=iV ⟨parties,deals,funds,rest,holidays⟩ name l:=⟨_,rfl⟩
      try dsimp only
      rw[←hx];clear hj hx;obtain⟨name1,parties1,deals1,⟨rc1,rL1⟩,cust1,deliv1⟩:=C;cbv
      repeat'(first
       |((refine eW hct (⟨name1,parties1,deals1,⟨rc1,rL1⟩,cust1,deliv1⟩:Cr) [6,7,8,9,10,11,12,13] hctx ?_;try dsimp only)
         rw[←htP];cbv;repeat'((first|refine pA.r ?_|refine pW.r ?_|(first|fail))<;>cbv))
       |(refine cW hta (⟨(⟨name1,parties1,deals1,⟨rc1,rL1⟩,cust1,deliv1⟩:Cr),⟨frm,to,number,lkind,ack,ldeal,text,party,index,day0,cur,amt,docs,boxes⟩,day⟩:TQ) [6,7,8,9,10,11,12,13] ⟨trivial,htq⟩ rfl rfl (by decide) rfl rfl rfl rfl rfl ?_
         intro L0 hp0
         try dsimp only
         rw[hst L0];cbv;repeat'((first|refine pA.r ?_|refine pW.r ?_|(first|refine .y fun h=>?_|refine .k fun z hz=>?_|fail))<;>cbv))
       |((refine eW hti (((⟨name1,parties1,deals1,⟨rc1,rL1⟩,cust1,deliv1⟩:Cr),day):Cr×Int) [6,7,8,9,10,11,12,13] trivial ?_;try dsimp only)
         cbv;repeat'((first|refine pA.r ?_|refine pW.r ?_|(first|refine .y fun h=>?_|fail))<;>cbv)))
      all_goals first
      |((refine .q9 ?_;cbv;exact .inl (.f9 hK)))
    |true=>
     cbv
     all_goals
      (refine ZO hdl ((⟨parties,deals,funds,rest,holidays⟩,name,ldeal):gZ×bH×bH) hpk.s.de ?_;try dsimp only)
      obtain⟨o,ho⟩:∃o,o=dD (gZ.su ⟨parties,deals,funds,rest,holidays⟩) name ldeal:=⟨_,rfl⟩
      rw[←ho];cases o with
      |some i=>
       cbv;repeat'((first|refine .y fun h=>?_|fail)<;>cbv)
       all_goals first
       |((refine .q9 ?_;cbv;exact .inl (.f9 hK)))
       |fail
      |none=>
       cbv;repeat'((first|refine .n fun h=>?_|fail)<;>cbv)
       all_goals
        refine cW hpl (⟨⟨parties,deals,funds,rest,holidays⟩,name,l⟩:Um) [] hpk rfl rfl (by decide) rfl rfl rfl rfl rfl ?_;intro C hj;dsimp only at hj;have hs:=hpk.s;have hll:=hpk.l;dsimp only at hs hll;have hctx:=hj.ctxOk hs (by omega);have htq:=hj.tqOk (l:=⟨frm,to,number,lkind,ack,ldeal,text,party,index,day0,cur,amt,docs,boxes⟩) (day:=day) (by omega);have hst:=fun L0=>FY (l:=⟨frm,to,number,lkind,ack,ldeal,text,party,index,day0,cur,amt,docs,boxes⟩) (day:=day) (L0:=L0) hj (.inr ho.symm)
        obtain⟨tP,htP⟩:∃t,t=kU (eQ C):=⟨_,rfl⟩
        obtain⟨⟨S,free,⟨c,L⟩,H,D⟩,hx⟩:∃x,x=iV ⟨parties,deals,funds,rest,holidays⟩ name l:=⟨_,rfl⟩
        try dsimp only
        rw[←hx];clear hj hx;obtain⟨name1,parties1,deals1,⟨rc1,rL1⟩,cust1,deliv1⟩:=C;cbv
        repeat'(first
         |((refine eW hct (⟨name1,parties1,deals1,⟨rc1,rL1⟩,cust1,deliv1⟩:Cr) [6,7,8,9,10,11,12,13] hctx ?_;try dsimp only)
           rw[←htP];cbv;repeat'((first|refine pA.r ?_|refine pW.r ?_|(first|fail))<;>cbv))
         |(refine cW hta (⟨(⟨name1,parties1,deals1,⟨rc1,rL1⟩,cust1,deliv1⟩:Cr),⟨frm,to,number,lkind,ack,ldeal,text,party,index,day0,cur,amt,docs,boxes⟩,day⟩:TQ) [6,7,8,9,10,11,12,13] ⟨trivial,htq⟩ rfl rfl (by decide) rfl rfl rfl rfl rfl ?_
           intro L0 hp0
           try dsimp only
           rw[hst L0];cbv;repeat'((first|refine pA.r ?_|refine pW.r ?_|(first|refine .y fun h=>?_|refine .k fun z hz=>?_|fail))<;>cbv))
         |((refine eW hti (((⟨name1,parties1,deals1,⟨rc1,rL1⟩,cust1,deliv1⟩:Cr),day):Cr×Int) [6,7,8,9,10,11,12,13] trivial ?_;try dsimp only)
           cbv;repeat'((first|refine pA.r ?_|refine pW.r ?_|(first|refine .y fun h=>?_|fail))<;>cbv)))
        all_goals first
        |((refine .q9 ?_;cbv;exact .inl (.f9 hK)))
end Go.Proofs.YtigdiekbiphhmaaGreatDoor
namespace Go.Proofs.YtigdiekbiphhmaaGreatDoor
open Go.ChangeShapes Go.WideShapes Go.Deep Go.RowKit
inductive Sh where
 |int (k:IntKind)
 |str
 |bl
 |sl (sz:Nat) (e:Sh)
 |st (l:List Sh)
mutual
def Sh.width:Sh→Nat
 |.int _=>1
 |.str=>1
 |.bl=>1
 |.sl _ _=>1
 |.st l=>Sh.widthL l
def Sh.widthL:List Sh→Nat
 |[]=>0
 |s :: l=>s.width+Sh.widthL l
end
mutual
def Op (B:Nat):Sh→List AV→Prop
 |.int k,cs=>∃n,cs=[.int k n]∧(Lit.int k n).wf=true
 |.str,cs=>∃s,cs=[.str s]∧s.size≤maxLen∧s.size≤B
 |.bl,cs=>∃b,cs=[.bl b]
 |.sl sz e,cs=>∃xs,cs=[.sl sz xs]∧xs.length≤maxLen∧∀x∈xs,x=dH sz x.cells∧Op B e x.cells
 |.st l,cs=>fN B l cs
def fN (B:Nat):List Sh→List AV→Prop
 |[],cs=>cs=[]
 |s :: l,cs=>∃a b,cs=a++b∧Op B s a∧fN B l b
end
mutual
theorem Op.one {B:Nat}:∀(s:Sh) (cs:List AV),Op B s cs→cs.all AV.one=true
 |.int k,cs,h=>by unfold Op at h;obtain⟨n,rfl,_⟩:=h;rfl
 |.str,cs,h=>by unfold Op at h;obtain⟨n,rfl,_⟩:=h;rfl
 |.bl,cs,h=>by unfold Op at h;obtain⟨n,rfl⟩:=h;rfl
 |.sl sz e,cs,h=>by unfold Op at h;obtain⟨xs,rfl,_⟩:=h;rfl
 |.st l,cs,h=>by unfold Op at h;exact fN.one l cs h
theorem fN.one {B:Nat}:∀(l:List Sh) (cs:List AV),fN B l cs→cs.all AV.one=true
 |[],cs,h=>by unfold fN at h;subst h;rfl
 |s :: l,cs,h=>by
  unfold fN at h;obtain⟨a,b,rfl,h1,h2⟩:=h;rw[List.all_append,Op.one s a h1,fN.one l b h2];rfl
end
def Pb (P:bI) (g:TypeId→Option Sh):List Field→Nat→Nat→Option (List Sh)
 |[],off,tot=>if off=tot then some [] else none
 |f :: l,off,tot=>if f.offset=off then match g f.type,Pb P g l (off+P.cellsOf f.type) tot with
  |some s,some r=>some (s :: r)
  |_,_=>none
  else none
mutual
theorem Op.len {B:Nat}:∀(s:Sh) (cs:List AV),Op B s cs→cs.length=s.width
 |.int k,cs,h=>by unfold Op at h;obtain⟨n,rfl,_⟩:=h;rfl
 |.str,cs,h=>by unfold Op at h;obtain⟨n,rfl,_⟩:=h;rfl
 |.bl,cs,h=>by unfold Op at h;obtain⟨n,rfl⟩:=h;rfl
 |.sl sz e,cs,h=>by unfold Op at h;obtain⟨xs,rfl,_⟩:=h;rfl
 |.st l,cs,h=>by unfold Op at h;exact fN.len l cs h
theorem fN.len {B:Nat}:∀(l:List Sh) (cs:List AV),fN B l cs→cs.length=Sh.widthL l
 |[],cs,h=>by unfold fN at h;subst h;rfl
 |s :: l,cs,h=>by
  unfold fN at h;obtain⟨a,b,rfl,h1,h2⟩:=h;rw[aM,Op.len s a h1,fN.len l b h2];rfl
end
def BN (P:bI):Nat→TypeId→Option Sh
 |0,_=>none
 |n+1,t=>match P.underlying t with
  |some .bool=>some .bl
  |some (.int k)=>some (.int k)
  |some .string=>some .str
  |some (.slice e)=>match BN P n e with
   |some s=>if s.width=P.cellsOf e then some (.sl (P.cellsOf e) s) else none
   |none=>none
  |some (.struct fs)=>(Pb P (BN P n) fs.toList 0 (P.cellsOf t)).map .st
  |_=>none
def mQ (w:World):cY:=fun b=>match w.heap[b]? with
 |some (.cells arr _ _)=>arr.size
 |_=>0
theorem J7 {w:World}{b i:Nat}{u:Value}(h:w.cell? ⟨b,i,none⟩=some u):i < mQ w b:=by
 unfold World.cell? at h;unfold mQ;cases hb:w.heap[b]? with
 |none=>simp[hb]at h
 |some o=>
  cases o<;>simp[hb]at h⊢;rename_i arr _ _;rcases aL i arr.size with h1|h1
  ·exact h1
  ·rw[Array.getElem?_eq_none h1]at h;simp at h
theorem HE {w:World}{b i:Nat}(h:i < mQ w b):∃u,w.cell? ⟨b,i,none⟩=some u:=by
 unfold mQ at h;cases hb:w.heap[b]? with
 |none=>simp[hb]at h
 |some o=>
  cases o<;>simp[hb]at h;rename_i arr _ _;exact⟨arr[i],by unfold World.cell?;simp[hb,aK h]⟩
theorem oF.door (w:World) (hg:jT (mQ w) w):oF (mQ w) w dC []:=
 ⟨fun k e he=>(by simp at he),fun _ _=>rfl,(fun _ _ _ _ _ h=>by cases h),(fun b hb=>by unfold mQ;rw[Array.getElem?_eq_none hb]),fun b i hi=>HE hi,hg⟩
theorem BV {sz:Nat}{l:List AV}(hl:l.length=sz) (h1:l.all AV.one=true):(dH sz l).cells=l:=fR hl h1
theorem Fo {α:Type}{p:Nat→α→Prop}:∀(n:Nat),(∀i,i < n→∃a,p i a)→∃l:List α,l.length=n∧∀i (h:i < l.length),p i l[i]
 |0,_=>⟨[],rfl,fun i h=>by simp at h⟩
 |n+1,h=>by
  obtain⟨l,hl,hp⟩:=Fo n (fun i hi=>h i (by omega));obtain⟨a,ha⟩:=h n (by omega);refine⟨l++[a],by simp[hl],fun i hi=>?_⟩;by_cases h1:i < l.length
  ·rw[List.getElem_append_left h1];exact hp i h1
  ·simp at hi;obtain rfl:i=n:=by omega
   subst hl;simpa using ha
theorem sL (b o n:Nat):(⟨b,o,none⟩:Addr).add n=⟨b,o+n,none⟩:=by unfold Addr.add;split<;>simp_all
def B9 (B:Nat) (P:bI) {H:Type}(t:TypeId) (d:DataW H):Prop:=maxLen≤B∨(reachBytes≤B∧∀n∈d.weights P t,n≤reachBytes)
theorem fE {P:bI}{H:Type}:∀{ts:List TypeId}{ds:List (DataW H)}{i:Nat}{t:TypeId}{d:DataW H},ts[i]?=some t→ds[i]?=some d→∀n∈d.weights P t,n∈DataW.weightsEach P ts ds
 |[],_,i,t,d,h,_=>by simp at h
 |_ :: _,[],i,t,d,_,h=>by simp at h
 |u :: ts,e :: ds,0,t,d,h,k=>by
  intro n hn;simp at h k;subst h k;unfold DataW.weightsEach;exact List.mem_append_left _ hn
 |u :: ts,e :: ds,i+1,t,d,h,k=>by
  intro n hn;unfold DataW.weightsEach;exact List.mem_append_right _ (fE (by simpa using h) (by simpa using k) n hn)
theorem Jv {P:bI}{H:Type}{e:TypeId}:∀{ds:List (DataW H)}{i:Nat}{d:DataW H},ds[i]?=some d→∀n∈d.weights P e,n∈DataW.weightsAll P e ds
 |[],i,d,h=>by simp at h
 |x :: ds,0,d,h=>by
  intro n hn;simp at h;subst h;unfold DataW.weightsAll;exact List.mem_append_left _ hn
 |x :: ds,i+1,d,h=>by
  intro n hn;unfold DataW.weightsAll;exact List.mem_append_right _ (Jv (by simpa using h) n hn)
section
variable {B:Nat}
variable {H:Type}{enc:TypeId×Value→H}{P:bI}{w:World}{base:Nat}{spare:Nat→Bool}{held:Bool}
theorem Js {g:TypeId→Option Sh}{cs:List Value}(hg:∀t s,g t=some s→∀fuel cs x,DataW.trod enc P w base spare held fuel t cs=some x→B9 B P t x.1→∃cz,Op B s cz∧bR (mQ w) w dC cz cs) :
  ∀(l:List Field) (off tot:Nat) (ss:List Sh),Pb P g l off tot=some ss→cs.length=tot→(∀f∈l,∃fuel y,DataW.trod enc P w base spare held fuel f.type ((cs.drop f.offset).take (P.cellsOf f.type))=some y∧B9 B P f.type y.1) →
   ∃cz,fN B ss cz∧bR (mQ w) w dC cz (cs.drop off)
 |[],off,tot,ss,h,hl,_=>by
  unfold Pb at h
  split at h
  ·cases h;rename_i e;refine⟨[],by unfold fN;rfl,?_⟩;rw[List.drop_eq_nil_of_le (by omega)];exact .nil
  ·cases h
 |f :: l,off,tot,ss,h,hl,hf=>by
  unfold Pb at h
  split at h
  ·rename_i e
   split at h
   ·rename_i s r hs hr;cases h;obtain⟨fuel,y,hy,hly⟩:=hf f (bD ..);obtain⟨cz1,h1,h2⟩:=hg _ _ hs _ _ _ hy hly;obtain⟨cz2,h3,h4⟩:=Js hg l _ tot r hr hl (fun f hm=>hf f (aW _ hm));refine⟨cz1++cz2,by unfold fN;exact⟨cz1,cz2,rfl,h1,h3⟩,?_⟩;rw[e]at h2;have:=h2.app h4;rw[←List.drop_drop,List.take_append_drop]at this;exact this
   ·cases h
  ·cases h
theorem bR.single {x:AV}{u:Value}{pub:cY}{r:cT}(h:bT pub w r x u):bR pub w r [x] [u]:=.cons h .nil
theorem AP:∀(n:Nat) (t:TypeId) (s:Sh),BN P n t=some s→∀(fuel:Nat) (cs:List Value) (x:DataW H×List MemPlace),DataW.trod enc P w base spare held fuel t cs=some x→B9 B P t x.1→∃cz,Op B s cz∧bR (mQ w) w dC cz cs
 |0,t,s,h=>by cases h
 |n+1,t,s,h=>by
  intro fuel cs x hx hlt;have ih:=AP n;unfold BN at h
  split at h
  ·rename_i ht;cases h;obtain⟨b,rfl,_⟩:=DataW.trod_bool ht hx;exact⟨[.bl b],by unfold Op;exact⟨b,rfl⟩,.single (.bl b)⟩
  ·rename_i k ht;cases h;obtain⟨b,rfl,_,hw⟩:=DataW.trod_int ht hx;exact⟨[.int k b],by unfold Op;exact⟨b,rfl,hw⟩,.single (.int k b)⟩
  ·rename_i ht;cases h;obtain⟨b,rfl,rfl,hw⟩:=DataW.trod_string ht hx;have hb:b.size≤B:=by
    rcases hlt with h1|⟨h1,h2⟩
    ·omega
    ·have h3:=h2 b.data.toList.length (by dsimp only;unfold DataW.weights;exact bD ..);have h4:b.data.toList.length=b.size:=by rw[bB];rfl
     omega
   exact⟨[.str b],by unfold Op;exact⟨b,rfl,hw,hb⟩,.single (.str b)⟩
  ·rename_i e ht
   split at h
   ·rename_i se hse
    split at h
    ·rename_i hwd;cases h;rcases open_slice ht hx with ⟨rfl,_⟩|⟨a,len,cap,m,n',D,Pl,rfl,_,hl,hm,hmm,rfl,hi⟩
     ·refine⟨[.sl (P.cellsOf e) []],by unfold Op;exact⟨[],rfl,aI _,fun x hx=>by cases hx⟩,.single (.sl (A:=none) (c:=0) (xs:=[]) (aN _) (by unfold maxLen;omega) (fun _=>⟨rfl,rfl⟩) (fun x hx=>by cases hx) (fun _ _=>undef) (fun i x j u hx=>by simp at hx) (fun i x j u hx=>by simp at hx))⟩
     ·have hle:len≤m:=by rw[hmm];split<;>omega
      have each:∀i,i < len→∃cz,Op B se cz∧∃vs:List Value,bR (mQ w) w dC cz vs∧∀j v,vs[j]?=some v→w.cell? ((a.add (i * P.cellsOf e)).add j)=some v:=fun i hil=>by
       obtain⟨cs',hc,ht'⟩:=hi i (by omega);have hli:B9 B P e (D i):=by
        rcases hlt with h1|⟨h1,h2⟩
        ·exact .inl h1
        ·refine .inr ⟨h1,fun n hn=>h2 n ?_⟩;unfold DataW.weights;rw[ht];refine aW _ (List.mem_append_left _ (Jv (i:=i) (d:=D i) ?_ n hn));rw[aD,List.getElem?_range hil];rfl
       obtain⟨cz,h1,h2⟩:=ih e se hse _ _ _ ht' hli;obtain⟨_,hcl,hat⟩:=World.cells?_some hc;exact⟨cz,h1,cs',h2,fun j v hv=>by rw[hat j (by rw[←hcl];exact(aA.1 hv).1),hv]⟩
      obtain⟨A,hAl,hA⟩:∃A:List (List AV),A.length=len∧∀i (h:i < A.length),Op B se A[i]∧∃vs:List Value,bR (mQ w) w dC A[i] vs∧∀j v,vs[j]?=some v→w.cell? ((a.add (i * P.cellsOf e)).add j)=some v:=Fo len (p:=fun i cz=>Op B se cz∧∃vs:List Value,bR (mQ w) w dC cz vs∧∀j v,vs[j]?=some v→w.cell? ((a.add (i * P.cellsOf e)).add j)=some v) each;have hcells:∀(cz:List AV),Op B se cz→(dH (P.cellsOf e) cz).cells=cz:=fun cz ho=>BV ((Op.len _ _ ho).trans hwd) (Op.one _ _ ho)
      refine⟨[.sl (P.cellsOf e) (A.map (dH (P.cellsOf e)))],?_,?_⟩
      ·unfold Op;refine⟨_,rfl,by rw[aJ,hAl];omega,fun x hx=>?_⟩;obtain⟨cz,has,rfl⟩:=aX.1 hx;obtain⟨i,hil,rfl⟩:=List.getElem_of_mem has;rw[hcells _ (hA i hil).1];exact⟨rfl,(hA i hil).1⟩
      ·refine .single ?_;rw[←hAl,←aJ (f:=dH (P.cellsOf e))];have get:∀(i:Nat) (x:AV) (j:Nat) (u:AV),(A.map (dH (P.cellsOf e)))[i]?=some x→x.cells[j]?=some u→∃v,w.cell? ((a.add (i * P.cellsOf e)).add j)=some v∧bT (mQ w) w dC u v:=fun i x j u hx hu=>by
        rw[aD]at hx;rcases aL i A.length with hil|hil
        ·rw[aB hil]at hx;cases hx;obtain⟨ho,vs,hvs,hc⟩:=hA i hil;rw[hcells _ ho]at hu;obtain⟨v,hv,hr⟩:=hvs.get hu;exact⟨v,hc j v hv,hr⟩
        ·rw[List.getElem?_eq_none hil]at hx;cases hx
       refine .sl (by rw[aJ];omega) (by omega) (fun h=>by cases h) (fun x hx=>?_) (fun i j=>(w.cell? ((a.add (i * P.cellsOf e)).add j)).getD undef) (fun i x j u hx hu=>?_) (fun i x j u hx hu=>?_)
       ·obtain⟨cz,has,rfl⟩:=aX.1 hx;obtain⟨i,hil,rfl⟩:=List.getElem_of_mem has;rw[hcells _ (hA i hil).1];exact⟨(Op.len _ _ (hA i hil).1).trans hwd,Op.one _ _ (hA i hil).1⟩
       ·obtain⟨v,hv,hr⟩:=get i x j u hx hu;rw[hv];exact hr
       ·obtain⟨v,hv,hr⟩:=get i x j u hx hu;have hsp:a.spot=none:=by
         rw[aD]at hx;cases hAi:A[i]? with
         |none=>rw[hAi]at hx;cases hx
         |some cz=>
          rw[hAi]at hx;cases hx;obtain⟨hil,rfl⟩:=aA.1 hAi;have hju:j < A[i].length:=by rw[hcells _ (hA i hil).1]at hu;exact(aA.1 hu).1
          have hli:=Op.len _ _ (hA i hil).1;obtain⟨ho,vs,hvs,hc⟩:=hA 0 (by omega);have hl0:=Op.len _ _ ho;have hv0:0 < vs.length:=by rw[hvs.len];omega
          have:=World.cell?_spot (hc 0 vs[0] (aB hv0));simpa [Addr.add]using this
        obtain⟨b,o,spot⟩:=a;dsimp only at hsp;subst hsp;rw[hv];have e1:((⟨b,o,none⟩:Addr).add (i * P.cellsOf e)).add j=⟨b,o+i * P.cellsOf e+j,none⟩:=by
         rw[sL,sL]
        rw[e1]at hv;exact⟨b,o,rfl,J7 hv,hv⟩
    ·cases h
   ·cases h
  ·rename_i fs ht;obtain⟨ss,hss,rfl⟩:=map_some h;obtain⟨xs,n',_,hxa,hl,hlen,hf⟩:=DataW.trod_struct ht hx;obtain⟨cz,h1,h2⟩:=Js (cs:=cs) ih fs.toList 0 _ ss hss hl (fun f hm=>by
    obtain⟨j,hj⟩:=aV hm;have hjl:j < xs.length:=by rw[hlen];simpa using(aA.1 hj).1
    refine⟨n',xs[j],by rw[hf j f (by simpa using hj),aB hjl],?_⟩;rcases hlt with h1|⟨h1,h2⟩
    ·exact .inl h1
    ·refine .inr ⟨h1,fun n hn=>h2 n ?_⟩;rw[hxa];unfold DataW.weights;rw[ht];exact fE (i:=j) (t:=f.type) (d:=xs[j].1) (by rw[aD,hj];rfl) (by rw[aD,aB hjl];rfl) n hn)
   exact⟨cz,by unfold Op;exact h1,by simpa using h2⟩
  ·cases h
def Ca:Sh→List AV→AV
 |.st _,cz=>.agg cz
 |_,cz=>cz.headD .any
theorem GW {v:Value}(h:∀cs,v≠.agg cs):v.cells.toList=[v]:=by
 cases v with
 |agg cs=>exact absurd rfl (h cs)
 |_=>rfl
theorem fT {n:Nat}{t:TypeId}{s:Sh}{r:Reach}{b0:Nat}{v:Value}{d:DataW H}{p:List MemPlace}(hs:BN P n t=some s) (hv:Value.okWide P w r b0 t v) (hd:DataW.Trod enc P w base spare held t v d p) (hlt:B9 B P t d) :
  ∃cz,Op B s cz∧bT (mQ w) w dC (Ca s cz) v:=by
 obtain⟨fuel,hf⟩:=hd;obtain⟨cz,h1,h2⟩:=AP (B:=B) n t s hs _ _ _ hf hlt;refine⟨cz,h1,?_⟩;have scal:(∀cs,v≠.agg cs)→∀a,cz=[a]→bT (mQ w) w dC a v:=fun hne a ha=>by
  rw[GW hne,ha]at h2;exact h2.at_ 0 a v rfl rfl
 cases n with
 |zero=>cases hs
 |succ n=>
  unfold BN at hs
  split at hs
  ·rename_i ht;cases hs;unfold Op at h1;obtain⟨b,rfl⟩:=h1;exact scal (fun cs hc=>by subst hc;simp[Value.okWide,ht,Cell.okWide,Cell.ok]at hv) _ rfl
  ·rename_i k ht;cases hs;unfold Op at h1;obtain⟨b,rfl,_⟩:=h1;exact scal (fun cs hc=>by subst hc;simp[Value.okWide,ht,Cell.okWide,Cell.ok]at hv) _ rfl
  ·rename_i ht;cases hs;unfold Op at h1;obtain⟨b,rfl,_⟩:=h1;exact scal (fun cs hc=>by subst hc;simp[Value.okWide,ht,Cell.okWide,Cell.ok]at hv) _ rfl
  ·rename_i e ht
   split at hs
   ·split at hs
    ·cases hs;unfold Op at h1;obtain⟨b,rfl,_⟩:=h1;exact scal (fun cs hc=>by subst hc;simp[Value.okWide,ht,Cell.okWide,Cell.ok]at hv) _ rfl
    ·cases hs
   ·cases hs
  ·rename_i fs ht;obtain⟨ss,hss,rfl⟩:=map_some hs;simp only[Value.okWide,ht]at hv;obtain⟨cs,rfl,_⟩:=hv;exact .agg (by simpa [Value.cells]using h2.len) fun i x u hx hu=>h2.at_ i x u hx (by simpa [Value.cells]using hu)
  ·cases hs
theorem kX {α:Type}{sz:Nat}{e:Sh}{f:α→AV}{q:α→Prop}(h:∀cz,Op B e cz→∃x:α,dH sz cz=f x∧q x) {cs:List AV}(ho:Op B (.sl sz e) cs):∃L:List α,cs=[.sl sz (bJ f L)]∧L.length≤maxLen∧∀x∈L,q x:=by
 unfold Op at ho;obtain⟨xs,rfl,hl,hx⟩:=ho;have key:∀xs:List AV,(∀x∈xs,x=dH sz x.cells∧Op B e x.cells)→∃L:List α,xs=bJ f L∧∀x∈L,q x:=fun xs=>by
  induction xs with
  |nil=>exact fun _=>⟨[],rfl,fun x hx=>by cases hx⟩
  |cons y ys ih=>
   intro hx;obtain⟨L,rfl,hL⟩:=ih fun x hm=>hx x (aW _ hm)
   obtain⟨e1,e2⟩:=hx y (bD ..);obtain⟨x,hf,hq⟩:=h _ e2;refine⟨x :: L,?_,fun z hz=>?_⟩
   ·show y :: bJ f L=f x :: bJ f L;rw[e1,hf]
   ·rcases List.mem_cons.1 hz with rfl|hz
    ·exact hq
    ·exact hL z hz
 obtain⟨L,rfl,hL⟩:=key xs hx;exact⟨L,rfl,by rwa [cC]at hl,hL⟩
theorem Di {n:Int}(h:(Lit.int .i64 n).wf=true):-9223372036854775808≤n∧n≤9223372036854775807:=by
 simp only[Lit.wf,aO,decide_eq_true_eq]at h;have h1:IntKind.i64.min=-9223372036854775808:=rfl;have h2:IntKind.i64.max=9223372036854775807:=rfl;omega
theorem Ec {f:Nat}{c:dL}(hf:bK P f c) {args:List AV}{vals:Array Value}(hv:bR (mQ w) w dC args vals.toList) (hc:c args [] fun x _=>x=.bl true) (hg:jT (mQ w) w) :
  Calls P f vals w fun e w'=>e=.returned (.bool true)∧Below w.heap.size w w':=by
 refine(hf args [] _ hc w dC (mQ w) vals (oF.door w hg) hv).mono fun e w' ⟨v,x,H',r',pub',he,hx,hvx,_,hfr,_⟩=>?_
 subst he;subst hx;cases hvx;exact⟨rfl,hfr.os,hfr.tape,hfr.output,hfr.size,fun j hj=>(hfr.keep j hj (fun⟨_,_,h,_⟩=>by cases h)).1⟩
end
end Go.Proofs.YtigdiekbiphhmaaGreatDoor
namespace Go.Proofs.YtigdiekbiphhmaaGreatDoor
open Go.RowKit
def Dr:Sh:=.st [.str,.str]
def N9:Sh:=.st [.int .i64,.str,.str,.sl 2 Dr]
def nV:Sh:=.st [.str,.str,.int .i64,.int .i64,.int .i64,.str,.str,.str,.int .i64,.int .i64,.st [.str,.int .i64],.sl 4 N9,.sl 1 .str]
def Dg:Sh:=.st [.int .i64,.int .i64,.st [.int .i64,.int .i64,.str],nV]
def D5:Sh:=.st [.str,.str,.int .i64]
def Nx:Sh:=.st [.str,.int .i64]
def Oz:Sh:=.st [.str,.int .i64,.sl 2 Nx]
def Ho:Sh:=.st [.str,.str,.str,.str,.str,.str,.str,.str,.str,.st [.str,.int .i64],.sl 3 Oz,.int .i64,.int .i64,.int .i64,.int .i64,.int .i64]
def C2:Sh:=.st [.str,.str,.int .i64]
def rW:Sh:=.st [.sl 3 D5,.sl 17 Ho,.sl 3 C2,.st [.sl 1 (.int .i64),.sl 1 (.int .i64)]]
theorem C6:reachBytes≤140737488355328:=by decide
theorem oI {s:bH}(h:s.size≤maxLen∧s.size≤reachBytes):fD s:=Nat.le_trans h.2 C6
theorem DO {B:Nat}{cs:List AV}(h:Op B (.sl 1 (.int .i64)) cs):∃L:List Int,cs=[.sl 1 (bJ dZ L)]∧L.length≤maxLen∧∀z∈L,sQ z:=
 kX (f:=dZ) (q:=sQ) (fun cz h=>by
  unfold Op at h;obtain⟨n,rfl,h1⟩:=h;exact⟨n,rfl,Di h1⟩) h
theorem SW (cz:List AV) (h:Op reachBytes Dr cz):∃x:N3,dH 2 cz=BO x∧True:=by
 unfold Dr Op at h
 (unfold fN at h;obtain⟨_,_,rfl,h1,h⟩:=h;unfold Op at h1;obtain⟨a0,rfl,w0⟩:=h1)
 (unfold fN at h;obtain⟨_,_,rfl,h1,h⟩:=h;unfold Op at h1;obtain⟨a1,rfl,w1⟩:=h1)
 (unfold fN at h;subst h)
 exact⟨⟨a0,a1⟩,rfl,trivial⟩
theorem Tq (cz:List AV) (h:Op reachBytes N9 cz):∃x:Ln,dH 4 cz=tW x∧True:=by
 unfold N9 Op at h
 (unfold fN at h;obtain⟨_,_,rfl,h1,h⟩:=h;unfold Op at h1;obtain⟨a0,rfl,w0⟩:=h1)
 (unfold fN at h;obtain⟨_,_,rfl,h1,h⟩:=h;unfold Op at h1;obtain⟨a1,rfl,w1⟩:=h1)
 (unfold fN at h;obtain⟨_,_,rfl,h1,h⟩:=h;unfold Op at h1;obtain⟨a2,rfl,w2⟩:=h1)
 unfold fN at h;obtain⟨_,_,rfl,h1,h⟩:=h;obtain⟨L,rfl,hl,hL⟩:=kX SW h1
 (unfold fN at h;subst h)
 exact⟨⟨a0,a1,a2,L⟩,rfl,trivial⟩
def Vn:dE→List AV
 |⟨frm,to,number,kind,ack,deal,text,party,index,day,cur,amt,docs,boxes⟩=>[.str frm,.str to,.i number,.i kind,.i ack,.str deal,.str text,.str party,.i index,.i day,.str cur,.i amt,.sl 4 (bJ tW docs),.sl 1 (bJ .str boxes)]
def U4 (x:dE):Prop:=fD x.frm∧fD x.deal∧fD x.party
theorem IB (cz:List AV) (h:Op reachBytes nV cz):∃x:dE,cz=Vn x∧U4 x:=by
 unfold nV Op at h
 (unfold fN at h;obtain⟨_,_,rfl,h1,h⟩:=h;unfold Op at h1;obtain⟨a0,rfl,w0⟩:=h1)
 (unfold fN at h;obtain⟨_,_,rfl,h1,h⟩:=h;unfold Op at h1;obtain⟨a1,rfl,w1⟩:=h1)
 (unfold fN at h;obtain⟨_,_,rfl,h1,h⟩:=h;unfold Op at h1;obtain⟨a2,rfl,w2⟩:=h1)
 (unfold fN at h;obtain⟨_,_,rfl,h1,h⟩:=h;unfold Op at h1;obtain⟨a3,rfl,w3⟩:=h1)
 (unfold fN at h;obtain⟨_,_,rfl,h1,h⟩:=h;unfold Op at h1;obtain⟨a4,rfl,w4⟩:=h1)
 (unfold fN at h;obtain⟨_,_,rfl,h1,h⟩:=h;unfold Op at h1;obtain⟨a5,rfl,w5⟩:=h1)
 (unfold fN at h;obtain⟨_,_,rfl,h1,h⟩:=h;unfold Op at h1;obtain⟨a6,rfl,w6⟩:=h1)
 (unfold fN at h;obtain⟨_,_,rfl,h1,h⟩:=h;unfold Op at h1;obtain⟨a7,rfl,w7⟩:=h1)
 (unfold fN at h;obtain⟨_,_,rfl,h1,h⟩:=h;unfold Op at h1;obtain⟨a8,rfl,w8⟩:=h1)
 (unfold fN at h;obtain⟨_,_,rfl,h1,h⟩:=h;unfold Op at h1;obtain⟨a9,rfl,w9⟩:=h1)
 unfold fN at h;obtain⟨_,_,rfl,hm,h'⟩:=h;have h:=hm;unfold Op at h
 (unfold fN at h;obtain⟨_,_,rfl,h1,h⟩:=h;unfold Op at h1;obtain⟨b0,rfl,v0⟩:=h1)
 (unfold fN at h;obtain⟨_,_,rfl,h1,h⟩:=h;unfold Op at h1;obtain⟨b1,rfl,v1⟩:=h1)
 (unfold fN at h;subst h)
 have h:=h';unfold fN at h;obtain⟨_,_,rfl,h1,h⟩:=h;obtain⟨L,rfl,hl,hL⟩:=kX Tq h1;unfold fN at h;obtain⟨_,_,rfl,h1,h⟩:=h;obtain⟨B,rfl,hb,hB⟩:=kX (f:=AV.str) (q:=fun _=>True) (fun cz h=>by unfold Op at h;obtain⟨s,rfl,h1,_⟩:=h;exact⟨s,rfl,trivial⟩) h1
 (unfold fN at h;subst h)
 exact⟨⟨a0,a1,a2,a3,a4,a5,a6,a7,a8,a9,b0,b1,L,B⟩,rfl,oI w0,oI w5,oI w7⟩
theorem Mb (x:dE):.agg (Vn x)=eD x:=by obtain⟨frm,to,number,kind,ack,deal,text,party,index,day,cur,amt,docs,boxes⟩:=x;rfl
def Ql (c:iB):Prop:=(fD c.a.deal∧fD c.l.frm∧fD c.l.deal∧fD c.l.party)∧sQ c.day
theorem QG (cz:List AV) (h:Op reachBytes Dg cz):∃x:iB,dH 19 cz=mG x∧Ql x:=by
 unfold Dg Op at h
 (unfold fN at h;obtain⟨_,_,rfl,h1,h⟩:=h;unfold Op at h1;obtain⟨a0,rfl,w0⟩:=h1)
 (unfold fN at h;obtain⟨_,_,rfl,h1,h⟩:=h;unfold Op at h1;obtain⟨a1,rfl,w1⟩:=h1)
 unfold fN at h;obtain⟨_,_,rfl,hm,h'⟩:=h;have h:=hm;unfold Op at h
 (unfold fN at h;obtain⟨_,_,rfl,h1,h⟩:=h;unfold Op at h1;obtain⟨b0,rfl,v0⟩:=h1)
 (unfold fN at h;obtain⟨_,_,rfl,h1,h⟩:=h;unfold Op at h1;obtain⟨b1,rfl,v1⟩:=h1)
 (unfold fN at h;obtain⟨_,_,rfl,h1,h⟩:=h;unfold Op at h1;obtain⟨b2,rfl,v2⟩:=h1)
 (unfold fN at h;subst h)
 have h:=h';unfold fN at h;obtain⟨_,_,rfl,h1,h⟩:=h;obtain⟨x,rfl,g1,g2,g3⟩:=IB _ h1
 (unfold fN at h;subst h)
 obtain⟨frm,to,number,kind,ack,deal,text,party,index,day,cur,amt,docs,boxes⟩:=x;exact⟨⟨a0,a1,⟨b0,b1,b2⟩,⟨frm,to,number,kind,ack,deal,text,party,index,day,cur,amt,docs,boxes⟩⟩,rfl,⟨⟨oI v2,g1,g2,g3⟩,Di w1⟩⟩
theorem Bn {cs:List AV}(h:Op reachBytes (.sl 19 Dg) cs):∃L:List iB,cs=[.sl 19 (bJ mG L)]∧L.length≤maxLen∧∀a∈L,Ql a:=kX QG h
theorem T2 (cz:List AV) (h:Op reachBytes D5 cz):∃x:Gw,dH 3 cz=mP x∧fD x.name:=by
 unfold D5 Op at h
 (unfold fN at h;obtain⟨_,_,rfl,h1,h⟩:=h;unfold Op at h1;obtain⟨a0,rfl,w0⟩:=h1)
 (unfold fN at h;obtain⟨_,_,rfl,h1,h⟩:=h;unfold Op at h1;obtain⟨a1,rfl,w1⟩:=h1)
 (unfold fN at h;obtain⟨_,_,rfl,h1,h⟩:=h;unfold Op at h1;obtain⟨a2,rfl,w2⟩:=h1)
 (unfold fN at h;subst h)
 exact⟨⟨a0,a1,a2⟩,rfl,oI w0⟩
theorem RW (cz:List AV) (h:Op reachBytes C2 cz):∃x:Ww,dH 3 cz=mT x∧True:=by
 unfold C2 Op at h
 (unfold fN at h;obtain⟨_,_,rfl,h1,h⟩:=h;unfold Op at h1;obtain⟨a0,rfl,w0⟩:=h1)
 (unfold fN at h;obtain⟨_,_,rfl,h1,h⟩:=h;unfold Op at h1;obtain⟨a1,rfl,w1⟩:=h1)
 (unfold fN at h;obtain⟨_,_,rfl,h1,h⟩:=h;unfold Op at h1;obtain⟨a2,rfl,w2⟩:=h1)
 (unfold fN at h;subst h)
 exact⟨⟨a0,a1,a2⟩,rfl,trivial⟩
theorem Tc (cz:List AV) (h:Op reachBytes Nx cz):∃x:Yl,dH 2 cz=Vp x∧True:=by
 unfold Nx Op at h
 (unfold fN at h;obtain⟨_,_,rfl,h1,h⟩:=h;unfold Op at h1;obtain⟨a0,rfl,w0⟩:=h1)
 (unfold fN at h;obtain⟨_,_,rfl,h1,h⟩:=h;unfold Op at h1;obtain⟨a1,rfl,w1⟩:=h1)
 (unfold fN at h;subst h)
 exact⟨⟨a0,a1⟩,rfl,trivial⟩
theorem TE (cz:List AV) (h:Op reachBytes Oz cz):∃x:IR,dH 3 cz=Gf x∧fD x.mark:=by
 unfold Oz Op at h
 (unfold fN at h;obtain⟨_,_,rfl,h1,h⟩:=h;unfold Op at h1;obtain⟨a0,rfl,w0⟩:=h1)
 (unfold fN at h;obtain⟨_,_,rfl,h1,h⟩:=h;unfold Op at h1;obtain⟨a1,rfl,w1⟩:=h1)
 unfold fN at h;obtain⟨_,_,rfl,h1,h⟩:=h;obtain⟨L,rfl,hl,hL⟩:=kX Tc h1
 (unfold fN at h;subst h)
 exact⟨⟨a0,a1,L⟩,rfl,oI w0⟩
def X3 (d:jM):Prop:=d.boxes.length≤maxLen∧(∀b∈d.boxes,fD b.mark)∧fD d.number∧fD d.seller∧fD d.buyer∧fD d.carrier∧fD d.house∧fD d.frm∧fD d.to
theorem R1 (cz:List AV) (h:Op reachBytes Ho cz):∃x:jM,dH 17 cz=lD x∧X3 x:=by
 unfold Ho Op at h
 (unfold fN at h;obtain⟨_,_,rfl,h1,h⟩:=h;unfold Op at h1;obtain⟨a0,rfl,w0⟩:=h1)
 (unfold fN at h;obtain⟨_,_,rfl,h1,h⟩:=h;unfold Op at h1;obtain⟨a1,rfl,w1⟩:=h1)
 (unfold fN at h;obtain⟨_,_,rfl,h1,h⟩:=h;unfold Op at h1;obtain⟨a2,rfl,w2⟩:=h1)
 (unfold fN at h;obtain⟨_,_,rfl,h1,h⟩:=h;unfold Op at h1;obtain⟨a3,rfl,w3⟩:=h1)
 (unfold fN at h;obtain⟨_,_,rfl,h1,h⟩:=h;unfold Op at h1;obtain⟨a4,rfl,w4⟩:=h1)
 (unfold fN at h;obtain⟨_,_,rfl,h1,h⟩:=h;unfold Op at h1;obtain⟨a5,rfl,w5⟩:=h1)
 (unfold fN at h;obtain⟨_,_,rfl,h1,h⟩:=h;unfold Op at h1;obtain⟨a6,rfl,w6⟩:=h1)
 (unfold fN at h;obtain⟨_,_,rfl,h1,h⟩:=h;unfold Op at h1;obtain⟨a7,rfl,w7⟩:=h1)
 (unfold fN at h;obtain⟨_,_,rfl,h1,h⟩:=h;unfold Op at h1;obtain⟨a8,rfl,w8⟩:=h1)
 unfold fN at h;obtain⟨_,_,rfl,hm,h'⟩:=h;have h:=hm;unfold Op at h
 (unfold fN at h;obtain⟨_,_,rfl,h1,h⟩:=h;unfold Op at h1;obtain⟨b0,rfl,v0⟩:=h1)
 (unfold fN at h;obtain⟨_,_,rfl,h1,h⟩:=h;unfold Op at h1;obtain⟨b1,rfl,v1⟩:=h1)
 (unfold fN at h;subst h)
 have h:=h';unfold fN at h;obtain⟨_,_,rfl,h1,h⟩:=h;obtain⟨L,rfl,hl,hL⟩:=kX TE h1
 (unfold fN at h;obtain⟨_,_,rfl,h1,h⟩:=h;unfold Op at h1;obtain⟨c0,rfl,u0⟩:=h1)
 (unfold fN at h;obtain⟨_,_,rfl,h1,h⟩:=h;unfold Op at h1;obtain⟨c1,rfl,u1⟩:=h1)
 (unfold fN at h;obtain⟨_,_,rfl,h1,h⟩:=h;unfold Op at h1;obtain⟨c2,rfl,u2⟩:=h1)
 (unfold fN at h;obtain⟨_,_,rfl,h1,h⟩:=h;unfold Op at h1;obtain⟨c3,rfl,u3⟩:=h1)
 (unfold fN at h;obtain⟨_,_,rfl,h1,h⟩:=h;unfold Op at h1;obtain⟨c4,rfl,u4⟩:=h1)
 (unfold fN at h;subst h)
 exact⟨⟨a0,a1,a2,a3,a4,a5,a6,a7,a8,b0,b1,L,c0,c1,c2,c3,c4⟩,rfl,⟨hl,hL,oI w0,oI w1,oI w2,oI w3,oI w5,oI w7,oI w8⟩⟩
def YI:gZ→List AV
 |⟨parties,deals,funds,rest,holidays⟩=>[.sl 3 (bJ mP parties),.sl 17 (bJ lD deals),.sl 3 (bJ mT funds),.sl 1 (bJ dZ rest),.sl 1 (bJ dZ holidays)]
theorem Oi (s:gZ):.agg (YI s)=F5 s:=by obtain⟨parties,deals,funds,rest,holidays⟩:=s;rfl
theorem AM (cz:List AV) (h:Op reachBytes rW cz):∃s:gZ,cz=YI s∧QH s:=by
 unfold rW Op at h;unfold fN at h;obtain⟨_,_,rfl,h1,h⟩:=h;obtain⟨P,rfl,hp,hP⟩:=kX T2 h1;unfold fN at h;obtain⟨_,_,rfl,h1,h⟩:=h;obtain⟨D,rfl,hd,hD⟩:=kX R1 h1;unfold fN at h;obtain⟨_,_,rfl,h1,h⟩:=h;obtain⟨F,rfl,hf,hF⟩:=kX RW h1;unfold fN at h;obtain⟨_,_,rfl,hm,h⟩:=h
 (unfold fN at h;subst h)
 have h:=hm;unfold Op at h;unfold fN at h;obtain⟨_,_,rfl,h1,h⟩:=h;obtain⟨R,rfl,hr,hR⟩:=DO h1;unfold fN at h;obtain⟨_,_,rfl,h1,h⟩:=h;obtain⟨G,rfl,hg,hG⟩:=DO h1
 (unfold fN at h;subst h)
 exact⟨⟨P,D,F,R,G⟩,rfl,⟨hp,hd,hP,hD⟩⟩
section
open Go.ChangeShapes Go.WideShapes Go.Deep
theorem Cq {P:bI}{H:Type}{enc:TypeId×Value→H}{w:World}{base:Nat}{spare:Nat→Bool}{held:Bool}{t e:TypeId}{v:Value}{d:DataW H}{p:List MemPlace}{pub:cY}{r:cT}{sz:Nat}{xs:List AV}(ht:P.underlying t=some (.slice e)) (h:DataW.Trod enc P w base spare held t v d p) (hl:B9 reachBytes P t d) (hv:bT pub w r (.sl sz xs) v):xs.length * P.bytesOf e≤reachBytes:=by
 have hw:∀n∈d.weights P t,n≤reachBytes:=by
  rcases hl with h1|h1
  ·exact absurd h1 (by decide)
  ·exact h1.2
 obtain⟨fuel,hf⟩:=h;cases hv with
 |sl=>
  rcases open_slice ht hf with ⟨h1,_⟩|⟨a,len,cap,m,n',D,Pl,h1,_,hlc,_,hmm,h2,_⟩
  ·have h3:=(List.cons.inj h1).1;injection h3 with _ h4 _
   rw[h4,Nat.zero_mul];exact aI _
  ·have h3:=(List.cons.inj h1).1;injection h3 with _ h4 _
   have h5:=congrArg Prod.fst h2;dsimp only at h5;subst h5;unfold DataW.weights at hw;rw[ht]at hw;have h6:=hw _ (bD ..);rw[aJ,List.length_range]at h6;rw[h4];exact Nat.le_trans (Nat.mul_le_mul_right _ (Nat.le_add_right _ _)) h6
end
theorem Q9 {s:gZ}{name:bH}{l:List iB}(h0:QH s) (h1:name.size≤reachBytes) (h2:l.length≤maxLen) (h3:∀a∈l,Ql a):Zd ⟨s,name,l⟩:=⟨⟨h0,Nat.le_trans h1 C6,⟨h2,fun c hc=>(h3 c hc).1⟩⟩,fun o ho=>(h3 o ho).2⟩
theorem Ry {s:gZ}{name:bH}{l:List iB}{x:dE}{day:Int}(h0:QH s) (h1:name.size≤reachBytes) (h3:∀a∈l,Ql a) (hb:l.length * 240≤reachBytes) (hx:U4 x) (hd:sQ day):Yt ⟨s,name,l,x,day⟩:=by
 have hr:reachBytes+240≤140737488355328:=by decide
 refine⟨⟨h0,Nat.le_trans h1 C6,⟨?_,fun c hc=>?_⟩⟩,fun o ho=>(h3 o ho).2,hd,?_⟩
 ·show (l++[xI x]).length≤maxLen;rw[aM,List.length_cons,List.length_nil];unfold maxLen;omega
 ·rcases List.mem_append.1 hc with hc|hc
  ·exact(h3 c hc).1
  ·obtain rfl:=List.mem_singleton.1 hc;exact⟨aI _,hx.1,hx.2.1,hx.2.2⟩
 ·show (l.length+1) * 240≤140737488355328;omega
theorem OJ:BN Tryz.prog 9 58=some nV:=by kernel_rfl
theorem AW:BN Tryz.prog 9 29=some rW:=by kernel_rfl
theorem Bt:BN Tryz.prog 9 30=some (.sl 19 Dg):=by kernel_rfl
theorem Qr:BN Tryz.prog 9 25=some (.sl 1 (.int .i64)):=by kernel_rfl
theorem I6:Tryz.prog.bytesOf 60=240:=by kernel_rfl
end Go.Proofs.YtigdiekbiphhmaaGreatDoor
namespace Go.Proofs.YtigdiekbiphhmaaGreatDoor
open Go
theorem dY {a b:Bool}(ha:a=true) (hb:b=true):(a && b)=true:=by rw[ha,hb];rfl
theorem GM {P:bI}{f:FuncId}{fn:Func}{s:ChangeSpec}{c:OpenClaim}(h0:(c.wf (OpenSpec.ofChange s))=true) (h1:(laidOutB P)=true) (h2:(mapsRowed P)=true) (h3:(fn.params.all (P.readableRec ·))=true) (h4:(namedTie P c.named s.vars)=true) (h5:((c.stops == []))=true) (h6:((P.stops == []))=true) (h7:((c.knobs == []))=true) (h8:((P.stopKnobs == []))=true) (h9:((c.inPlace == P.inPlace f))=true) (h10:((c.unfollowed == P.unfollowed f))=true) (h11:((c.recurses == P.recurses f))=true) (h12:((c.named == P.varsNamed f))=true) (h13:((c.maps == (fn.params.toList++s.plain.varTypes P).any (P.mapsRec ·)))=true) (h14:((c.ifaces == (fn.params.toList++s.plain.varTypes P).any (P.ifacesRec ·)))=true) (h15:((c.mapsOut == P.mapsAmong fn.resultTypes.toList))=true) (h16:((c.loops == (fn.params.toList++s.plain.varTypes P).any (P.loopsFrom ·)))=true) (h17:((c.wideKeys == (fn.params.toList++s.plain.varTypes P++fn.resultTypes.toList).any (P.wideKeysFrom ·)))=true) (h18:(s.vars.all (P.varReadable ·))=true) (h19:(fn.resultTypes.all (fun t=>P.readableRec t && decide (t < P.types.size)))=true) (h20:((c.ifacesOut == fn.resultTypes.toList.any (P.ifacesRec ·)))=true) (h21:((c.loopsOut == fn.resultTypes.toList.any (P.loopsFrom ·)))=true) (h22:((c.plainKeys == P.plainKeys))=true) (h23:(c.shortTexts.isNone)=true) (h24:(P.stopsHeard)=true) (h25:(P.mayEnter)=true) (h26:((c.lifted == P.liftsFinal))=true) (h27:((P.make == some c.make))=true) (h28:((c.kinds == (if c.domain.isEmpty then [] else fn.params.toList.map fun t=>match P.underlying t with|some (.int k)=>some k|_=>none)))=true) (h29:((c.pinned == c.pinnedBy))=true) (h30:((c.veiled == (fn.params.toList++s.plain.varTypes P++fn.resultTypes.toList).any (P.veiledRec ·)))=true) (h31:(c.veiledFits P fn.params.toList (fn.params.toList++s.plain.varTypes P++fn.resultTypes.toList))=true):joinedFacts P f fn s c=true:=(dY (dY (dY (dY (dY (dY (dY (dY (dY (dY (dY (dY (dY (dY (dY (dY (dY (dY (dY (dY (dY (dY (dY (dY (dY (dY (dY (dY (dY (dY (dY h0 h1) h2) h3) h4) h5) h6) h7) h8) h9) h10) h11) h12) h13) h14) h15) h16) h17) h18) h19) h20) h21) h22) h23) h24) h25) h26) h27) h28) h29) h30) h31)
theorem Dx:laidOutB Tryz.pinned.checked.prog=true:=by kernel_rfl
theorem Ap:mapsRowed Tryz.pinned.checked.prog=true:=by kernel_rfl
theorem A7:Tryz.pinned.checked.prog.stopsHeard=true:=by kernel_rfl
theorem Bf:Tryz.pinned.checked.prog.mayEnter=true:=by kernel_rfl
end Go.Proofs.YtigdiekbiphhmaaGreatDoor
end
