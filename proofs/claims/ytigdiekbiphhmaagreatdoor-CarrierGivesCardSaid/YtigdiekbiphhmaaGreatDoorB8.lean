/-
  Texts of this proof,joined: CWN,CWV,CYA,CYB,CYC,CYD,CYE,CYF,CYG,CYN,CYO,CYP,CJS,CYH,CAV,CYM,SGA,SGB,SG3,CJA,CYI,CYJ,VO,CYZ,JF.
-/
import Derived.Test.YtigdiekbiphhmaaGreatDoorB7
import Derived.KernelRfl
import Derived.Deep.Slices
import Derived.Deep.Fields
import Derived.ChangeSame
import Derived.ProofKit
import Derived.OpenShut
import Derived.ChangeOld
import Derived.Below
import Derived.Test.YtigdiekbiphhmaaGreatDoorChecked
import Derived.Test.YtigdiekbiphhmaaGreatDoorRows
import Derived.JoinedOf
set_option linter.unusedVariables false
set_option linter.unusedSimpArgs false
noncomputable section
namespace Go.Proofs.YtigdiekbiphhmaaGreatDoor
open Go.RowKit
set_option maxHeartbeats 8000000
set_option maxRecDepth 100000
set_option maxHeartbeats 4000000
theorem jV {α:Type}{L:List α}{i:Nat}{x:α}(h:L[i]?=some x):L.set i x=L:=by
 obtain⟨hl,rfl⟩:=aA.1 h;exact List.set_getElem_self hl
section
variable {s:Su}{C:Cr}{x:Cs}{d:Dp}{i:Nat}{l:dK}{day:Int}{L0:List dB}
def Es (C:Cr) (i:Nat) (d:Dp) (l:dK) (day:Int) (L0:List dB):Prop:=∃L1,L1.Perm C.cust∧qM fB { C with cust:=L1 } d l day=({ (fF ⟨C,i,d,l,day⟩ L0).2.1 with deals:=C.deals.set i (fF ⟨C,i,d,l,day⟩ L0).2.2.1 },(fF ⟨C,i,d,l,day⟩ L0).2.2.2)
theorem Tb (h:fN s C x) (hd:iF Dp.number C.deals l.deal=some d):∃e st fr,d=cG e st fr:=by
 cases hi:cX s C.name l.deal with
 |none=>rw[h.no _ hi]at hd;cases hd
 |some j=>
  obtain⟨e,st,fr,-,-,-,-,h5⟩:=h.at hi;rw[h5]at hd;cases hd;exact⟨e,st,fr,rfl⟩
theorem GK (h:fN s C x) (ha:kK Dp.number C.deals l.deal=some i) (hd:C.deals[i]?=some d) (hp:L0.Perm C.cust) (hk:l.kind=4):Es C i d l day L0:=by
 have hlk:=XN ha hd;obtain⟨e,st,fr,rfl⟩:=Tb h hlk;have hnum:(cG e st fr).number=l.deal:=(mO hlk).2;have hX:fF ⟨C,i,cG e st fr,l,day⟩ L0=nM ⟨C,i,cG e st fr,l,day⟩ L0:=aF hk;have hP:∀M,qM fB { C with cust:=M } (cG e st fr) l day=(rH { C with cust:=M } (cG e st fr) l day,[]):=fun M=>aF hk
 unfold Es;rw[hX];by_cases h1:l.frm≠(cG e st fr).seller∨(cG e st fr).state≠0
 ·refine⟨C.cust,.refl _,?_⟩;rw[hP];have g1:nM ⟨C,i,cG e st fr,l,day⟩ L0=(false,C,cG e st fr,[]):=aF h1;have g2:rH { C with cust:=C.cust } (cG e st fr) l day=C:=aF h1;rw[g1,g2,jV hd]
 ·have g1:nM ⟨C,i,cG e st fr,l,day⟩ L0=match fA C.name (cG e st fr) day L0 (cG e st fr).boxes with
   |none=>(false,C,cG e st fr,[])
   |some L=>(true,{ C with cust:=L },vJ 1 (cG e st fr),[]):=aE h1
  have g2:∀M,rH { C with cust:=M } (cG e st fr) l day=match fA C.name (cG e st fr) day M (cG e st fr).boxes with
   |none=>{ C with cust:=M }
   |some L=>pH { { C with cust:=M } with cust:=L } (cG e st fr).number (vJ 1):=fun M=>aE h1
  rw[g1];rcases yE C.name e st fr day (cG e st fr).boxes L0 x.H (h.cust.perm hp.symm)with ⟨k1,k2⟩|⟨L',H',k1,k2,k3⟩
  ·refine⟨C.cust,.refl _,?_⟩;rw[hP,g2,k1];rcases yE C.name e st fr day (cG e st fr).boxes C.cust x.H h.cust with ⟨k3,k4⟩|⟨L',H',k3,k4,k5⟩
   ·rw[k3];dsimp only;rw[jV hd]
   ·rw[k2]at k4;cases k4
  ·refine⟨L0,hp,?_⟩;rw[hP,g2,k1];dsimp only;unfold pH;dsimp only;rw[hnum,nE h.nd (vJ 1) ha hd]
theorem JA (h:fN s C x) (ha:kK Dp.number C.deals l.deal=some i) (hd:C.deals[i]?=some d) (hp:L0.Perm C.cust) (hk:l.kind=20):Es C i d l day L0:=by
 have hlk:=XN ha hd;have hnum:d.number=l.deal:=(mO hlk).2;have hX:fF ⟨C,i,d,l,day⟩ L0=jC ⟨C,i,d,l,day⟩ L0:=by
  unfold fF;dsimp only;rw[aE (by omega),aE (by omega),aF hk]
 have hP:∀M,qM fB { C with cust:=M } d l day=Ef fB { C with cust:=M } d l day:=fun M=>by
  unfold qM;rw[aE (by omega),aE (by omega),aF hk]
 unfold Es;rw[hX];by_cases h1:d.state≠3∨d.rel=false
 ·refine⟨C.cust,.refl _,?_⟩;rw[hP];have g1:jC ⟨C,i,d,l,day⟩ L0=(false,C,d,eL fB l):=aF h1;have g2:Ef fB { C with cust:=C.cust } d l day=(C,eL fB l):=aF h1;rw[g1,g2,jV hd]
 ·have g1:jC ⟨C,i,d,l,day⟩ L0=match eX (cF C.name l.frm d.to day) L0 d.boxes with
   |none=>(false,C,d,eL fB l)
   |some L=>if jI C.reg (cI 2 d l day)≠0 then (false,C,d,eL fB l) else (true,{ C with cust:=L,deliv:=C.deliv++d.boxes.map (cF C.name l.frm d.to day),reg:=wK C.reg (cI 2 d l day) },vJ 4 d,[{ lX with to:=l.frm,kind:=21,boxes:=d.boxes }]):=aE h1
  have g2:∀M,Ef fB { C with cust:=M } d l day=match eX (cF C.name l.frm d.to day) M d.boxes with
   |none=>({ C with cust:=M },eL fB l)
   |some L=>if jI C.reg (cI 2 d l day)≠0 then ({ C with cust:=M },eL fB l) else
    (pH { C with cust:=L,deliv:=C.deliv++d.boxes.map (cF C.name l.frm d.to day),reg:=wK C.reg (cI 2 d l day) } d.number (vJ 4),[{ lX with to:=l.frm,kind:=21,boxes:=d.boxes }]):=fun M=>aE h1
  rw[g1];rcases pI (cF C.name l.frm d.to day) d.boxes L0 x.H (h.cust.perm hp.symm)with ⟨k1,k2⟩|⟨L',k1,k2,k3⟩
  ·refine⟨C.cust,.refl _,?_⟩;rw[hP,g2,k1];rcases pI (cF C.name l.frm d.to day) d.boxes C.cust x.H h.cust with ⟨k3,k4⟩|⟨L',k3,k4,k5⟩
   ·rw[k3];dsimp only;rw[jV hd]
   ·rw[k2]at k4;cases k4
  ·by_cases h2:jI C.reg (cI 2 d l day)≠0
   ·refine⟨C.cust,.refl _,?_⟩;rw[hP,g2,k1];dsimp only;rw[aF h2];rcases pI (cF C.name l.frm d.to day) d.boxes C.cust x.H h.cust with ⟨k4,k5⟩|⟨L'',k4,k5,k6⟩
    ·rw[k2]at k5;cases k5
    ·rw[k4];dsimp only;rw[aF h2,jV hd]
   ·refine⟨L0,hp,?_⟩;rw[hP,g2,k1];dsimp only;rw[aE h2,aE h2];unfold pH;dsimp only;rw[hnum,nE h.nd (vJ 4) ha hd]
theorem Jg (h:fN s C x) (ha:kK Dp.number C.deals l.deal=some i) (hd:C.deals[i]?=some d) (hp:L0.Perm C.cust):Es C i d l day L0:=by
 by_cases k1:l.kind=4
 ·exact GK h ha hd hp k1
 by_cases k3:l.kind=20
 ·exact JA h ha hd hp k3
 have hlk:=XN ha hd;have hnum:d.number=l.deal:=(mO hlk).2;refine⟨C.cust,.refl _,?_⟩;show qM fB C d l day=_;unfold fF qM;dsimp only;rw[aE k1,aE k1];by_cases k2:l.kind=8
 ·rw[aF k2,aF k2];by_cases h2:iS C.parties l.party=false∨l.party=l.frm∨jI C.reg (cI 1 d l day)≠0
  ·rw[zK h2];have:zN fB C d l day=(C,eL fB l):=aF h2;rw[this,jV hd]
  ·have g1:zN fB C d l day=({ C with reg:=wK C.reg (cI 1 d l day) },[{ lX with to:=l.party,kind:=9,index:=l.index,party:=l.party }]):=aE h2;unfold mI;dsimp only;rw[g1,jV hd]
 rw[aE k2,aE k2,aE k3,aE k3];by_cases k4:l.kind=19
 ·rw[aF k4,aF k4];unfold AX Et;dsimp only;by_cases h2:d.house≠eS∧l.frm=d.house
  ·rw[aF h2,aF h2];unfold pH;rw[hnum,nE h.nd KJ ha hd]
  ·rw[aE h2,aE h2,jV hd]
 rw[aE k4,aE k4];by_cases k5:l.kind=23
 ·rw[aF k5,aF k5];by_cases h2:jI C.reg (cI 3 d l day)=0
  ·rw[uH h2];have g1:rQ fB C d l day=({ C with reg:=wK C.reg (cI 3 d l day) },[]):=aE (fun h=>h h2);rw[g1,jV hd]
  ·rw[As h2];have g1:rQ fB C d l day=(C,eL fB l):=aF h2;rw[g1,jV hd]
 rw[aE k5,aE k5];by_cases k6:l.kind=24
 ·rw[aF k6,aF k6];by_cases h2:jI C.reg (cI 4 d l day)=0
  ·rw[uY h2];have g1:rK fB C d l day=({ C with reg:=wK C.reg (cI 4 d l day) },[{ lX with to:=l.frm,kind:=25,index:=l.index }]):=aE (fun h=>h h2);rw[g1,jV hd]
  ·rw[zP h2];have g1:rK fB C d l day=(C,eL fB l):=aF h2;rw[g1,jV hd]
 rw[aE k6,aE k6,jV hd]
theorem Id (h:fN s C x) (l:dK) (day:Int) (hp:L0.Perm C.cust):∃L1,L1.Perm C.cust∧(eF C l day L0).2=nF fB { C with cust:=L1 } l day:=by
 cases ha:kK Dp.number C.deals l.deal with
 |none=>
  refine⟨C.cust,.refl _,?_⟩;rw[XP ha];unfold nF;dsimp only;rw[uE ha]
 |some i=>
  obtain⟨d,hd,hdn⟩:=dY ha;have hlk:=XN ha hd;by_cases hin:iS C.parties l.frm=false
  ·refine⟨C.cust,.refl _,?_⟩;rw[mZ hin];unfold nF;dsimp only;rw[hlk];dsimp only;rw[aF hin]
  ·obtain⟨L1,hp1,he⟩:=Jg (day:=day) h ha hd hp;refine⟨L1,hp1,?_⟩;unfold eF nF;dsimp only;rw[ha,hlk];dsimp only;rw[hd];dsimp only;rw[aE hin,aE hin,he]
end
set_option maxHeartbeats 8000000
structure DQ where
 C:Cr
 s:gW
 name:bG
 x:Cs
 o:fX
structure Ww (q:DQ):Prop where
 c:Sz ⟨q.C,q.o.a.kind,q.o.a.n,q.o.a.deal,q.o.day⟩
 a:Pg ⟨q.s,q.name,q.x,q.o.a,q.o.day⟩
 eq:(kW eV q.C q.o.a.kind q.o.a.deal q.o.day).2=(jJ eV q.s.su q.name q.x q.o.a.kind q.o.a.deal q.o.day).2
 ok:(jJ eV q.s.su q.name q.x q.o.a.kind q.o.a.deal q.o.day).2.1.length≤1000∧∀l∈(jJ eV q.s.su q.name q.x q.o.a.kind q.o.a.deal q.o.day).2.1,sP l
structure Wp (q:DQ):Prop where
 c:QN ⟨q.C,q.o.l,q.o.day⟩
 t:Pp ⟨q.s,q.name,q.x,q.o.l,q.o.day⟩
 eq:∀L0:List dB,L0.Perm q.C.cust→(eF q.C q.o.l q.o.day L0).2.2=(eA fB q.s.su q.name q.x q.o.l q.o.day).2
 ok:(eA fB q.s.su q.name q.x q.o.l q.o.day).2.length≤1000∧∀l∈(eA fB q.s.su q.name q.x q.o.l q.o.day).2,sP l
def sF (q:DQ):List AV:=[.ptr 0 0,HM q.s,.str q.name,D8 q.x,nJ q.o]
def Td:dN:=spec sF (fun q=>xC q.C) (fun q=>q.o.kind=0∧Ww q) (fun q=>.tup [D8 (jJ eV q.s.su q.name q.x q.o.a.kind q.o.a.deal q.o.day).1,.bl true]) fun q=>xC (kW eV q.C q.o.a.kind q.o.a.deal q.o.day).1
def Sb:dN:=pA sF (fun q=>xC q.C) (fun q=>q.o.kind=1∧Wp q) (fun q (L0:List dB)=>L0.Perm q.C.cust) (fun q _=>.tup [D8 (eA fB q.s.su q.name q.x q.o.l q.o.day).1,.bl true]) fun q L0=>MY (eF q.C q.o.l q.o.day L0).1 (eF q.C q.o.l q.o.day L0).2.1 q.C.cust
def Tf:dN:=spec sF (fun q=>xC q.C) (fun q=>¬q.o.kind=0∧¬q.o.kind=1) (fun q=>.tup [D8 q.x,.bl true]) fun q=>xC q.C
theorem PY (P:bH) (hac:bJ P 23 (vX fun _=>True)) (hra:bJ P 65 (Q0 fun _=>True)) (hal:bJ P 66 KT):bN P TY Td:=by
 intro args H0 K hc;obtain⟨⟨C,s,name,x,⟨okind,day,⟨ak,an,adeal⟩,l⟩⟩,rfl,rfl,⟨hk,hcq,haq,heq,hok⟩,hK⟩:=hc;refine⟨cN,?_⟩;dsimp only at hk hcq haq heq hok hK⊢;subst hk;obtain⟨r1,hr1⟩:∃r,r=kW eV C ak adeal day:=⟨_,rfl⟩
 obtain⟨r2,hr2⟩:∃r,r=jJ eV s.su name x ak adeal day:=⟨_,rfl⟩
 rw[←hr1,←hr2]at heq;rw[←hr2]at hok hK;rw[←hr1]at hK;obtain⟨⟨name1,parties1,deals1,⟨rc1,rL1⟩,cust1,deliv1⟩,l1,e1⟩:=r1;obtain⟨⟨S2,free2,⟨c2,L2⟩,H2,D2⟩,l2,e2⟩:=r2;dsimp only at heq hok hK;cases heq;obtain⟨cname,cparties,cdeals,⟨rc,rL⟩,cust,deliv⟩:=C;obtain⟨parties,deals,funds,rest,holidays⟩:=s;obtain⟨S,free,⟨c,L⟩,H,D⟩:=x;obtain⟨frm,to,number,lkind,ack,ldeal,text,party,index,day0,cur,amt,docs,boxes⟩:=l;unfold sF;dsimp only;cbv;repeat'((first|refine .y fun h=>?_|fail)<;>cbv)
 (refine gT hac (⟨⟨cname,cparties,cdeals,⟨rc,rL⟩,cust,deliv⟩,ak,an,adeal,day⟩:CQ) [0,1,2,3,4,5,6,7] ⟨trivial,hcq⟩ ?_;try dsimp only)
 rw[←hr1];cbv
 (refine XG hra (⟨⟨parties,deals,funds,rest,holidays⟩,name,⟨S,free,⟨c,L⟩,H,D⟩,⟨ak,an,adeal⟩,day⟩:P8) ⟨trivial,haq⟩ ?_;try dsimp only)
 rw[←hr2];cbv;repeat'((first|refine .y fun h=>?_|fail)<;>cbv)
 (refine XG hal l1 hok ?_;try dsimp only)
 cbv
 (refine .q9 ?_;cbv;exact .inl (.g9 hK))
theorem OQ (P:bH) (hti:bJ P 24 BZ):bN P TY Tf:=by
 intro args H0 K hc;obtain⟨⟨C,s,name,x,⟨okind,day,⟨ak,an,adeal⟩,l⟩⟩,rfl,rfl,⟨hk0,hk1⟩,hK⟩:=hc;refine⟨cN,?_⟩;dsimp only at hk0 hk1 hK⊢;obtain⟨cname,cparties,cdeals,⟨rc,rL⟩,cust,deliv⟩:=C;obtain⟨parties,deals,funds,rest,holidays⟩:=s;obtain⟨S,free,⟨c,L⟩,H,D⟩:=x;obtain⟨frm,to,number,lkind,ack,ldeal,text,party,index,day0,cur,amt,docs,boxes⟩:=l;unfold sF;dsimp only;cbv;repeat'((first|refine .n fun h=>?_|fail)<;>cbv)
 all_goals
  (refine gT hti ((⟨cname,cparties,cdeals,⟨rc,rL⟩,cust,deliv⟩,day):Cr×Int) [0,1,2,3,4,5,6,7] trivial ?_;try dsimp only)
  cbv;repeat'((first|refine .y fun h=>?_|fail)<;>cbv)
  (refine .q9 ?_;cbv;exact .inl (.g9 hK))
theorem NA (P:bH) (hta:bJ P 18 (pT fun _=>True)) (hrt:bJ P 67 (Mj fun _=>True)) (hal:bJ P 66 KT):bN P TY Sb:=by
 intro args H0 K hc;obtain⟨⟨C,s,name,x,⟨okind,day,⟨ak,an,adeal⟩,l⟩⟩,rfl,rfl,⟨hk,hcq,htq,heq,hok⟩,hK⟩:=hc;refine⟨cN,?_⟩;dsimp only at hk hcq htq heq hok hK⊢;subst hk;obtain⟨r2,hr2⟩:∃r,r=eA fB s.su name x l day:=⟨_,rfl⟩
 rw[←hr2]at hok hK heq;obtain⟨⟨S2,free2,⟨c2,L2⟩,H2,D2⟩,l2⟩:=r2;dsimp only at heq hok;obtain⟨cname,cparties,cdeals,⟨rc,rL⟩,cust,deliv⟩:=C;obtain⟨parties,deals,funds,rest,holidays⟩:=s;obtain⟨S,free,⟨c,L⟩,H,D⟩:=x;obtain⟨frm,to,number,lkind,ack,ldeal,text,party,index,day0,cur,amt,docs,boxes⟩:=l;unfold sF;dsimp only;cbv;repeat'((first|refine .n fun h=>?_|refine .y fun h=>?_|fail)<;>cbv)
 refine cK hta (⟨⟨cname,cparties,cdeals,⟨rc,rL⟩,cust,deliv⟩,⟨frm,to,number,lkind,ack,ldeal,text,party,index,day0,cur,amt,docs,boxes⟩,day⟩:TQ) [0,1,2,3,4,5,6,7] ⟨trivial,hcq⟩ rfl rfl (by decide) rfl rfl rfl rfl rfl ?_;intro L0 hp0;have hK:=hK L0 hp0;have heq:=heq L0 hp0;obtain⟨r1,hr1⟩:∃r,r=eF ⟨cname,cparties,cdeals,⟨rc,rL⟩,cust,deliv⟩ ⟨frm,to,number,lkind,ack,ldeal,text,party,index,day0,cur,amt,docs,boxes⟩ day L0:=⟨_,rfl⟩
 rw[←hr1]at hK heq
 try dsimp only
 rw[←hr1];obtain⟨mv,⟨name1,parties1,deals1,⟨rc1,rL1⟩,cust1,deliv1⟩,l1⟩:=r1
 try dsimp only at hK heq
 subst heq;clear hr1;cases mv with
 |false=>
  cbv
  (refine XG hrt (⟨⟨parties,deals,funds,rest,holidays⟩,name,⟨S,free,⟨c,L⟩,H,D⟩,⟨frm,to,number,lkind,ack,ldeal,text,party,index,day0,cur,amt,docs,boxes⟩,day⟩:Of) ⟨trivial,htq⟩ ?_;try dsimp only)
  rw[←hr2];cbv
  (refine XG hal l1 hok ?_;try dsimp only)
  cbv
  (refine .q9 ?_;cbv;exact .inl (.g9 hK))
 |true=>
  cbv
  (refine XG hrt (⟨⟨parties,deals,funds,rest,holidays⟩,name,⟨S,free,⟨c,L⟩,H,D⟩,⟨frm,to,number,lkind,ack,ldeal,text,party,index,day0,cur,amt,docs,boxes⟩,day⟩:Of) ⟨trivial,htq⟩ ?_;try dsimp only)
  rw[←hr2];cbv
  (refine XG hal l1 hok ?_;try dsimp only)
  cbv
  (refine .q9 ?_;cbv;exact .inl (eU.sel [0,1,2,3,4,5,6,7,12,13] _ _ (by rfl) (by rfl) (by decide) (by rfl) cN (by rfl) (by rfl) (Le.refl _) (jS.refl _) hK))
set_option maxHeartbeats 4000000
structure XB (k:Nat) (s:gW) (x:Cs):Prop where
 S:x.S.length=s.deals.length
 F:x.free.length=s.deals.length
 st:∀z∈x.S,0≤z∧z≤4
 inv:zD k x.reg
 H:x.H.length≤140 * k
 D:x.D.length≤70 * k
theorem oJ {L:List Int}{i:Nat}{y z:Int}(h:z∈L.set i y):z∈L∨z=y:=by
 rcases List.mem_or_eq_of_mem_set h with h|h
 ·exact .inl h
 ·exact .inr h
theorem A1 {name:bG}{d:De}{day:Int}:∀{bs:List bG}{H H':List XL},iG name d day H bs=some H'→H'.length=H.length+2 * bs.length
 |[],H,H',h=>by cases h;simp
 |b :: r,H,H',h=>by
  have g:iG name d day H (b :: r)=if rE H (cF eS d.seller d.frm day b)≠0 then none else if eW (H++[cF eS d.seller d.frm day b]) (cF d.seller name d.frm day b)≠0 then none else iG name d day (H++[cF eS d.seller d.frm day b]++[cF d.seller name d.frm day b]) r:=rfl
  rw[g]at h
  split at h
  ·cases h
  split at h
  ·cases h
  have:=A1 h;simp only[aM,List.length_cons,List.length_nil]at this⊢;omega
theorem yY {f:bG→XL}:∀{bs:List bG}{H H':List XL},eP f H bs=some H'→H'.length=H.length+bs.length
 |[],H,H',h=>by cases h;simp
 |b :: r,H,H',h=>by
  have g:eP f H (b :: r)=if eW H (f b)≠0 then none else eP f (H++[f b]) r:=rfl
  rw[g]at h
  split at h
  ·cases h
  have:=yY h;simp only[aM,List.length_cons,List.length_nil]at this⊢;omega
section
variable {k:Nat}{s:gW}{x:Cs}{name:bG}{l:dK}{day:Int}
theorem XB.succ (h:XB k s x):XB (k+1) s x:=⟨h.S,h.F,h.st,h.inv.mono (Nat.le_succ k),by have:=h.H;omega,by have:=h.D;omega⟩
theorem XB.reg (h:XB k s x) {R:Rg}(hR:zD (k+1) R):XB (k+1) s { x with reg:=R }:=⟨h.S,h.F,h.st,hR,by have:=h.H;show x.H.length≤_;omega,by have:=h.D;show x.D.length≤_;omega⟩
theorem D6 {i:Nat}{d:De}(hs:lL s) (hd:s.su.deals[i]?=some d):d.boxes.length≤70:=by
 have hd:(s.deals.map iW.de)[i]?=some d:=hd;rw[aD]at hd;cases he:s.deals[i]? with
 |none=>rw[he]at hd;cases hd
 |some e=>
  rw[he]at hd;cases hd;have:=(hs.ok e (aC he)).bx;show (e.boxes.map Dx.mark).length≤70;rw[aJ];exact this
theorem Rf:tY cI.noBl:=⟨aI _,aI _⟩
theorem XB.take (h:XB k s x) (hs:lL s) (nm:Int→bG):XB (k+1) s (eA nm s.su name x l day).1:=by
 unfold eA
 split
 ·exact h.succ
 rename_i i hi
 split
 ·exact h.succ
 split
 rotate_left
 ·exact h.succ
 rename_i d st fr hd hst hfr;have hbx:=D6 hs hd
 split
 ·split
  ·split
   ·exact h.succ
   ·rename_i H hH;have:=A1 hH;have hx:=h.H;refine⟨?_,h.F,fun z hz=>?_,h.inv.mono (Nat.le_succ k),?_,?_⟩
    ·show (x.S.set i 1).length=_;rw[bA];exact h.S
    ·rcases oJ (show z∈x.S.set i 1 from hz)with hz|hz
     ·exact h.st z hz
     ·omega
    ·show H.length≤_;omega
    ·have:=h.D;show x.D.length≤_;omega
  ·exact h.succ
 split
 ·split
  ·refine⟨h.S,?_,h.st,h.inv.mono (Nat.le_succ k),?_,?_⟩
   ·show (x.free.set i true).length=_;rw[bA];exact h.F
   ·have:=h.H;show x.H.length≤_;omega
   ·have:=h.D;show x.D.length≤_;omega
  ·exact h.succ
 split
 rotate_left
 ·exact h.succ
 rename_i hk4 hk19 hkk;dsimp only;have hdo:∀k9:Int,0≤k9∧k9≤5→zD (k+1) (iN x.reg (dM k9 d l day)).1:=fun k9 hk9=>GT h.inv hk9 Rf
 have hk9:0≤(if l.kind=8 then (1:Int) else if l.kind=20 then 2 else if l.kind=23 then 3 else 4)∧(if l.kind=8 then (1:Int) else if l.kind=20 then 2 else if l.kind=23 then 3 else 4)≤5:=by
  repeat' split
  all_goals decide
 obtain⟨k9,hke⟩:∃k9:Int,k9=(if l.kind=8 then (1:Int) else if l.kind=20 then 2 else if l.kind=23 then 3 else 4):=⟨_,rfl⟩
 rw[←hke]at hk9⊢;clear hke
 split
 ·exact h.succ
 split
 ·split
  ·exact h.succ
  ·rename_i H hH
   split
   ·exact h.succ
   ·have h1:=yY hH;have hx:=h.H;have hy:=h.D;refine⟨?_,h.F,fun z hz=>?_,hdo _ hk9,?_,?_⟩
    ·show (x.S.set i 4).length=_;rw[bA];exact h.S
    ·rcases oJ (show z∈x.S.set i 4 from hz)with hz|hz
     ·exact h.st z hz
     ·omega
    ·show H.length≤_;omega
    ·show (x.D++H.drop x.H.length).length≤_;rw[aM,List.length_drop];omega
 ·exact h.reg (hdo _ hk9)
theorem XB.car (h:XB k s x) (hs:lL s) (kind:Int) (deal:bG):XB (k+1) s (jJ eV s.su name x kind deal day).1:=by
 unfold jJ
 split
 ·exact h.succ
 split
 ·exact h.succ
 rename_i i hi
 split
 rotate_left
 ·exact h.succ
 rename_i d st hd hst;have hbx:=D6 hs hd
 split
 ·split
  ·exact h.succ
  ·refine⟨?_,h.F,fun z hz=>?_,h.inv.mono (Nat.le_succ k),?_,?_⟩
   ·show (x.S.set i 3).length=_;rw[bA];exact h.S
   ·rcases oJ (show z∈x.S.set i 3 from hz)with hz|hz
    ·exact h.st z hz
    ·omega
   ·have:=h.H;show x.H.length≤_;omega
   ·have:=h.D;show x.D.length≤_;omega
 split
 ·exact h.succ
 dsimp only
 split
 ·exact h.succ
 ·refine⟨?_,h.F,fun z hz=>?_,(yH h.inv ⟨by show d.boxes.length≤5000;omega,aI _⟩).mono (Nat.le_succ k),?_,?_⟩
  ·show (x.S.set i 2).length=_;rw[bA];exact h.S
  ·rcases oJ (show z∈x.S.set i 2 from hz)with hz|hz
   ·exact h.st z hz
   ·omega
  ·have:=h.H;show x.H.length≤_;omega
  ·have:=h.D;show x.D.length≤_;omega
theorem XB.new (s:gW) (name:bG):XB 0 s (zR s.su name):=by
 refine⟨?_,?_,fun z hz=>?_,BP 0 name,aN _,aN _⟩
 ·show ((s.deals.map iW.de).map fun _=>(0:Int)).length=_;rw[aJ,aJ]
 ·show ((s.deals.map iW.de).map fun d=>decide (d.house=eS)).length=_;rw[aJ,aJ]
 ·obtain⟨d,_,rfl⟩:=aX.1 (show z∈(s.deals.map iW.de).map fun _=>(0:Int) from hz);decide
theorem XB.csOk (h:XB k s x) (hk:k≤100):RZ s x:=⟨h.S,h.F,by have:=h.H;omega,by have:=h.D;omega,h.inv.few,h.inv.inB (by omega)⟩
end
structure PB (C:Cr):Prop where
 cu:lD C.cust
 dz:∀d∈C.deals,d.number.size≤300∧d.boxes.length≤70∧∀b∈d.boxes,b.size≤60
theorem BE {name:bG}{d:Dp}{day:Int}:∀{bs:List bG}{L L':List dB},lD L→fA name d day L bs=some L'→lD L'
 |[],L,L',hc,h=>by cases h;exact hc
 |b :: r,L,L',hc,h=>by
  have g:fA name d day L (b :: r)=if rD L (cF eS d.seller d.frm day b)≠0 then none else if hC (L++[⟨b,[cF eS d.seller d.frm day b]⟩]) (cF d.seller name d.frm day b)≠0 then none else fA name d day (iP dB.box (L++[⟨b,[cF eS d.seller d.frm day b]⟩]) b (gU (cF d.seller name d.frm day b))) r:=rfl
  rw[g]at h
  split at h
  ·cases h
  rename_i h1
  split at h
  ·cases h
  rename_i h2;have e1:rD L (cF eS d.seller d.frm day b)=0:=by omega
  have e2:hC (L++[⟨b,[cF eS d.seller d.frm day b]⟩]) (cF d.seller name d.frm day b)=0:=by omega
  exact BE ((hc.beg e1).hand (x:=cF d.seller name d.frm day b) e2) h
theorem Bb {f:bG→XL}:∀{bs:List bG}{L L':List dB},lD L→eX f L bs=some L'→lD L'
 |[],L,L',hc,h=>by cases h;exact hc
 |b :: r,L,L',hc,h=>by
  have g:eX f L (b :: r)=if hC L (f b)≠0 then none else eX f (iP dB.box L (f b).box (gU (f b))) r:=rfl
  rw[g]at h
  split at h
  ·cases h
  rename_i h1;have e1:hC L (f b)=0:=by omega
  exact Bb (hc.hand e1) h
section
variable {C:Cr}{l:dK}{day:Int}
theorem PB.perm (h:PB C) {L:List dB}(p:L.Perm C.cust):PB { C with cust:=L }:=⟨h.cu.perm p.symm,h.dz⟩
theorem PB.upd (h:PB C) (n:bG) {f:Dp→Dp}(hf:∀d,(f d).number=d.number∧(f d).boxes=d.boxes):PB (pH C n f):=⟨h.cu,fun d hd=>by
 obtain⟨e,he,rfl⟩:=aX.1 (show d∈C.deals.map fun b=>if b.number=n then f b else b from hd)
 split
 ·rw[(hf e).1,(hf e).2];exact h.dz e he
 ·exact h.dz e he⟩
theorem tO (st:Int) (d:Dp):(vJ st d).number=d.number∧(vJ st d).boxes=d.boxes:=⟨rfl,rfl⟩
theorem PB.kind (h:PB C) (nm:Int→bG) (d:Dp):PB (qM nm C d l day).1:=by
 unfold qM
 split
 ·show PB (rH C d l day);unfold rH
  split
  ·exact h
  split
  ·exact h
  ·rename_i L hL;exact PB.upd (C:={ C with cust:=L }) ⟨BE h.cu hL,h.dz⟩ _ (tO 1)
 split
 ·unfold zN
  split
  ·exact h
  ·exact⟨h.cu,h.dz⟩
 split
 ·unfold Ef
  split
  ·exact h
  split
  ·exact h
  ·rename_i L hL
   split
   ·exact h
   ·exact PB.upd (C:={ C with cust:=L,deliv:=_,reg:=_ }) ⟨Bb h.cu hL,h.dz⟩ _ (tO 4)
 split
 ·show PB (Et C d l);unfold Et
  split
  ·exact h.upd _ fun d=>⟨rfl,rfl⟩
  ·exact h
 split
 ·unfold rQ
  split
  ·exact h
  ·exact⟨h.cu,h.dz⟩
 split
 ·unfold rK
  split
  ·exact h
  ·exact⟨h.cu,h.dz⟩
 exact h
theorem PB.take (h:PB C) (nm:Int→bG):PB (nF nm C l day).1:=by
 unfold nF
 split
 ·exact h
 split
 ·exact h
 ·exact h.kind nm _
theorem PB.car (h:PB C) (kind:Int) (deal:bG):PB (kW eV C kind deal day).1:=by
 unfold kW
 split
 ·exact h
 split
 ·exact h
 rename_i d hd;by_cases h1:d.state≠(if kind=5 then 1 else 2)
 ·rw[aF h1];exact h
 rw[aE h1];by_cases hk:kind=5
 ·rw[aF hk];unfold tS
  split
  ·exact h
  ·exact PB.upd (C:={ C with reg:=iY ⟨C.reg,eQ C.name d day,d.seller⟩ }) ⟨h.cu,h.dz⟩ _ (tO 2)
 ·rw[aE hk];exact h.upd _ (tO 3)
end
theorem kD {n:bG}{day:Int}{ls:List dK}(h:ls.length≤1∧∀l∈ls,sP l):(cC n day ls).length≤1000∧∀l∈cC n day ls,sP l:=by
 unfold cC;refine⟨by rw[aJ];omega,fun l hl=>?_⟩;obtain⟨x,hx,rfl⟩:=aX.1 hl;exact h.2 x hx
theorem rA {l:dK}(h:sP l):[l].length≤1∧∀x∈[l],sP x:=⟨aN _,fun x hx=>by
 obtain rfl:x=l:=by simpa using hx
 exact h⟩
theorem tN {l:dK}(hd:l.docs=[]) (hb:l.boxes.length≤1000):sP l:=⟨by rw[hd];exact aI _,hb,fun d hm=>by rw[hd]at hm;cases hm⟩
theorem CS (nm:Int→bG) (l:dK):(eL nm l).length≤1∧∀x∈eL nm l,sP x:=rA (tN rfl (aI _))
theorem iO:([]:List dK).length≤1000∧∀x∈([]:List dK),sP x:=⟨aI _,fun x hx=>by cases hx⟩
theorem Nd:([]:List dK).length≤1∧∀x∈([]:List dK),sP x:=⟨aI _,fun x hx=>by cases hx⟩
theorem KN {s:gW}(hs:lL s) {x:Cs}{name:bG}{l:dK}{day:Int}(nm:Int→bG):(eA nm s.su name x l day).2.length≤1000∧∀y∈(eA nm s.su name x l day).2,sP y:=by
 unfold eA
 split
 ·exact iO
 split
 ·exact iO
 split
 rotate_left
 ·exact iO
 rename_i d st fr hd hst hfr;have hbx:=D6 hs hd
 split
 ·exact iO
 split
 ·exact iO
 split
 rotate_left
 ·exact iO
 dsimp only;obtain⟨k9,hke⟩:∃k9:Int,k9=(if l.kind=8 then (1:Int) else if l.kind=20 then 2 else if l.kind=23 then 3 else 4):=⟨_,rfl⟩
 rw[←hke];clear hke
 split
 ·exact kD (CS nm l)
 split
 ·split
  ·exact kD (CS nm l)
  ·split
   ·exact kD (CS nm l)
   ·exact kD (rA (tN rfl (by show d.boxes.length≤1000;omega)))
 ·refine kD ?_
  split
  ·exact rA (tN rfl (aI _))
  split
  ·exact rA (tN rfl (aI _))
  ·exact Nd
theorem OS {s:gW}(hs:lL s) {x:Cs}{name:bG}{day:Int}(kind:Int) (deal:bG):(jJ eV s.su name x kind deal day).2.1.length≤1000∧∀y∈(jJ eV s.su name x kind deal day).2.1,sP y:=by
 unfold jJ
 split
 ·exact iO
 split
 ·exact iO
 split
 rotate_left
 ·exact iO
 rename_i d st hd hst;have hbx:=D6 hs hd
 split
 ·split
  ·exact iO
  ·exact kD (rA (tN rfl (by show d.boxes.length≤1000;omega)))
 split
 ·exact iO
 dsimp only
 split
 ·exact iO
 ·refine kD (rA ⟨Nat.le_of_ble_eq_true rfl,aI _,fun d2 hd2=>?_⟩);obtain rfl:d2=eV (eQ name (cG d st true) day):=by simpa using hd2
  exact Nat.le_of_ble_eq_true rfl
structure Jt (k:Nat) (s:gW) (name:bG) (C:Cr) (x:Cs):Prop where
 rel:fN s.su C x
 nm:C.name=name
 xb:XB k s x
 pb:PB C
structure Cc (o:fX):Prop where
 day:-9223372036854775808≤o.day∧o.day≤9223372036854775807
 a:o.a.deal.size≤300
 l:o.l.frm.size≤300∧o.l.deal.size≤300∧o.l.party.size≤300
section
variable {k:Nat}{s:gW}{name:bG}{C:Cr}{x:Cs}{o:fX}{l:dK}{day:Int}{L0:List dB}
theorem Jt.inv (h:Jt k s name C x):zD k C.reg:=by rw[h.rel.reg];exact h.xb.inv
theorem Jt.crOk (h:Jt k s name C x) (hk:k≤100):QW C:=⟨h.rel.nd,h.inv.few,h.inv.inB (by omega),fun d hd=>by have:=(h.pb.dz d hd).1;omega,fun d hd=>(h.pb.dz d hd).2.1,fun d hd=>(h.pb.dz d hd).2.2⟩
theorem Jt.tqOk (h:Jt k s name C x) (hk:k≤100):QN ⟨C,l,day⟩:=⟨h.crOk hk,h.pb.cu,by
 show C.deliv.length≤40000;rw[h.rel.del];have:=h.xb.D;omega⟩
theorem Ps (hs:lL s):∀d∈s.su.deals,J5 d:=fun d hd=>by
 obtain⟨i,hi⟩:=aV hd;exact D6 hs hi
theorem Jt.act (h:Jt k s name C x) (hs:lL s) (kind:Int) (deal:bG) (day:Int):Jt (k+1) s name (kW eV C kind deal day).1 (jJ eV s.su name x kind deal day).1∧(kW eV C kind deal day).2=(jJ eV s.su name x kind deal day).2:=by
 obtain⟨h1,h2,h3⟩:=fN.car (day:=day) eV h.rel (Ps hs) kind deal;rw[h.nm]at h1 h2 h3;exact⟨⟨h1,h3,h.xb.car hs kind deal,h.pb.car kind deal⟩,h2⟩
theorem Jt.take (h:Jt k s name C x) (hs:lL s) (l:dK) (day:Int) (hp:L0.Perm C.cust):Jt (k+1) s name (eF C l day L0).2.1 (eA fB s.su name x l day).1∧(eF C l day L0).2.2=(eA fB s.su name x l day).2:=by
 obtain⟨L1,hp1,he⟩:=Id h.rel l day hp;obtain⟨h1,h2,h3⟩:=(h.rel.perm hp1.symm).take fB l day;have h3:(nF fB { C with cust:=L1 } l day).1.name=C.name:=h3;have h1:fN s.su (nF fB { C with cust:=L1 } l day).1 (eA fB s.su C.name x l day).1:=h1;have h2:(nF fB { C with cust:=L1 } l day).2=(eA fB s.su C.name x l day).2:=h2;have h4:=(h.pb.perm hp1).take (l:=l) (day:=day) fB;rw[←he]at h1 h2 h3 h4;rw[h.nm]at h1 h2 h3;exact⟨⟨h1,h3,h.xb.take hs fB,h4⟩,h2⟩
theorem Jt.succ (h:Jt k s name C x):Jt (k+1) s name C x:=⟨h.rel,h.nm,h.xb.succ,h.pb⟩
theorem Jt.doA (h:Jt k s name C x) (hk:k≤100) (hs:lL s) (hn:name.size≤60) (ho:Cc o):Ww ⟨C,s,name,x,o⟩:=
 ⟨⟨h.crOk hk,ho.day⟩,⟨hs,h.xb.csOk hk,⟨hn,ho.a⟩,ho.day⟩,(h.act hs _ _ _).2,OS hs _ _⟩
theorem Jt.doT (h:Jt k s name C x) (hk:k≤100) (hs:lL s) (hn:name.size≤60) (ho:Cc o):Wp ⟨C,s,name,x,o⟩:=
 ⟨h.tqOk hk,⟨hs,h.xb.csOk hk,⟨hn,ho.l.1,ho.l.2.1,ho.l.2.2⟩⟩,fun L0 hp=>(h.take hs _ _ hp).2,KN hs fB⟩
end
def qD (s:gW) (name:bG) (x:Cs) (o:fX):Cs:=if o.kind=0 then (jJ eV s.su name x o.a.kind o.a.deal o.day).1 else if o.kind=1 then (eA fB s.su name x o.l o.day).1 else x
structure DJ where
 q:DQ
 k:Nat
structure Sv (j:DJ):Prop where
 jt:Jt j.k j.q.s j.q.name j.q.C j.q.x
 k:j.k≤100
 s:lL j.q.s
 n:j.q.name.size≤60
 o:Cc j.q.o
def QK:dN:=pA (fun j:DJ=>sF j.q) (fun j=>xC j.q.C) Sv (fun j (r:Bool×Cr)=>Jt (j.k+1) j.q.s j.q.name r.2 (qD j.q.s j.q.name j.q.x j.q.o)) (fun j _=>.tup [D8 (qD j.q.s j.q.name j.q.x j.q.o),.bl true]) fun j r=>MY r.1 r.2 j.q.C.cust
theorem Re {P:bH}(hac:bJ P 23 (vX fun _=>True)) (hra:bJ P 65 (Q0 fun _=>True)) (hta:bJ P 18 (pT fun _=>True)) (hrt:bJ P 67 (Mj fun _=>True)) (hti:bJ P 24 BZ) (hal:bJ P 66 KT):bN P TY QK:=by
 intro args H0 K hc;obtain⟨⟨⟨C,s,name,x,o⟩,k⟩,h1,h2,⟨hj,hk,hs,hn,ho⟩,hK⟩:=hc;dsimp only at hj hk hs hn ho;by_cases k0:o.kind=0
 ·have e:qD s name x o=(jJ eV s.su name x o.a.kind o.a.deal o.day).1:=aF k0;have h5:=hK (false,(kW eV C o.a.kind o.a.deal o.day).1) (by dsimp only;rw[e];exact(hj.act hs _ _ _).1);dsimp only at h5;rw[e]at h5;exact PY P hac hra hal args H0 K ⟨⟨C,s,name,x,o⟩,h1,h2,⟨k0,hj.doA hk hs hn ho⟩,h5⟩
 by_cases k1:o.kind=1
 ·have e:qD s name x o=(eA fB s.su name x o.l o.day).1:=(aE k0).trans (aF k1);refine NA P hta hrt hal args H0 K ⟨⟨C,s,name,x,o⟩,h1,h2,⟨k1,hj.doT hk hs hn ho⟩,fun L0 hp=>?_⟩;have h5:=hK ((eF C o.l o.day L0).1,(eF C o.l o.day L0).2.1) (by dsimp only;rw[e];exact(hj.take hs _ _ hp).1);dsimp only at h5;rw[e]at h5;exact h5
 ·have e:qD s name x o=x:=(aE k0).trans (aE k1);have h5:=hK (false,C) (by dsimp only;rw[e];exact hj.succ);dsimp only at h5;rw[e]at h5;exact OQ P hti args H0 K ⟨⟨C,s,name,x,o⟩,h1,h2,⟨k0,k1⟩,h5⟩
theorem Jt.new {s:gW}{name:bG}(hs:lL s):Jt 0 s name (LP s.su name) (zR s.su name):=by
 refine⟨fN.new s.su name,rfl,XB.new s name,⟨⟨aI _,.nil,fun b hb=>(by cases hb),fun b hb=>(by cases hb),fun b hb=>(by cases hb)⟩,?_⟩⟩;have h:∀(l:List De) (L:List Dp),(∀d∈l,d.number.size≤300∧d.boxes.length≤70∧∀b∈d.boxes,b.size≤60)→(∀d∈L,d.number.size≤300∧d.boxes.length≤70∧∀b∈d.boxes,b.size≤60)→∀d∈l.foldl (EQ name) L,d.number.size≤300∧d.boxes.length≤70∧∀b∈d.boxes,b.size≤60:=by
  intro l
  induction l with
  |nil=>intro L _ hL d hd;exact hL d hd
  |cons a l ih=>
   intro L hl hL;rw[List.foldl_cons];refine ih _ (fun d hd=>hl d (aW _ hd)) fun d hd=>?_
   unfold EQ at hd
   split at hd
   ·exact hL d hd
   ·rcases List.mem_append.1 hd with hd|hd
    ·exact hL d hd
    ·obtain rfl:d=cG a 0 (decide (a.house=eS)):=by simpa using hd
     exact hl a (bD ..)
 refine h s.su.deals [] (fun d hd=>?_) fun d hd=>by cases hd
 obtain⟨e,he,rfl⟩:=aX.1 (show d∈s.deals.map iW.de from hd);have hok:=hs.ok e he;refine⟨hok.sz.1,?_,fun b hb=>?_⟩
 ·show (e.boxes.map Dx.mark).length≤70;rw[aJ];exact hok.bx
 ·exact kB hok b hb
set_option maxHeartbeats 8000000
def pN (s:gW) (name:bG) (l:List fX):Cs:=l.foldl (qD s name) (zR s.su name)
structure VP where
 s:gW
 name:bG
 l:List fX
structure SJ (q:VP):Prop where
 s:lL q.s
 n:q.name.size≤60
 l:q.l.length≤40
 o:∀o∈q.l,Cc o
def Cl:dN:=pA (fun q:VP=>[HM q.s,.str q.name,.sl 19 (bI nJ q.l)]) (fun _=>[]) SJ (fun q C=>Jt q.l.length q.s q.name C (pN q.s q.name q.l)) (fun q _=>.tup [.ptr 0 0,D8 (pN q.s q.name q.l)]) fun _ C=>xC C
theorem DY (P:bH) (hn:bJ P 21 xO) (hrn:bJ P 31 Fi) (hdo:bJ P 32 QK):bN P WV Cl:=by
 intro args H K hc;obtain⟨⟨⟨parties,deals,funds,rest,holidays⟩,name,l⟩,rfl,rfl,hp,hK⟩:=hc;refine⟨cN,?_⟩;dsimp only at hp hK⊢;obtain⟨hs,hnz,hll,hlo⟩:=hp;dsimp only at hs hnz hll hlo;have hjn:=Jt.new (name:=name) hs;obtain⟨n,hnn⟩:∃n:Nat,n=l.length:=⟨_,rfl⟩
 obtain⟨⟨name1,parties1,deals1,⟨rc1,rL1⟩,cust1,deliv1⟩,hC0⟩:∃C,C=LP (gW.su ⟨parties,deals,funds,rest,holidays⟩) name:=⟨_,rfl⟩
 obtain⟨⟨S,free,⟨c,L⟩,H,D⟩,hx0⟩:∃x,x=zR (gW.su ⟨parties,deals,funds,rest,holidays⟩) name:=⟨_,rfl⟩
 rw[←hC0,←hx0]at hjn;cbv;repeat'((first|refine And.intro ?_ ?_|fail)<;>cbv)
 all_goals
  repeat'(first
   |((refine xK hn ((name,⟨parties,deals,funds,rest,holidays⟩):bG×gW) hs ?_;try dsimp only)
     rw[←hC0];cbv;repeat'((first|refine And.intro ?_ ?_|fail)<;>cbv))
   |((refine XG hrn ((⟨parties,deals,funds,rest,holidays⟩,name):gW×bG) hs.de ?_;try dsimp only)
     rw[←hx0];cbv))
 all_goals first
 |refine iI (Gh.sel (st':=⟨[(1,.str name),(2,.sl 19 (bI nJ l)),(3,.ptr 8 0),(7,.ptr 9 0),(8,.ptr 0 0),(9,.ptr 10 0),(10,.i 0)],[.blk 118 [.str name1,.hd 1,.ph 2,.ptr 3 0,.ptr 5 0,.hd 7],.map 70 (bI iH parties1),.pool 116 (bI gZ deals1) [],.blk 122 [.str rc1,.ph 4],.pool 120 (bI eD rL1) [],.blk 174 [.ph 6],.pool 172 (bI gE cust1) [],.tip 77 5 (bI dC deliv1),.blk 29 [.sl 3 (bI jQ parties),.sl 17 (bI iJ deals),.sl 3 (bI jT funds),.sl 1 (bI cY rest),.sl 1 (bI cY holidays)],.blk 41 [.v (.slice none 0 0),.v (.slice none 0 0),.str ⟨#[]⟩,.v (.slice none 0 0),.v (.slice none 0 0),.v (.slice none 0 0)],.blk 41 [.sl 1 (bI cY S),.sl 1 (bI mR free),.str c,.sl 11 (bI iD L),.sl 5 (bI dC H),.sl 5 (bI dC D)]]⟩) [3,4,5,6,7,8,9,10,0,1,2] (by repeat'(first|exact trivial|refine⟨.inl rfl,?_⟩|refine⟨.inr rfl,?_⟩)) rfl (by decide) rfl rfl) ?_
 |refine iI (Gh.sel (st':=⟨[(1,.str name),(2,.sl 19 (bI nJ l)),(3,.ptr 8 0),(7,.ptr 9 0),(8,.ptr 0 0),(9,.ptr 10 0),(10,.i 0)],[.blk 118 [.str name1,.hd 1,.ph 2,.ptr 3 0,.ptr 5 0,.hd 7],.map 70 (bI iH parties1),.pool 116 (bI gZ deals1) [],.blk 122 [.str rc1,.ph 4],.pool 120 (bI eD rL1) [],.blk 174 [.ph 6],.pool 172 (bI gE cust1) [],.tip 77 5 (bI dC deliv1),.blk 29 [.sl 3 (bI jQ parties),.sl 17 (bI iJ deals),.sl 3 (bI jT funds),.sl 1 (bI cY rest),.sl 1 (bI cY holidays)],.blk 41 [.v (.slice none 0 0),.v (.slice none 0 0),.str ⟨#[]⟩,.v (.slice none 0 0),.v (.slice none 0 0),.v (.slice none 0 0)],.blk 41 [.sl 1 (bI cY S),.sl 1 (bI mR free),.str c,.sl 11 (bI iD L),.sl 5 (bI dC H),.sl 5 (bI dC D)]]⟩) [2,3,4,5,6,7,8,9,0,1,10] (by repeat'(first|exact trivial|refine⟨.inl rfl,?_⟩|refine⟨.inr rfl,?_⟩)) rfl (by decide) rfl rfl) ?_
 all_goals
  refine bV [] (fun p:{ p:Nat×Cr×Cs // p.1≤l.length∧Jt p.1 ⟨parties,deals,funds,rest,holidays⟩ name p.2.1 p.2.2∧p.2.2=pN ⟨parties,deals,funds,rest,holidays⟩ name (l.take p.1) }=>[(10,.i (nI p.1.1))]) (fun p=>[.blk 118 [.str p.1.2.1.name,.hd 1,.ph 2,.ptr 3 0,.ptr 5 0,.hd 7],.map 70 (bI iH p.1.2.1.parties),.pool 116 (bI gZ p.1.2.1.deals) [],.blk 122 [.str p.1.2.1.reg.carrier,.ph 4],.pool 120 (bI eD p.1.2.1.reg.bills) [],.blk 174 [.ph 6],.pool 172 (bI gE p.1.2.1.cust) [],.tip 77 5 (bI dC p.1.2.1.deliv),.blk 29 [.sl 3 (bI jQ parties),.sl 17 (bI iJ deals),.sl 3 (bI jT funds),.sl 1 (bI cY rest),.sl 1 (bI cY holidays)],.blk 41 [.v (.slice none 0 0),.v (.slice none 0 0),.str ⟨#[]⟩,.v (.slice none 0 0),.v (.slice none 0 0),.v (.slice none 0 0)],.blk 41 [.sl 1 (bI cY p.1.2.2.S),.sl 1 (bI mR p.1.2.2.free),.str p.1.2.2.reg.carrier,.sl 11 (bI iD p.1.2.2.reg.bills),.sl 5 (bI dC p.1.2.2.H),.sl 5 (bI dC p.1.2.2.D)]]) (fun p=>fK n p.1.1) ⟨(0,⟨name1,parties1,deals1,⟨rc1,rL1⟩,cust1,deliv1⟩,⟨S,free,⟨c,L⟩,H,D⟩),aI _,hjn,hx0⟩ ?_;rintro ⟨⟨k,⟨name2,parties2,deals2,⟨rc2,rL2⟩,cust2,deliv2⟩,⟨S2,free2,⟨c2,L2⟩,H2,D2⟩⟩,hk,hj,hx⟩;dsimp only at hk hj hx⊢;rcases aL k l.length with hks|hks
  ·obtain⟨o,ho⟩:=cM hks;have hoo:=hlo o (aC ho);have hpx:pN ⟨parties,deals,funds,rest,holidays⟩ name (l.take (k+1))=qD ⟨parties,deals,funds,rest,holidays⟩ name ⟨S2,free2,⟨c2,L2⟩,H2,D2⟩ o:=by
    unfold pN at hx⊢;rw[dX ho,List.foldl_append,←hx];rfl
   obtain⟨⟨S3,free3,⟨c3,L3⟩,H3,D3⟩,hx3⟩:∃y,y=qD ⟨parties,deals,funds,rest,holidays⟩ name ⟨S2,free2,⟨c2,L2⟩,H2,D2⟩ o:=⟨_,rfl⟩
   rw[←hx3]at hpx;have hdj:Sv ⟨⟨⟨name2,parties2,deals2,⟨rc2,rL2⟩,cust2,deliv2⟩,⟨parties,deals,funds,rest,holidays⟩,name,⟨S2,free2,⟨c2,L2⟩,H2,D2⟩,o⟩,k⟩:=⟨hj,by dsimp only;omega,hs,hnz,hoo⟩
   obtain⟨okind,oday,⟨ak,an,adeal⟩,⟨frm,to,number,lkind,ack,ldeal,text,party,index,day0,cur,amt,docs,boxes⟩⟩:=o;cbv;repeat'((first|refine .e ?_|refine .y fun h=>?_|refine .k fun z hz=>?_|refine And.intro ?_ ?_|fail)<;>cbv)
   all_goals
    refine cK hdo (⟨⟨⟨name2,parties2,deals2,⟨rc2,rL2⟩,cust2,deliv2⟩,⟨parties,deals,funds,rest,holidays⟩,name,⟨S2,free2,⟨c2,L2⟩,H2,D2⟩,⟨okind,oday,⟨ak,an,adeal⟩,⟨frm,to,number,lkind,ack,ldeal,text,party,index,day0,cur,amt,docs,boxes⟩⟩⟩,k⟩:DJ) [0,1,2,3,4,5,6,7] hdj rfl rfl (by decide) rfl rfl rfl rfl rfl ?_;rintro ⟨mv,⟨name3,parties3,deals3,⟨rc3,rL3⟩,cust3,deliv3⟩⟩ hj3;dsimp only at hj3;rw[←hx3]at hj3
    try dsimp only
    rw[←hx3];cases mv with
    |false=>
     cbv;repeat'((first|refine .k fun z hz=>?_|fail)<;>cbv)
     obtain rfl:z=nI (k+1):=bS;exact bL ⟨(k+1,⟨name3,parties3,deals3,⟨rc3,rL3⟩,cust3,deliv3⟩,⟨S3,free3,⟨c3,L3⟩,H3,D3⟩),hks,hj3,hpx.symm⟩ (bM (by omega))
    |true=>
     cbv;repeat'((first|refine .k fun z hz=>?_|fail)<;>cbv)
     obtain rfl:z=nI (k+1):=bS
     first
     |refine dV (Gh.sel (st':=⟨[(1,.str name),(2,.sl 19 (bI nJ l)),(3,.ptr 8 0),(7,.ptr 9 0),(8,.ptr 0 0),(9,.ptr 10 0),(10,.i (nI (k+1)))],[.blk 118 [.str name3,.hd 1,.ph 2,.ptr 3 0,.ptr 5 0,.hd 7],.map 70 (bI iH parties3),.pool 116 (bI gZ deals3) [],.blk 122 [.str rc3,.ph 4],.pool 120 (bI eD rL3) [],.blk 174 [.ph 6],.pool 172 (bI gE cust3) [],.tip 77 5 (bI dC deliv3),.blk 29 [.sl 3 (bI jQ parties),.sl 17 (bI iJ deals),.sl 3 (bI jT funds),.sl 1 (bI cY rest),.sl 1 (bI cY holidays)],.blk 41 [.v (.slice none 0 0),.v (.slice none 0 0),.str ⟨#[]⟩,.v (.slice none 0 0),.v (.slice none 0 0),.v (.slice none 0 0)],.blk 41 [.sl 1 (bI cY S3),.sl 1 (bI mR free3),.str c3,.sl 11 (bI iD L3),.sl 5 (bI dC H3),.sl 5 (bI dC D3)]]⟩) [0,1,2,3,4,11,12,7,8,9,10] (by repeat'(first|exact trivial|refine⟨.inl rfl,?_⟩|refine⟨.inr rfl,?_⟩)) rfl (by decide) rfl rfl) ?_
     |refine dV (Gh.sel (st':=⟨[(1,.str name),(2,.sl 19 (bI nJ l)),(3,.ptr 8 0),(7,.ptr 9 0),(8,.ptr 0 0),(9,.ptr 10 0),(10,.i (nI (k+1)))],[.blk 118 [.str name3,.hd 1,.ph 2,.ptr 3 0,.ptr 5 0,.hd 7],.map 70 (bI iH parties3),.pool 116 (bI gZ deals3) [],.blk 122 [.str rc3,.ph 4],.pool 120 (bI eD rL3) [],.blk 174 [.ph 6],.pool 172 (bI gE cust3) [],.tip 77 5 (bI dC deliv3),.blk 29 [.sl 3 (bI jQ parties),.sl 17 (bI iJ deals),.sl 3 (bI jT funds),.sl 1 (bI cY rest),.sl 1 (bI cY holidays)],.blk 41 [.v (.slice none 0 0),.v (.slice none 0 0),.str ⟨#[]⟩,.v (.slice none 0 0),.v (.slice none 0 0),.v (.slice none 0 0)],.blk 41 [.sl 1 (bI cY S3),.sl 1 (bI mR free3),.str c3,.sl 11 (bI iD L3),.sl 5 (bI dC H3),.sl 5 (bI dC D3)]]⟩) [0,1,2,3,4,12,13,7,8,9,10] (by repeat'(first|exact trivial|refine⟨.inl rfl,?_⟩|refine⟨.inr rfl,?_⟩)) rfl (by decide) rfl rfl) ?_
     exact bL ⟨(k+1,⟨name3,parties3,deals3,⟨rc3,rL3⟩,cust3,deliv3⟩,⟨S3,free3,⟨c3,L3⟩,H3,D3⟩),hks,hj3,hpx.symm⟩ (bM (by omega))
  have hkn:k=l.length:=by omega
  have hpl:pN ⟨parties,deals,funds,rest,holidays⟩ name l=⟨S2,free2,⟨c2,L2⟩,H2,D2⟩:=by rw[hx,hkn,List.take_length]
  have hK:=hK ⟨name2,parties2,deals2,⟨rc2,rL2⟩,cust2,deliv2⟩ (by rw[hpl,←hkn];exact hj);rw[hpl]at hK;cbv;repeat'((first|refine .n fun h=>?_|refine .k fun z hz=>?_|fail)<;>cbv)
  (refine .q9 ?_;cbv;exact .inl (.g9 hK))
set_option maxHeartbeats 4000000
section
variable {k:Nat}{s:gW}{name:bG}{C:Cr}{x:Cs}
end
set_option maxHeartbeats 2000000
section
variable {T:Int}{k:Nat}{s:gW}{name:bG}{C:Cr}{x:Cs}{o:fX}
theorem eZ.step (h:eZ T s.su name x) (hs:lL s) (hT:o.day≤T):eZ T s.su name (qD s name x o):=by
 unfold qD
 split
 ·exact(h.car eV (Ps hs) _ _ hT).1
 split
 ·exact(h.take fB _ hT).1
 ·exact h
theorem eZ.steps (hs:lL s):∀{l:List fX}{x:Cs},eZ T s.su name x→(∀o∈l,o.day≤T)→eZ T s.su name (l.foldl (qD s name) x)
 |[],_,h,_=>h
 |o :: l,_,h,hl=>eZ.steps (l:=l) hs (h.step hs (hl o (bD ..))) fun o2 h2=>hl o2 (aW _ h2)
theorem eZ.play (hs:lL s) {l:List fX}(hl:∀o∈l,o.day≤T):eZ T s.su name (pN s name l):=eZ.steps hs (eZ.new T s.su name) hl
end
theorem Qf {R:Rg}{L:List Br}{n:bG}(hn:gS R.bills) (p:L.Perm R.bills):AO L n=match lT R.bills n with
  |some y=>NH n y
  |none=>[]:=by
 rw[Ol,OD p (wJ p.symm hn)];cases lT R.bills n<;>rfl
section
variable {k:Nat}{s:gW}{name:bG}{C:Cr}{x:Cs}{n:bG}{i:Nat}{day:Int}
theorem E8 {C:Cr}{l:dK}{day:Int}{L0:List dB}{o:dK}(hk:l.kind=20) (h:(eF C l day L0).2.2=[o]) (ho:o.kind=21):(eF C l day L0).1=true:=by
 cases hi:kK Dp.number C.deals l.deal with
 |none=>rw[XP hi]at h;cases h
 |some i=>
 obtain⟨d,hd,_⟩:=dY hi;by_cases hp:iS C.parties l.frm=false
 ·rw[mZ hp]at h;cases h
 have e:fF ⟨C,i,d,l,day⟩ L0=jC ⟨C,i,d,l,day⟩ L0:=by
  unfold fF;dsimp only;rw[aE (show ¬l.kind=4 by omega),aE (show ¬l.kind=8 by omega),aF hk]
 have e2:eF C l day L0=((jC ⟨C,i,d,l,day⟩ L0).1,{ (jC ⟨C,i,d,l,day⟩ L0).2.1 with deals:=C.deals.set i (jC ⟨C,i,d,l,day⟩ L0).2.2.1 },cC d.number day (jC ⟨C,i,d,l,day⟩ L0).2.2.2):=by
  unfold eF;rw[hi];dsimp only;rw[hd];dsimp only;rw[aE hp,e]
 rw[e2]at h⊢;dsimp only at h⊢;have hob:∀ls,ls=cC d.number day (eL fB l)→ls=[o]→False:=fun ls h1 h2=>by
  rw[h1]at h2;have h3:(cC d.number day (eL fB l)).map dK.kind=[o].map dK.kind:=by rw[h2]
  have h4:[(22:Int)]=[o.kind]:=h3;rw[ho]at h4;exact absurd h4 (by decide)
 unfold jC at h⊢
 split at h
 ·exact(hob _ rfl h).elim
 rename_i h1;rw[aE h1]
 split at h
 ·exact(hob _ rfl h).elim
 rename_i L hL;dsimp only at h⊢
 split at h
 ·exact(hob _ rfl h).elim
 rename_i h2;rw[aE h2]
theorem Jt.over (h:Jt k s name C x) (hs:lL s) (hi:cX s.su name n=some i) (h2:x.S[i]?=some 4) (who:bG) (j:Int) (day:Int) (L0:List dB):∃ls,eF C (eB who name n j) day L0=(false,C,ls)∧(ls=[]∨∃o,ls=[o]∧o.kind=22):=by
 obtain⟨d,st,fr,g1,g2,g3,g4,g5⟩:=h.rel.at (show cX s.su C.name n=some i by rw[h.nm];exact hi);rw[h2]at g2;cases g2;cases ha:kK Dp.number C.deals n with
 |none=>rw[uE ha]at g5;cases g5
 |some a=>
 obtain⟨y,hy,_⟩:=dY ha;rw[XN ha hy]at g5;cases g5;by_cases hp:iS C.parties (eB who name n j).frm=false
 ·exact⟨[],mZ hp,.inl rfl⟩
 have hp:iS C.parties (eB who name n j).frm=true:=by simpa using hp
 have e:fF ⟨C,a,cG d 4 fr,eB who name n j,day⟩ L0=(false,⟨C.name,C.parties,C.deals,C.reg,C.cust,C.deliv⟩,cG d 4 fr,eL fB (eB who name n j)):=by
  unfold fF;dsimp only;rw[aE (show ¬(eB who name n j).kind=4 from (by decide:¬(20:Int)=4)),aE (show ¬(eB who name n j).kind=8 from (by decide:¬(20:Int)=8)),aF (show (eB who name n j).kind=20 from rfl)];unfold jC;rw[aF (.inl (show ¬(4:Int)=3 by decide))]
 have e2:=Am (l:=eB who name n j) (L0:=L0) ha hy hp e;have e3:C.deals.set a (cG d 4 fr)=C.deals:=by
  apply List.ext_getElem? ;intro q;rw[List.getElem?_set]
  split
  ·rename_i hq;subst hq;rw[hy];simp[(aA.1 hy).1]
  ·rfl
 rw[e3]at e2;exact⟨_,e2,.inr ⟨_,rfl,rfl⟩⟩
theorem Jt.gift (h:Jt k s name C x) (hs:lL s) (hI:eZ day s.su name x) (hi:cX s.su name n=some i) {d:iW}(h1:s.deals[i]?=some d) (h2:x.S[i]?=some 3) (h3:x.free[i]?=some true) {y:Br}(hy:lT C.reg.bills (cW n)=some y) {j:Int}(hj:j=0∨j=1∨j=2) (hst:(vD j y).state=0) (hp:iS s.su.parties (vD j y).holder=true) (hne:(vD j y).holder≠name) (hday:eN day=true) {L0:List dB}(hL:L0.Perm C.cust) :
  ∃C' x',eF C (eB (vD j y).holder name n j) day L0=(true,C',[{ lX with to:=(vD j y).holder,kind:=21,deal:=n,day:=day,boxes:=d.marks }])∧Jt (k+1) s name C' x'∧x'.S[i]?=some 4:=by
 rw[h.rel.reg]at hy;have hd:s.su.deals[i]?=some d.de:=by show (s.deals.map iW.de)[i]?=_;rw[aD,h1];rfl
 obtain⟨g1,g2⟩:=hI.gives fB hi hd h2 h3 hy hj hst hp hne hday (Int.le_refl _);obtain⟨g3,g4⟩:=h.take hs (eB (vD j y).holder name n j) day hL;rw[g1]at g4;have g5:(eF C (eB (vD j y).holder name n j) day L0).1=true:=E8 rfl g4 rfl;refine⟨(eF C (eB (vD j y).holder name n j) day L0).2.1,_,?_,g3,g2⟩;rw[show eF C (eB (vD j y).holder name n j) day L0=((eF C (eB (vD j y).holder name n j) day L0).1,(eF C (eB (vD j y).holder name n j) day L0).2.1,(eF C (eB (vD j y).holder name n j) day L0).2.2) from rfl,g5,g4];rfl
end
section
variable {k:Nat}{c:bG}{L0 L:List Br}{i m:Nat}{b:Br}
end
set_option maxHeartbeats 8000000
theorem Hv:bJ Tryz.prog 64 (E1 gF):=Qt (by kernel_rfl)
def Ao:dN:=spec (fun _:Unit=>[]) (fun _=>[]) (fun _=>True) (fun _=>.bl true) fun _=>[]
def Bx (d:Int):Prop:=-9223372036854775808≤d∧d≤9223372036854775807
structure W3 (q:CI):Prop where
 f:Fj q
 d:∀o∈q.l,Bx o.day
theorem Rl {s:gW}{name:bG}{l:List fX}(h:CC s name l) (hd:∀o∈l,Bx o.day):SJ ⟨s,name,l⟩:=⟨h.s,h.n,h.l.len,fun o ho=>⟨hd o ho,(h.l.sz o ho).1,(h.l.sz o ho).2⟩⟩
structure hY (x y:AV):Prop where
 one:x.one=true→y.one=true
 to:∀(pub:cZ) (w:World) (r:cT) (v:Value),bU pub w r x v→bU pub w r y v
def wA:List AV→List AV→Prop
 |[],[]=>True
 |x :: l,y :: m=>hY x y∧wA l m
 |_,_=>False
def Pz:List AV→List AV→Prop
 |[],[]=>True
 |x :: l,y :: m=>wA x.cells y.cells∧Pz l m
 |_,_=>False
theorem hY.refl (x:AV):hY x x:=⟨id,fun _ _ _ _ h=>h⟩
theorem hY.nil (sz:Nat):hY (.v (.slice none 0 0)) (.sl sz []):=⟨fun _=>rfl,fun _ _ _ _ h=>(LW.nil sz).to h⟩
theorem wA.len:∀{l m:List AV},wA l m→m.length=l.length
 |[],[],_=>rfl
 |_ :: _,_ :: _,h=>congrArg (· + 1) (wA.len h.2)
 |[],_ :: _,h=>h.elim
 |_ :: _,[],h=>h.elim
theorem wA.at:∀{l m:List AV},wA l m→∀{i:Nat}{y:AV},m[i]?=some y→∃x,l[i]?=some x∧hY x y
 |[],[],_,i,y,hy=>by simp at hy
 |x :: l,z :: m,h,0,y,hy=>by
  simp only[List.getElem?_cons_zero,bE]at hy;subst hy;exact⟨x,rfl,h.1⟩
 |x :: l,z :: m,h,i+1,y,hy=>by
  simp only[List.getElem?_cons_succ]at hy;obtain⟨u,hu,k⟩:=wA.at h.2 hy;exact⟨u,by simpa using hu,k⟩
 |[],_ :: _,h,_,_,_=>h.elim
 |_ :: _,[],h,_,_,_=>h.elim
theorem wA.ones:∀{l m:List AV},wA l m→l.all AV.one=true→m.all AV.one=true
 |[],[],_,_=>rfl
 |x :: l,y :: m,h,k=>by
  simp only[List.all_cons,aO]at k⊢;exact⟨h.1.one k.1,wA.ones h.2 k.2⟩
 |[],_ :: _,h,_=>h.elim
 |_ :: _,[],h,_=>h.elim
theorem hY.agg {l m:List AV}(h:wA l m):hY (.agg l) (.agg m):=⟨fun k=>(by cases k),fun pub w r v hv=>by
 cases hv with
 |agg hl h1=>
  refine .agg (hl.trans h.len.symm) fun i y u hy hu=>?_
  obtain⟨x,hx,k⟩:=h.at hy;exact k.to _ _ _ _ (h1 i x u hx hu)⟩
theorem Pz.len:∀{l m:List AV},Pz l m→m.length=l.length
 |[],[],_=>rfl
 |_ :: _,_ :: _,h=>congrArg (· + 1) (Pz.len h.2)
 |[],_ :: _,h=>h.elim
 |_ :: _,[],h=>h.elim
theorem Pz.at:∀{l m:List AV},Pz l m→∀{i:Nat}{y:AV},m[i]?=some y→∃x,l[i]?=some x∧wA x.cells y.cells
 |[],[],_,i,y,hy=>by simp at hy
 |x :: l,z :: m,h,0,y,hy=>by
  simp only[List.getElem?_cons_zero,bE]at hy;subst hy;exact⟨x,rfl,h.1⟩
 |x :: l,z :: m,h,i+1,y,hy=>by
  simp only[List.getElem?_cons_succ]at hy;obtain⟨u,hu,k⟩:=Pz.at h.2 hy;exact⟨u,by simpa using hu,k⟩
 |[],_ :: _,h,_,_,_=>h.elim
 |_ :: _,[],h,_,_,_=>h.elim
theorem hY.sl {sz:Nat}{l m:List AV}(h:Pz l m):hY (.sl sz l) (.sl sz m):=⟨fun _=>rfl,fun pub w r v hv=>by
 cases hv with
 |@sl _ _ _ A c hc hm hn hs g hr hg=>
  have hlen:=h.len;rw[show l.length=m.length from hlen.symm];refine .sl (by omega) hm (fun e=>?_) (fun y hy=>?_) g (fun i y j u hy hu=>?_) fun i y j u hy hu=>?_
  ·obtain⟨h1,h2⟩:=hn e;subst h1;exact⟨List.length_eq_zero_iff.1 hlen,h2⟩
  ·obtain⟨i,hi⟩:=aV hy;obtain⟨x,hx,k⟩:=h.at hi;obtain⟨k1,k2⟩:=hs x (aC hx);exact⟨k.len.trans k1,k.ones k2⟩
  ·obtain⟨x,hx,k⟩:=h.at hy;obtain⟨z,hz,k2⟩:=k.at hu;exact k2.to _ _ _ _ (hr i x j z hx hz)
  ·obtain⟨x,hx,k⟩:=h.at hy;obtain⟨z,hz,k2⟩:=k.at hu;exact hg i x j z hx hz⟩
theorem fI {P:bH}{keep:List Nat}{f:Nat}{args:List AV}(args2:List AV) {st:St}{K:AV→St→Prop}(h:wA args args2) (hc:gG P keep f args2 st K):gG P keep f args st K:=
 ⟨fun C a w r pub vals hh hv=>hc.out C a w r pub vals hh ⟨hv.len.trans h.len.symm,fun i y u hy hu=>by
  obtain⟨x,hx,k⟩:=h.at hy;exact k.to _ _ _ _ (hv.at_ i x u hx hu)⟩⟩
set_option maxHeartbeats 4000000
def wS:bG:=⟨⟨[115]⟩⟩
def wC:bG:=⟨⟨[99]⟩⟩
def wD:bG:=⟨⟨[100]⟩⟩
def wY:bG:=⟨⟨[121]⟩⟩
def wF:bG:=⟨⟨[102]⟩⟩
def wT:bG:=⟨⟨[116]⟩⟩
def wE:bG:=⟨⟨[]⟩⟩
def wX:bG:=⟨⟨[97,97,97,97,48,48,48,48,48,49,50,48]⟩⟩
def SV:gW:=⟨[⟨wS,wE,0⟩,⟨wC,wE,0⟩],[⟨wD,wS,wY,wC,wE,wE,wE,wF,wT,wE,0,[⟨wX,0,[]⟩],0,0,0,0,0⟩],[],[],[]⟩
def R4:dK:=⟨wS,wE,0,4,0,wD,wE,wE,0,0,wE,0,[],[]⟩
def Sl:dK:=⟨wS,wE,0,20,0,wD,wE,wE,0,0,wE,0,[],[]⟩
def Qw (st:Int):Dp:=⟨wD,wS,wY,wE,wF,wT,[wX],st,true⟩
def TE:List XL:=[⟨wX,eS,wS,wF,1⟩,⟨wX,wS,wC,wF,1⟩]
def wB:Bl:=eQ wC (Qw 1) 2
def Wz:List Br:=[DF wB wS]
def wP:Cr:=⟨wC,[wS,wC],[Qw 0],⟨wC,[]⟩,[],[]⟩
def QD:Cr:=⟨wC,[wS,wC],[Qw 1],⟨wC,[]⟩,[⟨wX,TE⟩],[]⟩
def Wf:Cr:=⟨wC,[wS,wC],[Qw 2],⟨wC,Wz⟩,[⟨wX,TE⟩],[]⟩
def TZ:Cr:=⟨wC,[wS,wC],[Qw 3],⟨wC,Wz⟩,[⟨wX,TE⟩],[]⟩
theorem MZ:LP SV.su wC=wP:=by rfl
theorem Py:eF wP R4 1 []=(true,QD,[]):=by rfl
theorem Ec:fW ⟨⟨wC,[]⟩,wB,wS⟩=0:=by
 have e1:i1 ⟨⟨wC,[]⟩,wB,wS⟩=false:=by decide +kernel
 have e2:i2 ⟨⟨wC,[]⟩,wB,wS⟩=false:=rfl;have e3:i3 ⟨⟨wC,[]⟩,wB,wS⟩=false:=by rw[Lz];rfl
 have e4:i4 ⟨⟨wC,[]⟩,wB,wS⟩=false:=rfl;unfold fW;rw[e1,e2,e3,e4];rfl
theorem Sw:∃l,kW eV QD 5 wD 2=(Wf,[l],0):=by
 have h:kW eV QD 5 wD 2=tS eV QD (Qw 1) 2:=by rfl
 have h2:tS eV QD (Qw 1) 2=(pH { QD with reg:=iY ⟨⟨wC,[]⟩,wB,wS⟩ } wD (vJ 2),cC wD 2 [{ lX with to:=wS,kind:=5,docs:=[eV wB] }],0):=by
  unfold tS;exact aE (by
   show ¬fW ⟨⟨wC,[]⟩,wB,wS⟩≠0;rw[Ec];decide)
 rw[h,h2,zM Ec];exact⟨_,rfl⟩
theorem Ti:∃l,kW eV Wf 6 wD 3=(TZ,[l],0):=⟨_,rfl⟩
theorem Sc:∃C l,eF TZ Sl 4 [⟨wX,TE⟩]=(true,C,[l])∧l.kind=21∧∃h,C.deliv=[h]:=by
 refine⟨_,_,rfl,rfl,_,rfl⟩
theorem CZ (P:bH) (hn:bJ P 21 xO) (hta:bJ P 18 (pT fun _=>True)) (hac:bJ P 23 (vX fun _=>True)) (hde:bJ P 22 Ly) (hki:bJ P 30 GD):bN P Xd Ao:=by
 intro args H K hc;obtain⟨u,rfl,rfl,hp,hK⟩:=hc;refine⟨cN,?_⟩;dsimp only at hp hK⊢;obtain⟨l1,hl1⟩:=Sw;obtain⟨l2,hl2⟩:=Ti;obtain⟨C4,l3,hl3,hk3,h4,hd4⟩:=Sc;have hsu:lL SV:=⟨by decide,by decide,by decide,by
  intro d hd;obtain rfl:=List.mem_singleton.1 hd;exact⟨by decide,by decide,by decide⟩⟩
 have j0:=Jt.new (name:=wC) hsu;rw[MZ]at j0;have j1:=(j0.take (L0:=[]) hsu R4 1 (.refl _)).1;rw[Py]at j1;dsimp only at j1;have j2:=(j1.act hsu 5 wD 2).1;rw[hl1]at j2;dsimp only at j2;have j3:=(j2.act hsu 6 wD 3).1;rw[hl2]at j3;dsimp only at j3;have t0:=j0.tqOk (l:=R4) (day:=1) (by decide);have c1:=j1.crOk (by decide);have c2:=j2.crOk (by decide);have t3:=j3.tqOk (l:=Sl) (day:=4) (by decide);clear j0 j1 j2 j3;cbv;refine fI [.str wC,HM SV] (by unfold HM SV;repeat'(first|exact trivial|exact hY.refl _|exact hY.nil _|refine hY.agg ?_|refine hY.sl ?_|refine And.intro ?_ ?_)) ?_
 (refine xK hn ((wC,SV):bG×gW) hsu ?_;try dsimp only)
 rw[MZ];cbv;refine fI [.ptr 4 0,dP R4,.i 1] (by unfold dP R4;repeat'(first|exact trivial|exact hY.refl _|exact hY.nil _|refine hY.agg ?_|refine hY.sl ?_|refine And.intro ?_ ?_)) ?_;refine cK hta (⟨wP,R4,1⟩:TQ) [4,5,6,7,8,9,10,11] ⟨trivial,t0⟩ rfl rfl (by decide) rfl rfl rfl rfl rfl ?_;intro L0 hp0;obtain rfl:L0=[]:=List.perm_nil.1 hp0;dsimp only;rw[Py];cbv
 (refine gT hac (⟨QD,5,0,wD,2⟩:CQ) [4,5,6,7,8,12,13,11] ⟨trivial,c1,by decide⟩ ?_;try dsimp only)
 rw[hl1];cbv
 (refine gT hac (⟨Wf,6,0,wD,3⟩:CQ) [4,5,6,7,8,12,13,11] ⟨trivial,c2,by decide⟩ ?_;try dsimp only)
 rw[hl2];cbv;refine fI [.ptr 4 0,dP Sl,.i 4] (by unfold dP Sl;repeat'(first|exact trivial|exact hY.refl _|exact hY.nil _|refine hY.agg ?_|refine hY.sl ?_|refine And.intro ?_ ?_)) ?_;refine cK hta (⟨TZ,Sl,4⟩:TQ) [4,5,6,7,8,12,13,11] ⟨trivial,t3⟩ rfl rfl (by decide) rfl rfl rfl rfl rfl ?_;intro L1 hp1;obtain rfl:L1=[⟨wX,TE⟩]:=List.perm_singleton.1 hp1;dsimp only;rw[hl3];have hdl:C4.deliv.length≤1000000:=by rw[hd4];exact Nat.le_of_ble_eq_true rfl
 obtain⟨name4,parties4,deals4,⟨rc4,rL4⟩,cust4,deliv4⟩:=C4;dsimp only at hd4;subst hd4;obtain⟨hb4,hf4,ht4,hp4,hy4⟩:=h4;obtain⟨frm3,to3,nq3,kind3,ack3,deal3,text3,party3,index3,day3,cur3,amt3,docs3,bq3⟩:=l3;dsimp only at hk3;subst hk3;cbv;repeat'((first|refine .y fun h=>?_|refine .k fun z hz=>?_|fail)<;>cbv)
 refine bP.i0 ?_;cbv;repeat'((first|refine .y fun h=>?_|fail)<;>cbv)
 (refine gT hde (⟨name4,parties4,deals4,⟨rc4,rL4⟩,cust4,[⟨hb4,hf4,ht4,hp4,hy4⟩]⟩:Cr) [4,5,6,7,8,14,15,11] hdl ?_;try dsimp only)
 cbv;repeat'((first|refine .y fun h=>?_|refine .k fun z hz=>?_|fail)<;>cbv)
 (refine gT hki (⟨name4,parties4,deals4,⟨rc4,rL4⟩,cust4,[⟨hb4,hf4,ht4,hp4,hy4⟩]⟩:Cr) [4,5,6,7,8,14,15,11] trivial ?_;try dsimp only)
 cbv;repeat'((first|refine .y fun h=>?_|fail)<;>cbv)
 (refine .q9 ?_;cbv;exact .inl (.f9 hK))
set_option maxHeartbeats 20000000
def BT:dN:=spec (fun i:Rg×At=>[Je i.1,Nn i.2]) (fun _=>[]) (fun i=>(i.2.kind=1∨i.2.kind=2∨i.2.kind=4∨i.2.kind=5)∧i.1.bills.length≤256∧(∀b∈i.1.bills,pG b)∧i.2.to.size≤maxLen) (fun i=>.i (eE i.1.bills (cR i.2))) fun _=>[]
theorem B5 (P:bH) (hf:bJ P 63 rN) (hd:bJ P 175 Db) (hn:bJ P 133 (iE (fun s=>s.size≤maxLen) bR)) (hw:bJ P 143 nV) (hu:bJ P 183 Cf):bN P YE BT:=by
 intro args H K hc;obtain⟨⟨⟨carrier,L⟩,a⟩,rfl,rfl,hp,hK⟩:=hc;refine⟨cN,?_⟩;dsimp only at hp hK⊢;obtain⟨hkind,hp,hch,hto⟩:=hp;rcases hkind with hkind|hkind|hkind|hkind
 all_goals
  obtain⟨q,hq⟩:∃q,q=eE L (cR a):=⟨_,rfl⟩
  obtain⟨e,he⟩:∃e,e=oG (fun b:Br=>decide (b.b.number=a.bill)) L:=⟨_,rfl⟩
  rw[←hq]at hK;obtain⟨q1,hq1⟩:∃q,q=k1 (cR a):=⟨_,rfl⟩
  obtain⟨q2,hq2⟩:∃q,q=k2 (cR a):=⟨_,rfl⟩
  have hwo:=EH (a:=a);have hq1':=hq1;rw[Hl]at hq1';have hq2':=hq2;rw[Px]at hq2';rw[←hq1]at hwo;have hbill:(cR a).bill=a.bill:=rfl;obtain⟨ws,hws⟩:∃ws,ws=iT a:=⟨_,rfl⟩
  have hwl:(if a.kind=5∨(a.kind=1∧a.index=-1) then [AV.i 0,.i 1,.i 2] else [.i a.index])=bI iA ws:=by
   rw[hws];unfold iT
   split<;>rfl
  obtain⟨ms,hms⟩:∃ms,ms=bI iA ws:=⟨_,rfl⟩
  rw[←hms]at hwl;have hwlen:ws.length≤3:=by
   rw[hws];unfold iT
   split
   ·exact aN 3
   ·exact Nat.le_add_left 1 2
  rw[←hws]at hwo;have hq0:q=match qQ L a.bill with
   |some i=>match L[i]? with
    |some b=>lP b (cR a)
    |none=>4
   |none=>4:=hq
  clear hq;cases hb:qQ L a.bill with
  |none=>
   rw[kY,hb]at he;subst he;rw[hb]at hq0;dsimp only at hq0;subst hq0;obtain⟨kind,index,day,bill,by_,to,b⟩:=a;dsimp only at hkind;obtain⟨nq1,cq1,sq1,frm1,to1,bq1,pq1,iq1,lq1⟩:=b;cbv
   (refine XG hf ((⟨carrier,L⟩:Rg),bill) (by dsimp only;omega) ?_;try dsimp only)
   rw[kY,hb];cbv;repeat'((first|refine .y fun h=>?_|fail)<;>cbv)
   exact XJ.mk ⟨_,Gh.refl _,.inl (.v9 (M0 hK (by rfl)))⟩
  |some i=>
   obtain⟨x,hx,_⟩:=dY hb;have he2:=he;rw[kY,hb]at he2;rw[hb]at hq0;dsimp only at hq0;rw[hx]at hq0;dsimp only at hq0;have hc:=hch x (aC hx);have hae:lP x (cR a)=if k1 (cR a) then 3 else if k2 (cR a) then 1 else if k3 x (cR a) then 9 else if k4 x (cR a) then 8 else if k5 x (cR a) then 6 else 0:=rfl
   rw[hae,←hq1,←hq2]at hq0;clear hae;obtain⟨w1,hw1⟩:∃w,w=k3 x (cR a):=⟨_,rfl⟩
   obtain⟨w2,hw2⟩:∃w,w=k4 x (cR a):=⟨_,rfl⟩
   obtain⟨w3,hw3⟩:∃w,w=k5 x (cR a):=⟨_,rfl⟩
   rw[←hw1,←hw2,←hw3]at hq0;have hww:q1=false→w1=ws.any (Sj x (if a.kind=4 then 3 else 0))∧w2=ws.any (Ss x a.by_)∧w3=ws.any (R6 x a.kind a.day):=fun h=>by
    rw[hq1]at h;rw[hws,hw1,hw2,hw3];exact⟨ER h x,DI h x,E3 h x⟩
   clear hw1 hw2 hw3;obtain⟨d5,hd5⟩:∃d,d=eN a.day:=⟨_,rfl⟩
   obtain⟨n5,hn5⟩:∃d,d=bR a.to:=⟨_,rfl⟩
   unfold hU at hq2';rw[←hd5,←hn5]at hq2';obtain⟨kind,index,day,bill,by_,to,b⟩:=a;dsimp only at hkind;obtain⟨nq2,cq2,sq2,frm2,to2,bq2,pq2,iq2,lq2⟩:=b;dsimp only at hq1' hq2' hto he he2 hd5 hn5 hwl hww;cbv
   (refine XG hf ((⟨carrier,L⟩:Rg),bill) (by dsimp only;omega) ?_;try dsimp only)
   rw[←he,he2];cbv;repeat'((first|refine .n fun h=>?_|refine .y fun h=>?_|refine .mk (fun h=>?_) fun h=>?_|fail)<;>cbv)
   all_goals try
    ((refine XG hd day trivial ?_;try dsimp only)
     rw[←hd5];cases d5<;>(cbv;repeat'((first|refine .e ?_|refine .n fun h=>?_|refine .y fun h=>?_|refine And.intro ?_ ?_|fail)<;>cbv)))
   all_goals try
    ((refine XG hn to hto ?_;try dsimp only)
     rw[←hn5];cases n5<;>(cbv;repeat'((first|refine .e ?_|refine .mk (fun h=>?_) fun h=>?_|refine And.intro ?_ ?_|fail)<;>cbv)))
   all_goals try
    (have f1:q1=true:=by(rw[hq1'];exact aH (by omega))
     (refine .q9 ?_;cbv;exact .inl (.f9 (fS hK (by rw[hq0,f1];rfl))))
     done)
   all_goals have f1:q1=false:=by(rw[hq1'];exact aG (by omega))
   all_goals try
    (have f2:q2=true:=by
      rw[hq2']
      first
       |(rw[aG (by omega:¬kind=3)];rfl)
       |(rw[aH (by omega:kind=1)];exact Bool.or_true _)
       |(rw[aH (by omega:kind=1),aH (by assumption:to=by_)];exact Bool.or_true _)
     (refine .q9 ?_;cbv;exact .inl (.f9 (fS hK (by rw[hq0,f1,f2];rfl))))
     done)
   all_goals
    (have f2:q2=false:=by
      rw[hq2']
      first
       |(rw[aH (by omega:kind=3),aG (by omega:¬kind=1)];rfl)
       |(rw[aG (by omega:¬kind=3),aG (by omega:¬kind=1)];rfl)
       |(rw[aG (by omega:¬kind=3),aH (by omega:kind=1),aG (by assumption:¬to=by_)];rfl)
     rw[f1,f2]at hq0)
   all_goals
    (have hwo:=hwo f1
     (refine XG hw (⟨kind,index,day,bill,by_,to,⟨nq2,cq2,sq2,frm2,to2,bq2,pq2,iq2,lq2⟩⟩:At) trivial ?_;try dsimp only)
     rw[hwl,hms];obtain⟨g1,g2,g3⟩:=hww f1;obtain⟨sv,hsv⟩:∃sv:Int,sv=if kind=4 then 3 else 0:=⟨_,rfl⟩
     rw[←hsv]at g1)
   all_goals
    (first
     |rw[aE (by omega:¬kind=4)]at hsv
     |rw[aF (by omega:kind=4)]at hsv
     obtain⟨⟨nq1,cq1,sq1,frm1,to1,bq1,pq1,iq1,lq1⟩,st1,⟨sa1,ha1,ca1⟩,⟨sb1,hb1,cb1⟩,⟨sc1,hc1,cc1⟩⟩:=x;obtain⟨P1,hP1⟩:∃p,p=Sj ⟨⟨nq1,cq1,sq1,frm1,to1,bq1,pq1,iq1,lq1⟩,st1,⟨sa1,ha1,ca1⟩,⟨sb1,hb1,cb1⟩,⟨sc1,hc1,cc1⟩⟩ sv:=⟨_,rfl⟩
     obtain⟨P2,hP2⟩:∃p,p=Ss ⟨⟨nq1,cq1,sq1,frm1,to1,bq1,pq1,iq1,lq1⟩,st1,⟨sa1,ha1,ca1⟩,⟨sb1,hb1,cb1⟩,⟨sc1,hc1,cc1⟩⟩ by_:=⟨_,rfl⟩
     obtain⟨P3,hP3⟩:∃p,p=R6 ⟨⟨nq1,cq1,sq1,frm1,to1,bq1,pq1,iq1,lq1⟩,st1,⟨sa1,ha1,ca1⟩,⟨sb1,hb1,cb1⟩,⟨sc1,hc1,cc1⟩⟩ kind day:=⟨_,rfl⟩
     rw[←hP1]at g1;rw[←hP2]at g2;rw[←hP3]at g3;obtain⟨v0,hv0⟩:∃v,v=gH ⟨sa1,ha1,ca1⟩ iq1:=⟨_,rfl⟩
     have a0:P1 0=(!decide (st1=0) || !decide (sa1=sv)):=by rw[hP1];rfl
     have b0:P2 0=(!decide (ha1=by_)):=by rw[hP2];rfl
     have c0:P3 0=(!decide (kind=3) && decide (day < v0)):=by rw[hP3,hv0];rfl
     obtain⟨v1,hv1⟩:∃v,v=gH ⟨sb1,hb1,cb1⟩ iq1:=⟨_,rfl⟩
     have a1:P1 1=(!decide (st1=0) || !decide (sb1=sv)):=by rw[hP1];rfl
     have b1:P2 1=(!decide (hb1=by_)):=by rw[hP2];rfl
     have c1:P3 1=(!decide (kind=3) && decide (day < v1)):=by rw[hP3,hv1];rfl
     obtain⟨v2,hv2⟩:∃v,v=gH ⟨sc1,hc1,cc1⟩ iq1:=⟨_,rfl⟩
     have a2:P1 2=(!decide (st1=0) || !decide (sc1=sv)):=by rw[hP1];rfl
     have b2:P2 2=(!decide (hc1=by_)):=by rw[hP2];rfl
     have c2:P3 2=(!decide (kind=3) && decide (day < v2)):=by rw[hP3,hv2];rfl
     have aP:∀k,P1 k=(!decide (st1=0) || !decide ((Mn k ⟨⟨nq1,cq1,sq1,frm1,to1,bq1,pq1,iq1,lq1⟩,st1,⟨sa1,ha1,ca1⟩,⟨sb1,hb1,cb1⟩,⟨sc1,hc1,cc1⟩⟩).state=sv)):=fun k=>by rw[hP1];rfl
     clear hP1 hP2 hP3;subst hsv;cbv;repeat'((first|refine .n fun h=>?_|refine .y fun h=>?_|fail)<;>cbv)
     refine bV [] (fun q:{ j:Nat // j≤ws.length∧jO P1 ws j }=>[(9,.i (nI q.1))]) (fun q=>[.blk 38 [.str carrier,.sl 11 (bI iD L)],.blk 204 (xD ⟨kind,index,day,bill,by_,to,⟨nq2,cq2,sq2,frm2,to2,bq2,pq2,iq2,lq2⟩⟩),.blk 104 (xJ ⟨⟨nq1,cq1,sq1,frm1,to1,bq1,pq1,iq1,lq1⟩,st1,⟨sa1,ha1,ca1⟩,⟨sb1,hb1,cb1⟩,⟨sc1,hc1,cc1⟩⟩)]) (fun q=>fK 4 q.1) ⟨0,aI _,.zero⟩ ?_;rintro ⟨j1,hj1,hn1⟩;dsimp only at hj1 hn1⊢;cbv;repeat'((first|refine .mk (fun h=>?_) fun h=>?_|refine .k fun z hz=>?_|fail)<;>cbv)
     ·refine cP bS bS fun i l hi hl=>?_
      obtain rfl:j1=i:=bS;rcases hwo l (aC hl)with rfl|rfl|rfl
      ·cbv;repeat'((first|refine .mk (fun h=>?_) fun h=>?_|refine .k fun z hz=>?_|refine bP.i0 ?_|fail)<;>cbv)
       ·have e:P1 0=false:=by rw[a0,aH (by assumption:st1=0),aH (by assumption:sa1=_)];rfl
        obtain rfl:z=nI (j1+1):=bS;exact bL ⟨j1+1,by exact bS,hn1.succ hl e⟩ (bM bS)
       ·have e:P1 0=true:=by rw[a0,aG (by assumption:¬sa1=_)];exact Bool.or_true _
        (refine .q9 ?_;cbv;exact .inl (.f9 (fS hK (by rw[hq0,g1.trans (fZ hl e)];rfl))))
      ·cbv;repeat'((first|refine .mk (fun h=>?_) fun h=>?_|refine .k fun z hz=>?_|refine bP.i1 ?_|fail)<;>cbv)
       ·have e:P1 1=false:=by rw[a1,aH (by assumption:st1=0),aH (by assumption:sb1=_)];rfl
        obtain rfl:z=nI (j1+1):=bS;exact bL ⟨j1+1,by exact bS,hn1.succ hl e⟩ (bM bS)
       ·have e:P1 1=true:=by rw[a1,aG (by assumption:¬sb1=_)];exact Bool.or_true _
        (refine .q9 ?_;cbv;exact .inl (.f9 (fS hK (by rw[hq0,g1.trans (fZ hl e)];rfl))))
      ·cbv;repeat'((first|refine .mk (fun h=>?_) fun h=>?_|refine .k fun z hz=>?_|refine bP.i2 ?_|fail)<;>cbv)
       ·have e:P1 2=false:=by rw[a2,aH (by assumption:st1=0),aH (by assumption:sc1=_)];rfl
        obtain rfl:z=nI (j1+1):=bS;exact bL ⟨j1+1,by exact bS,hn1.succ hl e⟩ (bM bS)
       ·have e:P1 2=true:=by rw[a2,aG (by assumption:¬sc1=_)];exact Bool.or_true _
        (refine .q9 ?_;cbv;exact .inl (.f9 (fS hK (by rw[hq0,g1.trans (fZ hl e)];rfl))))
     ·obtain⟨l,hl⟩:=cM (L:=ws) (i:=j1) bS;have e:P1 l=true:=by rw[aP,aG (by assumption:¬st1=0)];rfl
      (refine .q9 ?_;cbv;exact .inl (.f9 (fS hK (by rw[hq0,g1.trans (fZ hl e)];rfl))))
     ·have ej1:j1=ws.length:=bS;rw[ej1]at hn1;have f1:=g1.trans (iL hn1);rw[f1]at hq0;refine bV [] (fun q:{ j:Nat // j≤ws.length∧jO P2 ws j }=>[(10,.i (nI q.1))]) (fun q=>[.blk 38 [.str carrier,.sl 11 (bI iD L)],.blk 204 (xD ⟨kind,index,day,bill,by_,to,⟨nq2,cq2,sq2,frm2,to2,bq2,pq2,iq2,lq2⟩⟩),.blk 104 (xJ ⟨⟨nq1,cq1,sq1,frm1,to1,bq1,pq1,iq1,lq1⟩,st1,⟨sa1,ha1,ca1⟩,⟨sb1,hb1,cb1⟩,⟨sc1,hc1,cc1⟩⟩)]) (fun q=>fK 4 q.1) ⟨0,aI _,.zero⟩ ?_;rintro ⟨j2,hj2,hn2⟩;dsimp only at hj2 hn2⊢;cbv;repeat'((first|refine .mk (fun h=>?_) fun h=>?_|refine .k fun z hz=>?_|fail)<;>cbv)
      rotate_left
      ·have ej2:j2=ws.length:=bS;rw[ej2]at hn2;have f2:=g2.trans (iL hn2);rw[f2]at hq0;refine bV [] (fun q:{ j:Nat // j≤ws.length∧jO P3 ws j }=>[(11,.i (nI q.1))]) (fun q=>[.blk 38 [.str carrier,.sl 11 (bI iD L)],.blk 204 (xD ⟨kind,index,day,bill,by_,to,⟨nq2,cq2,sq2,frm2,to2,bq2,pq2,iq2,lq2⟩⟩),.blk 104 (xJ ⟨⟨nq1,cq1,sq1,frm1,to1,bq1,pq1,iq1,lq1⟩,st1,⟨sa1,ha1,ca1⟩,⟨sb1,hb1,cb1⟩,⟨sc1,hc1,cc1⟩⟩)]) (fun q=>fK 4 q.1) ⟨0,aI _,.zero⟩ ?_;rintro ⟨j3,hj3,hn3⟩;dsimp only at hj3 hn3⊢;cbv;repeat'((first|refine .n fun h=>?_|refine .mk (fun h=>?_) fun h=>?_|refine .k fun z hz=>?_|fail)<;>cbv)
       rotate_left
       ·have ej3:j3=ws.length:=bS;rw[ej3]at hn3;have f3:=g3.trans (iL hn3);rw[f3]at hq0
        (refine .q9 ?_;cbv;exact .inl (.f9 (fS hK (by rw[hq0];rfl))))
       ·refine cP bS bS fun i l hi hl=>?_
        obtain rfl:j3=i:=bS;rcases hwo l (aC hl)with rfl|rfl|rfl
        ·have e3:¬kind=3:=by omega
         cbv
         (refine XG hu ((⟨⟨nq1,cq1,sq1,frm1,to1,bq1,pq1,iq1,lq1⟩,st1,⟨sa1,ha1,ca1⟩,⟨sb1,hb1,cb1⟩,⟨sc1,hc1,cc1⟩⟩:Br),0) ⟨.inl rfl,hc⟩ ?_;try dsimp only)
         have ev:gH (Mn 0 ⟨⟨nq1,cq1,sq1,frm1,to1,bq1,pq1,iq1,lq1⟩,st1,⟨sa1,ha1,ca1⟩,⟨sb1,hb1,cb1⟩,⟨sc1,hc1,cc1⟩⟩) iq1=v0:=hv0.symm;rw[ev];cbv;repeat'((first|refine .mk (fun h=>?_) fun h=>?_|refine .k fun z hz=>?_|fail)<;>cbv)
         ·have e:P3 0=true:=by rw[c0,aG e3,aH (by assumption:day < v0)];rfl
          (refine .q9 ?_;cbv;exact .inl (.f9 (fS hK (by rw[hq0,g3.trans (fZ hl e)];rfl))))
         ·have e:P3 0=false:=by rw[c0,aG (by omega:¬day < v0)];exact Bool.and_false _
          obtain rfl:z=nI (j3+1):=bS;exact bL ⟨j3+1,by exact bS,hn3.succ hl e⟩ (bM bS)
        ·have e3:¬kind=3:=by omega
         cbv
         (refine XG hu ((⟨⟨nq1,cq1,sq1,frm1,to1,bq1,pq1,iq1,lq1⟩,st1,⟨sa1,ha1,ca1⟩,⟨sb1,hb1,cb1⟩,⟨sc1,hc1,cc1⟩⟩:Br),1) ⟨.inr (.inl rfl),hc⟩ ?_;try dsimp only)
         have ev:gH (Mn 1 ⟨⟨nq1,cq1,sq1,frm1,to1,bq1,pq1,iq1,lq1⟩,st1,⟨sa1,ha1,ca1⟩,⟨sb1,hb1,cb1⟩,⟨sc1,hc1,cc1⟩⟩) iq1=v1:=hv1.symm;rw[ev];cbv;repeat'((first|refine .mk (fun h=>?_) fun h=>?_|refine .k fun z hz=>?_|fail)<;>cbv)
         ·have e:P3 1=true:=by rw[c1,aG e3,aH (by assumption:day < v1)];rfl
          (refine .q9 ?_;cbv;exact .inl (.f9 (fS hK (by rw[hq0,g3.trans (fZ hl e)];rfl))))
         ·have e:P3 1=false:=by rw[c1,aG (by omega:¬day < v1)];exact Bool.and_false _
          obtain rfl:z=nI (j3+1):=bS;exact bL ⟨j3+1,by exact bS,hn3.succ hl e⟩ (bM bS)
        ·have e3:¬kind=3:=by omega
         cbv
         (refine XG hu ((⟨⟨nq1,cq1,sq1,frm1,to1,bq1,pq1,iq1,lq1⟩,st1,⟨sa1,ha1,ca1⟩,⟨sb1,hb1,cb1⟩,⟨sc1,hc1,cc1⟩⟩:Br),2) ⟨.inr (.inr rfl),hc⟩ ?_;try dsimp only)
         have ev:gH (Mn 2 ⟨⟨nq1,cq1,sq1,frm1,to1,bq1,pq1,iq1,lq1⟩,st1,⟨sa1,ha1,ca1⟩,⟨sb1,hb1,cb1⟩,⟨sc1,hc1,cc1⟩⟩) iq1=v2:=hv2.symm;rw[ev];cbv;repeat'((first|refine .mk (fun h=>?_) fun h=>?_|refine .k fun z hz=>?_|fail)<;>cbv)
         ·have e:P3 2=true:=by rw[c2,aG e3,aH (by assumption:day < v2)];rfl
          (refine .q9 ?_;cbv;exact .inl (.f9 (fS hK (by rw[hq0,g3.trans (fZ hl e)];rfl))))
         ·have e:P3 2=false:=by rw[c2,aG (by omega:¬day < v2)];exact Bool.and_false _
          obtain rfl:z=nI (j3+1):=bS;exact bL ⟨j3+1,by exact bS,hn3.succ hl e⟩ (bM bS)
      ·refine cP bS bS fun i l hi hl=>?_
       obtain rfl:j2=i:=bS;rcases hwo l (aC hl)with rfl|rfl|rfl
       ·cbv;repeat'((first|refine .mk (fun h=>?_) fun h=>?_|refine .k fun z hz=>?_|refine bP.i0 ?_|fail)<;>cbv)
        ·have e:P2 0=false:=by rw[b0,aH (by assumption:ha1=by_)];rfl
         obtain rfl:z=nI (j2+1):=bS;exact bL ⟨j2+1,by exact bS,hn2.succ hl e⟩ (bM bS)
        ·have e:P2 0=true:=by rw[b0,aG (by assumption:¬ha1=by_)];rfl
         (refine .q9 ?_;cbv;exact .inl (.f9 (fS hK (by rw[hq0,g2.trans (fZ hl e)];rfl))))
       ·cbv;repeat'((first|refine .mk (fun h=>?_) fun h=>?_|refine .k fun z hz=>?_|refine bP.i1 ?_|fail)<;>cbv)
        ·have e:P2 1=false:=by rw[b1,aH (by assumption:hb1=by_)];rfl
         obtain rfl:z=nI (j2+1):=bS;exact bL ⟨j2+1,by exact bS,hn2.succ hl e⟩ (bM bS)
        ·have e:P2 1=true:=by rw[b1,aG (by assumption:¬hb1=by_)];rfl
         (refine .q9 ?_;cbv;exact .inl (.f9 (fS hK (by rw[hq0,g2.trans (fZ hl e)];rfl))))
       ·cbv;repeat'((first|refine .mk (fun h=>?_) fun h=>?_|refine .k fun z hz=>?_|refine bP.i2 ?_|fail)<;>cbv)
        ·have e:P2 2=false:=by rw[b2,aH (by assumption:hc1=by_)];rfl
         obtain rfl:z=nI (j2+1):=bS;exact bL ⟨j2+1,by exact bS,hn2.succ hl e⟩ (bM bS)
        ·have e:P2 2=true:=by rw[b2,aG (by assumption:¬hc1=by_)];rfl
         (refine .q9 ?_;cbv;exact .inl (.f9 (fS hK (by rw[hq0,g2.trans (fZ hl e)];rfl)))))
theorem F7 {P:bH}{f:Nat}(hA:bJ P f BT) (h3:bJ P f (mF 3)):bJ P f mK:=by
 intro args H K hc;obtain⟨i,rfl,rfl,⟨hk,hp⟩,hK⟩:=hc;by_cases h:i.2.kind=3
 ·exact h3 _ _ K ⟨i,rfl,rfl,⟨h,hp⟩,hK⟩
 ·exact hA _ _ K ⟨i,rfl,rfl,⟨by omega,hp⟩,hK⟩
set_option maxHeartbeats 4000000
theorem Cz (P:bH) (hf:bJ P 63 rN) (hd:bJ P 175 Db) (hn:bJ P 133 (iE (fun s=>s.size≤maxLen) bR)) (hw:bJ P 143 nV) (hu:bJ P 183 Cf):bN P YE (mF 3):=by
 intro args H K hc;obtain⟨⟨⟨carrier,L⟩,a⟩,rfl,rfl,hp,hK⟩:=hc;refine⟨cN,?_⟩;dsimp only at hp hK⊢;obtain⟨hkind,hp,hch,hto⟩:=hp;obtain⟨q,hq⟩:∃q,q=eE L (cR a):=⟨_,rfl⟩
 obtain⟨e,he⟩:∃e,e=oG (fun b:Br=>decide (b.b.number=a.bill)) L:=⟨_,rfl⟩
 rw[←hq]at hK;obtain⟨q1,hq1⟩:∃q,q=k1 (cR a):=⟨_,rfl⟩
 obtain⟨q2,hq2⟩:∃q,q=k2 (cR a):=⟨_,rfl⟩
 have hwo:=EH (a:=a);have hq1':=hq1;rw[Hl]at hq1';have hq2':=hq2;rw[Px]at hq2';rw[←hq1]at hwo;have hbill:(cR a).bill=a.bill:=rfl;obtain⟨ws,hws⟩:∃ws,ws=iT a:=⟨_,rfl⟩
 have hwl:(if a.kind=5∨(a.kind=1∧a.index=-1) then [AV.i 0,.i 1,.i 2] else [.i a.index])=bI iA ws:=by
  rw[hws];unfold iT
  split<;>rfl
 obtain⟨ms,hms⟩:∃ms,ms=bI iA ws:=⟨_,rfl⟩
 rw[←hms]at hwl;have hwlen:ws.length≤3:=by
  rw[hws];unfold iT
  split
  ·exact aN 3
  ·exact Nat.le_add_left 1 2
 rw[←hws]at hwo;have hq0:q=match qQ L a.bill with
  |some i=>match L[i]? with
   |some b=>lP b (cR a)
   |none=>4
  |none=>4:=hq
 clear hq;cases hb:qQ L a.bill with
 |none=>
  rw[kY,hb]at he;subst he;rw[hb]at hq0;dsimp only at hq0;subst hq0;obtain⟨kind,index,day,bill,by_,to,b⟩:=a;obtain rfl:kind=3:=hkind;obtain⟨nq1,cq1,sq1,frm1,to1,bq1,pq1,iq1,lq1⟩:=b;cbv
  (refine XG hf ((⟨carrier,L⟩:Rg),bill) (by dsimp only;omega) ?_;try dsimp only)
  rw[kY,hb];cbv;repeat'((first|refine .y fun h=>?_|fail)<;>cbv)
  exact XJ.mk ⟨_,Gh.refl _,.inl (.v9 (M0 hK (by rfl)))⟩
 |some i=>
  obtain⟨x,hx,_⟩:=dY hb;have he2:=he;rw[kY,hb]at he2;rw[hb]at hq0;dsimp only at hq0;rw[hx]at hq0;dsimp only at hq0;have hc:=hch x (aC hx);have hae:lP x (cR a)=if k1 (cR a) then 3 else if k2 (cR a) then 1 else if k3 x (cR a) then 9 else if k4 x (cR a) then 8 else if k5 x (cR a) then 6 else 0:=rfl
  rw[hae,←hq1,←hq2]at hq0;clear hae;obtain⟨w1,hw1⟩:∃w,w=k3 x (cR a):=⟨_,rfl⟩
  obtain⟨w2,hw2⟩:∃w,w=k4 x (cR a):=⟨_,rfl⟩
  obtain⟨w3,hw3⟩:∃w,w=k5 x (cR a):=⟨_,rfl⟩
  rw[←hw1,←hw2,←hw3]at hq0;have hww:q1=false→w1=ws.any (Sj x (if a.kind=4 then 3 else 0))∧w2=ws.any (Ss x a.by_)∧w3=ws.any (R6 x a.kind a.day):=fun h=>by
   rw[hq1]at h;rw[hws,hw1,hw2,hw3];exact⟨ER h x,DI h x,E3 h x⟩
  clear hw1 hw2 hw3;obtain⟨d5,hd5⟩:∃d,d=eN a.day:=⟨_,rfl⟩
  obtain⟨n5,hn5⟩:∃d,d=bR a.to:=⟨_,rfl⟩
  unfold hU at hq2';rw[←hd5,←hn5]at hq2';obtain⟨kind,index,day,bill,by_,to,b⟩:=a;obtain rfl:kind=3:=hkind;obtain⟨nq2,cq2,sq2,frm2,to2,bq2,pq2,iq2,lq2⟩:=b;dsimp only at hq1' hq2' hto he he2 hd5 hn5 hwl hww;cbv
  (refine XG hf ((⟨carrier,L⟩:Rg),bill) (by dsimp only;omega) ?_;try dsimp only)
  rw[←he,he2];cbv;repeat'((first|refine .e ?_|refine .n fun h=>?_|refine .y fun h=>?_|refine .mk (fun h=>?_) fun h=>?_|refine And.intro ?_ ?_|fail)<;>cbv)
  all_goals try
   ((refine XG hd day trivial ?_;try dsimp only)
    rw[←hd5];cases d5<;>(cbv))
  all_goals try
   ((refine XG hn to hto ?_;try dsimp only)
    rw[←hn5];cases n5<;>(cbv))
  all_goals try
   (have f1:q1=true:=by(rw[hq1'];exact aH (by omega))
    (refine .q9 ?_;cbv;exact .inl (.f9 (fS hK (by rw[hq0,f1];rfl))))
    done)
  all_goals have f1:q1=false:=by(rw[hq1'];exact aG (by omega))
  all_goals try
   (have f2:q2=true:=by
     rw[hq2']
     first
      |(rw[aG (by decide:¬(3:Int)=3)];rfl)
      |(rw[aH (by decide:(3:Int)=1)];exact Bool.or_true _)
      |(rw[aH (by decide:(3:Int)=1),aH (by assumption:to=by_)];exact Bool.or_true _)
    (refine .q9 ?_;cbv;exact .inl (.f9 (fS hK (by rw[hq0,f1,f2];rfl))))
    done)
  all_goals
   (have f2:q2=false:=by
     rw[hq2']
     first
      |(rw[aH (by decide:(3:Int)=3),aG (by decide:¬(3:Int)=1)];rfl)
      |(rw[aG (by decide:¬(3:Int)=3),aG (by decide:¬(3:Int)=1)];rfl)
      |(rw[aG (by decide:¬(3:Int)=3),aH (by decide:(3:Int)=1),aG (by assumption:¬to=by_)];rfl)
    rw[f1,f2]at hq0)
  all_goals
   (have hwo:=hwo f1
    (refine XG hw (⟨3,index,day,bill,by_,to,⟨nq2,cq2,sq2,frm2,to2,bq2,pq2,iq2,lq2⟩⟩:At) trivial ?_;try dsimp only)
    rw[hwl,hms];obtain⟨g1,g2,g3⟩:=hww f1;obtain⟨sv,hsv⟩:∃sv:Int,sv=if (3:Int)=4 then 3 else 0:=⟨_,rfl⟩
    rw[←hsv]at g1)
  all_goals
   (rw[aE (by decide)]at hsv
    obtain⟨⟨nq1,cq1,sq1,frm1,to1,bq1,pq1,iq1,lq1⟩,st1,⟨sa1,ha1,ca1⟩,⟨sb1,hb1,cb1⟩,⟨sc1,hc1,cc1⟩⟩:=x;obtain⟨P1,hP1⟩:∃p,p=Sj ⟨⟨nq1,cq1,sq1,frm1,to1,bq1,pq1,iq1,lq1⟩,st1,⟨sa1,ha1,ca1⟩,⟨sb1,hb1,cb1⟩,⟨sc1,hc1,cc1⟩⟩ sv:=⟨_,rfl⟩
    obtain⟨P2,hP2⟩:∃p,p=Ss ⟨⟨nq1,cq1,sq1,frm1,to1,bq1,pq1,iq1,lq1⟩,st1,⟨sa1,ha1,ca1⟩,⟨sb1,hb1,cb1⟩,⟨sc1,hc1,cc1⟩⟩ by_:=⟨_,rfl⟩
    obtain⟨P3,hP3⟩:∃p,p=R6 ⟨⟨nq1,cq1,sq1,frm1,to1,bq1,pq1,iq1,lq1⟩,st1,⟨sa1,ha1,ca1⟩,⟨sb1,hb1,cb1⟩,⟨sc1,hc1,cc1⟩⟩ (3:Int) day:=⟨_,rfl⟩
    rw[←hP1]at g1;rw[←hP2]at g2;rw[←hP3]at g3;obtain⟨v0,hv0⟩:∃v,v=gH ⟨sa1,ha1,ca1⟩ iq1:=⟨_,rfl⟩
    have a0:P1 0=(!decide (st1=0) || !decide (sa1=sv)):=by rw[hP1];rfl
    have b0:P2 0=(!decide (ha1=by_)):=by rw[hP2];rfl
    have c0:P3 0=(!decide ((3:Int)=3) && decide (day < v0)):=by rw[hP3,hv0];rfl
    obtain⟨v1,hv1⟩:∃v,v=gH ⟨sb1,hb1,cb1⟩ iq1:=⟨_,rfl⟩
    have a1:P1 1=(!decide (st1=0) || !decide (sb1=sv)):=by rw[hP1];rfl
    have b1:P2 1=(!decide (hb1=by_)):=by rw[hP2];rfl
    have c1:P3 1=(!decide ((3:Int)=3) && decide (day < v1)):=by rw[hP3,hv1];rfl
    obtain⟨v2,hv2⟩:∃v,v=gH ⟨sc1,hc1,cc1⟩ iq1:=⟨_,rfl⟩
    have a2:P1 2=(!decide (st1=0) || !decide (sc1=sv)):=by rw[hP1];rfl
    have b2:P2 2=(!decide (hc1=by_)):=by rw[hP2];rfl
    have c2:P3 2=(!decide ((3:Int)=3) && decide (day < v2)):=by rw[hP3,hv2];rfl
    have aP:∀k,P1 k=(!decide (st1=0) || !decide ((Mn k ⟨⟨nq1,cq1,sq1,frm1,to1,bq1,pq1,iq1,lq1⟩,st1,⟨sa1,ha1,ca1⟩,⟨sb1,hb1,cb1⟩,⟨sc1,hc1,cc1⟩⟩).state=sv)):=fun k=>by rw[hP1];rfl
    have hp3:∀k,P3 k=false:=fun k=>by rw[hP3];rfl
    clear hP1 hP2 hP3;subst hsv;cbv;repeat'((first|refine .n fun h=>?_|fail)<;>cbv)
    refine bV [] (fun q:{ j:Nat // j≤ws.length∧jO P1 ws j }=>[(9,.i (nI q.1))]) (fun q=>[.blk 38 [.str carrier,.sl 11 (bI iD L)],.blk 204 (xD ⟨(3:Int),index,day,bill,by_,to,⟨nq2,cq2,sq2,frm2,to2,bq2,pq2,iq2,lq2⟩⟩),.blk 104 (xJ ⟨⟨nq1,cq1,sq1,frm1,to1,bq1,pq1,iq1,lq1⟩,st1,⟨sa1,ha1,ca1⟩,⟨sb1,hb1,cb1⟩,⟨sc1,hc1,cc1⟩⟩)]) (fun q=>fK 4 q.1) ⟨0,aI _,.zero⟩ ?_;rintro ⟨j1,hj1,hn1⟩;dsimp only at hj1 hn1⊢;cbv;repeat'((first|refine .mk (fun h=>?_) fun h=>?_|refine .k fun z hz=>?_|fail)<;>cbv)
    ·refine cP bS bS fun i l hi hl=>?_
     obtain rfl:j1=i:=bS;rcases hwo l (aC hl)with rfl|rfl|rfl
     ·cbv;repeat'((first|refine .mk (fun h=>?_) fun h=>?_|refine .k fun z hz=>?_|refine bP.i0 ?_|fail)<;>cbv)
      ·have e:P1 0=false:=by rw[a0,aH (by assumption:st1=0),aH (by assumption:sa1=_)];rfl
       obtain rfl:z=nI (j1+1):=bS;exact bL ⟨j1+1,by exact bS,hn1.succ hl e⟩ (bM bS)
      ·have e:P1 0=true:=by rw[a0,aG (by assumption:¬sa1=_)];exact Bool.or_true _
       (refine .q9 ?_;cbv;exact .inl (.f9 (fS hK (by rw[hq0,g1.trans (fZ hl e)];rfl))))
     ·cbv;repeat'((first|refine .mk (fun h=>?_) fun h=>?_|refine .k fun z hz=>?_|refine bP.i1 ?_|fail)<;>cbv)
      ·have e:P1 1=false:=by rw[a1,aH (by assumption:st1=0),aH (by assumption:sb1=_)];rfl
       obtain rfl:z=nI (j1+1):=bS;exact bL ⟨j1+1,by exact bS,hn1.succ hl e⟩ (bM bS)
      ·have e:P1 1=true:=by rw[a1,aG (by assumption:¬sb1=_)];exact Bool.or_true _
       (refine .q9 ?_;cbv;exact .inl (.f9 (fS hK (by rw[hq0,g1.trans (fZ hl e)];rfl))))
     ·cbv;repeat'((first|refine .mk (fun h=>?_) fun h=>?_|refine .k fun z hz=>?_|refine bP.i2 ?_|fail)<;>cbv)
      ·have e:P1 2=false:=by rw[a2,aH (by assumption:st1=0),aH (by assumption:sc1=_)];rfl
       obtain rfl:z=nI (j1+1):=bS;exact bL ⟨j1+1,by exact bS,hn1.succ hl e⟩ (bM bS)
      ·have e:P1 2=true:=by rw[a2,aG (by assumption:¬sc1=_)];exact Bool.or_true _
       (refine .q9 ?_;cbv;exact .inl (.f9 (fS hK (by rw[hq0,g1.trans (fZ hl e)];rfl))))
    ·obtain⟨l,hl⟩:=cM (L:=ws) (i:=j1) bS;have e:P1 l=true:=by rw[aP,aG (by assumption:¬st1=0)];rfl
     (refine .q9 ?_;cbv;exact .inl (.f9 (fS hK (by rw[hq0,g1.trans (fZ hl e)];rfl))))
    ·have ej1:j1=ws.length:=bS;rw[ej1]at hn1;have f1:=g1.trans (iL hn1);rw[f1]at hq0;refine bV [] (fun q:{ j:Nat // j≤ws.length∧jO P2 ws j }=>[(10,.i (nI q.1))]) (fun q=>[.blk 38 [.str carrier,.sl 11 (bI iD L)],.blk 204 (xD ⟨(3:Int),index,day,bill,by_,to,⟨nq2,cq2,sq2,frm2,to2,bq2,pq2,iq2,lq2⟩⟩),.blk 104 (xJ ⟨⟨nq1,cq1,sq1,frm1,to1,bq1,pq1,iq1,lq1⟩,st1,⟨sa1,ha1,ca1⟩,⟨sb1,hb1,cb1⟩,⟨sc1,hc1,cc1⟩⟩)]) (fun q=>fK 4 q.1) ⟨0,aI _,.zero⟩ ?_;rintro ⟨j2,hj2,hn2⟩;dsimp only at hj2 hn2⊢;cbv;repeat'((first|refine .mk (fun h=>?_) fun h=>?_|refine .k fun z hz=>?_|fail)<;>cbv)
     rotate_left
     ·have ej2:j2=ws.length:=bS;rw[ej2]at hn2;have f2:=g2.trans (iL hn2);rw[f2]at hq0;refine bV [] (fun q:{ j:Nat // j≤ws.length∧jO P3 ws j }=>[(11,.i (nI q.1))]) (fun q=>[.blk 38 [.str carrier,.sl 11 (bI iD L)],.blk 204 (xD ⟨(3:Int),index,day,bill,by_,to,⟨nq2,cq2,sq2,frm2,to2,bq2,pq2,iq2,lq2⟩⟩),.blk 104 (xJ ⟨⟨nq1,cq1,sq1,frm1,to1,bq1,pq1,iq1,lq1⟩,st1,⟨sa1,ha1,ca1⟩,⟨sb1,hb1,cb1⟩,⟨sc1,hc1,cc1⟩⟩)]) (fun q=>fK 4 q.1) ⟨0,aI _,.zero⟩ ?_;rintro ⟨j3,hj3,hn3⟩;dsimp only at hj3 hn3⊢;cbv;repeat'((first|refine .y fun h=>?_|refine .mk (fun h=>?_) fun h=>?_|refine .k fun z hz=>?_|fail)<;>cbv)
      rotate_left
      ·have ej3:j3=ws.length:=bS;rw[ej3]at hn3;have f3:=g3.trans (iL hn3);rw[f3]at hq0
       (refine .q9 ?_;cbv;exact .inl (.f9 (fS hK (by rw[hq0];rfl))))
      ·obtain⟨l,hl⟩:=cM (L:=ws) (i:=j3) bS;obtain rfl:z=nI (j3+1):=bS;exact bL ⟨j3+1,by exact bS,hn3.succ hl (hp3 l)⟩ (bM bS)
     ·refine cP bS bS fun i l hi hl=>?_
      obtain rfl:j2=i:=bS;rcases hwo l (aC hl)with rfl|rfl|rfl
      ·cbv;repeat'((first|refine .mk (fun h=>?_) fun h=>?_|refine .k fun z hz=>?_|refine bP.i0 ?_|fail)<;>cbv)
       ·have e:P2 0=false:=by rw[b0,aH (by assumption:ha1=by_)];rfl
        obtain rfl:z=nI (j2+1):=bS;exact bL ⟨j2+1,by exact bS,hn2.succ hl e⟩ (bM bS)
       ·have e:P2 0=true:=by rw[b0,aG (by assumption:¬ha1=by_)];rfl
        (refine .q9 ?_;cbv;exact .inl (.f9 (fS hK (by rw[hq0,g2.trans (fZ hl e)];rfl))))
      ·cbv;repeat'((first|refine .mk (fun h=>?_) fun h=>?_|refine .k fun z hz=>?_|refine bP.i1 ?_|fail)<;>cbv)
       ·have e:P2 1=false:=by rw[b1,aH (by assumption:hb1=by_)];rfl
        obtain rfl:z=nI (j2+1):=bS;exact bL ⟨j2+1,by exact bS,hn2.succ hl e⟩ (bM bS)
       ·have e:P2 1=true:=by rw[b1,aG (by assumption:¬hb1=by_)];rfl
        (refine .q9 ?_;cbv;exact .inl (.f9 (fS hK (by rw[hq0,g2.trans (fZ hl e)];rfl))))
      ·cbv;repeat'((first|refine .mk (fun h=>?_) fun h=>?_|refine .k fun z hz=>?_|refine bP.i2 ?_|fail)<;>cbv)
       ·have e:P2 2=false:=by rw[b2,aH (by assumption:hc1=by_)];rfl
        obtain rfl:z=nI (j2+1):=bS;exact bL ⟨j2+1,by exact bS,hn2.succ hl e⟩ (bM bS)
       ·have e:P2 2=true:=by rw[b2,aG (by assumption:¬hc1=by_)];rfl
        (refine .q9 ?_;cbv;exact .inl (.f9 (fS hK (by rw[hq0,g2.trans (fZ hl e)];rfl)))))
theorem Pm:bJ Tryz.prog 50 Oy:=bK (by kernel_rfl) (KO _)
theorem Mp:bJ Tryz.prog 51 HI:=bK (by kernel_rfl) (IH _)
theorem Ek:bJ Tryz.prog 21 xO:=bK (by kernel_rfl) (ET _ Pm Mp)
theorem J2:bJ Tryz.prog 48 qJ:=bK (by kernel_rfl) (CH _)
theorem HU:bJ Tryz.prog 49 pV:=bK (by kernel_rfl) (Gl _)
theorem Ie:bJ Tryz.prog 52 (vG 77 5 72):=bK (by kernel_rfl) (Ca _)
theorem BQ:bJ Tryz.prog 68 C5:=bK (by kernel_rfl) (F8 _ Mp Ie)
theorem Om:bJ Tryz.prog 104 (iE (fun _=>True) bR):=bK (by kernel_rfl) (Fm _)
theorem ED:bJ Tryz.prog 74 xW:=bK (by kernel_rfl) (Eh _ Om)
theorem M6:bJ Tryz.prog 75 vT:=bK (by kernel_rfl) (J3 _)
theorem Nz:bJ Tryz.prog 118 Gg:=bK (by kernel_rfl) (Gz _ ED M6)
theorem Zq:bJ Tryz.prog 43 Hs:=bK (by kernel_rfl) (I8 _ ED M6)
theorem Ob:bJ Tryz.prog 79 (tF (fun k=>k=4) nM):=bK (by kernel_rfl) (FF _ BQ Nz Zq)
theorem yD:bJ Tryz.prog 120 BI:=bK (by kernel_rfl) (Gs _)
theorem yL:bJ Tryz.prog 184 (Ev kZ):=bK (by kernel_rfl) (AM _)
theorem BF:bJ Tryz.prog 185 (Ev iR):=bK (by kernel_rfl) (B7 _)
theorem vH:bJ Tryz.prog 144 (iE (fun _=>True) bR):=bK (by kernel_rfl) (Iz _ yL BF)
theorem QH:bJ Tryz.prog 106 (oX [.ptr 1 0] fun _ _=>false):=bK (by kernel_rfl) (IE _)
theorem PE:bJ Tryz.prog 107 (Bk k1):=bK (by kernel_rfl) (I4 _)
theorem HV:bJ Tryz.prog 109 Db:=bK (by kernel_rfl) (Hb _)
theorem P9:bJ Tryz.prog 108 (Bk k2):=bK (by kernel_rfl) (JE _ HV)
theorem Tv:bJ Tryz.prog 112 (M4 mT):=bK (by kernel_rfl) (M8 _)
theorem Jx:bJ Tryz.prog 111 (DE 112 mT):=bK (by kernel_rfl) (yM _ 112 mT ⟨by kernel_rfl⟩ Tv)
theorem Rz:bJ Tryz.prog 110 (oX [.ptr 1 0,.ptr 0 0] k3):=bK (by kernel_rfl) (Jf _ Jx)
theorem Tr:bJ Tryz.prog 114 (M4 iM):=bK (by kernel_rfl) (Lx _)
theorem JT:bJ Tryz.prog 111 (DE 114 iM):=bK (by kernel_rfl) (yM _ 114 iM ⟨by kernel_rfl⟩ Tr)
theorem PT:bJ Tryz.prog 113 (oX [.ptr 1 0,.ptr 0 0] k4):=bK (by kernel_rfl) (IR _ JT)
theorem RW:bJ Tryz.prog 117 MS:=bK (by kernel_rfl) (Il _)
theorem Tj:bJ Tryz.prog 116 Qr:=bK (by kernel_rfl) (K8 _ RW)
theorem JB:bJ Tryz.prog 111 (LV 116):=bK (by kernel_rfl) (Gd _ 116 ⟨by kernel_rfl⟩ Tj)
theorem Q6:bJ Tryz.prog 115 (oX [.ptr 0 0,.ptr 1 0] k5):=bK (by kernel_rfl) (Jj _ JB)
theorem NI:bJ Tryz.prog 105 PO:=bK (by kernel_rfl) (GX _ ⟨⟨by kernel_rfl⟩,⟨by kernel_rfl⟩,⟨by kernel_rfl⟩,⟨by kernel_rfl⟩,⟨by kernel_rfl⟩,⟨by kernel_rfl⟩,QH,PE,P9,Rz,PT,Q6⟩)
theorem Oz:bJ Tryz.prog 106 (spec (fun _:Unit=>[.ptr 0 0]) (fun _=>[.blk 119 [.v (.pointer none)]]) (fun _=>True) (fun _=>.bl true) fun _=>[.blk 119 [.v (.pointer none)]]):=bK (by kernel_rfl) (GF _)
theorem Lc:bJ Tryz.prog 105 Q2:=bK (by kernel_rfl) (Dv _ ⟨by kernel_rfl⟩ Oz)
theorem Hg:bJ Tryz.prog 78 Jz:=bK (by kernel_rfl) (LU _ NI Lc)
theorem NP:bJ Tryz.prog 212 GI:=bK (by kernel_rfl) (FS _ vH)
theorem Nq:bJ Tryz.prog 214 (Bd 1):=bK (by kernel_rfl) (FE _)
theorem MQ:bJ Tryz.prog 213 (Bd 2):=bK (by kernel_rfl) (EI _)
theorem NS:bJ Tryz.prog 205 Ha:=bK (by kernel_rfl) (FV _ NP Nq MQ)
theorem O8:bJ Tryz.prog 186 FM:=bK (by kernel_rfl) (Gk _ vH NS)
theorem IJ:bJ Tryz.prog 145 C6:=bK (by kernel_rfl) (CT _ O8)
theorem JM:bJ Tryz.prog 119 Ar:=bK (by kernel_rfl) (Ch _ vH Hg IJ)
theorem O0:bJ Tryz.prog 146 Fo:=bK (by kernel_rfl) (GU _)
theorem tT:bJ Tryz.prog 121 IZ:=bK (by kernel_rfl) (Dr _ O0)
theorem FH:bJ Tryz.prog 80 (gB (fun k=>k=8) mI):=bK (by kernel_rfl) (AP _ yD JM tT)
theorem Sq:bJ Tryz.prog 147 QY:=bK (by kernel_rfl) (Mx _)
theorem pU:bJ Tryz.prog 87 (lR 1 16):=bK (by kernel_rfl) (EF _)
theorem Ds:bJ Tryz.prog 122 rR:=bK (by kernel_rfl) (zH _ Sq pU Hg)
theorem B0:bJ Tryz.prog 81 (zV (fun k=>k=20) jC):=bK (by kernel_rfl) (wQ _ BQ Zq yD Ds pU tT)
theorem G3:bJ Tryz.prog 82 (gB (fun k=>k=19) AX):=bK (by kernel_rfl) (AD _)
theorem PR:bJ Tryz.prog 46 K6:=bK (by kernel_rfl) (JQ _ Hg)
theorem NB:bJ Tryz.prog 83 (gB (fun k=>k=23) pL):=bK (by kernel_rfl) (GL _ yD PR tT)
theorem JL:bJ Tryz.prog 123 Ad:=bK (by kernel_rfl) (CV _ Hg)
theorem Fp:bJ Tryz.prog 84 (gB (fun k=>k=24) pZ):=bK (by kernel_rfl) (AJ _ yD JL tT)
theorem XV:bJ Tryz.prog 18 (pT fun _=>True):=bK (by kernel_rfl) (Ij J2 HU ⟨⟨by kernel_rfl⟩,Ob,⟨by kernel_rfl⟩,FH,⟨by kernel_rfl⟩,B0,⟨by kernel_rfl⟩,G3,⟨by kernel_rfl⟩,NB,⟨by kernel_rfl⟩,Fp⟩)
theorem PU:bJ Tryz.prog 53 Bw:=bK (by kernel_rfl) (IY _)
theorem Ys:bJ Tryz.prog 120 Fq:=bK (by kernel_rfl) (Ga _)
theorem Tt:bJ Tryz.prog 206 Kf:=bK (by kernel_rfl) (K5 _ yL BF)
theorem OK:bJ Tryz.prog 170 oK:=bK (by kernel_rfl) (GA _)
theorem Sp:bJ Tryz.prog 131 Qn:=bK (by kernel_rfl) (Kn _ OK)
theorem Nt:bJ Tryz.prog 93 oK:=bK (by kernel_rfl) (G8 _ Sp)
theorem OW:bJ Tryz.prog 60 oK:=bK (by kernel_rfl) (IO _ Nt)
theorem Lw:bJ Tryz.prog 207 Rn:=bK (by kernel_rfl) (El _ OW)
theorem OB:bJ Tryz.prog 187 (iE (fun _=>True) kP):=bK (by kernel_rfl) (G5 _ Tt Lw)
theorem PQ:bJ Tryz.prog 188 (PL fun s=>!bR s):=bK (by kernel_rfl) (Kc _ vH)
theorem Lv:bJ Tryz.prog 189 (MV 188 fun s=>!bR s):=bK (by kernel_rfl) (I7 _ 188 (fun s=>!bR s) ⟨by kernel_rfl⟩ PQ)
theorem MR:bJ Tryz.prog 152 (LI 188 fun s=>!bR s):=bK (by kernel_rfl) (Kj _ 188 (fun s=>!bR s) Lv)
theorem Tm:bJ Tryz.prog 149 Qe:=bK (by kernel_rfl) (Ku _ vH OB HV MR)
theorem Qv:bJ Tryz.prog 148 (wR [.ptr 2 0,.ptr 3 0,.ptr 4 0] i1):=bK (by kernel_rfl) (J1 _ Tm vH)
theorem QZ:bJ Tryz.prog 150 (wR [.ptr 2 0,.ptr 3 0] i2):=bK (by kernel_rfl) (JG _)
theorem OR:bJ Tryz.prog 208 Gw:=bK (by kernel_rfl) (G0 _)
theorem GW:bJ Tryz.prog 191 vO:=bK (by kernel_rfl) (AA _ OR)
theorem Qm:bJ Tryz.prog 190 (LC kV):=bK (by kernel_rfl) (JS _ GW)
theorem CX:bJ Tryz.prog 69 (Rr 190 kV):=bK (by kernel_rfl) (Ay _ 190 kV ⟨by kernel_rfl⟩ Qm HX)
theorem SR:bJ Tryz.prog 154 RX:=bK (by kernel_rfl) (Mw _ CX)
theorem NE:bJ Tryz.prog 153 (spec (fun i:nX×bG=>[.str i.2,.ptr 2 0]) (fun i=>tK i.1) (fun i=>Cn i.1) (fun i=>.bl (CO i.1 i.2)) fun i=>tK i.1):=bK (by kernel_rfl) (GC _ SR)
theorem Qi:bJ Tryz.prog 189 Ng:=bK (by kernel_rfl) (JJ _ ⟨by kernel_rfl⟩ NE)
theorem QL:bJ Tryz.prog 152 MF:=bK (by kernel_rfl) (Ig _ Qi)
theorem Rp:bJ Tryz.prog 151 (wR [.ptr 3 0,.ptr 2 0] i3):=bK (by kernel_rfl) (J8 _ QL)
theorem Rm:bJ Tryz.prog 155 (wR [.ptr 2 0] i4):=bK (by kernel_rfl) (JH _)
theorem LZ:bJ Tryz.prog 105 Nk:=bK (by kernel_rfl) (Ey _ ⟨⟨by kernel_rfl⟩,⟨by kernel_rfl⟩,⟨by kernel_rfl⟩,⟨by kernel_rfl⟩,Qv,QZ,Rp,Rm⟩)
theorem rT:bJ Tryz.prog 54 Cd:=bK (by kernel_rfl) (AE _ pU)
theorem OZ:bJ Tryz.prog 124 Gf:=bK (by kernel_rfl) (G7 _ LZ rT)
theorem Yu:bJ Tryz.prog 157 (E1 gF):=bK (by kernel_rfl) (Gm _ KF)
theorem Iy:bJ Tryz.prog 156 Ah:=bK (by kernel_rfl) (CD _)
theorem Zf:bJ Tryz.prog 125 Fg:=bK (by kernel_rfl) (EZ _ Yu Kr Iy)
theorem OP:bJ Tryz.prog 85 (pM rI):=bK (by kernel_rfl) (FL _ Ys pU OZ Zf)
theorem Oc:bJ Tryz.prog 86 (pM EU):=bK (by kernel_rfl) (Fv _ pU)
theorem KE:bJ Tryz.prog 23 (vX fun _=>True):=bK (by kernel_rfl) (Lj PU ⟨by kernel_rfl⟩ OP ⟨by kernel_rfl⟩ Oc HU)
theorem XT:bJ Tryz.prog 52 (lR 5 72):=bK (by kernel_rfl) (Dd _)
theorem Rk:bJ Tryz.prog 22 Ly:=bK (by kernel_rfl) (JZ _ XT)
theorem Ov:bJ Tryz.prog 30 GD:=bK (by kernel_rfl) (Gu _)
theorem Jb:bJ Tryz.prog 11 Ao:=bK (by kernel_rfl) (CZ _ Ek XV KE Rk Ov)
theorem Ok:bJ Tryz.prog 31 Fi:=bK (by kernel_rfl) (GO _)
theorem B6:bJ Tryz.prog 13 mJ:=bK (by kernel_rfl) (JR _)
theorem CM:bJ Tryz.prog 94 pQ:=bK (by kernel_rfl) (Fk _)
theorem qX:bJ Tryz.prog 20 mV:=bK (by kernel_rfl) (FJ _)
theorem Km:bJ Tryz.prog 95 yC:=bK (by kernel_rfl) (E7 _ qX)
theorem A6:bJ Tryz.prog 178 (Ev kZ):=bK (by kernel_rfl) (Cu _)
theorem Ae:bJ Tryz.prog 179 (Ev iR):=bK (by kernel_rfl) (DU _)
theorem xN:bJ Tryz.prog 133 (iE (fun s=>s.size≤maxLen) bR):=bK (by kernel_rfl) (G6 _ A6 Ae)
theorem Nu:bJ Tryz.prog 174 FY:=bK (by kernel_rfl) (GQ _ xN)
theorem Fx:bJ Tryz.prog 175 Db:=bK (by kernel_rfl) (IB _)
theorem Hf:bJ Tryz.prog 202 (iE (fun _=>True) mD):=bK (by kernel_rfl) (Gy _ A6 Ae)
theorem Rh:bJ Tryz.prog 203 Kf:=bK (by kernel_rfl) (JK _ Hf)
theorem Ks:bJ Tryz.prog 176 (iE (fun _=>True) kP):=bK (by kernel_rfl) (DR _ Hf Ae Rh)
theorem Sd:bJ Tryz.prog 177 TT:=bK (by kernel_rfl) (NG _)
theorem QI:bJ Tryz.prog 132 Kz:=bK (by kernel_rfl) (Ip _ Nu Fx Ks Sd)
theorem oN:bJ Tryz.prog 63 rN:=bK (by kernel_rfl) (I2 _)
theorem Q5:bJ Tryz.prog 134 Lm:=bK (by kernel_rfl) (J6 _ Sd)
theorem Nx:bJ Tryz.prog 135 GJ:=bK (by kernel_rfl) (GY _)
theorem Eb:bJ Tryz.prog 96 sY:=bK (by kernel_rfl) (DN _ QI xN oN Q5 Nx)
theorem AZ:bJ Tryz.prog 136 C2:=bK (by kernel_rfl) (Cj _)
theorem GE:bJ Tryz.prog 137 Mo:=bK (by kernel_rfl) (AN _ Hv AZ)
theorem Ow:bJ Tryz.prog 138 GS:=bK (by kernel_rfl) (Gp _)
theorem Ki:bJ Tryz.prog 97 Fg:=bK (by kernel_rfl) (BU _ GE Ow AZ)
theorem NY:bJ Tryz.prog 65 (Q0 fun _=>True):=bK (by kernel_rfl) (Ia B6 CM qX Km Eb Ki)
theorem Hw:bJ Tryz.prog 17 lK:=bK (by kernel_rfl) (Ge _)
theorem KH:bJ Tryz.prog 204 (iE (fun s=>s.size≤maxLen) bR):=bK (by kernel_rfl) (En _)
theorem Bh:bJ Tryz.prog 181 (iE (fun s=>s.size≤maxLen) bR):=bK (by kernel_rfl) (Dc _ KH)
theorem Dy:bJ Tryz.prog 182 vT:=bK (by kernel_rfl) (Ej _)
theorem C0:bJ Tryz.prog 41 Hp:=bK (by kernel_rfl) (FX _)
theorem Hj:bJ Tryz.prog 62 Mb:=bK (by kernel_rfl) (FO _)
theorem Bf:bJ Tryz.prog 39 Co:=bK (by kernel_rfl) (CJ _ Hj)
theorem M7:bJ Tryz.prog 140 BX:=bK (by kernel_rfl) (EB _ Bh Dy C0 Bf)
theorem Bq:bJ Tryz.prog 141 Cg:=bK (by kernel_rfl) (BO _ Bh Dy C0)
theorem Mt:bJ Tryz.prog 99 xZ:=bK (by kernel_rfl) (DC _ qX M7 Bq CM)
theorem Rx:bJ Tryz.prog 100 (pE 0):=bK (by kernel_rfl) (IG _ Eb)
theorem oP:bJ Tryz.prog 143 nV:=bK (by kernel_rfl) (Gt _)
theorem Hq:bJ Tryz.prog 183 Cf:=bK (by kernel_rfl) (Hc _)
theorem J4:bJ Tryz.prog 142 BT:=bK (by kernel_rfl) (B5 _ oN Fx xN oP Hq)
theorem ID:bJ Tryz.prog 142 (mF 3):=bK (by kernel_rfl) (Cz _ oN Fx xN oP Hq)
theorem jF:bJ Tryz.prog 142 mK:=F7 J4 ID
theorem Qc:bJ Tryz.prog 100 (pE 1):=bK (by kernel_rfl) (Ii _ jF oN oP)
theorem Qp:bJ Tryz.prog 100 (pE 2):=Nh (by kernel_rfl) (IU _ jF oN oP)
theorem Qz:bJ Tryz.prog 100 (pE 3):=bK (by kernel_rfl) (JI _ jF oN oP)
theorem PJ:bJ Tryz.prog 100 (pE 4):=bK (by kernel_rfl) (Kg _ jF oN oP)
theorem PF:bJ Tryz.prog 100 (pE 5):=bK (by kernel_rfl) (It _ jF oN oP)
theorem KG:bJ Tryz.prog 100 FT:=Q3 Rx Qc Qp Qz PJ PF
theorem Nm:bJ Tryz.prog 33 Da:=bK (by kernel_rfl) (D4 _)
theorem NT:bJ Tryz.prog 101 sC:=bK (by kernel_rfl) (GG _ Nm)
theorem Ik:bJ Tryz.prog 102 tC:=bK (by kernel_rfl) (C1 _ qX Bq)
theorem LG:bJ Tryz.prog 67 (Mj fun _=>True):=bK (by kernel_rfl) (Gq B6 Hw Mt KG NT Ik CM qX)
theorem NX:bJ Tryz.prog 24 BZ:=bK (by kernel_rfl) (Fw _)
theorem NF:bJ Tryz.prog 180 FI:=bK (by kernel_rfl) (GN _)
theorem Nc:bJ Tryz.prog 139 GR:=bK (by kernel_rfl) (DS _ NF)
theorem Oj:bJ Tryz.prog 98 GB:=bK (by kernel_rfl) (FQ _ Nc)
theorem PZ:bJ Tryz.prog 66 KT:=bK (by kernel_rfl) (I6 _ Oj)
theorem Wk:bJ Tryz.prog 32 QK:=bK (by kernel_rfl) (Re KE NY XV LG NX PZ)
theorem L8:bJ Tryz.prog 14 Cl:=bK (by kernel_rfl) (DY _ Ek Ok Wk)
theorem TH:bJ Tryz.prog 12 Gv:=bK (by kernel_rfl) (KY _)
theorem vV:bJ Tryz.prog 16 rV:=bK (by kernel_rfl) (yT _)
theorem II:bJ Tryz.prog 77 (vG 180 4 48):=bK (by kernel_rfl) (CY _)
theorem RY:bJ Tryz.prog 47 KQ:=bK (by kernel_rfl) (Iu _ Pm rT II)
theorem QU:bJ Tryz.prog 15 ME:=bK (by kernel_rfl) (I0 _ RY)
theorem P6:bJ Tryz.prog 19 KB:=bK (by kernel_rfl) (JC _)
set_option maxHeartbeats 8000000
end Go.Proofs.YtigdiekbiphhmaaGreatDoor
namespace Go.Proofs.YtigdiekbiphhmaaGreatDoor
open Go.ChangeShapes Go.WideShapes Go.Deep Go.RowKit
inductive Sh where
 |int (k:IntKind)
 |str
 |bl
 |sl (sz:Nat) (e:Sh)
 |st (l:List Sh)
mutual
def Sh.width:Sh→Nat
 |.int _=>1
 |.str=>1
 |.bl=>1
 |.sl _ _=>1
 |.st l=>Sh.widthL l
def Sh.widthL:List Sh→Nat
 |[]=>0
 |s :: l=>s.width+Sh.widthL l
end
mutual
def Op (B:Nat):Sh→List AV→Prop
 |.int k,cs=>∃n,cs=[.int k n]∧(Lit.int k n).wf=true
 |.str,cs=>∃s,cs=[.str s]∧s.size≤maxLen∧s.size≤B
 |.bl,cs=>∃b,cs=[.bl b]
 |.sl sz e,cs=>∃xs,cs=[.sl sz xs]∧xs.length≤maxLen∧∀x∈xs,x=dD sz x.cells∧Op B e x.cells
 |.st l,cs=>fJ B l cs
def fJ (B:Nat):List Sh→List AV→Prop
 |[],cs=>cs=[]
 |s :: l,cs=>∃a b,cs=a++b∧Op B s a∧fJ B l b
end
mutual
theorem Op.one {B:Nat}:∀(s:Sh) (cs:List AV),Op B s cs→cs.all AV.one=true
 |.int k,cs,h=>by unfold Op at h;obtain⟨n,rfl,_⟩:=h;rfl
 |.str,cs,h=>by unfold Op at h;obtain⟨n,rfl,_⟩:=h;rfl
 |.bl,cs,h=>by unfold Op at h;obtain⟨n,rfl⟩:=h;rfl
 |.sl sz e,cs,h=>by unfold Op at h;obtain⟨xs,rfl,_⟩:=h;rfl
 |.st l,cs,h=>by unfold Op at h;exact fJ.one l cs h
theorem fJ.one {B:Nat}:∀(l:List Sh) (cs:List AV),fJ B l cs→cs.all AV.one=true
 |[],cs,h=>by unfold fJ at h;subst h;rfl
 |s :: l,cs,h=>by
  unfold fJ at h;obtain⟨a,b,rfl,h1,h2⟩:=h;rw[List.all_append,Op.one s a h1,fJ.one l b h2];rfl
end
def Ni (P:bH) (g:TypeId→Option Sh):List Field→Nat→Nat→Option (List Sh)
 |[],off,tot=>if off=tot then some [] else none
 |f :: l,off,tot=>if f.offset=off then match g f.type,Ni P g l (off+P.cellsOf f.type) tot with
  |some s,some r=>some (s :: r)
  |_,_=>none
  else none
mutual
theorem Op.len {B:Nat}:∀(s:Sh) (cs:List AV),Op B s cs→cs.length=s.width
 |.int k,cs,h=>by unfold Op at h;obtain⟨n,rfl,_⟩:=h;rfl
 |.str,cs,h=>by unfold Op at h;obtain⟨n,rfl,_⟩:=h;rfl
 |.bl,cs,h=>by unfold Op at h;obtain⟨n,rfl⟩:=h;rfl
 |.sl sz e,cs,h=>by unfold Op at h;obtain⟨xs,rfl,_⟩:=h;rfl
 |.st l,cs,h=>by unfold Op at h;exact fJ.len l cs h
theorem fJ.len {B:Nat}:∀(l:List Sh) (cs:List AV),fJ B l cs→cs.length=Sh.widthL l
 |[],cs,h=>by unfold fJ at h;subst h;rfl
 |s :: l,cs,h=>by
  unfold fJ at h;obtain⟨a,b,rfl,h1,h2⟩:=h;rw[aM,Op.len s a h1,fJ.len l b h2];rfl
end
def D5 (P:bH):Nat→TypeId→Option Sh
 |0,_=>none
 |n+1,t=>match P.underlying t with
  |some .bool=>some .bl
  |some (.int k)=>some (.int k)
  |some .string=>some .str
  |some (.slice e)=>match D5 P n e with
   |some s=>if s.width=P.cellsOf e then some (.sl (P.cellsOf e) s) else none
   |none=>none
  |some (.struct fs)=>(Ni P (D5 P n) fs.toList 0 (P.cellsOf t)).map .st
  |_=>none
def nD (w:World):cZ:=fun b=>match w.heap[b]? with
 |some (.cells arr _ _)=>arr.size
 |_=>0
theorem IC {w:World}{b i:Nat}{u:Value}(h:w.cell? ⟨b,i,none⟩=some u):i < nD w b:=by
 unfold World.cell? at h;unfold nD;cases hb:w.heap[b]? with
 |none=>simp[hb]at h
 |some o=>
  cases o<;>simp[hb]at h⊢;rename_i arr _ _;rcases aL i arr.size with h1|h1
  ·exact h1
  ·rw[Array.getElem?_eq_none h1]at h;simp at h
theorem Gi {w:World}{b i:Nat}(h:i < nD w b):∃u,w.cell? ⟨b,i,none⟩=some u:=by
 unfold nD at h;cases hb:w.heap[b]? with
 |none=>simp[hb]at h
 |some o=>
  cases o<;>simp[hb]at h;rename_i arr _ _;exact⟨arr[i],by unfold World.cell?;simp[hb,aK h]⟩
theorem oY.door (w:World) (hg:kU (nD w) w):oY (nD w) w dA []:=
 ⟨fun k e he=>(by simp at he),fun _ _=>rfl,(fun _ _ _ _ _ h=>by cases h),(fun b hb=>by unfold nD;rw[Array.getElem?_eq_none hb]),fun b i hi=>Gi hi,hg⟩
theorem AW {sz:Nat}{l:List AV}(hl:l.length=sz) (h1:l.all AV.one=true):(dD sz l).cells=l:=fO hl h1
theorem Ea {α:Type}{p:Nat→α→Prop}:∀(n:Nat),(∀i,i < n→∃a,p i a)→∃l:List α,l.length=n∧∀i (h:i < l.length),p i l[i]
 |0,_=>⟨[],rfl,fun i h=>by simp at h⟩
 |n+1,h=>by
  obtain⟨l,hl,hp⟩:=Ea n (fun i hi=>h i (by omega));obtain⟨a,ha⟩:=h n (by omega);refine⟨l++[a],by simp[hl],fun i hi=>?_⟩;by_cases h1:i < l.length
  ·rw[List.getElem_append_left h1];exact hp i h1
  ·simp at hi;obtain rfl:i=n:=by omega
   subst hl;simpa using ha
theorem rJ (b o n:Nat):(⟨b,o,none⟩:Addr).add n=⟨b,o+n,none⟩:=by unfold Addr.add;split<;>simp_all
def K0 (B:Nat) (P:bH) {H:Type}(t:TypeId) (d:DataW H):Prop:=maxLen≤B∨(reachBytes≤B∧∀n∈d.weights P t,n≤reachBytes)
theorem kO {P:bH}{H:Type}:∀{ts:List TypeId}{ds:List (DataW H)}{i:Nat}{t:TypeId}{d:DataW H},ts[i]?=some t→ds[i]?=some d→∀n∈d.weights P t,n∈DataW.weightsEach P ts ds
 |[],_,i,t,d,h,_=>by simp at h
 |_ :: _,[],i,t,d,_,h=>by simp at h
 |u :: ts,e :: ds,0,t,d,h,k=>by
  intro n hn;simp at h k;subst h k;unfold DataW.weightsEach;exact List.mem_append_left _ hn
 |u :: ts,e :: ds,i+1,t,d,h,k=>by
  intro n hn;unfold DataW.weightsEach;exact List.mem_append_right _ (kO (by simpa using h) (by simpa using k) n hn)
theorem HT {P:bH}{H:Type}{e:TypeId}:∀{ds:List (DataW H)}{i:Nat}{d:DataW H},ds[i]?=some d→∀n∈d.weights P e,n∈DataW.weightsAll P e ds
 |[],i,d,h=>by simp at h
 |x :: ds,0,d,h=>by
  intro n hn;simp at h;subst h;unfold DataW.weightsAll;exact List.mem_append_left _ hn
 |x :: ds,i+1,d,h=>by
  intro n hn;unfold DataW.weightsAll;exact List.mem_append_right _ (HT (by simpa using h) n hn)
section
variable {B:Nat}
variable {H:Type}{enc:TypeId×Value→H}{P:bH}{w:World}{base:Nat}{spare:Nat→Bool}{held:Bool}
theorem HP {g:TypeId→Option Sh}{cs:List Value}(hg:∀t s,g t=some s→∀fuel cs x,DataW.trod enc P w base spare held fuel t cs=some x→K0 B P t x.1→∃cz,Op B s cz∧bT (nD w) w dA cz cs) :
  ∀(l:List Field) (off tot:Nat) (ss:List Sh),Ni P g l off tot=some ss→cs.length=tot→(∀f∈l,∃fuel y,DataW.trod enc P w base spare held fuel f.type ((cs.drop f.offset).take (P.cellsOf f.type))=some y∧K0 B P f.type y.1) →
   ∃cz,fJ B ss cz∧bT (nD w) w dA cz (cs.drop off)
 |[],off,tot,ss,h,hl,_=>by
  unfold Ni at h
  split at h
  ·cases h;rename_i e;refine⟨[],by unfold fJ;rfl,?_⟩;rw[List.drop_eq_nil_of_le (by omega)];exact .nil
  ·cases h
 |f :: l,off,tot,ss,h,hl,hf=>by
  unfold Ni at h
  split at h
  ·rename_i e
   split at h
   ·rename_i s r hs hr;cases h;obtain⟨fuel,y,hy,hly⟩:=hf f (bD ..);obtain⟨cz1,h1,h2⟩:=hg _ _ hs _ _ _ hy hly;obtain⟨cz2,h3,h4⟩:=HP hg l _ tot r hr hl (fun f hm=>hf f (aW _ hm));refine⟨cz1++cz2,by unfold fJ;exact⟨cz1,cz2,rfl,h1,h3⟩,?_⟩;rw[e]at h2;have:=h2.app h4;rw[←List.drop_drop,List.take_append_drop]at this;exact this
   ·cases h
  ·cases h
theorem bT.single {x:AV}{u:Value}{pub:cZ}{r:cT}(h:bU pub w r x u):bT pub w r [x] [u]:=.cons h .nil
theorem zT:∀(n:Nat) (t:TypeId) (s:Sh),D5 P n t=some s→∀(fuel:Nat) (cs:List Value) (x:DataW H×List MemPlace),DataW.trod enc P w base spare held fuel t cs=some x→K0 B P t x.1→∃cz,Op B s cz∧bT (nD w) w dA cz cs
 |0,t,s,h=>by cases h
 |n+1,t,s,h=>by
  intro fuel cs x hx hlt;have ih:=zT n;unfold D5 at h
  split at h
  ·rename_i ht;cases h;obtain⟨b,rfl,_⟩:=DataW.trod_bool ht hx;exact⟨[.bl b],by unfold Op;exact⟨b,rfl⟩,.single (.bl b)⟩
  ·rename_i k ht;cases h;obtain⟨b,rfl,_,hw⟩:=DataW.trod_int ht hx;exact⟨[.int k b],by unfold Op;exact⟨b,rfl,hw⟩,.single (.int k b)⟩
  ·rename_i ht;cases h;obtain⟨b,rfl,rfl,hw⟩:=DataW.trod_string ht hx;have hb:b.size≤B:=by
    rcases hlt with h1|⟨h1,h2⟩
    ·omega
    ·have h3:=h2 b.data.toList.length (by dsimp only;unfold DataW.weights;exact bD ..);have h4:b.data.toList.length=b.size:=by rw[bB];rfl
     omega
   exact⟨[.str b],by unfold Op;exact⟨b,rfl,hw,hb⟩,.single (.str b)⟩
  ·rename_i e ht
   split at h
   ·rename_i se hse
    split at h
    ·rename_i hwd;cases h;rcases open_slice ht hx with ⟨rfl,_⟩|⟨a,len,cap,m,n',D,Pl,rfl,_,hl,hm,hmm,rfl,hi⟩
     ·refine⟨[.sl (P.cellsOf e) []],by unfold Op;exact⟨[],rfl,aI _,fun x hx=>by cases hx⟩,.single (.sl (A:=none) (c:=0) (xs:=[]) (aN _) (by unfold maxLen;omega) (fun _=>⟨rfl,rfl⟩) (fun x hx=>by cases hx) (fun _ _=>undef) (fun i x j u hx=>by simp at hx) (fun i x j u hx=>by simp at hx))⟩
     ·have hle:len≤m:=by rw[hmm];split<;>omega
      have each:∀i,i < len→∃cz,Op B se cz∧∃vs:List Value,bT (nD w) w dA cz vs∧∀j v,vs[j]?=some v→w.cell? ((a.add (i * P.cellsOf e)).add j)=some v:=fun i hil=>by
       obtain⟨cs',hc,ht'⟩:=hi i (by omega);have hli:K0 B P e (D i):=by
        rcases hlt with h1|⟨h1,h2⟩
        ·exact .inl h1
        ·refine .inr ⟨h1,fun n hn=>h2 n ?_⟩;unfold DataW.weights;rw[ht];refine aW _ (List.mem_append_left _ (HT (i:=i) (d:=D i) ?_ n hn));rw[aD,List.getElem?_range hil];rfl
       obtain⟨cz,h1,h2⟩:=ih e se hse _ _ _ ht' hli;obtain⟨_,hcl,hat⟩:=World.cells?_some hc;exact⟨cz,h1,cs',h2,fun j v hv=>by rw[hat j (by rw[←hcl];exact(aA.1 hv).1),hv]⟩
      obtain⟨A,hAl,hA⟩:∃A:List (List AV),A.length=len∧∀i (h:i < A.length),Op B se A[i]∧∃vs:List Value,bT (nD w) w dA A[i] vs∧∀j v,vs[j]?=some v→w.cell? ((a.add (i * P.cellsOf e)).add j)=some v:=Ea len (p:=fun i cz=>Op B se cz∧∃vs:List Value,bT (nD w) w dA cz vs∧∀j v,vs[j]?=some v→w.cell? ((a.add (i * P.cellsOf e)).add j)=some v) each;have hcells:∀(cz:List AV),Op B se cz→(dD (P.cellsOf e) cz).cells=cz:=fun cz ho=>AW ((Op.len _ _ ho).trans hwd) (Op.one _ _ ho)
      refine⟨[.sl (P.cellsOf e) (A.map (dD (P.cellsOf e)))],?_,?_⟩
      ·unfold Op;refine⟨_,rfl,by rw[aJ,hAl];omega,fun x hx=>?_⟩;obtain⟨cz,has,rfl⟩:=aX.1 hx;obtain⟨i,hil,rfl⟩:=List.getElem_of_mem has;rw[hcells _ (hA i hil).1];exact⟨rfl,(hA i hil).1⟩
      ·refine .single ?_;rw[←hAl,←aJ (f:=dD (P.cellsOf e))];have get:∀(i:Nat) (x:AV) (j:Nat) (u:AV),(A.map (dD (P.cellsOf e)))[i]?=some x→x.cells[j]?=some u→∃v,w.cell? ((a.add (i * P.cellsOf e)).add j)=some v∧bU (nD w) w dA u v:=fun i x j u hx hu=>by
        rw[aD]at hx;rcases aL i A.length with hil|hil
        ·rw[aB hil]at hx;cases hx;obtain⟨ho,vs,hvs,hc⟩:=hA i hil;rw[hcells _ ho]at hu;obtain⟨v,hv,hr⟩:=hvs.get hu;exact⟨v,hc j v hv,hr⟩
        ·rw[List.getElem?_eq_none hil]at hx;cases hx
       refine .sl (by rw[aJ];omega) (by omega) (fun h=>by cases h) (fun x hx=>?_) (fun i j=>(w.cell? ((a.add (i * P.cellsOf e)).add j)).getD undef) (fun i x j u hx hu=>?_) (fun i x j u hx hu=>?_)
       ·obtain⟨cz,has,rfl⟩:=aX.1 hx;obtain⟨i,hil,rfl⟩:=List.getElem_of_mem has;rw[hcells _ (hA i hil).1];exact⟨(Op.len _ _ (hA i hil).1).trans hwd,Op.one _ _ (hA i hil).1⟩
       ·obtain⟨v,hv,hr⟩:=get i x j u hx hu;rw[hv];exact hr
       ·obtain⟨v,hv,hr⟩:=get i x j u hx hu;have hsp:a.spot=none:=by
         rw[aD]at hx;cases hAi:A[i]? with
         |none=>rw[hAi]at hx;cases hx
         |some cz=>
          rw[hAi]at hx;cases hx;obtain⟨hil,rfl⟩:=aA.1 hAi;have hju:j < A[i].length:=by rw[hcells _ (hA i hil).1]at hu;exact(aA.1 hu).1
          have hli:=Op.len _ _ (hA i hil).1;obtain⟨ho,vs,hvs,hc⟩:=hA 0 (by omega);have hl0:=Op.len _ _ ho;have hv0:0 < vs.length:=by rw[hvs.len];omega
          have:=World.cell?_spot (hc 0 vs[0] (aB hv0));simpa [Addr.add]using this
        obtain⟨b,o,spot⟩:=a;dsimp only at hsp;subst hsp;rw[hv];have e1:((⟨b,o,none⟩:Addr).add (i * P.cellsOf e)).add j=⟨b,o+i * P.cellsOf e+j,none⟩:=by
         rw[rJ,rJ]
        rw[e1]at hv;exact⟨b,o,rfl,IC hv,hv⟩
    ·cases h
   ·cases h
  ·rename_i fs ht;obtain⟨ss,hss,rfl⟩:=map_some h;obtain⟨xs,n',_,hxa,hl,hlen,hf⟩:=DataW.trod_struct ht hx;obtain⟨cz,h1,h2⟩:=HP (cs:=cs) ih fs.toList 0 _ ss hss hl (fun f hm=>by
    obtain⟨j,hj⟩:=aV hm;have hjl:j < xs.length:=by rw[hlen];simpa using(aA.1 hj).1
    refine⟨n',xs[j],by rw[hf j f (by simpa using hj),aB hjl],?_⟩;rcases hlt with h1|⟨h1,h2⟩
    ·exact .inl h1
    ·refine .inr ⟨h1,fun n hn=>h2 n ?_⟩;rw[hxa];unfold DataW.weights;rw[ht];exact kO (i:=j) (t:=f.type) (d:=xs[j].1) (by rw[aD,hj];rfl) (by rw[aD,aB hjl];rfl) n hn)
   exact⟨cz,by unfold Op;exact h1,by simpa using h2⟩
  ·cases h
def Ph:Sh→List AV→AV
 |.st _,cz=>.agg cz
 |_,cz=>cz.headD .any
theorem FA {v:Value}(h:∀cs,v≠.agg cs):v.cells.toList=[v]:=by
 cases v with
 |agg cs=>exact absurd rfl (h cs)
 |_=>rfl
theorem nH {n:Nat}{t:TypeId}{s:Sh}{r:Reach}{b0:Nat}{v:Value}{d:DataW H}{p:List MemPlace}(hs:D5 P n t=some s) (hv:Value.okWide P w r b0 t v) (hd:DataW.Trod enc P w base spare held t v d p) (hlt:K0 B P t d) :
  ∃cz,Op B s cz∧bU (nD w) w dA (Ph s cz) v:=by
 obtain⟨fuel,hf⟩:=hd;obtain⟨cz,h1,h2⟩:=zT (B:=B) n t s hs _ _ _ hf hlt;refine⟨cz,h1,?_⟩;have scal:(∀cs,v≠.agg cs)→∀a,cz=[a]→bU (nD w) w dA a v:=fun hne a ha=>by
  rw[FA hne,ha]at h2;exact h2.at_ 0 a v rfl rfl
 cases n with
 |zero=>cases hs
 |succ n=>
  unfold D5 at hs
  split at hs
  ·rename_i ht;cases hs;unfold Op at h1;obtain⟨b,rfl⟩:=h1;exact scal (fun cs hc=>by subst hc;simp[Value.okWide,ht,Cell.okWide,Cell.ok]at hv) _ rfl
  ·rename_i k ht;cases hs;unfold Op at h1;obtain⟨b,rfl,_⟩:=h1;exact scal (fun cs hc=>by subst hc;simp[Value.okWide,ht,Cell.okWide,Cell.ok]at hv) _ rfl
  ·rename_i ht;cases hs;unfold Op at h1;obtain⟨b,rfl,_⟩:=h1;exact scal (fun cs hc=>by subst hc;simp[Value.okWide,ht,Cell.okWide,Cell.ok]at hv) _ rfl
  ·rename_i e ht
   split at hs
   ·split at hs
    ·cases hs;unfold Op at h1;obtain⟨b,rfl,_⟩:=h1;exact scal (fun cs hc=>by subst hc;simp[Value.okWide,ht,Cell.okWide,Cell.ok]at hv) _ rfl
    ·cases hs
   ·cases hs
  ·rename_i fs ht;obtain⟨ss,hss,rfl⟩:=map_some hs;simp only[Value.okWide,ht]at hv;obtain⟨cs,rfl,_⟩:=hv;exact .agg (by simpa [Value.cells]using h2.len) fun i x u hx hu=>h2.at_ i x u hx (by simpa [Value.cells]using hu)
  ·cases hs
theorem kH {α:Type}{sz:Nat}{e:Sh}{f:α→AV}{q:α→Prop}(h:∀cz,Op B e cz→∃x:α,dD sz cz=f x∧q x) {cs:List AV}(ho:Op B (.sl sz e) cs):∃L:List α,cs=[.sl sz (bI f L)]∧L.length≤maxLen∧∀x∈L,q x:=by
 unfold Op at ho;obtain⟨xs,rfl,hl,hx⟩:=ho;have key:∀xs:List AV,(∀x∈xs,x=dD sz x.cells∧Op B e x.cells)→∃L:List α,xs=bI f L∧∀x∈L,q x:=fun xs=>by
  induction xs with
  |nil=>exact fun _=>⟨[],rfl,fun x hx=>by cases hx⟩
  |cons y ys ih=>
   intro hx;obtain⟨L,rfl,hL⟩:=ih fun x hm=>hx x (aW _ hm)
   obtain⟨e1,e2⟩:=hx y (bD ..);obtain⟨x,hf,hq⟩:=h _ e2;refine⟨x :: L,?_,fun z hz=>?_⟩
   ·show y :: bI f L=f x :: bI f L;rw[e1,hf]
   ·rcases List.mem_cons.1 hz with rfl|hz
    ·exact hq
    ·exact hL z hz
 obtain⟨L,rfl,hL⟩:=key xs hx;exact⟨L,rfl,by rwa [bY]at hl,hL⟩
theorem Lb {n:Int}(h:(Lit.int .i64 n).wf=true):-9223372036854775808≤n∧n≤9223372036854775807:=by
 simp only[Lit.wf,aO,decide_eq_true_eq]at h;have h1:IntKind.i64.min=-9223372036854775808:=rfl;have h2:IntKind.i64.max=9223372036854775807:=rfl;omega
theorem OI {f:Nat}{c:dN}(hf:bJ P f c) {args:List AV}{vals:Array Value}(hv:bT (nD w) w dA args vals.toList) (hc:c args [] fun x _=>x=.bl true) (hg:kU (nD w) w) :
  Calls P f vals w fun e w'=>e=.returned (.bool true)∧Below w.heap.size w w':=by
 refine(hf args [] _ hc w dA (nD w) vals (oY.door w hg) hv).mono fun e w' ⟨v,x,H',r',pub',he,hx,hvx,_,hfr,_⟩=>?_
 subst he;subst hx;cases hvx;exact⟨rfl,hfr.os,hfr.tape,hfr.output,hfr.size,fun j hj=>(hfr.keep j hj (fun⟨_,_,h,_⟩=>by cases h)).1⟩
end
end Go.Proofs.YtigdiekbiphhmaaGreatDoor
namespace Go.Proofs.YtigdiekbiphhmaaGreatDoor
open Go.RowKit
def Cm:Sh:=.st [.str,.str]
def Mr:Sh:=.st [.int .i64,.str,.str,.sl 2 Cm]
def yQ:Sh:=.st [.str,.str,.int .i64,.int .i64,.int .i64,.str,.str,.str,.int .i64,.int .i64,.st [.str,.int .i64],.sl 4 Mr,.sl 1 .str]
def Ce:Sh:=.st [.int .i64,.int .i64,.st [.int .i64,.int .i64,.str],yQ]
def CU:Sh:=.st [.str,.str,.int .i64]
def LN:Sh:=.st [.str,.int .i64]
def MM:Sh:=.st [.str,.int .i64,.sl 2 LN]
def F0:Sh:=.st [.str,.str,.str,.str,.str,.str,.str,.str,.str,.st [.str,.int .i64],.sl 3 MM,.int .i64,.int .i64,.int .i64,.int .i64,.int .i64]
def B1:Sh:=.st [.str,.str,.int .i64]
def xS:Sh:=.st [.sl 3 CU,.sl 17 F0,.sl 3 B1,.st [.sl 1 (.int .i64),.sl 1 (.int .i64)]]
theorem B3:reachBytes≤140737488355328:=by decide
theorem nL {s:bG}(h:s.size≤maxLen∧s.size≤reachBytes):eR s:=Nat.le_trans h.2 B3
theorem HB {B:Nat}{cs:List AV}(h:Op B (.sl 1 (.int .i64)) cs):∃L:List Int,cs=[.sl 1 (bI cY L)]∧L.length≤maxLen∧∀z∈L,Bx z:=
 kH (f:=cY) (q:=Bx) (fun cz h=>by
  unfold Op at h;obtain⟨n,rfl,h1⟩:=h;exact⟨n,rfl,Lb h1⟩) h
theorem Qs (cz:List AV) (h:Op reachBytes Cm cz):∃x:Ml,dD 2 cz=AL x∧True:=by
 unfold Cm Op at h
 (unfold fJ at h;obtain⟨_,_,rfl,h1,h⟩:=h;unfold Op at h1;obtain⟨a0,rfl,w0⟩:=h1)
 (unfold fJ at h;obtain⟨_,_,rfl,h1,h⟩:=h;unfold Op at h1;obtain⟨a1,rfl,w1⟩:=h1)
 (unfold fJ at h;subst h)
 exact⟨⟨a0,a1⟩,rfl,trivial⟩
theorem QQ (cz:List AV) (h:Op reachBytes Mr cz):∃x:HL,dD 4 cz=sJ x∧True:=by
 unfold Mr Op at h
 (unfold fJ at h;obtain⟨_,_,rfl,h1,h⟩:=h;unfold Op at h1;obtain⟨a0,rfl,w0⟩:=h1)
 (unfold fJ at h;obtain⟨_,_,rfl,h1,h⟩:=h;unfold Op at h1;obtain⟨a1,rfl,w1⟩:=h1)
 (unfold fJ at h;obtain⟨_,_,rfl,h1,h⟩:=h;unfold Op at h1;obtain⟨a2,rfl,w2⟩:=h1)
 unfold fJ at h;obtain⟨_,_,rfl,h1,h⟩:=h;obtain⟨L,rfl,hl,hL⟩:=kH Qs h1
 (unfold fJ at h;subst h)
 exact⟨⟨a0,a1,a2,L⟩,rfl,trivial⟩
def Vl:dK→List AV
 |⟨frm,to,number,kind,ack,deal,text,party,index,day,cur,amt,docs,boxes⟩=>[.str frm,.str to,.i number,.i kind,.i ack,.str deal,.str text,.str party,.i index,.i day,.str cur,.i amt,.sl 4 (bI sJ docs),.sl 1 (bI .str boxes)]
def UP (x:dK):Prop:=eR x.frm∧eR x.deal∧eR x.party
theorem RT (cz:List AV) (h:Op reachBytes yQ cz):∃x:dK,cz=Vl x∧UP x:=by
 unfold yQ Op at h
 (unfold fJ at h;obtain⟨_,_,rfl,h1,h⟩:=h;unfold Op at h1;obtain⟨a0,rfl,w0⟩:=h1)
 (unfold fJ at h;obtain⟨_,_,rfl,h1,h⟩:=h;unfold Op at h1;obtain⟨a1,rfl,w1⟩:=h1)
 (unfold fJ at h;obtain⟨_,_,rfl,h1,h⟩:=h;unfold Op at h1;obtain⟨a2,rfl,w2⟩:=h1)
 (unfold fJ at h;obtain⟨_,_,rfl,h1,h⟩:=h;unfold Op at h1;obtain⟨a3,rfl,w3⟩:=h1)
 (unfold fJ at h;obtain⟨_,_,rfl,h1,h⟩:=h;unfold Op at h1;obtain⟨a4,rfl,w4⟩:=h1)
 (unfold fJ at h;obtain⟨_,_,rfl,h1,h⟩:=h;unfold Op at h1;obtain⟨a5,rfl,w5⟩:=h1)
 (unfold fJ at h;obtain⟨_,_,rfl,h1,h⟩:=h;unfold Op at h1;obtain⟨a6,rfl,w6⟩:=h1)
 (unfold fJ at h;obtain⟨_,_,rfl,h1,h⟩:=h;unfold Op at h1;obtain⟨a7,rfl,w7⟩:=h1)
 (unfold fJ at h;obtain⟨_,_,rfl,h1,h⟩:=h;unfold Op at h1;obtain⟨a8,rfl,w8⟩:=h1)
 (unfold fJ at h;obtain⟨_,_,rfl,h1,h⟩:=h;unfold Op at h1;obtain⟨a9,rfl,w9⟩:=h1)
 unfold fJ at h;obtain⟨_,_,rfl,hm,h'⟩:=h;have h:=hm;unfold Op at h
 (unfold fJ at h;obtain⟨_,_,rfl,h1,h⟩:=h;unfold Op at h1;obtain⟨b0,rfl,v0⟩:=h1)
 (unfold fJ at h;obtain⟨_,_,rfl,h1,h⟩:=h;unfold Op at h1;obtain⟨b1,rfl,v1⟩:=h1)
 (unfold fJ at h;subst h)
 have h:=h';unfold fJ at h;obtain⟨_,_,rfl,h1,h⟩:=h;obtain⟨L,rfl,hl,hL⟩:=kH QQ h1;unfold fJ at h;obtain⟨_,_,rfl,h1,h⟩:=h;obtain⟨B,rfl,hb,hB⟩:=kH (f:=AV.str) (q:=fun _=>True) (fun cz h=>by unfold Op at h;obtain⟨s,rfl,h1,_⟩:=h;exact⟨s,rfl,trivial⟩) h1
 (unfold fJ at h;subst h)
 exact⟨⟨a0,a1,a2,a3,a4,a5,a6,a7,a8,a9,b0,b1,L,B⟩,rfl,nL w0,nL w5,nL w7⟩
def QP (c:fX):Prop:=(eR c.a.deal∧eR c.l.frm∧eR c.l.deal∧eR c.l.party)∧Bx c.day
theorem OL (cz:List AV) (h:Op reachBytes Ce cz):∃x:fX,dD 19 cz=nJ x∧QP x:=by
 unfold Ce Op at h
 (unfold fJ at h;obtain⟨_,_,rfl,h1,h⟩:=h;unfold Op at h1;obtain⟨a0,rfl,w0⟩:=h1)
 (unfold fJ at h;obtain⟨_,_,rfl,h1,h⟩:=h;unfold Op at h1;obtain⟨a1,rfl,w1⟩:=h1)
 unfold fJ at h;obtain⟨_,_,rfl,hm,h'⟩:=h;have h:=hm;unfold Op at h
 (unfold fJ at h;obtain⟨_,_,rfl,h1,h⟩:=h;unfold Op at h1;obtain⟨b0,rfl,v0⟩:=h1)
 (unfold fJ at h;obtain⟨_,_,rfl,h1,h⟩:=h;unfold Op at h1;obtain⟨b1,rfl,v1⟩:=h1)
 (unfold fJ at h;obtain⟨_,_,rfl,h1,h⟩:=h;unfold Op at h1;obtain⟨b2,rfl,v2⟩:=h1)
 (unfold fJ at h;subst h)
 have h:=h';unfold fJ at h;obtain⟨_,_,rfl,h1,h⟩:=h;obtain⟨x,rfl,g1,g2,g3⟩:=RT _ h1
 (unfold fJ at h;subst h)
 obtain⟨frm,to,number,kind,ack,deal,text,party,index,day,cur,amt,docs,boxes⟩:=x;exact⟨⟨a0,a1,⟨b0,b1,b2⟩,⟨frm,to,number,kind,ack,deal,text,party,index,day,cur,amt,docs,boxes⟩⟩,rfl,⟨⟨nL v2,g1,g2,g3⟩,Lb w1⟩⟩
theorem M3 {cs:List AV}(h:Op reachBytes (.sl 19 Ce) cs):∃L:List fX,cs=[.sl 19 (bI nJ L)]∧L.length≤maxLen∧∀a∈L,QP a:=kH OL h
theorem Rt (cz:List AV) (h:Op reachBytes CU cz):∃x:Fc,dD 3 cz=jQ x∧eR x.name:=by
 unfold CU Op at h
 (unfold fJ at h;obtain⟨_,_,rfl,h1,h⟩:=h;unfold Op at h1;obtain⟨a0,rfl,w0⟩:=h1)
 (unfold fJ at h;obtain⟨_,_,rfl,h1,h⟩:=h;unfold Op at h1;obtain⟨a1,rfl,w1⟩:=h1)
 (unfold fJ at h;obtain⟨_,_,rfl,h1,h⟩:=h;unfold Op at h1;obtain⟨a2,rfl,w2⟩:=h1)
 (unfold fJ at h;subst h)
 exact⟨⟨a0,a1,a2⟩,rfl,nL w0⟩
theorem PI (cz:List AV) (h:Op reachBytes B1 cz):∃x:T0,dD 3 cz=jT x∧True:=by
 unfold B1 Op at h
 (unfold fJ at h;obtain⟨_,_,rfl,h1,h⟩:=h;unfold Op at h1;obtain⟨a0,rfl,w0⟩:=h1)
 (unfold fJ at h;obtain⟨_,_,rfl,h1,h⟩:=h;unfold Op at h1;obtain⟨a1,rfl,w1⟩:=h1)
 (unfold fJ at h;obtain⟨_,_,rfl,h1,h⟩:=h;unfold Op at h1;obtain⟨a2,rfl,w2⟩:=h1)
 (unfold fJ at h;subst h)
 exact⟨⟨a0,a1,a2⟩,rfl,trivial⟩
theorem QE (cz:List AV) (h:Op reachBytes LN cz):∃x:Wi,dD 2 cz=To x∧True:=by
 unfold LN Op at h
 (unfold fJ at h;obtain⟨_,_,rfl,h1,h⟩:=h;unfold Op at h1;obtain⟨a0,rfl,w0⟩:=h1)
 (unfold fJ at h;obtain⟨_,_,rfl,h1,h⟩:=h;unfold Op at h1;obtain⟨a1,rfl,w1⟩:=h1)
 (unfold fJ at h;subst h)
 exact⟨⟨a0,a1⟩,rfl,trivial⟩
theorem Q4 (cz:List AV) (h:Op reachBytes MM cz):∃x:Dx,dD 3 cz=EW x∧eR x.mark:=by
 unfold MM Op at h
 (unfold fJ at h;obtain⟨_,_,rfl,h1,h⟩:=h;unfold Op at h1;obtain⟨a0,rfl,w0⟩:=h1)
 (unfold fJ at h;obtain⟨_,_,rfl,h1,h⟩:=h;unfold Op at h1;obtain⟨a1,rfl,w1⟩:=h1)
 unfold fJ at h;obtain⟨_,_,rfl,h1,h⟩:=h;obtain⟨L,rfl,hl,hL⟩:=kH QE h1
 (unfold fJ at h;subst h)
 exact⟨⟨a0,a1,L⟩,rfl,nL w0⟩
def Vv (d:iW):Prop:=d.boxes.length≤maxLen∧(∀b∈d.boxes,eR b.mark)∧eR d.number∧eR d.seller∧eR d.buyer∧eR d.carrier∧eR d.house∧eR d.frm∧eR d.to
theorem PM (cz:List AV) (h:Op reachBytes F0 cz):∃x:iW,dD 17 cz=iJ x∧Vv x:=by
 unfold F0 Op at h
 (unfold fJ at h;obtain⟨_,_,rfl,h1,h⟩:=h;unfold Op at h1;obtain⟨a0,rfl,w0⟩:=h1)
 (unfold fJ at h;obtain⟨_,_,rfl,h1,h⟩:=h;unfold Op at h1;obtain⟨a1,rfl,w1⟩:=h1)
 (unfold fJ at h;obtain⟨_,_,rfl,h1,h⟩:=h;unfold Op at h1;obtain⟨a2,rfl,w2⟩:=h1)
 (unfold fJ at h;obtain⟨_,_,rfl,h1,h⟩:=h;unfold Op at h1;obtain⟨a3,rfl,w3⟩:=h1)
 (unfold fJ at h;obtain⟨_,_,rfl,h1,h⟩:=h;unfold Op at h1;obtain⟨a4,rfl,w4⟩:=h1)
 (unfold fJ at h;obtain⟨_,_,rfl,h1,h⟩:=h;unfold Op at h1;obtain⟨a5,rfl,w5⟩:=h1)
 (unfold fJ at h;obtain⟨_,_,rfl,h1,h⟩:=h;unfold Op at h1;obtain⟨a6,rfl,w6⟩:=h1)
 (unfold fJ at h;obtain⟨_,_,rfl,h1,h⟩:=h;unfold Op at h1;obtain⟨a7,rfl,w7⟩:=h1)
 (unfold fJ at h;obtain⟨_,_,rfl,h1,h⟩:=h;unfold Op at h1;obtain⟨a8,rfl,w8⟩:=h1)
 unfold fJ at h;obtain⟨_,_,rfl,hm,h'⟩:=h;have h:=hm;unfold Op at h
 (unfold fJ at h;obtain⟨_,_,rfl,h1,h⟩:=h;unfold Op at h1;obtain⟨b0,rfl,v0⟩:=h1)
 (unfold fJ at h;obtain⟨_,_,rfl,h1,h⟩:=h;unfold Op at h1;obtain⟨b1,rfl,v1⟩:=h1)
 (unfold fJ at h;subst h)
 have h:=h';unfold fJ at h;obtain⟨_,_,rfl,h1,h⟩:=h;obtain⟨L,rfl,hl,hL⟩:=kH Q4 h1
 (unfold fJ at h;obtain⟨_,_,rfl,h1,h⟩:=h;unfold Op at h1;obtain⟨c0,rfl,u0⟩:=h1)
 (unfold fJ at h;obtain⟨_,_,rfl,h1,h⟩:=h;unfold Op at h1;obtain⟨c1,rfl,u1⟩:=h1)
 (unfold fJ at h;obtain⟨_,_,rfl,h1,h⟩:=h;unfold Op at h1;obtain⟨c2,rfl,u2⟩:=h1)
 (unfold fJ at h;obtain⟨_,_,rfl,h1,h⟩:=h;unfold Op at h1;obtain⟨c3,rfl,u3⟩:=h1)
 (unfold fJ at h;obtain⟨_,_,rfl,h1,h⟩:=h;unfold Op at h1;obtain⟨c4,rfl,u4⟩:=h1)
 (unfold fJ at h;subst h)
 exact⟨⟨a0,a1,a2,a3,a4,a5,a6,a7,a8,b0,b1,L,c0,c1,c2,c3,c4⟩,rfl,⟨hl,hL,nL w0,nL w1,nL w2,nL w3,nL w5,nL w7,nL w8⟩⟩
def WB:gW→List AV
 |⟨parties,deals,funds,rest,holidays⟩=>[.sl 3 (bI jQ parties),.sl 17 (bI iJ deals),.sl 3 (bI jT funds),.sl 1 (bI cY rest),.sl 1 (bI cY holidays)]
theorem Tp (s:gW):.agg (WB s)=HM s:=by obtain⟨parties,deals,funds,rest,holidays⟩:=s;rfl
theorem Lt (cz:List AV) (h:Op reachBytes xS cz):∃s:gW,cz=WB s∧Rq s:=by
 unfold xS Op at h;unfold fJ at h;obtain⟨_,_,rfl,h1,h⟩:=h;obtain⟨P,rfl,hp,hP⟩:=kH Rt h1;unfold fJ at h;obtain⟨_,_,rfl,h1,h⟩:=h;obtain⟨D,rfl,hd,hD⟩:=kH PM h1;unfold fJ at h;obtain⟨_,_,rfl,h1,h⟩:=h;obtain⟨F,rfl,hf,hF⟩:=kH PI h1;unfold fJ at h;obtain⟨_,_,rfl,hm,h⟩:=h
 (unfold fJ at h;subst h)
 have h:=hm;unfold Op at h;unfold fJ at h;obtain⟨_,_,rfl,h1,h⟩:=h;obtain⟨R,rfl,hr,hR⟩:=HB h1;unfold fJ at h;obtain⟨_,_,rfl,h1,h⟩:=h;obtain⟨G,rfl,hg,hG⟩:=HB h1
 (unfold fJ at h;subst h)
 exact⟨⟨P,D,F,R,G⟩,rfl,⟨hp,hd,hP,hD⟩⟩
section
open Go.ChangeShapes Go.WideShapes Go.Deep
end
theorem Pe {s:gW}{name:bG}{l:List fX}(h0:Rq s) (h1:name.size≤reachBytes) (h2:l.length≤maxLen) (h3:∀a∈l,QP a):W3 ⟨s,name,l⟩:=⟨⟨h0,Nat.le_trans h1 B3,⟨h2,fun c hc=>(h3 c hc).1⟩⟩,fun o ho=>(h3 o ho).2⟩
theorem LF:D5 Tryz.prog 9 29=some xS:=by kernel_rfl
theorem Nb:D5 Tryz.prog 9 30=some (.sl 19 Ce):=by kernel_rfl
end Go.Proofs.YtigdiekbiphhmaaGreatDoor
namespace Go.Proofs.YtigdiekbiphhmaaGreatDoor
open Go
theorem dW {a b:Bool}(ha:a=true) (hb:b=true):(a && b)=true:=by rw[ha,hb];rfl
theorem PS {P:bH}{f:FuncId}{fn:Func}{s:ChangeSpec}{c:OpenClaim}(h0:(c.wf (OpenSpec.ofChange s))=true) (h1:(laidOutB P)=true) (h2:(mapsRowed P)=true) (h3:(fn.params.all (P.readableRec ·))=true) (h4:(namedTie P c.named s.vars)=true) (h5:((c.stops == []))=true) (h6:((P.stops == []))=true) (h7:((c.knobs == []))=true) (h8:((P.stopKnobs == []))=true) (h9:((c.inPlace == P.inPlace f))=true) (h10:((c.unfollowed == P.unfollowed f))=true) (h11:((c.recurses == P.recurses f))=true) (h12:((c.named == P.varsNamed f))=true) (h13:((c.maps == (fn.params.toList++s.plain.varTypes P).any (P.mapsRec ·)))=true) (h14:((c.ifaces == (fn.params.toList++s.plain.varTypes P).any (P.ifacesRec ·)))=true) (h15:((c.mapsOut == P.mapsAmong fn.resultTypes.toList))=true) (h16:((c.loops == (fn.params.toList++s.plain.varTypes P).any (P.loopsFrom ·)))=true) (h17:((c.wideKeys == (fn.params.toList++s.plain.varTypes P++fn.resultTypes.toList).any (P.wideKeysFrom ·)))=true) (h18:(s.vars.all (P.varReadable ·))=true) (h19:(fn.resultTypes.all (fun t=>P.readableRec t && decide (t < P.types.size)))=true) (h20:((c.ifacesOut == fn.resultTypes.toList.any (P.ifacesRec ·)))=true) (h21:((c.loopsOut == fn.resultTypes.toList.any (P.loopsFrom ·)))=true) (h22:((c.plainKeys == P.plainKeys))=true) (h23:(c.shortTexts.isNone)=true) (h24:(P.stopsHeard)=true) (h25:(P.mayEnter)=true) (h26:((c.lifted == P.liftsFinal))=true) (h27:((P.make == some c.make))=true) (h28:((c.kinds == (if c.domain.isEmpty then [] else fn.params.toList.map fun t=>match P.underlying t with|some (.int k)=>some k|_=>none)))=true) (h29:((c.pinned == c.pinnedBy))=true) (h30:((c.veiled == (fn.params.toList++s.plain.varTypes P++fn.resultTypes.toList).any (P.veiledRec ·)))=true) (h31:(c.veiledFits P fn.params.toList (fn.params.toList++s.plain.varTypes P++fn.resultTypes.toList))=true):joinedFacts P f fn s c=true:=(dW (dW (dW (dW (dW (dW (dW (dW (dW (dW (dW (dW (dW (dW (dW (dW (dW (dW (dW (dW (dW (dW (dW (dW (dW (dW (dW (dW (dW (dW (dW h0 h1) h2) h3) h4) h5) h6) h7) h8) h9) h10) h11) h12) h13) h14) h15) h16) h17) h18) h19) h20) h21) h22) h23) h24) h25) h26) h27) h28) h29) h30) h31)
theorem N5:laidOutB Tryz.pinned.checked.prog=true:=by kernel_rfl
theorem KV:mapsRowed Tryz.pinned.checked.prog=true:=by kernel_rfl
theorem Mc:Tryz.pinned.checked.prog.stopsHeard=true:=by kernel_rfl
theorem MH:Tryz.pinned.checked.prog.mayEnter=true:=by kernel_rfl
end Go.Proofs.YtigdiekbiphhmaaGreatDoor
end
