/-
  Texts of this proof,joined: EK,EL,EM,EN,EO,EP,EQ,ER,ES,FB,FD,FE,Lst,Src,VS,FG,IA,Y,IG,IH.
-/
import Derived.Test.YtooioahiijbomaaGreatDoorA4
import Derived.Lib.ItoaLen
import Derived.Shelf.GgClosure.StringsRunes
set_option linter.unusedVariables false
set_option linter.unusedSimpArgs false
noncomputable section
namespace Go.Proofs.YtooioahiijbomaaGreatDoor
open Go.RowKit
set_option maxHeartbeats 8000000
set_option maxRecDepth 100000
def yY:cQ:=spec (fun i:gL×Nd=>[jW i.2,.clo 94 [.ptr 5 0,.ptr 6 0,.ptr 7 0]]) (fun i=>QB i.1.x i.1.at_ i.1.d.kind) (fun i=>QF i.1 i.2) (fun _=>.tup []) fun i=>QB (oA i.1.x (jA i.1 i.2 i.1.x.F)) i.1.at_ i.1.d.kind
theorem Bp (P:bG) (m1:cL P 94) (hr:bH P 94 Jq):bL P Uu yY:=by
 intro args H K hc;obtain⟨⟨⟨⟨⟨number,applicant,beneficiary,issuer,confirmer,frm,to,cur,amt,above,below,latest,expiry,within,tenor,partial_,change,needs⟩,docs,day,F⟩,at_,⟨dk,dn,ds,dl⟩⟩,⟨kind,field,text,num⟩⟩,rfl,rfl,hp,hK⟩:=hc;refine⟨cW,?_⟩;dsimp only at hp hK⊢;obtain⟨hn,hd,hl,hv,hF⟩:=hp
 try dsimp only at hn hd hl hv hF
 have hn2:=hn;unfold dG at hn;dsimp only at hn;have h0:kind≠0:=by omega
 obtain⟨F2,hF2⟩:∃F2,F2=jA ⟨⟨⟨number,applicant,beneficiary,issuer,confirmer,frm,to,cur,amt,above,below,latest,expiry,within,tenor,partial_,change,needs⟩,docs,day,F⟩,at_,⟨dk,dn,ds,dl⟩⟩ ⟨kind,field,text,num⟩ F:=⟨_,rfl⟩
 unfold oA at hK;dsimp only at hK;rw[←hF2]at hK;cbv;repeat'((first|refine .n fun h=>?_|refine And.intro ?_ ?_|fail)<;>cbv)
 ·exact m1
 refine cU hr ((⟨⟨⟨number,applicant,beneficiary,issuer,confirmer,frm,to,cur,amt,above,below,latest,expiry,within,tenor,partial_,change,needs⟩,docs,day,F⟩,at_,⟨dk,dn,ds,dl⟩⟩,⟨kind,field,text,num⟩):gL×Nd) [0,1,2,3,4,5,6,7] ⟨hn2,hd,hl,hv,hF⟩ rfl rfl (by decide) rfl rfl rfl rfl rfl ?_;unfold oA
 try dsimp only
 rw[←hF2];cbv
 (refine .q9 ?_;cbv;exact .inl (.f9 hK))
def vW (l:List Nd):AV:=.agg [.i 0,.i 0,.str ⟨#[]⟩,.str ⟨#[]⟩,.i 0,.sl 6 (bK jW l)]
structure RQ (i:gL) (l:List Nd):Prop where
 n:∀n∈l,dG n
 d:i.x.docs[i.at_]?=some i.d
 fl:i.d.fields.length≤1048576
 v:∀n,(HA i.d.fields n).size≤281474976710656
 m:l.length≤1000
 F:i.x.F.length≤970000
def eX (i:gL):List Nd→List Fa→List Fa
 |[],F=>F
 |n :: l,F=>eX i l (jA i n F)
theorem vK (i:gL):∀(l1 l2:List Nd) (F:List Fa),eX i (l1++l2) F=eX i l2 (eX i l1 F)
 |[],_,_=>rfl
 |n :: l1,l2,F=>by rw[List.cons_append];exact vK i l1 l2 (jA i n F)
theorem oD (i:gL):∀(l:List Nd) (F:List Fa),(eX i l F).length≤F.length+l.length
 |[],F=>by unfold eX;exact aN _
 |n :: l,F=>by
  unfold eX;have h1:=oD i l (jA i n F);have h2:=fW F i.at_ i.d.kind n.field (cD i.d.fields n);rw[List.length_cons];unfold jA at h1⊢;omega
def Aa:cQ:=spec (fun i:gL×List Nd=>[vW i.2,.clo 94 [.ptr 5 0,.ptr 6 0,.ptr 7 0]]) (fun i=>QB i.1.x i.1.at_ i.1.d.kind) (fun i=>RQ i.1 i.2) (fun _=>.tup []) fun i=>QB (oA i.1.x (eX i.1 i.2 i.1.x.F)) i.1.at_ i.1.d.kind
theorem CB (P:bG) (ha:bH P 93 yY):bL P Uu Aa:=by
 intro args H K hc;obtain⟨⟨⟨⟨⟨number,applicant,beneficiary,issuer,confirmer,frm,to,cur,amt,above,below,latest,expiry,within,tenor,partial_,change,needs⟩,docs,day,F⟩,at_,⟨dk,dn,ds,dl⟩⟩,l⟩,rfl,rfl,hp,hK⟩:=hc;refine⟨cW,?_⟩;dsimp only at hp hK⊢;obtain⟨hn,hd,hl,hv,hm,hF⟩:=hp
 try dsimp only at hn hd hl hv hm hF
 unfold oA at hK;dsimp only at hK;obtain⟨n,hnl⟩:∃n,n=l.length:=⟨_,rfl⟩
 cbv;repeat'((first|refine .y fun h=>?_|refine .k fun z hz=>?_|fail)<;>cbv)
 refine bZ [0,1,2,3,4,5,6,7,8] (fun p:{ k:Nat // k≤l.length }=>[(1,.clo 94 [.ptr 5 0,.ptr 6 0,.ptr 7 0]),(15,.i (nI p.1))]) (fun p=>[.blk 95 [.str number,.str applicant,.str beneficiary,.str issuer,.str confirmer,.str frm,.str to,.str cur,.i amt,.i above,.i below,.i latest,.i expiry,.i within,.i tenor,.bl partial_,.bl change,.sl 8 (bK iQ needs),.sl 4 (bK eP docs),.i day,.clo 33 [.ptr 3 0,.ptr 1 0]],.blk 38 [.hd 4],.map 91 (bK nZ (eX ⟨⟨⟨number,applicant,beneficiary,issuer,confirmer,frm,to,cur,amt,above,below,latest,expiry,within,tenor,partial_,change,needs⟩,docs,day,F⟩,at_,⟨dk,dn,ds,dl⟩⟩ (l.take p.1) F)),.blk 91 [.hd 2],.row 44 4 (bK mD (eX ⟨⟨⟨number,applicant,beneficiary,issuer,confirmer,frm,to,cur,amt,above,below,latest,expiry,within,tenor,partial_,change,needs⟩,docs,day,F⟩,at_,⟨dk,dn,ds,dl⟩⟩ (l.take p.1) F)),.blk 92 [.ptr 0 0],.blk 3 [.i (nI at_)],.blk 3 [.i dk],.blk 100 [.i 0,.i 0,.str ⟨#[]⟩,.str ⟨#[]⟩,.i 0,.sl 6 (bK jW l)]]) (fun p=>iH n p.1) ⟨0,aI _⟩ ?_;rintro ⟨k,hk⟩
 try dsimp only at hk⊢
 have hFl:=oD ⟨⟨⟨number,applicant,beneficiary,issuer,confirmer,frm,to,cur,amt,above,below,latest,expiry,within,tenor,partial_,change,needs⟩,docs,day,F⟩,at_,⟨dk,dn,ds,dl⟩⟩ (l.take k) F;rw[aR]at hFl;obtain⟨Fk,hFk⟩:∃Fk,Fk=eX ⟨⟨⟨number,applicant,beneficiary,issuer,confirmer,frm,to,cur,amt,above,below,latest,expiry,within,tenor,partial_,change,needs⟩,docs,day,F⟩,at_,⟨dk,dn,ds,dl⟩⟩ (l.take k) F:=⟨_,rfl⟩
 rw[←hFk]at hFl⊢;have hmz:=bN jW l;cbv;repeat'((first|refine .mk (fun h=>?_) fun h=>?_|fail)<;>cbv)
 ·refine cZ bR bR fun j s hj hx=>?_
  obtain rfl:k=j:=bR;have htk:=cE hx;have hpl:=hn s (aC hx);have hnx:eX ⟨⟨⟨number,applicant,beneficiary,issuer,confirmer,frm,to,cur,amt,above,below,latest,expiry,within,tenor,partial_,change,needs⟩,docs,day,F⟩,at_,⟨dk,dn,ds,dl⟩⟩ (l.take (k+1)) F=jA ⟨⟨⟨number,applicant,beneficiary,issuer,confirmer,frm,to,cur,amt,above,below,latest,expiry,within,tenor,partial_,change,needs⟩,docs,day,F⟩,at_,⟨dk,dn,ds,dl⟩⟩ s Fk:=by rw[htk,vK,hFk];rfl
  obtain⟨kind,field,text,num⟩:=s;obtain⟨F3,hF3⟩:∃F3,F3=jA ⟨⟨⟨number,applicant,beneficiary,issuer,confirmer,frm,to,cur,amt,above,below,latest,expiry,within,tenor,partial_,change,needs⟩,docs,day,F⟩,at_,⟨dk,dn,ds,dl⟩⟩ ⟨kind,field,text,num⟩ Fk:=⟨_,rfl⟩
  rw[←hF3]at hnx;cbv;refine cU ha ((⟨⟨⟨number,applicant,beneficiary,issuer,confirmer,frm,to,cur,amt,above,below,latest,expiry,within,tenor,partial_,change,needs⟩,docs,day,Fk⟩,at_,⟨dk,dn,ds,dl⟩⟩,⟨kind,field,text,num⟩):gL×Nd) [0,1,2,3,4,5,6,7] ⟨hpl,hd,hl,hv,by(try dsimp only);omega⟩ rfl rfl (by decide) rfl rfl rfl rfl rfl ?_;unfold oA
  try dsimp only
  rw[show jA ⟨⟨⟨number,applicant,beneficiary,issuer,confirmer,frm,to,cur,amt,above,below,latest,expiry,within,tenor,partial_,change,needs⟩,docs,day,Fk⟩,at_,⟨dk,dn,ds,dl⟩⟩ ⟨kind,field,text,num⟩ Fk=jA ⟨⟨⟨number,applicant,beneficiary,issuer,confirmer,frm,to,cur,amt,above,below,latest,expiry,within,tenor,partial_,change,needs⟩,docs,day,F⟩,at_,⟨dk,dn,ds,dl⟩⟩ ⟨kind,field,text,num⟩ Fk from rfl,←hF3];cbv;repeat'((first|refine .k fun z hz=>?_|fail)<;>cbv)
  obtain rfl:z=nI (k+1):=bR;clear hF3;subst hnx;exact bP ⟨k+1,by exact bR⟩ (bQ bR)
 ·obtain rfl:k=l.length:=bR;rw[List.take_length]at hFk;rw[←hFk]at hK
  (refine .q9 ?_;cbv;exact .inl (.f9 hK))
def gR (i:gL) (F:List Fa):List Fa:=if i.d.kind=0 then Du i (C0 i (Ek i (Dh i F))) else if i.d.kind=2 then Hq i F else F
def gO (i:gL) (n:Ne) (F:List Fa):List Fa:=if n.kind=i.d.kind then eX i n.rules F else F
def dQ (i:gL):List Ne→List Fa→List Fa
 |[],F=>F
 |n :: l,F=>dQ i l (gO i n F)
theorem lS (i:gL):∀(l1 l2:List Ne) (F:List Fa),dQ i (l1++l2) F=dQ i l2 (dQ i l1 F)
 |[],_,_=>rfl
 |n :: l1,l2,F=>by rw[List.cons_append];exact lS i l1 l2 (gO i n F)
structure oI (n:Ne):Prop where
 p:∀r∈n.rules,dG r
 l:n.rules.length≤64
theorem Ib (i:gL) (n:Ne) (h:oI n) (F:List Fa):(gO i n F).length≤F.length+64:=by
 unfold gO
 split
 ·have h1:=oD i n.rules F;have h2:=h.l;omega
 ·omega
theorem jQ (i:gL):∀(l:List Ne) (_:∀n∈l,oI n) (F:List Fa),(dQ i l F).length≤F.length+64 * l.length
 |[],_,F=>by unfold dQ;simp
 |n :: l,h,F=>by
  have h1:=jQ i l (fun m hm=>h m (aV _ hm)) (gO i n F);have h2:=Ib i n (h n bC) F;unfold dQ;rw[List.length_cons];omega
theorem qL (i:gL) (F:List Fa):(gR i F).length≤F.length+4:=by
 unfold gR
 split
 ·unfold Dh Ek C0 Du;have h1:=fW F i.at_ i.d.kind bU (eT i.d.fields bU (pQ i.x.c.beneficiary));obtain⟨F1,hF1⟩:∃F1,F1=HN F i.at_ i.d.kind bU (eT i.d.fields bU (pQ i.x.c.beneficiary)):=⟨_,rfl⟩
  rw[←hF1]at h1⊢;have h2:=fW F1 i.at_ i.d.kind dH (eT i.d.fields dH (pQ i.x.c.applicant));obtain⟨F2,hF2⟩:∃F2,F2=HN F1 i.at_ i.d.kind dH (eT i.d.fields dH (pQ i.x.c.applicant)):=⟨_,rfl⟩
  rw[←hF2]at h2⊢;have h3:=fW F2 i.at_ i.d.kind eE (eT i.d.fields eE (pQ i.x.c.cur));obtain⟨F3,hF3⟩:∃F3,F3=HN F2 i.at_ i.d.kind eE (eT i.d.fields eE (pQ i.x.c.cur)):=⟨_,rfl⟩
  rw[←hF3]at h3⊢;have h4:=fW F3 i.at_ i.d.kind eW (eT i.d.fields eW (mF i.x));omega
 ·split
  ·unfold Hq;have h1:=fW F i.at_ i.d.kind dU (eT i.d.fields dU (nV i.x));omega
  ·omega
def fK (i:gL) (F:List Fa):List Fa:=dQ i i.x.c.needs (gR i F)
theorem jO (i j:gL) (h1:i.at_=j.at_) (h2:i.d=j.d):∀(l:List Nd) (F:List Fa),eX i l F=eX j l F
 |[],_=>rfl
 |n :: l,F=>by
  have e:jA i n F=jA j n F:=by unfold jA;rw[h1,h2]
  unfold eX;rw[e];exact jO i j h1 h2 l _
structure Ts (i:gL):Prop where
 o:NC i
 n:∀n∈i.x.c.needs,oI n
 m:i.x.c.needs.length≤64
def CX:cQ:=spec (fun i:gL=>[.ptr 0 0,.i (nI i.at_)]) (fun i=>Ew i.x) Ts (fun _=>.tup []) fun i=>Ew (oA i.x (fK i i.x.F))
theorem Er (P:bG) (hi:bH P 91 qI) (hl:bH P 92 yA) (hp1:bH P 93 Aa):bL P Vc CX:=by
 intro args H K hc;obtain⟨⟨⟨⟨number,applicant,beneficiary,issuer,confirmer,frm,to,cur,amt,above,below,latest,expiry,within,tenor,partial_,change,needs⟩,docs,day,F⟩,at_,⟨dk,dn,ds,dl⟩⟩,rfl,rfl,hp,hK⟩:=hc;refine⟨cW,?_⟩;dsimp only at hp hK⊢;obtain⟨ho,hn,hm⟩:=hp;have ho2:=ho;obtain⟨hd,hfl,hv,hF,hc,hdy⟩:=ho
 try dsimp only at hd hfl hv hF hc hdy hn hm
 have hat:at_ < docs.length:=(aA.1 hd).1;unfold fK oA at hK;dsimp only at hK;obtain⟨n,hnl⟩:∃n,n=needs.length:=⟨_,rfl⟩
 have hmz:=bN iQ needs;cbv;repeat'((first|refine .e ?_|refine .mk (fun h=>?_) fun h=>?_|refine .k fun z hz=>?_|fail)<;>cbv)
 ·subst h;obtain⟨Fb,hFb⟩:∃Fb,Fb=Du ⟨⟨⟨number,applicant,beneficiary,issuer,confirmer,frm,to,cur,amt,above,below,latest,expiry,within,tenor,partial_,change,needs⟩,docs,day,F⟩,at_,⟨0,dn,ds,dl⟩⟩ (C0 ⟨⟨⟨number,applicant,beneficiary,issuer,confirmer,frm,to,cur,amt,above,below,latest,expiry,within,tenor,partial_,change,needs⟩,docs,day,F⟩,at_,⟨0,dn,ds,dl⟩⟩ (Ek ⟨⟨⟨number,applicant,beneficiary,issuer,confirmer,frm,to,cur,amt,above,below,latest,expiry,within,tenor,partial_,change,needs⟩,docs,day,F⟩,at_,⟨0,dn,ds,dl⟩⟩ (Dh ⟨⟨⟨number,applicant,beneficiary,issuer,confirmer,frm,to,cur,amt,above,below,latest,expiry,within,tenor,partial_,change,needs⟩,docs,day,F⟩,at_,⟨0,dn,ds,dl⟩⟩ F))):=⟨_,rfl⟩
  have hbb:gR ⟨⟨⟨number,applicant,beneficiary,issuer,confirmer,frm,to,cur,amt,above,below,latest,expiry,within,tenor,partial_,change,needs⟩,docs,day,F⟩,at_,⟨0,dn,ds,dl⟩⟩ F=Fb:=by rw[hFb];exact aF rfl
  have hbl:=qL ⟨⟨⟨number,applicant,beneficiary,issuer,confirmer,frm,to,cur,amt,above,below,latest,expiry,within,tenor,partial_,change,needs⟩,docs,day,F⟩,at_,⟨0,dn,ds,dl⟩⟩ F;rw[hbb]at hK hbl;refine cU hi (⟨⟨⟨number,applicant,beneficiary,issuer,confirmer,frm,to,cur,amt,above,below,latest,expiry,within,tenor,partial_,change,needs⟩,docs,day,F⟩,at_,⟨0,dn,ds,dl⟩⟩:gL) [0,1,2,3,4] ho2 rfl rfl (by decide) rfl rfl rfl rfl rfl ?_;unfold oA
  try dsimp only
  rw[←hFb];cbv;repeat'((first|refine .e ?_|refine .k fun z hz=>?_|fail)<;>cbv)
  refine bZ [2,4] (fun p:{ k:Nat // k≤needs.length }=>[(39,.i (nI p.1))]) (fun p=>[.blk 95 [.str number,.str applicant,.str beneficiary,.str issuer,.str confirmer,.str frm,.str to,.str cur,.i amt,.i above,.i below,.i latest,.i expiry,.i within,.i tenor,.bl partial_,.bl change,.sl 8 (bK iQ needs),.sl 4 (bK eP docs),.i day,.clo 33 [.ptr 3 0,.ptr 1 0]],.blk 38 [.hd 4],.map 91 (bK nZ (dQ ⟨⟨⟨number,applicant,beneficiary,issuer,confirmer,frm,to,cur,amt,above,below,latest,expiry,within,tenor,partial_,change,needs⟩,docs,day,F⟩,at_,⟨0,dn,ds,dl⟩⟩ (needs.take p.1) Fb)),.blk 91 [.hd 2],.row 44 4 (bK mD (dQ ⟨⟨⟨number,applicant,beneficiary,issuer,confirmer,frm,to,cur,amt,above,below,latest,expiry,within,tenor,partial_,change,needs⟩,docs,day,F⟩,at_,⟨0,dn,ds,dl⟩⟩ (needs.take p.1) Fb)),.blk 92 [.ptr 0 0],.blk 3 [.i (nI at_)],.blk 3 [.i 0]]) (fun p=>iH n p.1) ⟨0,aI _⟩ ?_;rintro ⟨k,hk⟩
  try dsimp only at hk⊢
  have hFl:=jQ ⟨⟨⟨number,applicant,beneficiary,issuer,confirmer,frm,to,cur,amt,above,below,latest,expiry,within,tenor,partial_,change,needs⟩,docs,day,F⟩,at_,⟨0,dn,ds,dl⟩⟩ (needs.take k) (fun m hm=>hn m (List.mem_of_mem_take hm)) Fb;rw[aR]at hFl;obtain⟨Fk,hFk⟩:∃Fk,Fk=dQ ⟨⟨⟨number,applicant,beneficiary,issuer,confirmer,frm,to,cur,amt,above,below,latest,expiry,within,tenor,partial_,change,needs⟩,docs,day,F⟩,at_,⟨0,dn,ds,dl⟩⟩ (needs.take k) Fb:=⟨_,rfl⟩
  rw[←hFk]at hFl⊢;cbv;repeat'((first|refine .mk (fun h=>?_) fun h=>?_|fail)<;>cbv)
  ·refine cZ bR bR fun j s hj hx=>?_
   obtain rfl:k=j:=bR;have htk:=cE hx;have hne:=hn s (aC hx);have hnx:dQ ⟨⟨⟨number,applicant,beneficiary,issuer,confirmer,frm,to,cur,amt,above,below,latest,expiry,within,tenor,partial_,change,needs⟩,docs,day,F⟩,at_,⟨0,dn,ds,dl⟩⟩ (needs.take (k+1)) Fb=gO ⟨⟨⟨number,applicant,beneficiary,issuer,confirmer,frm,to,cur,amt,above,below,latest,expiry,within,tenor,partial_,change,needs⟩,docs,day,F⟩,at_,⟨0,dn,ds,dl⟩⟩ s Fk:=by rw[htk,lS,hFk];rfl
   obtain⟨nk,rules⟩:=s;obtain⟨F3,hF3⟩:∃F3,F3=gO ⟨⟨⟨number,applicant,beneficiary,issuer,confirmer,frm,to,cur,amt,above,below,latest,expiry,within,tenor,partial_,change,needs⟩,docs,day,F⟩,at_,⟨0,dn,ds,dl⟩⟩ ⟨nk,rules⟩ Fk:=⟨_,rfl⟩
   rw[←hF3]at hnx;unfold gO at hF3;dsimp only at hF3;have hl3:=hne.l
   try dsimp only at hl3
   cbv;repeat'((first|refine .mk (fun h=>?_) fun h=>?_|refine .k fun z hz=>?_|fail)<;>cbv)
   ·rw[aF (by omega)]at hF3;refine cU hp1 ((⟨⟨⟨number,applicant,beneficiary,issuer,confirmer,frm,to,cur,amt,above,below,latest,expiry,within,tenor,partial_,change,needs⟩,docs,day,Fk⟩,at_,⟨0,dn,ds,dl⟩⟩,rules):gL×List Nd) [0,1,2,3,4,5,6,7] ⟨hne.p,hd,hfl,hv,Nat.le_trans hne.l (by omega),by(try dsimp only);omega⟩ rfl rfl (by decide) rfl rfl rfl rfl rfl ?_;unfold oA
    try dsimp only
    rw[jO ⟨⟨⟨number,applicant,beneficiary,issuer,confirmer,frm,to,cur,amt,above,below,latest,expiry,within,tenor,partial_,change,needs⟩,docs,day,Fk⟩,at_,⟨0,dn,ds,dl⟩⟩ ⟨⟨⟨number,applicant,beneficiary,issuer,confirmer,frm,to,cur,amt,above,below,latest,expiry,within,tenor,partial_,change,needs⟩,docs,day,F⟩,at_,⟨0,dn,ds,dl⟩⟩ rfl rfl,←hF3];cbv;repeat'((first|refine .k fun z hz=>?_|fail)<;>cbv)
    obtain rfl:z=nI (k+1):=bR;clear hF3;subst hnx;exact bP ⟨k+1,by exact bR⟩ (bQ bR)
   ·rw[aE (by omega)]at hF3;subst hF3;obtain rfl:z=nI (k+1):=bR;subst hnx;exact bP ⟨k+1,by exact bR⟩ (bQ bR)
  ·obtain rfl:k=needs.length:=bR;rw[List.take_length]at hFk;rw[←hFk]at hK
   (refine .q9 ?_;cbv;exact .inl (.f9 hK))
 ·subst h;obtain⟨Fb,hFb⟩:∃Fb,Fb=Hq ⟨⟨⟨number,applicant,beneficiary,issuer,confirmer,frm,to,cur,amt,above,below,latest,expiry,within,tenor,partial_,change,needs⟩,docs,day,F⟩,at_,⟨2,dn,ds,dl⟩⟩ F:=⟨_,rfl⟩
  have hbb:gR ⟨⟨⟨number,applicant,beneficiary,issuer,confirmer,frm,to,cur,amt,above,below,latest,expiry,within,tenor,partial_,change,needs⟩,docs,day,F⟩,at_,⟨2,dn,ds,dl⟩⟩ F=Fb:=by rw[hFb];exact(aE (show ¬(2:Int)=0 by decide)).trans (aF rfl)
  have hbl:=qL ⟨⟨⟨number,applicant,beneficiary,issuer,confirmer,frm,to,cur,amt,above,below,latest,expiry,within,tenor,partial_,change,needs⟩,docs,day,F⟩,at_,⟨2,dn,ds,dl⟩⟩ F;rw[hbb]at hK hbl;refine cU hl (⟨⟨⟨number,applicant,beneficiary,issuer,confirmer,frm,to,cur,amt,above,below,latest,expiry,within,tenor,partial_,change,needs⟩,docs,day,F⟩,at_,⟨2,dn,ds,dl⟩⟩:gL) [0,1,2,3,4] ho2 rfl rfl (by decide) rfl rfl rfl rfl rfl ?_;unfold oA
  try dsimp only
  rw[←hFb];cbv;repeat'((first|refine .e ?_|refine .k fun z hz=>?_|fail)<;>cbv)
  refine bZ [2,4] (fun p:{ k:Nat // k≤needs.length }=>[(39,.i (nI p.1))]) (fun p=>[.blk 95 [.str number,.str applicant,.str beneficiary,.str issuer,.str confirmer,.str frm,.str to,.str cur,.i amt,.i above,.i below,.i latest,.i expiry,.i within,.i tenor,.bl partial_,.bl change,.sl 8 (bK iQ needs),.sl 4 (bK eP docs),.i day,.clo 33 [.ptr 3 0,.ptr 1 0]],.blk 38 [.hd 4],.map 91 (bK nZ (dQ ⟨⟨⟨number,applicant,beneficiary,issuer,confirmer,frm,to,cur,amt,above,below,latest,expiry,within,tenor,partial_,change,needs⟩,docs,day,F⟩,at_,⟨2,dn,ds,dl⟩⟩ (needs.take p.1) Fb)),.blk 91 [.hd 2],.row 44 4 (bK mD (dQ ⟨⟨⟨number,applicant,beneficiary,issuer,confirmer,frm,to,cur,amt,above,below,latest,expiry,within,tenor,partial_,change,needs⟩,docs,day,F⟩,at_,⟨2,dn,ds,dl⟩⟩ (needs.take p.1) Fb)),.blk 92 [.ptr 0 0],.blk 3 [.i (nI at_)],.blk 3 [.i 2]]) (fun p=>iH n p.1) ⟨0,aI _⟩ ?_;rintro ⟨k,hk⟩
  try dsimp only at hk⊢
  have hFl:=jQ ⟨⟨⟨number,applicant,beneficiary,issuer,confirmer,frm,to,cur,amt,above,below,latest,expiry,within,tenor,partial_,change,needs⟩,docs,day,F⟩,at_,⟨2,dn,ds,dl⟩⟩ (needs.take k) (fun m hm=>hn m (List.mem_of_mem_take hm)) Fb;rw[aR]at hFl;obtain⟨Fk,hFk⟩:∃Fk,Fk=dQ ⟨⟨⟨number,applicant,beneficiary,issuer,confirmer,frm,to,cur,amt,above,below,latest,expiry,within,tenor,partial_,change,needs⟩,docs,day,F⟩,at_,⟨2,dn,ds,dl⟩⟩ (needs.take k) Fb:=⟨_,rfl⟩
  rw[←hFk]at hFl⊢;cbv;repeat'((first|refine .mk (fun h=>?_) fun h=>?_|fail)<;>cbv)
  ·refine cZ bR bR fun j s hj hx=>?_
   obtain rfl:k=j:=bR;have htk:=cE hx;have hne:=hn s (aC hx);have hnx:dQ ⟨⟨⟨number,applicant,beneficiary,issuer,confirmer,frm,to,cur,amt,above,below,latest,expiry,within,tenor,partial_,change,needs⟩,docs,day,F⟩,at_,⟨2,dn,ds,dl⟩⟩ (needs.take (k+1)) Fb=gO ⟨⟨⟨number,applicant,beneficiary,issuer,confirmer,frm,to,cur,amt,above,below,latest,expiry,within,tenor,partial_,change,needs⟩,docs,day,F⟩,at_,⟨2,dn,ds,dl⟩⟩ s Fk:=by rw[htk,lS,hFk];rfl
   obtain⟨nk,rules⟩:=s;obtain⟨F3,hF3⟩:∃F3,F3=gO ⟨⟨⟨number,applicant,beneficiary,issuer,confirmer,frm,to,cur,amt,above,below,latest,expiry,within,tenor,partial_,change,needs⟩,docs,day,F⟩,at_,⟨2,dn,ds,dl⟩⟩ ⟨nk,rules⟩ Fk:=⟨_,rfl⟩
   rw[←hF3]at hnx;unfold gO at hF3;dsimp only at hF3;have hl3:=hne.l
   try dsimp only at hl3
   cbv;repeat'((first|refine .mk (fun h=>?_) fun h=>?_|refine .k fun z hz=>?_|fail)<;>cbv)
   ·rw[aF (by omega)]at hF3;refine cU hp1 ((⟨⟨⟨number,applicant,beneficiary,issuer,confirmer,frm,to,cur,amt,above,below,latest,expiry,within,tenor,partial_,change,needs⟩,docs,day,Fk⟩,at_,⟨2,dn,ds,dl⟩⟩,rules):gL×List Nd) [0,1,2,3,4,5,6,7] ⟨hne.p,hd,hfl,hv,Nat.le_trans hne.l (by omega),by(try dsimp only);omega⟩ rfl rfl (by decide) rfl rfl rfl rfl rfl ?_;unfold oA
    try dsimp only
    rw[jO ⟨⟨⟨number,applicant,beneficiary,issuer,confirmer,frm,to,cur,amt,above,below,latest,expiry,within,tenor,partial_,change,needs⟩,docs,day,Fk⟩,at_,⟨2,dn,ds,dl⟩⟩ ⟨⟨⟨number,applicant,beneficiary,issuer,confirmer,frm,to,cur,amt,above,below,latest,expiry,within,tenor,partial_,change,needs⟩,docs,day,F⟩,at_,⟨2,dn,ds,dl⟩⟩ rfl rfl,←hF3];cbv;repeat'((first|refine .k fun z hz=>?_|fail)<;>cbv)
    obtain rfl:z=nI (k+1):=bR;clear hF3;subst hnx;exact bP ⟨k+1,by exact bR⟩ (bQ bR)
   ·rw[aE (by omega)]at hF3;subst hF3;obtain rfl:z=nI (k+1):=bR;subst hnx;exact bP ⟨k+1,by exact bR⟩ (bQ bR)
  ·obtain rfl:k=needs.length:=bR;rw[List.take_length]at hFk;rw[←hFk]at hK
   (refine .q9 ?_;cbv;exact .inl (.f9 hK))
 ·have hbb:gR ⟨⟨⟨number,applicant,beneficiary,issuer,confirmer,frm,to,cur,amt,above,below,latest,expiry,within,tenor,partial_,change,needs⟩,docs,day,F⟩,at_,⟨dk,dn,ds,dl⟩⟩ F=F:=(aE (show ¬dk=0 by omega)).trans (aE (show ¬dk=2 by omega));rw[hbb]at hK;refine bZ [2,4] (fun p:{ k:Nat // k≤needs.length }=>[(39,.i (nI p.1))]) (fun p=>[.blk 95 [.str number,.str applicant,.str beneficiary,.str issuer,.str confirmer,.str frm,.str to,.str cur,.i amt,.i above,.i below,.i latest,.i expiry,.i within,.i tenor,.bl partial_,.bl change,.sl 8 (bK iQ needs),.sl 4 (bK eP docs),.i day,.clo 33 [.ptr 3 0,.ptr 1 0]],.blk 38 [.hd 4],.map 91 (bK nZ (dQ ⟨⟨⟨number,applicant,beneficiary,issuer,confirmer,frm,to,cur,amt,above,below,latest,expiry,within,tenor,partial_,change,needs⟩,docs,day,F⟩,at_,⟨dk,dn,ds,dl⟩⟩ (needs.take p.1) F)),.blk 91 [.hd 2],.row 44 4 (bK mD (dQ ⟨⟨⟨number,applicant,beneficiary,issuer,confirmer,frm,to,cur,amt,above,below,latest,expiry,within,tenor,partial_,change,needs⟩,docs,day,F⟩,at_,⟨dk,dn,ds,dl⟩⟩ (needs.take p.1) F)),.blk 92 [.ptr 0 0],.blk 3 [.i (nI at_)],.blk 3 [.i dk]]) (fun p=>iH n p.1) ⟨0,aI _⟩ ?_;rintro ⟨k,hk⟩
  try dsimp only at hk⊢
  have hFl:=jQ ⟨⟨⟨number,applicant,beneficiary,issuer,confirmer,frm,to,cur,amt,above,below,latest,expiry,within,tenor,partial_,change,needs⟩,docs,day,F⟩,at_,⟨dk,dn,ds,dl⟩⟩ (needs.take k) (fun m hm=>hn m (List.mem_of_mem_take hm)) F;rw[aR]at hFl;obtain⟨Fk,hFk⟩:∃Fk,Fk=dQ ⟨⟨⟨number,applicant,beneficiary,issuer,confirmer,frm,to,cur,amt,above,below,latest,expiry,within,tenor,partial_,change,needs⟩,docs,day,F⟩,at_,⟨dk,dn,ds,dl⟩⟩ (needs.take k) F:=⟨_,rfl⟩
  rw[←hFk]at hFl⊢;cbv;repeat'((first|refine .mk (fun h=>?_) fun h=>?_|fail)<;>cbv)
  ·refine cZ bR bR fun j s hj hx=>?_
   obtain rfl:k=j:=bR;have htk:=cE hx;have hne:=hn s (aC hx);have hnx:dQ ⟨⟨⟨number,applicant,beneficiary,issuer,confirmer,frm,to,cur,amt,above,below,latest,expiry,within,tenor,partial_,change,needs⟩,docs,day,F⟩,at_,⟨dk,dn,ds,dl⟩⟩ (needs.take (k+1)) F=gO ⟨⟨⟨number,applicant,beneficiary,issuer,confirmer,frm,to,cur,amt,above,below,latest,expiry,within,tenor,partial_,change,needs⟩,docs,day,F⟩,at_,⟨dk,dn,ds,dl⟩⟩ s Fk:=by rw[htk,lS,hFk];rfl
   obtain⟨nk,rules⟩:=s;obtain⟨F3,hF3⟩:∃F3,F3=gO ⟨⟨⟨number,applicant,beneficiary,issuer,confirmer,frm,to,cur,amt,above,below,latest,expiry,within,tenor,partial_,change,needs⟩,docs,day,F⟩,at_,⟨dk,dn,ds,dl⟩⟩ ⟨nk,rules⟩ Fk:=⟨_,rfl⟩
   rw[←hF3]at hnx;unfold gO at hF3;dsimp only at hF3;have hl3:=hne.l
   try dsimp only at hl3
   cbv;repeat'((first|refine .mk (fun h=>?_) fun h=>?_|refine .k fun z hz=>?_|fail)<;>cbv)
   ·rw[aF (by omega)]at hF3;refine cU hp1 ((⟨⟨⟨number,applicant,beneficiary,issuer,confirmer,frm,to,cur,amt,above,below,latest,expiry,within,tenor,partial_,change,needs⟩,docs,day,Fk⟩,at_,⟨dk,dn,ds,dl⟩⟩,rules):gL×List Nd) [0,1,2,3,4,5,6,7] ⟨hne.p,hd,hfl,hv,Nat.le_trans hne.l (by omega),by(try dsimp only);omega⟩ rfl rfl (by decide) rfl rfl rfl rfl rfl ?_;unfold oA
    try dsimp only
    rw[jO ⟨⟨⟨number,applicant,beneficiary,issuer,confirmer,frm,to,cur,amt,above,below,latest,expiry,within,tenor,partial_,change,needs⟩,docs,day,Fk⟩,at_,⟨dk,dn,ds,dl⟩⟩ ⟨⟨⟨number,applicant,beneficiary,issuer,confirmer,frm,to,cur,amt,above,below,latest,expiry,within,tenor,partial_,change,needs⟩,docs,day,F⟩,at_,⟨dk,dn,ds,dl⟩⟩ rfl rfl,←hF3];cbv;repeat'((first|refine .k fun z hz=>?_|fail)<;>cbv)
    obtain rfl:z=nI (k+1):=bR;clear hF3;subst hnx;exact bP ⟨k+1,by exact bR⟩ (bQ bR)
   ·rw[aE (by omega)]at hF3;subst hF3;obtain rfl:z=nI (k+1):=bR;subst hnx;exact bP ⟨k+1,by exact bR⟩ (bQ bR)
  ·obtain rfl:k=needs.length:=bR;rw[List.take_length]at hFk;rw[←hFk]at hK
   (refine .q9 ?_;cbv;exact .inl (.f9 hK))
abbrev AL:=List (bF×bF)
def CQ:bF×bF→AV×AV
 |(k,v)=>(.str k,.str v)
def tJ (A:AL) (s:bF):Option bF:=(A.find? fun p=>decide (p.1=s)).map (·.2)
theorem CJ (s:bF):∀(A:AL) (i:Nat),(∃j v,fY (.str s) (bK CQ A) i=some (some (i+j))∧A[j]?=some (s,v)∧tJ A s=some v)∨(fY (.str s) (bK CQ A) i=some none∧tJ A s=none)
 |[],i=>.inr ⟨rfl,rfl⟩
 |(x,v) :: A,i=>by
  have e:bK CQ ((x,v) :: A)=(.str x,.str v) :: bK CQ A:=rfl;rw[e];unfold fY;by_cases h:x=s
  ·have h2:gE (.str s) (.str x)=some true:=congrArg some ((MapKept.bytes_beq _ _).2 h.symm);rw[h2];left;subst h;refine⟨0,v,rfl,rfl,?_⟩;unfold tJ;rw[List.find?_cons,aH rfl];rfl
  ·have h3:¬s=x:=fun e=>h e.symm
   have h2:gE (.str s) (.str x)=some false:=congrArg some (Bool.eq_false_iff.2 fun hb=>h3 ((MapKept.bytes_beq _ _).1 hb));rw[h2];dsimp only;have hg:tJ ((x,v) :: A) s=tJ A s:=by unfold tJ;rw[List.find?_cons,aG h]
   rw[hg];rcases CJ s A (i+1)with ⟨j,w,h1,h2,h3⟩|⟨h1,h2⟩
   ·left;exact⟨j+1,w,by rw[h1];congr 2;omega,by simpa using h2,h3⟩
   ·right;exact⟨h1,h2⟩
theorem fB {s:bF}{A:AL}{K:Option (Nat×AV)→Prop}(hs:∀(i:Nat) (v:bF),tJ A s=some v→K (some (i,.str v))) (hn:tJ A s=none→K none):rM (.str s) (bK CQ A) K:=by
 rcases CJ s A 0 with ⟨j,v,h1,h2,h3⟩|⟨h1,h2⟩
 ·refine⟨.inl ⟨j,(CQ (s,v)).1,.str v,by rw[h1,Nat.zero_add],?_,hs j v h3⟩⟩;rw[dC,aD,h2];rfl
 ·exact⟨.inr ⟨h1,hn h2⟩⟩
def dI:List bF:=[bU,dK,kE,eE,dF,dL]
structure FA where
 F:List Fa
 A:AL
def dX (i:gL) (p:FA) (name:bF):FA:=
 if dT i.d.fields name=true then
  match tJ p.A name with
  |none=>⟨p.F,p.A++[(name,HA i.d.fields name)]⟩
  |some o=>if o=HA i.d.fields name then p else ⟨eD p.F ⟨i.at_,i.d.kind,name,3⟩,p.A⟩
 else p
def Ae (i:gL) (p:FA):FA:=dI.foldl (dX i) p
theorem nU (F:List Fa) (f:Fa):(eD F f).length≤F.length+1:=by
 unfold eD
 split
 ·omega
 ·rw[aM];exact aN _
theorem KD (i:gL) (p:FA) (name:bF):(dX i p name).F.length≤p.F.length+1∧(dX i p name).A.length≤p.A.length+1:=by
 unfold dX
 split
 ·split
  ·exact⟨by simp,by simp⟩
  ·split
   ·exact⟨by omega,by omega⟩
   ·have h1:=nU p.F ⟨i.at_,i.d.kind,name,3⟩;exact⟨h1,by simp⟩
 ·exact⟨by omega,by omega⟩
theorem yD (i:gL):∀(l:List bF) (p:FA),(l.foldl (dX i) p).F.length≤p.F.length+l.length∧(l.foldl (dX i) p).A.length≤p.A.length+l.length
 |[],p=>⟨by simp,by simp⟩
 |n :: l,p=>by
  rw[List.foldl_cons,List.length_cons];have h1:=yD i l (dX i p n);have h2:=KD i p n;omega
theorem iC (i:gL) {l:List bF}{k:Nat}{s:bF}(hx:l[k]?=some s) (p:FA):(l.take (k+1)).foldl (dX i) p=dX i ((l.take k).foldl (dX i) p) s:=by
 rw[cE hx,List.foldl_append];rfl
def Ag:cQ:=spec (fun i:gL×AL=>[.ptr 0 0,.i (nI i.1.at_),.hd 5]) (fun i=>Ew i.1.x++[.map 103 (bK CQ i.2)]) (fun i=>NC i.1∧i.2.length≤10000) (fun _=>.tup []) fun i=>Ew (oA i.1.x (Ae i.1 ⟨i.1.x.F,i.2⟩).F)++[.map 103 (bK CQ (Ae i.1 ⟨i.1.x.F,i.2⟩).A)]
theorem Cx (P:bG) (hg:bH P 40 vU) (m2:cL P 33) (ht:bH P 33 tZ):bL P We Ag:=by
 intro args H K hc;obtain⟨⟨⟨⟨⟨number,applicant,beneficiary,issuer,confirmer,frm,to,cur,amt,above,below,latest,expiry,within,tenor,partial_,change,needs⟩,docs,day,F⟩,at_,⟨dk,dn,ds,dl⟩⟩,A⟩,rfl,rfl,hp,hK⟩:=hc;refine⟨cW,?_⟩;dsimp only at hp hK⊢;obtain⟨⟨hd,hl,hv,hF,hc,hdy⟩,hA⟩:=hp
 try dsimp only at hd hl hv hF hc hdy hA
 have hat:at_ < docs.length:=(aA.1 hd).1;unfold oA at hK;dsimp only at hK;cbv;repeat'((first|refine .e ?_|fail)<;>cbv)
 refine bZ [2,4,5] (fun p:{ p:FA×Nat // p.2≤6∧p.1=(dI.take p.2).foldl (dX ⟨⟨⟨number,applicant,beneficiary,issuer,confirmer,frm,to,cur,amt,above,below,latest,expiry,within,tenor,partial_,change,needs⟩,docs,day,F⟩,at_,⟨dk,dn,ds,dl⟩⟩) ⟨F,A⟩ }=>[(2,.hd 5),(21,.i (nI p.1.2))]) (fun p=>[.blk 95 [.str number,.str applicant,.str beneficiary,.str issuer,.str confirmer,.str frm,.str to,.str cur,.i amt,.i above,.i below,.i latest,.i expiry,.i within,.i tenor,.bl partial_,.bl change,.sl 8 (bK iQ needs),.sl 4 (bK eP docs),.i day,.clo 33 [.ptr 3 0,.ptr 1 0]],.blk 38 [.hd 4],.map 91 (bK nZ p.1.1.F),.blk 91 [.hd 2],.row 44 4 (bK mD p.1.1.F),.map 103 (bK CQ p.1.1.A),.blk 88 [.i dk,.str dn,.str ds,.sl 2 (bK sS dl)]]) (fun p=>iH 7 p.1.2) ⟨(⟨F,A⟩,0),aI _,rfl⟩ ?_;rintro ⟨⟨⟨Fk,Ak⟩,k⟩,hk,hFk⟩
 try dsimp only at hk hFk⊢
 have hFl:=yD ⟨⟨⟨number,applicant,beneficiary,issuer,confirmer,frm,to,cur,amt,above,below,latest,expiry,within,tenor,partial_,change,needs⟩,docs,day,F⟩,at_,⟨dk,dn,ds,dl⟩⟩ (dI.take k) ⟨F,A⟩;rw[←hFk,aR,show dI.length=6 from rfl]at hFl;dsimp only at hFl;cbv;repeat'((first|refine .mk (fun h=>?_) fun h=>?_|refine .o ?_|fail)<;>cbv)
 ·obtain rfl:k=5:=bR;have hS:(dI.take (5+1)).foldl (dX ⟨⟨⟨number,applicant,beneficiary,issuer,confirmer,frm,to,cur,amt,above,below,latest,expiry,within,tenor,partial_,change,needs⟩,docs,day,F⟩,at_,⟨dk,dn,ds,dl⟩⟩) ⟨F,A⟩=dX ⟨⟨⟨number,applicant,beneficiary,issuer,confirmer,frm,to,cur,amt,above,below,latest,expiry,within,tenor,partial_,change,needs⟩,docs,day,F⟩,at_,⟨dk,dn,ds,dl⟩⟩ ⟨Fk,Ak⟩ dL:=by rw[iC ⟨⟨⟨number,applicant,beneficiary,issuer,confirmer,frm,to,cur,amt,above,below,latest,expiry,within,tenor,partial_,change,needs⟩,docs,day,F⟩,at_,⟨dk,dn,ds,dl⟩⟩ (s:=dL) rfl,←hFk]
  unfold dX at hS;dsimp only at hS;obtain⟨b,hb⟩:∃b,b=dT dl dL:=⟨_,rfl⟩
  obtain⟨v,hv1⟩:∃b,b=HA dl dL:=⟨_,rfl⟩
  rw[←hb,←hv1]at hS
  (refine hP hg ((dl,dL):List Fl×bF) hl ?_;try dsimp only)
  rw[←hb,←hv1];cases b
  ·rw[aE (show ¬(false=true) by decide)]at hS;cbv;repeat'((first|refine .k fun z hz=>?_|fail)<;>cbv)
   obtain rfl:z=nI (5+1):=bR;exact bP ⟨(⟨Fk,Ak⟩,5+1),(show 5+1≤6 by decide),hS.symm⟩ (bQ bR)
  ·rw[aF rfl]at hS;cbv;refine fB (s:=dL) (A:=Ak) (fun i o hgo=>?_) (fun hgo=>?_)
   ·rw[hgo]at hS;dsimp only at hS;cbv;repeat'((first|refine .mk (fun h=>?_) fun h=>?_|refine .k fun z hz=>?_|refine And.intro ?_ ?_|fail)<;>cbv)
    ·rw[aF (by assumption)]at hS;obtain rfl:z=nI (5+1):=bR;exact bP ⟨(⟨Fk,Ak⟩,5+1),(show 5+1≤6 by decide),hS.symm⟩ (bQ bR)
    ·exact m2
    ·rw[aE (by assumption)]at hS;obtain⟨F2,hF2⟩:∃F2,F2=eD Fk ⟨at_,dk,dL,3⟩:=⟨_,rfl⟩
     rw[←hF2]at hS
     (refine jR ht ((⟨⟨number,applicant,beneficiary,issuer,confirmer,frm,to,cur,amt,above,below,latest,expiry,within,tenor,partial_,change,needs⟩,docs,day,Fk⟩,⟨at_,dk,dL,3⟩):Xm×Fa) [0,1,2,3,4] (show Fk.length≤1000000 by omega) ?_;try dsimp only)
     rw[←hF2];cbv;repeat'((first|refine .k fun z hz=>?_|fail)<;>cbv)
     obtain rfl:z=nI (5+1):=bR;exact bP ⟨(⟨F2,Ak⟩,5+1),(show 5+1≤6 by decide),hS.symm⟩ (bQ bR)
   ·rw[hgo]at hS;dsimp only at hS;cbv;refine fB (s:=dL) (A:=Ak) (fun i o h2=>by rw[hgo]at h2;cases h2) (fun h2=>?_);cbv;repeat'((first|refine .k fun z hz=>?_|refine .ms fun ms hms=>?_|fail)<;>cbv)
    obtain⟨A2,hA2⟩:∃A2,A2=Ak++[(dL,v)]:=⟨_,rfl⟩
    rw[←hA2]at hS;obtain rfl:ms=bK CQ A2:=by rw[hA2,cP,cS];exact hms
    obtain rfl:z=nI (5+1):=bR;exact bP ⟨(⟨Fk,A2⟩,5+1),(show 5+1≤6 by decide),hS.symm⟩ (bQ bR)
 ·obtain rfl:k=4:=bR;have hS:(dI.take (4+1)).foldl (dX ⟨⟨⟨number,applicant,beneficiary,issuer,confirmer,frm,to,cur,amt,above,below,latest,expiry,within,tenor,partial_,change,needs⟩,docs,day,F⟩,at_,⟨dk,dn,ds,dl⟩⟩) ⟨F,A⟩=dX ⟨⟨⟨number,applicant,beneficiary,issuer,confirmer,frm,to,cur,amt,above,below,latest,expiry,within,tenor,partial_,change,needs⟩,docs,day,F⟩,at_,⟨dk,dn,ds,dl⟩⟩ ⟨Fk,Ak⟩ dF:=by rw[iC ⟨⟨⟨number,applicant,beneficiary,issuer,confirmer,frm,to,cur,amt,above,below,latest,expiry,within,tenor,partial_,change,needs⟩,docs,day,F⟩,at_,⟨dk,dn,ds,dl⟩⟩ (s:=dF) rfl,←hFk]
  unfold dX at hS;dsimp only at hS;obtain⟨b,hb⟩:∃b,b=dT dl dF:=⟨_,rfl⟩
  obtain⟨v,hv1⟩:∃b,b=HA dl dF:=⟨_,rfl⟩
  rw[←hb,←hv1]at hS
  (refine hP hg ((dl,dF):List Fl×bF) hl ?_;try dsimp only)
  rw[←hb,←hv1];cases b
  ·rw[aE (show ¬(false=true) by decide)]at hS;cbv;repeat'((first|refine .k fun z hz=>?_|fail)<;>cbv)
   obtain rfl:z=nI (4+1):=bR;exact bP ⟨(⟨Fk,Ak⟩,4+1),(show 4+1≤6 by decide),hS.symm⟩ (bQ bR)
  ·rw[aF rfl]at hS;cbv;refine fB (s:=dF) (A:=Ak) (fun i o hgo=>?_) (fun hgo=>?_)
   ·rw[hgo]at hS;dsimp only at hS;cbv;repeat'((first|refine .mk (fun h=>?_) fun h=>?_|refine .k fun z hz=>?_|refine And.intro ?_ ?_|fail)<;>cbv)
    ·rw[aF (by assumption)]at hS;obtain rfl:z=nI (4+1):=bR;exact bP ⟨(⟨Fk,Ak⟩,4+1),(show 4+1≤6 by decide),hS.symm⟩ (bQ bR)
    ·exact m2
    ·rw[aE (by assumption)]at hS;obtain⟨F2,hF2⟩:∃F2,F2=eD Fk ⟨at_,dk,dF,3⟩:=⟨_,rfl⟩
     rw[←hF2]at hS
     (refine jR ht ((⟨⟨number,applicant,beneficiary,issuer,confirmer,frm,to,cur,amt,above,below,latest,expiry,within,tenor,partial_,change,needs⟩,docs,day,Fk⟩,⟨at_,dk,dF,3⟩):Xm×Fa) [0,1,2,3,4] (show Fk.length≤1000000 by omega) ?_;try dsimp only)
     rw[←hF2];cbv;repeat'((first|refine .k fun z hz=>?_|fail)<;>cbv)
     obtain rfl:z=nI (4+1):=bR;exact bP ⟨(⟨F2,Ak⟩,4+1),(show 4+1≤6 by decide),hS.symm⟩ (bQ bR)
   ·rw[hgo]at hS;dsimp only at hS;cbv;refine fB (s:=dF) (A:=Ak) (fun i o h2=>by rw[hgo]at h2;cases h2) (fun h2=>?_);cbv;repeat'((first|refine .k fun z hz=>?_|refine .ms fun ms hms=>?_|fail)<;>cbv)
    obtain⟨A2,hA2⟩:∃A2,A2=Ak++[(dF,v)]:=⟨_,rfl⟩
    rw[←hA2]at hS;obtain rfl:ms=bK CQ A2:=by rw[hA2,cP,cS];exact hms
    obtain rfl:z=nI (4+1):=bR;exact bP ⟨(⟨Fk,A2⟩,4+1),(show 4+1≤6 by decide),hS.symm⟩ (bQ bR)
 ·obtain rfl:k=3:=bR;have hS:(dI.take (3+1)).foldl (dX ⟨⟨⟨number,applicant,beneficiary,issuer,confirmer,frm,to,cur,amt,above,below,latest,expiry,within,tenor,partial_,change,needs⟩,docs,day,F⟩,at_,⟨dk,dn,ds,dl⟩⟩) ⟨F,A⟩=dX ⟨⟨⟨number,applicant,beneficiary,issuer,confirmer,frm,to,cur,amt,above,below,latest,expiry,within,tenor,partial_,change,needs⟩,docs,day,F⟩,at_,⟨dk,dn,ds,dl⟩⟩ ⟨Fk,Ak⟩ eE:=by rw[iC ⟨⟨⟨number,applicant,beneficiary,issuer,confirmer,frm,to,cur,amt,above,below,latest,expiry,within,tenor,partial_,change,needs⟩,docs,day,F⟩,at_,⟨dk,dn,ds,dl⟩⟩ (s:=eE) rfl,←hFk]
  unfold dX at hS;dsimp only at hS;obtain⟨b,hb⟩:∃b,b=dT dl eE:=⟨_,rfl⟩
  obtain⟨v,hv1⟩:∃b,b=HA dl eE:=⟨_,rfl⟩
  rw[←hb,←hv1]at hS
  (refine hP hg ((dl,eE):List Fl×bF) hl ?_;try dsimp only)
  rw[←hb,←hv1];cases b
  ·rw[aE (show ¬(false=true) by decide)]at hS;cbv;repeat'((first|refine .k fun z hz=>?_|fail)<;>cbv)
   obtain rfl:z=nI (3+1):=bR;exact bP ⟨(⟨Fk,Ak⟩,3+1),(show 3+1≤6 by decide),hS.symm⟩ (bQ bR)
  ·rw[aF rfl]at hS;cbv;refine fB (s:=eE) (A:=Ak) (fun i o hgo=>?_) (fun hgo=>?_)
   ·rw[hgo]at hS;dsimp only at hS;cbv;repeat'((first|refine .mk (fun h=>?_) fun h=>?_|refine .k fun z hz=>?_|refine And.intro ?_ ?_|fail)<;>cbv)
    ·rw[aF (by assumption)]at hS;obtain rfl:z=nI (3+1):=bR;exact bP ⟨(⟨Fk,Ak⟩,3+1),(show 3+1≤6 by decide),hS.symm⟩ (bQ bR)
    ·exact m2
    ·rw[aE (by assumption)]at hS;obtain⟨F2,hF2⟩:∃F2,F2=eD Fk ⟨at_,dk,eE,3⟩:=⟨_,rfl⟩
     rw[←hF2]at hS
     (refine jR ht ((⟨⟨number,applicant,beneficiary,issuer,confirmer,frm,to,cur,amt,above,below,latest,expiry,within,tenor,partial_,change,needs⟩,docs,day,Fk⟩,⟨at_,dk,eE,3⟩):Xm×Fa) [0,1,2,3,4] (show Fk.length≤1000000 by omega) ?_;try dsimp only)
     rw[←hF2];cbv;repeat'((first|refine .k fun z hz=>?_|fail)<;>cbv)
     obtain rfl:z=nI (3+1):=bR;exact bP ⟨(⟨F2,Ak⟩,3+1),(show 3+1≤6 by decide),hS.symm⟩ (bQ bR)
   ·rw[hgo]at hS;dsimp only at hS;cbv;refine fB (s:=eE) (A:=Ak) (fun i o h2=>by rw[hgo]at h2;cases h2) (fun h2=>?_);cbv;repeat'((first|refine .k fun z hz=>?_|refine .ms fun ms hms=>?_|fail)<;>cbv)
    obtain⟨A2,hA2⟩:∃A2,A2=Ak++[(eE,v)]:=⟨_,rfl⟩
    rw[←hA2]at hS;obtain rfl:ms=bK CQ A2:=by rw[hA2,cP,cS];exact hms
    obtain rfl:z=nI (3+1):=bR;exact bP ⟨(⟨Fk,A2⟩,3+1),(show 3+1≤6 by decide),hS.symm⟩ (bQ bR)
 ·obtain rfl:k=2:=bR;have hS:(dI.take (2+1)).foldl (dX ⟨⟨⟨number,applicant,beneficiary,issuer,confirmer,frm,to,cur,amt,above,below,latest,expiry,within,tenor,partial_,change,needs⟩,docs,day,F⟩,at_,⟨dk,dn,ds,dl⟩⟩) ⟨F,A⟩=dX ⟨⟨⟨number,applicant,beneficiary,issuer,confirmer,frm,to,cur,amt,above,below,latest,expiry,within,tenor,partial_,change,needs⟩,docs,day,F⟩,at_,⟨dk,dn,ds,dl⟩⟩ ⟨Fk,Ak⟩ kE:=by rw[iC ⟨⟨⟨number,applicant,beneficiary,issuer,confirmer,frm,to,cur,amt,above,below,latest,expiry,within,tenor,partial_,change,needs⟩,docs,day,F⟩,at_,⟨dk,dn,ds,dl⟩⟩ (s:=kE) rfl,←hFk]
  unfold dX at hS;dsimp only at hS;obtain⟨b,hb⟩:∃b,b=dT dl kE:=⟨_,rfl⟩
  obtain⟨v,hv1⟩:∃b,b=HA dl kE:=⟨_,rfl⟩
  rw[←hb,←hv1]at hS
  (refine hP hg ((dl,kE):List Fl×bF) hl ?_;try dsimp only)
  rw[←hb,←hv1];cases b
  ·rw[aE (show ¬(false=true) by decide)]at hS;cbv;repeat'((first|refine .k fun z hz=>?_|fail)<;>cbv)
   obtain rfl:z=nI (2+1):=bR;exact bP ⟨(⟨Fk,Ak⟩,2+1),(show 2+1≤6 by decide),hS.symm⟩ (bQ bR)
  ·rw[aF rfl]at hS;cbv;refine fB (s:=kE) (A:=Ak) (fun i o hgo=>?_) (fun hgo=>?_)
   ·rw[hgo]at hS;dsimp only at hS;cbv;repeat'((first|refine .mk (fun h=>?_) fun h=>?_|refine .k fun z hz=>?_|refine And.intro ?_ ?_|fail)<;>cbv)
    ·rw[aF (by assumption)]at hS;obtain rfl:z=nI (2+1):=bR;exact bP ⟨(⟨Fk,Ak⟩,2+1),(show 2+1≤6 by decide),hS.symm⟩ (bQ bR)
    ·exact m2
    ·rw[aE (by assumption)]at hS;obtain⟨F2,hF2⟩:∃F2,F2=eD Fk ⟨at_,dk,kE,3⟩:=⟨_,rfl⟩
     rw[←hF2]at hS
     (refine jR ht ((⟨⟨number,applicant,beneficiary,issuer,confirmer,frm,to,cur,amt,above,below,latest,expiry,within,tenor,partial_,change,needs⟩,docs,day,Fk⟩,⟨at_,dk,kE,3⟩):Xm×Fa) [0,1,2,3,4] (show Fk.length≤1000000 by omega) ?_;try dsimp only)
     rw[←hF2];cbv;repeat'((first|refine .k fun z hz=>?_|fail)<;>cbv)
     obtain rfl:z=nI (2+1):=bR;exact bP ⟨(⟨F2,Ak⟩,2+1),(show 2+1≤6 by decide),hS.symm⟩ (bQ bR)
   ·rw[hgo]at hS;dsimp only at hS;cbv;refine fB (s:=kE) (A:=Ak) (fun i o h2=>by rw[hgo]at h2;cases h2) (fun h2=>?_);cbv;repeat'((first|refine .k fun z hz=>?_|refine .ms fun ms hms=>?_|fail)<;>cbv)
    obtain⟨A2,hA2⟩:∃A2,A2=Ak++[(kE,v)]:=⟨_,rfl⟩
    rw[←hA2]at hS;obtain rfl:ms=bK CQ A2:=by rw[hA2,cP,cS];exact hms
    obtain rfl:z=nI (2+1):=bR;exact bP ⟨(⟨Fk,A2⟩,2+1),(show 2+1≤6 by decide),hS.symm⟩ (bQ bR)
 ·obtain rfl:k=1:=bR;have hS:(dI.take (1+1)).foldl (dX ⟨⟨⟨number,applicant,beneficiary,issuer,confirmer,frm,to,cur,amt,above,below,latest,expiry,within,tenor,partial_,change,needs⟩,docs,day,F⟩,at_,⟨dk,dn,ds,dl⟩⟩) ⟨F,A⟩=dX ⟨⟨⟨number,applicant,beneficiary,issuer,confirmer,frm,to,cur,amt,above,below,latest,expiry,within,tenor,partial_,change,needs⟩,docs,day,F⟩,at_,⟨dk,dn,ds,dl⟩⟩ ⟨Fk,Ak⟩ dK:=by rw[iC ⟨⟨⟨number,applicant,beneficiary,issuer,confirmer,frm,to,cur,amt,above,below,latest,expiry,within,tenor,partial_,change,needs⟩,docs,day,F⟩,at_,⟨dk,dn,ds,dl⟩⟩ (s:=dK) rfl,←hFk]
  unfold dX at hS;dsimp only at hS;obtain⟨b,hb⟩:∃b,b=dT dl dK:=⟨_,rfl⟩
  obtain⟨v,hv1⟩:∃b,b=HA dl dK:=⟨_,rfl⟩
  rw[←hb,←hv1]at hS
  (refine hP hg ((dl,dK):List Fl×bF) hl ?_;try dsimp only)
  rw[←hb,←hv1];cases b
  ·rw[aE (show ¬(false=true) by decide)]at hS;cbv;repeat'((first|refine .k fun z hz=>?_|fail)<;>cbv)
   obtain rfl:z=nI (1+1):=bR;exact bP ⟨(⟨Fk,Ak⟩,1+1),(show 1+1≤6 by decide),hS.symm⟩ (bQ bR)
  ·rw[aF rfl]at hS;cbv;refine fB (s:=dK) (A:=Ak) (fun i o hgo=>?_) (fun hgo=>?_)
   ·rw[hgo]at hS;dsimp only at hS;cbv;repeat'((first|refine .mk (fun h=>?_) fun h=>?_|refine .k fun z hz=>?_|refine And.intro ?_ ?_|fail)<;>cbv)
    ·rw[aF (by assumption)]at hS;obtain rfl:z=nI (1+1):=bR;exact bP ⟨(⟨Fk,Ak⟩,1+1),(show 1+1≤6 by decide),hS.symm⟩ (bQ bR)
    ·exact m2
    ·rw[aE (by assumption)]at hS;obtain⟨F2,hF2⟩:∃F2,F2=eD Fk ⟨at_,dk,dK,3⟩:=⟨_,rfl⟩
     rw[←hF2]at hS
     (refine jR ht ((⟨⟨number,applicant,beneficiary,issuer,confirmer,frm,to,cur,amt,above,below,latest,expiry,within,tenor,partial_,change,needs⟩,docs,day,Fk⟩,⟨at_,dk,dK,3⟩):Xm×Fa) [0,1,2,3,4] (show Fk.length≤1000000 by omega) ?_;try dsimp only)
     rw[←hF2];cbv;repeat'((first|refine .k fun z hz=>?_|fail)<;>cbv)
     obtain rfl:z=nI (1+1):=bR;exact bP ⟨(⟨F2,Ak⟩,1+1),(show 1+1≤6 by decide),hS.symm⟩ (bQ bR)
   ·rw[hgo]at hS;dsimp only at hS;cbv;refine fB (s:=dK) (A:=Ak) (fun i o h2=>by rw[hgo]at h2;cases h2) (fun h2=>?_);cbv;repeat'((first|refine .k fun z hz=>?_|refine .ms fun ms hms=>?_|fail)<;>cbv)
    obtain⟨A2,hA2⟩:∃A2,A2=Ak++[(dK,v)]:=⟨_,rfl⟩
    rw[←hA2]at hS;obtain rfl:ms=bK CQ A2:=by rw[hA2,cP,cS];exact hms
    obtain rfl:z=nI (1+1):=bR;exact bP ⟨(⟨Fk,A2⟩,1+1),(show 1+1≤6 by decide),hS.symm⟩ (bQ bR)
 ·obtain rfl:k=0:=bR;have hS:(dI.take (0+1)).foldl (dX ⟨⟨⟨number,applicant,beneficiary,issuer,confirmer,frm,to,cur,amt,above,below,latest,expiry,within,tenor,partial_,change,needs⟩,docs,day,F⟩,at_,⟨dk,dn,ds,dl⟩⟩) ⟨F,A⟩=dX ⟨⟨⟨number,applicant,beneficiary,issuer,confirmer,frm,to,cur,amt,above,below,latest,expiry,within,tenor,partial_,change,needs⟩,docs,day,F⟩,at_,⟨dk,dn,ds,dl⟩⟩ ⟨Fk,Ak⟩ bU:=by rw[iC ⟨⟨⟨number,applicant,beneficiary,issuer,confirmer,frm,to,cur,amt,above,below,latest,expiry,within,tenor,partial_,change,needs⟩,docs,day,F⟩,at_,⟨dk,dn,ds,dl⟩⟩ (s:=bU) rfl,←hFk]
  unfold dX at hS;dsimp only at hS;obtain⟨b,hb⟩:∃b,b=dT dl bU:=⟨_,rfl⟩
  obtain⟨v,hv1⟩:∃b,b=HA dl bU:=⟨_,rfl⟩
  rw[←hb,←hv1]at hS
  (refine hP hg ((dl,bU):List Fl×bF) hl ?_;try dsimp only)
  rw[←hb,←hv1];cases b
  ·rw[aE (show ¬(false=true) by decide)]at hS;cbv;repeat'((first|refine .k fun z hz=>?_|fail)<;>cbv)
   obtain rfl:z=nI (0+1):=bR;exact bP ⟨(⟨Fk,Ak⟩,0+1),(show 0+1≤6 by decide),hS.symm⟩ (bQ bR)
  ·rw[aF rfl]at hS;cbv;refine fB (s:=bU) (A:=Ak) (fun i o hgo=>?_) (fun hgo=>?_)
   ·rw[hgo]at hS;dsimp only at hS;cbv;repeat'((first|refine .mk (fun h=>?_) fun h=>?_|refine .k fun z hz=>?_|refine And.intro ?_ ?_|fail)<;>cbv)
    ·rw[aF (by assumption)]at hS;obtain rfl:z=nI (0+1):=bR;exact bP ⟨(⟨Fk,Ak⟩,0+1),(show 0+1≤6 by decide),hS.symm⟩ (bQ bR)
    ·exact m2
    ·rw[aE (by assumption)]at hS;obtain⟨F2,hF2⟩:∃F2,F2=eD Fk ⟨at_,dk,bU,3⟩:=⟨_,rfl⟩
     rw[←hF2]at hS
     (refine jR ht ((⟨⟨number,applicant,beneficiary,issuer,confirmer,frm,to,cur,amt,above,below,latest,expiry,within,tenor,partial_,change,needs⟩,docs,day,Fk⟩,⟨at_,dk,bU,3⟩):Xm×Fa) [0,1,2,3,4] (show Fk.length≤1000000 by omega) ?_;try dsimp only)
     rw[←hF2];cbv;repeat'((first|refine .k fun z hz=>?_|fail)<;>cbv)
     obtain rfl:z=nI (0+1):=bR;exact bP ⟨(⟨F2,Ak⟩,0+1),(show 0+1≤6 by decide),hS.symm⟩ (bQ bR)
   ·rw[hgo]at hS;dsimp only at hS;cbv;refine fB (s:=bU) (A:=Ak) (fun i o h2=>by rw[hgo]at h2;cases h2) (fun h2=>?_);cbv;repeat'((first|refine .k fun z hz=>?_|refine .ms fun ms hms=>?_|fail)<;>cbv)
    obtain⟨A2,hA2⟩:∃A2,A2=Ak++[(bU,v)]:=⟨_,rfl⟩
    rw[←hA2]at hS;obtain rfl:ms=bK CQ A2:=by rw[hA2,cP,cS];exact hms
    obtain rfl:z=nI (0+1):=bR;exact bP ⟨(⟨Fk,A2⟩,0+1),(show 0+1≤6 by decide),hS.symm⟩ (bQ bR)
 ·obtain rfl:k=6:=bR;have hE:Ae ⟨⟨⟨number,applicant,beneficiary,issuer,confirmer,frm,to,cur,amt,above,below,latest,expiry,within,tenor,partial_,change,needs⟩,docs,day,F⟩,at_,⟨dk,dn,ds,dl⟩⟩ ⟨F,A⟩=⟨Fk,Ak⟩:=hFk.symm;rw[hE]at hK
  (refine .q9 ?_;cbv;exact .inl (.f9 hK))
def pY:Int×Int→AV×AV
 |(k,v)=>(.i k,.i v)
def DL:Int→AV×AV
 |k=>(.i k,.bl true)
structure lZ where
 c:Cr
 docs:List Dc
 day:Int
def AD (i:lZ) (F:List Fa):Xm:=⟨i.c,i.docs,i.day,F⟩
structure mL (i:lZ):Prop where
 c:vC i.c
 day:0≤i.day∧i.day≤1048576
 e:i.day≤i.c.expiry
 n:∀n∈i.c.needs,oI n
 m:i.c.needs.length≤64
 dm:i.docs.length≤64
 l:∀d∈i.docs,d.fields.length≤1048576∧∀n,(HA d.fields n).size≤281474976710656
def nE (l:List Ne) (k:Int):Bool:=l.any fun n=>decide (n.kind=k)
def zB (i:lZ) (p:FA) (at_:Nat) (d:Dc):FA:=
 if nE i.c.needs d.kind=true then Ae ⟨AD i [],at_,d⟩ ⟨fK ⟨AD i [],at_,d⟩ p.F,p.A⟩ else p
def Dj (i:lZ):Nat→List Dc→FA→FA
 |_,[],p=>p
 |n,d :: l,p=>Dj i (n+1) l (zB i p n d)
def mY (docs:List Dc) (k:Int):Bool:=docs.any fun d=>decide (d.kind=k)
def jK (docs:List Dc) (F:List Fa) (n:Ne):List Fa:=if mY docs n.kind=true then F else eD F ⟨-1,n.kind,⟨#[]⟩,1⟩
def jS (docs:List Dc) (l:List Ne):List Fa:=l.foldl (jK docs) []
theorem AW {docs:List Dc}{C:List (Int×Int)}{k:Int}{b:Int×Int}(hC:∀p∈C,∃d∈docs,d.kind=p.1) (hb:b∈C) (h:b.1=k):mY docs k=true:=by
 obtain⟨d,hd,he⟩:=hC b hb;unfold mY;rw[List.any_eq_true];exact⟨d,hd,aH (he.trans h)⟩
theorem Fd {docs:List Dc}{C:List (Int×Int)}{k:Int}(hC:∀d∈docs,∃p∈C,p.1=d.kind) (h:∀p∈C,Prod.fst p≠k):mY docs k=false:=by
 unfold mY;rw[List.any_eq_false];intro d hd he;obtain⟨p,hp,hq⟩:=hC d hd;exact h p hp (hq.trans (of_decide_eq_true he))
def iO:cQ:=spec (fun i:lZ=>[vS i.c,.sl 4 (bK eP i.docs),.i i.day]) (fun _=>[]) mL (fun i=>.sl 4 (bK mD (Dj i 0 i.docs ⟨jS i.docs i.c.needs,[]⟩).F)) fun _=>[]
theorem wW {α:Type}(M:α→AV×AV) (kf:α→Int) (hk:∀a,(M a).1=.i (kf a)) (s:Int):∀(A:List α) (i:Nat),(∃j a,fY (.i s) (bK M A) i=some (some (i+j))∧A[j]?=some a∧kf a=s)∨(fY (.i s) (bK M A) i=some none∧∀a∈A,kf a≠s)
 |[],i=>.inr ⟨rfl,fun a h=>by cases h⟩
 |x :: A,i=>by
  have e:bK M (x :: A)=M x :: bK M A:=rfl;rw[e];unfold fY;rw[hk x];by_cases h:kf x=s
  ·have h2:gE (.i s) (.i (kf x))=some true:=by rw[h];simp[gE,xV]
   rw[h2];exact .inl ⟨0,x,rfl,rfl,h⟩
  ·have h2:gE (.i s) (.i (kf x))=some false:=by simp[gE,xV];omega
   rw[h2];dsimp only;rcases wW M kf hk s A (i+1)with ⟨j,a,h1,h2,h3⟩|⟨h1,h2⟩
   ·left;exact⟨j+1,a,by rw[h1];congr 2;omega,by simpa using h2,h3⟩
   ·right;refine⟨h1,fun a ha=>?_⟩;rcases List.mem_cons.1 ha with rfl|ha
    ·exact h
    ·exact h2 a ha
theorem iB {α:Type}{M:α→AV×AV}{kf:α→Int}(hk:∀a,(M a).1=.i (kf a)) {s:Int}{A:List α}{K:Option (Nat×AV)→Prop}(hs:∀(i:Nat) (a:α),A[i]?=some a→kf a=s→K (some (i,(M a).2))) (hn:(∀a∈A,kf a≠s)→K none):rM (.i s) (bK M A) K:=by
 rcases wW M kf hk s A 0 with ⟨j,a,h1,h2,h3⟩|⟨h1,h2⟩
 ·refine⟨.inl ⟨j,(M a).1,(M a).2,by rw[h1,Nat.zero_add],?_,hs j a h2 h3⟩⟩;rw[dC,aD,h2];rfl
 ·exact⟨.inr ⟨h1,hn h2⟩⟩
structure SP (docs:List Dc) where
 C:List (Int×Int)
 k:Nat
 hk:k≤docs.length
 hC:∀d∈docs.take k,∃p∈C,p.1=d.kind
 hv:∀p∈C,1≤p.2∧p.2≤k
 hD:∀p∈C,∃d∈docs.take k,d.kind=p.1
theorem KX {docs:List Dc}{C C2:List (Int×Int)}{k:Nat}{d:Dc}(hx:docs[k]?=some d) (hD:∀p∈C,∃d∈docs.take k,d.kind=p.1) (h:∀p∈C2,p∈C∨p.1=d.kind):∀p∈C2,∃d∈docs.take (k+1),d.kind=p.1:=fun p hp=>by
 rw[cE hx];rcases h p hp with h|h
 ·obtain⟨e,he,hq⟩:=hD p h;exact⟨e,List.mem_append_left _ he,hq⟩
 ·exact⟨d,List.mem_append_right _ (List.mem_singleton.2 rfl),h.symm⟩
theorem F6 {C:List (Int×Int)}{i:Nat}{b b2:Int}(v:Int) (h:C[i]?=some (b,b2)) {p:Int×Int}(hp:p∈C):∃q∈C.set i (b,v),q.1=p.1:=by
 obtain⟨n,hn⟩:=aU hp;by_cases e:i=n
 ·subst e;obtain rfl:=Option.some.inj (h.symm.trans hn);exact⟨(b,v),aC (i:=i) (by rw[aP (aA.1 h).1]),rfl⟩
 ·exact⟨p,aC (i:=n) (by rw[aT e];exact hn),rfl⟩
theorem Fn {docs:List Dc}{C C2:List (Int×Int)}{k:Nat}{d:Dc}(hx:docs[k]?=some d) (hC:∀d∈docs.take k,∃p∈C,p.1=d.kind) (h1:∀p∈C,∃q∈C2,q.1=p.1) (h2:∃q∈C2,q.1=d.kind):∀d∈docs.take (k+1),∃p∈C2,p.1=d.kind:=fun e he=>by
 rw[cE hx]at he;rcases List.mem_append.1 he with he|he
 ·obtain⟨p,hp,hpe⟩:=hC e he;obtain⟨q,hq,hqe⟩:=h1 p hp;exact⟨q,hq,hqe.trans hpe⟩
 ·obtain rfl:=List.mem_singleton.1 he;exact h2
theorem NX {C C2:List (Int×Int)}{k:Nat}(hv:∀p∈C,1≤p.2∧p.2≤k) (h:∀p∈C2,p∈C∨(1≤p.2∧p.2≤(k:Int)+1)):∀p∈C2,1≤p.2∧p.2≤((k+1:Nat):Int):=fun p hp=>by
 rcases h p hp with h|h
 ·have:=hv p h;omega
 ·omega
theorem D6 (C:List (Int×Int)) (i:Nat) (x:Int×Int):(bK pY C).set i (pY x)=bK pY (C.set i x):=by
 rw[dC,dC,List.map_set]
structure TN (docs:List Dc) (needs:List Ne) where
 S:List Int
 F:List Fa
 k:Nat
 hk:k≤needs.length
 h1:∀s∈S,∃n∈needs.take k,n.kind=s
 h2:∀n∈needs.take k,n.kind∈S
 hF:F=jS docs (needs.take k)
 hl:F.length≤k
theorem My {docs:List Dc}{needs:List Ne}{k:Nat}{n:Ne}(hx:needs[k]?=some n):jS docs (needs.take (k+1))=jK docs (jS docs (needs.take k)) n:=by
 unfold jS;rw[cE hx,List.foldl_append];rfl
theorem oQ {docs:List Dc}{n:Ne}{F:List Fa}(h:mY docs n.kind=true):jK docs F n=F:=aF h
theorem Aq {docs:List Dc}{n:Ne}{F:List Fa}(h:mY docs n.kind=false):jK docs F n=eD F ⟨-1,n.kind,⟨#[]⟩,1⟩:=aE (by rw[h];decide)
theorem Jv {needs:List Ne}{S:List Int}{k:Nat}{n:Ne}(hx:needs[k]?=some n) (h1:∀s∈S,∃n∈needs.take k,n.kind=s) (h2:∀n∈needs.take k,n.kind∈S) {S2:List Int}(hS:S2=S++[n.kind]∨(S2=S∧n.kind∈S)):(∀s∈S2,∃n∈needs.take (k+1),n.kind=s)∧∀n∈needs.take (k+1),n.kind∈S2:=by
 have hsub:∀s∈S,∃n∈needs.take (k+1),n.kind=s:=fun s hs=>by
  obtain⟨m,hm,e⟩:=h1 s hs;exact⟨m,by rw[cE hx];exact List.mem_append_left _ hm,e⟩
 have hnm:n∈needs.take (k+1):=by rw[cE hx];exact List.mem_append_right _ (List.mem_singleton.2 rfl)
 rcases hS with rfl|⟨rfl,hin⟩
 ·refine⟨fun s hs=>?_,fun m hm=>?_⟩
  ·rcases List.mem_append.1 hs with h|h
   ·exact hsub s h
   ·obtain rfl:=List.mem_singleton.1 h;exact⟨n,hnm,rfl⟩
  ·rw[cE hx]at hm;rcases List.mem_append.1 hm with h|h
   ·exact List.mem_append_left _ (h2 m h)
   ·obtain rfl:=List.mem_singleton.1 h;exact List.mem_append_right _ (List.mem_singleton.2 rfl)
 ·refine⟨hsub,fun m hm=>?_⟩;rw[cE hx]at hm;rcases List.mem_append.1 hm with h|h
  ·exact h2 m h
  ·obtain rfl:=List.mem_singleton.1 h;exact hin
theorem Hy {α:Type}(f:α→AV×AV) {l:List α}{i:Nat}{x:α}(h:l[i]?=some x):(bK f l).set i (f x)=bK f l:=by
 rw[dC,←List.map_set];congr 1;apply List.ext_getElem?;intro n;by_cases e:i=n
 ·subst e;rw[aP (aA.1 h).1,h]
 ·rw[aT e]
theorem tU (i:gL) (F:List Fa) (hn:∀n∈i.x.c.needs,oI n) (hm:i.x.c.needs.length≤64):(fK i F).length≤F.length+4100:=by
 unfold fK;have h1:=jQ i i.x.c.needs hn (gR i F);have h2:=qL i F;omega
theorem Ga (i:lZ) (p:FA) (n:Nat) (d:Dc) (hn:∀n∈i.c.needs,oI n) (hm:i.c.needs.length≤64):(zB i p n d).F.length≤p.F.length+5000∧(zB i p n d).A.length≤p.A.length+6:=by
 unfold zB
 split
 ·have h1:=tU ⟨AD i [],n,d⟩ p.F hn hm;have h2:=yD ⟨AD i [],n,d⟩ dI ⟨fK ⟨AD i [],n,d⟩ p.F,p.A⟩;rw[show dI.length=6 from rfl]at h2;unfold Ae;dsimp only at h1 h2⊢;omega
 ·omega
theorem AY (i:lZ):∀(l:List Dc) (n k:Nat) (d:Dc) (p:FA),l[k]?=some d→Dj i n (l.take (k+1)) p=zB i (Dj i n (l.take k) p) (n+k) d
 |[],n,k,d,p,h=>by simp at h
 |e :: l,n,0,d,p,h=>by
  obtain rfl:e=d:=by simpa using h
  rfl
 |e :: l,n,k+1,d,p,h=>by
  have:=AY i l (n+1) k d (zB i p n e) (by simpa using h);rw[List.take_succ_cons,List.take_succ_cons];unfold Dj;rw[this];congr 1;omega
theorem Ij {l:List Ne}{S:List Int}{a:Int}(h1:∀s∈S,∃n∈l,n.kind=s) (ha:a∈S):nE l a=true:=by
 obtain⟨n,hn,e⟩:=h1 a ha;exact List.any_eq_true.2 ⟨n,hn,aH e⟩
theorem LM {l:List Ne}{S:List Int}{a:Int}(h2:∀n∈l,n.kind∈S) (ha:∀s∈S,id s≠a):nE l a=false:=by
 cases h:nE l a with
 |false=>rfl
 |true=>
  obtain⟨n,hn,e⟩:=List.any_eq_true.1 h;exact absurd (of_decide_eq_true e) (ha _ (h2 n hn))
structure UZ (i:lZ) where
 p:FA
 k:Nat
 hk:k≤i.docs.length
 hp:p=Dj i 0 (i.docs.take k) ⟨jS i.docs i.c.needs,[]⟩
 hF:p.F.length≤64+5000 * k
 hA:p.A.length≤6 * k
theorem sU (i j:gL) (h1:i.at_=j.at_) (h2:i.d=j.d):∀(l:List Ne) (F:List Fa),dQ i l F=dQ j l F
 |[],_=>rfl
 |n :: l,F=>by
  have e:gO i n F=gO j n F:=by unfold gO;rw[h2,jO i j h1 h2]
  unfold dQ;rw[e];exact sU i j h1 h2 l _
theorem DQ (c:Cr) (docs:List Dc) (day:Int) (F1 F2:List Fa) (n:Nat) (d:Dc) (F:List Fa):fK ⟨⟨c,docs,day,F1⟩,n,d⟩ F=fK ⟨⟨c,docs,day,F2⟩,n,d⟩ F:=by
 have hb:gR ⟨⟨c,docs,day,F1⟩,n,d⟩ F=gR ⟨⟨c,docs,day,F2⟩,n,d⟩ F:=rfl;unfold fK;rw[hb];exact sU ⟨⟨c,docs,day,F1⟩,n,d⟩ ⟨⟨c,docs,day,F2⟩,n,d⟩ rfl rfl c.needs _
theorem adH (i j:gL) (h1:i.at_=j.at_) (h2:i.d=j.d) (p:FA):Ae i p=Ae j p:=by
 have e:dX i=dX j:=by funext p n;unfold dX;rw[h1,h2]
 unfold Ae;rw[e]
theorem As (P:bG) (hp1:bH P 34 CX) (ho:bH P 35 Ag) (m2:cL P 33) (ht:bH P 33 tZ):bL P UX iO:=by
 intro args H K hc;obtain⟨⟨⟨number,applicant,beneficiary,issuer,confirmer,frm,to,cur,amt,above,below,latest,expiry,within,tenor,partial_,change,needs⟩,docs,day⟩,rfl,rfl,hp,hK⟩:=hc;refine⟨cW,?_⟩;dsimp only at hp hK⊢;obtain⟨hc,hdy,he,hn,hm,hdm,hl⟩:=hp
 try dsimp only at hc hdy he hn hm hdm hl
 obtain⟨n,hnl⟩:∃n,n=docs.length:=⟨_,rfl⟩
 have hmz:=bN eP docs;cbv;repeat'((first|refine .n fun h=>?_|refine .k fun z hz=>?_|fail)<;>cbv)
 refine iD (Gh.adoptC 1 0 44 4 rfl rfl) ?_;cbv;refine bZ [5] (fun p:SP docs=>[(10,.hd 5),(39,.i (nI p.k))]) (fun p=>[.blk 33 [.str number,.str applicant,.str beneficiary,.str issuer,.str confirmer,.str frm,.str to,.str cur,.i amt,.i above,.i below,.i latest,.i expiry,.i within,.i tenor,.bl partial_,.bl change,.sl 8 (bK iQ needs)],.blk 38 [.hd 6],.map 91 [],.blk 91 [.hd 2],.blk 95 [.str number,.str applicant,.str beneficiary,.str issuer,.str confirmer,.str frm,.str to,.str cur,.i amt,.i above,.i below,.i latest,.i expiry,.i within,.i tenor,.bl partial_,.bl change,.sl 8 (bK iQ needs),.sl 4 (bK eP docs),.i day,.clo 33 [.ptr 3 0,.ptr 1 0]],.map 96 (bK pY p.C),.row 44 4 []]) (fun p=>iH n p.k) ⟨[],0,aI _,fun d h=>by simp at h,(fun p h=>nomatch h),(fun p h=>nomatch h)⟩ ?_;rintro ⟨C,k,hk,hC,hv,hD⟩
 try dsimp only at hk hC hv hD⊢
 cbv;repeat'((first|refine .mk (fun h=>?_) fun h=>?_|refine .k fun z hz=>?_|fail)<;>cbv)
 ·refine cZ bR bR fun j s hj hx=>?_
  obtain rfl:k=j:=bR;have htk:=cE hx;obtain⟨dk,dn,ds,dl⟩:=s;cbv;refine iB (M:=pY) (kf:=Prod.fst) (fun _=>rfl) (s:=dk) (A:=C) (fun i a ha hak=>?_) (fun hno=>?_)
  ·obtain⟨a1,a2⟩:=a;obtain rfl:a1=dk:=hak;have hv1:=hv _ (aC ha)
   try dsimp only at hv1
   cbv;repeat'((first|refine .k fun z hz=>?_|fail)<;>cbv)
   refine iB (M:=pY) (kf:=Prod.fst) (fun _=>rfl) (s:=a1) (A:=C) (fun i2 b hb hbk=>?_) (fun hno=>absurd rfl (hno _ (aC ha)));obtain⟨b1,b2⟩:=b;obtain rfl:b1=a1:=hbk;cbv;repeat'((first|refine .k fun z hz=>?_|refine .ms fun ms hms=>?_|fail)<;>cbv)
   subst ‹(_:Int)=a2+1›;obtain rfl:z=nI (k+1):=bR;obtain⟨C2,hC2⟩:∃C2,C2=C.set i2 (b1,a2+1):=⟨_,rfl⟩
   obtain rfl:ms=bK pY C2:=by rw[hms,hC2,←D6];rfl
   exact bP ⟨C2,k+1,by exact bR,Fn hx hC (fun p hp=>by rw[hC2];exact F6 (a2+1) hb hp) (by rw[hC2];exact F6 (a2+1) hb (aC hb)),NX hv fun p hp=>by rw[hC2]at hp;exact(List.mem_or_eq_of_mem_set hp).imp id fun e=>by rw[e];exact⟨Int.le_trans hv1.1 (Int.le_add_of_nonneg_right (by decide)),Int.add_le_add_right hv1.2 1⟩,KX hx hD fun p hp=>by rw[hC2]at hp;exact(List.mem_or_eq_of_mem_set hp).imp id fun e=>by rw[e]⟩ (bQ bR)
  ·cbv;repeat'((first|refine .k fun z hz=>?_|fail)<;>cbv)
   refine iB (M:=pY) (kf:=Prod.fst) (fun _=>rfl) (s:=dk) (A:=C) (fun i2 b hb hbk=>absurd hbk (hno _ (aC hb))) (fun _=>?_);cbv;repeat'((first|refine .k fun z hz=>?_|refine .ms fun ms hms=>?_|fail)<;>cbv)
   subst ‹(_:Int)=0+1›;obtain rfl:z=nI (k+1):=bR;obtain⟨C2,hC2⟩:∃C2,C2=C++[(dk,1)]:=⟨_,rfl⟩
   obtain rfl:ms=bK pY C2:=by rw[hms,hC2,cP,cS];rfl
   exact bP ⟨C2,k+1,by exact bR,Fn hx hC (fun p hp=>⟨p,by rw[hC2];exact List.mem_append_left _ hp,rfl⟩) ⟨(dk,1),by rw[hC2];exact List.mem_append_right _ (List.mem_singleton.2 rfl),rfl⟩,NX hv fun p hp=>by rw[hC2]at hp;exact(List.mem_append.1 hp).imp id fun e=>by rw[List.mem_singleton.1 e];exact⟨by show (1:Int)≤1;omega,by show (1:Int)≤(k:Int)+1;omega⟩,KX hx hD fun p hp=>by rw[hC2]at hp;exact(List.mem_append.1 hp).imp id fun e=>by rw[List.mem_singleton.1 e]⟩ (bQ bR)
 ·have hkn:k=docs.length:=bR;rw[hkn,List.take_length]at hC hD;have hmn:=bN iQ needs;obtain⟨m,hml⟩:∃m,m=needs.length:=⟨_,rfl⟩
  refine bZ [2,6,7] (fun p:TN docs needs=>[(13,.hd 7),(53,.i (nI p.k))]) (fun p=>[.blk 33 [.str number,.str applicant,.str beneficiary,.str issuer,.str confirmer,.str frm,.str to,.str cur,.i amt,.i above,.i below,.i latest,.i expiry,.i within,.i tenor,.bl partial_,.bl change,.sl 8 (bK iQ needs)],.blk 38 [.hd 6],.map 91 (bK nZ p.F),.blk 91 [.hd 2],.blk 95 [.str number,.str applicant,.str beneficiary,.str issuer,.str confirmer,.str frm,.str to,.str cur,.i amt,.i above,.i below,.i latest,.i expiry,.i within,.i tenor,.bl partial_,.bl change,.sl 8 (bK iQ needs),.sl 4 (bK eP docs),.i day,.clo 33 [.ptr 3 0,.ptr 1 0]],.map 96 (bK pY C),.row 44 4 (bK mD p.F),.map 97 (bK DL p.S)]) (fun p=>iH m p.k) ⟨[],[],0,aI _,(fun s h=>nomatch h),(fun n h=>nomatch h),rfl,aN _⟩ ?_;rintro ⟨S,Fk,k,hk,h1,h2,hFk,hFl⟩
  try dsimp only at hk h1 h2 hFk hFl⊢
  cbv;repeat'((first|refine .mk (fun h=>?_) fun h=>?_|refine .k fun z hz=>?_|fail)<;>cbv)
  ·refine cZ bR bR fun j s hj hx=>?_
   obtain rfl:k=j:=bR;have hnx:=My (docs:=docs) hx;obtain⟨nk,rules⟩:=s;cbv;refine iB (M:=DL) (kf:=id) (fun _=>rfl) (s:=nk) (A:=S) (fun i a ha hak=>?_) (fun hnoA=>?_)
   ·obtain rfl:a=nk:=hak;cbv;repeat'((first|refine .ms fun ms hms=>?_|fail)<;>cbv)
    obtain rfl:ms=bK DL S:=hms.trans (Hy DL ha);have hq:=Jv hx h1 h2 (S2:=S) (.inr ⟨rfl,aC ha⟩);refine iB (M:=pY) (kf:=Prod.fst) (fun _=>rfl) (s:=a) (A:=C) (fun i2 b hb hbk=>?_) (fun hno=>?_)
    ·have hv1:=hv _ (aC hb);have hyes:=AW hD (aC hb) hbk;obtain⟨b1,b2⟩:=b
     try dsimp only at hv1
     obtain rfl:b1=a:=hbk;cbv;repeat'((first|refine .n fun h=>?_|refine .k fun z hz=>?_|fail)<;>cbv)
     obtain rfl:z=nI (k+1):=bR;exact bP ⟨S,Fk,k+1,by exact bR,hq.1,hq.2,by rw[hnx,oQ hyes];exact hFk,by exact bR⟩ (bQ bR)
    ·cbv;repeat'((first|refine .y fun h=>?_|refine And.intro ?_ ?_|fail)<;>cbv)
     ·exact m2
     obtain⟨F2,hF2⟩:∃F2,F2=eD Fk ⟨-1,a,⟨#[]⟩,1⟩:=⟨_,rfl⟩
     have hF2l:F2.length≤k+1:=by have:=nU Fk ⟨-1,a,⟨#[]⟩,1⟩;rw[←hF2]at this;omega
     (refine jR ht ((⟨⟨number,applicant,beneficiary,issuer,confirmer,frm,to,cur,amt,above,below,latest,expiry,within,tenor,partial_,change,needs⟩,docs,day,Fk⟩,⟨-1,a,⟨#[]⟩,1⟩):Xm×Fa) [4,1,2,3,6] (show Fk.length≤1000000 by omega) ?_;try dsimp only)
     rw[←hF2];cbv;repeat'((first|refine .k fun z hz=>?_|fail)<;>cbv)
     obtain rfl:z=nI (k+1):=bR;exact bP ⟨S,F2,k+1,by exact bR,hq.1,hq.2,by rw[hnx,Aq (Fd hC hno),←hFk];exact hF2,hF2l⟩ (bQ bR)
   ·cbv;repeat'((first|refine .ms fun ms hms=>?_|fail)<;>cbv)
    obtain⟨S2,hS2⟩:∃S2,S2=S++[nk]:=⟨_,rfl⟩
    obtain rfl:ms=bK DL S2:=by rw[hms,hS2,cP,cS];rfl
    have hq:=Jv hx h1 h2 (S2:=S2) (.inl hS2);refine iB (M:=pY) (kf:=Prod.fst) (fun _=>rfl) (s:=nk) (A:=C) (fun i2 b hb hbk=>?_) (fun hno=>?_)
    ·have hv1:=hv _ (aC hb);have hyes:=AW hD (aC hb) hbk;obtain⟨b1,b2⟩:=b
     try dsimp only at hv1
     obtain rfl:b1=nk:=hbk;cbv;repeat'((first|refine .n fun h=>?_|refine .k fun z hz=>?_|fail)<;>cbv)
     obtain rfl:z=nI (k+1):=bR;exact bP ⟨S2,Fk,k+1,by exact bR,hq.1,hq.2,by rw[hnx,oQ hyes];exact hFk,by exact bR⟩ (bQ bR)
    ·cbv;repeat'((first|refine .y fun h=>?_|refine And.intro ?_ ?_|fail)<;>cbv)
     ·exact m2
     obtain⟨F2,hF2⟩:∃F2,F2=eD Fk ⟨-1,nk,⟨#[]⟩,1⟩:=⟨_,rfl⟩
     have hF2l:F2.length≤k+1:=by have:=nU Fk ⟨-1,nk,⟨#[]⟩,1⟩;rw[←hF2]at this;omega
     (refine jR ht ((⟨⟨number,applicant,beneficiary,issuer,confirmer,frm,to,cur,amt,above,below,latest,expiry,within,tenor,partial_,change,needs⟩,docs,day,Fk⟩,⟨-1,nk,⟨#[]⟩,1⟩):Xm×Fa) [4,1,2,3,6] (show Fk.length≤1000000 by omega) ?_;try dsimp only)
     rw[←hF2];cbv;repeat'((first|refine .k fun z hz=>?_|fail)<;>cbv)
     obtain rfl:z=nI (k+1):=bR;exact bP ⟨S2,F2,k+1,by exact bR,hq.1,hq.2,by rw[hnx,Aq (Fd hC hno),←hFk];exact hF2,hF2l⟩ (bQ bR)
  ·have hkm:k=needs.length:=bR;rw[hkm,List.take_length]at h1 h2 hFk;have hF64:Fk.length≤64:=by omega
   refine bZ [2,6,8] (fun p:UZ ⟨⟨number,applicant,beneficiary,issuer,confirmer,frm,to,cur,amt,above,below,latest,expiry,within,tenor,partial_,change,needs⟩,docs,day⟩=>[(16,.hd 8),(79,.i (nI p.k))]) (fun p=>[.blk 33 [.str number,.str applicant,.str beneficiary,.str issuer,.str confirmer,.str frm,.str to,.str cur,.i amt,.i above,.i below,.i latest,.i expiry,.i within,.i tenor,.bl partial_,.bl change,.sl 8 (bK iQ needs)],.blk 38 [.hd 6],.map 91 (bK nZ p.p.F),.blk 91 [.hd 2],.blk 95 [.str number,.str applicant,.str beneficiary,.str issuer,.str confirmer,.str frm,.str to,.str cur,.i amt,.i above,.i below,.i latest,.i expiry,.i within,.i tenor,.bl partial_,.bl change,.sl 8 (bK iQ needs),.sl 4 (bK eP docs),.i day,.clo 33 [.ptr 3 0,.ptr 1 0]],.map 96 (bK pY C),.row 44 4 (bK mD p.p.F),.map 97 (bK DL S),.map 103 (bK CQ p.p.A)]) (fun p=>iH n p.k) ⟨⟨Fk,[]⟩,0,aI _,by rw[hFk];rfl,by show Fk.length≤64+5000 * 0;omega,aN _⟩ ?_;obtain⟨F0,hF0⟩:∃F0,F0=jS docs needs:=⟨_,rfl⟩
   rw[←hF0]at hK;clear hFk hF64 hFl Fk;rintro ⟨⟨Fk,Ak⟩,k,hk,hp,hF,hA⟩
   try dsimp only at hk hp hF hA⊢
   rw[←hF0]at hp;cbv;repeat'((first|refine .mk (fun h=>?_) fun h=>?_|fail)<;>cbv)
   ·refine cZ bR bR fun j s hj hx=>?_
    obtain rfl:k=j:=bR;have hnx:=AY ⟨⟨number,applicant,beneficiary,issuer,confirmer,frm,to,cur,amt,above,below,latest,expiry,within,tenor,partial_,change,needs⟩,docs,day⟩ docs 0 k s ⟨F0,[]⟩ hx;rw[←hp,Nat.zero_add]at hnx;have hls:=hl s (aC hx);have hlen:=Ga ⟨⟨number,applicant,beneficiary,issuer,confirmer,frm,to,cur,amt,above,below,latest,expiry,within,tenor,partial_,change,needs⟩,docs,day⟩ ⟨Fk,Ak⟩ k s hn hm;rw[←hnx]at hlen;unfold zB at hnx;dsimp only at hnx hlen;obtain⟨dk,dn,ds,dl⟩:=s
    try dsimp only at hls hnx
    cbv;refine iB (M:=DL) (kf:=id) (fun _=>rfl) (s:=dk) (A:=S) (fun i a ha hak=>?_) (fun hno=>?_)
    ·obtain rfl:a=dk:=hak;rw[aF (Ij h1 (aC ha))]at hnx;have hpl:=tU ⟨AD ⟨⟨number,applicant,beneficiary,issuer,confirmer,frm,to,cur,amt,above,below,latest,expiry,within,tenor,partial_,change,needs⟩,docs,day⟩ [],k,⟨a,dn,ds,dl⟩⟩ Fk hn hm;unfold AD at hnx hpl;dsimp only at hnx hpl;obtain⟨F2,hF2⟩:∃F2,F2=fK ⟨⟨⟨number,applicant,beneficiary,issuer,confirmer,frm,to,cur,amt,above,below,latest,expiry,within,tenor,partial_,change,needs⟩,docs,day,[]⟩,k,⟨a,dn,ds,dl⟩⟩ Fk:=⟨_,rfl⟩
     rw[←hF2]at hnx hpl;obtain⟨q,hq⟩:∃q,q=Ae ⟨⟨⟨number,applicant,beneficiary,issuer,confirmer,frm,to,cur,amt,above,below,latest,expiry,within,tenor,partial_,change,needs⟩,docs,day,[]⟩,k,⟨a,dn,ds,dl⟩⟩ ⟨F2,Ak⟩:=⟨_,rfl⟩
     rw[←hq]at hnx;obtain⟨F3,A3⟩:=q;rw[hnx]at hlen;dsimp only at hlen;cbv;refine cU hp1 (⟨⟨⟨number,applicant,beneficiary,issuer,confirmer,frm,to,cur,amt,above,below,latest,expiry,within,tenor,partial_,change,needs⟩,docs,day,Fk⟩,k,⟨a,dn,ds,dl⟩⟩:gL) [4,1,2,3,6] ⟨⟨hx,hls.1,hls.2,(show Fk.length≤900000 by omega),hc,hdy⟩,hn,hm⟩ rfl rfl (by decide) rfl rfl rfl rfl rfl ?_;unfold oA
     try dsimp only
     rw[DQ ⟨number,applicant,beneficiary,issuer,confirmer,frm,to,cur,amt,above,below,latest,expiry,within,tenor,partial_,change,needs⟩ docs day Fk [] k ⟨a,dn,ds,dl⟩ Fk,←hF2];cbv;refine cU ho ((⟨⟨⟨number,applicant,beneficiary,issuer,confirmer,frm,to,cur,amt,above,below,latest,expiry,within,tenor,partial_,change,needs⟩,docs,day,F2⟩,k,⟨a,dn,ds,dl⟩⟩,Ak):gL×AL) [4,1,2,3,6,8] ⟨⟨hx,hls.1,hls.2,(show F2.length≤900000 by omega),hc,hdy⟩,(show Ak.length≤10000 by omega)⟩ rfl rfl (by decide) rfl rfl rfl rfl rfl ?_;unfold oA
     try dsimp only
     rw[adH ⟨⟨⟨number,applicant,beneficiary,issuer,confirmer,frm,to,cur,amt,above,below,latest,expiry,within,tenor,partial_,change,needs⟩,docs,day,F2⟩,k,⟨a,dn,ds,dl⟩⟩ ⟨⟨⟨number,applicant,beneficiary,issuer,confirmer,frm,to,cur,amt,above,below,latest,expiry,within,tenor,partial_,change,needs⟩,docs,day,[]⟩,k,⟨a,dn,ds,dl⟩⟩ rfl rfl,←hq]
     try dsimp only
     cbv;repeat'((first|refine .k fun z hz=>?_|fail)<;>cbv)
     obtain rfl:z=nI (k+1):=bR;exact bP ⟨⟨F3,A3⟩,k+1,by exact bR,by rw[←hF0];exact hnx.symm,(show F3.length≤64+5000 * (k+1) by omega),(show A3.length≤6 * (k+1) by omega)⟩ (bQ bR)
    ·rw[aE (by rw[LM h2 hno];decide)]at hnx;cbv;repeat'((first|refine .k fun z hz=>?_|fail)<;>cbv)
     obtain rfl:z=nI (k+1):=bR;exact bP ⟨⟨Fk,Ak⟩,k+1,by exact bR,by rw[←hF0];exact hnx.symm,(show Fk.length≤64+5000 * (k+1) by omega),(show Ak.length≤6 * (k+1) by omega)⟩ (bQ bR)
   ·have hke:k=docs.length:=bR;rw[hke,List.take_length]at hp;rw[←hp]at hK
    try dsimp only at hK
    (refine .r9 (Gh.plain 6 rfl) ?_;cbv;exact .inl (.g9 hK))
def bX (i:lZ):List Fa:=(Dj i 0 i.docs ⟨jS i.docs i.c.needs,[]⟩).F
def afU:cQ:=spec (fun i:lZ=>[vS i.c,.sl 4 (bK eP i.docs),.i i.day]) (fun _=>[]) mL (fun i=>.bl (decide (bX i=[]))) fun _=>[]
theorem Ho (P:bG) (he:bH P 10 iO):bL P x9 afU:=by
 intro args H K hc;obtain⟨⟨⟨number,applicant,beneficiary,issuer,confirmer,frm,to,cur,amt,above,below,latest,expiry,within,tenor,partial_,change,needs⟩,docs,day⟩,rfl,rfl,hp,hK⟩:=hc;refine⟨cW,?_⟩;dsimp only at hp hK⊢;obtain⟨F,hF⟩:∃F,F=bX ⟨⟨number,applicant,beneficiary,issuer,confirmer,frm,to,cur,amt,above,below,latest,expiry,within,tenor,partial_,change,needs⟩,docs,day⟩:=⟨_,rfl⟩
 rw[←hF]at hK;have hFl:=bN mD F;obtain⟨b,hb⟩:∃b,b=decide (F=[]):=⟨_,rfl⟩
 rw[←hb]at hK;unfold bX at hF
 try dsimp only at hF
 cbv
 (refine hP he (⟨⟨number,applicant,beneficiary,issuer,confirmer,frm,to,cur,amt,above,below,latest,expiry,within,tenor,partial_,change,needs⟩,docs,day⟩:lZ) hp ?_;try dsimp only)
 rw[←hF];cbv;repeat'((first|refine .mk (fun h=>?_) fun h=>?_|refine .k fun z hz=>?_|fail)<;>cbv)
 ·have hF2:=bN mD F;obtain rfl:F=[]:=List.length_eq_zero_iff.1 (by rw[←hF2];((try simp only[vn]at *)<;>omega));obtain rfl:b=true:=hb.trans (aH rfl)
  (refine .q9 ?_;cbv;exact .inl (.f9 hK))
 ·have hF2:=bN mD F;obtain rfl:b=false:=hb.trans (aG fun e=>by rw[hF2,e]at hz;simp at hz;contradiction)
  (refine .q9 ?_;cbv;exact .inl (.f9 hK))
def vF:De:=⟨⟨#[100]⟩,⟨#[115]⟩,⟨#[121]⟩,⟨#[]⟩,⟨#[]⟩,⟨#[]⟩,⟨#[]⟩,⟨#[]⟩,⟨#[]⟩,⟨#[85,83,68]⟩,5,[],0,0,0,0,0⟩
def Lc:cQ:=spec (fun _:Unit=>[]) (fun _=>[]) (fun _=>True) (fun _=>.bl true) fun _=>[]
theorem Hl (P:bG) (hw:bH P 29 Fz):bL P x7 Lc:=by
 intro args H K hc;obtain⟨⟨⟩,rfl,rfl,hp,hK⟩:=hc;refine⟨cW,?_⟩;dsimp only at hp hK⊢;obtain⟨nl,hnl⟩:∃nl,nl=cR vF:=⟨_,rfl⟩
 have hl:(bK iQ nl).length=4:=by rw[bN,hnl];rfl
 have hd0:Al vF:=⟨⟨by decide,by decide⟩,⟨by decide,by decide⟩,⟨by decide,by decide⟩,by decide,⟨by decide,fun b h=>nomatch h⟩⟩
 cbv;refine vP [DeA vF] (by unfold vF DeA;exact Si) ?_
 (refine hP hw vF hd0 ?_;try dsimp only)
 rw[show vS (eO vF)=.agg [.str ⟨#[100]⟩,.str ⟨#[121]⟩,.str ⟨#[115]⟩,.str ⟨#[]⟩,.str ⟨#[]⟩,.str ⟨#[]⟩,.str ⟨#[]⟩,.str ⟨#[85,83,68]⟩,.i 5,.i 0,.i 0,.i 0,.i 0,.i 21,.i 0,.bl false,.bl true,.sl 8 (bK iQ (cR vF))] from rfl,←hnl];cbv;repeat'((first|refine .y fun h=>?_|refine .mk (fun h=>?_) fun h=>?_|refine .k fun z hz=>?_|fail)<;>cbv)
 ·(refine .q9 ?_;cbv;exact .inl (.f9 hK))
 ·exact absurd rfl ‹¬_›
 ·exact absurd rfl ‹¬_›
structure Fu (c:Cr):Prop where
 c:vC c
structure Bs (r:Nd):Prop where
 p:dG r
 f:r.field.size≤16
 t:r.text.size≤2097152
 n:i64 r.num
structure B0 (n:Ne):Prop where
 k:0≤n.kind∧n.kind≤5
 r:∀r∈n.rules,Bs r
 l:2≤n.rules.length∧n.rules.length≤8
structure Iq (c:Cr):Prop where
 nu:c.number.size≤1048576
 ap:c.applicant.size≤1048576
 be:c.beneficiary.size≤1048576
 is_:c.issuer.size≤1048576
 cf:c.confirmer=⟨#[]⟩
 frm:c.frm.size≤1048576
 to:c.to.size≤1048576
 cu:c.cur.size≤1048576
 amt:i64 c.amt
 above:c.above=0
 below:c.below=0
 latest:i64 c.latest
 expiry:i64 c.expiry
 within:c.within=21
 tenor:i64 c.tenor
 m:c.needs.length≤8
 n:∀n∈c.needs,B0 n
structure P1 (d:De):Prop where
 nu:d.number.size≤1048576
 se:d.seller.size≤1048576
 bu:d.buyer.size≤1048576
 ca:d.carrier.size≤1048576
 is_:d.issuer.size≤1048576
 in_:d.insurer.size≤1048576
 frm:d.frm.size≤1048576
 to:d.to.size≤1048576
 cu:d.cur.size≤1048576
 mks:(hZ d.boxes).size≤2097152
 latest:i64 d.latest
 expiry:i64 d.expiry
 tenor:i64 d.tenor
theorem eF (n:Int) (h:i64 n):(cT n).size≤21:=Lib.itoa_length_le n h.1 h.2
theorem nd3 {f t:bF}(hf:f.size≤16) (ht:t.size≤2097152):Bs ⟨3,f,t,0⟩:=⟨.inl rfl,hf,ht,(show i64 0 from ⟨by decide,by decide⟩)⟩
theorem MW {d:De}(ho:Al d) (h:P1 d):Iq (eO d):=by
 have hb:(cT (d.boxes.length:Int)).size≤21:=eF _ ⟨by omega,by have:=ho.mks.few;omega⟩;have ha:(cT d.amt).size≤21:=eF _ ho.amt;have hse:=h.se;have hbu:=h.bu;have hca:=h.ca;have hfr:=h.frm;have hto:=h.to;have hcu:=h.cu;have hmk:=h.mks;have z0:(ByteArray.mk #[]).size=0:=rfl;have i1:B0 (fL d):=⟨⟨by show (0:Int)≤0;decide,by show (0:Int)≤5;decide⟩,fun r hr=>by
  unfold fL at hr;simp only[List.mem_cons,List.not_mem_nil,or_false]at hr;rcases hr with rfl|rfl|rfl|rfl|rfl|rfl
  all_goals exact nd3 (Nat.le_of_ble_eq_true rfl) (by omega),⟨Nat.le_of_ble_eq_true rfl,Nat.le_of_ble_eq_true rfl⟩⟩
 have i2:B0 (fS d):=⟨⟨by show (0:Int)≤1;decide,by show (1:Int)≤5;decide⟩,fun r hr=>by
  unfold fS at hr;simp only[List.mem_cons,List.not_mem_nil,or_false]at hr;rcases hr with rfl|rfl
  all_goals exact nd3 (Nat.le_of_ble_eq_true rfl) (by omega),⟨Nat.le_of_ble_eq_true rfl,Nat.le_of_ble_eq_true rfl⟩⟩
 have i3:B0 (fQ d):=⟨⟨by show (0:Int)≤2;decide,by show (2:Int)≤5;decide⟩,fun r hr=>by
  unfold fQ at hr;simp only[List.mem_cons,List.not_mem_nil,or_false]at hr;rcases hr with rfl|rfl|rfl|rfl|rfl|rfl|rfl
  ·exact nd3 (Nat.le_of_ble_eq_true rfl) (by omega)
  ·exact nd3 (Nat.le_of_ble_eq_true rfl) (by omega)
  ·exact nd3 (Nat.le_of_ble_eq_true rfl) (by omega)
  ·exact nd3 (Nat.le_of_ble_eq_true rfl) (by omega)
  ·exact nd3 (Nat.le_of_ble_eq_true rfl) (by omega)
  ·exact nd3 (Nat.le_of_ble_eq_true rfl) (Nat.le_of_ble_eq_true rfl)
  ·exact⟨.inr (.inl rfl),Nat.le_of_ble_eq_true rfl,aI _,h.latest⟩,⟨Nat.le_of_ble_eq_true rfl,Nat.le_of_ble_eq_true rfl⟩⟩
 have i4:B0 (iN d):=⟨⟨by show (0:Int)≤3;decide,by show (3:Int)≤5;decide⟩,fun r hr=>by
  unfold iN at hr;simp only[List.mem_cons,List.not_mem_nil,or_false]at hr;rcases hr with rfl|rfl|rfl|rfl
  ·exact nd3 (Nat.le_of_ble_eq_true rfl) (by omega)
  ·exact nd3 (Nat.le_of_ble_eq_true rfl) (by omega)
  ·exact nd3 (Nat.le_of_ble_eq_true rfl) (by omega)
  ·exact⟨.inr (.inr rfl),Nat.le_of_ble_eq_true rfl,aI _,ho.amt⟩,⟨Nat.le_of_ble_eq_true rfl,Nat.le_of_ble_eq_true rfl⟩⟩
 have i5:B0 (hO d):=⟨⟨by show (0:Int)≤4;decide,by show (4:Int)≤5;decide⟩,fun r hr=>by
  unfold hO at hr;simp only[List.mem_cons,List.not_mem_nil,or_false]at hr;rcases hr with rfl|rfl
  all_goals exact nd3 (Nat.le_of_ble_eq_true rfl) (by omega),⟨Nat.le_of_ble_eq_true rfl,Nat.le_of_ble_eq_true rfl⟩⟩
 refine⟨h.nu,h.bu,h.se,h.is_,rfl,h.frm,h.to,h.cu,ho.amt,rfl,rfl,h.latest,h.expiry,rfl,h.tenor,?_,?_⟩
 ·show (cR d).length≤8;unfold cR
  split<;>exact Nat.le_of_ble_eq_true rfl
 ·intro n hn;have hn:n∈cR d:=hn;unfold cR at hn
  split at hn
  ·simp only[List.mem_cons,List.not_mem_nil,or_false]at hn;rcases hn with rfl|rfl|rfl|rfl
   ·exact i1
   ·exact i2
   ·exact i3
   ·exact i5
  ·simp only[List.mem_cons,List.not_mem_nil,or_false]at hn;rcases hn with rfl|rfl|rfl|rfl|rfl
   ·exact i1
   ·exact i2
   ·exact i3
   ·exact i4
   ·exact i5
structure Tr where
 d:De
 issued:Int
 presented:Int
def Sa:Tr→AV
 |⟨⟨number,seller,buyer,carrier,issuer,house,insurer,frm,to,cur,amt,boxes,term,latest,expiry,tenor,duty⟩,issued,presented⟩=>.agg [.str number,.str seller,.str buyer,.str carrier,.str issuer,.str house,.str insurer,.str frm,.str to,.str cur,.i amt,.sl 3 (bK CO boxes),.i term,.i latest,.i expiry,.i tenor,.i duty,.int .u16 issued,.int .u16 presented]
structure LL (x:Tr):Prop where
 d:Al x.d
 i:0≤x.issued∧x.issued≤65535
 p:0≤x.presented∧x.presented≤65535
 bw:pE x.d.boxes≤1048576
 sz:P1 x.d
def dZ (x:Tr):Bi:=⟨⟨#[98,108]⟩,x.d.carrier,x.d.seller,x.d.frm,x.d.to,x.d.boxes.map (·.mark),[],x.issued,true⟩
def sJ (x:Tr):List Dc:=if x.d.insurer=⟨#[]⟩ then [] else [uX ⟨x.d,x.d.cur,x.d.amt⟩]
structure R7 where
 c:Cr
 docs:List Dc
 ok:Bool
structure To (x:Tr) (o:R7):Prop where
 c:o.c=eO x.d
 m:Fu o.c
 e:x.presented≤o.c.expiry
 l:x.issued≤o.c.latest
 p:x.issued≤x.presented∧x.presented≤x.issued+21
 few:x.d.boxes.length≤8
 docs:∃t:bF,t.size≤4398046511104∧o.docs=DT ⟨x.d,dZ x,sJ x⟩ t
def AM (l:List Bx):Nat:=(l.map fun b=>b.mark.size).sum
theorem yG:∀(l:List Bx) (k:Nat),AM (l.take k)≤pE l
 |[],k=>by simp[AM,pE]
 |b :: l,0=>by simp[AM,pE]
 |b :: l,k+1=>by
  have:=yG l k;unfold AM pE at *;rw[List.take_succ_cons,List.map_cons,List.map_cons,List.sum_cons,List.sum_cons];omega
theorem Gp {l:List Bx}{k:Nat}{b:Bx}(h:l[k]?=some b):AM (l.take (k+1))=AM (l.take k)+b.mark.size:=by
 rw[cE h];unfold AM;rw[List.map_append,List.sum_append];simp
set_option maxHeartbeats 4000000
def AE (z:Int):Bool:=tS z || qM z || decide (z=45)
def AG (z:Int):Bool:=decide (65≤z) && decide (z≤90)
def CN (z:Int):Bool:=decide (z=32) || decide (z=10)
def Dz (z:Int):Bool:=decide (z≠34) && (decide (32≤z) && decide (z≤126))
theorem Ct (P:bG):bL P UQ (xA CN):=by
 intro args H K hc;obtain⟨z,rfl,rfl,hp,hK⟩:=hc;refine⟨cW,?_⟩;dsimp only at hp hK⊢;cbv;repeat'((first|refine .mk (fun h=>?_) fun h=>?_|fail)<;>cbv)
 all_goals exact nF.mk ⟨_,Gh.refl _,.inl (.v9 (mT hK (by(unfold CN;simp;omega))))⟩
theorem BR (P:bG):bL P Tc (xA qM):=by
 intro args H K hc;obtain⟨z,rfl,rfl,hp,hK⟩:=hc;refine⟨cW,?_⟩;dsimp only at hp hK⊢;cbv;repeat'((first|refine .mk (fun h=>?_) fun h=>?_|fail)<;>cbv)
 all_goals exact nF.mk ⟨_,Gh.refl _,.inl (.v9 (mT hK (by(unfold qM;simp;omega))))⟩
theorem Cw (P:bG):bL P SG (xA AG):=by
 intro args H K hc;obtain⟨z,rfl,rfl,hp,hK⟩:=hc;refine⟨cW,?_⟩;dsimp only at hp hK⊢;cbv;repeat'((first|refine .mk (fun h=>?_) fun h=>?_|fail)<;>cbv)
 all_goals exact nF.mk ⟨_,Gh.refl _,.inl (.v9 (mT hK (by(unfold AG;simp;omega))))⟩
theorem CF (P:bG):bL P T8 (xA Dz):=by
 intro args H K hc;obtain⟨z,rfl,rfl,hp,hK⟩:=hc;refine⟨cW,?_⟩;dsimp only at hp hK⊢;cbv;repeat'((first|refine .mk (fun h=>?_) fun h=>?_|fail)<;>cbv)
 all_goals exact nF.mk ⟨_,Gh.refl _,.inl (.v9 (mT hK (by(unfold Dz;simp;omega))))⟩
theorem BF (P:bG) (hd:bH P 234 (xA qM)):bL P Sz (xA AE):=by
 intro args H K hc;obtain⟨z,rfl,rfl,hp,hK⟩:=hc;refine⟨cW,?_⟩;dsimp only at hp hK⊢;obtain⟨b,hb⟩:∃b,b=AE z:=⟨_,rfl⟩
 obtain⟨d,hd1⟩:∃b,b=qM z:=⟨_,rfl⟩
 rw[←hb]at hK;unfold AE at hb;rw[←hd1]at hb;have h1:(97≤z∧z≤122)→b=true:=fun h=>by rw[hb];unfold tS;rw[aH h.1,aH h.2];rfl
 have h2:¬(97≤z∧z≤122)→b=(d || decide (z=45)):=fun h=>by
  have e:tS z=false:=by(unfold tS;by_cases h3:97≤z;(rw[aG (p:=z≤122) (by omega),Bool.and_false]);(rw[aG h3,Bool.false_and]))
  rw[hb,e,Bool.false_or]
 clear hb;cbv;repeat'((first|refine .mk (fun h=>?_) fun h=>?_|fail)<;>cbv)
 ·obtain rfl:=h1 (by omega)
  (refine .q9 ?_;cbv;exact .inl (.f9 hK))
 all_goals
  have h3:=h2 (by omega)
  (refine hP hd z trivial ?_;try dsimp only)
  rw[←hd1];clear hd1;cases d
  ·rw[Bool.false_or]at h3;cbv;repeat'((first|refine .n fun h=>?_|refine .mk (fun h=>?_) fun h=>?_|fail)<;>cbv)
   all_goals first
    |(obtain rfl:b=true:=h3.trans (aH (by omega));(refine .q9 ?_;cbv;exact .inl (.f9 hK)))
    |(obtain rfl:b=false:=h3.trans (aG (by omega));(refine .q9 ?_;cbv;exact .inl (.f9 hK)))
  ·obtain rfl:b=true:=h3;cbv
   (refine .q9 ?_;cbv;exact .inl (.f9 hK))
def L4 (g:Int→Bool) (s:bF):Nat→Nat→Nat
 |0,a=>a
 |n+1,a=>if h:a < s.size then (if g (s[a].toNat:Int)=true then L4 g s n (a+1) else a) else a
def eZ (g:Int→Bool) (s:bF) (a:Nat):Nat:=L4 g s (s.size - a) a
theorem CI {g:Int→Bool}{s:bF}{a:Nat}(h:s.size≤a):eZ g s a=a:=by
 unfold eZ;rw[Nat.sub_eq_zero_of_le h];rfl
theorem Fo {g:Int→Bool}{s:bF}{a:Nat}(h:a < s.size) (hg:g (s[a].toNat:Int)=false):eZ g s a=a:=by
 unfold eZ;obtain⟨n,hn⟩:∃n,s.size - a=n+1:=⟨s.size - a - 1,by omega⟩
 rw[hn];unfold L4;rw[dif_pos h,hg];rfl
theorem tK {g:Int→Bool}{s:bF}{a:Nat}(h:a < s.size) (hg:g (s[a].toNat:Int)=true):eZ g s a=eZ g s (a+1):=by
 unfold eZ;obtain⟨n,hn⟩:∃n,s.size - a=n+1:=⟨s.size - a - 1,by omega⟩
 rw[hn,show s.size - (a+1)=n from by omega];show (if h:a < s.size then (if g (s[a].toNat:Int)=true then L4 g s n (a+1) else a) else a)=_;rw[dif_pos h,aF hg]
theorem yL {g:Int→Bool}{s:bF}:∀(n a:Nat),s.size - a=n→a≤eZ g s a∧(a≤s.size→eZ g s a≤s.size)
 |0,a,h=>by
  rw[CI (by omega)];exact⟨aN _,id⟩
 |n+1,a,h=>by
  have ha:a < s.size:=by omega
  cases hg:g (s[a].toNat:Int) with
  |false=>rw[Fo ha hg];exact⟨aN _,id⟩
  |true=>
   rw[tK ha hg];have:=yL (g:=g) (s:=s) n (a+1) (by omega);exact⟨by omega,fun _=>this.2 (by omega)⟩
theorem lK (g:Int→Bool) (s:bF) (a:Nat):a≤eZ g s a:=(yL _ a rfl).1
theorem lN (g:Int→Bool) (s:bF) {a:Nat}(h:a≤s.size):eZ g s a≤s.size:=(yL _ a rfl).2 h
theorem EZ {g:Int→Bool}{s:bF}{a:Nat}(h:a < s.size) (hg:g (s[a].toNat:Int)=true):a < eZ g s a:=by
 rw[tK h hg];exact lK g s (a+1)
def Qx (s:bF) (a:Nat):List cC:=[.blk 175 [.str s,.i (nI a)]]
def yI (f:Nat) (g:Int→Bool):cQ:=spec (fun _:bF×Nat=>[.ptr 0 0,.clo f []]) (fun i=>Qx i.1 i.2) (fun i=>i.2≤i.1.size∧i.1.size≤1099511627776) (fun i=>.str (i.1.extract i.2 (eZ g i.1 i.2))) fun i=>Qx i.1 (eZ g i.1 i.2)
theorem pP (P:bG) (f:Nat) (g:Int→Bool) (m:cL P f) (hf:bH P f (xA g)):bL P Vg (yI f g):=by
 intro args H K hc;obtain⟨⟨s,a⟩,rfl,rfl,hp,hK⟩:=hc;refine⟨cW,?_⟩;dsimp only at hp hK⊢;obtain⟨ha,hs⟩:=hp
 try dsimp only at ha hs
 have hge:=lK g s a;have hle:=lN g s ha;obtain⟨o,ho⟩:∃o,o=eZ g s a:=⟨_,rfl⟩
 rw[←ho]at hK hge hle;obtain⟨n,hn⟩:∃n,n=s.size:=⟨_,rfl⟩
 cbv;refine bZ [0] (fun q:{ k:Nat // a≤k∧k≤s.size∧eZ g s k=o }=>[(0,.ptr 0 0)]) (fun q=>[.blk 175 [.str s,.i (nI q.1)]]) (fun q=>iH n q.1) ⟨a,aN _,ha,ho.symm⟩ ?_;rintro ⟨k,hk1,hk2,hk3⟩
 try dsimp only at hk1 hk2 hk3⊢
 rcases aL k s.size with hks|hks
 ·cbv;repeat'((first|refine .y fun h=>?_|refine .k fun z hz=>?_|fail)<;>cbv)
  refine dS hks fun z hz=>?_
  have hgz:g (s[k].toNat:Int)=g z:=by rw[hz];rfl
  cbv;repeat'((first|refine And.intro ?_ ?_|fail)<;>cbv)
  ·exact m
  (refine hP hf z trivial ?_;try dsimp only)
  obtain⟨b,hb⟩:∃b,b=g z:=⟨_,rfl⟩
  rw[←hb];cases b
  ·rw[Fo hks (hgz.trans hb.symm)]at hk3;subst hk3;cbv;repeat'((first|refine .u fun u hu hul=>?_|fail)<;>cbv)
   rw[←(show u=s.extract a k from hu)]at hK
   (refine .q9 ?_;cbv;exact .inl (.f9 hK))
  ·cbv;repeat'((first|refine .k fun z hz=>?_|fail)<;>cbv)
   obtain rfl:z=nI (k+1):=bR;exact bP ⟨k+1,by omega,by omega,(tK hks (hgz.trans hb.symm)).symm.trans hk3⟩ (bQ bR)
 ·rw[CI hks]at hk3;subst hk3;cbv;repeat'((first|refine .n fun h=>?_|refine .k fun z hz=>?_|refine .u fun u hu hul=>?_|fail)<;>cbv)
  rw[←(show u=s.extract a k from hu)]at hK
  (refine .q9 ?_;cbv;exact .inl (.f9 hK))
set_option maxHeartbeats 8000000
def sT:List bF:=[⟨#[97,98,111,118,101]⟩,⟨#[97,108,108]⟩,⟨#[97,110,100]⟩,⟨#[97,110,121]⟩,⟨#[97,112,112,108,105,99,97,110,116]⟩,⟨#[98,101,108,111,119]⟩,⟨#[98,101,110,101,102,105,99,105,97,114,121]⟩,⟨#[99,104,97,110,103,101]⟩,⟨#[99,111,110,102,105,114,109,101,114]⟩,⟨#[99,111,112,105,101,115]⟩,⟨#[99,114,101,100,105,116]⟩,⟨#[100,97,121,115]⟩,⟨#[100,114,97,102,116]⟩,⟨#[101,120,112,105,114,121]⟩,⟨#[102,114,111,109]⟩,⟨#[105,110,115,117,114,97,110,99,101]⟩,⟨#[105,110,118,111,105,99,101]⟩,⟨#[105,115,115,117,101,114]⟩,⟨#[108,97,100,105,110,103]⟩,⟨#[108,97,116,101,115,116]⟩,⟨#[110,111]⟩,⟨#[110,111,116]⟩,⟨#[111,102]⟩,⟨#[111,114]⟩,⟨#[111,114,105,103,105,110]⟩,⟨#[112,97,99,107,105,110,103]⟩,⟨#[112,97,114,116,105,97,108]⟩,⟨#[115,105,103,104,116]⟩,⟨#[115,117,109]⟩,⟨#[116,101,110,111,114]⟩,⟨#[116,111]⟩,⟨#[119,97,110,116,115]⟩,⟨#[119,105,116,104]⟩,⟨#[119,105,116,104,105,110]⟩,⟨#[121,101,115]⟩]
def wH (k:Nat) (r:bF):Bool:=(sT.drop k).any fun w=>decide (w=r)
def Dw (r:bF):Bool:=wH 0 r
theorem Nq {k:Nat}{w r:bF}(h:sT[k]?=some w) (e:w=r):wH k r=true:=by
 unfold wH;rw[List.any_eq_true];refine⟨w,?_,aH e⟩;exact aC (i:=0) (by rw[List.getElem?_drop];exact h)
theorem Qa {k:Nat}{w r:bF}(h:sT[k]?=some w) (e:w≠r):wH (k+1) r=wH k r:=by
 unfold wH;obtain⟨hk,hw⟩:=aA.1 h;rw[List.drop_eq_getElem_cons hk,List.any_cons,hw,aG e,Bool.false_or]
theorem Mm {k:Nat}(r:bF) (h:35≤k):wH k r=false:=by
 unfold wH;rw[List.drop_of_length_le (by exact h)];rfl
theorem vR (P:bG):bL P TI (DG (fun _=>True) Dw):=by
 intro args H K hc;obtain⟨r,rfl,rfl,hp,hK⟩:=hc;refine⟨cW,?_⟩;dsimp only at hp hK⊢;obtain⟨b,hb⟩:∃b,b=Dw r:=⟨_,rfl⟩
 rw[←hb]at hK;cbv;refine bZ [] (fun q:{ k:Nat // k≤35∧wH k r=b }=>[(6,.i (nI q.1))]) (fun _=>[]) (fun q=>iH 36 q.1) ⟨0,aI _,hb.symm⟩ ?_;rintro ⟨k,hk,hr⟩
 try dsimp only at hk hr⊢
 have hy:∀(j:Nat) (w:bF),Int.ofNat k=Int.ofNat j→sT[j]?=some w→w=r→b=true:=fun j w hj hw e=>by
  obtain rfl:=Int.ofNat.inj hj;exact hr.symm.trans (Nq hw e)
 have hn:∀(j:Nat) (w:bF),Int.ofNat k=Int.ofNat j→sT[j]?=some w→w≠r→wH (k+1) r=b:=fun j w hj hw e=>by
  obtain rfl:=Int.ofNat.inj hj;exact(Qa hw e).trans hr
 have hend:35≤Int.ofNat k→b=false:=fun h=>hr.symm.trans (Mm r (by(have h:(35:Int)≤(k:Int):=h);omega))
 clear hr hb;cbv;repeat'((first|refine .mk (fun h=>?_) fun h=>?_|refine .k fun z hz=>?_|refine .o ?_|fail)<;>cbv)
 all_goals try(obtain rfl:=hend (by assumption);(refine .q9 ?_;cbv;exact .inl (.f9 hK)))
 all_goals first|have hj:=‹Int.ofNat k=Int.ofNat _›|have hj:Int.ofNat k=Int.ofNat 0:=bR
 all_goals first
  |(obtain rfl:b=true:=hy _ _ hj (by rfl) ‹(_:bF)=r›;(refine .q9 ?_;cbv;exact .inl (.f9 hK)))
  |(obtain rfl:z=nI (k+1):=bR
    have h2:=hn _ _ hj (by rfl) ‹¬(_:bF)=r›;exact bP ⟨k+1,by exact bR,h2⟩ (bQ bR))
def Gn (x:Nat):Bool:=decide (x < 48) || decide (57 < x)
def NS:cQ:=spec (fun s:bF=>[.str s,.clo 236 []]) (fun _=>[]) (fun _=>True) (fun s=>.i (Lib.idxFunc Gn true s)) fun _=>[]
def Up (s:bF):Nat→Nat→Int→Int
 |0,_,_=>0
 |f+1,k,n=>if h:k < s.size then (if 1099511627776 < n * 10+IntKind.u8.wrap ((s[k].toNat:Int) - 48) then 3 else Up s f (k+1) (n * 10+IntKind.u8.wrap ((s[k].toNat:Int) - 48))) else 0
def LP (s:bF) (k:Nat) (n:Int):Int:=Up s (s.size - k) k n
theorem MN {s:bF}{k:Nat}{n:Int}(h:s.size≤k):LP s k n=0:=by
 unfold LP;rw[Nat.sub_eq_zero_of_le h];rfl
theorem Pt {s:bF}{k:Nat}{n:Int}(h:k < s.size) {d:Int}(hd:d=IntKind.u8.wrap ((s[k].toNat:Int) - 48)):LP s k n=if 1099511627776 < n * 10+d then 3 else LP s (k+1) (n * 10+d):=by
 subst hd;unfold LP;obtain⟨m,hm⟩:∃m,s.size - k=m+1:=⟨s.size - k - 1,by omega⟩
 rw[hm,show s.size - (k+1)=m by omega];show (if h:k < s.size then _ else _)=_;rw[dif_pos h]
def tT (s:bF):Int:=if h:1 < s.size then (if (s[0]'(Nat.lt_trans Nat.zero_lt_one h)).toNat=48 then 2 else LP s 0 0) else LP s 0 0
theorem VR (z:Int):0≤IntKind.u8.wrap z∧IntKind.u8.wrap z≤255:=by
 unfold IntKind.wrap;simp[IntKind.bits,IntKind.signed];omega
def Ee:cQ:=spec (fun s:bF=>[.str s]) (fun _=>[]) (fun s=>s.size≤1099511627776) (fun s=>.i (tT s)) fun _=>[]
theorem yK (P:bG):bL P SR Ee:=by
 intro args H K hc;obtain⟨s,rfl,rfl,hp,hK⟩:=hc;refine⟨cW,?_⟩;dsimp only at hp hK⊢
 try dsimp only at hp
 obtain⟨r,hr⟩:∃r,r=tT s:=⟨_,rfl⟩
 rw[←hr]at hK;obtain⟨n,hn⟩:∃n,n=s.size:=⟨_,rfl⟩
 have key:(1 < s.size→∀z:Int,(∀h:0 < s.size,z=(s.data[0]'h).toNat)→(z=48→r=2)∧(z≠48→r=LP s 0 0))∧(s.size≤1→r=LP s 0 0):=by
  rw[hr];unfold tT;refine⟨fun h z hz=>?_,fun h=>dif_neg (by omega)⟩;rw[dif_pos h];have hz:=hz (Nat.lt_trans Nat.zero_lt_one h);refine⟨fun e=>aF ?_,fun e=>aE fun e2=>e ?_⟩
  ·have:((s.data[0]'(Nat.lt_trans Nat.zero_lt_one h)).toNat:Int)=48:=hz ▸ e;exact Int.ofNat.inj this
  ·rw[hz];exact congrArg Int.ofNat e2
 clear hr;cbv;repeat'((first|refine .mk (fun h=>?_) fun h=>?_|refine .k fun z hz=>?_|fail)<;>cbv)
 rotate_left 1
 have h1:s.size≤1:=by(clear key;((try simp only[vn]at *)<;>omega))
 have hb:=key.2 h1;clear h1
 rotate_left 1
 have h1:1 < s.size:=by(clear key;((try simp only[vn]at *)<;>omega))
 have h0:0 < s.size:=Nat.lt_trans Nat.zero_lt_one h1;refine dS h0 fun z2 hz2=>?_
 have hk2:=key.1 h1 z2 (fun _=>hz2);cbv;repeat'((first|refine .mk (fun h=>?_) fun h=>?_|refine .k fun z hz=>?_|fail)<;>cbv)
 obtain rfl:r=2:=hk2.1 (by assumption)
 (refine .q9 ?_;cbv;exact .inl (.f9 hK))
 have hb:=hk2.2 (by assumption)
 all_goals
  clear key
  try clear hk2
  refine bZ [] (fun q:{ q:Nat×Int // q.1≤n∧0≤q.2∧q.2≤1099511627776∧LP s q.1 q.2=r }=>[(3,.i q.1.2),(15,.i (nI q.1.1))]) (fun _=>[]) (fun q=>iH n q.1.1) ⟨(0,0),aI _,Int.le_refl _,by decide,hb.symm⟩ ?_;rintro ⟨⟨k,m⟩,hk,hm0,hm1,hkr⟩
  try dsimp only at hk hm0 hm1 hkr⊢
  rcases aL k s.size with hks|hks
  ·cbv;repeat'((first|refine .y fun h=>?_|refine .k fun z hz=>?_|fail)<;>cbv)
   refine dS hks fun z3 hz3=>?_
   have hd:=Pt (s:=s) (k:=k) (n:=m) hks (d:=IntKind.u8.wrap (z3 - 48)) (by rw[hz3];rfl);have hu:=VR (z3 - 48);rw[hkr]at hd;obtain⟨dd,hdd⟩:∃d,d=IntKind.u8.wrap (z3 - 48):=⟨_,rfl⟩
   rw[←hdd]at hd hu;cbv;repeat'((first|refine .mk (fun h=>?_) fun h=>?_|refine .k fun z hz=>?_|refine .o ?_|fail)<;>cbv)
   ·rw[aF (by omega)]at hd;subst hd
    (refine .q9 ?_;cbv;exact .inl (.f9 hK))
   ·rw[aE (by omega)]at hd;obtain rfl:z=nI (k+1):=bR;rename_i zm hzm zd hzd hzs;have e:z=m * 10+dd:=by rw[hzs,hzm,hzd,hdd]
    rw[←e]at hd;exact bP ⟨(k+1,z),by exact bR,by omega,by omega,hd.symm⟩ (bQ bR)
  ·rw[MN hks]at hkr;subst hkr;cbv;repeat'((first|refine .n fun h=>?_|fail)<;>cbv)
   (refine .q9 ?_;cbv;exact .inl (.f9 hK))
structure Tk where
 kind:Int
 at_:Nat
 text:bF
def LQ:Tk→AV
 |⟨kind,at_,text⟩=>.agg [.i kind,.i (nI at_),.str text]
def Pg:Tk:=⟨0,0,⟨#[]⟩⟩
def NQ (r:bF):Bool:=decide (Lib.idxFunc Gn true r < 0)
def rB (r:bF):Int:=if NQ r=true then 2 else if Dw r=true then 0 else 1
def rJ (r:bF):Int:=if NQ r=true then tT r else if Dw r=true then 0 else if Wt r=true then 0 else 2
def aeI:cQ:=spec (fun s:bF=>[.str s]) (fun _=>[]) (fun s=>s.size≤1099511627776) (fun s=>.tup [.i (rB s),.i (rJ s)]) fun _=>[]
theorem Bf (P:bG) (hi:bH P 235 NS) (hb:bH P 237 Ee) (hr:bH P 238 (DG (fun _=>True) Dw)) (hm:bH P 222 (DG (fun _=>True) Wt)):bL P TA aeI:=by
 intro args H K hc;obtain⟨s,rfl,rfl,hp,hK⟩:=hc;refine⟨cW,?_⟩;dsimp only at hp hK⊢
 try dsimp only at hp
 obtain⟨ix,hix⟩:∃r,r=Lib.idxFunc Gn true s:=⟨_,rfl⟩
 obtain⟨bo,hbo⟩:∃r,r=tT s:=⟨_,rfl⟩
 obtain⟨re,hre⟩:∃r,r=Dw s:=⟨_,rfl⟩
 obtain⟨na,hna⟩:∃r,r=Wt s:=⟨_,rfl⟩
 have k1:ix < 0→rB s=2∧rJ s=bo:=fun h=>by
  unfold rB rJ NQ;rw[←hix,aH h,aF rfl,aF rfl,hbo];exact⟨rfl,rfl⟩
 have k2:¬ix < 0→rB s=(if re=true then 0 else 1)∧rJ s=(if re=true then 0 else if na=true then 0 else 2):=fun h=>by
  unfold rB rJ NQ;rw[←hix,aG h,aE Bool.false_ne_true,aE Bool.false_ne_true,←hre,←hna];exact⟨rfl,rfl⟩
 obtain⟨kk,hkk⟩:∃k,k=rB s:=⟨_,rfl⟩
 obtain⟨ee,hee⟩:∃k,k=rJ s:=⟨_,rfl⟩
 rw[←hkk,←hee]at hK k1 k2;cbv
 (refine hP hi s trivial ?_;try dsimp only)
 rw[←hix];cbv;repeat'((first|refine .mk (fun h=>?_) fun h=>?_|fail)<;>cbv)
 ·obtain⟨rfl,rfl⟩:=k1 (by omega)
  (refine hP hb s hp ?_;try dsimp only)
  rw[←hbo];cbv
  (refine .q9 ?_;cbv;exact .inl (.f9 hK))
 ·obtain⟨h1,h2⟩:=k2 (by omega)
  (refine hP hr s trivial ?_;try dsimp only)
  rw[←hre];cases re
  ·cbv
   (refine hP hm s trivial ?_;try dsimp only)
   rw[←hna];cases na
   ·obtain rfl:kk=1:=h1;obtain rfl:ee=2:=h2;cbv
    (refine .q9 ?_;cbv;exact .inl (.f9 hK))
   ·obtain rfl:kk=1:=h1;obtain rfl:ee=0:=h2;cbv
    (refine .q9 ?_;cbv;exact .inl (.f9 hK))
  ·obtain rfl:kk=0:=h1;obtain rfl:ee=0:=h2;cbv
   (refine .q9 ?_;cbv;exact .inl (.f9 hK))
def gJ (s:bF) (i:Nat):Int:=if h:i < s.size then ((s.data[i]'h).toNat:Int) else -1
theorem kT {s:bF}{i:Nat}(h:i < s.size):gJ s i=(s.data[i]'h).toNat:=dif_pos h
theorem nO {s:bF}{i:Nat}(h:s.size≤i):gJ s i=-1:=dif_neg (by omega)
structure Se where
 t:Tk
 e:Int
 a:Nat
def uY (s:bF) (b:Nat):Se:=if gJ s (eZ Dz s (b+1))=34 then ⟨⟨3,b,s.extract (b+1) (eZ Dz s (b+1))⟩,0,eZ Dz s (b+1)+1⟩ else ⟨Pg,2,eZ Dz s (b+1)⟩
def iV (c:Int):Prop:=c=40∨c=41∨c=44∨c=59∨c=58∨c=46∨c=61∨c=126
instance (c:Int):Decidable (iV c):=by unfold iV;infer_instance
def rN (s:bF) (b:Nat):Se:=if iV (gJ s b) then ⟨⟨5,b,s.extract b (b+1)⟩,0,b+1⟩ else if gJ s b=60∨gJ s b=62 then (if gJ s (b+1)=61 then ⟨⟨5,b,s.extract b (b+2)⟩,0,b+2⟩ else ⟨Pg,2,b⟩) else ⟨Pg,2,b⟩
def Qz (f:bF→Nat→Se):cQ:=spec (fun i:bF×Nat=>[.ptr 0 0,.i (nI i.2)]) (fun i=>Qx i.1 i.2) (fun i=>i.2 < i.1.size∧i.1.size≤1099511627776) (fun i=>.tup [LQ (f i.1 i.2).t,.i (f i.1 i.2).e]) fun i=>Qx i.1 (f i.1 i.2).a
theorem Bz (P:bG) (mr:cL P 239) (hr:bH P 78 (yI 239 Dz)):bL P SH (Qz uY):=by
 intro args H K hc;obtain⟨⟨s,b⟩,rfl,rfl,hp,hK⟩:=hc;refine⟨cW,?_⟩;dsimp only at hp hK⊢;obtain⟨hb,hs⟩:=hp
 try dsimp only at hb hs
 have hge:=lK Dz s (b+1);have hle:=lN Dz s (a:=b+1) hb;unfold uY at hK;obtain⟨o,ho⟩:∃o,o=eZ Dz s (b+1):=⟨_,rfl⟩
 obtain⟨w,hw⟩:∃w,w=s.extract (b+1) o:=⟨_,rfl⟩
 rw[←ho]at hK hge hle;rw[←hw]at hK;obtain⟨n,hn⟩:∃n,n=s.size:=⟨_,rfl⟩
 cbv;repeat'((first|refine .k fun z hz=>?_|fail)<;>cbv)
 obtain rfl:z=nI (b+1):=bR
 (refine jR hr ((s,b+1):bF×Nat) [0] ⟨hb,hs⟩ ?_;try dsimp only)
 rw[←ho,←hw];rcases aL o s.size with hos|hos
 ·cbv;repeat'((first|refine .n fun h=>?_|refine .k fun z hz=>?_|fail)<;>cbv)
  refine dS hos fun z3 hz3=>?_
  have hbo:gJ s o=z3:=(kT hos).trans hz3.symm;rw[hbo]at hK;cbv;repeat'((first|refine .mk (fun h=>?_) fun h=>?_|refine .k fun z hz=>?_|fail)<;>cbv)
  ·rw[aF (by assumption)]at hK;obtain rfl:z=nI (o+1):=bR
   (refine .q9 ?_;cbv;exact .inl (.f9 hK))
  ·rw[aE (by assumption)]at hK
   (refine .q9 ?_;cbv;exact .inl (.f9 hK))
 ·rw[nO hos,aE (by decide)]at hK;cbv;repeat'((first|refine .y fun h=>?_|refine .k fun z hz=>?_|fail)<;>cbv)
  (refine .q9 ?_;cbv;exact .inl (.f9 hK))
theorem GM (P:bG):bL P Ty (Qz rN):=by
 intro args H K hc;obtain⟨⟨s,b⟩,rfl,rfl,hp,hK⟩:=hc;refine⟨cW,?_⟩;dsimp only at hp hK⊢;obtain⟨hb,hs⟩:=hp
 try dsimp only at hb hs
 obtain⟨r,hr⟩:∃r,r=rN s b:=⟨_,rfl⟩
 rw[←hr]at hK;obtain⟨c,hc⟩:∃c,c=gJ s b:=⟨_,rfl⟩
 obtain⟨d,hd⟩:∃c,c=gJ s (b+1):=⟨_,rfl⟩
 obtain⟨w1,hw1⟩:∃w,w=s.extract b (b+1):=⟨_,rfl⟩
 obtain⟨w2,hw2⟩:∃w,w=s.extract b (b+2):=⟨_,rfl⟩
 unfold rN at hr;rw[←hc,←hd,←hw1,←hw2]at hr;have k1:iV c→r=⟨⟨5,b,w1⟩,0,b+1⟩:=fun h=>by rw[hr,aF h]
 have k2:¬iV c→(c=60∨c=62)→d=61→r=⟨⟨5,b,w2⟩,0,b+2⟩:=fun h h2 h3=>by rw[hr,aE h,aF h2,aF h3]
 have k3:¬iV c→(c=60∨c=62)→d≠61→r=⟨Pg,2,b⟩:=fun h h2 h3=>by rw[hr,aE h,aF h2,aE h3]
 have k4:¬iV c→¬(c=60∨c=62)→r=⟨Pg,2,b⟩:=fun h h2=>by rw[hr,aE h,aE h2]
 have d1:s.size≤b+1→d≠61:=fun h=>by rw[hd,nO h];decide
 clear hr;cbv;refine dS hb fun z1 hz1=>?_
 obtain rfl:c=z1:=(hc.trans (kT hb)).trans hz1.symm;clear hc hz1;cbv;repeat'((first|refine .mk (fun h=>?_) fun h=>?_|refine .k fun z hz=>?_|refine .u fun u hu hul=>?_|fail)<;>cbv)
 all_goals first
  |(have e1:=k1 (by unfold iV;omega);subst e1;obtain rfl:z=nI (b+1):=bR
    obtain rfl:u=w1:=(show u=s.extract b (b+1) from hu).trans hw1.symm
    (refine .q9 ?_;cbv;exact .inl (.f9 hK)))
  |(have e1:=k4 (by unfold iV;omega) (by omega);subst e1;(refine .q9 ?_;cbv;exact .inl (.f9 hK)))
  |(have hq:=k3 (by unfold iV;omega) (by omega) (d1 (by(clear k1 k2 k3 k4 d1);((try simp only[vn]at *)<;>omega)));subst hq;(refine .q9 ?_;cbv;exact .inl (.f9 hK)))
  |skip
 all_goals
  have hq2:=k2 (by unfold iV;omega) (by omega);have hq3:=k3 (by unfold iV;omega) (by omega);clear k1 k2 k3 k4 d1;obtain rfl:z=nI (b+1):=bR;have hb1:b+1 < s.size:=bR;refine dS hb1 fun z1 hz1=>?_
  obtain rfl:d=z1:=(hd.trans (kT hb1)).trans hz1.symm;clear hd hz1;cbv;repeat'((first|refine .mk (fun h=>?_) fun h=>?_|refine .k fun z hz=>?_|refine .u fun u hu hul=>?_|fail)<;>cbv)
  ·have e1:=hq2 (by assumption);subst e1;obtain rfl:z=nI (b+2):=bR;obtain rfl:u=w2:=(show u=s.extract b (b+2) from hu).trans hw2.symm
   (refine .q9 ?_;cbv;exact .inl (.f9 hK))
  ·have e1:=hq3 (by assumption);subst e1
   (refine .q9 ?_;cbv;exact .inl (.f9 hK))
def jZ (s:bF) (b:Nat):Se:=
 if AE (gJ s b)=true then ⟨⟨rB (s.extract b (eZ AE s b)),b,s.extract b (eZ AE s b)⟩,rJ (s.extract b (eZ AE s b)),eZ AE s b⟩
 else if AG (gJ s b)=true then (if (s.extract b (eZ AG s b)).size=3 then ⟨⟨4,b,s.extract b (eZ AG s b)⟩,0,eZ AG s b⟩ else ⟨Pg,2,eZ AG s b⟩)
 else if gJ s b=34 then uY s b else rN s b
structure RM (P:bG):Prop where
 ms:cL P 163
 sm:bH P 163 (xA AE)
 ml:cL P 165
 lg:bH P 165 (xA AG)
 rs:bH P 78 (yI 163 AE)
 rl:bH P 78 (yI 165 AG)
 rk:bH P 164 aeI
 qu:bH P 166 (Qz uY)
 si:bH P 167 (Qz rN)
def ahB:cQ:=spec (fun _:bF×Nat=>[.ptr 0 0]) (fun i=>Qx i.1 i.2) (fun i=>i.2 < i.1.size∧i.1.size≤1099511627776) (fun i=>.tup [LQ (jZ i.1 i.2).t,.i (jZ i.1 i.2).e]) fun i=>Qx i.1 (jZ i.1 i.2).a
theorem Hr (P:bG) (F:RM P):bL P Vn ahB:=by
 intro args H K hc;obtain⟨⟨s,b⟩,rfl,rfl,hp,hK⟩:=hc;refine⟨cW,?_⟩;dsimp only at hp hK⊢;obtain⟨hb,hs⟩:=hp
 try dsimp only at hb hs
 obtain⟨r,hr⟩:∃r,r=jZ s b:=⟨_,rfl⟩
 rw[←hr]at hK;have hle1:=lN AE s (a:=b) (Nat.le_of_lt hb);have hle2:=lN AG s (a:=b) (Nat.le_of_lt hb);have hge1:=lK AE s b;have hge2:=lK AG s b;obtain⟨c,hc⟩:∃c,c=gJ s b:=⟨_,rfl⟩
 obtain⟨o1,ho1⟩:∃c,c=eZ AE s b:=⟨_,rfl⟩
 obtain⟨o2,ho2⟩:∃c,c=eZ AG s b:=⟨_,rfl⟩
 obtain⟨w1,hw1⟩:∃w,w=s.extract b o1:=⟨_,rfl⟩
 obtain⟨w2,hw2⟩:∃w,w=s.extract b o2:=⟨_,rfl⟩
 have hz1:w1.size≤1099511627776:=by rw[hw1,ByteArray.size_extract];omega
 obtain⟨rk,hrk⟩:∃w,w=rB w1:=⟨_,rfl⟩
 obtain⟨re,hre⟩:∃w,w=rJ w1:=⟨_,rfl⟩
 obtain⟨qo,hqo⟩:∃w,w=uY s b:=⟨_,rfl⟩
 obtain⟨so,hso⟩:∃w,w=rN s b:=⟨_,rfl⟩
 obtain⟨n,hn⟩:∃n,n=s.size:=⟨_,rfl⟩
 unfold jZ at hr;rw[←ho1,←ho2,←hw1,←hw2]at hr;rw[←ho1]at hle1 hge1;rw[←ho2]at hle2 hge2;rw[←hc,←hrk,←hre,←hqo,←hso]at hr;obtain⟨b1,hb1⟩:∃b,b=AE c:=⟨_,rfl⟩
 obtain⟨b2,hb2⟩:∃b,b=AG c:=⟨_,rfl⟩
 rw[←hb1,←hb2]at hr;cbv;refine dS hb fun z1 hz1=>?_
 obtain rfl:c=z1:=(hc.trans (kT hb)).trans hz1.symm;clear hc hz1;cbv
 (refine hP F.sm c trivial ?_;try dsimp only)
 rw[←hb1];cases b1
 ·rw[aE Bool.false_ne_true]at hr;cbv
  (refine hP F.lg c trivial ?_;try dsimp only)
  rw[←hb2];cases b2
  ·rw[aE Bool.false_ne_true]at hr;by_cases h34:c=34
   ·rw[aF h34]at hr;obtain⟨⟨tk,ta,tt⟩,e,a⟩:=qo;subst hr h34;cbv;repeat'((first|refine .y fun h=>?_|fail)<;>cbv)
    refine cU F.qu ((s,b):bF×Nat) [0] ⟨hb,hs⟩ rfl rfl (by decide) rfl rfl rfl rfl rfl ?_
    try dsimp only
    rw[←hqo];cbv
    (refine .q9 ?_;cbv;exact .inl (.f9 hK))
   ·rw[aE h34]at hr;obtain⟨⟨tk,ta,tt⟩,e,a⟩:=so;subst hr;cbv;repeat'((first|refine .n fun h=>?_|fail)<;>cbv)
    refine cU F.si ((s,b):bF×Nat) [0] ⟨hb,hs⟩ rfl rfl (by decide) rfl rfl rfl rfl rfl ?_
    try dsimp only
    rw[←hso];cbv
    (refine .q9 ?_;cbv;exact .inl (.f9 hK))
  ·rw[aF rfl]at hr;have r1:w2.size=3→r=⟨⟨4,b,w2⟩,0,o2⟩:=fun h=>by rw[hr,aF h]
   have r2:w2.size≠3→r=⟨Pg,2,o2⟩:=fun h=>by rw[hr,aE h]
   clear hr;cbv
   (refine jR F.rl ((s,b):bF×Nat) [0] ⟨Nat.le_of_lt hb,hs⟩ ?_;try dsimp only)
   rw[←ho2,←hw2];cbv;repeat'((first|refine .mk (fun h=>?_) fun h=>?_|refine .k fun z hz=>?_|fail)<;>cbv)
   ·have e1:=r1 (by(clear r1 r2);((try simp only[vn]at *)<;>omega));subst e1
    (refine .q9 ?_;cbv;exact .inl (.f9 hK))
   ·have e1:=r2 (by(clear r1 r2);((try simp only[vn]at *)<;>omega));subst e1
    (refine .q9 ?_;cbv;exact .inl (.f9 hK))
 ·rw[aF rfl]at hr;subst hr;cbv
  (refine jR F.rs ((s,b):bF×Nat) [0] ⟨Nat.le_of_lt hb,hs⟩ ?_;try dsimp only)
  rw[←ho1,←hw1];cbv
  (refine hP F.rk w1 hz1 ?_;try dsimp only)
  rw[←hrk,←hre];cbv;repeat'((first|refine .u fun u hu hul=>?_|fail)<;>cbv)
  all_goals
   obtain rfl:u=w1:=(show u=s.extract b o1 from hu).trans hw1.symm
   (refine .q9 ?_;cbv;exact .inl (.f9 hK))
theorem Mx {s:bF}{b:Nat}(hb:b < s.size) (h:(jZ s b).e=0):b < (jZ s b).a∧(jZ s b).a≤s.size:=by
 have hby:gJ s b=((s.data[b]'hb).toNat:Int):=kT hb;unfold jZ at h⊢
 split at h
 ·rename_i h1;rw[aF h1];exact⟨EZ hb (by rw[hby]at h1;exact h1),lN AE s (Nat.le_of_lt hb)⟩
 ·rename_i h1;rw[aE h1]
  split at h
  ·rename_i h2;rw[aF h2];have e1:=EZ (g:=AG) hb (by rw[hby]at h2;exact h2);have e2:=lN AG s (Nat.le_of_lt hb)
   split
   ·exact⟨e1,e2⟩
   ·exact⟨e1,e2⟩
  ·rename_i h2;rw[aE h2]
   split at h
   ·rename_i h3;rw[aF h3];unfold uY at h⊢;have e1:=lK Dz s (b+1)
    split at h
    ·rename_i h4;rw[aF h4];refine⟨by dsimp only;omega,?_⟩;rcases aL (eZ Dz s (b+1)) s.size with h5|h5
     ·exact h5
     ·rw[nO h5]at h4;exact absurd h4 (by decide)
    ·exact absurd (show (2:Int)=0 from h) (by decide)
   ·rename_i h3;rw[aE h3];unfold rN at h⊢
    split at h
    ·rename_i h4;rw[aF h4];exact⟨Nat.lt_succ_self b,hb⟩
    ·rename_i h4;rw[aE h4]
     split at h
     ·rename_i h5;rw[aF h5]
      split at h
      ·rename_i h6;rw[aF h6];refine⟨by dsimp only;omega,?_⟩;rcases aL (b+1) s.size with h7|h7
       ·exact h7
       ·rw[nO h7]at h6;exact absurd h6 (by decide)
      ·exact absurd (show (2:Int)=0 from h) (by decide)
     ·exact absurd (show (2:Int)=0 from h) (by decide)
structure Uc where
 l:List Tk
 at_:Nat
 e:Int
def F9 (s:bF):Nat→List Tk→Nat→Uc
 |0,_,a=>⟨[],a,0⟩
 |f+1,toks,a=>if s.size≤eZ CN s a then ⟨toks,s.size,0⟩ else if 4096≤toks.length then ⟨[],eZ CN s a,7⟩
  else if (jZ s (eZ CN s a)).e=0 then F9 s f (toks++[(jZ s (eZ CN s a)).t]) (jZ s (eZ CN s a)).a else ⟨[],eZ CN s a,(jZ s (eZ CN s a)).e⟩
def Il (s:bF):Uc:=F9 s (s.size+1) [] 0
structure Uz (s:bF) (r:Uc) where
 f:Nat
 l:List Tk
 a:Nat
 ha:a≤s.size
 hf:s.size < f+a
 hl:l.length≤4096
 hr:F9 s f l a=r
def Fq:cQ:=spec (fun s:bF=>[.str s]) (fun _=>[]) (fun s=>s.size≤1099511627776) (fun s=>.tup [.sl 3 (bK LQ (Il s).l),.i (nI (Il s).at_),.i (Il s).e]) fun _=>[]
theorem Im (P:bG) (mb:cL P 79) (hb:bH P 78 (yI 79 CN)) (hn:bH P 80 ahB):bL P US Fq:=by
 intro args H K hc;obtain⟨s,rfl,rfl,hp,hK⟩:=hc;refine⟨cW,?_⟩;dsimp only at hp hK⊢
 try dsimp only at hp
 obtain⟨r,hr⟩:∃r,r=Il s:=⟨_,rfl⟩
 rw[←hr]at hK;obtain⟨n,hnn⟩:∃n,n=s.size:=⟨_,rfl⟩
 cbv;refine iD (Gh.adopt 5 179 3 rfl) ?_;cbv;refine bZ [0,1] (fun q:Uz s r=>[(5,.hd 1),(6,.ptr 0 0)]) (fun q=>[.blk 175 [.str s,.i (nI q.a)],.row 179 3 (bK LQ q.l)]) (fun q=>iH (n+1) q.a) ⟨s.size+1,[],0,aI _,by omega,aI _,hr.symm⟩ ?_;rintro ⟨f,l,a,ha,hf,hl,hq⟩
 try dsimp only at ha hf hl hq⊢
 obtain⟨f,rfl⟩:∃g,f=g+1:=⟨f - 1,by omega⟩
 have hge:=lK CN s a;have hle:=lN CN s ha;unfold F9 at hq;obtain⟨a1,ha1⟩:∃x,x=eZ CN s a:=⟨_,rfl⟩
 rw[←ha1]at hq hge hle;obtain⟨w,hw⟩:∃x,x=s.extract a a1:=⟨_,rfl⟩
 cbv
 (refine jR hb ((s,a):bF×Nat) [0] ⟨ha,hp⟩ ?_;try dsimp only)
 rw[←ha1,←hw];rcases aL a1 s.size with h1|h1
 ·rw[aE (by omega)]at hq;have hnx:=Mx h1;obtain⟨x,hx⟩:∃x,x=jZ s a1:=⟨_,rfl⟩
  rw[←hx]at hq hnx;obtain⟨⟨tk,ta,tt⟩,e,a2⟩:=x;dsimp only at hq hnx;rcases aL l.length 4096 with h2|h2
  ·rw[aE (by omega)]at hq;cbv;repeat'((first|refine .n fun h=>?_|refine .k fun z hz=>?_|fail)<;>cbv)
   (refine jR hn ((s,a1):bF×Nat) [0] ⟨h1,hp⟩ ?_;try dsimp only)
   rw[←hx];by_cases h3:e=0
   ·rw[aF h3]at hq;subst h3;have hnx2:=hnx rfl;cbv;repeat'((first|refine .y fun h=>?_|refine .zl fun zs hzs hzl=>?_|fail)<;>cbv)
    obtain⟨l2,hl2⟩:∃l2,l2=l++[(⟨tk,ta,tt⟩:Tk)]:=⟨_,rfl⟩
    have hl2n:l2.length≤4096:=by rw[hl2,aM];exact h2
    rw[←hl2]at hq;obtain rfl:zs=bK LQ l2:=by rw[hl2,cP,cS];exact hzs
    exact bP ⟨f,l2,a2,hnx2.2,by omega,hl2n,hq⟩ (by show (n+1) - a2 < (n+1) - a;omega)
   ·rw[aE h3]at hq;subst hq;cbv;repeat'((first|refine .n fun h=>?_|fail)<;>cbv)
    (refine .q9 ?_;cbv;exact .inl (.g9 hK))
  ·rw[aF h2]at hq;subst hq;cbv;repeat'((first|refine .n fun h=>?_|refine .y fun h=>?_|refine .k fun z hz=>?_|fail)<;>cbv)
   (refine .q9 ?_;cbv;exact .inl (.g9 hK))
 ·rw[aF h1,←hnn]at hq;subst hq;cbv;repeat'((first|refine .y fun h=>?_|refine .k fun z hz=>?_|fail)<;>cbv)
  obtain rfl:z=nI n:=bR
  (refine .r9 (Gh.plain 1 rfl) ?_;cbv;exact .inl (.g9 hK))
section
variable {α:Type}{f:α→List Value}{k:Nat}{w w':World}{A:Option Addr}{n:Nat}{l:List α}
end
section
variable {P:bG}(w:World)
end
def nS (pub:cI) (w:World) (x:AV) (e:Ending) (w':World):Prop:=
 ∃v pub',e=.returned v∧Below w.heap.size w w'∧(∀b,b < w.heap.size→pub' b=pub b)∧(∀b,w'.heap.size≤b→pub' b=0)∧
  (∀b i,w.heap.size≤b→i < pub' b→∃u,w'.cell? ⟨b,i,none⟩=some u)∧bS pub' w' cM x v
theorem Eg {P:bG}{f:Nat}{ι:Type}{a:ι→List AV}{p:ι→Prop}{r:ι→AV}
  (h:∀i,p i→∀(pub:cI) (w:World) (vals:Array Value),(∀b,w.heap.size≤b→pub b=0)→gB pub w→bO pub w cM (a i) vals.toList→Calls P f vals w (nS pub w (r i))) :
  bH P f (spec a (fun _=>[]) p r fun _=>[]):=by
 intro args H K ⟨i,ha,hH,hp,hK⟩ w rh pub vals hm hv;subst ha;subst hH;have:=AP hm;subst this;refine(h i hp pub w vals hm.fresh hm.glob hv).mono fun e w' ⟨v,pub',he,hb,h1,h2,h3,hr⟩=>?_
 have hc:∀b i,b < w.heap.size→w'.cell? ⟨b,i,none⟩=w.cell? ⟨b,i,none⟩:=fun b i hlt=>World.cell?_of_block (hb.block b hlt)
 have hlt:∀b i,i < pub b→b < w.heap.size:=fun b i hi=>by
  rcases aL b w.heap.size with h4|h4
  ·exact h4
  ·rw[hm.fresh b h4]at hi;omega
 have hle:∀b,pub b≤pub' b:=fun b=>by
  rcases aL b w.heap.size with h4|h4
  ·rw[h1 b h4];exact aN _
  ·rw[hm.fresh b h4];exact aI _
 have hcl:∀b j u,j < pub b→w.cell? ⟨b,j,none⟩=some u→w'.cell? ⟨b,j,none⟩=some u:=fun b j u hj hu=>by rw[hc b j (hlt b j hj)];exact hu
 have hln:∀b n,0 < pub b→mI w b=some n→mI w' b=some n:=fun b n _ hn=>jB (hb.block b (lX hn)) hn
 refine⟨v,r i,[],cM,pub',he,hK,hr,⟨fun k e he=>(by simp at he),fun _ _=>rfl,(fun _ _ _ _ _ h=>by cases h),h2,fun b j hj=>?_,hm.glob.ext ⟨hle,hcl,hln⟩⟩,⟨hb.os,hb.tape,hb.output,hb.size,fun b hlt _=>⟨hb.block b hlt,h1 b hlt⟩,⟨hle,hcl,hln⟩⟩,fun b hb=>.inl hb,fun _ _ h _=>h,aN _⟩
 ·rcases aL b w.heap.size with h4|h4
  ·rw[h1 b h4]at hj;obtain⟨u,hu⟩:=hm.there b j hj;exact⟨u,by rw[hc b j h4];exact hu⟩
  ·exact h3 b j h4 hj
theorem nS.plain {pub:cI}{w w':World}{x:AV}{v:Value}{e:Ending}(he:e=.returned v) (hb:Below w.heap.size w w') (hf:∀b,w.heap.size≤b→pub b=0) (hr:bS pub w' cM x v):nS pub w x e w':=
 ⟨v,pub,he,hb,fun _ _=>rfl,fun b h=>hf b (Nat.le_trans hb.size h),fun b i h hi=>(by rw[hf b h]at hi;omega),hr⟩
theorem kR.i0 {u:AV}{l:List AV}{K:Nat→AV→Prop}(k:K 0 u):kR (u :: l) 0 K:=⟨0,u,rfl,rfl,k⟩
theorem yP.i0 {u:AV}{l:List AV}{K:Nat→Prop}(k:K 0):yP (u :: l) 0 K:=⟨0,rfl,Nat.succ_pos _,k⟩
def CW (i:Int×Int×Int):Bool:=decide (i.2.1≤i.1) && decide (i.1≤i.2.2)
def Mc:cQ:=spec (fun i:Int×Int×Int=>[.i i.1,.i i.2.1,.i i.2.2]) (fun _=>[]) (fun _=>True) (fun i=>.bl (CW i)) fun _=>[]
theorem yZ (P:bG):bL P SQ Mc:=by
 intro args H K hc;obtain⟨⟨n,a,b⟩,rfl,rfl,hp,hK⟩:=hc;refine⟨cW,?_⟩;dsimp only at hp hK⊢;cbv;repeat'((first|refine .mk (fun h=>?_) fun h=>?_|fail)<;>cbv)
 all_goals exact nF.mk ⟨_,Gh.refl _,.inl (.v9 (mT hK (by(unfold CW;simp;omega))))⟩
def WG {ι:Type}(a:ι→List AV) (p:ι→Prop) (g:ι→Bool):cQ:=spec a (fun _=>[]) p (fun i=>.bl (g i)) fun _=>[]
def WZ (t:Tk):Bool:=decide (t.kind=0) || (decide (t.kind=1) || decide (t.kind=2))
def XQ:cQ:=WG (fun t:Tk=>[LQ t]) (fun _=>True) WZ
theorem Yh (P:bG):bL P T1 XQ:=by
 intro args H K hc;obtain⟨⟨k,a,t⟩,rfl,rfl,hp,hK⟩:=hc;refine⟨cW,?_⟩;dsimp only at hp hK⊢;cbv;repeat'((first|refine .mk (fun h=>?_) fun h=>?_|fail)<;>cbv)
 all_goals exact nF.mk ⟨_,Gh.refl _,.inl (.v9 (mT hK (by(unfold WZ;simp;omega))))⟩
def X2 (p:Tk→Bool) (r:Uc):Bool:=decide (r.e=0) && (match r.l with
 |[t]=>p t
 |_=>false)
theorem Xn (p:Tk→Bool) (a:Nat) (e:Int):X2 p ⟨[],a,e⟩=false:=by unfold X2;simp
theorem Ym (p:Tk→Bool) (t:Tk) (a:Nat) (e:Int):X2 p ⟨[t],a,e⟩=(decide (e=0) && p t):=rfl
theorem XM (p:Tk→Bool) {l:List Tk}(h:2≤l.length) (a:Nat) (e:Int):X2 p ⟨l,a,e⟩=false:=by
 obtain _|⟨x,_|⟨y,l⟩⟩:=l
 ·exact absurd h (by decide)
 ·exact absurd h (by simp)
 ·unfold X2;simp
def WM (s:bF):Bool:=Wt s && X2 WZ (Il s)
def Zw:cQ:=WG (fun s:bF=>[.str s]) (fun s=>s.size≤1099511627776) WM
theorem X0 (P:bG) (hn:bH P 222 (DG (fun _=>True) Wt)) (hs:bH P 27 Fq) (hd:bH P 223 XQ):bL P SC Zw:=by
 intro args H K hc;obtain⟨s,rfl,rfl,hp,hK⟩:=hc;refine⟨cW,?_⟩;dsimp only at hp hK⊢
 try dsimp only at hp
 obtain⟨g,hg⟩:∃g,g=WM s:=⟨_,rfl⟩
 rw[←hg]at hK;obtain⟨b,hb⟩:∃b,b=Wt s:=⟨_,rfl⟩
 obtain⟨r,hr⟩:∃r,r=Il s:=⟨_,rfl⟩
 unfold WM at hg;rw[←hb,←hr]at hg;cbv
 (refine hP hn s trivial ?_;try dsimp only)
 rw[←hb];cases b
 ·cbv;exact nF.mk ⟨_,Gh.refl _,.inl (.v9 (mT hK (by(rw[hg];rfl))))⟩
 ·rw[Bool.true_and]at hg;cbv
  (refine hP hs s hp ?_;try dsimp only)
  rw[←hr];clear hr hb;obtain⟨l,a,e⟩:=r
  try dsimp only
  rcases aL l.length 2 with hl2|hl2
  ·rcases Nat.eq_zero_or_pos l.length with hl0|hl0
   ·obtain rfl:=List.length_eq_zero_iff.1 hl0;rw[Xn]at hg;subst hg;cbv;repeat'((first|refine .n fun h=>?_|refine .mk (fun h=>?_) fun h=>?_|refine .k fun z hz=>?_|fail)<;>cbv)
    all_goals(refine .q9 ?_;cbv;exact .inl (.f9 hK))
   ·obtain⟨x,rfl⟩:=List.length_eq_one_iff.1 (show l.length=1 by omega);rw[Ym]at hg;obtain⟨b,hb⟩:∃b,b=WZ x:=⟨_,rfl⟩
    rw[←hb]at hg;obtain⟨k,ta,tt⟩:=x;cbv;repeat'((first|(first|refine .y fun h=>?_|refine .mk (fun h=>?_) fun h=>?_|refine .k fun z hz=>?_|fail)|refine kR.i0 ?_)<;>cbv)
    all_goals first
     |exact nF.mk ⟨_,Gh.refl _,.inl (.v9 (mT hK (by(rw[hg,aG (by assumption)];rfl))))⟩
     |((refine hP hd (⟨k,ta,tt⟩:Tk) trivial ?_;try dsimp only)
       rw[←hb];cases b<;>((cbv);exact nF.mk ⟨_,Gh.refl _,.inl (.v9 (mT hK (by(rw[hg,aH (by assumption)];rfl))))⟩))
  ·rw[XM _ hl2]at hg;subst hg;have hml:=bN LQ l;obtain⟨ml,hmm⟩:∃m,m=bK LQ l:=⟨_,rfl⟩
   rw[←hmm]at hml⊢;cbv;repeat'((first|refine .n fun h=>?_|refine .mk (fun h=>?_) fun h=>?_|refine .k fun z hz=>?_|fail)<;>cbv)
   all_goals first
    |(refine .q9 ?_;cbv;exact .inl (.f9 hK))
    |(exfalso;omega)
    |skip
def ZM (s:bF) (t:Tk):Bool:=decide (t.kind=4) && decide (t.text=s)
def W2 (s:bF):Bool:=X2 (ZM s) (Il s)
def adD:cQ:=WG (fun s:bF=>[.str s]) (fun s=>s.size≤1099511627776) W2
theorem X4 (P:bG) (hs:bH P 27 Fq):bL P S6 adD:=by
 intro args H K hc;obtain⟨s,rfl,rfl,hp,hK⟩:=hc;refine⟨cW,?_⟩;dsimp only at hp hK⊢
 try dsimp only at hp
 obtain⟨g,hg⟩:∃g,g=W2 s:=⟨_,rfl⟩
 rw[←hg]at hK;obtain⟨r,hr⟩:∃r,r=Il s:=⟨_,rfl⟩
 unfold W2 at hg;rw[←hr]at hg;cbv
 (refine hP hs s hp ?_;try dsimp only)
 rw[←hr];clear hr;obtain⟨l,a,e⟩:=r
 try dsimp only
 rcases aL l.length 2 with hl2|hl2
 ·rcases Nat.eq_zero_or_pos l.length with hl0|hl0
  ·obtain rfl:=List.length_eq_zero_iff.1 hl0;rw[Xn]at hg;subst hg;cbv;repeat'((first|refine .n fun h=>?_|refine .mk (fun h=>?_) fun h=>?_|refine .k fun z hz=>?_|fail)<;>cbv)
   all_goals(refine .q9 ?_;cbv;exact .inl (.f9 hK))
  ·obtain⟨x,rfl⟩:=List.length_eq_one_iff.1 (show l.length=1 by omega);rw[Ym]at hg;obtain⟨k,ta,tt⟩:=x;unfold ZM at hg;dsimp only at hg;cbv;repeat'((first|(first|refine .y fun h=>?_|refine .mk (fun h=>?_) fun h=>?_|refine .k fun z hz=>?_|fail)|refine kR.i0 ?_)<;>cbv)
   all_goals exact nF.mk ⟨_,Gh.refl _,.inl (.v9 (mT hK (by(rw[hg];simp_all))))⟩
 ·rw[XM _ hl2]at hg;subst hg;have hml:=bN LQ l;obtain⟨ml,hmm⟩:∃m,m=bK LQ l:=⟨_,rfl⟩
  rw[←hmm]at hml⊢;cbv;repeat'((first|refine .n fun h=>?_|refine .mk (fun h=>?_) fun h=>?_|refine .k fun z hz=>?_|fail)<;>cbv)
  all_goals first
   |(refine .q9 ?_;cbv;exact .inl (.f9 hK))
   |(exfalso;omega)
def XG (s:bF):Bool:=decide (eZ Dz s 0=s.size)
def afB:cQ:=WG (fun s:bF=>[.str s]) (fun s=>s.size≤1099511627776) XG
theorem XR (P:bG):bL P SZ afB:=by
 intro args H K hc;obtain⟨s,rfl,rfl,hp,hK⟩:=hc;refine⟨cW,?_⟩;dsimp only at hp hK⊢
 try dsimp only at hp
 obtain⟨g,hg⟩:∃g,g=XG s:=⟨_,rfl⟩
 rw[←hg]at hK;unfold XG at hg;obtain⟨n,hn⟩:∃n,n=s.size:=⟨_,rfl⟩
 cbv;repeat'((first|refine .k fun z hz=>?_|fail)<;>cbv)
 refine bZ [] (fun q:{ k:Nat // k≤n∧eZ Dz s 0=eZ Dz s k }=>[(6,.i (nI q.1))]) (fun _=>[]) (fun q=>iH n q.1) ⟨0,aI _,rfl⟩ ?_;rintro ⟨k,hk,hrun⟩
 try dsimp only at hk hrun⊢
 rw[hrun]at hg;rcases aL k s.size with hks|hks
 ·have hno:Dz (s[k].toNat:Int)=false→g=false:=fun h=>by
   rw[hg,Fo hks h];exact aG (by omega)
  have hys:Dz (s[k].toNat:Int)=true→eZ Dz s 0=eZ Dz s (k+1):=fun h=>by rw[hrun,tK hks h]
  cbv;repeat'((first|refine .y fun h=>?_|fail)<;>cbv)
  refine dS hks fun z1 hz1=>?_
  have e1:z1=(s[k].toNat:Int):=hz1;cbv;repeat'((first|refine .mk (fun h=>?_) fun h=>?_|fail)<;>cbv)
  ·exact nF.mk ⟨_,Gh.refl _,.inl (.v9 (mT hK (by(rw[hno (by unfold Dz;simp;omega)]))))⟩
  refine dS hks fun z2 hz2=>?_
  have e2:z2=(s[k].toNat:Int):=hz2;cbv;repeat'((first|refine .mk (fun h=>?_) fun h=>?_|fail)<;>cbv)
  ·exact nF.mk ⟨_,Gh.refl _,.inl (.v9 (mT hK (by(rw[hno (by unfold Dz;simp;omega)]))))⟩
  refine dS hks fun z3 hz3=>?_
  have e3:z3=(s[k].toNat:Int):=hz3;cbv;repeat'((first|refine .mk (fun h=>?_) fun h=>?_|refine .k fun z hz=>?_|fail)<;>cbv)
  ·exact nF.mk ⟨_,Gh.refl _,.inl (.v9 (mT hK (by(rw[hno (by unfold Dz;simp;omega)]))))⟩
  ·obtain rfl:z=nI (k+1):=bR;exact bP ⟨k+1,by omega,hys (by unfold Dz;simp;omega)⟩ (bQ (by omega))
 ·rw[CI hks]at hg;cbv;repeat'((first|refine .n fun h=>?_|fail)<;>cbv)
  exact nF.mk ⟨_,Gh.refl _,.inl (.v9 (mT hK (by(rw[hg];exact(aH (by omega)).symm))))⟩
def Xq (k:Int):Bool:=decide (0≤k) && decide (k < 6)
def aeE:cQ:=WG (fun k:Int=>[.i k]) (fun _=>True) Xq
theorem XC (P:bG):bL P T7 aeE:=by
 intro args H K hc;obtain⟨k,rfl,rfl,hp,hK⟩:=hc;refine⟨cW,?_⟩;dsimp only at hp hK⊢;cbv;repeat'((first|refine .mk (fun h=>?_) fun h=>?_|fail)<;>cbv)
 all_goals exact nF.mk ⟨_,Gh.refl _,.inl (.v9 (mT hK (by(unfold Xq;simp;omega))))⟩
def x6:dD:=⟨82,zr [zs 1 (.box 29 (.t 0)),yb 2 false] (.seq (zr [zs 14 (.call 7 []),yo 15 14] (.cond (.t 15) (zr [yb 2 false] .ret) .skip)) (zr [yt 17 19 1,zs 18 (.call 8 [.t 17]),zm 16 18,yx 19 16 0,yx 20 16 1,yx 21 16 2,zs 3 (.alloc 33 [se,se,se,se,se,se,se,se,zi,zi,zi,zi,zi,zi,zi,.bl false,.bl false,sn]),ys 18 3 19,zm 4 20,zm 5 21] (.seq (zr [zm 22 5,yo 23 22] (.cond (.t 23) (zr [yb 2 true] .ret) .skip)) (zr [yt 25 18 3,zs 26 (.call 25 [.t 25]),zm 24 26,yx 27 24 0,yx 28 24 1,zm 6 27,zm 7 28] (zr [zm 30 6,zs 31 (.call 26 [.t 30]),zm 29 31,yx 32 29 0,yx 33 29 1,yx 34 29 2,zs 8 (.alloc 33 [se,se,se,se,se,se,se,se,zi,zi,zi,zi,zi,zi,zi,.bl false,.bl false,sn]),ys 18 8 32,zm 9 33,zm 10 34] (zr [zm 36 6,zs 37 (.call 27 [.t 36]),zm 35 37,yx 38 35 0,yx 39 35 1,yx 40 35 2,zm 11 38,zm 12 39,zm 13 40] (.seq (zr [zm 41 7,yk 42 .neq 41 0,zm 43 42,zh 44 43 false 10,gk 45 43 false .neq 44 0,yq 46 43 true 45,zm 47 46,zh 48 47 false 13,gk 49 47 false .neq 48 0,yq 50 47 true 49,zm 51 50,zh 52 51 false 9,gk 53 51 false .neq 52 0,yq 54 51 true 53,zm 55 54,zh 56 55 false 11,ge 57 55 false 56,gk 58 55 false .eql 57 0,yq 59 55 true 58,zm 60 59,zg 61 60 false (.ld true 18 (.t 8)),zg 62 60 false (.ld true 18 (.t 3)),zg 63 60 false (.call 23 [.t 61,.t 62]),go 64 60 false 63,yq 65 60 true 64] (.cond (.t 65) (zr [yb 2 false] .ret) .skip)) (.seq (.dreg (.take 0 (yt 66 18 8) (.take 2 (zf 68 11 3) (.take 3 (zl 69 68) (.take 4 (zf 70 12 3) (.take 5 (zl 71 70) (.take 6 (yc 72 .leq 69 71) (.eff 1 0 true (zs 67 (.call 28 [.t 66])) (.phase (.take 7 (zs 73 (.cmb .eql (.t 67) (.t 72))) (.take 8 (zm 74 73) (.take 9 (zg 75 74 true (.ld true 18 (.t 8))) (.take 10 (zh 76 74 true 4) (.take 11 (gf 77 74 true 18 1) (.take 12 (gl 78 74 true 77) (.take 13 (zg 79 74 true (.cvi .i64 (.t 78))) (.eff 14 0 false (zg 80 74 true (.call 9 [.t 75,.t 76,.t 79])) (.phase (.take 15 (yr 81 74 80 false) (.take 16 (zm 2 81) .nil))))))))))))))))))) 0 [8,3,1]) .ret)))))))),[.tmp 2]⟩
def x23:dD:=⟨51,zr [zs 2 (.box 33 (.t 0)),zs 3 (.box 33 (.t 1)),yb 4 false] (zr [zs 5 (.mov (.c (.clo 68 [])))] (zr [zs 6 (.mov (.c (.clo 69 [])))] (.seq (.dreg (.take 0 (zm 7 5) (.take 1 (yt 8 18 2) (.take 3 (zm 10 5) (.take 4 (yt 11 18 3) (.eff 2 0 true (zs 9 (.cav (.t 7) [.t 8])) (.eff 5 0 false (zs 12 (.cav (.t 10) [.t 11])) (.phase (.take 6 (zs 13 (.cms false [1,1,1,1,1,1,1] (.t 9) (.t 12))) (.take 7 (zm 14 13) (.take 8 (zh 15 14 true 6) (.take 9 (zg 16 14 true (.ld true 18 (.t 2))) (.take 11 (zh 18 14 true 6) (.take 12 (zg 19 14 true (.ld true 18 (.t 3))) (.eff 10 0 true (zg 17 14 true (.cav (.t 15) [.t 16])) (.eff 13 0 false (zg 20 14 true (.cav (.t 18) [.t 19])) (.phase (.take 14 (zg 21 14 true (.cms false [0,0,0,0,0,0] (.t 17) (.t 20))) (.take 15 (yr 22 14 21 false) (.take 16 (zm 23 22) (.take 17 (gf 24 23 true 7 2) (.take 18 (zg 25 23 true (.ld true 2 (.t 24))) (.take 19 (gf 26 23 true 7 3) (.take 20 (zg 27 23 true (.ld true 2 (.t 26))) (.take 21 (zg 28 23 true (.cms false [1,0] (.t 25) (.t 27))) (.take 22 (yr 29 23 28 false) (.take 23 (zm 30 29) (.take 24 (gf 31 30 true 15 2) (.take 25 (gl 32 30 true 31) (.take 26 (gf 33 30 true 15 3) (.take 27 (gl 34 30 true 33) (.take 28 (zg 35 30 true (.cmb .eql (.t 32) (.t 34))) (.take 29 (yr 36 30 35 false) (.take 30 (zm 37 36) (.take 31 (gf 38 37 true 16 2) (.take 32 (gl 39 37 true 38) (.take 33 (gf 40 37 true 16 3) (.take 34 (gl 41 37 true 40) (.take 35 (zg 42 37 true (.cmb .eql (.t 39) (.t 41))) (.take 36 (yr 43 37 42 false) (.take 37 (zm 44 43) (.take 38 (gf 45 44 true 17 2) (.take 39 (gl 46 44 true 45) (.take 40 (gf 47 44 true 17 3) (.take 41 (gl 48 44 true 47) (.eff 42 0 false (zg 49 44 true (.call 70 [.t 46,.t 48,.c (.clo 71 [])])) (.phase (.take 43 (yr 50 44 49 false) (.take 44 (zm 4 50) .nil)))))))))))))))))))))))))))))))))))))))))))))))) 0 [2,3]) .ret))),[.tmp 4]⟩
def x26:dD:=⟨26,zr [zs 2 (.alloc 33 [se,se,se,se,se,se,se,se,zi,zi,zi,zi,zi,zi,zi,.bl false,.bl false,sn]),yj 3 0,yj 4 0] (zr [zm 7 0,zs 8 (.call 76 [.t 7]),zm 5 8] (zr [zm 9 5,zs 10 (.call 77 [.t 9]),zs 6 (.alloc 33 [se,se,se,se,se,se,se,se,zi,zi,zi,zi,zi,zi,zi,.bl false,.bl false,sn]),ys 18 6 10] (.seq (zr [zm 11 5,zs 12 (.nck (.t 11)),zf 13 4 12,zl 14 13,yk 15 .neq 14 0] (.cond (.t 15) (.seq (.dreg (.take 0 (zs 16 (.bld [se,se,se,se,se,se,se,se,zi,zi,zi,zi,zi,zi,zi,.bl false,.bl false,sn] [])) (.take 1 (zm 17 5) (.take 2 (zs 18 (.nck (.t 17))) (.take 3 (zf 19 3 18) (.take 4 (zl 20 19) (.take 5 (zm 21 5) (.take 6 (zs 22 (.nck (.t 21))) (.take 7 (zf 23 4 22) (.take 8 (zl 24 23) (.eff 9 0 true (ys 18 2 16) (.take 10 (zm 3 20) (.take 11 (zm 4 24) .nil)))))))))))) 0 [5]) .ret) .skip)) (zr [yt 25 18 6,ys 18 2 25,yj 3 0,yj 4 0] .ret)))),[.cell 2 true 18,.tmp 3,.tmp 4]⟩
def x28:dD:=⟨11,zr [zs 1 (.box 33 (.t 0)),yb 2 false] (zr [yt 3 18 1,zs 4 (.call 30 [.t 3]),zm 5 4,zg 6 5 true (.ld true 18 (.t 1)),zg 7 5 true (.call 81 [.t 6]),ge 8 5 true 7,gk 9 5 true .eql 8 0,yr 10 5 9 false,zm 2 10] .ret),[.tmp 2]⟩
def x64:dD:=⟨9,zr [yb 4 false] (zr [zm 5 0,zm 6 1,zs 7 (.call 123 [.t 5,.t 6]),yk 8 .geq 7 0,zm 4 8] .ret),[.tmp 4]⟩
def x68:dD:=⟨18,zr [zs 1 (.box 33 (.t 0)),zs 2 (.alloc 155 [se,se,se,se,se,se,se])] (zr [zf 3 0 1,zl 4 3,zf 5 1 1,zl 6 5,zf 7 2 1,zl 8 7,zf 9 3 1,zl 10 9,zf 11 4 1,zl 12 11,zf 13 5 1,zl 14 13,zf 15 6 1,zl 16 15,zs 17 (.bld [se,se,se,se,se,se,se] [(0,(1,.t 4)),(1,(1,.t 6)),(2,(1,.t 8)),(3,(1,.t 10)),(4,(1,.t 12)),(5,(1,.t 14)),(6,(1,.t 16))]),ys 7 2 17] .ret),[.cell 2 true 7]⟩
def x69:dD:=⟨16,zr [zs 1 (.box 33 (.t 0)),zs 2 (.alloc 157 [zi,zi,zi,zi,zi,zi])] (zr [zf 3 9 1,zl 4 3,zf 5 10 1,zl 6 5,zf 7 11 1,zl 8 7,zf 9 12 1,zl 10 9,zf 11 13 1,zl 12 11,zf 13 14 1,zl 14 13,zs 15 (.bld [zi,zi,zi,zi,zi,zi] [(0,(1,.t 4)),(1,(1,.t 6)),(2,(1,.t 8)),(3,(1,.t 10)),(4,(1,.t 12)),(5,(1,.t 14))]),ys 6 2 15] .ret),[.cell 2 true 6]⟩
def x70:dD:=⟨32,zr [yb 6 false] (.seq (zr [zm 10 0,yl 11 10,zm 12 1,yl 13 12,yc 14 .neq 11 13] (.cond (.t 14) (zr [yb 6 false] .ret) .skip)) (.seq (zr [zm 15 0,yl 16 15,yj 17 0] (.block 0 (.loop (zr [yc 18 .lss 17 16] (.seq (.cond (.t 18) .skip (.exit 0)) (.seq (.block 1 (zr [zm 19 17,yi 20 8 15 17,yt 21 8 20,zs 8 (.alloc 102 [zi,zi,zi,zi,se,se,zi,sn]),zm 7 19,ys 8 8 21] (zr [zm 22 1,zm 23 7,yi 24 8 22 23,yt 25 8 24,zs 9 (.alloc 102 [zi,zi,zi,zi,se,se,zi,sn]),ys 8 9 25] (zr [zm 26 2,yt 27 8 8,yt 28 8 9,zs 29 (.cav (.t 26) [.t 27,.t 28]),yo 30 29] (.cond (.t 30) (zr [yb 6 false] .ret) .skip))))) (.reg [yp 31 17,zm 17 31]))))))) (zr [yb 6 true] .ret))),[.tmp 6]⟩
def x71:dD:=⟨24,zr [zs 2 (.box 102 (.t 0)),zs 3 (.box 102 (.t 1)),yb 4 false] (zr [zf 5 0 2,zl 6 5,zf 7 0 3,zl 8 7,yc 9 .eql 6 8,zm 10 9,gf 11 10 true 1 2,gl 12 10 true 11,gf 13 10 true 1 3,gl 14 10 true 13,gc 15 10 true .eql 12 14,yr 16 10 15 false,zm 17 16,gf 18 17 true 2 2,zg 19 17 true (.ld true 6 (.t 18)),gf 20 17 true 2 3,zg 21 17 true (.ld true 6 (.t 20)),zg 22 17 true (.call 124 [.t 19,.t 21]),yr 23 17 22 false,zm 4 23] .ret),[.tmp 4]⟩
def x76:dD:=⟨40,zr [zs 2 (.mov (.c (.v (.pointer none))))] (zr [zm 7 0,yz 8 7,zs 9 (.bld [sn,zi,zi,zi,zi] [(2,(1,.t 8))]),zs 10 (.box 172 (.t 9)),zm 3 10] (.seq (zr [zm 11 0,yz 12 11,yk 13 .gtr 12 4096] (.cond (.t 13) (zr [zm 14 3,zs 15 (.nck (.t 14)),zf 16 4 15,zn (.st 1 (.t 16) (.c (.int .i64 7)))] (zr [zm 17 3,zm 2 17] .ret)) .skip)) (zr [zm 19 0,zs 20 (.call 27 [.t 19]),zm 18 20,yx 21 18 0,yx 22 18 1,yx 23 18 2,zm 4 21,zm 5 22,zm 6 23] (.seq (zr [zm 24 6,yk 25 .neq 24 0] (.cond (.t 25) (zr [zm 26 3,zm 27 3,zm 28 5,zm 29 6,zs 30 (.nck (.t 26)),zf 31 3 30,ys 1 31 28,zs 32 (.nck (.t 27)),zf 33 4 32,ys 1 33 29] (zr [zm 34 3,zm 2 34] .ret)) .skip)) (zr [zm 35 3,zm 36 4,zs 37 (.nck (.t 35)),zf 38 0 37,ys 1 38 36] (zr [zm 39 3,zm 2 39] .ret)))))),[.tmp 2]⟩
def x77:dD:=⟨98,zr [zs 2 (.alloc 33 [se,se,se,se,se,se,se,se,zi,zi,zi,zi,zi,zi,zi,.bl false,.bl false,sn])] (zr [zs 3 (.alloc 33 [se,se,se,se,se,se,se,se,zi,zi,zi,zi,zi,zi,zi,.bl false,.bl false,sn])] (zr [zm 4 0,zs 5 (.call 150 [.t 4,.c (.str ⟨#[99,114,101,100,105,116]⟩)]),zf 6 0 3,ys 1 6 5] (zr [zm 7 0,zs 8 (.call 150 [.t 7,.c (.str ⟨#[97,112,112,108,105,99,97,110,116]⟩)]),zf 9 1 3,ys 1 9 8] (zr [zm 10 0,zs 11 (.call 150 [.t 10,.c (.str ⟨#[98,101,110,101,102,105,99,105,97,114,121]⟩)]),zf 12 2 3,ys 1 12 11] (zr [zm 13 0,zs 14 (.call 150 [.t 13,.c (.str ⟨#[105,115,115,117,101,114]⟩)]),zf 15 3 3,ys 1 15 14] (.seq (zr [zm 16 0,zs 17 (.bsl 9 1 1 [se] [(0,.c (.str ⟨#[99,111,110,102,105,114,109,101,114]⟩))]),zs 18 (.call 152 [.t 17]),zs 19 (.call 151 [.t 16,.t 18])] (.cond (.t 19) (.reg [zm 20 0,zs 21 (.call 150 [.t 20,.c (.str ⟨#[99,111,110,102,105,114,109,101,114]⟩)]),zf 22 4 3,ys 1 22 21]) .skip)) (zr [zm 23 0,zs 24 (.call 150 [.t 23,.c (.str ⟨#[102,114,111,109]⟩)]),zf 25 5 3,ys 1 25 24] (zr [zm 26 0,zs 27 (.call 150 [.t 26,.c (.str ⟨#[116,111]⟩)]),zf 28 6 3,ys 1 28 27] (zr [zm 29 0,zs 30 (.call 153 [.t 29,.t 3])] (zr [zm 31 0,zs 32 (.call 154 [.t 31,.c (.str ⟨#[108,97,116,101,115,116]⟩)]),zf 33 11 3,ys 1 33 32] (zr [zm 34 0,zs 35 (.call 154 [.t 34,.c (.str ⟨#[101,120,112,105,114,121]⟩)]),zf 36 12 3,ys 1 36 35] (zr [zm 37 0,zs 38 (.bsl 9 1 1 [se] [(0,.c (.str ⟨#[119,105,116,104,105,110]⟩))]),zs 39 (.call 152 [.t 38]),zs 40 (.call 155 [.t 37,.t 39])] (zr [zm 41 0,zs 42 (.call 156 [.t 41,.c zi]),zf 43 13 3,ys 1 43 42] (zr [zm 44 0,zs 45 (.bsl 9 1 1 [se] [(0,.c (.str ⟨#[100,97,121,115]⟩))]),zs 46 (.call 152 [.t 45]),zs 47 (.call 155 [.t 44,.t 46])] (zr [zm 48 0,zs 49 (.call 157 [.t 48])] (zr [zm 50 0,zs 51 (.call 158 [.t 50]),zf 52 14 3,ys 1 52 51] (zr [zm 53 0,zs 54 (.call 159 [.t 53,.c (.str ⟨#[112,97,114,116,105,97,108]⟩)]),zf 55 15 3,ys 1 55 54] (zr [zm 56 0,zs 57 (.call 159 [.t 56,.c (.str ⟨#[99,104,97,110,103,101]⟩)]),zf 58 16 3,ys 1 58 57] (.seq (.block 0 (.loop (.seq (.seq (.dreg (.take 0 (zm 59 0) (.take 1 (zs 60 (.nck (.t 59))) (.take 2 (zf 61 4 60) (.take 3 (zl 62 61) (.take 4 (yk 63 .eql 62 0) (.take 5 (zm 64 63) (.take 6 (zh 65 64 true 0) (.take 7 (zg 66 64 true (.nck (.t 65))) (.take 8 (gf 67 64 true 1 66) (.take 9 (gl 68 64 true 67) (.take 10 (zh 69 64 true 0) (.take 11 (zg 70 64 true (.nck (.t 69))) (.take 12 (gf 71 64 true 0 70) (.take 13 (gl 72 64 true 71) (.take 14 (ge 73 64 true 72) (.take 15 (gc 74 64 true .lss 68 73) (.take 16 (yr 75 64 74 false) .nil))))))))))))))))) 0 [0]) (.cond (.t 75) .skip (.exit 0))) (.block 1 (.seq (zr [zf 76 17 3,zl 77 76,yl 78 77,yk 79 .geq 78 64,zm 80 79,zh 81 80 true 0,zg 82 80 true (.bsl 9 1 1 [se] [(0,.c (.str ⟨#[119,97,110,116,115]⟩))]),zg 83 80 true (.call 152 [.t 82]),zg 84 80 true (.call 151 [.t 81,.t 83]),yr 85 80 84 false] (.cond (.t 85) (.reg [zm 86 0,zm 87 0,zs 88 (.call 161 [.t 87]),zs 89 (.call 160 [.t 86,.t 88,.c (.int .i64 7)])]) .skip)) (.dreg (.take 0 (zf 90 17 3) (.take 1 (zl 91 90) (.take 2 (zm 92 0) (.eff 3 0 true (zs 93 (.call 162 [.t 92])) (.eff 4 0 true (zs 94 (.bsl 102 8 1 [zi,zi,zi,zi,se,se,zi,sn] [(0,.t 93)])) (.eff 5 1 false (zs 95 (.app 31 31 102 8 96 (.t 91) (.t 94))) (.phase (.take 6 (zf 96 17 3) (.eff 7 2 false (ys 1 96 95) (.phase .nil)))))))))) 2 [3])))))) (zr [yt 97 18 3,ys 18 2 97] .ret)))))))))))))))))))),[.cell 2 true 18]⟩
def x81:dD:=⟨56,zr [zs 1 (.box 33 (.t 0)),zs 2 (.mov (.c sn))] (zr [zs 3 (.alloc 38 [sn])] (zr [zs 9 (.mkm 91),zs 4 (.alloc 91 [.v (.map none)]),ys 1 4 9] (zr [zs 10 (.mkf 168 [.t 4,.t 3]),zs 5 (.alloc 93 [.v .nilFunc]),ys 1 5 10] (.seq (zr [zf 11 11 1,zl 12 11,zf 13 12 1,zl 14 13,yc 15 .gtr 12 14] (.cond (.t 15) (.reg [zl 16 5,zs 17 (.bld [zi,zi,se,zi] [(0,(1,.c (.int .i64 (-1)))),(1,(1,.c (.int .i64 (-1)))),(2,(1,.c (.str ⟨#[108,97,116,101,115,116]⟩))),(3,(1,.c (.int .i64 4)))]),zs 18 (.cav (.t 16) [.t 17])]) .skip)) (zr [zs 19 (.mkm 97),zm 6 19] (.seq (zr [zf 20 17 1,zl 21 20,yl 22 21,yj 23 0] (.block 0 (.loop (zr [yc 24 .lss 23 22] (.seq (.cond (.t 24) .skip (.exit 0)) (.seq (.block 1 (zr [zm 25 23,yi 26 8 21 23,yt 27 8 26,zs 7 (.alloc 3 [zi]),zs 8 (.alloc 102 [zi,zi,zi,zi,se,se,zi,sn]),ys 1 7 25,ys 8 8 27] (.seq (zr [zm 28 6,zf 29 0 8,zl 30 29,zs 31 (.lkp (.some .i64) false (.bl false) (.t 28) (.t 30))] (.cond (.t 31) (.reg [zl 32 5,zl 33 7,zf 34 0 8,zl 35 34,zs 36 (.bld [zi,zi,se,zi] [(0,(1,.t 33)),(1,(1,.t 35)),(3,(1,.c (.int .i64 5)))]),zs 37 (.cav (.t 32) [.t 36])]) .skip)) (zr [zm 38 6,zf 39 0 8,zl 40 39,zn (.upd (.some .i64) (.t 38) (.t 40) (.c (.bl true)))] (zr [zf 41 2 8,yt 42 6 41,zs 43 (.mkf 170 [.t 1,.t 8,.t 5,.t 7]),zs 44 (.call 169 [.t 42,.t 43])] (zr [zf 45 2 8,yt 46 6 45,zs 47 (.call 172 [.t 46])] (.cond (.t 47) (.reg [zl 48 5,zl 49 7,zf 50 0 8,zl 51 50,zs 52 (.bld [zi,zi,se,zi] [(0,(1,.t 49)),(1,(1,.t 51)),(3,(1,.c (.int .i64 2)))]),zs 53 (.cav (.t 48) [.t 52])]) .skip))))))) (.reg [yp 54 23,zm 23 54]))))))) (zr [zl 55 3,zm 2 55] .ret))))))),[.tmp 2]⟩
def asR:dD:=⟨19,zr [yj 4 0] (.seq (zr [zm 6 0,yl 7 6,yj 8 0] (.block 0 (.loop (zr [yc 9 .lss 8 7] (.seq (.cond (.t 9) .skip (.exit 0)) (.seq (.block 1 (zr [zm 10 8,zm 5 10] (zr [zm 11 1,zm 12 0,zm 13 5,yi 14 1 12 13,zl 15 14,yc 16 .eql 11 15] (.cond (.t 16) (zr [zm 17 5,zm 4 17] .ret) .skip)))) (.reg [yp 18 8,zm 8 18]))))))) (zr [yj 4 (-1)] .ret)),[.tmp 4]⟩
def arF:dD:=⟨45,zr [zs 2 (.box 100 (.t 0)),zs 3 (.box 100 (.t 1)),yb 4 false] (zr [zf 5 0 2,zl 6 5,zf 7 0 3,zl 8 7,yc 9 .eql 6 8,zm 10 9,gf 11 10 true 1 2,gl 12 10 true 11,gf 13 10 true 1 3,gl 14 10 true 13,gc 15 10 true .eql 12 14,yr 16 10 15 false,zm 17 16,gf 18 17 true 2 2,gl 19 17 true 18,gf 20 17 true 2 3,gl 21 17 true 20,gc 22 17 true .eql 19 21,yr 23 17 22 false,zm 24 23,gf 25 24 true 3 2,gl 26 24 true 25,gf 27 24 true 3 3,gl 28 24 true 27,gc 29 24 true .eql 26 28,yr 30 24 29 false,zm 31 30,gf 32 31 true 4 2,gl 33 31 true 32,gf 34 31 true 4 3,gl 35 31 true 34,gc 36 31 true .eql 33 35,yr 37 31 36 false,zm 38 37,gf 39 38 true 5 2,gl 40 38 true 39,gf 41 38 true 5 3,gl 42 38 true 41,zg 43 38 true (.call 214 [.t 40,.t 42,.c (.clo 124 [])]),yr 44 38 43 false,zm 4 44] .ret),[.tmp 4]⟩
def atV:dD:=⟨16,zr [zs 4 (.mov (.c se))] (zr [zm 6 0,zm 7 1,zs 8 (.bsl 9 1 1 [se] [(0,.t 7)]),zs 9 (.call 152 [.t 8]),zs 10 (.call 155 [.t 6,.t 9])] (zr [zm 11 0,zs 12 (.call 155 [.t 11,.c (.clo 223 [])]),zm 5 12] (zr [zm 13 0,zs 14 (.call 157 [.t 13])] (zr [zm 15 5,zm 4 15] .ret)))),[.tmp 4]⟩
def acN:dD:=⟨8,zr [yb 4 false] (zr [zm 5 0,zm 6 1,zs 7 (.call 226 [.t 5,.c zi,.t 6]),zm 4 7] .ret),[.tmp 4]⟩
def auG:dD:=⟨4,zr [zs 1 (.box 64 (.t 0)),zs 2 (.mov (.c (.v .nilFunc)))] (zr [zs 3 (.mkf 227 [.t 1]),zm 2 3] .ret),[.tmp 2]⟩
def atW:dD:=⟨41,zr [zm 4 0,zs 5 (.bsl 9 1 1 [se] [(0,.c (.str ⟨#[115,117,109]⟩))]),zs 6 (.call 152 [.t 5]),zs 7 (.call 155 [.t 4,.t 6])] (zr [zm 8 1,zm 9 0,zs 10 (.call 228 [.c (.int .i64 4)]),zs 11 (.call 155 [.t 9,.t 10]),zs 12 (.nck (.t 8)),zf 13 7 12,zf 14 0 13,ys 1 14 11] (zr [zm 15 1,zm 16 0,zs 17 (.call 229 [.t 16,.c (.int .i64 1),.c (.int .i64 1099511627776)]),zs 18 (.nck (.t 15)),zf 19 7 18,zf 20 1 19,ys 1 20 17] (zr [zm 21 0,zs 22 (.bsl 9 1 1 [se] [(0,.c (.str ⟨#[97,98,111,118,101]⟩))]),zs 23 (.call 152 [.t 22]),zs 24 (.call 155 [.t 21,.t 23])] (zr [zm 25 1,zm 26 0,zs 27 (.call 229 [.t 26,.c zi,.c (.int .i64 1000)]),zs 28 (.nck (.t 25)),zf 29 9 28,ys 1 29 27] (zr [zm 30 0,zs 31 (.bsl 9 1 1 [se] [(0,.c (.str ⟨#[98,101,108,111,119]⟩))]),zs 32 (.call 152 [.t 31]),zs 33 (.call 155 [.t 30,.t 32])] (zr [zm 34 1,zm 35 0,zs 36 (.call 229 [.t 35,.c zi,.c (.int .i64 1000)]),zs 37 (.nck (.t 34)),zf 38 10 37,ys 1 38 36] (.reg [zm 39 0,zs 40 (.call 157 [.t 39])]))))))),[]⟩
def asH:dD:=⟨16,zr [yj 4 0] (zr [zm 6 0,zm 7 1,zs 8 (.bsl 9 1 1 [se] [(0,.t 7)]),zs 9 (.call 152 [.t 8]),zs 10 (.call 155 [.t 6,.t 9])] (zr [zm 11 0,zs 12 (.call 156 [.t 11,.c zi]),zm 5 12] (zr [zm 13 0,zs 14 (.call 157 [.t 13])] (zr [zm 15 5,zm 4 15] .ret)))),[.tmp 4]⟩
def Z9:dD:=⟨33,zr [zs 4 (.mov (.c se))] (.seq (zr [zm 6 0,zm 7 1,zs 8 (.call 151 [.t 6,.t 7]),yo 9 8] (.cond (.t 9) (zr [zm 10 0,zm 11 0,zs 12 (.call 161 [.t 11]),zs 13 (.call 160 [.t 10,.t 12,.c (.int .i64 2)])] (zr [zs 4 (.mov (.c se))] .ret)) .skip)) (.seq (.dreg (.take 0 (zm 14 0) (.take 1 (zs 15 (.nck (.t 14))) (.take 2 (zf 16 0 15) (.take 3 (zl 17 16) (.take 4 (zm 18 0) (.take 5 (zs 19 (.nck (.t 18))) (.take 6 (zf 20 1 19) (.take 7 (zl 21 20) (.take 8 (yi 22 3 17 21) (.take 9 (zf 23 2 22) (.take 10 (zl 24 23) (.take 11 (zm 5 24) .nil)))))))))))) 0 [0]) (zr [zm 25 0,zs 26 (.nck (.t 25)),zf 27 1 26,zl 28 27,yp 29 28,zs 30 (.nck (.t 25)),zf 31 1 30,ys 1 31 29] (zr [zm 32 5,zm 4 32] .ret)))),[.tmp 4]⟩
def atU:dD:=⟨8,zr [yj 4 0] (zr [zm 5 0,zm 6 1,zs 7 (.call 229 [.t 5,.t 6,.c (.int .i64 1048576)]),zm 4 7] .ret),[.tmp 4]⟩
def atO:dD:=⟨6,.reg [zm 2 0,zs 3 (.bsl 9 1 1 [se] [(0,.c (.str ⟨#[59]⟩))]),zs 4 (.call 230 [.t 3]),zs 5 (.call 155 [.t 2,.t 4])],[]⟩
def asX:dD:=⟨28,zr [yj 2 0] (zr [zm 4 0,zs 5 (.bsl 9 1 1 [se] [(0,.c (.str ⟨#[116,101,110,111,114]⟩))]),zs 6 (.call 152 [.t 5]),zs 7 (.call 155 [.t 4,.t 6])] (zr [yj 3 0] (.seq (zr [zm 8 0,zs 9 (.bsl 9 1 1 [se] [(0,.c (.str ⟨#[115,105,103,104,116]⟩))]),zs 10 (.call 152 [.t 9]),zs 11 (.call 151 [.t 8,.t 10])] (.cond (.t 11) (.reg [zm 12 0,zs 13 (.nck (.t 12)),zf 14 1 13,zl 15 14,yp 16 15,zs 17 (.nck (.t 12)),zf 18 1 17,ys 1 18 16]) (zr [zm 19 0,zs 20 (.call 156 [.t 19,.c (.int .i64 1)]),zm 3 20] (.reg [zm 21 0,zs 22 (.bsl 9 1 1 [se] [(0,.c (.str ⟨#[100,97,121,115]⟩))]),zs 23 (.call 152 [.t 22]),zs 24 (.call 155 [.t 21,.t 23])])))) (zr [zm 25 0,zs 26 (.call 157 [.t 25])] (zr [zm 27 3,zm 2 27] .ret))))),[.tmp 2]⟩
def auT:dD:=⟨19,zr [yb 4 false] (zr [zm 6 0,zm 7 1,zs 8 (.bsl 9 1 1 [se] [(0,.t 7)]),zs 9 (.call 152 [.t 8]),zs 10 (.call 155 [.t 6,.t 9])] (zr [zm 11 0,zs 12 (.bsl 9 1 2 [se] [(0,.c (.str ⟨#[121,101,115]⟩)),(1,.c (.str ⟨#[110,111]⟩))]),zs 13 (.call 152 [.t 12]),zs 14 (.call 155 [.t 11,.t 13]),zs 15 (.cmp .eql (.t 14) (.c (.str ⟨#[121,101,115]⟩))),zm 5 15] (zr [zm 16 0,zs 17 (.call 157 [.t 16])] (zr [zm 18 5,zm 4 18] .ret)))),[.tmp 4]⟩
def atH:dD:=⟨28,zr [yj 2 0] (.seq (.seq (.dreg (.take 0 (zm 3 0) (.take 1 (zs 4 (.nck (.t 3))) (.take 2 (zf 5 1 4) (.take 3 (zl 6 5) (.take 4 (zm 7 0) (.take 5 (zs 8 (.nck (.t 7))) (.take 6 (zf 9 0 8) (.take 7 (zl 10 9) (.take 8 (yl 11 10) (.take 9 (yc 12 .lss 6 11) .nil)))))))))) 0 [0]) (.cond (.t 12) (.seq (.dreg (.take 0 (zm 13 0) (.take 1 (zs 14 (.nck (.t 13))) (.take 2 (zf 15 0 14) (.take 3 (zl 16 15) (.take 4 (zm 17 0) (.take 5 (zs 18 (.nck (.t 17))) (.take 6 (zf 19 1 18) (.take 7 (zl 20 19) (.take 8 (yi 21 3 16 20) (.take 9 (zf 22 1 21) (.take 10 (zl 23 22) (.take 11 (zm 2 23) .nil)))))))))))) 0 [0]) .ret) .skip)) (zr [zm 24 0,zs 25 (.nck (.t 24)),zf 26 2 25,zl 27 26,zm 2 27] .ret)),[.tmp 2]⟩
def auC:dD:=⟨37,zr [zs 2 (.alloc 102 [zi,zi,zi,zi,se,se,zi,sn])] (zr [zs 3 (.alloc 102 [zi,zi,zi,zi,se,se,zi,sn])] (zr [zm 4 0,zs 5 (.bsl 9 1 1 [se] [(0,.c (.str ⟨#[119,97,110,116,115]⟩))]),zs 6 (.call 152 [.t 5]),zs 7 (.call 155 [.t 4,.t 6])] (zr [zm 8 0,zs 9 (.call 155 [.t 8,.c (.clo 232 [])]),zs 10 (.call 231 [.t 9]),zs 11 (.mnx true (.t 10) (.c zi)),zf 12 0 3,ys 1 12 11] (zr [zm 13 0,zs 14 (.bsl 9 1 1 [se] [(0,.c (.str ⟨#[99,111,112,105,101,115]⟩))]),zs 15 (.call 152 [.t 14]),zs 16 (.call 155 [.t 13,.t 15])] (zr [zm 17 0,zs 18 (.call 229 [.t 17,.c (.int .i64 1),.c (.int .i64 9)]),zf 19 1 3,ys 1 19 18] (.seq (zr [zm 20 0,zs 21 (.bsl 9 1 1 [se] [(0,.c (.str ⟨#[119,105,116,104]⟩))]),zs 22 (.call 152 [.t 21]),zs 23 (.call 151 [.t 20,.t 22])] (.cond (.t 23) (zr [zm 24 0,zs 25 (.nck (.t 24)),zf 26 1 25,zl 27 26,yp 28 27,zs 29 (.nck (.t 24)),zf 30 1 29,ys 1 30 28] (.reg [zm 31 0,zs 32 (.call 233 [.t 31]),zf 33 2 3,ys 6 33 32])) .skip)) (zr [zm 34 0,zs 35 (.call 157 [.t 34])] (zr [yt 36 8 3,ys 8 2 36] .ret)))))))),[.cell 2 true 8]⟩
def atD:dD:=⟨14,zr [zs 3 (.box 44 (.t 0))] (zr [zl 4 1,yt 5 4 3,zs 6 (.lkp (.wide [0,0,1,0]) false (.bl false) (.t 4) (.t 5)),yo 7 6] (.cond (.t 7) (zr [zl 8 1,yt 9 4 3,zn (.upd (.wide [0,0,1,0]) (.t 8) (.t 9) (.c (.bl true)))] (.reg [zl 10 2,yt 11 4 3,zs 12 (.bsl 44 4 1 [zi,zi,se,zi] [(0,.t 11)]),zs 13 (.app 38 38 44 4 40 (.t 10) (.t 12)),ys 1 2 13])) .skip)),[]⟩
def aqV:dD:=⟨37,zr [zs 2 (.box 100 (.t 0))] (.block 0 (zr [yt 7 6 2,zs 8 (.call 240 [.t 7]),zm 6 8] (.cond (.t 6) (.reg [zm 9 1,yt 10 6 2,zs 11 (.cav (.t 9) [.t 10])]) (zr [zf 13 0 2,zl 14 13,yk 15 .eql 14 0,zm 16 15,gf 17 16 false 0 2,gl 18 16 false 17,gk 19 16 false .eql 18 1,yq 20 16 true 19,zm 21 20,gf 22 21 false 0 2,gl 23 21 false 22,gk 24 21 false .eql 23 2,yq 25 21 true 24,zm 12 25] (.cond (.t 12) (zr [zf 26 5 2,zl 27 26,yl 28 27,yj 29 0] (.block 1 (.loop (zr [yc 30 .lss 29 28] (.seq (.cond (.t 30) .skip (.exit 1)) (.seq (.block 2 (zr [yi 31 6 27 29,yt 32 6 31,zs 5 (.alloc 100 [zi,zi,se,se,zi,sn]),ys 6 5 32] (.reg [yt 33 6 5,zm 34 1,zs 35 (.call 169 [.t 33,.t 34])]))) (.reg [yp 36 29,zm 29 36]))))))) .skip))))),[]⟩
def atG:dD:=⟨23,zr [zs 5 (.box 100 (.t 0))] (zr [yt 7 18 1,zf 8 0 2,zl 9 8,yt 10 6 5,zs 11 (.call 171 [.t 7,.t 9,.t 10]),zm 6 11] (zr [zm 12 6,yk 13 .neq 12 0] (.cond (.t 13) (.reg [zl 14 3,zl 15 4,zf 16 0 2,zl 17 16,zf 18 2 5,zl 19 18,zm 20 6,zs 21 (.bld [zi,zi,se,zi] [(0,(1,.t 15)),(1,(1,.t 17)),(2,(1,.t 19)),(3,(1,.t 20))]),zs 22 (.cav (.t 14) [.t 21])]) .skip))),[]⟩
def asI:dD:=⟨62,zr [zs 3 (.box 33 (.t 0)),zs 5 (.box 100 (.t 2)),yj 6 0] (.seq (zr [zm 11 1,zf 12 2 5,zl 13 12,zs 14 (.call 241 [.t 11,.t 13]),yo 15 14] (.cond (.t 15) (zr [yj 6 1] .ret) .skip)) (zr [zf 16 2 5,zl 17 16,zs 18 (.call 242 [.t 17]),zm 7 18] (.seq (zr [zf 19 0 5,zl 20 19] (.block 0 (.seq (zr [yk 22 .eql 20 5,zm 21 22] (.cond (.t 21) .skip (.reg [yk 23 .eql 20 6,zm 21 23]))) (.cond (.t 21) (zr [zm 24 7,yk 25 .eql 24 0] (.cond (.t 25) (zr [yj 6 3] .ret) .skip)) (zr [yk 27 .eql 20 3,zm 26 27] (.cond (.t 26) (zr [zf 29 3 5,zl 30 29,zm 31 7,zs 32 (.call 243 [.t 30,.t 31]),zm 28 32,yx 33 28 0,yx 34 28 1,zm 8 33,zm 9 34] (zr [zm 35 7,yk 36 .neq 35 0,zm 37 36,zh 38 37 true 9,go 39 37 true 38,yr 40 37 39 false] (.cond (.t 40) (zr [yj 6 3] .ret) .skip))) (zr [yk 42 .eql 20 7,zm 41 42] (.cond (.t 41) (zr [zs 43 (.mkf 244 [.t 5]),zm 10 43] (.seq (zr [zf 44 17 3,zl 45 44,zm 46 10,zs 47 (.call 144 [.t 45,.t 46]),yo 48 47,zm 49 48,gf 50 49 false 1 5,gl 51 49 false 50,gf 52 49 false 3 5,gl 53 49 false 52,zg 54 49 false (.call 241 [.t 51,.t 53]),go 55 49 false 54,yq 56 49 true 55] (.cond (.t 56) (zr [yj 6 1] .ret) .skip)) (zr [zf 57 3 5,zl 58 57,zs 59 (.call 242 [.t 58]),zm 60 7,yc 61 .neq 59 60] (.cond (.t 61) (zr [yj 6 3] .ret) .skip)))) .skip)))))))) (zr [yj 6 0] .ret)))),[.tmp 6]⟩
def arU:dD:=⟨30,zr [zs 1 (.box 100 (.t 0)),yb 2 false] (.seq (zr [yt 10 6 1,zs 11 (.call 245 [.t 10]),zm 9 11,yx 12 9 0,yx 13 9 1,zm 3 12,zm 4 13] (zr [zm 14 4,yo 15 14] (.cond (.t 15) (zr [yb 2 false] .ret) .skip))) (zr [zs 5 (.alloc 98 [sn])] (zr [zs 16 (.mkf 246 [.t 5]),zm 6 16] (.seq (zr [yt 17 6 1,zm 18 6,zs 19 (.call 247 [.t 17,.t 18]),yl 20 19,yj 21 0] (.block 0 (.loop (zr [yc 22 .lss 21 20] (.seq (.cond (.t 22) .skip (.exit 0)) (.seq (.block 1 (zr [yi 23 1 19 21,zl 24 23,zm 8 24] (zr [zl 25 5,zm 26 8,zs 27 (.call 248 [.t 25,.t 26]),yo 28 27] (.cond (.t 28) (zr [yb 2 false] .ret) .skip)))) (.reg [yp 29 21,zm 21 29]))))))) (zr [yb 2 true] .ret))))),[.tmp 2]⟩
def aqK:dD:=⟨32,zr [yb 6 false] (.seq (zr [zm 10 0,yl 11 10,zm 12 1,yl 13 12,yc 14 .neq 11 13] (.cond (.t 14) (zr [yb 6 false] .ret) .skip)) (.seq (zr [zm 15 0,yl 16 15,yj 17 0] (.block 0 (.loop (zr [yc 18 .lss 17 16] (.seq (.cond (.t 18) .skip (.exit 0)) (.seq (.block 1 (zr [zm 19 17,yi 20 6 15 17,yt 21 6 20,zs 8 (.alloc 100 [zi,zi,se,se,zi,sn]),zm 7 19,ys 6 8 21] (zr [zm 22 1,zm 23 7,yi 24 6 22 23,yt 25 6 24,zs 9 (.alloc 100 [zi,zi,se,se,zi,sn]),ys 6 9 25] (zr [zm 26 2,yt 27 6 8,yt 28 6 9,zs 29 (.cav (.t 26) [.t 27,.t 28]),yo 30 29] (.cond (.t 30) (zr [yb 6 false] .ret) .skip))))) (.reg [yp 31 17,zm 17 31]))))))) (zr [yb 6 true] .ret))),[.tmp 6]⟩
def acT:dD:=⟨39,zr [yb 6 false] (zr [zm 8 0,zs 9 (.nck (.t 8)),zf 10 1 9,zl 11 10,zm 12 1,ya 13 .add .i64 11 12,zm 7 13] (zr [zm 14 0,zs 15 (.nck (.t 14)),zf 16 4 15,zl 17 16,yk 18 .eql 17 0,zm 19 18,zh 20 19 true 7,zh 21 19 true 0,zg 22 19 true (.nck (.t 21)),gf 23 19 true 0 22,gl 24 19 true 23,ge 25 19 true 24,gc 26 19 true .lss 20 25,yr 27 19 26 false,zm 28 27,zh 29 28 true 2,zh 30 28 true 0,zg 31 28 true (.nck (.t 30)),gf 32 28 true 0 31,gl 33 28 true 32,zh 34 28 true 7,gi 35 28 true 3 33 34,zg 36 28 true (.ld true 3 (.t 35)),zg 37 28 true (.cav (.t 29) [.t 36]),yr 38 28 37 false,zm 6 38] .ret)),[.tmp 6]⟩
def asK:dD:=⟨13,zr [zs 2 (.box 179 (.t 0)),yb 3 false] (zr [zf 4 0 2,zl 5 4,yk 6 .eql 5 0,zm 7 6,gl 8 7 true 1,gf 9 7 true 2 2,gl 10 7 true 9,zg 11 7 true (.call 64 [.t 8,.t 10]),yr 12 7 11 false,zm 3 12] .ret),[.tmp 3]⟩
def auU:dD:=⟨4,zr [zs 1 (.box 3 (.t 0)),zs 2 (.mov (.c (.v .nilFunc)))] (zr [zs 3 (.mkf 286 [.t 1]),zm 2 3] .ret),[.tmp 2]⟩
def atF:dD:=⟨42,zr [yj 6 0] (zr [zm 11 0,zs 12 (.call 161 [.t 11]),zm 7 12] (zr [zm 13 0,zs 14 (.call 228 [.c (.int .i64 2)]),zs 15 (.call 155 [.t 13,.t 14]),zm 8 15] (.seq (zr [zm 16 0,zs 17 (.nck (.t 16)),zf 18 4 17,zl 19 18,yk 20 .neq 19 0] (.cond (.t 20) (zr [yj 6 0] .ret) .skip)) (zr [zm 22 8,zs 23 (.call 98 [.t 22,.c (.int .i64 10),.c (.int .i64 64)]),zm 21 23,yx 24 21 0,yx 25 21 1,zm 9 24,zm 10 25] (.seq (zr [zm 26 10,zs 27 (.cmi true (.t 26)),zm 28 27,zh 29 28 false 9,zh 30 28 false 1,gc 31 28 false .lss 29 30,yq 32 28 true 31,zm 33 32,zh 34 33 false 9,zh 35 33 false 2,gc 36 33 false .gtr 34 35,yq 37 33 true 36] (.cond (.t 37) (.reg [zm 38 0,zm 39 7,zs 40 (.call 160 [.t 38,.t 39,.c (.int .i64 3)])]) .skip)) (zr [zm 41 9,zm 6 41] .ret)))))),[.tmp 6]⟩
def atK:dD:=⟨4,zr [zs 1 (.box 64 (.t 0)),zs 2 (.mov (.c (.v .nilFunc)))] (zr [zs 3 (.mkf 287 [.t 1]),zm 2 3] .ret),[.tmp 2]⟩
def asF:dD:=⟨15,zr [yj 2 0] (.seq (zr [zs 5 (.ld true 6 (.g 3)),yj 6 0] (.block 0 (.loop (zr [yk 7 .lss 6 6] (.seq (.cond (.t 7) .skip (.exit 0)) (.seq (.block 1 (zr [zm 8 6,zs 9 (.aix false 1 6 (.t 5) (.t 6)),zm 3 8,zm 4 9] (zr [zm 10 4,zm 11 0,yc 12 .eql 10 11] (.cond (.t 12) (zr [zm 13 3,zm 2 13] .ret) .skip)))) (.reg [yp 14 6,zm 6 14]))))))) (zr [yj 2 (-1)] .ret)),[.tmp 2]⟩
def asB:dD:=⟨12,zr [zs 1 (.box 179 (.t 0)),yb 2 false] (zr [zf 3 0 1,zl 4 3,yk 5 .eql 4 0,zm 6 5,gf 7 6 true 2 1,gl 8 6 true 7,zg 9 6 true (.call 231 [.t 8]),gk 10 6 true .geq 9 0,yr 11 6 10 false,zm 2 11] .ret),[.tmp 2]⟩
def auJ:dD:=⟨27,zr [zs 2 (.alloc 100 [zi,zi,se,se,zi,sn])] (zr [zm 5 0,zs 6 (.call 161 [.t 5]),zm 3 6] (zr [zm 7 0,zs 8 (.call 288 [.t 7]),zs 4 (.alloc 100 [zi,zi,se,se,zi,sn]),ys 6 4 8] (.seq (zr [zm 9 0,zs 10 (.nck (.t 9)),zf 11 4 10,zl 12 11,yk 13 .eql 12 0,zm 14 13,zg 15 14 true (.ld true 6 (.t 4)),zg 16 14 true (.call 225 [.t 15,.c (.int .i64 16)]),go 17 14 true 16,zh 18 14 true 17,zg 19 18 false (.ld true 6 (.t 4)),zg 20 18 false (.call 289 [.t 19]),zg 21 14 true (.pick (.t 18) (.c (.bl true)) (.t 20)),yr 22 14 21 false] (.cond (.t 22) (.reg [zm 23 0,zm 24 3,zs 25 (.call 160 [.t 23,.t 24,.c (.int .i64 7)])]) .skip)) (zr [yt 26 6 4,ys 6 2 26] .ret)))),[.cell 2 true 6]⟩
def apN:dD:=⟨11,zr [zs 1 (.box 100 (.t 0)),yb 2 false] (.seq (zr [zf 3 0 1,zl 4 3] (.block 0 (.seq (zr [yk 6 .eql 4 3,zm 5 6] (.cond (.t 5) .skip (zr [yk 7 .eql 4 4,zm 5 7] (.cond (.t 5) .skip (zr [yk 8 .eql 4 5,zm 5 8] (.cond (.t 5) .skip (zr [yk 9 .eql 4 6,zm 5 9] (.cond (.t 5) .skip (.reg [yk 10 .eql 4 7,zm 5 10]))))))))) (.cond (.t 5) (zr [yb 2 true] .ret) .skip)))) (zr [yb 2 false] .ret)),[.tmp 2]⟩
def auO:dD:=⟨9,zr [yb 4 false] (zr [zm 5 0,zs 6 (.call 291 [.t 5]),zm 7 1,zs 8 (.call 64 [.t 6,.t 7]),zm 4 8] .ret),[.tmp 4]⟩
def auI:dD:=⟨18,zr [yj 2 0] (.seq (zr [zm 4 0] (.block 0 (.seq (zr [zs 6 (.cmp .eql (.t 4) (.c (.str ⟨#[115,117,109]⟩))),zm 5 6] (.cond (.t 5) .skip (zr [zs 7 (.cmp .eql (.t 4) (.c (.str ⟨#[98,111,120,101,115]⟩))),zm 5 7] (.cond (.t 5) .skip (.reg [zs 8 (.cmp .eql (.t 4) (.c (.str ⟨#[116,101,114,109]⟩))),zm 5 8]))))) (.cond (.t 5) (zr [yj 2 1] .ret) (zr [zs 10 (.cmp .eql (.t 4) (.c (.str ⟨#[105,115,115,117,101,100]⟩))),zm 9 10] (.cond (.t 9) (zr [yj 2 2] .ret) .skip)))))) (.seq (zr [yj 11 0] (.block 1 (.loop (zr [yk 12 .lss 11 6] (.seq (.cond (.t 12) .skip (.exit 1)) (.seq (.block 2 (zr [zm 13 11,zm 3 13] (zr [zm 14 3,zm 15 0,zs 16 (.call 241 [.t 14,.t 15])] (.cond (.t 16) (zr [yj 2 0] .ret) .skip)))) (.reg [yp 17 11,zm 11 17]))))))) (zr [yj 2 (-1)] .ret))),[.tmp 2]⟩
def arP:dD:=⟨34,zr [yj 4 0,yb 5 false] (.seq (zr [zm 8 1,yk 9 .neq 8 1,zm 10 9,zh 11 10 true 1,gk 12 10 true .neq 11 2,yr 13 10 12 false] (.cond (.t 13) (zr [yj 4 0,yb 5 false] .ret) .skip)) (zr [zm 15 0,zs 16 (.call 41 [.t 15]),zm 14 16,yx 17 14 0,yx 18 14 1,zm 6 17,zm 7 18] (.seq (zr [zm 19 7,yo 20 19,zm 21 20,zh 22 21 false 6,gk 23 21 false .lss 22 0,yq 24 21 true 23,zm 25 24,zh 26 25 false 1,gk 27 25 false .eql 26 2,zh 28 25 false 27,zh 29 28 true 6,gk 30 28 true .gtr 29 1048576,zg 31 25 false (.pick (.t 28) (.t 30) (.c (.bl false))),yq 32 25 true 31] (.cond (.t 32) (zr [yj 4 0,yb 5 false] .ret) .skip)) (zr [zm 33 6,zm 4 33,yb 5 true] .ret)))),[.tmp 4,.tmp 5]⟩
def apM:dD:=⟨45,zr [zs 1 (.box 100 (.t 0)),yj 2 0,yb 3 false] (.seq (zr [zf 9 0 1,zl 10 9] (.block 0 (zr [yk 12 .eql 10 0,zm 11 12] (.cond (.t 11) (zr [zf 13 5 1,zl 14 13,zs 15 (.call 292 [.t 14]),yx 16 15 0,yx 17 15 1,zm 2 16,zm 3 17] .ret) (zr [yk 19 .eql 10 1,zm 18 19] (.cond (.t 18) (zr [yj 4 0] (.seq (zr [zf 20 5 1,zl 21 20,yl 22 21,yj 23 0] (.block 1 (.loop (zr [yc 24 .lss 23 22] (.seq (.cond (.t 24) .skip (.exit 1)) (.seq (.block 2 (zr [yi 25 6 21 23,yt 26 6 25,zs 6 (.alloc 100 [zi,zi,se,se,zi,sn]),ys 6 6 26] (zr [yt 28 6 6,zs 29 (.call 245 [.t 28]),zm 27 29,yx 30 27 0,yx 31 27 1,zm 7 30,zm 8 31] (.seq (zr [zm 32 8,yo 33 32,zm 34 33,zh 35 34 false 4,zh 36 34 false 7,ga 37 34 false .add .i64 35 36,gk 38 34 false .gtr 37 4096,yq 39 34 true 38] (.cond (.t 39) (zr [yj 2 0,yb 3 false] .ret) .skip)) (.reg [zm 40 4,zm 41 7,ya 42 .add .i64 40 41,zm 4 42]))))) (.reg [yp 43 23,zm 23 43]))))))) (zr [zm 44 4,zm 2 44,yb 3 true] .ret))) .skip)))))) (zr [yj 2 1,yb 3 true] .ret)),[.tmp 2,.tmp 3]⟩
def atX:dD:=⟨13,zr [zs 2 (.box 100 (.t 0)),yj 3 0] (.seq (.dreg (.take 0 (zl 4 1) (.take 1 (yt 5 6 2) (.take 2 (yl 6 4) (.eff 3 0 true (zs 7 (.bsl 100 6 1 [zi,zi,se,se,zi,sn] [(0,.c (.agg [zi,zi,se,se,zi,sn]))])) (.eff 4 1 false (zs 8 (.app 98 98 100 6 80 (.t 4) (.t 7))) (.phase (.take 5 (yi 9 6 8 6) (.fork (.eff 6 2 false (ys 6 9 5) (.eff 7 2 false (ys 1 1 8) .nil)) (.eff 7 2 false (ys 1 1 8) (.eff 6 2 false (ys 6 9 5) .nil)))))))))) 2 [1,2]) (zr [zl 10 1,yl 11 10,zs 12 (.ari .sub .i64 (.t 11) (.c (.int .i64 1))),zm 3 12] .ret)),[.tmp 3]⟩
def aqJ:dD:=⟨66,zr [zs 2 (.box 100 (.t 0)),zs 4 (.mov (.c sn))] (.seq (.block 0 (zr [yt 14 6 2,zs 15 (.call 240 [.t 14]),zm 13 15] (.cond (.t 13) (zr [zm 16 1,yt 17 6 2,zs 18 (.cav (.t 16) [.t 17]),zs 19 (.bsp 3 1 1 [zi] [(0,.t 18)]),zs 20 (.bsl 142 1 1 [sn] [(0,.t 19)]),zm 4 20] .ret) (zr [zf 22 0 2,zl 23 22,yk 24 .eql 23 1,zm 21 24] (.cond (.t 21) (zr [zs 5 (.mov (.c sn))] (.seq (zr [zf 25 5 2,zl 26 25,yl 27 26,yj 28 0] (.block 1 (.loop (zr [yc 29 .lss 28 27] (.seq (.cond (.t 29) .skip (.exit 1)) (.seq (.block 2 (zr [yi 30 6 26 28,yt 31 6 30,zs 7 (.alloc 100 [zi,zi,se,se,zi,sn]),ys 6 7 31] (.reg [zm 32 5,yt 33 6 7,zm 34 1,zs 35 (.call 247 [.t 33,.t 34]),zs 36 (.app 140 140 142 1 24 (.t 32) (.t 35)),zm 5 36]))) (.reg [yp 37 28,zm 28 37]))))))) (zr [zm 38 5,zm 4 38] .ret))) (zr [zf 40 0 2,zl 41 40,yk 42 .eql 41 0,zm 39 42] (.cond (.t 39) (.seq (zr [yt 44 6 2,zs 45 (.call 245 [.t 44]),zm 43 45,yx 46 43 0,yx 47 43 1,zm 8 46,zm 9 47] (zr [zm 48 8,yk 49 .eql 48 0] (.cond (.t 49) (zr [zs 4 (.mov (.c sn))] .ret) .skip))) (zr [zs 50 (.bsl 142 1 1 [sn] [(0,.c sn)]),zm 10 50] (.seq (zr [zf 51 5 2,zl 52 51,yl 53 52,yj 54 0] (.block 3 (.loop (zr [yc 55 .lss 54 53] (.seq (.cond (.t 55) .skip (.exit 3)) (.seq (.block 4 (zr [yi 56 6 52 54,yt 57 6 56,zs 12 (.alloc 100 [zi,zi,se,se,zi,sn]),ys 6 12 57] (.reg [zm 58 10,yt 59 6 12,zm 60 1,zs 61 (.call 247 [.t 59,.t 60]),zs 62 (.call 293 [.t 58,.t 61]),zm 10 62]))) (.reg [yp 63 54,zm 54 63]))))))) (zr [zm 64 10,zm 4 64] .ret)))) .skip))))))) (zr [zs 65 (.bsl 142 1 1 [sn] [(0,.c sn)]),zm 4 65] .ret)),[.tmp 4]⟩
def atC:dD:=⟨124,zr [zs 2 (.box 98 (.t 0)),yb 4 false] (zr [zs 21 (.mkm 103),zs 5 (.alloc 103 [.v (.map none)]),ys 1 5 21] (zr [zs 22 (.mkm 326),zm 6 22] (zr [zs 23 (.mkm 326),zm 7 23] (.seq (zr [zm 24 1,yl 25 24,yj 26 0] (.block 0 (.loop (zr [yc 27 .lss 26 25] (.seq (.cond (.t 27) .skip (.exit 0)) (.seq (.block 1 (zr [yi 28 1 24 26,zl 29 28,zm 9 29] (zr [zl 30 2,zm 31 9,yi 32 6 30 31,yt 33 6 32,zs 10 (.alloc 100 [zi,zi,se,se,zi,sn]),ys 6 10 33] (zr [zf 34 0 10,zl 35 34] (.block 2 (zr [yk 37 .eql 35 3,zm 36 37] (.cond (.t 36) (.seq (zr [zl 39 5,zf 40 2 10,zl 41 40,zs 42 (.lkp .none true se (.t 39) (.t 41)),zm 38 42,yx 43 38 0,yx 44 38 1,zm 11 43,zm 12 44] (zr [zm 45 12,zm 46 45,zh 47 46 true 11,gf 48 46 true 3 10,gl 49 46 true 48,gc 50 46 true .neq 47 49,yr 51 46 50 false] (.cond (.t 51) (zr [yb 4 true] .ret) .skip))) (.reg [zl 52 5,zf 53 2 10,zl 54 53,zf 55 3 10,zl 56 55,zn (.upd .none (.t 52) (.t 54) (.t 56))])) (zr [yk 58 .eql 35 5,zm 57 58] (.cond (.t 57) (zr [zm 60 6,zf 61 2 10,zl 62 61,zs 63 (.lkp .none true zi (.t 60) (.t 62)),zm 59 63,yx 64 59 0,yx 65 59 1,zm 13 64,zm 14 65] (zr [zm 66 14,yo 67 66,zm 68 67,gf 69 68 false 4 10,gl 70 68 false 69,zh 71 68 false 13,gc 72 68 false .lss 70 71,yq 73 68 true 72] (.cond (.t 73) (.reg [zm 74 6,zf 75 2 10,zl 76 75,zf 77 4 10,zl 78 77,zn (.upd .none (.t 74) (.t 76) (.t 78))]) .skip))) (zr [yk 80 .eql 35 6,zm 79 80] (.cond (.t 79) (zr [zm 82 7,zf 83 2 10,zl 84 83,zs 85 (.lkp .none true zi (.t 82) (.t 84)),zm 81 85,yx 86 81 0,yx 87 81 1,zm 15 86,zm 16 87] (zr [zm 88 16,yo 89 88,zm 90 89,gf 91 90 false 4 10,gl 92 90 false 91,zh 93 90 false 15,gc 94 90 false .gtr 92 93,yq 95 90 true 94] (.cond (.t 95) (.reg [zm 96 7,zf 97 2 10,zl 98 97,zf 99 4 10,zl 100 99,zn (.upd .none (.t 96) (.t 98) (.t 100))]) .skip))) .skip))))))))))) (.reg [yp 101 26,zm 26 101]))))))) (.seq (zr [zm 102 6,zs 103 (.rng (.t 102))] (.block 3 (.loop (zr [zs 104 (.nxt (.t 103)),yx 105 104 0] (.seq (.cond (.t 105) .skip (.exit 3)) (.block 4 (zr [zs 106 (.ent (.t 103)),yx 107 106 0,yx 108 106 1,zm 17 107,zm 18 108] (zr [zm 110 7,zm 111 17,zs 112 (.lkp .none true zi (.t 110) (.t 111)),zm 109 112,yx 113 109 0,yx 114 109 1,zm 19 113,zm 20 114] (zr [zm 115 20,zm 116 115,zh 117 116 true 18,zh 118 116 true 19,gc 119 116 true .lss 117 118,yr 120 116 119 false] (.cond (.t 120) (zr [yb 4 true] .ret) .skip)))))))))) (zr [zm 121 1,zs 122 (.mkf 295 [.t 5,.t 2]),zs 123 (.call 294 [.t 121,.t 122]),zm 4 123] .ret)))))),[.tmp 4]⟩
def auM:dD:=⟨8,zr [zs 2 (.box 179 (.t 0)),yb 3 false] (zr [zf 4 0 2,zl 5 4,zl 6 1,yc 7 .eql 5 6,zm 3 7] .ret),[.tmp 3]⟩
def atS:dD:=⟨13,zr [zs 2 (.box 179 (.t 0)),yb 3 false] (zr [zf 4 0 2,zl 5 4,yk 6 .eql 5 5,zm 7 6,gl 8 7 true 1,gf 9 7 true 2 2,gl 10 7 true 9,zg 11 7 true (.call 64 [.t 8,.t 10]),yr 12 7 11 false,zm 3 12] .ret),[.tmp 3]⟩
def auA:dD:=⟨7,zr [zs 2 (.alloc 100 [zi,zi,se,se,zi,sn])] (zr [zm 3 0,zm 4 0,zs 5 (.mkn 315 [.t 4]),zs 6 (.call 314 [.t 3,.t 5,.c (.str ⟨#[111,114]⟩),.c (.int .i64 1)]),ys 6 2 6] .ret),[.cell 2 true 6]⟩
def apS:dD:=⟨12,zr [zs 1 (.box 100 (.t 0)),yb 2 false] (zr [zf 3 5 1,zl 4 3,yl 5 4,yk 6 .gtr 5 64,zm 7 6,gf 8 7 false 5 1,gl 9 7 false 8,zg 10 7 false (.call 198 [.t 9,.c (.clo 289 [])]),yq 11 7 true 10,zm 2 11] .ret),[.tmp 2]⟩
def asN:dD:=⟨22,zr [zs 2 (.mov (.c sn))] (.seq (zr [zm 3 0] (.block 0 (zr [yk 5 .eql 3 0,zm 4 5] (.cond (.t 4) (zr [zs 6 (.bsl 9 1 8 [se] [(0,.c (.str ⟨#[115,101,108,108,101,114]⟩)),(1,.c (.str ⟨#[98,117,121,101,114]⟩)),(2,.c (.str ⟨#[99,117,114,114,101,110,99,121]⟩)),(3,.c (.str ⟨#[115,117,109]⟩)),(4,.c (.str ⟨#[102,114,111,109]⟩)),(5,.c (.str ⟨#[116,111]⟩)),(6,.c (.str ⟨#[98,111,120,101,115]⟩)),(7,.c (.str ⟨#[116,101,114,109]⟩))]),zm 2 6] .ret) (zr [yk 8 .eql 3 1,zm 7 8] (.cond (.t 7) (zr [zs 9 (.bsl 9 1 6 [se] [(0,.c (.str ⟨#[115,101,108,108,101,114]⟩)),(1,.c (.str ⟨#[102,114,111,109]⟩)),(2,.c (.str ⟨#[116,111]⟩)),(3,.c (.str ⟨#[98,111,120,101,115]⟩)),(4,.c (.str ⟨#[109,97,114,107,115]⟩)),(5,.c (.str ⟨#[99,111,110,116,101,110,116]⟩))]),zm 2 9] .ret) (zr [yk 11 .eql 3 2,zm 10 11] (.cond (.t 10) (zr [zs 12 (.bsl 9 1 9 [se] [(0,.c (.str ⟨#[99,97,114,114,105,101,114]⟩)),(1,.c (.str ⟨#[115,104,105,112,112,101,114]⟩)),(2,.c (.str ⟨#[102,114,111,109]⟩)),(3,.c (.str ⟨#[116,111]⟩)),(4,.c (.str ⟨#[98,111,120,101,115]⟩)),(5,.c (.str ⟨#[109,97,114,107,115]⟩)),(6,.c (.str ⟨#[105,115,115,117,101,100]⟩)),(7,.c (.str ⟨#[99,108,101,97,110]⟩)),(8,.c (.str ⟨#[112,97,114,101,110,116,115]⟩))]),zm 2 12] .ret) (zr [yk 14 .eql 3 3,zm 13 14] (.cond (.t 13) (zr [zs 15 (.bsl 9 1 5 [se] [(0,.c (.str ⟨#[115,101,108,108,101,114]⟩)),(1,.c (.str ⟨#[102,114,111,109]⟩)),(2,.c (.str ⟨#[116,111]⟩)),(3,.c (.str ⟨#[99,117,114,114,101,110,99,121]⟩)),(4,.c (.str ⟨#[115,117,109]⟩))]),zm 2 15] .ret) (zr [yk 17 .eql 3 4,zm 16 17] (.cond (.t 16) (zr [zs 18 (.bsl 9 1 3 [se] [(0,.c (.str ⟨#[115,101,108,108,101,114]⟩)),(1,.c (.str ⟨#[99,111,117,110,116,114,121]⟩)),(2,.c (.str ⟨#[98,111,120,101,115]⟩))]),zm 2 18] .ret) (zr [yk 20 .eql 3 5,zm 19 20] (.cond (.t 19) (zr [zs 21 (.bsl 9 1 5 [se] [(0,.c (.str ⟨#[100,114,97,119,101,114]⟩)),(1,.c (.str ⟨#[100,114,97,119,101,101]⟩)),(2,.c (.str ⟨#[112,97,121,101,101]⟩)),(3,.c (.str ⟨#[99,117,114,114,101,110,99,121]⟩)),(4,.c (.str ⟨#[115,117,109]⟩))]),zm 2 21] .ret) .skip)))))))))))))) (zr [zs 2 (.mov (.c sn))] .ret)),[.tmp 2]⟩
def asJ:dD:=⟨34,zr [yj 2 0,yb 3 false] (zr [yj 4 1,yb 5 false] (.seq (zr [zm 10 0,yl 11 10,yj 12 0] (.block 0 (.loop (zr [yc 13 .lss 12 11] (.seq (.cond (.t 13) .skip (.exit 0)) (.seq (.block 1 (zr [yi 14 6 10 12,yt 15 6 14,zs 7 (.alloc 100 [zi,zi,se,se,zi,sn]),ys 6 7 15] (zr [yt 17 6 7,zs 18 (.call 245 [.t 17]),zm 16 18,yx 19 16 0,yx 20 16 1,zm 8 19,zm 9 20] (.seq (zr [zm 21 9,yo 22 21] (.cond (.t 22) (zr [yj 2 0,yb 3 false] .ret) .skip)) (.seq (zr [zm 23 8,yk 24 .eql 23 0] (.cond (.t 24) (zr [yb 5 true] (.exit 1)) .skip)) (.reg [zm 25 4,zm 26 8,ya 27 .mul .i64 25 26,zs 28 (.mnx false (.t 27) (.c (.int .i64 4097))),zm 4 28])))))) (.reg [yp 29 12,zm 12 29]))))))) (.seq (zr [zm 30 5] (.cond (.t 30) (zr [yj 2 0,yb 3 true] .ret) .skip)) (zr [zm 31 4,zm 32 4,yk 33 .leq 32 4096,zm 2 31,zm 3 33] .ret)))),[.tmp 2,.tmp 3]⟩
def arR:dD:=⟨54,zr [zs 4 (.mov (.c sn))] (.seq (zr [zm 11 1,yl 12 11,yk 13 .eql 12 1] (.cond (.t 13) (.seq (zr [zm 14 0,yl 15 14,yj 16 0] (.block 0 (.loop (zr [yc 17 .lss 16 15] (.seq (.cond (.t 17) .skip (.exit 0)) (.seq (.block 1 (zr [zm 18 16,zm 5 18] (.dreg (.take 0 (zm 19 0) (.take 1 (zm 20 5) (.take 2 (zm 21 0) (.take 3 (zm 22 5) (.take 4 (yi 23 1 21 22) (.take 5 (zl 24 23) (.take 6 (zm 25 1) (.take 7 (zs 26 (.iad 1 (.t 25) (.c zi))) (.take 8 (zl 27 26) (.eff 9 0 false (zs 28 (.app 142 142 3 1 8 (.t 24) (.t 27))) (.take 10 (yi 29 1 19 20) (.eff 11 1 false (ys 1 29 28) (.phase .nil))))))))))))) 1 [0,1]))) (.reg [yp 30 16,zm 16 30]))))))) (zr [zm 31 0,zm 4 31] .ret)) .skip)) (zr [zs 6 (.mov (.c sn))] (.seq (zr [zm 32 0,yl 33 32,yj 34 0] (.block 2 (.loop (zr [yc 35 .lss 34 33] (.seq (.cond (.t 35) .skip (.exit 2)) (.seq (.block 3 (zr [yi 36 1 32 34,zl 37 36,zm 8 37] (zr [zm 38 1,yl 39 38,yj 40 0] (.block 4 (.loop (zr [yc 41 .lss 40 39] (.seq (.cond (.t 41) .skip (.exit 4)) (.seq (.block 5 (zr [yi 42 1 38 40,zl 43 42,zm 10 43] (.reg [zm 44 6,zm 45 8,zm 46 10,zs 47 (.bsl 142 1 2 [sn] [(0,.t 45),(1,.t 46)]),zs 48 (.call 316 [.t 47]),zs 49 (.bsl 142 1 1 [sn] [(0,.t 48)]),zs 50 (.app 140 140 142 1 24 (.t 44) (.t 49)),zm 6 50]))) (.reg [yp 51 40,zm 40 51]))))))))) (.reg [yp 52 34,zm 34 52]))))))) (zr [zm 53 6,zm 4 53] .ret)))),[.tmp 4]⟩
def asD:dD:=⟨9,zr [yb 4 false] (zr [zm 5 0,zm 6 1,zs 7 (.call 317 [.t 5,.t 6]),yk 8 .geq 7 0,zm 4 8] .ret),[.tmp 4]⟩
def auF:dD:=⟨26,zr [yb 4 false] (.seq (.dreg (.take 0 (zl 8 1) (.take 1 (zl 9 2) (.take 2 (zm 10 0) (.take 3 (yi 11 6 9 10) (.take 4 (zf 12 2 11) (.take 5 (zl 13 12) (.take 6 (zs 14 (.lkp .none true se (.t 8) (.t 13))) (.take 7 (zm 7 14) (.take 8 (yx 15 7 0) (.take 9 (yx 16 7 1) (.take 10 (zm 5 15) (.take 11 (zm 6 16) .nil)))))))))))) 0 [1,2]) (zr [zm 17 6,zm 18 17,zh 19 18 true 5,gl 20 18 true 2,zh 21 18 true 0,gi 22 18 true 6 20 21,zg 23 18 true (.ld true 6 (.t 22)),zg 24 18 true (.call 296 [.t 19,.t 23]),yr 25 18 24 false,zm 4 25] .ret)),[.tmp 4]⟩
def asS:dD:=⟨41,zr [zs 3 (.box 100 (.t 1)),yb 4 false] (zr [zm 8 0,zs 9 (.call 243 [.t 8,.c (.int .i64 1)]),zm 7 9,yx 10 7 0,yx 11 7 1,zm 5 10,zm 6 11] (.seq (zr [zf 12 0 3,zl 13 12] (.block 0 (zr [yk 15 .eql 13 4,zm 14 15] (.cond (.t 14) (zr [zm 16 0,zf 17 3 3,zl 18 17,zs 19 (.call 256 [.t 16,.t 18]),yo 20 19,zm 4 20] .ret) (zr [yk 22 .eql 13 5,zm 21 22] (.cond (.t 21) (zr [zm 23 6,yo 24 23,zm 25 24,zh 26 25 false 5,gf 27 25 false 4 3,gl 28 25 false 27,gc 29 25 false .gtr 26 28,yq 30 25 true 29,zm 4 30] .ret) (zr [yk 32 .eql 13 6,zm 31 32] (.cond (.t 31) (zr [zm 33 6,yo 34 33,zm 35 34,zh 36 35 false 5,gf 37 35 false 4 3,gl 38 35 false 37,gc 39 35 false .lss 36 38,yq 40 35 true 39,zm 4 40] .ret) .skip)))))))) (zr [yb 4 false] .ret))),[.tmp 4]⟩
def apU:dD:=⟨39,zr [zs 8 (.alloc 100 [zi,zi,se,se,zi,sn])] (zr [zm 10 1,zs 11 (.cav (.t 10) []),zs 12 (.bsl 100 6 1 [zi,zi,se,se,zi,sn] [(0,.t 11)]),zm 9 12] (.seq (.block 0 (.loop (.seq (zr [zm 13 0,zm 14 2,zs 15 (.bsl 9 1 1 [se] [(0,.t 14)]),zs 16 (.call 152 [.t 15]),zs 17 (.call 151 [.t 13,.t 16])] (.cond (.t 17) .skip (.exit 0))) (.block 1 (zr [zm 18 0,zs 19 (.nck (.t 18)),zf 20 1 19,zl 21 20,yp 22 21,zs 23 (.nck (.t 18)),zf 24 1 23,ys 1 24 22] (.reg [zm 25 9,zm 26 1,zs 27 (.cav (.t 26) []),zs 28 (.bsl 100 6 1 [zi,zi,se,se,zi,sn] [(0,.t 27)]),zs 29 (.app 98 98 100 6 80 (.t 25) (.t 28)),zm 9 29])))))) (.seq (zr [zm 30 9,yl 31 30,yk 32 .eql 31 1] (.cond (.t 32) (zr [zm 33 9,zs 34 (.iad 6 (.t 33) (.c zi)),yt 35 6 34,ys 6 8 35] .ret) .skip)) (zr [zm 36 3,zm 37 9,zs 38 (.bld [zi,zi,se,se,zi,sn] [(0,(1,.t 36)),(5,(1,.t 37))]),ys 6 8 38] .ret)))),[.cell 8 true 6]⟩
def auQ:dD:=⟨7,zr [zs 2 (.alloc 100 [zi,zi,se,se,zi,sn])] (zr [zm 3 0,zm 4 0,zs 5 (.mkn 324 [.t 4]),zs 6 (.call 314 [.t 3,.t 5,.c (.str ⟨#[97,110,100]⟩),.c zi]),ys 6 2 6] .ret),[.cell 2 true 6]⟩
def asM:dD:=⟨19,zr [yj 4 0] (.seq (zr [zm 6 0,yl 7 6,yj 8 0] (.block 0 (.loop (zr [yc 9 .lss 8 7] (.seq (.cond (.t 9) .skip (.exit 0)) (.seq (.block 1 (zr [zm 10 8,zm 5 10] (zr [zm 11 1,zm 12 0,zm 13 5,yi 14 1 12 13,zl 15 14,zs 16 (.cav (.t 11) [.t 15])] (.cond (.t 16) (zr [zm 17 5,zm 4 17] .ret) .skip)))) (.reg [yp 18 8,zm 8 18]))))))) (zr [yj 4 (-1)] .ret)),[.tmp 4]⟩
def arS:dD:=⟨46,zr [zs 2 (.alloc 100 [zi,zi,se,se,zi,sn])] (.seq (.block 0 (zr [zm 5 0,zs 6 (.bsl 9 1 1 [se] [(0,.c (.str ⟨#[110,111,116]⟩))]),zs 7 (.call 152 [.t 6]),zs 8 (.call 151 [.t 5,.t 7]),zm 9 8,zh 10 9 true 0,zg 11 9 true (.call 226 [.t 10,.c (.int .i64 1),.c (.clo 333 [])]),go 12 9 true 11,yr 13 9 12 false,zm 4 13] (.cond (.t 4) (zr [zm 14 0,zs 15 (.nck (.t 14)),zf 16 1 15,zl 17 16,yp 18 17,zs 19 (.nck (.t 14)),zf 20 1 19,ys 1 20 18] (zr [zm 21 0,zs 22 (.call 324 [.t 21]),zs 23 (.bsp 100 6 1 [zi,zi,se,se,zi,sn] [(0,.t 22)]),zs 24 (.bld [zi,zi,se,se,zi,sn] [(0,(1,.c (.int .i64 2))),(5,(1,.t 23))]),ys 6 2 24] .ret)) (zr [zm 26 0,zs 27 (.bsl 9 1 1 [se] [(0,.c (.str ⟨#[40]⟩))]),zs 28 (.call 230 [.t 27]),zs 29 (.call 151 [.t 26,.t 28]),zm 25 29] (.cond (.t 25) (zr [zm 30 0,zs 31 (.nck (.t 30)),zf 32 1 31,zl 33 32,yp 34 33,zs 35 (.nck (.t 30)),zf 36 1 35,ys 1 36 34] (zr [zm 37 0,zs 38 (.call 288 [.t 37]),zs 3 (.alloc 100 [zi,zi,se,se,zi,sn]),ys 6 3 38] (zr [zm 39 0,zs 40 (.bsl 9 1 1 [se] [(0,.c (.str ⟨#[41]⟩))]),zs 41 (.call 230 [.t 40]),zs 42 (.call 155 [.t 39,.t 41])] (zr [yt 43 6 3,ys 6 2 43] .ret)))) .skip))))) (zr [zm 44 0,zs 45 (.call 334 [.t 44]),ys 6 2 45] .ret)),[.cell 2 true 6]⟩
def atL:dD:=⟨7,zr [zs 1 (.box 179 (.t 0)),yb 2 false] (.seq (.dreg (.take 2 (yt 5 3 1) (.eff 0 0 true (zs 3 (.bsl 9 1 4 [se] [(0,.c (.str ⟨#[61]⟩)),(1,.c (.str ⟨#[126]⟩)),(2,.c (.str ⟨#[60,61]⟩)),(3,.c (.str ⟨#[62,61]⟩))])) (.eff 1 1 true (zs 4 (.call 230 [.t 3])) (.eff 3 1 false (zs 6 (.cav (.t 4) [.t 5])) (.phase (.take 4 (zm 2 6) .nil)))))) 1 [1]) .ret),[.tmp 2]⟩
def atN:dD:=⟨50,zr [zs 2 (.alloc 100 [zi,zi,se,se,zi,sn])] (zr [zm 4 0,zs 5 (.call 155 [.t 4,.c (.clo 223 [])]),zs 6 (.bld [zi,zi,se,se,zi,sn] [(2,(1,.t 5))]),zs 3 (.alloc 100 [zi,zi,se,se,zi,sn]),ys 6 3 6] (.seq (zr [zm 7 0,zs 8 (.call 155 [.t 7,.c (.clo 333 [])])] (.block 0 (zr [zs 10 (.cmp .eql (.t 8) (.c (.str ⟨#[61]⟩))),zm 9 10] (.cond (.t 9) (.seq (zr [zm 11 0,zs 12 (.call 151 [.t 11,.c (.clo 232 [])])] (.cond (.t 12) (zr [zf 13 0 3,zn (.st 1 (.t 13) (.c (.int .i64 7)))] (zr [zm 14 0,zs 15 (.call 155 [.t 14,.c (.clo 232 [])]),zs 16 (.call 231 [.t 15]),zf 17 1 3,ys 1 17 16] (zr [zm 18 0,zs 19 (.bsl 9 1 1 [se] [(0,.c (.str ⟨#[46]⟩))]),zs 20 (.call 230 [.t 19]),zs 21 (.call 155 [.t 18,.t 20])] (zr [zm 22 0,zs 23 (.call 155 [.t 22,.c (.clo 223 [])]),zf 24 3 3,ys 1 24 23] (.exit 0))))) .skip)) (zr [zf 25 0 3,zn (.st 1 (.t 25) (.c (.int .i64 3)))] (.reg [zm 26 0,zs 27 (.call 228 [.c (.int .i64 3)]),zs 28 (.call 155 [.t 26,.t 27]),zf 29 3 3,ys 1 29 28]))) (zr [zs 31 (.cmp .eql (.t 8) (.c (.str ⟨#[126]⟩))),zm 30 31] (.cond (.t 30) (zr [zf 32 0 3,zn (.st 1 (.t 32) (.c (.int .i64 4)))] (.reg [zm 33 0,zs 34 (.call 228 [.c (.int .i64 3)]),zs 35 (.call 155 [.t 33,.t 34]),zf 36 3 3,ys 1 36 35])) (zr [zs 38 (.cmp .eql (.t 8) (.c (.str ⟨#[60,61]⟩))),zm 37 38] (.cond (.t 37) (zr [zf 39 0 3,zn (.st 1 (.t 39) (.c (.int .i64 5)))] (.reg [zm 40 0,zs 41 (.call 229 [.t 40,.c zi,.c (.int .i64 1099511627776)]),zf 42 4 3,ys 1 42 41])) (zr [zs 44 (.cmp .eql (.t 8) (.c (.str ⟨#[62,61]⟩))),zm 43 44] (.cond (.t 43) (zr [zf 45 0 3,zn (.st 1 (.t 45) (.c (.int .i64 6)))] (.reg [zm 46 0,zs 47 (.call 229 [.t 46,.c zi,.c (.int .i64 1099511627776)]),zf 48 4 3,ys 1 48 47])) .skip)))))))))) (zr [yt 49 6 3,ys 6 2 49] .ret))),[.cell 2 true 6]⟩
structure Pa where
 L:List Tk
 k:Nat
 sz:Int
def hR:Pa→List cC
 |⟨L,k,sz⟩=>[.blk 172 [.sl 3 (bK LQ L),.i (nI k),.i sz,.i 0,.i 0]]
structure HC (p:Pa):Prop where
 l:p.L.length≤4096
 k:p.k≤p.L.length
def Xf (s w:bF):Bool:=decide (w=s)
def adN:cQ:=spec (fun i:List bF×bF=>[.sl 1 (bK (fun s=>.str s) i.1),.str i.2]) (fun _=>[]) (fun i=>i.1.length≤4096) (fun i=>.i (Ww (Xf i.2) i.1)) fun _=>[]
theorem Y3 (P:bG):bL P asR adN:=by
 intro args H K hc;obtain⟨⟨l,s⟩,rfl,rfl,hp,hK⟩:=hc;refine⟨cW,?_⟩;dsimp only at hp hK⊢
 try dsimp only at hp
 have hml:=bN (fun s=>AV.str s) l;have hat:=fun k (x:bF) (h:lJ (Xf s) l k) (hx:l[k]?=some x) (hp:Xf s x=true)=>Mo h hx hp
 have hno:=fun(h:lJ (Xf s) l l.length)=>GR h
 obtain⟨g,hg⟩:∃g,g=Ww (Xf s) l:=⟨_,rfl⟩
 rw[←hg]at hK hat hno;cbv;repeat'((first|refine .k fun z hz=>?_|fail)<;>cbv)
 refine bZ [] (fun q:{ k:Nat // k≤l.length∧lJ (Xf s) l k }=>[(8,.i (nI q.1))]) (fun _=>[]) (fun q=>iH 4097 q.1) ⟨0,aI _,.zero⟩ ?_;rintro ⟨k,hk,hkn⟩
 try dsimp only at hk hkn⊢
 rcases aL k l.length with hks|hks
 ·obtain⟨x,hx⟩:=cY hks;have hs:=hkn.succ hx;have ha:=hat k x hkn hx;cbv;repeat'((first|refine .e ?_|refine .y fun h=>?_|refine .mk (fun h=>?_) fun h=>?_|refine .k fun z hz=>?_|fail)<;>cbv)
  ·obtain rfl:=ha (aH (Eq.symm ‹s=x›))
   (refine .q9 ?_;cbv;exact .inl (.f9 hK))
  ·obtain rfl:z=nI (k+1):=bR;exact bP ⟨k+1,by exact bR,hs (aG (fun e=>absurd e.symm ‹¬s=x›))⟩ (bQ bR)
 ·have hke:k=l.length:=by omega
  obtain rfl:=hno (by rw[←hke];exact hkn);cbv;repeat'((first|refine .n fun h=>?_|fail)<;>cbv)
  (refine .q9 ?_;cbv;exact .inl (.f9 hK))
def Yv:cQ:=WG (fun i:List bF×bF=>[.sl 1 (bK (fun s=>.str s) i.1),.str i.2]) (fun i=>i.1.length≤4096) (fun i=>i.1.any (Xf i.2))
theorem Zp (P:bG) (hf:bH P 123 adN):bL P x64 Yv:=by
 intro args H K hc;obtain⟨⟨l,s⟩,rfl,rfl,hp,hK⟩:=hc;refine⟨cW,?_⟩;dsimp only at hp hK⊢;have ha:=Xs (Xf s) l;obtain⟨g,hg⟩:∃g,g=l.any (Xf s):=⟨_,rfl⟩
 obtain⟨i,hi⟩:∃i,i=Ww (Xf s) l:=⟨_,rfl⟩
 rw[←hg]at hK ha;rw[←hi]at ha;cbv
 (refine hP hf ((l,s):List bF×bF) hp ?_;try dsimp only)
 rw[←hi];cbv;repeat'((first|refine .mk (fun h=>?_) fun h=>?_|fail)<;>cbv)
 all_goals exact nF.mk ⟨_,Gh.refl _,.inl (.v9 (mT hK (by(rw[←ha];simp;omega))))⟩
def WI:List bF:=[⟨#[105,110,118,111,105,99,101]⟩,⟨#[112,97,99,107,105,110,103]⟩,⟨#[108,97,100,105,110,103]⟩,⟨#[105,110,115,117,114,97,110,99,101]⟩,⟨#[111,114,105,103,105,110]⟩,⟨#[100,114,97,102,116]⟩]
def W5 (s:bF):Int:=Ww (Xf s) WI
def ZN:cQ:=spec (fun s:bF=>[.str s]) (fun _=>[]) (fun _=>True) (fun s=>.i (W5 s)) fun _=>[]
theorem X1 (P:bG):bL P asF ZN:=by
 intro args H K hc;obtain⟨s,rfl,rfl,hp,hK⟩:=hc;refine⟨cW,?_⟩;dsimp only at hp hK⊢;have hat:=fun k (x:bF) (h:lJ (Xf s) WI k) (hx:WI[k]?=some x) (hp:Xf s x=true)=>Mo h hx hp
 have hno:=fun(h:lJ (Xf s) WI 6)=>GR (l:=WI) h
 obtain⟨g,hg⟩:∃g,g=W5 s:=⟨_,rfl⟩
 rw[←hg]at hK;unfold W5 at hg;rw[←hg]at hat hno;clear hg hp;cbv;refine bZ [] (fun q:{ k:Nat // k≤6∧lJ (Xf s) WI k }=>[(6,.i (nI q.1))]) (fun _=>[]) (fun q=>iH 6 q.1) ⟨0,aI _,.zero⟩ ?_;rintro ⟨k,hk,hkn⟩
 try dsimp only at hk hkn⊢
 rcases aL k 6 with hks|hks
 ·obtain⟨x,hx⟩:=cY (L:=WI) (i:=k) hks;have hs:=hkn.succ hx;have ha:=hat k x hkn hx;clear hat hno hkn hk;obtain rfl|rfl|rfl|rfl|rfl|rfl:k=0∨k=1∨k=2∨k=3∨k=4∨k=5:=by omega
  all_goals
   obtain rfl:=Option.some.inj hx;cbv;repeat'((first|refine .n fun h=>?_|refine .y fun h=>?_|refine .mk (fun h=>?_) fun h=>?_|refine .k fun z hz=>?_|refine .o ?_|fail)<;>cbv)
   ·obtain rfl:=ha (aH (by assumption))
    (refine .q9 ?_;cbv;exact .inl (.f9 hK))
   ·first
     |(obtain rfl:z=nI (0+1):=bR
       exact bP ⟨0+1,by exact bR,hs (aG (by assumption))⟩ (bQ bR))
     |(obtain rfl:z=nI (1+1):=bR
       exact bP ⟨1+1,by exact bR,hs (aG (by assumption))⟩ (bQ bR))
     |(obtain rfl:z=nI (2+1):=bR
       exact bP ⟨2+1,by exact bR,hs (aG (by assumption))⟩ (bQ bR))
     |(obtain rfl:z=nI (3+1):=bR
       exact bP ⟨3+1,by exact bR,hs (aG (by assumption))⟩ (bQ bR))
     |(obtain rfl:z=nI (4+1):=bR
       exact bP ⟨4+1,by exact bR,hs (aG (by assumption))⟩ (bQ bR))
     |(obtain rfl:z=nI (5+1):=bR
       exact bP ⟨5+1,by exact bR,hs (aG (by assumption))⟩ (bQ bR))
 ·obtain rfl:k=6:=by omega
  obtain rfl:=hno hkn;cbv;repeat'((first|refine .n fun h=>?_|fail)<;>cbv)
  (refine .q9 ?_;cbv;exact .inl (.f9 hK))
def kB (c:Int) (t:Tk):Bool:=decide (t.kind=c)
def amE:cQ:=WG (fun i:Tk×Int=>LQ i.1 :: [.rp [.i i.2] 0]) (fun _=>True) (fun i=>kB i.2 i.1)
def wB (c:List bF) (t:Tk):Bool:=decide (t.kind=0) && c.any (Xf t.text)
def aoV:cQ:=WG (fun i:Tk×List bF=>LQ i.1 :: [.rp [.sl 1 (bK (fun s=>.str s) i.2)] 0]) (fun i=>i.2.length≤64) (fun i=>wB i.2 i.1)
def sB (c:List bF) (t:Tk):Bool:=decide (t.kind=5) && c.any (Xf t.text)
def aiD:cQ:=WG (fun i:Tk×List bF=>LQ i.1 :: [.rp [.sl 1 (bK (fun s=>.str s) i.2)] 0]) (fun i=>i.2.length≤64) (fun i=>sB i.2 i.1)
def pB (_:Unit) (t:Tk):Bool:=decide (t.kind=0) && decide (0≤W5 t.text)
def alN:cQ:=WG (fun i:Tk×Unit=>[LQ i.1]) (fun _=>True) (fun i=>pB i.2 i.1)
def nB (_:Unit) (t:Tk):Bool:=WZ t
def arC:cQ:=WG (fun i:Tk×Unit=>[LQ i.1]) (fun _=>True) (fun i=>nB i.2 i.1)
def cB (_:Unit) (t:Tk):Bool:=sB [⟨#[61]⟩,⟨#[126]⟩,⟨#[60,61]⟩,⟨#[62,61]⟩] t
def akX:cQ:=WG (fun i:Tk×Unit=>[LQ i.1]) (fun _=>True) (fun i=>cB i.2 i.1)
theorem aaB (P:bG):bL P auM amE:=by
 intro args H K hc;obtain⟨⟨⟨kd,a,tx⟩,c⟩,rfl,rfl,hp,hK⟩:=hc;refine⟨cW,?_⟩;dsimp only at hp hK⊢;cbv;repeat'((first|refine .mk (fun h=>?_) fun h=>?_|fail)<;>cbv)
 all_goals exact nF.mk ⟨_,Gh.refl _,.inl (.v9 (mT hK (by(unfold kB;simp;omega))))⟩
theorem abG (P:bG) (hc:bH P 64 Yv):bL P asK aoV:=by
 intro args H K hc;obtain⟨⟨⟨kd,a,tx⟩,c⟩,rfl,rfl,hp,hK⟩:=hc;refine⟨cW,?_⟩;dsimp only at hp hK⊢
 try dsimp only at hp
 obtain⟨b,hb⟩:∃b,b=c.any (Xf tx):=⟨_,rfl⟩
 obtain⟨g,hg⟩:∃g,g=wB c ⟨kd,a,tx⟩:=⟨_,rfl⟩
 rw[←hg]at hK;unfold wB at hg;dsimp only at hg;rw[←hb]at hg;cbv;repeat'((first|refine .mk (fun h=>?_) fun h=>?_|fail)<;>cbv)
 ·(refine hP hc ((c,tx):List bF×bF) (by(try dsimp only);omega) ?_;try dsimp only)
  rw[←hb];cbv;exact nF.mk ⟨_,Gh.refl _,.inl (.v9 (mT hK (by(rw[hg,aH (by omega)];rfl))))⟩
 ·exact nF.mk ⟨_,Gh.refl _,.inl (.v9 (mT hK (by(rw[hg,aG (by omega)];rfl))))⟩
theorem acR (P:bG) (hc:bH P 64 Yv):bL P atS aiD:=by
 intro args H K hc;obtain⟨⟨⟨kd,a,tx⟩,c⟩,rfl,rfl,hp,hK⟩:=hc;refine⟨cW,?_⟩;dsimp only at hp hK⊢
 try dsimp only at hp
 obtain⟨b,hb⟩:∃b,b=c.any (Xf tx):=⟨_,rfl⟩
 obtain⟨g,hg⟩:∃g,g=sB c ⟨kd,a,tx⟩:=⟨_,rfl⟩
 rw[←hg]at hK;unfold sB at hg;dsimp only at hg;rw[←hb]at hg;cbv;repeat'((first|refine .mk (fun h=>?_) fun h=>?_|fail)<;>cbv)
 ·(refine hP hc ((c,tx):List bF×bF) (by(try dsimp only);omega) ?_;try dsimp only)
  rw[←hb];cbv;exact nF.mk ⟨_,Gh.refl _,.inl (.v9 (mT hK (by(rw[hg,aH (by omega)];rfl))))⟩
 ·exact nF.mk ⟨_,Gh.refl _,.inl (.v9 (mT hK (by(rw[hg,aG (by omega)];rfl))))⟩
theorem aaV (P:bG) (hc:bH P 231 ZN):bL P asB alN:=by
 intro args H K hc;obtain⟨⟨⟨kd,a,tx⟩,c⟩,rfl,rfl,hp,hK⟩:=hc;refine⟨cW,?_⟩;dsimp only at hp hK⊢
 try dsimp only at hp
 obtain⟨b,hb⟩:∃b,b=W5 tx:=⟨_,rfl⟩
 obtain⟨g,hg⟩:∃g,g=pB c ⟨kd,a,tx⟩:=⟨_,rfl⟩
 rw[←hg]at hK;unfold pB at hg;dsimp only at hg;rw[←hb]at hg;cbv;repeat'((first|refine .mk (fun h=>?_) fun h=>?_|fail)<;>cbv)
 ·(refine hP hc tx trivial ?_;try dsimp only)
  rw[←hb];cbv;repeat'((first|refine .mk (fun h=>?_) fun h=>?_|fail)<;>cbv)
  ·exact nF.mk ⟨_,Gh.refl _,.inl (.v9 (mT hK (by(rw[hg,aH (by omega),aH (by omega)];rfl))))⟩
  ·exact nF.mk ⟨_,Gh.refl _,.inl (.v9 (mT hK (by(rw[hg,aH (by omega),aG (by omega)];rfl))))⟩
 ·exact nF.mk ⟨_,Gh.refl _,.inl (.v9 (mT hK (by(rw[hg,aG (by omega)];rfl))))⟩
theorem aiG {P:bG}{f:Nat}(h:bH P f XQ):bH P f arC:=fun args H K ⟨i,ha,hH,hp,hK⟩=>h args H K ⟨i.1,ha,hH,hp,hK⟩
def MkK:cQ:=spec (fun c:Int=>[.i c]) (fun _=>[]) (fun _=>True) (fun c=>.clo 286 [.rp [.i c] 0]) fun _=>[]
theorem afC (P:bG):bL P auU MkK:=by
 intro args H K hc;obtain⟨c,rfl,rfl,hp,hK⟩:=hc;refine⟨cW,?_⟩;dsimp only at hp hK⊢;cbv
 (refine .r9 (Gh.pubB 0 rfl) ?_;cbv;exact .inl (.f9 hK))
def MkW:cQ:=spec (fun c:List bF=>[.sl 1 (bK (fun s=>.str s) c)]) (fun _=>[]) (fun _=>True) (fun c=>.clo 227 [.rp [.sl 1 (bK (fun s=>.str s) c)] 0]) fun _=>[]
theorem agI (P:bG):bL P auG MkW:=by
 intro args H K hc;obtain⟨c,rfl,rfl,hp,hK⟩:=hc;refine⟨cW,?_⟩;dsimp only at hp hK⊢;cbv
 (refine .r9 (Gh.pubB 0 rfl) ?_;cbv;exact .inl (.f9 hK))
def MkS:cQ:=spec (fun c:List bF=>[.sl 1 (bK (fun s=>.str s) c)]) (fun _=>[]) (fun _=>True) (fun c=>.clo 287 [.rp [.sl 1 (bK (fun s=>.str s) c)] 0]) fun _=>[]
theorem adM (P:bG):bL P atK MkS:=by
 intro args H K hc;obtain⟨c,rfl,rfl,hp,hK⟩:=hc;refine⟨cW,?_⟩;dsimp only at hp hK⊢;cbv
 (refine .r9 (Gh.pubB 0 rfl) ?_;cbv;exact .inl (.f9 hK))
theorem abS (P:bG) (hm:bH P 230 MkS) (mc:cL P 287) (hc:bH P 287 aiD):bL P atL akX:=by
 intro args H K hc;obtain⟨⟨⟨kd,a,tx⟩,c⟩,rfl,rfl,hp,hK⟩:=hc;refine⟨cW,?_⟩;dsimp only at hp hK⊢;obtain⟨g,hg⟩:∃g,g=cB c ⟨kd,a,tx⟩:=⟨_,rfl⟩
 rw[←hg]at hK;unfold cB at hg;obtain⟨b,hb⟩:∃b,b=sB [⟨#[61]⟩,⟨#[126]⟩,⟨#[60,61]⟩,⟨#[62,61]⟩] ⟨kd,a,tx⟩:=⟨_,rfl⟩
 rw[←hb]at hg;subst hg;cbv;refine bT 1 rfl ?_;cbv
 (refine hP hm ([⟨#[61]⟩,⟨#[126]⟩,⟨#[60,61]⟩,⟨#[62,61]⟩]:List bF) trivial ?_;try dsimp only)
 cbv;repeat'((first|refine And.intro ?_ ?_|fail)<;>cbv)
 ·exact mc
 (refine hP hc ((⟨kd,a,tx⟩,[⟨#[61]⟩,⟨#[126]⟩,⟨#[60,61]⟩,⟨#[62,61]⟩]):Tk×List bF) (by decide:(4:Nat)≤64) ?_;try dsimp only)
 rw[←hb];cbv
 (refine .q9 ?_;cbv;exact .inl (.f9 hK))
def WL (g:Tk→Bool) (L:List Tk) (j:Nat):Bool:=match L[j]? with
 |some t=>g t
 |none=>false
theorem FL {g:Tk→Bool}{L:List Tk}{j:Nat}{t:Tk}(h:L[j]?=some t):WL g L j=g t:=by unfold WL;rw[h]
theorem WA {g:Tk→Bool}{L:List Tk}{j:Nat}(h:L.length≤j):WL g L j=false:=by unfold WL;rw[List.getElem?_eq_none h]
def PlX:cQ:=dJ (fun _:Pa=>[.ptr 0 0]) hR HC (fun _ (_:Int)=>True) (fun _ z=>.i z) fun p _=>hR p
theorem aeW (P:bG):bL P atH PlX:=by
 intro args H K hcc;obtain⟨⟨L,k,sz⟩,rfl,rfl,⟨hl,hk⟩,hK⟩:=hcc;refine⟨cW,?_⟩
 try dsimp only at hl hk
 have hmL:=bN LQ L;unfold hR at hK⊢;dsimp only at hK⊢;rcases aL k L.length with hlt|hge
 ·obtain⟨⟨kd,a,tx⟩,ht⟩:=cY hlt;cbv;repeat'((first|refine .e ?_|refine .y fun h=>?_|refine .k fun z hz=>?_|fail)<;>cbv)
  (refine .q9 ?_;cbv;exact .inl (.f9 (hK _ trivial)))
 ·cbv;repeat'((first|refine .n fun h=>?_|refine .k fun z hz=>?_|fail)<;>cbv)
  (refine .q9 ?_;cbv;exact .inl (.f9 (hK _ trivial)))
structure AkK where
 p:Pa
 b:Nat
 c:Int
structure apQ (i:AkK):Prop where
 p:HC i.p
 b:i.b≤1
 c:True
def ajS:cQ:=spec (fun i:AkK=>[.ptr 0 0,.i (nI i.b),.clo 286 [.rp [.i i.c] 0]]) (fun i=>hR i.p) apQ (fun i=>.bl (WL (kB i.c) i.p.L (i.p.k+i.b))) fun i=>hR i.p
theorem acA (P:bG) (m:cL P 286) (hf:bH P 286 amE):bL P acT ajS:=by
 intro args H K hc;obtain⟨⟨⟨L,k,sz⟩,b,c⟩,rfl,rfl,hp,hK⟩:=hc;refine⟨cW,?_⟩;dsimp only at hp hK⊢;obtain⟨⟨hl,hk⟩,hb,hc⟩:=hp
 try dsimp only at hl hk hb hc
 have hmL:=bN LQ L;have hsm:=fun(t:Tk) (h:L[k+b]?=some t)=>FL (g:=kB c) h
 have hno:=fun(h:L.length≤k+b)=>WA (g:=kB c) h
 obtain⟨r,hr⟩:∃r,r=WL (kB c) L (k+b):=⟨_,rfl⟩
 rw[←hr]at hK hsm hno;clear hr;unfold hR at hK⊢;dsimp only at hK⊢;rcases aL (k+b) L.length with hlt|hge
 ·obtain⟨t,ht⟩:=cY hlt;have hrt:=hsm t ht;obtain⟨q,hq⟩:∃q,q=kB c t:=⟨_,rfl⟩
  rw[←hq]at hrt;subst hrt;clear hsm hno;cbv;repeat'((first|refine .y fun h=>?_|refine .k fun z hz=>?_|fail)<;>cbv)
  refine cZ bR bR fun j x hj hx=>?_
  obtain rfl:k+b=j:=bR;obtain rfl:=Option.some.inj (hx.symm.trans ht);obtain⟨kd,a,tx⟩:=x;cbv;repeat'((first|refine And.intro ?_ ?_|fail)<;>cbv)
  ·exact m
  (refine hP hf ((⟨kd,a,tx⟩,c):Tk×Int) trivial ?_;try dsimp only)
  rw[←hq];cbv
  (refine .q9 ?_;cbv;exact .inl (.f9 hK))
 ·obtain rfl:=hno hge;cbv;repeat'((first|refine .n fun h=>?_|refine .y fun h=>?_|refine .k fun z hz=>?_|fail)<;>cbv)
  (refine .q9 ?_;cbv;exact .inl (.f9 hK))
structure SeK where
 p:Pa
 c:Int
structure apH (i:SeK):Prop where
 p:HC i.p
 c:True
def afF:cQ:=spec (fun i:SeK=>[.ptr 0 0,.clo 286 [.rp [.i i.c] 0]]) (fun i=>hR i.p) apH (fun i=>.bl (WL (kB i.c) i.p.L i.p.k)) fun i=>hR i.p
theorem Zv (P:bG) (ha:bH P 226 ajS):bL P acN afF:=by
 intro args H K hc;obtain⟨⟨⟨L,k,sz⟩,c⟩,rfl,rfl,hp,hK⟩:=hc;refine⟨cW,?_⟩;dsimp only at hp hK⊢;obtain⟨hp1,hc⟩:=hp;obtain⟨r,hr⟩:∃r,r=WL (kB c) L k:=⟨_,rfl⟩
 rw[←hr]at hK;unfold hR at hK⊢;dsimp only at hK⊢;cbv
 (refine jR ha (⟨⟨L,k,sz⟩,0,c⟩:AkK) [0] ⟨hp1,(by decide:(0:Nat)≤1),hc⟩ ?_;try dsimp only)
 rw[Nat.add_zero,←hr];unfold hR;cbv
 (refine .q9 ?_;cbv;exact .inl (.f9 hK))
structure TaK where
 p:Pa
 c:Int
 t:Tk
structure apI (i:TaK):Prop where
 p:HC i.p
 c:True
 t:i.p.L[i.p.k]?=some i.t
 g:kB i.c i.t=true
def ZD:cQ:=spec (fun i:TaK=>[.ptr 0 0,.clo 286 [.rp [.i i.c] 0]]) (fun i=>hR i.p) apI (fun i=>.str i.t.text) fun i=>hR ⟨i.p.L,i.p.k+1,i.p.sz⟩
theorem Y9 (P:bG) (hs:bH P 151 afF):bL P Z9 ZD:=by
 intro args H K hc;obtain⟨⟨⟨L,k,sz⟩,c,⟨kd,a,tx⟩⟩,rfl,rfl,hp,hK⟩:=hc;refine⟨cW,?_⟩;dsimp only at hp hK⊢;obtain⟨⟨hl,hk⟩,hc,ht,hg⟩:=hp
 try dsimp only at hl hk hc ht hg
 have hr:=(FL (g:=kB c) ht).trans hg;have hmL:=bN LQ L;unfold hR at hK⊢;dsimp only at hK⊢;cbv
 (refine jR hs (⟨⟨L,k,sz⟩,c⟩:SeK) [0] ⟨⟨hl,hk⟩,hc⟩ ?_;try dsimp only)
 rw[hr];unfold hR;cbv;repeat'((first|refine .e ?_|refine .k fun z hz=>?_|fail)<;>cbv)
 obtain rfl:z=nI (k+1):=bR
 (refine .q9 ?_;cbv;exact .inl (.f9 hK))
structure AkW where
 p:Pa
 b:Nat
 c:List bF
structure aqM (i:AkW):Prop where
 p:HC i.p
 b:i.b≤1
 c:i.c.length≤64
def anL:cQ:=spec (fun i:AkW=>[.ptr 0 0,.i (nI i.b),.clo 227 [.rp [.sl 1 (bK (fun s=>.str s) i.c)] 0]]) (fun i=>hR i.p) aqM (fun i=>.bl (WL (wB i.c) i.p.L (i.p.k+i.b))) fun i=>hR i.p
theorem aaW (P:bG) (m:cL P 227) (hf:bH P 227 aoV):bL P acT anL:=by
 intro args H K hc;obtain⟨⟨⟨L,k,sz⟩,b,c⟩,rfl,rfl,hp,hK⟩:=hc;refine⟨cW,?_⟩;dsimp only at hp hK⊢;obtain⟨⟨hl,hk⟩,hb,hc⟩:=hp
 try dsimp only at hl hk hb hc
 have hmL:=bN LQ L;have hsm:=fun(t:Tk) (h:L[k+b]?=some t)=>FL (g:=wB c) h
 have hno:=fun(h:L.length≤k+b)=>WA (g:=wB c) h
 obtain⟨r,hr⟩:∃r,r=WL (wB c) L (k+b):=⟨_,rfl⟩
 rw[←hr]at hK hsm hno;clear hr;unfold hR at hK⊢;dsimp only at hK⊢;rcases aL (k+b) L.length with hlt|hge
 ·obtain⟨t,ht⟩:=cY hlt;have hrt:=hsm t ht;obtain⟨q,hq⟩:∃q,q=wB c t:=⟨_,rfl⟩
  rw[←hq]at hrt;subst hrt;clear hsm hno;cbv;repeat'((first|refine .y fun h=>?_|refine .k fun z hz=>?_|fail)<;>cbv)
  refine cZ bR bR fun j x hj hx=>?_
  obtain rfl:k+b=j:=bR;obtain rfl:=Option.some.inj (hx.symm.trans ht);obtain⟨kd,a,tx⟩:=x;cbv;repeat'((first|refine And.intro ?_ ?_|fail)<;>cbv)
  ·exact m
  (refine hP hf ((⟨kd,a,tx⟩,c):Tk×List bF) hc ?_;try dsimp only)
  rw[←hq];cbv
  (refine .q9 ?_;cbv;exact .inl (.f9 hK))
 ·obtain rfl:=hno hge;cbv;repeat'((first|refine .n fun h=>?_|refine .y fun h=>?_|refine .k fun z hz=>?_|fail)<;>cbv)
  (refine .q9 ?_;cbv;exact .inl (.f9 hK))
structure SeW where
 p:Pa
 c:List bF
structure aqT (i:SeW):Prop where
 p:HC i.p
 c:i.c.length≤64
def ZL:cQ:=spec (fun i:SeW=>[.ptr 0 0,.clo 227 [.rp [.sl 1 (bK (fun s=>.str s) i.c)] 0]]) (fun i=>hR i.p) aqT (fun i=>.bl (WL (wB i.c) i.p.L i.p.k)) fun i=>hR i.p
theorem Zr (P:bG) (ha:bH P 226 anL):bL P acN ZL:=by
 intro args H K hc;obtain⟨⟨⟨L,k,sz⟩,c⟩,rfl,rfl,hp,hK⟩:=hc;refine⟨cW,?_⟩;dsimp only at hp hK⊢;obtain⟨hp1,hc⟩:=hp;obtain⟨r,hr⟩:∃r,r=WL (wB c) L k:=⟨_,rfl⟩
 rw[←hr]at hK;unfold hR at hK⊢;dsimp only at hK⊢;cbv
 (refine jR ha (⟨⟨L,k,sz⟩,0,c⟩:AkW) [0] ⟨hp1,(by decide:(0:Nat)≤1),hc⟩ ?_;try dsimp only)
 rw[Nat.add_zero,←hr];unfold hR;cbv
 (refine .q9 ?_;cbv;exact .inl (.f9 hK))
structure YG where
 p:Pa
 c:List bF
 t:Tk
structure apL (i:YG):Prop where
 p:HC i.p
 c:i.c.length≤64
 t:i.p.L[i.p.k]?=some i.t
 g:wB i.c i.t=true
def adU:cQ:=spec (fun i:YG=>[.ptr 0 0,.clo 227 [.rp [.sl 1 (bK (fun s=>.str s) i.c)] 0]]) (fun i=>hR i.p) apL (fun i=>.str i.t.text) fun i=>hR ⟨i.p.L,i.p.k+1,i.p.sz⟩
theorem Ze (P:bG) (hs:bH P 151 ZL):bL P Z9 adU:=by
 intro args H K hc;obtain⟨⟨⟨L,k,sz⟩,c,⟨kd,a,tx⟩⟩,rfl,rfl,hp,hK⟩:=hc;refine⟨cW,?_⟩;dsimp only at hp hK⊢;obtain⟨⟨hl,hk⟩,hc,ht,hg⟩:=hp
 try dsimp only at hl hk hc ht hg
 have hr:=(FL (g:=wB c) ht).trans hg;have hmL:=bN LQ L;unfold hR at hK⊢;dsimp only at hK⊢;cbv
 (refine jR hs (⟨⟨L,k,sz⟩,c⟩:SeW) [0] ⟨⟨hl,hk⟩,hc⟩ ?_;try dsimp only)
 rw[hr];unfold hR;cbv;repeat'((first|refine .e ?_|refine .k fun z hz=>?_|fail)<;>cbv)
 obtain rfl:z=nI (k+1):=bR
 (refine .q9 ?_;cbv;exact .inl (.f9 hK))
structure AkS where
 p:Pa
 b:Nat
 c:List bF
structure aqL (i:AkS):Prop where
 p:HC i.p
 b:i.b≤1
 c:i.c.length≤64
def akI:cQ:=spec (fun i:AkS=>[.ptr 0 0,.i (nI i.b),.clo 287 [.rp [.sl 1 (bK (fun s=>.str s) i.c)] 0]]) (fun i=>hR i.p) aqL (fun i=>.bl (WL (sB i.c) i.p.L (i.p.k+i.b))) fun i=>hR i.p
theorem aaQ (P:bG) (m:cL P 287) (hf:bH P 287 aiD):bL P acT akI:=by
 intro args H K hc;obtain⟨⟨⟨L,k,sz⟩,b,c⟩,rfl,rfl,hp,hK⟩:=hc;refine⟨cW,?_⟩;dsimp only at hp hK⊢;obtain⟨⟨hl,hk⟩,hb,hc⟩:=hp
 try dsimp only at hl hk hb hc
 have hmL:=bN LQ L;have hsm:=fun(t:Tk) (h:L[k+b]?=some t)=>FL (g:=sB c) h
 have hno:=fun(h:L.length≤k+b)=>WA (g:=sB c) h
 obtain⟨r,hr⟩:∃r,r=WL (sB c) L (k+b):=⟨_,rfl⟩
 rw[←hr]at hK hsm hno;clear hr;unfold hR at hK⊢;dsimp only at hK⊢;rcases aL (k+b) L.length with hlt|hge
 ·obtain⟨t,ht⟩:=cY hlt;have hrt:=hsm t ht;obtain⟨q,hq⟩:∃q,q=sB c t:=⟨_,rfl⟩
  rw[←hq]at hrt;subst hrt;clear hsm hno;cbv;repeat'((first|refine .y fun h=>?_|refine .k fun z hz=>?_|fail)<;>cbv)
  refine cZ bR bR fun j x hj hx=>?_
  obtain rfl:k+b=j:=bR;obtain rfl:=Option.some.inj (hx.symm.trans ht);obtain⟨kd,a,tx⟩:=x;cbv;repeat'((first|refine And.intro ?_ ?_|fail)<;>cbv)
  ·exact m
  (refine hP hf ((⟨kd,a,tx⟩,c):Tk×List bF) hc ?_;try dsimp only)
  rw[←hq];cbv
  (refine .q9 ?_;cbv;exact .inl (.f9 hK))
 ·obtain rfl:=hno hge;cbv;repeat'((first|refine .n fun h=>?_|refine .y fun h=>?_|refine .k fun z hz=>?_|fail)<;>cbv)
  (refine .q9 ?_;cbv;exact .inl (.f9 hK))
structure SeS where
 p:Pa
 c:List bF
structure apV (i:SeS):Prop where
 p:HC i.p
 c:i.c.length≤64
def ZF:cQ:=spec (fun i:SeS=>[.ptr 0 0,.clo 287 [.rp [.sl 1 (bK (fun s=>.str s) i.c)] 0]]) (fun i=>hR i.p) apV (fun i=>.bl (WL (sB i.c) i.p.L i.p.k)) fun i=>hR i.p
theorem Y2 (P:bG) (ha:bH P 226 akI):bL P acN ZF:=by
 intro args H K hc;obtain⟨⟨⟨L,k,sz⟩,c⟩,rfl,rfl,hp,hK⟩:=hc;refine⟨cW,?_⟩;dsimp only at hp hK⊢;obtain⟨hp1,hc⟩:=hp;obtain⟨r,hr⟩:∃r,r=WL (sB c) L k:=⟨_,rfl⟩
 rw[←hr]at hK;unfold hR at hK⊢;dsimp only at hK⊢;cbv
 (refine jR ha (⟨⟨L,k,sz⟩,0,c⟩:AkS) [0] ⟨hp1,(by decide:(0:Nat)≤1),hc⟩ ?_;try dsimp only)
 rw[Nat.add_zero,←hr];unfold hR;cbv
 (refine .q9 ?_;cbv;exact .inl (.f9 hK))
structure TaS where
 p:Pa
 c:List bF
 t:Tk
structure aqG (i:TaS):Prop where
 p:HC i.p
 c:i.c.length≤64
 t:i.p.L[i.p.k]?=some i.t
 g:sB i.c i.t=true
def ZB:cQ:=spec (fun i:TaS=>[.ptr 0 0,.clo 287 [.rp [.sl 1 (bK (fun s=>.str s) i.c)] 0]]) (fun i=>hR i.p) aqG (fun i=>.str i.t.text) fun i=>hR ⟨i.p.L,i.p.k+1,i.p.sz⟩
theorem YV (P:bG) (hs:bH P 151 ZF):bL P Z9 ZB:=by
 intro args H K hc;obtain⟨⟨⟨L,k,sz⟩,c,⟨kd,a,tx⟩⟩,rfl,rfl,hp,hK⟩:=hc;refine⟨cW,?_⟩;dsimp only at hp hK⊢;obtain⟨⟨hl,hk⟩,hc,ht,hg⟩:=hp
 try dsimp only at hl hk hc ht hg
 have hr:=(FL (g:=sB c) ht).trans hg;have hmL:=bN LQ L;unfold hR at hK⊢;dsimp only at hK⊢;cbv
 (refine jR hs (⟨⟨L,k,sz⟩,c⟩:SeS) [0] ⟨⟨hl,hk⟩,hc⟩ ?_;try dsimp only)
 rw[hr];unfold hR;cbv;repeat'((first|refine .e ?_|refine .k fun z hz=>?_|fail)<;>cbv)
 obtain rfl:z=nI (k+1):=bR
 (refine .q9 ?_;cbv;exact .inl (.f9 hK))
structure AkP where
 p:Pa
 b:Nat
 c:Unit
structure apP (i:AkP):Prop where
 p:HC i.p
 b:i.b≤1
 c:True
def alQ:cQ:=spec (fun i:AkP=>[.ptr 0 0,.i (nI i.b),.clo 232 []]) (fun i=>hR i.p) apP (fun i=>.bl (WL (pB i.c) i.p.L (i.p.k+i.b))) fun i=>hR i.p
theorem ZY (P:bG) (m:cL P 232) (hf:bH P 232 alN):bL P acT alQ:=by
 intro args H K hc;obtain⟨⟨⟨L,k,sz⟩,b,c⟩,rfl,rfl,hp,hK⟩:=hc;refine⟨cW,?_⟩;dsimp only at hp hK⊢;obtain⟨⟨hl,hk⟩,hb,hc⟩:=hp
 try dsimp only at hl hk hb hc
 have hmL:=bN LQ L;have hsm:=fun(t:Tk) (h:L[k+b]?=some t)=>FL (g:=pB c) h
 have hno:=fun(h:L.length≤k+b)=>WA (g:=pB c) h
 obtain⟨r,hr⟩:∃r,r=WL (pB c) L (k+b):=⟨_,rfl⟩
 rw[←hr]at hK hsm hno;clear hr;unfold hR at hK⊢;dsimp only at hK⊢;rcases aL (k+b) L.length with hlt|hge
 ·obtain⟨t,ht⟩:=cY hlt;have hrt:=hsm t ht;obtain⟨q,hq⟩:∃q,q=pB c t:=⟨_,rfl⟩
  rw[←hq]at hrt;subst hrt;clear hsm hno;cbv;repeat'((first|refine .y fun h=>?_|refine .k fun z hz=>?_|fail)<;>cbv)
  refine cZ bR bR fun j x hj hx=>?_
  obtain rfl:k+b=j:=bR;obtain rfl:=Option.some.inj (hx.symm.trans ht);obtain⟨kd,a,tx⟩:=x;cbv;repeat'((first|refine And.intro ?_ ?_|fail)<;>cbv)
  ·exact m
  (refine hP hf ((⟨kd,a,tx⟩,c):Tk×Unit) trivial ?_;try dsimp only)
  rw[←hq];cbv
  (refine .q9 ?_;cbv;exact .inl (.f9 hK))
 ·obtain rfl:=hno hge;cbv;repeat'((first|refine .n fun h=>?_|refine .y fun h=>?_|refine .k fun z hz=>?_|fail)<;>cbv)
  (refine .q9 ?_;cbv;exact .inl (.f9 hK))
structure SeP where
 p:Pa
 c:Unit
structure aqQ (i:SeP):Prop where
 p:HC i.p
 c:True
def ZE:cQ:=spec (fun i:SeP=>[.ptr 0 0,.clo 232 []]) (fun i=>hR i.p) aqQ (fun i=>.bl (WL (pB i.c) i.p.L i.p.k)) fun i=>hR i.p
theorem Y0 (P:bG) (ha:bH P 226 alQ):bL P acN ZE:=by
 intro args H K hc;obtain⟨⟨⟨L,k,sz⟩,c⟩,rfl,rfl,hp,hK⟩:=hc;refine⟨cW,?_⟩;dsimp only at hp hK⊢;obtain⟨hp1,hc⟩:=hp;obtain⟨r,hr⟩:∃r,r=WL (pB c) L k:=⟨_,rfl⟩
 rw[←hr]at hK;unfold hR at hK⊢;dsimp only at hK⊢;cbv
 (refine jR ha (⟨⟨L,k,sz⟩,0,c⟩:AkP) [0] ⟨hp1,(by decide:(0:Nat)≤1),hc⟩ ?_;try dsimp only)
 rw[Nat.add_zero,←hr];unfold hR;cbv
 (refine .q9 ?_;cbv;exact .inl (.f9 hK))
structure TaP where
 p:Pa
 c:Unit
 t:Tk
structure aqD (i:TaP):Prop where
 p:HC i.p
 c:True
 t:i.p.L[i.p.k]?=some i.t
 g:pB i.c i.t=true
def afP:cQ:=spec (fun i:TaP=>[.ptr 0 0,.clo 232 []]) (fun i=>hR i.p) aqD (fun i=>.str i.t.text) fun i=>hR ⟨i.p.L,i.p.k+1,i.p.sz⟩
theorem Zm (P:bG) (hs:bH P 151 ZE):bL P Z9 afP:=by
 intro args H K hc;obtain⟨⟨⟨L,k,sz⟩,c,⟨kd,a,tx⟩⟩,rfl,rfl,hp,hK⟩:=hc;refine⟨cW,?_⟩;dsimp only at hp hK⊢;obtain⟨⟨hl,hk⟩,hc,ht,hg⟩:=hp
 try dsimp only at hl hk hc ht hg
 have hr:=(FL (g:=pB c) ht).trans hg;have hmL:=bN LQ L;unfold hR at hK⊢;dsimp only at hK⊢;cbv
 (refine jR hs (⟨⟨L,k,sz⟩,c⟩:SeP) [0] ⟨⟨hl,hk⟩,hc⟩ ?_;try dsimp only)
 rw[hr];unfold hR;cbv;repeat'((first|refine .e ?_|refine .k fun z hz=>?_|fail)<;>cbv)
 obtain rfl:z=nI (k+1):=bR
 (refine .q9 ?_;cbv;exact .inl (.f9 hK))
structure AkN where
 p:Pa
 b:Nat
 c:Unit
structure aqN (i:AkN):Prop where
 p:HC i.p
 b:i.b≤1
 c:True
def amZ:cQ:=spec (fun i:AkN=>[.ptr 0 0,.i (nI i.b),.clo 223 []]) (fun i=>hR i.p) aqN (fun i=>.bl (WL (nB i.c) i.p.L (i.p.k+i.b))) fun i=>hR i.p
theorem aaH (P:bG) (m:cL P 223) (hf:bH P 223 arC):bL P acT amZ:=by
 intro args H K hc;obtain⟨⟨⟨L,k,sz⟩,b,c⟩,rfl,rfl,hp,hK⟩:=hc;refine⟨cW,?_⟩;dsimp only at hp hK⊢;obtain⟨⟨hl,hk⟩,hb,hc⟩:=hp
 try dsimp only at hl hk hb hc
 have hmL:=bN LQ L;have hsm:=fun(t:Tk) (h:L[k+b]?=some t)=>FL (g:=nB c) h
 have hno:=fun(h:L.length≤k+b)=>WA (g:=nB c) h
 obtain⟨r,hr⟩:∃r,r=WL (nB c) L (k+b):=⟨_,rfl⟩
 rw[←hr]at hK hsm hno;clear hr;unfold hR at hK⊢;dsimp only at hK⊢;rcases aL (k+b) L.length with hlt|hge
 ·obtain⟨t,ht⟩:=cY hlt;have hrt:=hsm t ht;obtain⟨q,hq⟩:∃q,q=nB c t:=⟨_,rfl⟩
  rw[←hq]at hrt;subst hrt;clear hsm hno;cbv;repeat'((first|refine .y fun h=>?_|refine .k fun z hz=>?_|fail)<;>cbv)
  refine cZ bR bR fun j x hj hx=>?_
  obtain rfl:k+b=j:=bR;obtain rfl:=Option.some.inj (hx.symm.trans ht);obtain⟨kd,a,tx⟩:=x;cbv;repeat'((first|refine And.intro ?_ ?_|fail)<;>cbv)
  ·exact m
  (refine hP hf ((⟨kd,a,tx⟩,c):Tk×Unit) trivial ?_;try dsimp only)
  rw[←hq];cbv
  (refine .q9 ?_;cbv;exact .inl (.f9 hK))
 ·obtain rfl:=hno hge;cbv;repeat'((first|refine .n fun h=>?_|refine .y fun h=>?_|refine .k fun z hz=>?_|fail)<;>cbv)
  (refine .q9 ?_;cbv;exact .inl (.f9 hK))
structure SeN where
 p:Pa
 c:Unit
structure aqH (i:SeN):Prop where
 p:HC i.p
 c:True
def agW:cQ:=spec (fun i:SeN=>[.ptr 0 0,.clo 223 []]) (fun i=>hR i.p) aqH (fun i=>.bl (WL (nB i.c) i.p.L i.p.k)) fun i=>hR i.p
theorem YN (P:bG) (ha:bH P 226 amZ):bL P acN agW:=by
 intro args H K hc;obtain⟨⟨⟨L,k,sz⟩,c⟩,rfl,rfl,hp,hK⟩:=hc;refine⟨cW,?_⟩;dsimp only at hp hK⊢;obtain⟨hp1,hc⟩:=hp;obtain⟨r,hr⟩:∃r,r=WL (nB c) L k:=⟨_,rfl⟩
 rw[←hr]at hK;unfold hR at hK⊢;dsimp only at hK⊢;cbv
 (refine jR ha (⟨⟨L,k,sz⟩,0,c⟩:AkN) [0] ⟨hp1,(by decide:(0:Nat)≤1),hc⟩ ?_;try dsimp only)
 rw[Nat.add_zero,←hr];unfold hR;cbv
 (refine .q9 ?_;cbv;exact .inl (.f9 hK))
structure TaN where
 p:Pa
 c:Unit
 t:Tk
structure arE (i:TaN):Prop where
 p:HC i.p
 c:True
 t:i.p.L[i.p.k]?=some i.t
 g:nB i.c i.t=true
def afY:cQ:=spec (fun i:TaN=>[.ptr 0 0,.clo 223 []]) (fun i=>hR i.p) arE (fun i=>.str i.t.text) fun i=>hR ⟨i.p.L,i.p.k+1,i.p.sz⟩
theorem YJ (P:bG) (hs:bH P 151 agW):bL P Z9 afY:=by
 intro args H K hc;obtain⟨⟨⟨L,k,sz⟩,c,⟨kd,a,tx⟩⟩,rfl,rfl,hp,hK⟩:=hc;refine⟨cW,?_⟩;dsimp only at hp hK⊢;obtain⟨⟨hl,hk⟩,hc,ht,hg⟩:=hp
 try dsimp only at hl hk hc ht hg
 have hr:=(FL (g:=nB c) ht).trans hg;have hmL:=bN LQ L;unfold hR at hK⊢;dsimp only at hK⊢;cbv
 (refine jR hs (⟨⟨L,k,sz⟩,c⟩:SeN) [0] ⟨⟨hl,hk⟩,hc⟩ ?_;try dsimp only)
 rw[hr];unfold hR;cbv;repeat'((first|refine .e ?_|refine .k fun z hz=>?_|fail)<;>cbv)
 obtain rfl:z=nI (k+1):=bR
 (refine .q9 ?_;cbv;exact .inl (.f9 hK))
structure AkC where
 p:Pa
 b:Nat
 c:Unit
structure arB (i:AkC):Prop where
 p:HC i.p
 b:i.b≤1
 c:True
def alT:cQ:=spec (fun i:AkC=>[.ptr 0 0,.i (nI i.b),.clo 333 []]) (fun i=>hR i.p) arB (fun i=>.bl (WL (cB i.c) i.p.L (i.p.k+i.b))) fun i=>hR i.p
theorem abX (P:bG) (m:cL P 333) (hf:bH P 333 akX):bL P acT alT:=by
 intro args H K hc;obtain⟨⟨⟨L,k,sz⟩,b,c⟩,rfl,rfl,hp,hK⟩:=hc;refine⟨cW,?_⟩;dsimp only at hp hK⊢;obtain⟨⟨hl,hk⟩,hb,hc⟩:=hp
 try dsimp only at hl hk hb hc
 have hmL:=bN LQ L;have hsm:=fun(t:Tk) (h:L[k+b]?=some t)=>FL (g:=cB c) h
 have hno:=fun(h:L.length≤k+b)=>WA (g:=cB c) h
 obtain⟨r,hr⟩:∃r,r=WL (cB c) L (k+b):=⟨_,rfl⟩
 rw[←hr]at hK hsm hno;clear hr;unfold hR at hK⊢;dsimp only at hK⊢;rcases aL (k+b) L.length with hlt|hge
 ·obtain⟨t,ht⟩:=cY hlt;have hrt:=hsm t ht;obtain⟨q,hq⟩:∃q,q=cB c t:=⟨_,rfl⟩
  rw[←hq]at hrt;subst hrt;clear hsm hno;cbv;repeat'((first|refine .y fun h=>?_|refine .k fun z hz=>?_|fail)<;>cbv)
  refine cZ bR bR fun j x hj hx=>?_
  obtain rfl:k+b=j:=bR;obtain rfl:=Option.some.inj (hx.symm.trans ht);obtain⟨kd,a,tx⟩:=x;cbv;repeat'((first|refine And.intro ?_ ?_|fail)<;>cbv)
  ·exact m
  (refine hP hf ((⟨kd,a,tx⟩,c):Tk×Unit) trivial ?_;try dsimp only)
  rw[←hq];cbv
  (refine .q9 ?_;cbv;exact .inl (.f9 hK))
 ·obtain rfl:=hno hge;cbv;repeat'((first|refine .n fun h=>?_|refine .y fun h=>?_|refine .k fun z hz=>?_|fail)<;>cbv)
  (refine .q9 ?_;cbv;exact .inl (.f9 hK))
structure SeC where
 p:Pa
 c:Unit
structure apZ (i:SeC):Prop where
 p:HC i.p
 c:True
def afT:cQ:=spec (fun i:SeC=>[.ptr 0 0,.clo 333 []]) (fun i=>hR i.p) apZ (fun i=>.bl (WL (cB i.c) i.p.L i.p.k)) fun i=>hR i.p
theorem Zl (P:bG) (ha:bH P 226 alT):bL P acN afT:=by
 intro args H K hc;obtain⟨⟨⟨L,k,sz⟩,c⟩,rfl,rfl,hp,hK⟩:=hc;refine⟨cW,?_⟩;dsimp only at hp hK⊢;obtain⟨hp1,hc⟩:=hp;obtain⟨r,hr⟩:∃r,r=WL (cB c) L k:=⟨_,rfl⟩
 rw[←hr]at hK;unfold hR at hK⊢;dsimp only at hK⊢;cbv
 (refine jR ha (⟨⟨L,k,sz⟩,0,c⟩:AkC) [0] ⟨hp1,(by decide:(0:Nat)≤1),hc⟩ ?_;try dsimp only)
 rw[Nat.add_zero,←hr];unfold hR;cbv
 (refine .q9 ?_;cbv;exact .inl (.f9 hK))
structure TaC where
 p:Pa
 c:Unit
 t:Tk
structure apT (i:TaC):Prop where
 p:HC i.p
 c:True
 t:i.p.L[i.p.k]?=some i.t
 g:cB i.c i.t=true
def aeA:cQ:=spec (fun i:TaC=>[.ptr 0 0,.clo 333 []]) (fun i=>hR i.p) apT (fun i=>.str i.t.text) fun i=>hR ⟨i.p.L,i.p.k+1,i.p.sz⟩
theorem Zi (P:bG) (hs:bH P 151 afT):bL P Z9 aeA:=by
 intro args H K hc;obtain⟨⟨⟨L,k,sz⟩,c,⟨kd,a,tx⟩⟩,rfl,rfl,hp,hK⟩:=hc;refine⟨cW,?_⟩;dsimp only at hp hK⊢;obtain⟨⟨hl,hk⟩,hc,ht,hg⟩:=hp
 try dsimp only at hl hk hc ht hg
 have hr:=(FL (g:=cB c) ht).trans hg;have hmL:=bN LQ L;unfold hR at hK⊢;dsimp only at hK⊢;cbv
 (refine jR hs (⟨⟨L,k,sz⟩,c⟩:SeC) [0] ⟨⟨hl,hk⟩,hc⟩ ?_;try dsimp only)
 rw[hr];unfold hR;cbv;repeat'((first|refine .e ?_|refine .k fun z hz=>?_|fail)<;>cbv)
 obtain rfl:z=nI (k+1):=bR
 (refine .q9 ?_;cbv;exact .inl (.f9 hK))
end Go.Proofs.YtooioahiijbomaaGreatDoor
end
