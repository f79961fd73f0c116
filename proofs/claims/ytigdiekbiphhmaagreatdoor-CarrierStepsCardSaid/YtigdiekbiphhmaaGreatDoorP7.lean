/-
  Texts of this proof,joined: CWJ,SI3,SI1,SI2,SI5,SIZ,CWO,CWP,CWR,CWS,CWT,CWQ,CWU,CWK,CWL,CWM.
-/
import Derived.Test.YtigdiekbiphhmaaGreatDoorP6
set_option linter.unusedVariables false
set_option linter.unusedSimpArgs false
noncomputable section
namespace Go.Proofs.YtigdiekbiphhmaaGreatDoor
open Go.RowKit
set_option maxHeartbeats 8000000
set_option maxRecDepth 100000
structure Zn (name:bH) (d:De) (day:Int) (H:List eF) (bs:List bH) (p:Nat×List eF):Prop where
 le:p.1≤bs.length
 eq:lE name d day H bs=lE name d day p.2 (bs.drop p.1)
 len:p.2.length≤H.length+2 * p.1
structure Qi where
 x:Cs
 d:jM
 i:Nat
 name:bH
 day:Int
structure Rq (q:Qi):Prop where
 len:q.x.H.length≤50000
 ok:Gw q.d
 S:q.x.S.length≤8∧q.i < q.x.S.length
 sz:q.name.size≤1000
def An (q:Qi):Cs:=match lE q.name q.d.de q.day q.x.H q.d.marks with
 |none=>q.x
 |some H=>oU { q.x with H:=H } q.i 1
def zG:dO:=spec (fun q:Qi=>[Ei q.x,iY q.d,.i (nI q.i),.str q.name,.i q.day]) (fun _=>[]) Rq (fun q=>Ei (An q)) fun _=>[]
theorem EE (P:bI) (hm:bK P 20 pQ) (hb:bK P 140 CJ) (hh:bK P 141 C0) (hs:bK P 94 qN):bO P ZG zG:=by
 intro args H K hc;obtain⟨⟨⟨S,free,⟨c,L⟩,H,D⟩,d,i,name,day⟩,rfl,rfl,hp,hK⟩:=hc;refine⟨cM,?_⟩;dsimp only at hp hK⊢;obtain⟨hl,hok,⟨hS8,hiS⟩,hnm⟩:=hp
 try dsimp only at hl hS8 hiS hnm
 have hml:=gD hok;have hms:=kQ hok;have hbl:=hok.bx;have hsz:=hok.sz;obtain⟨bs,hbs⟩:∃q,q=d.marks:=⟨_,rfl⟩
 obtain⟨q,hq⟩:∃q,q=lE name d.de day H bs:=⟨_,rfl⟩
 replace hK:K (Ei (An ⟨⟨S,free,⟨c,L⟩,H,D⟩,d,i,name,day⟩)) []:=hK;unfold An at hK;dsimp only at hK;rw[←hbs,←hq]at hK;rw[←hbs]at hml hms;obtain⟨n,hn⟩:∃n:Nat,n=bs.length:=⟨_,rfl⟩
 obtain⟨de,hde⟩:∃e,e=d.de:=⟨_,rfl⟩
 have hdS:de.seller=d.seller:=by rw[hde];rfl
 have hdF:de.frm=d.frm:=by rw[hde];rfl
 rw[←hde]at hq;clear hok;obtain⟨number,seller,buyer,carrier,issuer,house,insurer,frm,to,cur,amt,boxes,term,latest,expiry,tenor,duty⟩:=d
 try dsimp only at hbl hdS hdF hsz
 clear hde;cbv
 (refine ZN hm (⟨number,seller,buyer,carrier,issuer,house,insurer,frm,to,cur,amt,boxes,term,latest,expiry,tenor,duty⟩:jM) hbl ?_;try dsimp only)
 rw[←hbs];cbv;refine bS [] (fun p:{ p:Nat×List eF // Zn name de day H bs p }=>[(11,.sl 5 (bJ dB p.1.2)),(13,.i (nI p.1.1))]) (fun _=>[.blk 41 [.sl 1 (bJ dD S),.sl 1 (bJ mK free),.str c,.sl 11 (bJ iL L),.sl 5 (bJ dB H),.sl 5 (bJ dB D)],.blk 67 [.str number,.str seller,.str buyer,.str carrier,.str issuer,.str house,.str insurer,.str frm,.str to,.str cur,.i amt,.sl 3 (bJ Ga boxes),.i term,.i latest,.i expiry,.i tenor,.i duty],.blk 41 [.v (.slice none 0 0),.v (.slice none 0 0),.str ⟨#[]⟩,.v (.slice none 0 0),.v (.slice none 0 0),.v (.slice none 0 0)]]) (fun p=>fE n p.1.1) ⟨(0,H),⟨aI _,rfl,aN _⟩⟩ ?_;rintro ⟨⟨k,Hk⟩,⟨hk,heq,hlen⟩⟩;dsimp only at hk heq hlen⊢;rcases aL k bs.length with hks|hks
 rotate_left
 ·obtain rfl:k=n:=by omega
  rw[List.drop_of_length_le (by omega),←hq]at heq;have e1:q=some Hk:=heq;rw[e1]at hK;dsimp only at hK;cbv;repeat'((first|refine .n fun h=>?_|refine .k fun z hz=>?_|fail)<;>cbv)
  obtain⟨S2,hS2⟩:∃S2,S2=S.set i 1:=⟨_,rfl⟩
  have eS2:oU ⟨S,free,⟨c,L⟩,Hk,D⟩ i 1=⟨S2,free,⟨c,L⟩,Hk,D⟩:=by rw[hS2];rfl
  (refine ZN hs ((⟨S,free,⟨c,L⟩,Hk,D⟩,i,1):Cs×Nat×Int) ⟨hS8,hiS⟩ ?_;try dsimp only)
  rw[eS2]at hK⊢;cbv
  (refine .q9 ?_;cbv;exact .inl (.f9 hK))
 obtain⟨b,hx⟩:=cJ hks;have hbz:=hms b (aC hx);have hdr:bs.drop k=b :: bs.drop (k+1):=by
  obtain⟨h1,rfl⟩:=aA.1 hx;exact List.drop_eq_getElem_cons h1
 have heq2:lE name de day H bs=if vN Hk ⟨b,eS,seller,frm,day⟩≠0 then none else if iI (Hk++[⟨b,eS,seller,frm,day⟩]) ⟨b,seller,name,frm,day⟩≠0 then none else lE name de day (Hk++[⟨b,eS,seller,frm,day⟩]++[⟨b,seller,name,frm,day⟩]) (bs.drop (k+1)):=by
  rw[heq,hdr,←hdS,←hdF];rfl
 clear heq hdr;obtain⟨e,he⟩:∃e,e=vN Hk ⟨b,eS,seller,frm,day⟩:=⟨_,rfl⟩
 obtain⟨H2,hH2⟩:∃H2,H2=Hk++[⟨b,eS,seller,frm,day⟩]:=⟨_,rfl⟩
 have hH2l:H2.length=Hk.length+1:=by rw[hH2];simp
 rw[←he,←hH2]at heq2;obtain⟨e2,he2⟩:∃e,e=iI H2 ⟨b,seller,name,frm,day⟩:=⟨_,rfl⟩
 rw[←he2]at heq2;have hlong:∀s:bH,s.size≤1000→s.size≤maxLen:=fun s h=>by unfold maxLen;omega
 cbv;repeat'((first|refine .e ?_|refine .y fun h=>?_|refine .k fun z hz=>?_|fail)<;>cbv)
 (refine ZN hb ((Hk,⟨b,eS,seller,frm,day⟩):List eF×eF) ⟨by dsimp only;omega,hlong _ (by dsimp only;omega),hlong _ (by dsimp only;omega),hlong _ (by dsimp only;omega)⟩ ?_;try dsimp only)
 rw[←he];cbv;repeat'((first|refine .e ?_|refine .mk (fun h=>?_) fun h=>?_|refine .o ?_|refine .zl fun zs hzs hzl=>?_|refine And.intro ?_ ?_|fail)<;>cbv)
 all_goals first
  |(rw[aF (by assumption),←hq]at heq2
    rw[heq2]at hK
    (refine .q9 ?_;cbv;exact .inl (.f9 hK)))
  |skip
 all_goals
  rw[aE (fun h=>h (by assumption))]at heq2;obtain rfl:zs=bJ dB H2:=by(rw[hH2,cB,cE];first|exact hzs|(subst_vars;rfl))
  first
  |(refine fS 3 rfl ?_
    cbv
    (refine ZN hh ((H2,⟨b,seller,name,frm,day⟩):List eF×eF) ⟨by dsimp only;omega,hlong _ (by dsimp only;omega),hlong _ (by dsimp only;omega),hlong _ (by dsimp only;omega),hlong _ (by dsimp only;omega)⟩ ?_;try dsimp only))
  |(refine fS 4 rfl ?_
    cbv
    (refine ZN hh ((H2,⟨b,seller,name,frm,day⟩):List eF×eF) ⟨by dsimp only;omega,hlong _ (by dsimp only;omega),hlong _ (by dsimp only;omega),hlong _ (by dsimp only;omega),hlong _ (by dsimp only;omega)⟩ ?_;try dsimp only))
  |(refine fS 5 rfl ?_
    cbv
    (refine ZN hh ((H2,⟨b,seller,name,frm,day⟩):List eF×eF) ⟨by dsimp only;omega,hlong _ (by dsimp only;omega),hlong _ (by dsimp only;omega),hlong _ (by dsimp only;omega),hlong _ (by dsimp only;omega)⟩ ?_;try dsimp only))
  |(refine fS 6 rfl ?_
    cbv
    (refine ZN hh ((H2,⟨b,seller,name,frm,day⟩):List eF×eF) ⟨by dsimp only;omega,hlong _ (by dsimp only;omega),hlong _ (by dsimp only;omega),hlong _ (by dsimp only;omega),hlong _ (by dsimp only;omega)⟩ ?_;try dsimp only))
  rw[←he2];cbv;repeat'((first|refine .mk (fun h=>?_) fun h=>?_|refine .k fun z hz=>?_|refine .o ?_|refine .zl fun zs hzs hzl=>?_|refine And.intro ?_ ?_|fail)<;>cbv)
  all_goals first
   |(rw[aF (by assumption),←hq]at heq2
     rw[heq2]at hK
     (refine .q9 ?_;cbv;exact .inl (.f9 hK)))
   |(rw[aE (fun h=>h (by assumption))]at heq2
     obtain rfl:z=nI (k+1):=bQ;obtain rfl:zs=bJ dB (H2++[⟨b,seller,name,frm,day⟩]):=by(rw[cB,cE];first|exact hzs|(subst_vars;rfl))
     refine dV (Gh.plain 8 rfl) ?_;cbv;exact bM ⟨(k+1,H2++[⟨b,seller,name,frm,day⟩]),⟨hks,heq2,by(show (H2++[_]).length≤H.length+2 * (k+1);rw[aM,List.length_cons,List.length_nil];omega)⟩⟩ (bN (by omega)))
set_option maxHeartbeats 4000000
theorem jO {L a b:List Br}{y:Br}{i:Nat}{x:AV}{n:Int}{zs1 zs:List AV}(h4:zs=zs1++bJ iL b) (h2:b=List.drop ((some n).getD 0).toNat (List.take ((none:Option Int).getD (L.length:Int)).toNat L)) (h3:zs1=bJ iL a++[x]) (h1:a=List.drop ((none:Option Int).getD 0).toNat (List.take ((some (Int.ofNat i)).getD (L.length:Int)).toNat L)) (hx:x=iL y) (hn:n=Int.ofNat i+1) (hi:i < L.length):zs=bJ iL (L.set i y):=by
 have e1:a=L.take i:=by rw[h1];simp
 have e2:b=L.drop (i+1):=by
  rw[h2,hn];have:((some (Int.ofNat i+1)).getD 0).toNat=i+1:=by show ((i:Int)+1).toNat=i+1;omega
  rw[this];simp
 rw[h4,h3,e1,e2,hx,List.set_eq_take_append_cons_drop,aF hi,cB];have e:bJ iL (y :: L.drop (i+1))=iL y :: bJ iL (L.drop (i+1)):=rfl;rw[e,bG];rfl
theorem Lg (P:bI) (hw:bK P 142 mX) (hf:bK P 63 rA) (hwh:bK P 143 oT):bO P Ky (qA 3):=by
 intro args H K hc;obtain⟨⟨⟨carrier,L⟩,a⟩,rfl,rfl,hp,hK⟩:=hc;refine⟨cM,?_⟩;dsimp only at hp hK⊢;obtain⟨hkind,_,hfew,hall,hok,hsz,hts⟩:=hp;dsimp only at hkind hfew hall hok hsz hts;have hd:kM ⟨carrier,L⟩ a=(⟨carrier,gI L (dA a) (mC a)⟩,eO L (dA a)):=by unfold kM;rw[aE (by omega)]
 rw[hd]at hK;clear hd;obtain⟨e,he⟩:∃e,e=eO L (dA a):=⟨_,rfl⟩
 obtain⟨L',hL'⟩:∃L',L'=gI L (dA a) (mC a):=⟨_,rfl⟩
 rw[←he,←hL']at hK;unfold gI at hL';rw[←he]at hL';obtain⟨kind,index,day,bill,by_,to,b⟩:=a;obtain rfl:kind=3:=hkind;obtain⟨nq2,cq2,sq2,frm2,to2,bq2,pq2,iq2,lq2⟩:=b;cbv;repeat'((first|refine .n fun h=>?_|fail)<;>cbv)
 (refine ZN hw ((⟨carrier,L⟩:Rg),(⟨3,index,day,bill,by_,to,⟨nq2,cq2,sq2,frm2,to2,bq2,pq2,iq2,lq2⟩⟩:At)) ⟨⟨by show (1:Int)≤3;decide,by show (3:Int)≤5;decide⟩,hfew,fun b hb=>(hall b hb).1,hts⟩ ?_;try dsimp only)
 rw[←he];cbv;repeat'((first|refine .mk (fun h=>?_) fun h=>?_|fail)<;>cbv)
 ·rw[aF (by assumption:e=0)]at hL';have h0:e=0:=by assumption
  rw[h0]at hK;obtain⟨f,hf1⟩:∃f,f=nN (fun y:Br=>decide (y.b.number=bill)) L:=⟨_,rfl⟩
  (refine ZN hf ((⟨carrier,L⟩:Rg),bill) (by dsimp only;omega) ?_;try dsimp only)
  rw[←hf1];cases hb:qK L bill with
  |none=>exact(kB (he.symm.trans (by assumption:e=0)) hb).elim
  |some i=>
   rw[kU,hb]at hf1;dsimp only at hf1;subst hf1;obtain⟨x,hx,_⟩:=eL hb;have hii:=(aA.1 hx).1;have hz:=lL (he.symm.trans (by assumption:e=0)) hb hx;have hk:=mO hz;clear hz;have hL':L'=BB L bill (uC index (Bd 3)):=hL';rw[gW _ hb hx]at hL';have hki:0≤index∧index < 3:=hk;have hk3:index=0∨index=1∨index=2:=by omega
   obtain⟨⟨nq1,cq1,sq1,frm1,to1,bq1,pq1,iq1,lq1⟩,st1,⟨sa1,ha1,ca1⟩,⟨sb1,hb1,cb1⟩,⟨sc1,hc1,cc1⟩⟩:=x;rcases hk3 with rfl|rfl|rfl
   ·obtain rfl:L'=L.set i ⟨⟨nq1,cq1,sq1,frm1,to1,bq1,pq1,iq1,lq1⟩,st1,⟨3,ha1,ca1⟩,⟨sb1,hb1,cb1⟩,⟨sc1,hc1,cc1⟩⟩:=hL';cbv;repeat'((first|refine .e ?_|refine .zl fun zs hzs hzl=>?_|fail)<;>cbv)
    obtain rfl:zs=[.agg [.i sa1,.str ha1,.sl 4 (bJ bV ca1)],.agg [.i sb1,.str hb1,.sl 4 (bJ bV cb1)],.agg [.i sc1,.str hc1,.sl 4 (bJ bV cc1)]]:=hzs
    (refine ZN hwh (⟨3,0,day,bill,by_,to,⟨nq2,cq2,sq2,frm2,to2,bq2,pq2,iq2,lq2⟩⟩:At) trivial ?_;try dsimp only)
    rw[aE (by decide)];cbv;refine bS [4] (fun q:{ j:Nat // j≤1 }=>[(11,.i (nI q.1)),(9,fZ q.1 (.hd 4) (.sl 3 [.agg [.i 3,.str ha1,.sl 4 (bJ bV ca1)],.agg [.i sb1,.str hb1,.sl 4 (bJ bV cb1)],.agg [.i sc1,.str hc1,.sl 4 (bJ bV cc1)]]) .any .any)]) (fun q=>[.blk 38 [.str carrier,.sl 11 (bJ iL L)],.blk 204 (yM ⟨3,0,day,bill,by_,to,⟨nq2,cq2,sq2,frm2,to2,bq2,pq2,iq2,lq2⟩⟩),.blk 38 [.str ⟨⟨[]⟩⟩,.v (.slice none 0 0)],.blk 104 (yR ⟨⟨nq1,cq1,sq1,frm1,to1,bq1,pq1,iq1,lq1⟩,st1,⟨sa1,ha1,ca1⟩,⟨sb1,hb1,cb1⟩,⟨sc1,hc1,cc1⟩⟩),fZ q.1 (.row 107 3 [.agg [.i sa1,.str ha1,.sl 4 (bJ bV ca1)],.agg [.i sb1,.str hb1,.sl 4 (bJ bV cb1)],.agg [.i sc1,.str hc1,.sl 4 (bJ bV cc1)]]) (.tip 107 3 [.agg [.i 3,.str ha1,.sl 4 (bJ bV ca1)],.agg [.i sb1,.str hb1,.sl 4 (bJ bV cb1)],.agg [.i sc1,.str hc1,.sl 4 (bJ bV cc1)]]) .dead .dead]) (fun q=>fE 1 q.1) ⟨0,by decide⟩ ?_;rintro ⟨j,hj⟩;dsimp only at hj⊢;have hj2:j=0∨j=1:=by omega
    rcases hj2 with rfl|rfl
    ·cbv;repeat'((first|refine .n fun h=>?_|refine .y fun h=>?_|refine .k fun z hz=>?_|refine .z fun zs hzs=>?_|refine cC.i0 ?_|refine cL.i0 ?_|fail)<;>cbv)
     obtain rfl:zs=[.agg [.i 3,.str ha1,.sl 4 (bJ bV ca1)],.agg [.i sb1,.str hb1,.sl 4 (bJ bV cb1)],.agg [.i sc1,.str hc1,.sl 4 (bJ bV cc1)]]:=hzs;obtain rfl:z=nI 1:=bQ;refine dV (Gh.plain 4 rfl) ?_;cbv;exact bM ⟨1,by decide⟩ (bN (by decide))
    ·cbv;repeat'((first|refine .n fun h=>?_|refine .k fun z hz=>?_|refine .o ?_|refine .l fun ys hys hyl=>?_|refine .zl fun zs hzs hzl=>?_|refine And.intro ?_ ?_|fail)<;>cbv)
     all_goals
      obtain rfl:zs=bJ iL (L.set i ⟨⟨nq1,cq1,sq1,frm1,to1,bq1,pq1,iq1,lq1⟩,st1,⟨3,ha1,ca1⟩,⟨sb1,hb1,cb1⟩,⟨sc1,hc1,cc1⟩⟩):=jO hzs hys (by assumption) (by assumption) rfl bQ hii
      (refine .r9 (Gh.plain 5 rfl) ?_;cbv;exact .inl (.g9 hK))
   ·obtain rfl:L'=L.set i ⟨⟨nq1,cq1,sq1,frm1,to1,bq1,pq1,iq1,lq1⟩,st1,⟨sa1,ha1,ca1⟩,⟨3,hb1,cb1⟩,⟨sc1,hc1,cc1⟩⟩:=hL';cbv;repeat'((first|refine .e ?_|refine .zl fun zs hzs hzl=>?_|fail)<;>cbv)
    obtain rfl:zs=[.agg [.i sa1,.str ha1,.sl 4 (bJ bV ca1)],.agg [.i sb1,.str hb1,.sl 4 (bJ bV cb1)],.agg [.i sc1,.str hc1,.sl 4 (bJ bV cc1)]]:=hzs
    (refine ZN hwh (⟨3,1,day,bill,by_,to,⟨nq2,cq2,sq2,frm2,to2,bq2,pq2,iq2,lq2⟩⟩:At) trivial ?_;try dsimp only)
    rw[aE (by decide)];cbv;refine bS [4] (fun q:{ j:Nat // j≤1 }=>[(11,.i (nI q.1)),(9,fZ q.1 (.hd 4) (.sl 3 [.agg [.i sa1,.str ha1,.sl 4 (bJ bV ca1)],.agg [.i 3,.str hb1,.sl 4 (bJ bV cb1)],.agg [.i sc1,.str hc1,.sl 4 (bJ bV cc1)]]) .any .any)]) (fun q=>[.blk 38 [.str carrier,.sl 11 (bJ iL L)],.blk 204 (yM ⟨3,1,day,bill,by_,to,⟨nq2,cq2,sq2,frm2,to2,bq2,pq2,iq2,lq2⟩⟩),.blk 38 [.str ⟨⟨[]⟩⟩,.v (.slice none 0 0)],.blk 104 (yR ⟨⟨nq1,cq1,sq1,frm1,to1,bq1,pq1,iq1,lq1⟩,st1,⟨sa1,ha1,ca1⟩,⟨sb1,hb1,cb1⟩,⟨sc1,hc1,cc1⟩⟩),fZ q.1 (.row 107 3 [.agg [.i sa1,.str ha1,.sl 4 (bJ bV ca1)],.agg [.i sb1,.str hb1,.sl 4 (bJ bV cb1)],.agg [.i sc1,.str hc1,.sl 4 (bJ bV cc1)]]) (.tip 107 3 [.agg [.i sa1,.str ha1,.sl 4 (bJ bV ca1)],.agg [.i 3,.str hb1,.sl 4 (bJ bV cb1)],.agg [.i sc1,.str hc1,.sl 4 (bJ bV cc1)]]) .dead .dead]) (fun q=>fE 1 q.1) ⟨0,by decide⟩ ?_;rintro ⟨j,hj⟩;dsimp only at hj⊢;have hj2:j=0∨j=1:=by omega
    rcases hj2 with rfl|rfl
    ·cbv;repeat'((first|refine .n fun h=>?_|refine .y fun h=>?_|refine .k fun z hz=>?_|refine .z fun zs hzs=>?_|refine cC.i0 ?_|refine cC.i1 ?_|refine cL.i1 ?_|fail)<;>cbv)
     obtain rfl:zs=[.agg [.i sa1,.str ha1,.sl 4 (bJ bV ca1)],.agg [.i 3,.str hb1,.sl 4 (bJ bV cb1)],.agg [.i sc1,.str hc1,.sl 4 (bJ bV cc1)]]:=hzs;obtain rfl:z=nI 1:=bQ;refine dV (Gh.plain 4 rfl) ?_;cbv;exact bM ⟨1,by decide⟩ (bN (by decide))
    ·cbv;repeat'((first|refine .n fun h=>?_|refine .k fun z hz=>?_|refine .o ?_|refine .l fun ys hys hyl=>?_|refine .zl fun zs hzs hzl=>?_|refine And.intro ?_ ?_|fail)<;>cbv)
     all_goals
      obtain rfl:zs=bJ iL (L.set i ⟨⟨nq1,cq1,sq1,frm1,to1,bq1,pq1,iq1,lq1⟩,st1,⟨sa1,ha1,ca1⟩,⟨3,hb1,cb1⟩,⟨sc1,hc1,cc1⟩⟩):=jO hzs hys (by assumption) (by assumption) rfl bQ hii
      (refine .r9 (Gh.plain 5 rfl) ?_;cbv;exact .inl (.g9 hK))
   ·obtain rfl:L'=L.set i ⟨⟨nq1,cq1,sq1,frm1,to1,bq1,pq1,iq1,lq1⟩,st1,⟨sa1,ha1,ca1⟩,⟨sb1,hb1,cb1⟩,⟨3,hc1,cc1⟩⟩:=hL';cbv;repeat'((first|refine .e ?_|refine .zl fun zs hzs hzl=>?_|fail)<;>cbv)
    obtain rfl:zs=[.agg [.i sa1,.str ha1,.sl 4 (bJ bV ca1)],.agg [.i sb1,.str hb1,.sl 4 (bJ bV cb1)],.agg [.i sc1,.str hc1,.sl 4 (bJ bV cc1)]]:=hzs
    (refine ZN hwh (⟨3,2,day,bill,by_,to,⟨nq2,cq2,sq2,frm2,to2,bq2,pq2,iq2,lq2⟩⟩:At) trivial ?_;try dsimp only)
    rw[aE (by decide)];cbv;refine bS [4] (fun q:{ j:Nat // j≤1 }=>[(11,.i (nI q.1)),(9,fZ q.1 (.hd 4) (.sl 3 [.agg [.i sa1,.str ha1,.sl 4 (bJ bV ca1)],.agg [.i sb1,.str hb1,.sl 4 (bJ bV cb1)],.agg [.i 3,.str hc1,.sl 4 (bJ bV cc1)]]) .any .any)]) (fun q=>[.blk 38 [.str carrier,.sl 11 (bJ iL L)],.blk 204 (yM ⟨3,2,day,bill,by_,to,⟨nq2,cq2,sq2,frm2,to2,bq2,pq2,iq2,lq2⟩⟩),.blk 38 [.str ⟨⟨[]⟩⟩,.v (.slice none 0 0)],.blk 104 (yR ⟨⟨nq1,cq1,sq1,frm1,to1,bq1,pq1,iq1,lq1⟩,st1,⟨sa1,ha1,ca1⟩,⟨sb1,hb1,cb1⟩,⟨sc1,hc1,cc1⟩⟩),fZ q.1 (.row 107 3 [.agg [.i sa1,.str ha1,.sl 4 (bJ bV ca1)],.agg [.i sb1,.str hb1,.sl 4 (bJ bV cb1)],.agg [.i sc1,.str hc1,.sl 4 (bJ bV cc1)]]) (.tip 107 3 [.agg [.i sa1,.str ha1,.sl 4 (bJ bV ca1)],.agg [.i sb1,.str hb1,.sl 4 (bJ bV cb1)],.agg [.i 3,.str hc1,.sl 4 (bJ bV cc1)]]) .dead .dead]) (fun q=>fE 1 q.1) ⟨0,by decide⟩ ?_;rintro ⟨j,hj⟩;dsimp only at hj⊢;have hj2:j=0∨j=1:=by omega
    rcases hj2 with rfl|rfl
    ·cbv;repeat'((first|refine .n fun h=>?_|refine .y fun h=>?_|refine .k fun z hz=>?_|refine .z fun zs hzs=>?_|refine cC.i0 ?_|refine cC.i2 ?_|refine cL.i2 ?_|fail)<;>cbv)
     obtain rfl:zs=[.agg [.i sa1,.str ha1,.sl 4 (bJ bV ca1)],.agg [.i sb1,.str hb1,.sl 4 (bJ bV cb1)],.agg [.i 3,.str hc1,.sl 4 (bJ bV cc1)]]:=hzs;obtain rfl:z=nI 1:=bQ;refine dV (Gh.plain 4 rfl) ?_;cbv;exact bM ⟨1,by decide⟩ (bN (by decide))
    ·cbv;repeat'((first|refine .n fun h=>?_|refine .k fun z hz=>?_|refine .o ?_|refine .l fun ys hys hyl=>?_|refine .zl fun zs hzs hzl=>?_|refine And.intro ?_ ?_|fail)<;>cbv)
     all_goals
      obtain rfl:zs=bJ iL (L.set i ⟨⟨nq1,cq1,sq1,frm1,to1,bq1,pq1,iq1,lq1⟩,st1,⟨sa1,ha1,ca1⟩,⟨sb1,hb1,cb1⟩,⟨3,hc1,cc1⟩⟩):=jO hzs hys (by assumption) (by assumption) rfl bQ hii
      (refine .r9 (Gh.plain 5 rfl) ?_;cbv;exact .inl (.g9 hK))
 ·rw[aE (by assumption:¬e=0)]at hL';subst hL'
  (refine .q9 ?_;cbv;exact .inl (.f9 hK))
theorem LM (P:bI) (hw:bK P 142 mX) (hf:bK P 63 rA) (hwh:bK P 143 oT):bO P Ky (qA 4):=by
 intro args H K hc;obtain⟨⟨⟨carrier,L⟩,a⟩,rfl,rfl,hp,hK⟩:=hc;refine⟨cM,?_⟩;dsimp only at hp hK⊢;obtain⟨hkind,_,hfew,hall,hok,hsz,hts⟩:=hp;dsimp only at hkind hfew hall hok hsz hts;have hd:kM ⟨carrier,L⟩ a=(⟨carrier,gI L (dA a) (mC a)⟩,eO L (dA a)):=by unfold kM;rw[aE (by omega)]
 rw[hd]at hK;clear hd;obtain⟨e,he⟩:∃e,e=eO L (dA a):=⟨_,rfl⟩
 obtain⟨L',hL'⟩:∃L',L'=gI L (dA a) (mC a):=⟨_,rfl⟩
 rw[←he,←hL']at hK;unfold gI at hL';rw[←he]at hL';obtain⟨kind,index,day,bill,by_,to,b⟩:=a;obtain rfl:kind=4:=hkind;obtain⟨nq2,cq2,sq2,frm2,to2,bq2,pq2,iq2,lq2⟩:=b;cbv;repeat'((first|refine .n fun h=>?_|fail)<;>cbv)
 (refine ZN hw ((⟨carrier,L⟩:Rg),(⟨4,index,day,bill,by_,to,⟨nq2,cq2,sq2,frm2,to2,bq2,pq2,iq2,lq2⟩⟩:At)) ⟨⟨by show (1:Int)≤4;decide,by show (4:Int)≤5;decide⟩,hfew,fun b hb=>(hall b hb).1,hts⟩ ?_;try dsimp only)
 rw[←he];cbv;repeat'((first|refine .mk (fun h=>?_) fun h=>?_|fail)<;>cbv)
 ·rw[aF (by assumption:e=0)]at hL';have h0:e=0:=by assumption
  rw[h0]at hK;obtain⟨f,hf1⟩:∃f,f=nN (fun y:Br=>decide (y.b.number=bill)) L:=⟨_,rfl⟩
  (refine ZN hf ((⟨carrier,L⟩:Rg),bill) (by dsimp only;omega) ?_;try dsimp only)
  rw[←hf1];cases hb:qK L bill with
  |none=>exact(kB (he.symm.trans (by assumption:e=0)) hb).elim
  |some i=>
   rw[kU,hb]at hf1;dsimp only at hf1;subst hf1;obtain⟨x,hx,_⟩:=eL hb;have hii:=(aA.1 hx).1;have hz:=lL (he.symm.trans (by assumption:e=0)) hb hx;have hk:=mO hz;clear hz;have hL':L'=BB L bill (uC index (Bd 0)):=hL';rw[gW _ hb hx]at hL';have hki:0≤index∧index < 3:=hk;have hk3:index=0∨index=1∨index=2:=by omega
   obtain⟨⟨nq1,cq1,sq1,frm1,to1,bq1,pq1,iq1,lq1⟩,st1,⟨sa1,ha1,ca1⟩,⟨sb1,hb1,cb1⟩,⟨sc1,hc1,cc1⟩⟩:=x;rcases hk3 with rfl|rfl|rfl
   ·obtain rfl:L'=L.set i ⟨⟨nq1,cq1,sq1,frm1,to1,bq1,pq1,iq1,lq1⟩,st1,⟨0,ha1,ca1⟩,⟨sb1,hb1,cb1⟩,⟨sc1,hc1,cc1⟩⟩:=hL';cbv;repeat'((first|refine .e ?_|refine .zl fun zs hzs hzl=>?_|fail)<;>cbv)
    obtain rfl:zs=[.agg [.i sa1,.str ha1,.sl 4 (bJ bV ca1)],.agg [.i sb1,.str hb1,.sl 4 (bJ bV cb1)],.agg [.i sc1,.str hc1,.sl 4 (bJ bV cc1)]]:=hzs
    (refine ZN hwh (⟨4,0,day,bill,by_,to,⟨nq2,cq2,sq2,frm2,to2,bq2,pq2,iq2,lq2⟩⟩:At) trivial ?_;try dsimp only)
    rw[aE (by decide)];cbv;refine bS [4] (fun q:{ j:Nat // j≤1 }=>[(11,.i (nI q.1)),(9,fZ q.1 (.hd 4) (.sl 3 [.agg [.i 0,.str ha1,.sl 4 (bJ bV ca1)],.agg [.i sb1,.str hb1,.sl 4 (bJ bV cb1)],.agg [.i sc1,.str hc1,.sl 4 (bJ bV cc1)]]) .any .any)]) (fun q=>[.blk 38 [.str carrier,.sl 11 (bJ iL L)],.blk 204 (yM ⟨4,0,day,bill,by_,to,⟨nq2,cq2,sq2,frm2,to2,bq2,pq2,iq2,lq2⟩⟩),.blk 38 [.str ⟨⟨[]⟩⟩,.v (.slice none 0 0)],.blk 104 (yR ⟨⟨nq1,cq1,sq1,frm1,to1,bq1,pq1,iq1,lq1⟩,st1,⟨sa1,ha1,ca1⟩,⟨sb1,hb1,cb1⟩,⟨sc1,hc1,cc1⟩⟩),fZ q.1 (.row 107 3 [.agg [.i sa1,.str ha1,.sl 4 (bJ bV ca1)],.agg [.i sb1,.str hb1,.sl 4 (bJ bV cb1)],.agg [.i sc1,.str hc1,.sl 4 (bJ bV cc1)]]) (.tip 107 3 [.agg [.i 0,.str ha1,.sl 4 (bJ bV ca1)],.agg [.i sb1,.str hb1,.sl 4 (bJ bV cb1)],.agg [.i sc1,.str hc1,.sl 4 (bJ bV cc1)]]) .dead .dead]) (fun q=>fE 1 q.1) ⟨0,by decide⟩ ?_;rintro ⟨j,hj⟩;dsimp only at hj⊢;have hj2:j=0∨j=1:=by omega
    rcases hj2 with rfl|rfl
    ·cbv;repeat'((first|refine .n fun h=>?_|refine .y fun h=>?_|refine .k fun z hz=>?_|refine .z fun zs hzs=>?_|refine cC.i0 ?_|refine cL.i0 ?_|fail)<;>cbv)
     obtain rfl:zs=[.agg [.i 0,.str ha1,.sl 4 (bJ bV ca1)],.agg [.i sb1,.str hb1,.sl 4 (bJ bV cb1)],.agg [.i sc1,.str hc1,.sl 4 (bJ bV cc1)]]:=hzs;obtain rfl:z=nI 1:=bQ;refine dV (Gh.plain 4 rfl) ?_;cbv;exact bM ⟨1,by decide⟩ (bN (by decide))
    ·cbv;repeat'((first|refine .n fun h=>?_|refine .k fun z hz=>?_|refine .o ?_|refine .l fun ys hys hyl=>?_|refine .zl fun zs hzs hzl=>?_|refine And.intro ?_ ?_|fail)<;>cbv)
     all_goals
      obtain rfl:zs=bJ iL (L.set i ⟨⟨nq1,cq1,sq1,frm1,to1,bq1,pq1,iq1,lq1⟩,st1,⟨0,ha1,ca1⟩,⟨sb1,hb1,cb1⟩,⟨sc1,hc1,cc1⟩⟩):=jO hzs hys (by assumption) (by assumption) rfl bQ hii
      (refine .r9 (Gh.plain 5 rfl) ?_;cbv;exact .inl (.g9 hK))
   ·obtain rfl:L'=L.set i ⟨⟨nq1,cq1,sq1,frm1,to1,bq1,pq1,iq1,lq1⟩,st1,⟨sa1,ha1,ca1⟩,⟨0,hb1,cb1⟩,⟨sc1,hc1,cc1⟩⟩:=hL';cbv;repeat'((first|refine .e ?_|refine .zl fun zs hzs hzl=>?_|fail)<;>cbv)
    obtain rfl:zs=[.agg [.i sa1,.str ha1,.sl 4 (bJ bV ca1)],.agg [.i sb1,.str hb1,.sl 4 (bJ bV cb1)],.agg [.i sc1,.str hc1,.sl 4 (bJ bV cc1)]]:=hzs
    (refine ZN hwh (⟨4,1,day,bill,by_,to,⟨nq2,cq2,sq2,frm2,to2,bq2,pq2,iq2,lq2⟩⟩:At) trivial ?_;try dsimp only)
    rw[aE (by decide)];cbv;refine bS [4] (fun q:{ j:Nat // j≤1 }=>[(11,.i (nI q.1)),(9,fZ q.1 (.hd 4) (.sl 3 [.agg [.i sa1,.str ha1,.sl 4 (bJ bV ca1)],.agg [.i 0,.str hb1,.sl 4 (bJ bV cb1)],.agg [.i sc1,.str hc1,.sl 4 (bJ bV cc1)]]) .any .any)]) (fun q=>[.blk 38 [.str carrier,.sl 11 (bJ iL L)],.blk 204 (yM ⟨4,1,day,bill,by_,to,⟨nq2,cq2,sq2,frm2,to2,bq2,pq2,iq2,lq2⟩⟩),.blk 38 [.str ⟨⟨[]⟩⟩,.v (.slice none 0 0)],.blk 104 (yR ⟨⟨nq1,cq1,sq1,frm1,to1,bq1,pq1,iq1,lq1⟩,st1,⟨sa1,ha1,ca1⟩,⟨sb1,hb1,cb1⟩,⟨sc1,hc1,cc1⟩⟩),fZ q.1 (.row 107 3 [.agg [.i sa1,.str ha1,.sl 4 (bJ bV ca1)],.agg [.i sb1,.str hb1,.sl 4 (bJ bV cb1)],.agg [.i sc1,.str hc1,.sl 4 (bJ bV cc1)]]) (.tip 107 3 [.agg [.i sa1,.str ha1,.sl 4 (bJ bV ca1)],.agg [.i 0,.str hb1,.sl 4 (bJ bV cb1)],.agg [.i sc1,.str hc1,.sl 4 (bJ bV cc1)]]) .dead .dead]) (fun q=>fE 1 q.1) ⟨0,by decide⟩ ?_;rintro ⟨j,hj⟩;dsimp only at hj⊢;have hj2:j=0∨j=1:=by omega
    rcases hj2 with rfl|rfl
    ·cbv;repeat'((first|refine .n fun h=>?_|refine .y fun h=>?_|refine .k fun z hz=>?_|refine .z fun zs hzs=>?_|refine cC.i0 ?_|refine cC.i1 ?_|refine cL.i1 ?_|fail)<;>cbv)
     obtain rfl:zs=[.agg [.i sa1,.str ha1,.sl 4 (bJ bV ca1)],.agg [.i 0,.str hb1,.sl 4 (bJ bV cb1)],.agg [.i sc1,.str hc1,.sl 4 (bJ bV cc1)]]:=hzs;obtain rfl:z=nI 1:=bQ;refine dV (Gh.plain 4 rfl) ?_;cbv;exact bM ⟨1,by decide⟩ (bN (by decide))
    ·cbv;repeat'((first|refine .n fun h=>?_|refine .k fun z hz=>?_|refine .o ?_|refine .l fun ys hys hyl=>?_|refine .zl fun zs hzs hzl=>?_|refine And.intro ?_ ?_|fail)<;>cbv)
     all_goals
      obtain rfl:zs=bJ iL (L.set i ⟨⟨nq1,cq1,sq1,frm1,to1,bq1,pq1,iq1,lq1⟩,st1,⟨sa1,ha1,ca1⟩,⟨0,hb1,cb1⟩,⟨sc1,hc1,cc1⟩⟩):=jO hzs hys (by assumption) (by assumption) rfl bQ hii
      (refine .r9 (Gh.plain 5 rfl) ?_;cbv;exact .inl (.g9 hK))
   ·obtain rfl:L'=L.set i ⟨⟨nq1,cq1,sq1,frm1,to1,bq1,pq1,iq1,lq1⟩,st1,⟨sa1,ha1,ca1⟩,⟨sb1,hb1,cb1⟩,⟨0,hc1,cc1⟩⟩:=hL';cbv;repeat'((first|refine .e ?_|refine .zl fun zs hzs hzl=>?_|fail)<;>cbv)
    obtain rfl:zs=[.agg [.i sa1,.str ha1,.sl 4 (bJ bV ca1)],.agg [.i sb1,.str hb1,.sl 4 (bJ bV cb1)],.agg [.i sc1,.str hc1,.sl 4 (bJ bV cc1)]]:=hzs
    (refine ZN hwh (⟨4,2,day,bill,by_,to,⟨nq2,cq2,sq2,frm2,to2,bq2,pq2,iq2,lq2⟩⟩:At) trivial ?_;try dsimp only)
    rw[aE (by decide)];cbv;refine bS [4] (fun q:{ j:Nat // j≤1 }=>[(11,.i (nI q.1)),(9,fZ q.1 (.hd 4) (.sl 3 [.agg [.i sa1,.str ha1,.sl 4 (bJ bV ca1)],.agg [.i sb1,.str hb1,.sl 4 (bJ bV cb1)],.agg [.i 0,.str hc1,.sl 4 (bJ bV cc1)]]) .any .any)]) (fun q=>[.blk 38 [.str carrier,.sl 11 (bJ iL L)],.blk 204 (yM ⟨4,2,day,bill,by_,to,⟨nq2,cq2,sq2,frm2,to2,bq2,pq2,iq2,lq2⟩⟩),.blk 38 [.str ⟨⟨[]⟩⟩,.v (.slice none 0 0)],.blk 104 (yR ⟨⟨nq1,cq1,sq1,frm1,to1,bq1,pq1,iq1,lq1⟩,st1,⟨sa1,ha1,ca1⟩,⟨sb1,hb1,cb1⟩,⟨sc1,hc1,cc1⟩⟩),fZ q.1 (.row 107 3 [.agg [.i sa1,.str ha1,.sl 4 (bJ bV ca1)],.agg [.i sb1,.str hb1,.sl 4 (bJ bV cb1)],.agg [.i sc1,.str hc1,.sl 4 (bJ bV cc1)]]) (.tip 107 3 [.agg [.i sa1,.str ha1,.sl 4 (bJ bV ca1)],.agg [.i sb1,.str hb1,.sl 4 (bJ bV cb1)],.agg [.i 0,.str hc1,.sl 4 (bJ bV cc1)]]) .dead .dead]) (fun q=>fE 1 q.1) ⟨0,by decide⟩ ?_;rintro ⟨j,hj⟩;dsimp only at hj⊢;have hj2:j=0∨j=1:=by omega
    rcases hj2 with rfl|rfl
    ·cbv;repeat'((first|refine .n fun h=>?_|refine .y fun h=>?_|refine .k fun z hz=>?_|refine .z fun zs hzs=>?_|refine cC.i0 ?_|refine cC.i2 ?_|refine cL.i2 ?_|fail)<;>cbv)
     obtain rfl:zs=[.agg [.i sa1,.str ha1,.sl 4 (bJ bV ca1)],.agg [.i sb1,.str hb1,.sl 4 (bJ bV cb1)],.agg [.i 0,.str hc1,.sl 4 (bJ bV cc1)]]:=hzs;obtain rfl:z=nI 1:=bQ;refine dV (Gh.plain 4 rfl) ?_;cbv;exact bM ⟨1,by decide⟩ (bN (by decide))
    ·cbv;repeat'((first|refine .n fun h=>?_|refine .k fun z hz=>?_|refine .o ?_|refine .l fun ys hys hyl=>?_|refine .zl fun zs hzs hzl=>?_|refine And.intro ?_ ?_|fail)<;>cbv)
     all_goals
      obtain rfl:zs=bJ iL (L.set i ⟨⟨nq1,cq1,sq1,frm1,to1,bq1,pq1,iq1,lq1⟩,st1,⟨sa1,ha1,ca1⟩,⟨sb1,hb1,cb1⟩,⟨0,hc1,cc1⟩⟩):=jO hzs hys (by assumption) (by assumption) rfl bQ hii
      (refine .r9 (Gh.plain 5 rfl) ?_;cbv;exact .inl (.g9 hK))
 ·rw[aE (by assumption:¬e=0)]at hL';subst hL'
  (refine .q9 ?_;cbv;exact .inl (.f9 hK))
theorem JV (P:bI) (hw:bK P 142 mX) (hf:bK P 63 rA) (hwh:bK P 143 oT):bO P Ky (qA 1):=by
 intro args H K hc;obtain⟨⟨⟨carrier,L⟩,a⟩,rfl,rfl,hp,hK⟩:=hc;refine⟨cM,?_⟩;dsimp only at hp hK⊢;obtain⟨hkind,_,hfew,hall,hok,hsz,hts⟩:=hp;dsimp only at hkind hfew hall hok hsz hts;have hd:kM ⟨carrier,L⟩ a=(⟨carrier,gI L (dA a) (mC a)⟩,eO L (dA a)):=by unfold kM;rw[aE (by omega)]
 rw[hd]at hK;clear hd;obtain⟨e,he⟩:∃e,e=eO L (dA a):=⟨_,rfl⟩
 obtain⟨L',hL'⟩:∃L',L'=gI L (dA a) (mC a):=⟨_,rfl⟩
 rw[←he,←hL']at hK;unfold gI at hL';rw[←he]at hL';obtain⟨kind,index,day,bill,by_,to,b⟩:=a;obtain rfl:kind=1:=hkind;obtain⟨nq2,cq2,sq2,frm2,to2,bq2,pq2,iq2,lq2⟩:=b;cbv;repeat'((first|refine .n fun h=>?_|fail)<;>cbv)
 (refine ZN hw ((⟨carrier,L⟩:Rg),(⟨1,index,day,bill,by_,to,⟨nq2,cq2,sq2,frm2,to2,bq2,pq2,iq2,lq2⟩⟩:At)) ⟨⟨by show (1:Int)≤1;decide,by show (1:Int)≤5;decide⟩,hfew,fun b hb=>(hall b hb).1,hts⟩ ?_;try dsimp only)
 rw[←he];cbv;repeat'((first|refine .mk (fun h=>?_) fun h=>?_|fail)<;>cbv)
 ·rw[aF (by assumption:e=0)]at hL';have h0:e=0:=by assumption
  rw[h0]at hK;obtain⟨f,hf1⟩:∃f,f=nN (fun y:Br=>decide (y.b.number=bill)) L:=⟨_,rfl⟩
  (refine ZN hf ((⟨carrier,L⟩:Rg),bill) (by dsimp only;omega) ?_;try dsimp only)
  rw[←hf1];cases hb:qK L bill with
  |none=>exact(kB (he.symm.trans (by assumption:e=0)) hb).elim
  |some i=>
   rw[kU,hb]at hf1;dsimp only at hf1;subst hf1;obtain⟨x,hx,_⟩:=eL hb;have hii:=(aA.1 hx).1;have hz:=lL (he.symm.trans (by assumption:e=0)) hb hx;have hk:=mO hz;clear hz;have hL':L'=BB L bill (uC index (E6 by_ to day)):=hL';rw[gW _ hb hx]at hL';have hki:-1≤index∧index < 3:=hk;have hk3:index=0∨index=1∨index=2∨index=-1:=by omega
   have hch:=(hall x (aC hx)).1;obtain⟨⟨nq1,cq1,sq1,frm1,to1,bq1,pq1,iq1,lq1⟩,st1,⟨sa1,ha1,ca1⟩,⟨sb1,hb1,cb1⟩,⟨sc1,hc1,cc1⟩⟩:=x;unfold qQ at hch;dsimp only at hch;obtain⟨hch0,hch1,hch2⟩:=hch;obtain⟨da,hda⟩:∃d,d=ca1++[(⟨by_,to,0,day⟩:pU)]:=⟨_,rfl⟩
   obtain⟨db,hdb⟩:∃d,d=cb1++[(⟨by_,to,0,day⟩:pU)]:=⟨_,rfl⟩
   obtain⟨dc,hdc⟩:∃d,d=cc1++[(⟨by_,to,0,day⟩:pU)]:=⟨_,rfl⟩
   rcases hk3 with rfl|rfl|rfl|rfl
   ·obtain rfl:L'=L.set i ⟨⟨nq1,cq1,sq1,frm1,to1,bq1,pq1,iq1,lq1⟩,st1,⟨sa1,to,da⟩,⟨sb1,hb1,cb1⟩,⟨sc1,hc1,cc1⟩⟩:=by rw[hL',hda];rfl
    cbv;repeat'((first|refine .e ?_|refine .zl fun zs hzs hzl=>?_|fail)<;>cbv)
    obtain rfl:zs=[.agg [.i sa1,.str ha1,.sl 4 (bJ bV ca1)],.agg [.i sb1,.str hb1,.sl 4 (bJ bV cb1)],.agg [.i sc1,.str hc1,.sl 4 (bJ bV cc1)]]:=hzs
    (refine ZN hwh (⟨1,0,day,bill,by_,to,⟨nq2,cq2,sq2,frm2,to2,bq2,pq2,iq2,lq2⟩⟩:At) trivial ?_;try dsimp only)
    rw[aE (by decide)];cbv;refine zI [4] (fun q:{ j:Nat // j≤1 }=>[(11,.i (nI q.1)),(9,fZ q.1 (.hd 4) (.sl 3 [.agg [.i sa1,.str to,.sl 4 (bJ bV da)],.agg [.i sb1,.str hb1,.sl 4 (bJ bV cb1)],.agg [.i sc1,.str hc1,.sl 4 (bJ bV cc1)]]) .any .any)]) (fun q=>[.blk 38 [.str carrier,.sl 11 (bJ iL L)],.blk 204 (yM ⟨1,0,day,bill,by_,to,⟨nq2,cq2,sq2,frm2,to2,bq2,pq2,iq2,lq2⟩⟩),.blk 38 [.str ⟨⟨[]⟩⟩,.v (.slice none 0 0)],.blk 104 (yR ⟨⟨nq1,cq1,sq1,frm1,to1,bq1,pq1,iq1,lq1⟩,st1,⟨sa1,ha1,ca1⟩,⟨sb1,hb1,cb1⟩,⟨sc1,hc1,cc1⟩⟩),fZ q.1 (.row 107 3 [.agg [.i sa1,.str ha1,.sl 4 (bJ bV ca1)],.agg [.i sb1,.str hb1,.sl 4 (bJ bV cb1)],.agg [.i sc1,.str hc1,.sl 4 (bJ bV cc1)]]) (.tip 107 3 [.agg [.i sa1,.str to,.sl 4 (bJ bV da)],.agg [.i sb1,.str hb1,.sl 4 (bJ bV cb1)],.agg [.i sc1,.str hc1,.sl 4 (bJ bV cc1)]]) .dead .dead]) (fun q=>fE 1 q.1) ⟨0,by decide⟩ ?_;rintro ⟨j,hj⟩;dsimp only at hj⊢;have hj2:j=0∨j=1:=by omega
    rcases hj2 with rfl|rfl
    ·refine dN.seq (.of ?_);cbv;repeat'((first|refine .y fun h=>?_|refine .k fun z hz=>?_|fail)<;>cbv)
     refine dN.seq (.block ?_);refine dN.seq (.of ?_);cbv;repeat'((first|refine cC.i0 ?_|refine cL.i0 ?_|fail)<;>cbv)
     refine dN.seq (.of ?_);cbv;repeat'((first|refine .y fun h=>?_|refine .o ?_|refine .zl fun zs hzs hzl=>?_|refine And.intro ?_ ?_|fail)<;>cbv)
     all_goals
      obtain rfl:zs=bJ bV da:=by rw[hda,cB,cE];exact hzs
      refine dN.gh (Gh.plain 6 rfl) (.of ?_);cbv;repeat'((first|refine .z fun zs hzs=>?_|refine cC.i0 ?_|refine cL.i0 ?_|fail)<;>cbv)
      obtain rfl:zs=[.agg [.i sa1,.str to,.sl 4 (bJ bV da)],.agg [.i sb1,.str hb1,.sl 4 (bJ bV cb1)],.agg [.i sc1,.str hc1,.sl 4 (bJ bV cc1)]]:=hzs;refine .of ?_;cbv;repeat'((first|refine .k fun z hz=>?_|fail)<;>cbv)
      obtain rfl:z=nI 1:=bQ;refine dV (Gh.plain 4 rfl) ?_;cbv;exact bM ⟨1,by decide⟩ (bN (by decide))
    ·refine dN.seq (.of ?_);cbv;repeat'((first|refine .n fun h=>?_|refine .k fun z hz=>?_|refine .o ?_|refine .l fun ys hys hyl=>?_|refine .zl fun zs hzs hzl=>?_|refine And.intro ?_ ?_|fail)<;>cbv)
     all_goals
      obtain rfl:zs=bJ iL (L.set i ⟨⟨nq1,cq1,sq1,frm1,to1,bq1,pq1,iq1,lq1⟩,st1,⟨sa1,to,da⟩,⟨sb1,hb1,cb1⟩,⟨sc1,hc1,cc1⟩⟩):=jO hzs hys (by assumption) (by assumption) rfl bQ hii
      (refine .r9 (Gh.plain 5 rfl) ?_;cbv;exact .inl (.g9 hK))
   ·obtain rfl:L'=L.set i ⟨⟨nq1,cq1,sq1,frm1,to1,bq1,pq1,iq1,lq1⟩,st1,⟨sa1,ha1,ca1⟩,⟨sb1,to,db⟩,⟨sc1,hc1,cc1⟩⟩:=by rw[hL',hdb];rfl
    cbv;repeat'((first|refine .e ?_|refine .zl fun zs hzs hzl=>?_|fail)<;>cbv)
    obtain rfl:zs=[.agg [.i sa1,.str ha1,.sl 4 (bJ bV ca1)],.agg [.i sb1,.str hb1,.sl 4 (bJ bV cb1)],.agg [.i sc1,.str hc1,.sl 4 (bJ bV cc1)]]:=hzs
    (refine ZN hwh (⟨1,1,day,bill,by_,to,⟨nq2,cq2,sq2,frm2,to2,bq2,pq2,iq2,lq2⟩⟩:At) trivial ?_;try dsimp only)
    rw[aE (by decide)];cbv;refine zI [4] (fun q:{ j:Nat // j≤1 }=>[(11,.i (nI q.1)),(9,fZ q.1 (.hd 4) (.sl 3 [.agg [.i sa1,.str ha1,.sl 4 (bJ bV ca1)],.agg [.i sb1,.str to,.sl 4 (bJ bV db)],.agg [.i sc1,.str hc1,.sl 4 (bJ bV cc1)]]) .any .any)]) (fun q=>[.blk 38 [.str carrier,.sl 11 (bJ iL L)],.blk 204 (yM ⟨1,1,day,bill,by_,to,⟨nq2,cq2,sq2,frm2,to2,bq2,pq2,iq2,lq2⟩⟩),.blk 38 [.str ⟨⟨[]⟩⟩,.v (.slice none 0 0)],.blk 104 (yR ⟨⟨nq1,cq1,sq1,frm1,to1,bq1,pq1,iq1,lq1⟩,st1,⟨sa1,ha1,ca1⟩,⟨sb1,hb1,cb1⟩,⟨sc1,hc1,cc1⟩⟩),fZ q.1 (.row 107 3 [.agg [.i sa1,.str ha1,.sl 4 (bJ bV ca1)],.agg [.i sb1,.str hb1,.sl 4 (bJ bV cb1)],.agg [.i sc1,.str hc1,.sl 4 (bJ bV cc1)]]) (.tip 107 3 [.agg [.i sa1,.str ha1,.sl 4 (bJ bV ca1)],.agg [.i sb1,.str to,.sl 4 (bJ bV db)],.agg [.i sc1,.str hc1,.sl 4 (bJ bV cc1)]]) .dead .dead]) (fun q=>fE 1 q.1) ⟨0,by decide⟩ ?_;rintro ⟨j,hj⟩;dsimp only at hj⊢;have hj2:j=0∨j=1:=by omega
    rcases hj2 with rfl|rfl
    ·refine dN.seq (.of ?_);cbv;repeat'((first|refine .y fun h=>?_|refine .k fun z hz=>?_|fail)<;>cbv)
     refine dN.seq (.block ?_);refine dN.seq (.of ?_);cbv;repeat'((first|refine cC.i0 ?_|refine cC.i1 ?_|refine cL.i1 ?_|fail)<;>cbv)
     refine dN.seq (.of ?_);cbv;repeat'((first|refine .y fun h=>?_|refine .o ?_|refine .zl fun zs hzs hzl=>?_|refine And.intro ?_ ?_|fail)<;>cbv)
     all_goals
      obtain rfl:zs=bJ bV db:=by rw[hdb,cB,cE];exact hzs
      refine dN.gh (Gh.plain 6 rfl) (.of ?_);cbv;repeat'((first|refine .z fun zs hzs=>?_|refine cC.i0 ?_|refine cC.i1 ?_|refine cL.i1 ?_|fail)<;>cbv)
      obtain rfl:zs=[.agg [.i sa1,.str ha1,.sl 4 (bJ bV ca1)],.agg [.i sb1,.str to,.sl 4 (bJ bV db)],.agg [.i sc1,.str hc1,.sl 4 (bJ bV cc1)]]:=hzs;refine .of ?_;cbv;repeat'((first|refine .k fun z hz=>?_|fail)<;>cbv)
      obtain rfl:z=nI 1:=bQ;refine dV (Gh.plain 4 rfl) ?_;cbv;exact bM ⟨1,by decide⟩ (bN (by decide))
    ·refine dN.seq (.of ?_);cbv;repeat'((first|refine .n fun h=>?_|refine .k fun z hz=>?_|refine .o ?_|refine .l fun ys hys hyl=>?_|refine .zl fun zs hzs hzl=>?_|refine And.intro ?_ ?_|fail)<;>cbv)
     all_goals
      obtain rfl:zs=bJ iL (L.set i ⟨⟨nq1,cq1,sq1,frm1,to1,bq1,pq1,iq1,lq1⟩,st1,⟨sa1,ha1,ca1⟩,⟨sb1,to,db⟩,⟨sc1,hc1,cc1⟩⟩):=jO hzs hys (by assumption) (by assumption) rfl bQ hii
      (refine .r9 (Gh.plain 5 rfl) ?_;cbv;exact .inl (.g9 hK))
   ·obtain rfl:L'=L.set i ⟨⟨nq1,cq1,sq1,frm1,to1,bq1,pq1,iq1,lq1⟩,st1,⟨sa1,ha1,ca1⟩,⟨sb1,hb1,cb1⟩,⟨sc1,to,dc⟩⟩:=by rw[hL',hdc];rfl
    cbv;repeat'((first|refine .e ?_|refine .zl fun zs hzs hzl=>?_|fail)<;>cbv)
    obtain rfl:zs=[.agg [.i sa1,.str ha1,.sl 4 (bJ bV ca1)],.agg [.i sb1,.str hb1,.sl 4 (bJ bV cb1)],.agg [.i sc1,.str hc1,.sl 4 (bJ bV cc1)]]:=hzs
    (refine ZN hwh (⟨1,2,day,bill,by_,to,⟨nq2,cq2,sq2,frm2,to2,bq2,pq2,iq2,lq2⟩⟩:At) trivial ?_;try dsimp only)
    rw[aE (by decide)];cbv;refine zI [4] (fun q:{ j:Nat // j≤1 }=>[(11,.i (nI q.1)),(9,fZ q.1 (.hd 4) (.sl 3 [.agg [.i sa1,.str ha1,.sl 4 (bJ bV ca1)],.agg [.i sb1,.str hb1,.sl 4 (bJ bV cb1)],.agg [.i sc1,.str to,.sl 4 (bJ bV dc)]]) .any .any)]) (fun q=>[.blk 38 [.str carrier,.sl 11 (bJ iL L)],.blk 204 (yM ⟨1,2,day,bill,by_,to,⟨nq2,cq2,sq2,frm2,to2,bq2,pq2,iq2,lq2⟩⟩),.blk 38 [.str ⟨⟨[]⟩⟩,.v (.slice none 0 0)],.blk 104 (yR ⟨⟨nq1,cq1,sq1,frm1,to1,bq1,pq1,iq1,lq1⟩,st1,⟨sa1,ha1,ca1⟩,⟨sb1,hb1,cb1⟩,⟨sc1,hc1,cc1⟩⟩),fZ q.1 (.row 107 3 [.agg [.i sa1,.str ha1,.sl 4 (bJ bV ca1)],.agg [.i sb1,.str hb1,.sl 4 (bJ bV cb1)],.agg [.i sc1,.str hc1,.sl 4 (bJ bV cc1)]]) (.tip 107 3 [.agg [.i sa1,.str ha1,.sl 4 (bJ bV ca1)],.agg [.i sb1,.str hb1,.sl 4 (bJ bV cb1)],.agg [.i sc1,.str to,.sl 4 (bJ bV dc)]]) .dead .dead]) (fun q=>fE 1 q.1) ⟨0,by decide⟩ ?_;rintro ⟨j,hj⟩;dsimp only at hj⊢;have hj2:j=0∨j=1:=by omega
    rcases hj2 with rfl|rfl
    ·refine dN.seq (.of ?_);cbv;repeat'((first|refine .y fun h=>?_|refine .k fun z hz=>?_|fail)<;>cbv)
     refine dN.seq (.block ?_);refine dN.seq (.of ?_);cbv;repeat'((first|refine cC.i0 ?_|refine cC.i2 ?_|refine cL.i2 ?_|fail)<;>cbv)
     refine dN.seq (.of ?_);cbv;repeat'((first|refine .y fun h=>?_|refine .o ?_|refine .zl fun zs hzs hzl=>?_|refine And.intro ?_ ?_|fail)<;>cbv)
     all_goals
      obtain rfl:zs=bJ bV dc:=by rw[hdc,cB,cE];exact hzs
      refine dN.gh (Gh.plain 6 rfl) (.of ?_);cbv;repeat'((first|refine .z fun zs hzs=>?_|refine cC.i0 ?_|refine cC.i2 ?_|refine cL.i2 ?_|fail)<;>cbv)
      obtain rfl:zs=[.agg [.i sa1,.str ha1,.sl 4 (bJ bV ca1)],.agg [.i sb1,.str hb1,.sl 4 (bJ bV cb1)],.agg [.i sc1,.str to,.sl 4 (bJ bV dc)]]:=hzs;refine .of ?_;cbv;repeat'((first|refine .k fun z hz=>?_|fail)<;>cbv)
      obtain rfl:z=nI 1:=bQ;refine dV (Gh.plain 4 rfl) ?_;cbv;exact bM ⟨1,by decide⟩ (bN (by decide))
    ·refine dN.seq (.of ?_);cbv;repeat'((first|refine .n fun h=>?_|refine .k fun z hz=>?_|refine .o ?_|refine .l fun ys hys hyl=>?_|refine .zl fun zs hzs hzl=>?_|refine And.intro ?_ ?_|fail)<;>cbv)
     all_goals
      obtain rfl:zs=bJ iL (L.set i ⟨⟨nq1,cq1,sq1,frm1,to1,bq1,pq1,iq1,lq1⟩,st1,⟨sa1,ha1,ca1⟩,⟨sb1,hb1,cb1⟩,⟨sc1,to,dc⟩⟩):=jO hzs hys (by assumption) (by assumption) rfl bQ hii
      (refine .r9 (Gh.plain 5 rfl) ?_;cbv;exact .inl (.g9 hK))
   ·obtain rfl:L'=L.set i ⟨⟨nq1,cq1,sq1,frm1,to1,bq1,pq1,iq1,lq1⟩,st1,⟨sa1,to,da⟩,⟨sb1,to,db⟩,⟨sc1,to,dc⟩⟩:=by rw[hL',hda,hdb,hdc];rfl
    cbv;repeat'((first|refine .e ?_|refine .zl fun zs hzs hzl=>?_|fail)<;>cbv)
    obtain rfl:zs=[.agg [.i sa1,.str ha1,.sl 4 (bJ bV ca1)],.agg [.i sb1,.str hb1,.sl 4 (bJ bV cb1)],.agg [.i sc1,.str hc1,.sl 4 (bJ bV cc1)]]:=hzs
    (refine ZN hwh (⟨1,-1,day,bill,by_,to,⟨nq2,cq2,sq2,frm2,to2,bq2,pq2,iq2,lq2⟩⟩:At) trivial ?_;try dsimp only)
    rw[aF (.inr ⟨rfl,rfl⟩)];cbv;refine zI [4] (fun q:{ j:Nat // j≤3 }=>[(11,.i (nI q.1)),(9,fZ q.1 (.hd 4) (.hd 4) (.hd 4) (.sl 3 [.agg [.i sa1,.str to,.sl 4 (bJ bV da)],.agg [.i sb1,.str to,.sl 4 (bJ bV db)],.agg [.i sc1,.str to,.sl 4 (bJ bV dc)]]))]) (fun q=>[.blk 38 [.str carrier,.sl 11 (bJ iL L)],.blk 204 (yM ⟨1,-1,day,bill,by_,to,⟨nq2,cq2,sq2,frm2,to2,bq2,pq2,iq2,lq2⟩⟩),.blk 38 [.str ⟨⟨[]⟩⟩,.v (.slice none 0 0)],.blk 104 (yR ⟨⟨nq1,cq1,sq1,frm1,to1,bq1,pq1,iq1,lq1⟩,st1,⟨sa1,ha1,ca1⟩,⟨sb1,hb1,cb1⟩,⟨sc1,hc1,cc1⟩⟩),fZ q.1 (.row 107 3 [.agg [.i sa1,.str ha1,.sl 4 (bJ bV ca1)],.agg [.i sb1,.str hb1,.sl 4 (bJ bV cb1)],.agg [.i sc1,.str hc1,.sl 4 (bJ bV cc1)]]) (.row 107 3 [.agg [.i sa1,.str to,.sl 4 (bJ bV da)],.agg [.i sb1,.str hb1,.sl 4 (bJ bV cb1)],.agg [.i sc1,.str hc1,.sl 4 (bJ bV cc1)]]) (.row 107 3 [.agg [.i sa1,.str to,.sl 4 (bJ bV da)],.agg [.i sb1,.str to,.sl 4 (bJ bV db)],.agg [.i sc1,.str hc1,.sl 4 (bJ bV cc1)]]) (.tip 107 3 [.agg [.i sa1,.str to,.sl 4 (bJ bV da)],.agg [.i sb1,.str to,.sl 4 (bJ bV db)],.agg [.i sc1,.str to,.sl 4 (bJ bV dc)]])]) (fun q=>fE 3 q.1) ⟨0,by decide⟩ ?_;rintro ⟨j,hj⟩;dsimp only at hj⊢;have hj2:j=0∨j=1∨j=2∨j=3:=by omega
    rcases hj2 with rfl|rfl|rfl|rfl
    ·refine dN.seq (.of ?_);cbv;repeat'((first|refine .y fun h=>?_|refine .k fun z hz=>?_|fail)<;>cbv)
     refine dN.seq (.block ?_);refine dN.seq (.of ?_);cbv;repeat'((first|refine cC.i0 ?_|refine cL.i0 ?_|fail)<;>cbv)
     refine dN.seq (.of ?_);cbv;repeat'((first|refine .y fun h=>?_|refine .o ?_|refine .zl fun zs hzs hzl=>?_|refine And.intro ?_ ?_|fail)<;>cbv)
     all_goals
      obtain rfl:zs=bJ bV da:=by rw[hda,cB,cE];exact hzs
      refine dN.gh (Gh.plain 6 rfl) (.of ?_);cbv;repeat'((first|refine .z fun zs hzs=>?_|refine cC.i0 ?_|refine cL.i0 ?_|fail)<;>cbv)
      obtain rfl:zs=[.agg [.i sa1,.str to,.sl 4 (bJ bV da)],.agg [.i sb1,.str hb1,.sl 4 (bJ bV cb1)],.agg [.i sc1,.str hc1,.sl 4 (bJ bV cc1)]]:=hzs;refine .of ?_;cbv;repeat'((first|refine .k fun z hz=>?_|fail)<;>cbv)
      obtain rfl:z=nI 1:=bQ;exact bM ⟨1,by decide⟩ (bN (by decide))
    ·refine dN.seq (.of ?_);cbv;repeat'((first|refine .y fun h=>?_|refine .k fun z hz=>?_|fail)<;>cbv)
     refine dN.seq (.block ?_);refine dN.seq (.of ?_);cbv;repeat'((first|refine cC.i1 ?_|refine cL.i1 ?_|fail)<;>cbv)
     refine dN.seq (.of ?_);cbv;repeat'((first|refine .y fun h=>?_|refine .o ?_|refine .zl fun zs hzs hzl=>?_|refine And.intro ?_ ?_|fail)<;>cbv)
     all_goals
      obtain rfl:zs=bJ bV db:=by rw[hdb,cB,cE];exact hzs
      refine dN.gh (Gh.plain 6 rfl) (.of ?_);cbv;repeat'((first|refine .z fun zs hzs=>?_|refine cC.i1 ?_|refine cL.i1 ?_|fail)<;>cbv)
      obtain rfl:zs=[.agg [.i sa1,.str to,.sl 4 (bJ bV da)],.agg [.i sb1,.str to,.sl 4 (bJ bV db)],.agg [.i sc1,.str hc1,.sl 4 (bJ bV cc1)]]:=hzs;refine .of ?_;cbv;repeat'((first|refine .k fun z hz=>?_|fail)<;>cbv)
      obtain rfl:z=nI 2:=bQ;exact bM ⟨2,by decide⟩ (bN (by decide))
    ·refine dN.seq (.of ?_);cbv;repeat'((first|refine .y fun h=>?_|refine .k fun z hz=>?_|fail)<;>cbv)
     refine dN.seq (.block ?_);refine dN.seq (.of ?_);cbv;repeat'((first|refine cC.i2 ?_|refine cL.i2 ?_|fail)<;>cbv)
     refine dN.seq (.of ?_);cbv;repeat'((first|refine .y fun h=>?_|refine .o ?_|refine .zl fun zs hzs hzl=>?_|refine And.intro ?_ ?_|fail)<;>cbv)
     all_goals
      obtain rfl:zs=bJ bV dc:=by rw[hdc,cB,cE];exact hzs
      refine dN.gh (Gh.plain 6 rfl) (.of ?_);cbv;repeat'((first|refine .z fun zs hzs=>?_|refine cC.i2 ?_|refine cL.i2 ?_|fail)<;>cbv)
      obtain rfl:zs=[.agg [.i sa1,.str to,.sl 4 (bJ bV da)],.agg [.i sb1,.str to,.sl 4 (bJ bV db)],.agg [.i sc1,.str to,.sl 4 (bJ bV dc)]]:=hzs;refine .of ?_;cbv;repeat'((first|refine .k fun z hz=>?_|fail)<;>cbv)
      obtain rfl:z=nI 3:=bQ;refine dV (Gh.plain 4 rfl) ?_;cbv;exact bM ⟨3,by decide⟩ (bN (by decide))
    ·refine dN.seq (.of ?_);cbv;repeat'((first|refine .n fun h=>?_|refine .k fun z hz=>?_|refine .o ?_|refine .l fun ys hys hyl=>?_|refine .zl fun zs hzs hzl=>?_|refine And.intro ?_ ?_|fail)<;>cbv)
     all_goals
      obtain rfl:zs=bJ iL (L.set i ⟨⟨nq1,cq1,sq1,frm1,to1,bq1,pq1,iq1,lq1⟩,st1,⟨sa1,to,da⟩,⟨sb1,to,db⟩,⟨sc1,to,dc⟩⟩):=jO hzs hys (by assumption) (by assumption) rfl bQ hii
      (refine .r9 (Gh.plain 5 rfl) ?_;cbv;exact .inl (.g9 hK))
 ·rw[aE (by assumption:¬e=0)]at hL';subst hL'
  (refine .q9 ?_;cbv;exact .inl (.f9 hK))
theorem Kw (P:bI) (hw:bK P 142 mX) (hf:bK P 63 rA) (hwh:bK P 143 oT):IX P Ky (qA 2):=by
 intro args H K hc;obtain⟨⟨⟨carrier,L⟩,a⟩,rfl,rfl,hp,hK⟩:=hc;refine⟨cM,?_⟩;dsimp only at hp hK⊢;obtain⟨hkind,_,hfew,hall,hok,hsz,hts⟩:=hp;dsimp only at hkind hfew hall hok hsz hts;have hd:kM ⟨carrier,L⟩ a=(⟨carrier,gI L (dA a) (mC a)⟩,eO L (dA a)):=by unfold kM;rw[aE (by omega)]
 rw[hd]at hK;clear hd;obtain⟨e,he⟩:∃e,e=eO L (dA a):=⟨_,rfl⟩
 obtain⟨L',hL'⟩:∃L',L'=gI L (dA a) (mC a):=⟨_,rfl⟩
 rw[←he,←hL']at hK;unfold gI at hL';rw[←he]at hL';obtain⟨kind,index,day,bill,by_,to,b⟩:=a;obtain rfl:kind=2:=hkind;obtain⟨nq2,cq2,sq2,frm2,to2,bq2,pq2,iq2,lq2⟩:=b;refine dN.seq (.of ?_);cbv;refine dN.seq (.of ?_);cbv;repeat'((first|refine .n fun h=>?_|fail)<;>cbv)
 refine dN.seq (.of ?_);cbv
 (refine ZN hw ((⟨carrier,L⟩:Rg),(⟨2,index,day,bill,by_,to,⟨nq2,cq2,sq2,frm2,to2,bq2,pq2,iq2,lq2⟩⟩:At)) ⟨⟨by show (1:Int)≤2;decide,by show (2:Int)≤5;decide⟩,hfew,fun b hb=>(hall b hb).1,hts⟩ ?_;try dsimp only)
 rw[←he];cbv;repeat'((first|refine .mk (fun h=>?_) fun h=>?_|fail)<;>cbv)
 ·rw[aF (by assumption:e=0)]at hL';have h0:e=0:=by assumption
  rw[h0]at hK;obtain⟨f,hf1⟩:∃f,f=nN (fun y:Br=>decide (y.b.number=bill)) L:=⟨_,rfl⟩
  refine dN.seq (.of ?_);cbv
  (refine ZN hf ((⟨carrier,L⟩:Rg),bill) (by dsimp only;omega) ?_;try dsimp only)
  rw[←hf1];cases hb:qK L bill with
  |none=>exact(kB (he.symm.trans (by assumption:e=0)) hb).elim
  |some i=>
   rw[kU,hb]at hf1;dsimp only at hf1;subst hf1;obtain⟨x,hx,_⟩:=eL hb;have hii:=(aA.1 hx).1;have hz:=lL (he.symm.trans (by assumption:e=0)) hb hx;have hk:=mO hz;clear hz;have hL':L'=BB L bill (fun b=>uC index (Bd 1) (Df 1 b)):=hL';rw[gW _ hb hx]at hL';have hki:0≤index∧index < 3:=hk;have hk3:index=0∨index=1∨index=2:=by omega
   obtain⟨⟨nq1,cq1,sq1,frm1,to1,bq1,pq1,iq1,lq1⟩,st1,⟨sa1,ha1,ca1⟩,⟨sb1,hb1,cb1⟩,⟨sc1,hc1,cc1⟩⟩:=x;cbv;rcases hk3 with rfl|rfl|rfl
   ·obtain rfl:L'=L.set i ⟨⟨nq1,cq1,sq1,frm1,to1,bq1,pq1,iq1,lq1⟩,1,⟨1,ha1,ca1⟩,⟨2,hb1,cb1⟩,⟨2,hc1,cc1⟩⟩:=hL';refine dN.seq (.of ?_);cbv;repeat'((first|refine .e ?_|fail)<;>cbv)
    refine dN.seq (.of ?_);cbv;repeat'((first|refine .zl fun zs hzs hzl=>?_|fail)<;>cbv)
    obtain rfl:zs=[.agg [.i sa1,.str ha1,.sl 4 (bJ bV ca1)],.agg [.i sb1,.str hb1,.sl 4 (bJ bV cb1)],.agg [.i sc1,.str hc1,.sl 4 (bJ bV cc1)]]:=hzs;refine dN.seq (.of ?_);cbv
    (refine ZN hwh (⟨2,0,day,bill,by_,to,⟨nq2,cq2,sq2,frm2,to2,bq2,pq2,iq2,lq2⟩⟩:At) trivial ?_;try dsimp only)
    rw[aE (by decide)];cbv;refine dN.seq (.of ?_);cbv;refine bS [] (fun q:{ j:Nat // j≤1 }=>[(11,.i (nI q.1))]) (fun q=>[.blk 38 [.str carrier,.sl 11 (bJ iL L)],.blk 204 (yM ⟨2,0,day,bill,by_,to,⟨nq2,cq2,sq2,frm2,to2,bq2,pq2,iq2,lq2⟩⟩),.blk 38 [.str ⟨⟨[]⟩⟩,.v (.slice none 0 0)],.blk 104 (yR ⟨⟨nq1,cq1,sq1,frm1,to1,bq1,pq1,iq1,lq1⟩,st1,⟨sa1,ha1,ca1⟩,⟨sb1,hb1,cb1⟩,⟨sc1,hc1,cc1⟩⟩),.row 107 3 [.agg [.i sa1,.str ha1,.sl 4 (bJ bV ca1)],.agg [.i sb1,.str hb1,.sl 4 (bJ bV cb1)],.agg [.i sc1,.str hc1,.sl 4 (bJ bV cc1)]]]) (fun q=>fE 1 q.1) ⟨0,by decide⟩ ?_;rintro ⟨j,hj⟩;dsimp only at hj⊢;have hj2:j=0∨j=1:=by omega
    rcases hj2 with rfl|rfl
    ·cbv;repeat'((first|refine .n fun h=>?_|refine .y fun h=>?_|refine .k fun z hz=>?_|refine .z fun zs hzs=>?_|refine cC.i0 ?_|refine cL.i0 ?_|fail)<;>cbv)
     obtain rfl:zs=[.agg [.i sa1,.str ha1,.sl 4 (bJ bV ca1)],.agg [.i sb1,.str hb1,.sl 4 (bJ bV cb1)],.agg [.i sc1,.str hc1,.sl 4 (bJ bV cc1)]]:=hzs;obtain rfl:z=nI 1:=bQ;exact bM ⟨1,by decide⟩ (bN (by decide))
    ·cbv;repeat'((first|refine .n fun h=>?_|refine .k fun z hz=>?_|fail)<;>cbv)
     refine dN.seq (.of ?_);cbv;repeat'((first|refine .y fun h=>?_|fail)<;>cbv)
     refine bS [] (fun q:{ j:Nat // j≤3 }=>[(13,.i (nI q.1))]) (fun q=>[.blk 38 [.str carrier,.sl 11 (bJ iL L)],.blk 204 (yM ⟨2,0,day,bill,by_,to,⟨nq2,cq2,sq2,frm2,to2,bq2,pq2,iq2,lq2⟩⟩),.blk 38 [.str ⟨⟨[]⟩⟩,.v (.slice none 0 0)],.blk 104 (yR ⟨⟨nq1,cq1,sq1,frm1,to1,bq1,pq1,iq1,lq1⟩,st1,⟨sa1,ha1,ca1⟩,⟨sb1,hb1,cb1⟩,⟨sc1,hc1,cc1⟩⟩),fZ q.1 (.row 107 3 [.agg [.i sa1,.str ha1,.sl 4 (bJ bV ca1)],.agg [.i sb1,.str hb1,.sl 4 (bJ bV cb1)],.agg [.i sc1,.str hc1,.sl 4 (bJ bV cc1)]]) (.row 107 3 [.agg [.i 2,.str ha1,.sl 4 (bJ bV ca1)],.agg [.i sb1,.str hb1,.sl 4 (bJ bV cb1)],.agg [.i sc1,.str hc1,.sl 4 (bJ bV cc1)]]) (.row 107 3 [.agg [.i 2,.str ha1,.sl 4 (bJ bV ca1)],.agg [.i 2,.str hb1,.sl 4 (bJ bV cb1)],.agg [.i sc1,.str hc1,.sl 4 (bJ bV cc1)]]) (.row 107 3 [.agg [.i 2,.str ha1,.sl 4 (bJ bV ca1)],.agg [.i 2,.str hb1,.sl 4 (bJ bV cb1)],.agg [.i 2,.str hc1,.sl 4 (bJ bV cc1)]])]) (fun q=>fE 3 q.1) ⟨0,by decide⟩ ?_;rintro ⟨j,hj⟩;dsimp only at hj⊢;have hj2:j=0∨j=1∨j=2∨j=3:=by omega
     rcases hj2 with rfl|rfl|rfl|rfl
     ·cbv;repeat'((first|refine .y fun h=>?_|refine .k fun z hz=>?_|refine .z fun zs hzs=>?_|refine cC.i0 ?_|refine cL.i0 ?_|fail)<;>cbv)
      obtain rfl:zs=[.agg [.i 2,.str ha1,.sl 4 (bJ bV ca1)],.agg [.i sb1,.str hb1,.sl 4 (bJ bV cb1)],.agg [.i sc1,.str hc1,.sl 4 (bJ bV cc1)]]:=hzs;obtain rfl:z=nI 1:=bQ;exact bM ⟨1,by decide⟩ (bN (by decide))
     ·cbv;repeat'((first|refine .y fun h=>?_|refine .k fun z hz=>?_|refine .z fun zs hzs=>?_|refine cC.i1 ?_|refine cL.i1 ?_|fail)<;>cbv)
      obtain rfl:zs=[.agg [.i 2,.str ha1,.sl 4 (bJ bV ca1)],.agg [.i 2,.str hb1,.sl 4 (bJ bV cb1)],.agg [.i sc1,.str hc1,.sl 4 (bJ bV cc1)]]:=hzs;obtain rfl:z=nI 2:=bQ;exact bM ⟨2,by decide⟩ (bN (by decide))
     ·cbv;repeat'((first|refine .y fun h=>?_|refine .k fun z hz=>?_|refine .z fun zs hzs=>?_|refine cC.i2 ?_|refine cL.i2 ?_|fail)<;>cbv)
      obtain rfl:zs=[.agg [.i 2,.str ha1,.sl 4 (bJ bV ca1)],.agg [.i 2,.str hb1,.sl 4 (bJ bV cb1)],.agg [.i 2,.str hc1,.sl 4 (bJ bV cc1)]]:=hzs;obtain rfl:z=nI 3:=bQ;exact bM ⟨3,by decide⟩ (bN (by decide))
     ·cbv;repeat'((first|refine .n fun h=>?_|fail)<;>cbv)
      refine dN.seq (.of ?_);cbv;repeat'((first|refine .y fun h=>?_|refine .z fun zs hzs=>?_|refine cC.i0 ?_|refine cL.i0 ?_|fail)<;>cbv)
      obtain rfl:zs=[.agg [.i 1,.str ha1,.sl 4 (bJ bV ca1)],.agg [.i 2,.str hb1,.sl 4 (bJ bV cb1)],.agg [.i 2,.str hc1,.sl 4 (bJ bV cc1)]]:=hzs;refine dN.gh (Gh.plain 4 rfl) (.of ?_);cbv;repeat'((first|refine .k fun z hz=>?_|refine .o ?_|refine .l fun ys hys hyl=>?_|refine .zl fun zs hzs hzl=>?_|refine And.intro ?_ ?_|fail)<;>cbv)
      all_goals
       obtain rfl:zs=bJ iL (L.set i ⟨⟨nq1,cq1,sq1,frm1,to1,bq1,pq1,iq1,lq1⟩,1,⟨1,ha1,ca1⟩,⟨2,hb1,cb1⟩,⟨2,hc1,cc1⟩⟩):=jO hzs hys (by assumption) (by assumption) rfl bQ hii
       (refine .r9 (Gh.plain 5 rfl) ?_;cbv;exact .inl (.g9 hK))
   ·obtain rfl:L'=L.set i ⟨⟨nq1,cq1,sq1,frm1,to1,bq1,pq1,iq1,lq1⟩,1,⟨2,ha1,ca1⟩,⟨1,hb1,cb1⟩,⟨2,hc1,cc1⟩⟩:=hL';refine dN.seq (.of ?_);cbv;repeat'((first|refine .e ?_|fail)<;>cbv)
    refine dN.seq (.of ?_);cbv;repeat'((first|refine .zl fun zs hzs hzl=>?_|fail)<;>cbv)
    obtain rfl:zs=[.agg [.i sa1,.str ha1,.sl 4 (bJ bV ca1)],.agg [.i sb1,.str hb1,.sl 4 (bJ bV cb1)],.agg [.i sc1,.str hc1,.sl 4 (bJ bV cc1)]]:=hzs;refine dN.seq (.of ?_);cbv
    (refine ZN hwh (⟨2,1,day,bill,by_,to,⟨nq2,cq2,sq2,frm2,to2,bq2,pq2,iq2,lq2⟩⟩:At) trivial ?_;try dsimp only)
    rw[aE (by decide)];cbv;refine dN.seq (.of ?_);cbv;refine bS [] (fun q:{ j:Nat // j≤1 }=>[(11,.i (nI q.1))]) (fun q=>[.blk 38 [.str carrier,.sl 11 (bJ iL L)],.blk 204 (yM ⟨2,1,day,bill,by_,to,⟨nq2,cq2,sq2,frm2,to2,bq2,pq2,iq2,lq2⟩⟩),.blk 38 [.str ⟨⟨[]⟩⟩,.v (.slice none 0 0)],.blk 104 (yR ⟨⟨nq1,cq1,sq1,frm1,to1,bq1,pq1,iq1,lq1⟩,st1,⟨sa1,ha1,ca1⟩,⟨sb1,hb1,cb1⟩,⟨sc1,hc1,cc1⟩⟩),.row 107 3 [.agg [.i sa1,.str ha1,.sl 4 (bJ bV ca1)],.agg [.i sb1,.str hb1,.sl 4 (bJ bV cb1)],.agg [.i sc1,.str hc1,.sl 4 (bJ bV cc1)]]]) (fun q=>fE 1 q.1) ⟨0,by decide⟩ ?_;rintro ⟨j,hj⟩;dsimp only at hj⊢;have hj2:j=0∨j=1:=by omega
    rcases hj2 with rfl|rfl
    ·cbv;repeat'((first|refine .n fun h=>?_|refine .y fun h=>?_|refine .k fun z hz=>?_|refine .z fun zs hzs=>?_|refine cC.i0 ?_|refine cC.i1 ?_|refine cL.i1 ?_|fail)<;>cbv)
     obtain rfl:zs=[.agg [.i sa1,.str ha1,.sl 4 (bJ bV ca1)],.agg [.i sb1,.str hb1,.sl 4 (bJ bV cb1)],.agg [.i sc1,.str hc1,.sl 4 (bJ bV cc1)]]:=hzs;obtain rfl:z=nI 1:=bQ;exact bM ⟨1,by decide⟩ (bN (by decide))
    ·cbv;repeat'((first|refine .n fun h=>?_|refine .k fun z hz=>?_|fail)<;>cbv)
     refine dN.seq (.of ?_);cbv;repeat'((first|refine .y fun h=>?_|fail)<;>cbv)
     refine bS [] (fun q:{ j:Nat // j≤3 }=>[(13,.i (nI q.1))]) (fun q=>[.blk 38 [.str carrier,.sl 11 (bJ iL L)],.blk 204 (yM ⟨2,1,day,bill,by_,to,⟨nq2,cq2,sq2,frm2,to2,bq2,pq2,iq2,lq2⟩⟩),.blk 38 [.str ⟨⟨[]⟩⟩,.v (.slice none 0 0)],.blk 104 (yR ⟨⟨nq1,cq1,sq1,frm1,to1,bq1,pq1,iq1,lq1⟩,st1,⟨sa1,ha1,ca1⟩,⟨sb1,hb1,cb1⟩,⟨sc1,hc1,cc1⟩⟩),fZ q.1 (.row 107 3 [.agg [.i sa1,.str ha1,.sl 4 (bJ bV ca1)],.agg [.i sb1,.str hb1,.sl 4 (bJ bV cb1)],.agg [.i sc1,.str hc1,.sl 4 (bJ bV cc1)]]) (.row 107 3 [.agg [.i 2,.str ha1,.sl 4 (bJ bV ca1)],.agg [.i sb1,.str hb1,.sl 4 (bJ bV cb1)],.agg [.i sc1,.str hc1,.sl 4 (bJ bV cc1)]]) (.row 107 3 [.agg [.i 2,.str ha1,.sl 4 (bJ bV ca1)],.agg [.i 2,.str hb1,.sl 4 (bJ bV cb1)],.agg [.i sc1,.str hc1,.sl 4 (bJ bV cc1)]]) (.row 107 3 [.agg [.i 2,.str ha1,.sl 4 (bJ bV ca1)],.agg [.i 2,.str hb1,.sl 4 (bJ bV cb1)],.agg [.i 2,.str hc1,.sl 4 (bJ bV cc1)]])]) (fun q=>fE 3 q.1) ⟨0,by decide⟩ ?_;rintro ⟨j,hj⟩;dsimp only at hj⊢;have hj2:j=0∨j=1∨j=2∨j=3:=by omega
     rcases hj2 with rfl|rfl|rfl|rfl
     ·cbv;repeat'((first|refine .y fun h=>?_|refine .k fun z hz=>?_|refine .z fun zs hzs=>?_|refine cC.i0 ?_|refine cL.i0 ?_|fail)<;>cbv)
      obtain rfl:zs=[.agg [.i 2,.str ha1,.sl 4 (bJ bV ca1)],.agg [.i sb1,.str hb1,.sl 4 (bJ bV cb1)],.agg [.i sc1,.str hc1,.sl 4 (bJ bV cc1)]]:=hzs;obtain rfl:z=nI 1:=bQ;exact bM ⟨1,by decide⟩ (bN (by decide))
     ·cbv;repeat'((first|refine .y fun h=>?_|refine .k fun z hz=>?_|refine .z fun zs hzs=>?_|refine cC.i1 ?_|refine cL.i1 ?_|fail)<;>cbv)
      obtain rfl:zs=[.agg [.i 2,.str ha1,.sl 4 (bJ bV ca1)],.agg [.i 2,.str hb1,.sl 4 (bJ bV cb1)],.agg [.i sc1,.str hc1,.sl 4 (bJ bV cc1)]]:=hzs;obtain rfl:z=nI 2:=bQ;exact bM ⟨2,by decide⟩ (bN (by decide))
     ·cbv;repeat'((first|refine .y fun h=>?_|refine .k fun z hz=>?_|refine .z fun zs hzs=>?_|refine cC.i2 ?_|refine cL.i2 ?_|fail)<;>cbv)
      obtain rfl:zs=[.agg [.i 2,.str ha1,.sl 4 (bJ bV ca1)],.agg [.i 2,.str hb1,.sl 4 (bJ bV cb1)],.agg [.i 2,.str hc1,.sl 4 (bJ bV cc1)]]:=hzs;obtain rfl:z=nI 3:=bQ;exact bM ⟨3,by decide⟩ (bN (by decide))
     ·cbv;repeat'((first|refine .n fun h=>?_|fail)<;>cbv)
      refine dN.seq (.of ?_);cbv;repeat'((first|refine .y fun h=>?_|refine .z fun zs hzs=>?_|refine cC.i1 ?_|refine cL.i1 ?_|fail)<;>cbv)
      obtain rfl:zs=[.agg [.i 2,.str ha1,.sl 4 (bJ bV ca1)],.agg [.i 1,.str hb1,.sl 4 (bJ bV cb1)],.agg [.i 2,.str hc1,.sl 4 (bJ bV cc1)]]:=hzs;refine dN.gh (Gh.plain 4 rfl) (.of ?_);cbv;repeat'((first|refine .k fun z hz=>?_|refine .o ?_|refine .l fun ys hys hyl=>?_|refine .zl fun zs hzs hzl=>?_|refine And.intro ?_ ?_|fail)<;>cbv)
      all_goals
       obtain rfl:zs=bJ iL (L.set i ⟨⟨nq1,cq1,sq1,frm1,to1,bq1,pq1,iq1,lq1⟩,1,⟨2,ha1,ca1⟩,⟨1,hb1,cb1⟩,⟨2,hc1,cc1⟩⟩):=jO hzs hys (by assumption) (by assumption) rfl bQ hii
       (refine .r9 (Gh.plain 5 rfl) ?_;cbv;exact .inl (.g9 hK))
   ·obtain rfl:L'=L.set i ⟨⟨nq1,cq1,sq1,frm1,to1,bq1,pq1,iq1,lq1⟩,1,⟨2,ha1,ca1⟩,⟨2,hb1,cb1⟩,⟨1,hc1,cc1⟩⟩:=hL';refine dN.seq (.of ?_);cbv;repeat'((first|refine .e ?_|fail)<;>cbv)
    refine dN.seq (.of ?_);cbv;repeat'((first|refine .zl fun zs hzs hzl=>?_|fail)<;>cbv)
    obtain rfl:zs=[.agg [.i sa1,.str ha1,.sl 4 (bJ bV ca1)],.agg [.i sb1,.str hb1,.sl 4 (bJ bV cb1)],.agg [.i sc1,.str hc1,.sl 4 (bJ bV cc1)]]:=hzs;refine dN.seq (.of ?_);cbv
    (refine ZN hwh (⟨2,2,day,bill,by_,to,⟨nq2,cq2,sq2,frm2,to2,bq2,pq2,iq2,lq2⟩⟩:At) trivial ?_;try dsimp only)
    rw[aE (by decide)];cbv;refine dN.seq (.of ?_);cbv;refine bS [] (fun q:{ j:Nat // j≤1 }=>[(11,.i (nI q.1))]) (fun q=>[.blk 38 [.str carrier,.sl 11 (bJ iL L)],.blk 204 (yM ⟨2,2,day,bill,by_,to,⟨nq2,cq2,sq2,frm2,to2,bq2,pq2,iq2,lq2⟩⟩),.blk 38 [.str ⟨⟨[]⟩⟩,.v (.slice none 0 0)],.blk 104 (yR ⟨⟨nq1,cq1,sq1,frm1,to1,bq1,pq1,iq1,lq1⟩,st1,⟨sa1,ha1,ca1⟩,⟨sb1,hb1,cb1⟩,⟨sc1,hc1,cc1⟩⟩),.row 107 3 [.agg [.i sa1,.str ha1,.sl 4 (bJ bV ca1)],.agg [.i sb1,.str hb1,.sl 4 (bJ bV cb1)],.agg [.i sc1,.str hc1,.sl 4 (bJ bV cc1)]]]) (fun q=>fE 1 q.1) ⟨0,by decide⟩ ?_;rintro ⟨j,hj⟩;dsimp only at hj⊢;have hj2:j=0∨j=1:=by omega
    rcases hj2 with rfl|rfl
    ·cbv;repeat'((first|refine .n fun h=>?_|refine .y fun h=>?_|refine .k fun z hz=>?_|refine .z fun zs hzs=>?_|refine cC.i0 ?_|refine cC.i2 ?_|refine cL.i2 ?_|fail)<;>cbv)
     obtain rfl:zs=[.agg [.i sa1,.str ha1,.sl 4 (bJ bV ca1)],.agg [.i sb1,.str hb1,.sl 4 (bJ bV cb1)],.agg [.i sc1,.str hc1,.sl 4 (bJ bV cc1)]]:=hzs;obtain rfl:z=nI 1:=bQ;exact bM ⟨1,by decide⟩ (bN (by decide))
    ·cbv;repeat'((first|refine .n fun h=>?_|refine .k fun z hz=>?_|fail)<;>cbv)
     refine dN.seq (.of ?_);cbv;repeat'((first|refine .y fun h=>?_|fail)<;>cbv)
     refine bS [] (fun q:{ j:Nat // j≤3 }=>[(13,.i (nI q.1))]) (fun q=>[.blk 38 [.str carrier,.sl 11 (bJ iL L)],.blk 204 (yM ⟨2,2,day,bill,by_,to,⟨nq2,cq2,sq2,frm2,to2,bq2,pq2,iq2,lq2⟩⟩),.blk 38 [.str ⟨⟨[]⟩⟩,.v (.slice none 0 0)],.blk 104 (yR ⟨⟨nq1,cq1,sq1,frm1,to1,bq1,pq1,iq1,lq1⟩,st1,⟨sa1,ha1,ca1⟩,⟨sb1,hb1,cb1⟩,⟨sc1,hc1,cc1⟩⟩),fZ q.1 (.row 107 3 [.agg [.i sa1,.str ha1,.sl 4 (bJ bV ca1)],.agg [.i sb1,.str hb1,.sl 4 (bJ bV cb1)],.agg [.i sc1,.str hc1,.sl 4 (bJ bV cc1)]]) (.row 107 3 [.agg [.i 2,.str ha1,.sl 4 (bJ bV ca1)],.agg [.i sb1,.str hb1,.sl 4 (bJ bV cb1)],.agg [.i sc1,.str hc1,.sl 4 (bJ bV cc1)]]) (.row 107 3 [.agg [.i 2,.str ha1,.sl 4 (bJ bV ca1)],.agg [.i 2,.str hb1,.sl 4 (bJ bV cb1)],.agg [.i sc1,.str hc1,.sl 4 (bJ bV cc1)]]) (.row 107 3 [.agg [.i 2,.str ha1,.sl 4 (bJ bV ca1)],.agg [.i 2,.str hb1,.sl 4 (bJ bV cb1)],.agg [.i 2,.str hc1,.sl 4 (bJ bV cc1)]])]) (fun q=>fE 3 q.1) ⟨0,by decide⟩ ?_;rintro ⟨j,hj⟩;dsimp only at hj⊢;have hj2:j=0∨j=1∨j=2∨j=3:=by omega
     rcases hj2 with rfl|rfl|rfl|rfl
     ·cbv;repeat'((first|refine .y fun h=>?_|refine .k fun z hz=>?_|refine .z fun zs hzs=>?_|refine cC.i0 ?_|refine cL.i0 ?_|fail)<;>cbv)
      obtain rfl:zs=[.agg [.i 2,.str ha1,.sl 4 (bJ bV ca1)],.agg [.i sb1,.str hb1,.sl 4 (bJ bV cb1)],.agg [.i sc1,.str hc1,.sl 4 (bJ bV cc1)]]:=hzs;obtain rfl:z=nI 1:=bQ;exact bM ⟨1,by decide⟩ (bN (by decide))
     ·cbv;repeat'((first|refine .y fun h=>?_|refine .k fun z hz=>?_|refine .z fun zs hzs=>?_|refine cC.i1 ?_|refine cL.i1 ?_|fail)<;>cbv)
      obtain rfl:zs=[.agg [.i 2,.str ha1,.sl 4 (bJ bV ca1)],.agg [.i 2,.str hb1,.sl 4 (bJ bV cb1)],.agg [.i sc1,.str hc1,.sl 4 (bJ bV cc1)]]:=hzs;obtain rfl:z=nI 2:=bQ;exact bM ⟨2,by decide⟩ (bN (by decide))
     ·cbv;repeat'((first|refine .y fun h=>?_|refine .k fun z hz=>?_|refine .z fun zs hzs=>?_|refine cC.i2 ?_|refine cL.i2 ?_|fail)<;>cbv)
      obtain rfl:zs=[.agg [.i 2,.str ha1,.sl 4 (bJ bV ca1)],.agg [.i 2,.str hb1,.sl 4 (bJ bV cb1)],.agg [.i 2,.str hc1,.sl 4 (bJ bV cc1)]]:=hzs;obtain rfl:z=nI 3:=bQ;exact bM ⟨3,by decide⟩ (bN (by decide))
     ·cbv;repeat'((first|refine .n fun h=>?_|fail)<;>cbv)
      refine dN.seq (.of ?_);cbv;repeat'((first|refine .y fun h=>?_|refine .z fun zs hzs=>?_|refine cC.i2 ?_|refine cL.i2 ?_|fail)<;>cbv)
      obtain rfl:zs=[.agg [.i 2,.str ha1,.sl 4 (bJ bV ca1)],.agg [.i 2,.str hb1,.sl 4 (bJ bV cb1)],.agg [.i 1,.str hc1,.sl 4 (bJ bV cc1)]]:=hzs;refine dN.gh (Gh.plain 4 rfl) (.of ?_);cbv;repeat'((first|refine .k fun z hz=>?_|refine .o ?_|refine .l fun ys hys hyl=>?_|refine .zl fun zs hzs hzl=>?_|refine And.intro ?_ ?_|fail)<;>cbv)
      all_goals
       obtain rfl:zs=bJ iL (L.set i ⟨⟨nq1,cq1,sq1,frm1,to1,bq1,pq1,iq1,lq1⟩,1,⟨2,ha1,ca1⟩,⟨2,hb1,cb1⟩,⟨1,hc1,cc1⟩⟩):=jO hzs hys (by assumption) (by assumption) rfl bQ hii
       (refine .r9 (Gh.plain 5 rfl) ?_;cbv;exact .inl (.g9 hK))
 ·rw[aE (by assumption:¬e=0)]at hL';subst hL'
  (refine .q9 ?_;cbv;exact .inl (.f9 hK))
theorem J8 (P:bI) (hw:bK P 142 mX) (hf:bK P 63 rA) (hwh:bK P 143 oT):bO P Ky (qA 5):=by
 intro args H K hc;obtain⟨⟨⟨carrier,L⟩,a⟩,rfl,rfl,hp,hK⟩:=hc;refine⟨cM,?_⟩;dsimp only at hp hK⊢;obtain⟨hkind,_,hfew,hall,hok,hsz,hts⟩:=hp;dsimp only at hkind hfew hall hok hsz hts;have hd:kM ⟨carrier,L⟩ a=(⟨carrier,gI L (dA a) (mC a)⟩,eO L (dA a)):=by unfold kM;rw[aE (by omega)]
 rw[hd]at hK;clear hd;obtain⟨e,he⟩:∃e,e=eO L (dA a):=⟨_,rfl⟩
 obtain⟨L',hL'⟩:∃L',L'=gI L (dA a) (mC a):=⟨_,rfl⟩
 rw[←he,←hL']at hK;unfold gI at hL';rw[←he]at hL';obtain⟨kind,index,day,bill,by_,to,b⟩:=a;obtain rfl:kind=5:=hkind;obtain⟨nq2,cq2,sq2,frm2,to2,bq2,pq2,iq2,lq2⟩:=b;cbv;repeat'((first|refine .n fun h=>?_|fail)<;>cbv)
 (refine ZN hw ((⟨carrier,L⟩:Rg),(⟨5,index,day,bill,by_,to,⟨nq2,cq2,sq2,frm2,to2,bq2,pq2,iq2,lq2⟩⟩:At)) ⟨⟨by show (1:Int)≤5;decide,by show (5:Int)≤5;decide⟩,hfew,fun b hb=>(hall b hb).1,hts⟩ ?_;try dsimp only)
 rw[←he];cbv;repeat'((first|refine .mk (fun h=>?_) fun h=>?_|fail)<;>cbv)
 ·rw[aF (by assumption:e=0)]at hL';have h0:e=0:=by assumption
  rw[h0]at hK;obtain⟨f,hf1⟩:∃f,f=nN (fun y:Br=>decide (y.b.number=bill)) L:=⟨_,rfl⟩
  (refine ZN hf ((⟨carrier,L⟩:Rg),bill) (by dsimp only;omega) ?_;try dsimp only)
  rw[←hf1];cases hb:qK L bill with
  |none=>exact(kB (he.symm.trans (by assumption:e=0)) hb).elim
  |some i=>
   rw[kU,hb]at hf1;dsimp only at hf1;subst hf1;obtain⟨x,hx,_⟩:=eL hb;have hii:=(aA.1 hx).1;have hz:=lL (he.symm.trans (by assumption:e=0)) hb hx;have hL':L'=BB L bill (Df 4):=hL';rw[gW _ hb hx]at hL';clear hz;obtain⟨⟨nq1,cq1,sq1,frm1,to1,bq1,pq1,iq1,lq1⟩,st1,⟨sa1,ha1,ca1⟩,⟨sb1,hb1,cb1⟩,⟨sc1,hc1,cc1⟩⟩:=x;obtain rfl:L'=L.set i ⟨⟨nq1,cq1,sq1,frm1,to1,bq1,pq1,iq1,lq1⟩,4,⟨2,ha1,ca1⟩,⟨2,hb1,cb1⟩,⟨2,hc1,cc1⟩⟩:=hL';cbv;repeat'((first|refine .e ?_|refine .zl fun zs hzs hzl=>?_|fail)<;>cbv)
   obtain rfl:zs=[.agg [.i sa1,.str ha1,.sl 4 (bJ bV ca1)],.agg [.i sb1,.str hb1,.sl 4 (bJ bV cb1)],.agg [.i sc1,.str hc1,.sl 4 (bJ bV cc1)]]:=hzs
   (refine ZN hwh (⟨5,index,day,bill,by_,to,⟨nq2,cq2,sq2,frm2,to2,bq2,pq2,iq2,lq2⟩⟩:At) trivial ?_;try dsimp only)
   rw[aF (.inl rfl)];cbv;refine bS [] (fun q:{ j:Nat // j≤3 }=>[(11,.i (nI q.1))]) (fun q=>[.blk 38 [.str carrier,.sl 11 (bJ iL L)],.blk 204 (yM ⟨5,index,day,bill,by_,to,⟨nq2,cq2,sq2,frm2,to2,bq2,pq2,iq2,lq2⟩⟩),.blk 38 [.str ⟨⟨[]⟩⟩,.v (.slice none 0 0)],.blk 104 (yR ⟨⟨nq1,cq1,sq1,frm1,to1,bq1,pq1,iq1,lq1⟩,st1,⟨sa1,ha1,ca1⟩,⟨sb1,hb1,cb1⟩,⟨sc1,hc1,cc1⟩⟩),.row 107 3 [.agg [.i sa1,.str ha1,.sl 4 (bJ bV ca1)],.agg [.i sb1,.str hb1,.sl 4 (bJ bV cb1)],.agg [.i sc1,.str hc1,.sl 4 (bJ bV cc1)]]]) (fun q=>fE 3 q.1) ⟨0,by decide⟩ ?_;rintro ⟨j,hj⟩;dsimp only at hj⊢;have hj2:j=0∨j=1∨j=2∨j=3:=by omega
   rcases hj2 with rfl|rfl|rfl|rfl
   ·cbv;repeat'((first|refine .n fun h=>?_|refine .y fun h=>?_|refine .k fun z hz=>?_|refine .z fun zs hzs=>?_|refine cC.i0 ?_|refine cL.i0 ?_|fail)<;>cbv)
    obtain rfl:zs=[.agg [.i sa1,.str ha1,.sl 4 (bJ bV ca1)],.agg [.i sb1,.str hb1,.sl 4 (bJ bV cb1)],.agg [.i sc1,.str hc1,.sl 4 (bJ bV cc1)]]:=hzs;obtain rfl:z=nI 1:=bQ;exact bM ⟨1,by decide⟩ (bN (by decide))
   ·cbv;repeat'((first|refine .n fun h=>?_|refine .y fun h=>?_|refine .k fun z hz=>?_|refine .z fun zs hzs=>?_|refine cC.i1 ?_|refine cL.i1 ?_|fail)<;>cbv)
    obtain rfl:zs=[.agg [.i sa1,.str ha1,.sl 4 (bJ bV ca1)],.agg [.i sb1,.str hb1,.sl 4 (bJ bV cb1)],.agg [.i sc1,.str hc1,.sl 4 (bJ bV cc1)]]:=hzs;obtain rfl:z=nI 2:=bQ;exact bM ⟨2,by decide⟩ (bN (by decide))
   ·cbv;repeat'((first|refine .n fun h=>?_|refine .y fun h=>?_|refine .k fun z hz=>?_|refine .z fun zs hzs=>?_|refine cC.i2 ?_|refine cL.i2 ?_|fail)<;>cbv)
    obtain rfl:zs=[.agg [.i sa1,.str ha1,.sl 4 (bJ bV ca1)],.agg [.i sb1,.str hb1,.sl 4 (bJ bV cb1)],.agg [.i sc1,.str hc1,.sl 4 (bJ bV cc1)]]:=hzs;obtain rfl:z=nI 3:=bQ;exact bM ⟨3,by decide⟩ (bN (by decide))
   ·cbv;repeat'((first|refine .n fun h=>?_|refine .y fun h=>?_|refine .k fun z hz=>?_|fail)<;>cbv)
    refine bS [4] (fun q:{ j:Nat // j≤3 }=>[(13,.i (nI q.1)),(9,fZ q.1 (.hd 4) (.hd 4) (.hd 4) (.sl 3 [.agg [.i 2,.str ha1,.sl 4 (bJ bV ca1)],.agg [.i 2,.str hb1,.sl 4 (bJ bV cb1)],.agg [.i 2,.str hc1,.sl 4 (bJ bV cc1)]]))]) (fun q=>[.blk 38 [.str carrier,.sl 11 (bJ iL L)],.blk 204 (yM ⟨5,index,day,bill,by_,to,⟨nq2,cq2,sq2,frm2,to2,bq2,pq2,iq2,lq2⟩⟩),.blk 38 [.str ⟨⟨[]⟩⟩,.v (.slice none 0 0)],.blk 104 (yR ⟨⟨nq1,cq1,sq1,frm1,to1,bq1,pq1,iq1,lq1⟩,st1,⟨sa1,ha1,ca1⟩,⟨sb1,hb1,cb1⟩,⟨sc1,hc1,cc1⟩⟩),fZ q.1 (.row 107 3 [.agg [.i sa1,.str ha1,.sl 4 (bJ bV ca1)],.agg [.i sb1,.str hb1,.sl 4 (bJ bV cb1)],.agg [.i sc1,.str hc1,.sl 4 (bJ bV cc1)]]) (.row 107 3 [.agg [.i 2,.str ha1,.sl 4 (bJ bV ca1)],.agg [.i sb1,.str hb1,.sl 4 (bJ bV cb1)],.agg [.i sc1,.str hc1,.sl 4 (bJ bV cc1)]]) (.row 107 3 [.agg [.i 2,.str ha1,.sl 4 (bJ bV ca1)],.agg [.i 2,.str hb1,.sl 4 (bJ bV cb1)],.agg [.i sc1,.str hc1,.sl 4 (bJ bV cc1)]]) (.tip 107 3 [.agg [.i 2,.str ha1,.sl 4 (bJ bV ca1)],.agg [.i 2,.str hb1,.sl 4 (bJ bV cb1)],.agg [.i 2,.str hc1,.sl 4 (bJ bV cc1)]])]) (fun q=>fE 3 q.1) ⟨0,by decide⟩ ?_;rintro ⟨j,hj⟩;dsimp only at hj⊢;have hj2:j=0∨j=1∨j=2∨j=3:=by omega
    rcases hj2 with rfl|rfl|rfl|rfl
    ·cbv;repeat'((first|refine .y fun h=>?_|refine .k fun z hz=>?_|refine .z fun zs hzs=>?_|refine cC.i0 ?_|refine cL.i0 ?_|fail)<;>cbv)
     obtain rfl:zs=[.agg [.i 2,.str ha1,.sl 4 (bJ bV ca1)],.agg [.i sb1,.str hb1,.sl 4 (bJ bV cb1)],.agg [.i sc1,.str hc1,.sl 4 (bJ bV cc1)]]:=hzs;obtain rfl:z=nI 1:=bQ;exact bM ⟨1,by decide⟩ (bN (by decide))
    ·cbv;repeat'((first|refine .y fun h=>?_|refine .k fun z hz=>?_|refine .z fun zs hzs=>?_|refine cC.i1 ?_|refine cL.i1 ?_|fail)<;>cbv)
     obtain rfl:zs=[.agg [.i 2,.str ha1,.sl 4 (bJ bV ca1)],.agg [.i 2,.str hb1,.sl 4 (bJ bV cb1)],.agg [.i sc1,.str hc1,.sl 4 (bJ bV cc1)]]:=hzs;obtain rfl:z=nI 2:=bQ;exact bM ⟨2,by decide⟩ (bN (by decide))
    ·cbv;repeat'((first|refine .y fun h=>?_|refine .k fun z hz=>?_|refine .z fun zs hzs=>?_|refine cC.i2 ?_|refine cL.i2 ?_|fail)<;>cbv)
     obtain rfl:zs=[.agg [.i 2,.str ha1,.sl 4 (bJ bV ca1)],.agg [.i 2,.str hb1,.sl 4 (bJ bV cb1)],.agg [.i 2,.str hc1,.sl 4 (bJ bV cc1)]]:=hzs;obtain rfl:z=nI 3:=bQ;refine dV (Gh.plain 4 rfl) ?_;cbv;exact bM ⟨3,by decide⟩ (bN (by decide))
    ·cbv;repeat'((first|refine .n fun h=>?_|refine .k fun z hz=>?_|refine .o ?_|refine .l fun ys hys hyl=>?_|refine .zl fun zs hzs hzl=>?_|refine And.intro ?_ ?_|fail)<;>cbv)
     all_goals
      obtain rfl:zs=bJ iL (L.set i ⟨⟨nq1,cq1,sq1,frm1,to1,bq1,pq1,iq1,lq1⟩,4,⟨2,ha1,ca1⟩,⟨2,hb1,cb1⟩,⟨2,hc1,cc1⟩⟩):=jO hzs hys (by assumption) (by assumption) rfl bQ hii
      (refine .r9 (Gh.plain 5 rfl) ?_;cbv;exact .inl (.g9 hK))
 ·rw[aE (by assumption:¬e=0)]at hL';subst hL'
  (refine .q9 ?_;cbv;exact .inl (.f9 hK))
def Hf:dO:=spec (fun i:Rg×At=>[I8 i.1,Pm i.2]) (fun _=>[]) (fun i=>KQ i) (fun i=>W6 (kM i.1 i.2)) fun _=>[]
theorem TH {P:bI}{f:Nat}(h0:bK P f (qA 0)) (h1:bK P f (qA 1)) (h2:bK P f (qA 2)) (h3:bK P f (qA 3)) (h4:bK P f (qA 4)) (h5:bK P f (qA 5)):bK P f Hf:=by
 intro args H K hc;obtain⟨i,rfl,rfl,hp,hK⟩:=hc;have hk:=hp.kind;have h:i.2.kind=0∨i.2.kind=1∨i.2.kind=2∨i.2.kind=3∨i.2.kind=4∨i.2.kind=5:=by omega
 rcases h with h|h|h|h|h|h
 ·exact h0 _ _ K ⟨i,rfl,rfl,⟨h,hp⟩,hK⟩
 ·exact h1 _ _ K ⟨i,rfl,rfl,⟨h,hp⟩,hK⟩
 ·exact h2 _ _ K ⟨i,rfl,rfl,⟨h,hp⟩,hK⟩
 ·exact h3 _ _ K ⟨i,rfl,rfl,⟨h,hp⟩,hK⟩
 ·exact h4 _ _ K ⟨i,rfl,rfl,⟨h,hp⟩,hK⟩
 ·exact h5 _ _ K ⟨i,rfl,rfl,⟨h,hp⟩,hK⟩
set_option maxHeartbeats 8000000
def Un:Dp→List AV
 |⟨number,seller,buyer,house,frm,to,boxes,state,rel⟩=>[.str number,.str seller,.str buyer,.str house,.str frm,.str to,.sl 1 (bJ .str boxes),.i state,.bl rel]
def gO:Dp→AR
 |⟨number,seller,buyer,house,frm,to,boxes,state,rel⟩=>(.str number,.ptr 0 0,[.blk 136 [.str number,.str seller,.str buyer,.str house,.str frm,.str to,.sl 1 (bJ .str boxes),.i state,.bl rel]])
def XR (d:Dp):List cG:=[.blk 136 (Un d)]
def M0 (C:Cr) (i:Nat) (d:Dp):List cG:=[.blk 118 [.str C.name,.hd 1,.ph 2,.ptr 3 0,.ptr 5 0,.hd 7],.map 70 (bJ iP C.parties),.pool 116 (bJ gO C.deals) [(i,.ptr 8 0)],.blk 122 [.str C.reg.carrier,.ph 4],.pool 120 (bJ fO C.reg.bills) [],.blk 174 [.ph 6],.pool 172 (bJ gF C.cust) [],.tip 77 5 (bJ dB C.deliv),.blk 136 (Un d)]
structure HQ where
 C:Cr
 i:Nat
 d:Dp
 l:dR
 day:Int
structure Yv (q:HQ):Prop where
 num:q.d.number.size≤1000
 few:q.C.reg.bills.length≤256
 all:∀b∈q.C.reg.bills,inB b
def gL (κ:Int→Prop) (f:HQ→Cr×Dp×List dR):dO:=spec (fun q:HQ=>[.ptr 0 0,.ptr 8 0,eM q.l,.i q.day]) (fun q=>M0 q.C q.i q.d) (fun q=>κ q.l.kind∧Yv q) (fun _=>.hd 9) fun q=>M0 (f q).1 q.i (f q).2.1++[.row 58 14 (bJ eM (f q).2.2)]
def Cq:dO:=spec (fun _:Dp=>[.ptr 0 0]) XR (fun d=>d.number.size≤1000) (fun d=>.str (gE d.number)) XR
theorem HM (P:bI):bO P Uz Cq:=by
 intro args H K hc;obtain⟨⟨number,seller,buyer,house,frm,to,boxes,state,rel⟩,rfl,rfl,hp,hK⟩:=hc;refine⟨cM,?_⟩;dsimp only at hp hK⊢;have z3:(ByteArray.mk (Array.mk [98,108,45])).size=3:=rfl;obtain⟨bn,hbn⟩:∃b,b=Pk++number:=⟨_,rfl⟩
 replace hK:K (.str (Pk++number)) (XR ⟨number,seller,buyer,house,frm,to,boxes,state,rel⟩):=hK;rw[←hbn]at hK;cbv;repeat'((first|refine .u fun u hu hul=>?_|fail)<;>cbv)
 obtain rfl:u=bn:=by rw[hbn];assumption
 (refine .q9 ?_;cbv;exact .inl (.f9 hK))
def BE (q:HQ):Cr×Dp×List dR:=(q.C,if q.d.house≠eS∧q.l.frm=q.d.house then Mx q.d else q.d,[])
theorem Bn (P:bI):bO P Zy (gL (fun k=>k=19) BE):=by
 intro args H K hc;obtain⟨⟨⟨name,parties,deals,⟨rc,rL⟩,cust,deliv⟩,i,⟨number,seller,buyer,house,dfrm,dto,dboxes,state,rel⟩,⟨frm,to,lnumber,kind,ack,deal,text,party,index,day0,cur,amt,docs,boxes⟩,day⟩,rfl,rfl,hp,hK⟩:=hc;refine⟨cM,?_⟩;dsimp only at hp hK⊢;obtain⟨r,hr⟩:∃r,r=BE ⟨⟨name,parties,deals,⟨rc,rL⟩,cust,deliv⟩,i,⟨number,seller,buyer,house,dfrm,dto,dboxes,state,rel⟩,⟨frm,to,lnumber,kind,ack,deal,text,party,index,day0,cur,amt,docs,boxes⟩,day⟩:=⟨_,rfl⟩
 rw[←hr]at hK;unfold BE at hr;dsimp only at hr;cbv;repeat'((first|refine .mk (fun h=>?_) fun h=>?_|fail)<;>cbv)
 ·rw[aE (fun h=>h.1 (by assumption))]at hr;subst hr;refine dE (Gh.adopt 8 58 14 rfl) ?_;cbv
  (refine .q9 ?_;cbv;exact .inl (eV.sel [0,1,2,3,4,5,6,7,8,10] _ _ (by rfl) (by rfl) (by decide) (by rfl) cM (by rfl) (by rfl) (Le.refl _) (kF.refl _) hK))
 ·rw[aF ⟨by assumption,by assumption⟩]at hr;subst hr;refine dE (Gh.adopt 8 58 14 rfl) ?_;cbv
  (refine .q9 ?_;cbv;exact .inl (eV.sel [0,1,2,3,4,5,6,7,8,10] _ _ (by rfl) (by rfl) (by decide) (by rfl) cM (by rfl) (by rfl) (Le.refl _) (kF.refl _) hK))
 ·rw[aE (fun h=>absurd h.2 (by assumption))]at hr;subst hr;refine dE (Gh.adopt 8 58 14 rfl) ?_;cbv
  (refine .q9 ?_;cbv;exact .inl (eV.sel [0,1,2,3,4,5,6,7,8,10] _ _ (by rfl) (by rfl) (by decide) (by rfl) cM (by rfl) (by rfl) (Le.refl _) (kF.refl _) hK))
def qI (q:HQ):Cr×Dp×List dR:=let r:=sJ fN q.C q.d q.l q.day;(r.1,q.d,r.2)
def qX (q:HQ):Cr×Dp×List dR:=let r:=sD fN q.C q.d q.l q.day;(r.1,q.d,r.2)
def mV (q:HQ):Cr×Dp×List dR:=let r:=Au fN q.C q.d q.l q.day;(r.1,q.d,r.2)
theorem A7 {q:HQ}(h:jV q.C.reg (cK 3 q.d q.l q.day)≠0):qI q=(q.C,q.d,eW fN q.l):=by
 have:sJ fN q.C q.d q.l q.day=(q.C,eW fN q.l):=aF h;unfold qI;rw[this]
theorem vH {q:HQ}(h:jV q.C.reg (cK 3 q.d q.l q.day)=0):qI q=({ q.C with reg:=xU q.C.reg (cK 3 q.d q.l q.day) },q.d,[]):=by
 have:sJ fN q.C q.d q.l q.day=({ q.C with reg:=xU q.C.reg (cK 3 q.d q.l q.day) },[]):=aE (fun h2=>h2 h);unfold qI;rw[this]
theorem Aw {q:HQ}(h:jV q.C.reg (cK 4 q.d q.l q.day)≠0):qX q=(q.C,q.d,eW fN q.l):=by
 have:sD fN q.C q.d q.l q.day=(q.C,eW fN q.l):=aF h;unfold qX;rw[this]
theorem vY {q:HQ}(h:jV q.C.reg (cK 4 q.d q.l q.day)=0):qX q=({ q.C with reg:=xU q.C.reg (cK 4 q.d q.l q.day) },q.d,[{ nR with to:=q.l.frm,kind:=25,index:=q.l.index }]):=by
 have:sD fN q.C q.d q.l q.day=({ q.C with reg:=xU q.C.reg (cK 4 q.d q.l q.day) },[{ nR with to:=q.l.frm,kind:=25,index:=q.l.index }]):=aE (fun h2=>h2 h);unfold qX;rw[this]
theorem As {q:HQ}(h:lF q.C.parties q.l.party=false∨q.l.party=q.l.frm∨jV q.C.reg (cK 1 q.d q.l q.day)≠0):mV q=(q.C,q.d,eW fN q.l):=by
 have:Au fN q.C q.d q.l q.day=(q.C,eW fN q.l):=aF h;unfold mV;rw[this]
theorem LU {q:HQ}(h0:lF q.C.parties q.l.party=true) (h1:¬q.l.party=q.l.frm) (h:jV q.C.reg (cK 1 q.d q.l q.day)=0):mV q=({ q.C with reg:=xU q.C.reg (cK 1 q.d q.l q.day) },q.d,[{ nR with to:=q.l.party,kind:=9,index:=q.l.index,party:=q.l.party }]):=by
 have:Au fN q.C q.d q.l q.day=({ q.C with reg:=xU q.C.reg (cK 1 q.d q.l q.day) },[{ nR with to:=q.l.party,kind:=9,index:=q.l.index,party:=q.l.party }]):=aE (fun h2=>by
  rcases h2 with h2|h2|h2
  ·rw[h0]at h2;cases h2
  ·exact h1 h2
  ·exact h2 h)
 unfold mV;rw[this]
theorem CF {L:List bH}{s:bH}{i:Nat}(h:lM id L s=some i):lF L s=true:=by
 obtain⟨y,hy,he⟩:=eL h;exact List.any_eq_true.2 ⟨y,aC hy,by simpa using he⟩
theorem uZ {L:List bH}{s:bH}(h:lM id L s=none):lF L s=false:=by
 unfold lF;rw[List.any_eq_false];intro y hy;unfold lM at h;rw[List.findIdx?_eq_none_iff]at h;have:=h y hy;simpa using this
theorem MA {R:Rg}{d:Dp}{l:dR}{day:Int}:jV R (cK 3 d l day)=eO R.bills ⟨gE d.number,l.index,0,l.frm,0,0,false,false⟩:=rfl
theorem UA {R:Rg}{d:Dp}{l:dR}{day:Int}:xU R (cK 3 d l day)=⟨R.carrier,gI R.bills ⟨gE d.number,l.index,0,l.frm,0,0,false,false⟩ (JJ ⟨gE d.number,l.index,0,l.frm,0,0,false,false⟩)⟩:=rfl
theorem M5 {R:Rg}{d:Dp}{l:dR}{day:Int}:jV R (cK 4 d l day)=eO R.bills ⟨gE d.number,l.index,0,l.frm,3,day,true,false⟩:=rfl
theorem UO {R:Rg}{d:Dp}{l:dR}{day:Int}:xU R (cK 4 d l day)=⟨R.carrier,gI R.bills ⟨gE d.number,l.index,0,l.frm,3,day,true,false⟩ (PL ⟨gE d.number,l.index,0,l.frm,3,day,true,false⟩)⟩:=rfl
theorem NR {R:Rg}{d:Dp}{l:dR}{day:Int}:jV R (cK 1 d l day)=eO R.bills ⟨gE d.number,l.index,-1,l.frm,0,day,true,iH l.frm l.party⟩:=rfl
theorem UC {R:Rg}{d:Dp}{l:dR}{day:Int}:xU R (cK 1 d l day)=⟨R.carrier,gI R.bills ⟨gE d.number,l.index,-1,l.frm,0,day,true,iH l.frm l.party⟩ (uC l.index (tK l.frm l.party day))⟩:=rfl
theorem Ib (P:bI) (hb:bK P 120 Cq) (hlo:bK P 46 MS) (ho:bK P 121 KB):bO P YU (gL (fun k=>k=23) qI):=by
 intro args H K hc;obtain⟨⟨⟨name,parties,deals,⟨rc,rL⟩,cust,deliv⟩,i,⟨number,seller,buyer,house,dfrm,dto,dboxes,state,rel⟩,⟨frm,to,lnumber,kind,ack,deal,text,party,index,day0,cur,amt,docs,boxes⟩,day⟩,rfl,rfl,hp,hK⟩:=hc;refine⟨cM,?_⟩;dsimp only at hp hK⊢;obtain⟨hk,hnum,hfew,hall⟩:=hp;dsimp only at hk hnum hfew hall;subst hk;have hok:mH 23:=by unfold mH;decide
 obtain⟨r,hr⟩:∃r,r=qI ⟨⟨name,parties,deals,⟨rc,rL⟩,cust,deliv⟩,i,⟨number,seller,buyer,house,dfrm,dto,dboxes,state,rel⟩,⟨frm,to,lnumber,23,ack,deal,text,party,index,day0,cur,amt,docs,boxes⟩,day⟩:=⟨_,rfl⟩
 rw[←hr]at hK;obtain⟨bn,hbn⟩:∃b,b=gE number:=⟨_,rfl⟩
 obtain⟨e,he⟩:∃e,e=eO rL ⟨bn,index,0,frm,0,0,false,false⟩:=⟨_,rfl⟩
 obtain⟨M,hM⟩:∃M,M=gI rL ⟨bn,index,0,frm,0,0,false,false⟩ (JJ ⟨bn,index,0,frm,0,0,false,false⟩):=⟨_,rfl⟩
 have hr1:e≠0→r=(⟨name,parties,deals,⟨rc,rL⟩,cust,deliv⟩,⟨number,seller,buyer,house,dfrm,dto,dboxes,state,rel⟩,eW fN ⟨frm,to,lnumber,23,ack,deal,text,party,index,day0,cur,amt,docs,boxes⟩):=fun h=>by
  rw[hr];refine A7 ?_;rw[MA];rw[he,hbn]at h;exact h
 have hr2:e=0→r=(⟨name,parties,deals,⟨rc,M⟩,cust,deliv⟩,⟨number,seller,buyer,house,dfrm,dto,dboxes,state,rel⟩,[]):=fun h=>by
  rw[hr,hM];refine(vH (by rw[MA];rw[he,hbn]at h;exact h)).trans ?_;rw[UA,hbn]
 have hM0:e≠0→M=rL:=fun h=>by rw[hM];exact aE (he ▸ h)
 clear hr;cbv
 all_goals
  (refine fW hb (⟨number,seller,buyer,house,dfrm,dto,dboxes,state,rel⟩:Dp) [8] hnum ?_;try dsimp only)
  rw[←hbn];cbv
  (refine fW hlo ((⟨rc,rL⟩,⟨bn,index,0,frm,0,0,false,false⟩):Rg×Ak) [3,4] ⟨fun b hb=>(hall b hb).1,rfl,rfl,rfl,rfl,rfl⟩ ?_;try dsimp only)
  rw[←he,←hM];cbv;repeat'((first|refine .mk (fun h=>?_) fun h=>?_|fail)<;>cbv)
 all_goals first
 |(have hr:=hr2 (by assumption)
   subst hr;refine dE (Gh.adopt 8 58 14 rfl) ?_;cbv
   (refine .q9 ?_;cbv;exact .inl (eV.sel [0,1,2,3,4,5,6,7,8,10] _ _ (by rfl) (by rfl) (by decide) (by rfl) cM (by rfl) (by rfl) (Le.refl _) (kF.refl _) hK)))
 |(obtain rfl:M=rL:=hM0 (by assumption)
   have hr:=hr1 (by assumption);subst hr
   (refine Bg ho (⟨frm,to,lnumber,23,ack,deal,text,party,index,day0,cur,amt,docs,boxes⟩:dR) hok ?_;try dsimp only)
   cbv
   (refine .q9 ?_;cbv;exact .inl (eV.sel [0,1,2,3,4,5,6,7,8,10] _ _ (by rfl) (by rfl) (by decide) (by rfl) cM (by rfl) (by rfl) (Le.refl _) (kF.refl _) hK)))
theorem Bq (P:bI) (hb:bK P 120 Cq) (hrp:bK P 123 AK) (ho:bK P 121 KB):bO P Zz (gL (fun k=>k=24) qX):=by
 intro args H K hc;obtain⟨⟨⟨name,parties,deals,⟨rc,rL⟩,cust,deliv⟩,i,⟨number,seller,buyer,house,dfrm,dto,dboxes,state,rel⟩,⟨frm,to,lnumber,kind,ack,deal,text,party,index,day0,cur,amt,docs,boxes⟩,day⟩,rfl,rfl,hp,hK⟩:=hc;refine⟨cM,?_⟩;dsimp only at hp hK⊢;obtain⟨hk,hnum,hfew,hall⟩:=hp;dsimp only at hk hnum hfew hall;subst hk;have hok:mH 24:=by unfold mH;decide
 obtain⟨r,hr⟩:∃r,r=qX ⟨⟨name,parties,deals,⟨rc,rL⟩,cust,deliv⟩,i,⟨number,seller,buyer,house,dfrm,dto,dboxes,state,rel⟩,⟨frm,to,lnumber,24,ack,deal,text,party,index,day0,cur,amt,docs,boxes⟩,day⟩:=⟨_,rfl⟩
 rw[←hr]at hK;obtain⟨bn,hbn⟩:∃b,b=gE number:=⟨_,rfl⟩
 obtain⟨e,he⟩:∃e,e=eO rL ⟨bn,index,0,frm,3,day,true,false⟩:=⟨_,rfl⟩
 obtain⟨M,hM⟩:∃M,M=gI rL ⟨bn,index,0,frm,3,day,true,false⟩ (PL ⟨bn,index,0,frm,3,day,true,false⟩):=⟨_,rfl⟩
 have hr1:e≠0→r=(⟨name,parties,deals,⟨rc,rL⟩,cust,deliv⟩,⟨number,seller,buyer,house,dfrm,dto,dboxes,state,rel⟩,eW fN ⟨frm,to,lnumber,24,ack,deal,text,party,index,day0,cur,amt,docs,boxes⟩):=fun h=>by
  rw[hr];refine Aw ?_;rw[M5];rw[he,hbn]at h;exact h
 have hr2:e=0→r=(⟨name,parties,deals,⟨rc,M⟩,cust,deliv⟩,⟨number,seller,buyer,house,dfrm,dto,dboxes,state,rel⟩,[⟨eS,frm,0,25,0,eS,eS,eS,index,0,eS,0,[],[]⟩]):=fun h=>by
  rw[hr,hM];refine(vY (by rw[M5];rw[he,hbn]at h;exact h)).trans ?_;rw[UO,hbn];rfl
 have hM0:e≠0→M=rL:=fun h=>by rw[hM];exact aE (he ▸ h)
 clear hr;cbv
 all_goals
  (refine fW hb (⟨number,seller,buyer,house,dfrm,dto,dboxes,state,rel⟩:Dp) [8] hnum ?_;try dsimp only)
  rw[←hbn];cbv
  (refine fW hrp ((⟨rc,rL⟩,⟨bn,index,0,frm,3,day,true,false⟩):Rg×Ak) [3,4] ⟨fun b hb=>(hall b hb).1,rfl,rfl,rfl,rfl⟩ ?_;try dsimp only)
  rw[←he,←hM];cbv;repeat'((first|refine .mk (fun h=>?_) fun h=>?_|fail)<;>cbv)
 all_goals first
 |(have hr:=hr2 (by assumption)
   subst hr;refine dE (Gh.leAt 10 (.row 58 14 (bJ eM [⟨eS,frm,0,25,0,eS,eS,eS,index,0,eS,0,[],[]⟩])) rfl (tA Bc)) ?_;cbv
   (refine .q9 ?_;cbv;exact .inl (eV.sel [0,1,2,3,4,5,6,7,8,10] _ _ (by rfl) (by rfl) (by decide) (by rfl) cM (by rfl) (by rfl) (Le.refl _) (kF.refl _) hK)))
 |(obtain rfl:M=rL:=hM0 (by assumption)
   have hr:=hr1 (by assumption);subst hr
   (refine Bg ho (⟨frm,to,lnumber,24,ack,deal,text,party,index,day0,cur,amt,docs,boxes⟩:dR) hok ?_;try dsimp only)
   cbv
   (refine .q9 ?_;cbv;exact .inl (eV.sel [0,1,2,3,4,5,6,7,8,10] _ _ (by rfl) (by rfl) (by decide) (by rfl) cM (by rfl) (by rfl) (Le.refl _) (kF.refl _) hK)))
theorem BA (P:bI) (hb:bK P 120 Cq) (hen:bK P 119 A5) (ho:bK P 121 KB):bO P YJ (gL (fun k=>k=8) mV):=by
 intro args H K hc;obtain⟨⟨⟨name,parties,deals,⟨rc,rL⟩,cust,deliv⟩,i,⟨number,seller,buyer,house,dfrm,dto,dboxes,state,rel⟩,⟨frm,to,lnumber,kind,ack,deal,text,party,index,day0,cur,amt,docs,boxes⟩,day⟩,rfl,rfl,hp,hK⟩:=hc;refine⟨cM,?_⟩;dsimp only at hp hK⊢;obtain⟨hk,hnum,hfew,hall⟩:=hp;dsimp only at hk hnum hfew hall;subst hk;have hok:mH 8:=by unfold mH;decide
 obtain⟨r,hr⟩:∃r,r=mV ⟨⟨name,parties,deals,⟨rc,rL⟩,cust,deliv⟩,i,⟨number,seller,buyer,house,dfrm,dto,dboxes,state,rel⟩,⟨frm,to,lnumber,8,ack,deal,text,party,index,day0,cur,amt,docs,boxes⟩,day⟩:=⟨_,rfl⟩
 rw[←hr]at hK;obtain⟨bn,hbn⟩:∃b,b=gE number:=⟨_,rfl⟩
 obtain⟨e,he⟩:∃e,e=eO rL ⟨bn,index,-1,frm,0,day,true,iH frm party⟩:=⟨_,rfl⟩
 obtain⟨M,hM⟩:∃M,M=gI rL ⟨bn,index,-1,frm,0,day,true,iH frm party⟩ (uC index (tK frm party day)):=⟨_,rfl⟩
 have hr1:lF parties party=false∨party=frm∨e≠0→r=(⟨name,parties,deals,⟨rc,rL⟩,cust,deliv⟩,⟨number,seller,buyer,house,dfrm,dto,dboxes,state,rel⟩,eW fN ⟨frm,to,lnumber,8,ack,deal,text,party,index,day0,cur,amt,docs,boxes⟩):=fun h=>by
  rw[hr];refine As ?_;refine h.imp id (Or.imp id fun h=>?_);rw[NR];rw[he,hbn]at h;exact h
 have hr2:lF parties party=true→¬party=frm→e=0→r=(⟨name,parties,deals,⟨rc,M⟩,cust,deliv⟩,⟨number,seller,buyer,house,dfrm,dto,dboxes,state,rel⟩,[⟨eS,party,0,9,0,eS,eS,party,index,0,eS,0,[],[]⟩]):=fun h0 h1 h=>by
  rw[hr,hM];refine(LU h0 h1 (by rw[NR];rw[he,hbn]at h;exact h)).trans ?_;rw[UC,hbn];rfl
 have hM0:e≠0→M=rL:=fun h=>by rw[hM];exact aE (he ▸ h)
 clear hr;obtain⟨wr,hwr⟩:∃w,w=iH frm party:=⟨_,rfl⟩
 rw[←hwr]at he hM;cbv;refine oO (fun j hj=>?_) fun hn=>?_
 rotate_left
 ·have hr:=hr1 (.inl (uZ hn));subst hr;cbv
  all_goals
    (refine Bg ho (⟨frm,to,lnumber,8,ack,deal,text,party,index,day0,cur,amt,docs,boxes⟩:dR) hok ?_;try dsimp only)
    cbv
    (refine .q9 ?_;cbv;exact .inl (eV.sel [0,1,2,3,4,5,6,7,8,10] _ _ (by rfl) (by rfl) (by decide) (by rfl) cM (by rfl) (by rfl) (Le.refl _) (kF.refl _) hK))
 ·have hin:=CF hj;clear hj;cbv;repeat'((first|refine .mk (fun h=>?_) fun h=>?_|fail)<;>cbv)
  all_goals first
  |(have hr:=hr1 (.inr (.inl (by assumption)))
    subst hr
    (refine Bg ho (⟨frm,to,lnumber,8,ack,deal,text,party,index,day0,cur,amt,docs,boxes⟩:dR) hok ?_;try dsimp only)
    cbv
    (refine .q9 ?_;cbv;exact .inl (eV.sel [0,1,2,3,4,5,6,7,8,10] _ _ (by rfl) (by rfl) (by decide) (by rfl) cM (by rfl) (by rfl) (Le.refl _) (kF.refl _) hK)))
  |((refine fW hb (⟨number,seller,buyer,house,dfrm,dto,dboxes,state,rel⟩:Dp) [8] hnum ?_;try dsimp only)
    rw[←hbn];cbv
    (refine fW hen ((⟨rc,rL⟩,⟨bn,index,-1,frm,0,day,true,wr⟩,party):Rg×Ak×bH) [3,4] ⟨fun b hb=>(hall b hb).1,rfl,rfl,rfl,hwr⟩ ?_;try dsimp only)
    rw[←he,←hM];cbv;repeat'((first|refine .mk (fun h=>?_) fun h=>?_|fail)<;>cbv))
  all_goals first
  |(have hr:=hr2 hin (by assumption) (by assumption)
    subst hr;refine dE (Gh.leAt 10 (.row 58 14 (bJ eM [⟨eS,party,0,9,0,eS,eS,party,index,0,eS,0,[],[]⟩])) rfl (tA Bc)) ?_;cbv
    (refine .q9 ?_;cbv;exact .inl (eV.sel [0,1,2,3,4,5,6,7,8,10] _ _ (by rfl) (by rfl) (by decide) (by rfl) cM (by rfl) (by rfl) (Le.refl _) (kF.refl _) hK)))
  |(obtain rfl:M=rL:=hM0 (by assumption)
    have hr:=hr1 (.inr (.inr (by assumption)));subst hr
    (refine Bg ho (⟨frm,to,lnumber,8,ack,deal,text,party,index,day0,cur,amt,docs,boxes⟩:dR) hok ?_;try dsimp only)
    cbv
    (refine .q9 ?_;cbv;exact .inl (eV.sel [0,1,2,3,4,5,6,7,8,10] _ _ (by rfl) (by rfl) (by decide) (by rfl) cM (by rfl) (by rfl) (Le.refl _) (kF.refl _) hK)))
def PY (n:bH) (day:Int) (l:dR):dR:={ l with deal:=n,day:=day }
def lZ (n:bH) (day:Int) (l:List dR) (k:Nat):List dR:=cI n day (l.take k)++l.drop k
def qT:dO:=spec (fun q:List dR×Dp×Int=>[.hd 0,.ptr 1 0,.i q.2.2]) (fun q=>[.row 58 14 (bJ eM q.1),.blk 136 (Un q.2.1)]) (fun q=>q.1.length≤1000) (fun _=>.hd 0) fun q=>[.row 58 14 (bJ eM (cI q.2.1.number q.2.2 q.1)),.blk 136 (Un q.2.1)]
theorem Cx {α:Type}(f:α→AV) (L:List α) (k:Nat) (x:α):(bJ f L).set k (f x)=bJ f (L.set k x):=by rw[dX,dX,List.map_set]
theorem QI {α:Type}{L:List α}{k:Nat}{y:α}(x:α) (h:L[k]?=some y):(L.set k x)[k]?=some x:=by
 obtain⟨hl,_⟩:=aA.1 h;rw[aQ hl]
theorem ET {n:bH}{day:Int}{l:List dR}{k:Nat}{x:dR}(h:l[k]?=some x):lZ n day l (k+1)=(lZ n day l k).set k (PY n day x):=by
 obtain⟨hl,rfl⟩:=aA.1 h;unfold lZ;rw[List.set_append_right _ _ (by unfold cI;rw[aJ,aS];omega)];have e:k - (cI n day (l.take k)).length=0:=by unfold cI;rw[aJ,aS];omega
 rw[e,List.drop_eq_getElem_cons hl,List.set_cons_zero,cY h];unfold cI;rw[List.map_append,bG];rfl
theorem Hh (n:bH) (day:Int) (l:List dR) {k:Nat}(h:l.length≤k):lZ n day l k=cI n day l:=by
 unfold lZ;rw[bC h,List.drop_of_length_le h,List.append_nil]
theorem HH (P:bI):bO P YR qT:=by
 intro args H K hc;obtain⟨⟨ls,⟨number,seller,buyer,house,dfrm,dto,dboxes,state,rel⟩,day⟩,rfl,rfl,hp,hK⟩:=hc;refine⟨cM,?_⟩;dsimp only at hp hK⊢;obtain⟨n,hn⟩:∃n:Nat,n=ls.length:=⟨_,rfl⟩
 cbv;repeat'((first|refine .k fun z hz=>?_|fail)<;>cbv)
 refine bS [] (fun p:{ k:Nat // k≤ls.length }=>[(10,.i (nI p.1))]) (fun p=>[.row 58 14 (bJ eM (lZ number day ls p.1)),.blk 136 [.str number,.str seller,.str buyer,.str house,.str dfrm,.str dto,.sl 1 (bJ .str dboxes),.i state,.bl rel]]) (fun p=>fE n p.1) ⟨0,aI _⟩ ?_;rintro ⟨k,hk⟩;dsimp only at hk⊢;obtain⟨L1,hL1⟩:∃l,l=lZ number day ls k:=⟨_,rfl⟩
 rw[←hL1];rcases aL k ls.length with hks|hks
 rotate_left
 ·have e:L1=cI number day ls:=by rw[hL1];exact Hh _ _ _ hks
  subst e;cbv;repeat'((first|refine .n fun h=>?_|fail)<;>cbv)
  (refine .q9 ?_;cbv;exact .inl (.f9 hK))
 obtain⟨l,hx⟩:=cJ hks;have hx1:L1[k]?=some l:=by
  rw[hL1];unfold lZ cI;rw[List.getElem?_append_right (by rw[aJ,aS];omega),aJ,aS,Nat.min_eq_left (by omega),Nat.sub_self,List.getElem?_drop,Nat.add_zero,hx]
 have hsn:=ET (n:=number) (day:=day) hx;rw[←hL1]at hsn;obtain⟨frm,to,lnumber,kind,ack,deal,text,party,index,day0,cur,amt,docs,boxes⟩:=l;replace hsn:lZ number day ls (k+1)=L1.set k ⟨frm,to,lnumber,kind,ack,number,text,party,index,day,cur,amt,docs,boxes⟩:=hsn;have hx2:=QI ⟨frm,to,lnumber,kind,ack,number,text,party,index,day0,cur,amt,docs,boxes⟩ hx1;obtain⟨L2,hL2⟩:∃l,l=L1.set k ⟨frm,to,lnumber,kind,ack,number,text,party,index,day0,cur,amt,docs,boxes⟩:=⟨_,rfl⟩
 rw[←hL2]at hx2;have hsn2:lZ number day ls (k+1)=L2.set k ⟨frm,to,lnumber,kind,ack,number,text,party,index,day,cur,amt,docs,boxes⟩:=by rw[hL2,List.set_set];exact hsn
 clear hL1 hx hsn;cbv;repeat'((first|refine .e ?_|refine .y fun h=>?_|refine .z fun zs hzs=>?_|fail)<;>cbv)
 obtain rfl:zs=bJ eM L2:=by rw[hL2];exact hzs.trans (Cx eM L1 k ⟨frm,to,lnumber,kind,ack,number,text,party,index,day0,cur,amt,docs,boxes⟩)
 clear hL2 hx1 hzs;cbv;repeat'((first|refine .e ?_|refine .k fun z hz=>?_|refine .z fun zs hzs=>?_|fail)<;>cbv)
 obtain rfl:z=nI (k+1):=bQ;obtain rfl:zs=bJ eM (lZ number day ls (k+1)):=by rw[hsn2];exact hzs.trans (Cx eM L2 k ⟨frm,to,lnumber,kind,ack,number,text,party,index,day,cur,amt,docs,boxes⟩)
 exact bM ⟨k+1,hks⟩ (bN (by omega))
def GJ:dO:=spec (fun d:Dp=>[.rp (Un d) 0]) (fun _=>[]) (fun d=>d.number.size≤1000) (fun d=>.str (gE d.number)) fun _=>[]
theorem Hx (P:bI):bO P Uz GJ:=by
 intro args H K hc;obtain⟨⟨number,seller,buyer,house,frm,to,boxes,state,rel⟩,rfl,rfl,hp,hK⟩:=hc;refine⟨cM,?_⟩;dsimp only at hp hK⊢;have z3:(ByteArray.mk (Array.mk [98,108,45])).size=3:=rfl;obtain⟨bn,hbn⟩:∃b,b=Pk++number:=⟨_,rfl⟩
 replace hK:K (.str (Pk++number)) []:=hK;rw[←hbn]at hK;cbv;repeat'((first|refine .u fun u hu hul=>?_|fail)<;>cbv)
 obtain rfl:u=bn:=by rw[hbn];assumption
 (refine .q9 ?_;cbv;exact .inl (.f9 hK))
structure AQ where
 C:Cr
 i:Nat
 d:Dp
 day:Int
structure ZJ (q:AQ):Prop where
 num:q.d.number.size≤1000
 few:q.C.reg.bills.length≤256
 all:∀b∈q.C.reg.bills,inB b
 bx:q.d.boxes.length≤70
 bz:∀b∈q.d.boxes,b.size≤1000
 day:-9223372036854775808≤q.day∧q.day≤9223372036854775807
def qJ (f:AQ→Cr×Dp×List dR×Int):dO:=spec (fun q:AQ=>[.ptr 0 0,.ptr 8 0,.i q.day]) (fun q=>M0 q.C q.i q.d) ZJ (fun q=>.tup [.hd 9,.i (f q).2.2.2]) fun q=>M0 (f q).1 q.i (f q).2.1++[.row 58 14 (bJ eM (f q).2.2.1)]
def F8 (q:AQ):Cr×Dp×List dR×Int:=(q.C,wW 3 q.d,[{ nR with to:=q.d.buyer,kind:=26,boxes:=q.d.boxes }],0)
def sB (q:AQ):Cr×Dp×List dR×Int:=if gQ ⟨q.C.reg,gS q.C.name q.d q.day,q.d.seller⟩≠0 then (q.C,q.d,[],gQ ⟨q.C.reg,gS q.C.name q.d q.day,q.d.seller⟩)
 else ({ q.C with reg:=kD ⟨q.C.reg,gS q.C.name q.d q.day,q.d.seller⟩ },wW 2 q.d,[{ nR with to:=q.d.seller,kind:=5,docs:=[eY (gS q.C.name q.d q.day)] }],0)
theorem GN (P:bI) (hc1:bK P 87 (mD 1 16)):bO P Zd (qJ F8):=by
 intro args H K hc;obtain⟨⟨⟨name,parties,deals,⟨rc,rL⟩,cust,deliv⟩,i,⟨number,seller,buyer,house,dfrm,dto,dboxes,state,rel⟩,day⟩,rfl,rfl,hp,hK⟩:=hc;refine⟨cM,?_⟩;dsimp only at hp hK⊢;obtain⟨hnum,hfew,hall,hbx,hmk,hday⟩:=hp;dsimp only at hnum hfew hall hbx hmk hday;obtain⟨r,hr⟩:∃r,r=F8 ⟨⟨name,parties,deals,⟨rc,rL⟩,cust,deliv⟩,i,⟨number,seller,buyer,house,dfrm,dto,dboxes,state,rel⟩,day⟩:=⟨_,rfl⟩
 rw[←hr]at hK;replace hr:r=(⟨name,parties,deals,⟨rc,rL⟩,cust,deliv⟩,⟨number,seller,buyer,house,dfrm,dto,dboxes,3,rel⟩,[⟨eS,buyer,0,26,0,eS,eS,eS,0,0,eS,0,[],dboxes⟩],0):=hr;cbv
 all_goals
  (refine ZN hc1 _ ⟨by rw[cD];unfold maxLen;omega,by rw[cD];omega⟩ ?_;try dsimp only)
  cbv
 all_goals
  subst hr;refine dE (Gh.leAt 9 (.row 58 14 (bJ eM [⟨eS,buyer,0,26,0,eS,eS,eS,0,0,eS,0,[],dboxes⟩])) rfl (tA Bc)) ?_;cbv
  (refine .q9 ?_;cbv;exact .inl (.f9 hK))
theorem G7 (P:bI) (hb:bK P 120 GJ) (hc1:bK P 87 (mD 1 16)) (his:bK P 124 HB) (hla:bK P 125 GC):bO P Y2 (qJ sB):=by
 intro args H K hc;obtain⟨⟨⟨name,parties,deals,⟨rc,rL⟩,cust,deliv⟩,i,⟨number,seller,buyer,house,dfrm,dto,dboxes,state,rel⟩,day⟩,rfl,rfl,hp,hK⟩:=hc;refine⟨cM,?_⟩;dsimp only at hp hK⊢;obtain⟨hnum,hfew,hall,hbx,hmk,hday⟩:=hp;dsimp only at hnum hfew hall hbx hmk hday;obtain⟨r,hr⟩:∃r,r=sB ⟨⟨name,parties,deals,⟨rc,rL⟩,cust,deliv⟩,i,⟨number,seller,buyer,house,dfrm,dto,dboxes,state,rel⟩,day⟩:=⟨_,rfl⟩
 rw[←hr]at hK;obtain⟨bn,hbn⟩:∃b,b=gE number:=⟨_,rfl⟩
 obtain⟨e,he⟩:∃e,e=gQ ⟨⟨rc,rL⟩,⟨bn,name,seller,dfrm,dto,dboxes,[],day,true⟩,seller⟩:=⟨_,rfl⟩
 obtain⟨⟨rc2,M⟩,hM⟩:∃R,R=kD ⟨⟨rc,rL⟩,⟨bn,name,seller,dfrm,dto,dboxes,[],day,true⟩,seller⟩:=⟨_,rfl⟩
 obtain⟨⟨dk,dn1,di,dfs⟩,hdc⟩:∃q,q=eY ⟨bn,name,seller,dfrm,dto,dboxes,[],day,true⟩:=⟨_,rfl⟩
 have hr1:e≠0→r=(⟨name,parties,deals,⟨rc,rL⟩,cust,deliv⟩,⟨number,seller,buyer,house,dfrm,dto,dboxes,state,rel⟩,[],e):=fun h=>by
  rw[hr];rw[he,hbn]at h;refine(aF h).trans ?_;rw[he,hbn];rfl
 have hr2:e=0→r=(⟨name,parties,deals,⟨rc2,M⟩,cust,deliv⟩,⟨number,seller,buyer,house,dfrm,dto,dboxes,2,rel⟩,[⟨eS,seller,0,5,0,eS,eS,eS,0,0,eS,0,[⟨dk,dn1,di,dfs⟩],[]⟩],0):=fun h=>by
  rw[hr];rw[he,hbn]at h;refine(aE (fun h2=>h2 h)).trans ?_;rw[hM,hdc,hbn];rfl
 have hM0:e≠0→(⟨rc2,M⟩:Rg)=⟨rc,rL⟩:=fun h=>by rw[hM];exact aE (he ▸ h)
 clear hr;have hIP:Db ⟨⟨rc,rL⟩,⟨bn,name,seller,dfrm,dto,dboxes,[],day,true⟩,seller⟩:=⟨hfew,hall,⟨by dsimp only;omega,aI _⟩⟩
 have hLP:RW ⟨bn,name,seller,dfrm,dto,dboxes,[],day,true⟩:=⟨⟨by dsimp only;omega,hmk⟩,⟨aI _,fun s hs=>by cases hs⟩,hday⟩
 cbv;repeat'((first|refine And.intro ?_ ?_|fail)<;>cbv)
 all_goals
  (refine Ex hb 8 (rest:=[]) (fun _=>(⟨number,seller,buyer,house,dfrm,dto,dboxes,state,rel⟩:Dp)) rfl rfl rfl rfl (fun _=>rfl) (fun x hx=>⟨rfl,hnum,?_⟩);try dsimp only)
  rw[←hbn];cbv;repeat'((first|refine And.intro ?_ ?_|fail)<;>cbv)
 all_goals
  repeat'(first
   |((refine Ex hb 8 (rest:=[]) (fun _=>(⟨number,seller,buyer,house,dfrm,dto,dboxes,state,rel⟩:Dp)) rfl rfl rfl rfl (fun _=>rfl) (fun x hx=>⟨rfl,hnum,?_⟩);try dsimp only)
     rw[←hbn];cbv)
   |((refine ZN hc1 _ ⟨by rw[cD];unfold maxLen;omega,by rw[cD];omega⟩ ?_;try dsimp only)
     cbv))
 all_goals
  refine oM [.ptr 3 0,Ke ⟨bn,name,seller,dfrm,dto,dboxes,[],day,true⟩,.str seller] Bc ?_
  (refine fW his (⟨⟨rc,rL⟩,⟨bn,name,seller,dfrm,dto,dboxes,[],day,true⟩,seller⟩:oV) [3,4] hIP ?_;try dsimp only)
  rw[←he,←hM];cbv;repeat'((first|refine .mk (fun h=>?_) fun h=>?_|fail)<;>cbv)
 all_goals first
 |(obtain⟨rfl,rfl⟩:rc2=rc∧M=rL:=by have:=hM0 (by assumption);cases this;exact⟨rfl,rfl⟩
   have hr:=hr1 (by assumption);subst hr;refine dE (Gh.adopt 6 58 14 rfl) ?_;cbv
   (refine .q9 ?_;cbv;exact .inl (eV.sel [0,1,2,3,4,5,6,7,8,10] _ _ (by rfl) (by rfl) (by decide) (by rfl) cM (by rfl) (by rfl) (Le.refl _) (kF.refl _) hK)))
 |(have hr:=hr2 (by assumption)
   subst hr;refine oM [Ke ⟨bn,name,seller,dfrm,dto,dboxes,[],day,true⟩] Bc ?_
   (refine ZN hla (⟨bn,name,seller,dfrm,dto,dboxes,[],day,true⟩:Bl) hLP ?_;try dsimp only)
   rw[←hdc];cbv)
 all_goals
  refine dE (Gh.leAt 11 (.row 58 14 (bJ eM [⟨eS,seller,0,5,0,eS,eS,eS,0,0,eS,0,[⟨dk,dn1,di,dfs⟩],[]⟩])) rfl (tA Bc)) ?_;cbv
  (refine .q9 ?_;cbv;exact .inl (eV.sel [0,1,2,3,4,5,6,7,8,11] _ _ (by rfl) (by rfl) (by decide) (by rfl) cM (by rfl) (by rfl) (Le.refl _) (kF.refl _) hK))
def UP:List (AV×AV):=[(.i 5,.agg [.i 1,.clo 85 []]),(.i 6,.agg [.i 2,.clo 86 []])]
def AD:List (AV×AV):=[(.i 4,.clo 79 []),(.i 8,.clo 80 []),(.i 20,.clo 81 []),(.i 19,.clo 82 []),(.i 23,.clo 83 []),(.i 24,.clo 84 [])]
def Cf:dO:=spec (fun _:Unit=>[]) (fun _=>[]) (fun _=>True) (fun _=>.hd 0) fun _=>[.map 142 UP]
def rD:dO:=spec (fun _:Unit=>[]) (fun _=>[]) (fun _=>True) (fun _=>.hd 0) fun _=>[.map 131 AD]
theorem KA (P:bI):bO P Zr Cf:=by
 intro args H K hc;obtain⟨u,rfl,rfl,hp,hK⟩:=hc;refine⟨cM,?_⟩;dsimp only at hp hK⊢;cbv
 repeat'(first
  |(refine qL.mk (.inr ⟨by rfl,?_⟩);cbv)
  |(refine Oo.mk fun z hz=>?_;subst hz;cbv)
  |((first|fail)<;>cbv))
 (refine .q9 ?_;cbv;exact .inl (.f9 hK))
theorem Dx (P:bI):bO P YV rD:=by
 intro args H K hc;obtain⟨u,rfl,rfl,hp,hK⟩:=hc;refine⟨cM,?_⟩;dsimp only at hp hK⊢;cbv
 repeat'(first
  |(refine qL.mk (.inr ⟨by rfl,?_⟩);cbv)
  |(refine Oo.mk fun z hz=>?_;subst hz;cbv)
  |((first|fail)<;>cbv))
 (refine .q9 ?_;cbv;exact .inl (.f9 hK))
def yL (C:Cr):List cG:=[.blk 118 [.str C.name,.hd 1,.ph 2,.ptr 3 0,.ptr 5 0,.hd 7],.map 70 (bJ iP C.parties),.pool 116 (bJ gO C.deals) [],.blk 122 [.str C.reg.carrier,.ph 4],.pool 120 (bJ fO C.reg.bills) [],.blk 174 [.ph 6],.pool 172 (bJ gF C.cust) [],.tip 77 5 (bJ dB C.deliv)]
structure Ty (C:Cr):Prop where
 nd:(C.deals.map Dp.number).Nodup
 few:C.reg.bills.length≤256
 all:∀b∈C.reg.bills,inB b
 num:∀d∈C.deals,d.number.size≤1000
 bx:∀d∈C.deals,d.boxes.length≤70
 bz:∀d∈C.deals,∀b∈d.boxes,b.size≤60
structure CQ where
 C:Cr
 kind:Int
 n:Int
 deal:bH
 day:Int
structure UQ (q:CQ):Prop where
 c:Ty q.C
 day:-9223372036854775808≤q.day∧q.day≤9223372036854775807
def xP (κ:Int→Prop):dO:=spec (fun q:CQ=>[.ptr 0 0,.agg [.i q.kind,.i q.n,.str q.deal],.i q.day]) (fun q=>yL q.C) (fun q=>κ q.kind∧UQ q) (fun q=>.tup [.sl 14 (bJ eM (lO eY q.C q.kind q.deal q.day).2.1),.i (lO eY q.C q.kind q.deal q.day).2.2]) fun q=>yL (lO eY q.C q.kind q.deal q.day).1
theorem jJ {z k:Int}{v:AV}{es:List (AV×AV)}{i:Nat}(h:¬z=k):oQ (.i z) ((.i k,v) :: es) i=oQ (.i z) es (i+1):=by
 have e:mQ (.i z) (.i k)=some false:=by
  show (if IntKind.i64=IntKind.i64 then some (z == k) else none)=_;rw[aF rfl];simpa using h
 show (match mQ (.i z) (.i k) with|some true=>_|some false=>oQ (.i z) es (i+1)|none=>_)=_;rw[e]
theorem G1 (P:bI) (hac:bK P 53 Cf):bO P Wq (xP fun k=>¬(k=5∨k=6)):=by
 intro args H K hc;obtain⟨⟨⟨name,parties,deals,⟨rc,rL⟩,cust,deliv⟩,kind,n,deal,day⟩,rfl,rfl,hp,hK⟩:=hc;refine⟨cM,?_⟩;dsimp only at hp hK⊢;obtain⟨hk,⟨hnd,hfew,hall,hnum,hbx,hbz⟩,hday⟩:=hp;dsimp only at hk hnd hfew hall hnum hbx hbz hday;obtain⟨r,hr⟩:∃r,r=lO eY ⟨name,parties,deals,⟨rc,rL⟩,cust,deliv⟩ kind deal day:=⟨_,rfl⟩
 rw[←hr]at hK;have hr:r=(⟨name,parties,deals,⟨rc,rL⟩,cust,deliv⟩,[],1):=hr.trans (aF (by omega));subst hr;cbv;repeat'((first|refine And.intro ?_ ?_|fail)<;>cbv)
 all_goals
  (refine Bg hac () trivial ?_;try dsimp only)
  cbv;repeat'((first|refine And.intro ?_ ?_|fail)<;>cbv)
 all_goals
  refine qL.mk (.inr ⟨by rw[jJ (by omega),jJ (by omega)];rfl,?_⟩);cbv
 all_goals
  refine dE (Gh.adopt 6 58 14 rfl) ?_;cbv;refine dE (Gh.plain 11 rfl) ?_;cbv
  (refine .q9 ?_;cbv;exact .inl (.f9 hK))
theorem L5 {C:Cr}{i:Nat}{d:Dp}{day:Int}(hnd:(C.deals.map Dp.number).Nodup) (hi:lM Dp.number C.deals d.number=some i) (hd:C.deals[i]?=some d):JD C d day=({ C with deals:=C.deals.set i (wW 3 d) },cI d.number day [{ nR with to:=d.buyer,kind:=26,boxes:=d.boxes }],0):=by
 unfold JD qC;rw[nW hnd (wW 3) hi hd]
theorem Pg {C:Cr}{i:Nat}{d:Dp}{day:Int}(hnd:(C.deals.map Dp.number).Nodup) (hi:lM Dp.number C.deals d.number=some i) (hd:C.deals[i]?=some d):uR eY C d day=(let r:=sB ⟨C,i,d,day⟩;({ r.1 with deals:=C.deals.set i r.2.1 },cI d.number day r.2.2.1,r.2.2.2)):=by
 unfold uR sB;dsimp only;by_cases h:gQ ⟨C.reg,gS C.name d day,d.seller⟩≠0
 ·rw[aF h,aF h];dsimp only;have e:C.deals.set i d=C.deals:=by
   obtain⟨hl,rfl⟩:=aA.1 hd;exact List.set_getElem_self hl
  rw[e];rfl
 ·rw[aE h,aE h];unfold qC;dsimp only;rw[nW hnd (wW 2) hi hd]
theorem Ce {C:Cr}{kind:Int}{deal:bH}{day:Int}(hk:kind=5∨kind=6) (h:lM Dp.number C.deals deal=none):lO eY C kind deal day=(C,[],4):=by
 unfold lO;rw[aE (by omega),sM h]
theorem Jz {C:Cr}{kind:Int}{deal:bH}{day:Int}{i:Nat}{d:Dp}(hk:kind=5∨kind=6) (h:lM Dp.number C.deals deal=some i) (hd:C.deals[i]?=some d):lO eY C kind deal day=if d.state≠(if kind=5 then 1 else 2) then (C,[],9) else if kind=5 then uR eY C d day else JD C d day:=by
 unfold lO;rw[aE (by omega),nL h hd]
theorem KT (P:bI) (hac:bK P 53 Cf) (hmc:dH P 86) (hla:bK P 86 (qJ F8)) (hst:bK P 49 qT):bO P Wq (xP fun k=>k=6):=by
 intro args H K hc;obtain⟨⟨⟨name,parties,deals,⟨rc,rL⟩,cust,deliv⟩,kind,n,deal,day⟩,rfl,rfl,hp,hK⟩:=hc;refine⟨cM,?_⟩;dsimp only at hp hK⊢;obtain⟨hk,⟨hnd,hfew,hall,hnum,hbx,hbz⟩,hday⟩:=hp;dsimp only at hk hnd hfew hall hnum hbx hbz hday;subst hk;obtain⟨r,hr⟩:∃r,r=lO eY ⟨name,parties,deals,⟨rc,rL⟩,cust,deliv⟩ 6 deal day:=⟨_,rfl⟩
 rw[←hr]at hK;cbv;repeat'((first|refine And.intro ?_ ?_|fail)<;>cbv)
 all_goals
  (refine Bg hac () trivial ?_;try dsimp only)
  cbv;repeat'((first|refine And.intro ?_ ?_|fail)<;>cbv)
 all_goals
  refine qL.mk (.inl ⟨1,_,_,by rfl,by rfl,?_⟩);cbv
 all_goals
  refine fB Dp.number (fun _=>rfl) (fun i y hai hy hky=>?_) (fun hai=>?_)<;>try dsimp only at *
  rotate_left
  ·have hr:=hr.trans (Ce (.inr rfl) hai);subst hr;cbv
   all_goals
    refine dE (Gh.adopt 6 58 14 rfl) ?_;cbv;refine dE (Gh.plain 11 rfl) ?_;cbv
    (refine .q9 ?_;cbv;exact .inl (.f9 hK))
  ·have hmem:=aC hy;have hn1:=hnum y hmem;have hb1:=hbx y hmem;have hb2:=hbz y hmem;have hr:=hr.trans (Jz (.inr rfl) hai hy);rw[←hky]at hai;have hla2:=L5 (C:=⟨name,parties,deals,⟨rc,rL⟩,cust,deliv⟩) (day:=day) hnd hai hy;rw[hla2]at hr;clear hla2;have hr1:y.state≠2→r=(⟨name,parties,deals,⟨rc,rL⟩,cust,deliv⟩,[],9):=fun h=>hr.trans (aF h)
   have hr2:y.state=2→r=(⟨name,parties,deals.set i (wW 3 y),⟨rc,rL⟩,cust,deliv⟩,[⟨eS,y.buyer,0,26,0,y.number,eS,eS,0,day,eS,0,[],y.boxes⟩],0):=fun h=>hr.trans (aE (fun h2=>h2 h))
   clear hr;obtain⟨number,seller,buyer,house,dfrm,dto,dboxes,state,rel⟩:=y;dsimp only at hky hn1 hb1 hb2 hai hr1 hr2;subst hky;cbv;repeat'((first|refine .mk (fun h=>?_) fun h=>?_|refine And.intro ?_ ?_|fail)<;>cbv)
   ·exact hmc
   ·have hr:=hr2 (by assumption);clear hr1 hr2;subst hr
    (refine fW hla (⟨⟨name,parties,deals,⟨rc,rL⟩,cust,deliv⟩,i,⟨number,seller,buyer,house,dfrm,dto,dboxes,state,rel⟩,day⟩:AQ) [0,1,2,3,4,5,6,7,11] ⟨hn1,hfew,hall,hb1,fun b hb=>by have:=hb2 b hb;omega,hday⟩ ?_;try dsimp only)
    cbv;repeat'((first|refine .y fun h=>?_|fail)<;>cbv)
    (refine fW hst (([⟨eS,buyer,0,26,0,eS,eS,eS,0,0,eS,0,[],dboxes⟩],⟨number,seller,buyer,house,dfrm,dto,dboxes,3,rel⟩,day):List dR×Dp×Int) [12,11] (show (1:Nat)≤1000 by decide) ?_;try dsimp only)
    cbv;refine dE (Gh.back 2 [11] gO ⟨number,seller,buyer,house,dfrm,dto,dboxes,3,rel⟩ rfl hy) ?_;cbv;refine dE (Gh.plain 12 rfl) ?_;cbv
    (refine .q9 ?_;cbv;exact .inl (.f9 hK))
   ·have hr:=hr1 (by assumption);clear hr1 hr2;subst hr;refine dE (Gh.back0 2 [11] gO rfl hy) ?_;cbv;refine dE (Gh.adopt 6 58 14 rfl) ?_;cbv;refine dE (Gh.plain 12 rfl) ?_;cbv
    (refine .q9 ?_;cbv;exact .inl (.f9 hK))
theorem N2 (q:AQ):(∃e,e≠0∧sB q=(q.C,q.d,[],e))∨∃R D,sB q=({ q.C with reg:=R },wW 2 q.d,[⟨eS,q.d.seller,0,5,0,eS,eS,eS,0,0,eS,0,[D],[]⟩],0):=by
 by_cases h:gQ ⟨q.C.reg,gS q.C.name q.d q.day,q.d.seller⟩≠0
 ·exact .inl ⟨_,h,aF h⟩
 ·exact .inr ⟨_,_,aE h⟩
theorem Lx (P:bI) (hac:bK P 53 Cf) (hmc:dH P 85) (hsa:bK P 85 (qJ sB)) (hst:bK P 49 qT):bO P Wq (xP fun k=>k=5):=by
 intro args H K hc;obtain⟨⟨⟨name,parties,deals,⟨rc,rL⟩,cust,deliv⟩,kind,n,deal,day⟩,rfl,rfl,hp,hK⟩:=hc;refine⟨cM,?_⟩;dsimp only at hp hK⊢;obtain⟨hk,⟨hnd,hfew,hall,hnum,hbx,hbz⟩,hday⟩:=hp;dsimp only at hk hnd hfew hall hnum hbx hbz hday;subst hk;obtain⟨r,hr⟩:∃r,r=lO eY ⟨name,parties,deals,⟨rc,rL⟩,cust,deliv⟩ 5 deal day:=⟨_,rfl⟩
 rw[←hr]at hK;cbv;repeat'((first|refine And.intro ?_ ?_|fail)<;>cbv)
 all_goals
  (refine Bg hac () trivial ?_;try dsimp only)
  cbv;repeat'((first|refine And.intro ?_ ?_|fail)<;>cbv)
 all_goals
  refine qL.mk (.inl ⟨0,_,_,by rfl,by rfl,?_⟩);cbv
 all_goals
  refine fB Dp.number (fun _=>rfl) (fun i y hai hy hky=>?_) (fun hai=>?_)<;>try dsimp only at *
  rotate_left
  ·have hr:=hr.trans (Ce (.inl rfl) hai);subst hr;cbv
   all_goals
    refine dE (Gh.adopt 6 58 14 rfl) ?_;cbv;refine dE (Gh.plain 11 rfl) ?_;cbv
    (refine .q9 ?_;cbv;exact .inl (.f9 hK))
  ·have hmem:=aC hy;have hn1:=hnum y hmem;have hb1:=hbx y hmem;have hb2:=hbz y hmem;have hr:=hr.trans (Jz (.inl rfl) hai hy);rw[←hky]at hai;have hla2:=Pg (C:=⟨name,parties,deals,⟨rc,rL⟩,cust,deliv⟩) (day:=day) hnd hai hy;rw[hla2]at hr;clear hla2;have hr1:y.state≠1→r=(⟨name,parties,deals,⟨rc,rL⟩,cust,deliv⟩,[],9):=fun h=>hr.trans (aF h)
   obtain⟨q9,hq9⟩:∃q,q=sB ⟨⟨name,parties,deals,⟨rc,rL⟩,cust,deliv⟩,i,y,day⟩:=⟨_,rfl⟩
   have hr2:y.state=1→r=({ q9.1 with deals:=deals.set i q9.2.1 },cI y.number day q9.2.2.1,q9.2.2.2):=fun h=>by rw[hq9];exact hr.trans (aE (fun h2=>h2 h))
   have hor:(∃e,e≠0∧q9=(⟨name,parties,deals,⟨rc,rL⟩,cust,deliv⟩,y,[],e))∨∃R D,q9=(⟨name,parties,deals,R,cust,deliv⟩,wW 2 y,[⟨eS,y.seller,0,5,0,eS,eS,eS,0,0,eS,0,[D],[]⟩],0):=by
    have:=N2 ⟨⟨name,parties,deals,⟨rc,rL⟩,cust,deliv⟩,i,y,day⟩;rw[←hq9]at this;exact this
   clear hr;obtain⟨number,seller,buyer,house,dfrm,dto,dboxes,state,rel⟩:=y;dsimp only at hky hn1 hb1 hb2 hai hr1 hr2 hor;subst hky;cbv;repeat'((first|refine .mk (fun h=>?_) fun h=>?_|refine And.intro ?_ ?_|fail)<;>cbv)
   ·exact hmc
   ·have hr:=hr2 (by assumption);clear hr1 hr2;rcases hor with ⟨e,he,rfl⟩|⟨⟨rc2,M⟩,⟨dk,dn1,di,dfs⟩,rfl⟩
    ·subst hr
     (refine fW hsa (⟨⟨name,parties,deals,⟨rc,rL⟩,cust,deliv⟩,i,⟨number,seller,buyer,house,dfrm,dto,dboxes,state,rel⟩,day⟩:AQ) [0,1,2,3,4,5,6,7,11] ⟨hn1,hfew,hall,hb1,fun b hb=>by have:=hb2 b hb;omega,hday⟩ ?_;try dsimp only)
     rw[←hq9];cbv;repeat'((first|refine .n fun h=>?_|fail)<;>cbv)
     refine dE (Gh.back 2 [11] gO ⟨number,seller,buyer,house,dfrm,dto,dboxes,state,rel⟩ rfl hy) ?_;cbv;refine dE (Gh.adopt 6 58 14 rfl) ?_;cbv;refine dE (Gh.plain 13 rfl) ?_;cbv
     (refine .q9 ?_;cbv;exact .inl (.f9 hK))
    ·replace hr:r=(⟨name,parties,deals.set i (wW 2 ⟨number,seller,buyer,house,dfrm,dto,dboxes,state,rel⟩),⟨rc2,M⟩,cust,deliv⟩,[⟨eS,seller,0,5,0,number,eS,eS,0,day,eS,0,[⟨dk,dn1,di,dfs⟩],[]⟩],0):=hr;subst hr
     (refine fW hsa (⟨⟨name,parties,deals,⟨rc,rL⟩,cust,deliv⟩,i,⟨number,seller,buyer,house,dfrm,dto,dboxes,state,rel⟩,day⟩:AQ) [0,1,2,3,4,5,6,7,11] ⟨hn1,hfew,hall,hb1,fun b hb=>by have:=hb2 b hb;omega,hday⟩ ?_;try dsimp only)
     rw[←hq9];cbv;repeat'((first|refine .y fun h=>?_|fail)<;>cbv)
     (refine fW hst (([⟨eS,seller,0,5,0,eS,eS,eS,0,0,eS,0,[⟨dk,dn1,di,dfs⟩],[]⟩],⟨number,seller,buyer,house,dfrm,dto,dboxes,2,rel⟩,day):List dR×Dp×Int) [12,11] (show (1:Nat)≤1000 by decide) ?_;try dsimp only)
     cbv;refine dE (Gh.back 2 [11] gO ⟨number,seller,buyer,house,dfrm,dto,dboxes,2,rel⟩ rfl hy) ?_;cbv;refine dE (Gh.plain 12 rfl) ?_;cbv
     (refine .q9 ?_;cbv;exact .inl (.f9 hK))
   ·have hr:=hr1 (by assumption);clear hr1 hr2;subst hr;refine dE (Gh.back0 2 [11] gO rfl hy) ?_;cbv;refine dE (Gh.adopt 6 58 14 rfl) ?_;cbv;refine dE (Gh.plain 12 rfl) ?_;cbv
    (refine .q9 ?_;cbv;exact .inl (.f9 hK))
theorem M7 {P:bI}(hac:bK P 53 Cf) (hm1:dH P 85) (hsa:bK P 85 (qJ sB)) (hm2:dH P 86) (hla:bK P 86 (qJ F8)) (hst:bK P 49 qT):bO P Wq (xP fun _=>True):=by
 intro args H0 K hc;obtain⟨q,h1,h2,⟨-,h4⟩,h5⟩:=hc;by_cases k1:q.kind=5
 ·exact Lx P hac hm1 hsa hst args H0 K ⟨q,h1,h2,⟨k1,h4⟩,h5⟩
 by_cases k2:q.kind=6
 ·exact KT P hac hm2 hla hst args H0 K ⟨q,h1,h2,⟨k2,h4⟩,h5⟩
 exact G1 P hac args H0 K ⟨q,h1,h2,⟨fun h=>by rcases h with h|h<;>contradiction,h4⟩,h5⟩
theorem jT {s:bH}(h:bT s=true):s.size≤16:=by
 rcases aL 16 s.size with h1|h1
 ·rw[fT (.inr h1)]at h;cases h
 ·exact h1
theorem jL.beg {L:List cZ}(h:jL L) {x:eF}(h0:rX L x=0):jL (L++[⟨x.box,[x]⟩]):=by
 unfold rX at h0
 split at h0
 ·cases h0
 rename_i g1
 split at h0
 ·cases h0
 rename_i g2
 split at h0
 ·cases h0
 rename_i g3
 split at h0
 ·cases h0
 rename_i g4;simp only[Bool.or_eq_true,Bool.not_eq_true',not_or,Bool.not_eq_false]at g1;obtain⟨⟨n1,n2⟩,n3⟩:=g1;have hd:x.day≤1048576:=by
  have:gM x.day=true:=by cases hh:gM x.day with|true=>rfl|false=>rw[hh]at g2;exact absurd rfl g2
  unfold gM at this;simp only[aO,decide_eq_true_eq]at this;exact this.2
 have hno:gV cZ.box L x.box=none:=by cases hh:gV cZ.box L x.box with|none=>rfl|some _=>rw[hh]at g3;exact absurd rfl g3
 refine⟨by rw[aM,List.length_cons,List.length_nil];omega,?_,fun b hb=>?_,fun b hb=>?_,fun b hb=>?_⟩
 ·rw[List.map_append,List.nodup_append];refine⟨h.nd,List.nodup_cons.2 ⟨by simp,.nil⟩,fun a ha b hb=>?_⟩;obtain rfl:b=x.box:=by simpa using hb
  rintro rfl;obtain⟨y,hy,he⟩:=aX.1 ha;exact absurd he (iJ hno hy)
 all_goals
  rcases List.mem_append.1 hb with hb|hb
 ·exact h.ne b hb
 ·obtain rfl:b=⟨x.box,[x]⟩:=by simpa using hb
  exact⟨by simp,by simp⟩
 ·exact h.day b hb
 ·obtain rfl:b=⟨x.box,[x]⟩:=by simpa using hb
  intro y hy;obtain rfl:y=x:=by simpa using hy
  exact hd
 ·exact h.sz b hb
 ·obtain rfl:b=⟨x.box,[x]⟩:=by simpa using hb
  refine⟨jT n1,fun y hy=>?_⟩;obtain rfl:y=x:=by simpa using hy
  exact⟨jT n2,jT n3⟩
theorem jL.hand {L:List cZ}(h:jL L) {x:eF}(h0:iF L x=0):jL (jC cZ.box L x.box (hY x)):=by
 unfold iF wK at h0
 split at h0
 ·cases h0
 rename_i g1
 split at h0
 ·cases h0
 rename_i g2;simp only[Bool.or_eq_true,Bool.not_eq_true',not_or,Bool.not_eq_false]at g1;obtain⟨⟨⟨⟨n1,n2⟩,n3⟩,n4⟩,n5⟩:=g1;have hd:x.day≤1048576:=by
  have:gM x.day=true:=by cases hh:gM x.day with|true=>rfl|false=>rw[hh]at g2;exact absurd rfl g2
  unfold gM at this;simp only[aO,decide_eq_true_eq]at this;exact this.2
 split at h0
 ·cases h0
 rename_i b0 hb0;have hlen:b0.hist.length+1≤4096:=by
  unfold B1 at h0
  split at h0
  ·cases h0
  split at h0
  ·cases h0
  split at h0
  ·cases h0
  split at h0
  ·cases h0
  omega
 have hcase:∀b,b∈jC cZ.box L x.box (hY x)→b∈L∨b=hY x b0:=fun b hb=>by
  unfold jC at hb;obtain⟨y,hy,he⟩:=aX.1 hb;by_cases hk:y.box=x.box
  ·rw[aF hk]at he;right;have:y=b0:=by
    have h1:=sT h.nd hy hk;rw[h1]at hb0;cases hb0;rfl
   rw[←he,this]
  ·rw[aE hk]at he;exact .inl (he ▸ hy)
 have hb0m:b0∈L:=(jY hb0).1;refine⟨by unfold jC;rw[aJ];exact h.few,by rw[wG _ _ (rQ x)];exact h.nd,fun b hb=>?_,fun b hb=>?_,fun b hb=>?_⟩
 all_goals
  rcases hcase b hb with hb|rfl
 ·exact h.ne b hb
 ·exact⟨by unfold hY;simp,by unfold hY;rw[aM];exact hlen⟩
 ·exact h.day b hb
 ·intro y hy;rcases List.mem_append.1 hy with hy|hy
  ·exact h.day b0 hb0m y hy
  ·obtain rfl:y=x:=by simpa using hy
   exact hd
 ·exact h.sz b hb
 ·refine⟨(h.sz b0 hb0m).1,fun y hy=>?_⟩;rcases List.mem_append.1 hy with hy|hy
  ·exact(h.sz b0 hb0m).2 y hy
  ·obtain rfl:y=x:=by simpa using hy
   exact⟨jT n3,jT n4⟩
theorem jL.perm {L M:List cZ}(h:jL L) (p:L.Perm M):jL M:=⟨by rw[←p.length_eq];exact h.few,(p.map cZ.box).nodup_iff.1 h.nd,fun b hb=>h.ne b (p.mem_iff.2 hb),fun b hb=>h.day b (p.mem_iff.2 hb),fun b hb=>h.sz b (p.mem_iff.2 hb)⟩
structure Vi (q:HQ):Prop where
 h:Yv q
 cu:jL q.C.cust
 bx:q.d.boxes.length≤70
def Yq (C:Cr) (old:List cZ) (i:Nat) (d:Dp) (ls:List dR):List cG:=[.blk 118 [.str C.name,.hd 1,.ph 2,.ptr 3 0,.ptr 10 0,.hd 7],.map 70 (bJ iP C.parties),.pool 116 (bJ gO C.deals) [(i,.ptr 8 0)],.blk 122 [.str C.reg.carrier,.ph 4],.pool 120 (bJ fO C.reg.bills) [],.blk 174 [.ph 6],.pool 172 (bJ gF old) [],.tip 77 5 (bJ dB C.deliv),.blk 136 (Un d),.row 58 14 (bJ eM ls),.blk 174 [.ph 11],.pool 172 (bJ gF C.cust) []]
def N1 (b:Bool) (C:Cr) (old:List cZ) (i:Nat) (d:Dp) (ls:List dR):List cG:=bif b then Yq C old i d ls else M0 C i d++[.row 58 14 (bJ eM ls)]
def uA (κ:Int→Prop) (f:HQ→List cZ→Bool×Cr×Dp×List dR):dO:=sG (fun q:HQ=>[.ptr 0 0,.ptr 8 0,eM q.l,.i q.day]) (fun q=>M0 q.C q.i q.d) (fun q=>κ q.l.kind∧Vi q) (fun q (L0:List cZ)=>L0.Perm q.C.cust) (fun _ _=>.hd 9) fun q L0=>N1 (f q L0).1 (f q L0).2.1 q.C.cust q.i (f q L0).2.2.1 (f q L0).2.2.2
def oL (q:HQ) (L0:List cZ):Bool×Cr×Dp×List dR:=if q.l.frm≠q.d.seller∨q.d.state≠0 then (false,q.C,q.d,[]) else match fF q.C.name q.d q.day L0 q.d.boxes with
 |none=>(false,q.C,q.d,[])
 |some L=>(true,{ q.C with cust:=L },wW 1 q.d,[])
structure YH (name:bH) (d:Dp) (day:Int) (L:List cZ) (bs:List bH) (p:Nat×List cZ):Prop where
 le:p.1≤bs.length
 eq:fF name d day L bs=fF name d day p.2 (bs.drop p.1)
 ok:jL p.2
theorem G0 (P:bI) (hcp:bK P 68 DY) (hbg:bK P 118 HD) (hhn:bK P 43 I3):bO P Y9 (uA (fun k=>k=4) oL):=by
 intro args H K hc;obtain⟨⟨⟨name,parties,deals,⟨rc,rL⟩,cust,deliv⟩,i,⟨number,seller,buyer,house,dfrm,dto,dboxes,state,rel⟩,⟨frm,to,lnumber,kind,ack,deal,text,party,index,day0,cur,amt,docs,boxes⟩,day⟩,rfl,rfl,hp,hK⟩:=hc;refine⟨cM,?_⟩;dsimp only at hp hK⊢;obtain⟨hk,⟨hnum,hfew,hall⟩,hcu,hbx⟩:=hp;dsimp only at hk hnum hfew hall hcu hbx;subst hk;obtain⟨d0,hd0⟩:∃d:Dp,d=⟨number,seller,buyer,house,dfrm,dto,dboxes,state,rel⟩:=⟨_,rfl⟩
 have hK0:frm≠seller∨state≠0→K (.hd 9) (M0 ⟨name,parties,deals,⟨rc,rL⟩,cust,deliv⟩ i ⟨number,seller,buyer,house,dfrm,dto,dboxes,state,rel⟩++[.row 58 14 (bJ eM [])]):=fun h=>by
  have h1:=hK cust (.refl _);have e:oL ⟨⟨name,parties,deals,⟨rc,rL⟩,cust,deliv⟩,i,⟨number,seller,buyer,house,dfrm,dto,dboxes,state,rel⟩,⟨frm,to,lnumber,4,ack,deal,text,party,index,day0,cur,amt,docs,boxes⟩,day⟩ cust=(false,⟨name,parties,deals,⟨rc,rL⟩,cust,deliv⟩,⟨number,seller,buyer,house,dfrm,dto,dboxes,state,rel⟩,[]):=aF h;rw[e]at h1;exact h1
 have hKn:frm=seller→state=0→∀L0,L0.Perm cust→fF name d0 day L0 dboxes=none→K (.hd 9) (M0 ⟨name,parties,deals,⟨rc,rL⟩,cust,deliv⟩ i ⟨number,seller,buyer,house,dfrm,dto,dboxes,state,rel⟩++[.row 58 14 (bJ eM [])]):=fun h0 h1 L0 hp h2=>by
  have h3:=hK L0 hp;have e:oL ⟨⟨name,parties,deals,⟨rc,rL⟩,cust,deliv⟩,i,⟨number,seller,buyer,house,dfrm,dto,dboxes,state,rel⟩,⟨frm,to,lnumber,4,ack,deal,text,party,index,day0,cur,amt,docs,boxes⟩,day⟩ L0=(false,⟨name,parties,deals,⟨rc,rL⟩,cust,deliv⟩,⟨number,seller,buyer,house,dfrm,dto,dboxes,state,rel⟩,[]):=by
   refine(aE (fun h=>h.elim (fun h=>h h0) fun h=>h h1)).trans ?_;show (match fF name ⟨number,seller,buyer,house,dfrm,dto,dboxes,state,rel⟩ day L0 dboxes with|none=>_|some L=>_)=_;rw[←hd0,h2,hd0]
  rw[e]at h3;exact h3
 have hKy:frm=seller→state=0→∀L0,L0.Perm cust→∀L,fF name d0 day L0 dboxes=some L→K (.hd 9) (Yq ⟨name,parties,deals,⟨rc,rL⟩,L,deliv⟩ cust i ⟨number,seller,buyer,house,dfrm,dto,dboxes,1,rel⟩ []):=fun h0 h1 L0 hp L h2=>by
  have h3:=hK L0 hp;have e:oL ⟨⟨name,parties,deals,⟨rc,rL⟩,cust,deliv⟩,i,⟨number,seller,buyer,house,dfrm,dto,dboxes,state,rel⟩,⟨frm,to,lnumber,4,ack,deal,text,party,index,day0,cur,amt,docs,boxes⟩,day⟩ L0=(true,⟨name,parties,deals,⟨rc,rL⟩,L,deliv⟩,⟨number,seller,buyer,house,dfrm,dto,dboxes,1,rel⟩,[]):=by
   refine(aE (fun h=>h.elim (fun h=>h h0) fun h=>h h1)).trans ?_;show (match fF name ⟨number,seller,buyer,house,dfrm,dto,dboxes,state,rel⟩ day L0 dboxes with|none=>_|some L=>_)=_;rw[←hd0,h2,hd0];rfl
  rw[e]at h3;exact h3
 clear hK;cbv;repeat'((first|refine .mk (fun h=>?_) fun h=>?_|fail)<;>cbv)
 rotate_left
 ·have hK:=hK0 (.inr (by assumption));refine dE (Gh.adopt 8 58 14 rfl) ?_;cbv
  (refine .q9 ?_;cbv;exact .inl (eV.sel [0,1,2,3,4,5,6,7,8,10] _ _ (by rfl) (by rfl) (by decide) (by rfl) cM (by rfl) (by rfl) (Le.refl _) (kF.refl _) hK))
 ·have hK:=hK0 (.inl (by assumption));refine dE (Gh.adopt 8 58 14 rfl) ?_;cbv
  (refine .q9 ?_;cbv;exact .inl (eV.sel [0,1,2,3,4,5,6,7,8,10] _ _ (by rfl) (by rfl) (by decide) (by rfl) cM (by rfl) (by rfl) (Le.refl _) (kF.refl _) hK))
 refine eQ hcp cust [5,6] hcu rfl rfl (by decide) rfl rfl rfl rfl rfl ?_;intro L1 hp1;have hKn:=hKn (by assumption) (by assumption) L1 hp1;have hKy:=hKy (by assumption) (by assumption) L1 hp1;obtain⟨n,hn⟩:∃n:Nat,n=dboxes.length:=⟨_,rfl⟩
 have hds:d0.seller=seller:=by rw[hd0]
 have hdf:d0.frm=dfrm:=by rw[hd0]
 clear hd0;cbv;repeat'((first|refine .k fun z hz=>?_|fail)<;>cbv)
 refine bS [] (fun p:{ p:Nat×List cZ // YH name d0 day L1 dboxes p }=>[(36,.i (nI p.1.1))]) (fun p=>[.blk 118 [.str name,.hd 1,.ph 2,.ptr 3 0,.ptr 5 0,.hd 7],.map 70 (bJ iP parties),.pool 116 (bJ gO deals) [(i,.ptr 8 0)],.blk 122 [.str rc,.ph 4],.pool 120 (bJ fO rL) [],.blk 174 [.ph 6],.pool 172 (bJ gF cust) [],.tip 77 5 (bJ dB deliv),.blk 136 [.str number,.str seller,.str buyer,.str house,.str dfrm,.str dto,.sl 1 (bJ .str dboxes),.i state,.bl rel],.blk 58 [.str frm,.str to,.i lnumber,.i 4,.i ack,.str deal,.str text,.str party,.i index,.i day0,.str cur,.i amt,.sl 4 (bJ tI docs),.sl 1 (bJ .str boxes)],.blk 174 [.ph 11],.pool 172 (bJ gF p.1.2) []]) (fun p=>fE n p.1.1) ⟨(0,L1),⟨aI _,rfl,hcu.perm hp1.symm⟩⟩ ?_;rintro ⟨⟨k,Lk⟩,⟨hk,heq,hcuk⟩⟩;dsimp only at hk heq hcuk⊢;rcases aL k dboxes.length with hks|hks
 rotate_left
 ·rw[List.drop_of_length_le hks]at heq;have hK:=hKy Lk heq;cbv;repeat'((first|refine .n fun h=>?_|fail)<;>cbv)
  refine dE (Gh.adopt 8 58 14 rfl) ?_;cbv
  (refine .q9 ?_;cbv;exact .inl (eV.sel [0,1,2,3,4,5,6,7,8,12,10,11] _ _ (by rfl) (by rfl) (by decide) (by rfl) cM (by rfl) (by rfl) (Le.refl _) (kF.refl _) hK))
 obtain⟨b,hx⟩:=cJ hks;have hdr:dboxes.drop k=b :: dboxes.drop (k+1):=by
  obtain⟨h1,rfl⟩:=aA.1 hx;exact List.drop_eq_getElem_cons h1
 obtain⟨e1,he1⟩:∃e,e=rX Lk ⟨b,eS,seller,dfrm,day⟩:=⟨_,rfl⟩
 obtain⟨M1,hM1⟩:∃M,M=P5 Lk ⟨b,eS,seller,dfrm,day⟩:=⟨_,rfl⟩
 obtain⟨e2,he2⟩:∃e,e=iF M1 ⟨b,seller,name,dfrm,day⟩:=⟨_,rfl⟩
 obtain⟨M2,hM2⟩:∃M,M=OJ M1 ⟨b,seller,name,dfrm,day⟩:=⟨_,rfl⟩
 have hs1:e1≠0→fF name d0 day L1 dboxes=none:=fun h=>by
  rw[heq,hdr];refine aF ?_;show rX Lk ⟨b,eS,d0.seller,d0.frm,day⟩≠0;rw[hds,hdf,←he1];exact h
 have hc1:e1=0→M1=Lk++[⟨b,[⟨b,eS,seller,dfrm,day⟩]⟩]∧jL M1:=fun h=>by
  have h1:M1=Lk++[⟨b,[⟨b,eS,seller,dfrm,day⟩]⟩]:=by rw[hM1];exact aF (he1.symm.trans h)
  exact⟨h1,by rw[h1];exact hcuk.beg (he1.symm.trans h)⟩
 have hs2:e1=0→fF name d0 day L1 dboxes=if e2≠0 then none else fF name d0 day (jC cZ.box M1 b (hY ⟨b,seller,name,dfrm,day⟩)) (dboxes.drop (k+1)):=fun h=>by
  rw[heq,hdr];refine(aE (fun h2=>h2 ?_)).trans ?_
  rotate_left
  ·show rX Lk ⟨b,eS,d0.seller,d0.frm,day⟩=0;rw[hds,hdf,←he1];exact h
  ·rw[he2,(hc1 h).1];show (if iF (Lk++[⟨b,[⟨b,eS,d0.seller,d0.frm,day⟩]⟩]) ⟨b,d0.seller,name,d0.frm,day⟩≠0 then none else fF name d0 day (jC cZ.box (Lk++[⟨b,[⟨b,eS,d0.seller,d0.frm,day⟩]⟩]) b (hY ⟨b,d0.seller,name,d0.frm,day⟩)) (dboxes.drop (k+1)))=_;rw[hds,hdf]
 have hc2:e1=0→e2=0→M2=jC cZ.box M1 b (hY ⟨b,seller,name,dfrm,day⟩)∧jL M2:=fun h h'=>by
  have h1:M2=jC cZ.box M1 b (hY ⟨b,seller,name,dfrm,day⟩):=by rw[hM2];exact aF (he2.symm.trans h')
  exact⟨h1,by rw[h1];exact(hc1 h).2.hand (x:=⟨b,seller,name,dfrm,day⟩) (he2.symm.trans h')⟩
 clear heq hdr;cbv;repeat'((first|refine .e ?_|refine .y fun h=>?_|fail)<;>cbv)
 (refine fW hbg ((Lk,⟨b,eS,seller,dfrm,day⟩):List cZ×eF) [10,11] ⟨hcuk,rfl⟩ ?_;try dsimp only)
 rw[←he1,←hM1];cbv;repeat'((first|refine .mk (fun h=>?_) fun h=>?_|fail)<;>cbv)
 all_goals first
 |(have hK:=hKn (hs1 (by assumption))
   refine dE (Gh.adopt 8 58 14 rfl) ?_;cbv
   (refine .q9 ?_;cbv;exact .inl (eV.sel [0,1,2,3,4,5,6,7,8,12] _ _ (by rfl) (by rfl) (by decide) (by rfl) cM (by rfl) (by rfl) (Le.refl _) (kF.refl _) hK)))
 |skip
 obtain⟨hm1,hcu1⟩:=hc1 (by assumption);have hs2:=hs2 (by assumption);have hc2:=hc2 (by assumption);clear hm1 hM1
 (refine fW hhn ((M1,⟨b,seller,name,dfrm,day⟩):List cZ×eF) [10,11] hcu1 ?_;try dsimp only)
 rw[←he2,←hM2];cbv;repeat'((first|refine .mk (fun h=>?_) fun h=>?_|refine .k fun z hz=>?_|fail)<;>cbv)
 all_goals first
 |(rw[aF (by assumption)]at hs2
   have hK:=hKn hs2;refine dE (Gh.adopt 8 58 14 rfl) ?_;cbv
   (refine .q9 ?_;cbv;exact .inl (eV.sel [0,1,2,3,4,5,6,7,8,12] _ _ (by rfl) (by rfl) (by decide) (by rfl) cM (by rfl) (by rfl) (Le.refl _) (kF.refl _) hK)))
 |skip
 obtain⟨hm2,hcu2⟩:=hc2 (by assumption);rw[aE (fun h=>h (by assumption)),←hm2]at hs2;clear hm2 hM2;obtain rfl:z=nI (k+1):=bQ;exact bM ⟨(k+1,M2),⟨hks,hs2,hcu2⟩⟩ (bN (by omega))
structure Ve (q:HQ):Prop where
 h:Vi q
 dl:q.C.deliv.length≤40000
def AB (κ:Int→Prop) (f:HQ→List cZ→Bool×Cr×Dp×List dR):dO:=sG (fun q:HQ=>[.ptr 0 0,.ptr 8 0,eM q.l,.i q.day]) (fun q=>M0 q.C q.i q.d) (fun q=>κ q.l.kind∧Ve q) (fun q (L0:List cZ)=>L0.Perm q.C.cust) (fun _ _=>.hd 9) fun q L0=>N1 (f q L0).1 (f q L0).2.1 q.C.cust q.i (f q L0).2.2.1 (f q L0).2.2.2
def pS (q:HQ) (L0:List cZ):Bool×Cr×Dp×List dR:=if q.d.state≠3∨q.d.rel=false then (false,q.C,q.d,eW fN q.l) else match eX (cV q.C.name q.l.frm q.d.to q.day) L0 q.d.boxes with
 |none=>(false,q.C,q.d,eW fN q.l)
 |some L=>if jV q.C.reg (cK 2 q.d q.l q.day)≠0 then (false,q.C,q.d,eW fN q.l) else (true,{ q.C with cust:=L,deliv:=q.C.deliv++q.d.boxes.map (cV q.C.name q.l.frm q.d.to q.day),reg:=xU q.C.reg (cK 2 q.d q.l q.day) },wW 4 q.d,[{ nR with to:=q.l.frm,kind:=21,boxes:=q.d.boxes }])
theorem Nz {R:Rg}{d:Dp}{l:dR}{day:Int}:jV R (cK 2 d l day)=eO R.bills ⟨gE d.number,l.index,0,l.frm,0,day,true,false⟩:=rfl
structure YO (f:bH→eF) (L:List cZ) (bs:List bH) (p:Nat×List cZ):Prop where
 le:p.1≤bs.length
 eq:eX f L bs=eX f p.2 (bs.drop p.1)
 ok:jL p.2
theorem yB (P:bI) (hcp:bK P 68 DY) (hhn:bK P 43 I3) (hb:bK P 120 Cq) (hsu:bK P 122 sL) (hc1:bK P 87 (mD 1 16)) (ho:bK P 121 KB):bO P Zv (AB (fun k=>k=20) pS):=by
 intro args H K hc;obtain⟨⟨⟨name,parties,deals,⟨rc,rL⟩,cust,deliv⟩,i,⟨number,seller,buyer,house,dfrm,dto,dboxes,state,rel⟩,⟨frm,to,lnumber,kind,ack,deal,text,party,index,day0,cur,amt,docs,boxes⟩,day⟩,rfl,rfl,hp,hK⟩:=hc;refine⟨cM,?_⟩;dsimp only at hp hK⊢;obtain⟨hk,⟨⟨hnum,hfew,hall⟩,hcu,hbx⟩,hdl⟩:=hp;dsimp only at hk hnum hfew hall hcu hbx hdl;subst hk;have hok:mH 20:=by unfold mH;decide
 obtain⟨bn,hbn⟩:∃b,b=gE number:=⟨_,rfl⟩
 obtain⟨e,he⟩:∃e,e=eO rL ⟨bn,index,0,frm,0,day,true,false⟩:=⟨_,rfl⟩
 obtain⟨M,hM⟩:∃M,M=gI rL ⟨bn,index,0,frm,0,day,true,false⟩ (S8 ⟨bn,index,0,frm,0,day,true,false⟩):=⟨_,rfl⟩
 have hM0:e≠0→M=rL:=fun h=>by rw[hM];exact aE (he ▸ h)
 obtain⟨f,hf⟩:∃f,f=cV name frm dto day:=⟨_,rfl⟩
 obtain⟨T,hT⟩:∃T,T=dboxes.map f:=⟨_,rfl⟩
 have hKo:(state≠3∨rel=false)∨(∃L0,L0.Perm cust∧(eX f L0 dboxes=none∨e≠0))→K (.hd 9) (M0 ⟨name,parties,deals,⟨rc,rL⟩,cust,deliv⟩ i ⟨number,seller,buyer,house,dfrm,dto,dboxes,state,rel⟩++[.row 58 14 (bJ eM (eW fN ⟨frm,to,lnumber,20,ack,deal,text,party,index,day0,cur,amt,docs,boxes⟩))]):=fun h=>by
  have hg:∃L0,L0.Perm cust∧pS ⟨⟨name,parties,deals,⟨rc,rL⟩,cust,deliv⟩,i,⟨number,seller,buyer,house,dfrm,dto,dboxes,state,rel⟩,⟨frm,to,lnumber,20,ack,deal,text,party,index,day0,cur,amt,docs,boxes⟩,day⟩ L0=(false,⟨name,parties,deals,⟨rc,rL⟩,cust,deliv⟩,⟨number,seller,buyer,house,dfrm,dto,dboxes,state,rel⟩,eW fN ⟨frm,to,lnumber,20,ack,deal,text,party,index,day0,cur,amt,docs,boxes⟩):=by
   rcases h with h|⟨L0,hp,h⟩
   ·exact⟨cust,.refl _,aF h⟩
   ·refine⟨L0,hp,?_⟩;by_cases h1:state≠3∨rel=false
    ·exact aF h1
    ·refine(aE h1).trans ?_;show (match eX (cV name frm dto day) L0 dboxes with|none=>_|some L=>if _ then _ else _)=_;rw[←hf];cases hL:eX f L0 dboxes with
     |none=>rfl
     |some L=>
      refine aF ?_;rw[Nz];show eO rL ⟨gE number,index,0,frm,0,day,true,false⟩≠0;rw[←hbn,←he];rcases h with h|h
      ·rw[hL]at h;cases h
      ·exact h
  obtain⟨L0,hp,h3⟩:=hg;have h4:=hK L0 hp;rw[h3]at h4;exact h4
 have hKy:state=3→rel=true→e=0→∀L0,L0.Perm cust→∀L,eX f L0 dboxes=some L→K (.hd 9) (Yq ⟨name,parties,deals,⟨rc,M⟩,L,deliv++T⟩ cust i ⟨number,seller,buyer,house,dfrm,dto,dboxes,4,rel⟩ [⟨eS,frm,0,21,0,eS,eS,eS,0,0,eS,0,[],dboxes⟩]):=fun h1 h2 h3 L0 hp L h4=>by
  have h5:=hK L0 hp;have h6:pS ⟨⟨name,parties,deals,⟨rc,rL⟩,cust,deliv⟩,i,⟨number,seller,buyer,house,dfrm,dto,dboxes,state,rel⟩,⟨frm,to,lnumber,20,ack,deal,text,party,index,day0,cur,amt,docs,boxes⟩,day⟩ L0=(true,⟨name,parties,deals,⟨rc,M⟩,L,deliv++T⟩,⟨number,seller,buyer,house,dfrm,dto,dboxes,4,rel⟩,[⟨eS,frm,0,21,0,eS,eS,eS,0,0,eS,0,[],dboxes⟩]):=by
   refine(aE (fun h=>h.elim (fun h=>h h1) (fun h=>by rw[h2]at h;cases h))).trans ?_;show (match eX (cV name frm dto day) L0 dboxes with|none=>_|some L=>if _ then _ else _)=_;rw[←hf,h4];refine(aE (fun h=>h ?_)).trans ?_
   rotate_left
   ·rw[Nz];show eO rL ⟨gE number,index,0,frm,0,day,true,false⟩=0;rw[←hbn,←he];exact h3
   ·rw[hM,hT,hbn,hf];rfl
  rw[h6]at h5;exact h5
 clear hK;obtain⟨DT,hDT⟩:∃D,D=deliv++T:=⟨_,rfl⟩
 rw[←hDT]at hKy;have hTl:T.length≤70:=by rw[hT,aJ];exact hbx
 obtain⟨n,hn⟩:∃n:Nat,n=dboxes.length:=⟨_,rfl⟩
 cases rel with
 |false=>
  have hK:=hKo (.inl (.inr rfl));cbv;repeat'((first|refine .mk (fun h=>?_) fun h=>?_|fail)<;>cbv)
  all_goals
    (refine Bg ho (⟨frm,to,lnumber,20,ack,deal,text,party,index,day0,cur,amt,docs,boxes⟩:dR) hok ?_;try dsimp only)
    cbv
    (refine .q9 ?_;cbv;exact .inl (eV.sel [0,1,2,3,4,5,6,7,8,10] _ _ (by rfl) (by rfl) (by decide) (by rfl) cM (by rfl) (by rfl) (Le.refl _) (kF.refl _) hK))
 |true=>
  cbv;repeat'((first|refine .mk (fun h=>?_) fun h=>?_|fail)<;>cbv)
  rotate_left
  ·have hK:=hKo (.inl (.inl (by assumption)))
   all_goals
    (refine Bg ho (⟨frm,to,lnumber,20,ack,deal,text,party,index,day0,cur,amt,docs,boxes⟩:dR) hok ?_;try dsimp only)
    cbv
    (refine .q9 ?_;cbv;exact .inl (eV.sel [0,1,2,3,4,5,6,7,8,10] _ _ (by rfl) (by rfl) (by decide) (by rfl) cM (by rfl) (by rfl) (Le.refl _) (kF.refl _) hK))
  refine eQ hcp cust [5,6] hcu rfl rfl (by decide) rfl rfl rfl rfl rfl ?_;intro L1 hp1;have hKo:eX f L1 dboxes=none∨e≠0→_:=fun h=>hKo (.inr ⟨L1,hp1,h⟩)
  have hKy:=fun h=>hKy (by assumption) rfl h L1 hp1
  have hfb:∀b,f b=⟨b,name,frm,dto,day⟩:=fun b=>by rw[hf];rfl
  clear hf;cbv;repeat'((first|refine .k fun z hz=>?_|fail)<;>cbv)
  refine fX (Gh.adopt 10 77 5 rfl) ?_;cbv;refine bS [12] (fun p:{ p:Nat×List cZ // YO f L1 dboxes p }=>[(10,.hd 12),(40,.i (nI p.1.1))]) (fun p=>[.blk 118 [.str name,.hd 1,.ph 2,.ptr 3 0,.ptr 5 0,.hd 7],.map 70 (bJ iP parties),.pool 116 (bJ gO deals) [(i,.ptr 8 0)],.blk 122 [.str rc,.ph 4],.pool 120 (bJ fO rL) [],.blk 174 [.ph 6],.pool 172 (bJ gF cust) [],.tip 77 5 (bJ dB deliv),.blk 136 [.str number,.str seller,.str buyer,.str house,.str dfrm,.str dto,.sl 1 (bJ .str dboxes),.i state,.bl true],.blk 58 [.str frm,.str to,.i lnumber,.i 20,.i ack,.str deal,.str text,.str party,.i index,.i day0,.str cur,.i amt,.sl 4 (bJ tI docs),.sl 1 (bJ .str boxes)],.blk 174 [.ph 11],.pool 172 (bJ gF p.1.2) [],.row 77 5 (bJ dB (T.take p.1.1))]) (fun p=>fE n p.1.1) ⟨(0,L1),⟨aI _,rfl,hcu.perm hp1.symm⟩⟩ ?_;rintro ⟨⟨k,Lk⟩,⟨hk,heq,hcuk⟩⟩;dsimp only at hk heq hcuk⊢;rcases aL k dboxes.length with hks|hks
  rotate_left
  ·rw[List.drop_of_length_le hks]at heq;have hKy:=fun h=>hKy h Lk heq
   have eT:T.take k=T:=bC (by rw[hT,aJ];exact hks);rw[eT];clear heq eT;cbv;repeat'((first|refine .n fun h=>?_|fail)<;>cbv)
   (refine fW hb (⟨number,seller,buyer,house,dfrm,dto,dboxes,state,true⟩:Dp) [8] hnum ?_;try dsimp only)
   rw[←hbn];cbv;obtain⟨bm,hbm⟩:∃b,b=Qt rL ⟨bn,index,0,frm,0,day,true,false⟩:=⟨_,rfl⟩
   (refine fW hsu ((⟨rc,rL⟩,⟨bn,index,0,frm,0,day,true,false⟩):Rg×Ak) [3,4] ⟨hall,rfl,rfl,rfl,rfl⟩ ?_;try dsimp only)
   rw[←he,←hM,←hbm];clear hbm;cbv;repeat'((first|refine .mk (fun h=>?_) fun h=>?_|refine .l fun ys hys hyl=>?_|fail)<;>cbv)
   all_goals first
   |(have hK:=hKo (.inr (by assumption))
     obtain rfl:M=rL:=hM0 (by assumption)
     (refine Bg ho (⟨frm,to,lnumber,20,ack,deal,text,party,index,day0,cur,amt,docs,boxes⟩:dR) hok ?_;try dsimp only)
     cbv
     (refine .q9 ?_;cbv;exact .inl (eV.sel [0,1,2,3,4,5,6,7,8,13] _ _ (by rfl) (by rfl) (by decide) (by rfl) cM (by rfl) (by rfl) (Le.refl _) (kF.refl _) hK)))
   |skip
   all_goals
    have hK:=hKy (by assumption);obtain rfl:ys=DT:=by rw[hys,hDT]
    (refine ZN hc1 _ ⟨by rw[cD];unfold maxLen;omega,by rw[cD];omega⟩ ?_;try dsimp only)
    cbv
   all_goals
    refine dE (Gh.leAt 13 (.row 58 14 (bJ eM [⟨eS,frm,0,21,0,eS,eS,eS,0,0,eS,0,[],dboxes⟩])) rfl (tA Bc)) ?_;cbv
    (refine .q9 ?_;cbv;exact .inl (eV.sel [0,1,2,3,4,5,6,7,8,13,10,11] _ _ (by rfl) (by rfl) (by decide) (by rfl) cM (by rfl) (by rfl) (Le.refl _) (kF.refl _) hK))
  obtain⟨b,hx⟩:=cJ hks;have hdr:dboxes.drop k=b :: dboxes.drop (k+1):=by
   obtain⟨h1,rfl⟩:=aA.1 hx;exact List.drop_eq_getElem_cons h1
  obtain⟨e2,he2⟩:∃e,e=iF Lk ⟨b,name,frm,dto,day⟩:=⟨_,rfl⟩
  obtain⟨M2,hM2⟩:∃M,M=OJ Lk ⟨b,name,frm,dto,day⟩:=⟨_,rfl⟩
  have hs2:eX f L1 dboxes=if e2≠0 then none else eX f (jC cZ.box Lk b (hY ⟨b,name,frm,dto,day⟩)) (dboxes.drop (k+1)):=by
   rw[heq,hdr,he2];show (if iF Lk (f b)≠0 then none else eX f (jC cZ.box Lk (f b).box (hY (f b))) (dboxes.drop (k+1)))=_;rw[hfb]
  have hc2:e2=0→M2=jC cZ.box Lk b (hY ⟨b,name,frm,dto,day⟩)∧jL M2:=fun h=>by
   have h1:M2=jC cZ.box Lk b (hY ⟨b,name,frm,dto,day⟩):=by rw[hM2];exact aF (he2.symm.trans h)
   exact⟨h1,by rw[h1];exact hcuk.hand (x:=⟨b,name,frm,dto,day⟩) (he2.symm.trans h)⟩
  have hT2:T.take (k+1)=T.take k++[⟨b,name,frm,dto,day⟩]:=by
   rw[hT,←List.map_take,←List.map_take,cY hx,List.map_append];simp[hfb]
  obtain⟨Tk,hTk⟩:∃t,t=T.take k:=⟨_,rfl⟩
  have hTkl:Tk.length≤70:=by rw[hTk,aS];omega
  rw[←hTk]at hT2⊢;clear heq hdr hTk;cbv;repeat'((first|refine .e ?_|refine .y fun h=>?_|fail)<;>cbv)
  (refine fW hhn ((Lk,⟨b,name,frm,dto,day⟩):List cZ×eF) [10,11] hcuk ?_;try dsimp only)
  rw[←he2,←hM2];cbv;repeat'((first|refine .mk (fun h=>?_) fun h=>?_|refine .k fun z hz=>?_|refine .zl fun zs hzs hzl=>?_|fail)<;>cbv)
  all_goals first
  |(rw[aF (by assumption)]at hs2
    have hK:=hKo (.inl hs2)
    (refine Bg ho (⟨frm,to,lnumber,20,ack,deal,text,party,index,day0,cur,amt,docs,boxes⟩:dR) hok ?_;try dsimp only)
    cbv
    (refine .q9 ?_;cbv;exact .inl (eV.sel [0,1,2,3,4,5,6,7,8,14] _ _ (by rfl) (by rfl) (by decide) (by rfl) cM (by rfl) (by rfl) (Le.refl _) (kF.refl _) hK)))
  |skip
  obtain⟨hm2,hcu2⟩:=hc2 (by assumption);rw[aE (fun h=>h (by assumption)),←hm2]at hs2;clear hm2 hM2;obtain rfl:z=nI (k+1):=bQ;obtain rfl:zs=bJ dB (T.take (k+1)):=by(rw[hT2,cB,cE];exact hzs)
  exact bM ⟨(k+1,M2),⟨hks,hs2,hcu2⟩⟩ (bN (by omega))
def XN (C:Cr) (old:List cZ):List cG:=[.blk 118 [.str C.name,.hd 1,.ph 2,.ptr 3 0,.ptr 8 0,.hd 7],.map 70 (bJ iP C.parties),.pool 116 (bJ gO C.deals) [],.blk 122 [.str C.reg.carrier,.ph 4],.pool 120 (bJ fO C.reg.bills) [],.blk 174 [.ph 6],.pool 172 (bJ gF old) [],.tip 77 5 (bJ dB C.deliv),.blk 174 [.ph 9],.pool 172 (bJ gF C.cust) []]
def OS (b:Bool) (C:Cr) (old:List cZ):List cG:=bif b then XN C old else yL C
def gB (q:HQ) (L0:List cZ):Bool×Cr×Dp×List dR:=
 if q.l.kind=4 then oL q L0 else if q.l.kind=8 then (false,mV q) else if q.l.kind=20 then pS q L0 else if q.l.kind=19 then (false,BE q) else if q.l.kind=23 then (false,qI q) else if q.l.kind=24 then (false,qX q) else (false,q.C,q.d,[])
def iG (C:Cr) (l:dR) (day:Int) (L0:List cZ):Bool×Cr×List dR:=match lM Dp.number C.deals l.deal with
 |none=>(false,C,[])
 |some i=>match C.deals[i]? with
  |none=>(false,C,[])
  |some d=>if lF C.parties l.frm=false then (false,C,[]) else
   ((gB ⟨C,i,d,l,day⟩ L0).1,{ (gB ⟨C,i,d,l,day⟩ L0).2.1 with deals:=C.deals.set i (gB ⟨C,i,d,l,day⟩ L0).2.2.1 },cI d.number day (gB ⟨C,i,d,l,day⟩ L0).2.2.2)
structure TQ where
 C:Cr
 l:dR
 day:Int
structure Tq (q:TQ):Prop where
 c:Ty q.C
 cu:jL q.C.cust
 dl:q.C.deliv.length≤40000
def sU (κ:Int→Prop):dO:=sG (fun q:TQ=>[.ptr 0 0,eM q.l,.i q.day]) (fun q=>yL q.C) (fun q=>κ q.l.kind∧Tq q) (fun q (L0:List cZ)=>L0.Perm q.C.cust) (fun q L0=>.sl 14 (bJ eM (iG q.C q.l q.day L0).2.2)) fun q L0=>OS (iG q.C q.l q.day L0).1 (iG q.C q.l q.day L0).2.1 q.C.cust
theorem sS {C:Cr}{l:dR}{day:Int}{L0:List cZ}(h:lM Dp.number C.deals l.deal=none):iG C l day L0=(false,C,[]):=by unfold iG;rw[h]
theorem vI {C:Cr}{l:dR}{day:Int}{L0:List cZ}(h:lF C.parties l.frm=false):iG C l day L0=(false,C,[]):=by
 unfold iG
 split
 ·rfl
 ·split
  ·rfl
  ·rw[aF h]
theorem FT {C:Cr}{l:dR}{day:Int}{L0:List cZ}{i:Nat}{d:Dp}(h:lM Dp.number C.deals l.deal=some i) (hd:C.deals[i]?=some d) (hp:lF C.parties l.frm=true) {b:Bool}{R:Rg}{cu:List cZ}{dl:List eF}{d2:Dp}{ls:List dR}
  (hk:gB ⟨C,i,d,l,day⟩ L0=(b,⟨C.name,C.parties,C.deals,R,cu,dl⟩,d2,ls)):iG C l day L0=(b,⟨C.name,C.parties,C.deals.set i d2,R,cu,dl⟩,cI d.number day ls):=by
 unfold iG;rw[h];dsimp only;rw[hd];dsimp only;rw[aE (by rw[hp];decide),hk]
def Ah (q:HQ) (r:Cr×Dp×List dR):Prop:=∃R cu dl st rl ls,r=(⟨q.C.name,q.C.parties,q.C.deals,R,cu,dl⟩,⟨q.d.number,q.d.seller,q.d.buyer,q.d.house,q.d.frm,q.d.to,q.d.boxes,st,rl⟩,ls)∧ls.length≤1000
theorem Hs (q:HQ):Ah q (BE q):=by
 unfold BE
 split
 ·exact⟨_,_,_,_,_,_,rfl,aI _⟩
 ·exact⟨_,_,_,_,_,_,rfl,aI _⟩
theorem EA (q:HQ):Ah q (qI q):=by
 by_cases h:jV q.C.reg (cK 3 q.d q.l q.day)=0
 ·rw[vH h];exact⟨_,_,_,_,_,_,rfl,aI _⟩
 ·rw[A7 h];exact⟨_,_,_,_,_,_,rfl,(show (1:Nat)≤1000 by decide)⟩
theorem Ep (q:HQ):Ah q (qX q):=by
 by_cases h:jV q.C.reg (cK 4 q.d q.l q.day)=0
 ·rw[vY h];exact⟨_,_,_,_,_,_,rfl,(show (1:Nat)≤1000 by decide)⟩
 ·rw[Aw h];exact⟨_,_,_,_,_,_,rfl,(show (1:Nat)≤1000 by decide)⟩
theorem FY (q:HQ):Ah q (mV q):=by
 by_cases h:lF q.C.parties q.l.party=false∨q.l.party=q.l.frm∨jV q.C.reg (cK 1 q.d q.l q.day)≠0
 ·rw[As h];exact⟨_,_,_,_,_,_,rfl,(show (1:Nat)≤1000 by decide)⟩
 ·have e:mV q=(({ q.C with reg:=xU q.C.reg (cK 1 q.d q.l q.day) },q.d,[{ nR with to:=q.l.party,kind:=9,index:=q.l.index,party:=q.l.party }])):=by
   have:Au fN q.C q.d q.l q.day=({ q.C with reg:=xU q.C.reg (cK 1 q.d q.l q.day) },[{ nR with to:=q.l.party,kind:=9,index:=q.l.index,party:=q.l.party }]):=aE h;unfold mV;rw[this]
  rw[e];exact⟨_,_,_,_,_,_,rfl,(show (1:Nat)≤1000 by decide)⟩
theorem FD (q:HQ) (L0:List cZ):Ah q (oL q L0).2:=by
 unfold oL
 split
 ·exact⟨_,_,_,_,_,_,rfl,aI _⟩
 ·split
  ·exact⟨_,_,_,_,_,_,rfl,aI _⟩
  ·exact⟨_,_,_,_,_,_,rfl,aI _⟩
theorem Em (q:HQ) (L0:List cZ):Ah q (pS q L0).2:=by
 unfold pS
 split
 ·exact⟨_,_,_,_,_,_,rfl,(show (1:Nat)≤1000 by decide)⟩
 ·split
  ·exact⟨_,_,_,_,_,_,rfl,(show (1:Nat)≤1000 by decide)⟩
  ·split
   ·exact⟨_,_,_,_,_,_,rfl,(show (1:Nat)≤1000 by decide)⟩
   ·exact⟨_,_,_,_,_,_,rfl,(show (1:Nat)≤1000 by decide)⟩
theorem Hy (P:bI) (hle:bK P 48 rD) (hst:bK P 49 qT):bO P X3 (sU fun k=>¬(k=4∨k=8∨k=20∨k=19∨k=23∨k=24)):=by
 intro args H K hc;obtain⟨⟨⟨name,parties,deals,⟨rc,rL⟩,cust,deliv⟩,⟨frm,to,lnumber,kind,ack,deal,text,party,index,day0,cur,amt,docs,boxes⟩,day⟩,rfl,rfl,hp,hK⟩:=hc;refine⟨cM,?_⟩;dsimp only at hp hK⊢;obtain⟨hk,⟨hnd,hfew,hall,hnum,hbx,hbz⟩,hcu,hdl⟩:=hp;dsimp only at hk hnd hfew hall hnum hbx hbz hcu hdl;have hKn:∀L0,L0.Perm cust→iG ⟨name,parties,deals,⟨rc,rL⟩,cust,deliv⟩ ⟨frm,to,lnumber,kind,ack,deal,text,party,index,day0,cur,amt,docs,boxes⟩ day L0=(false,⟨name,parties,deals,⟨rc,rL⟩,cust,deliv⟩,[])→K (.sl 14 []) (yL ⟨name,parties,deals,⟨rc,rL⟩,cust,deliv⟩):=fun L0 hp h=>by
  have:=hK L0 hp;rw[h]at this;exact this
 cbv
 all_goals
  refine fB Dp.number (fun _=>rfl) (fun i y hai hy hky=>?_) (fun hai=>?_)<;>try dsimp only at *
  rotate_left
  ·have hK:=hKn cust (.refl _) (sS hai);cbv
   all_goals
    refine dE (Gh.adopt 6 58 14 rfl) ?_;cbv;refine dE (Gh.plain 9 rfl) ?_;cbv
    (refine .q9 ?_;cbv;exact .inl (.f9 hK))
  have hn1:=hnum y (aC hy);have hb1:=hbx y (aC hy);have htx:lF parties frm=true→∀L0,L0.Perm cust→∀b R cu dl d2 ls,gB ⟨⟨name,parties,deals,⟨rc,rL⟩,cust,deliv⟩,i,y,⟨frm,to,lnumber,kind,ack,deal,text,party,index,day0,cur,amt,docs,boxes⟩,day⟩ L0=(b,⟨name,parties,deals,R,cu,dl⟩,d2,ls)→K (.sl 14 (bJ eM (cI y.number day ls))) (OS b ⟨name,parties,deals.set i d2,R,cu,dl⟩ cust):=fun hp L0 hpm b R cu dl d2 ls hkx=>by
   have h1:=hK L0 hpm;rw[FT hai hy hp hkx]at h1;exact h1
  have htn:lF parties frm=false→K (.sl 14 []) (yL ⟨name,parties,deals,⟨rc,rL⟩,cust,deliv⟩):=fun h=>hKn cust (.refl _) (vI h)
  clear hK hKn;obtain⟨number,seller,buyer,house,dfrm,dto,dboxes,state,rel⟩:=y;dsimp only at hky hn1 hb1 htx;subst hky;cbv
  all_goals
   refine oO (fun j hj=>?_) fun hno=>?_
   rotate_left
   ·have hK:=htn (uZ hno);cbv
    all_goals
     refine dE (Gh.back0 2 [9] gO rfl hy) ?_;cbv;refine dE (Gh.adopt 6 58 14 rfl) ?_;cbv;refine dE (Gh.plain 10 rfl) ?_;cbv
     (refine .q9 ?_;cbv;exact .inl (.f9 hK))
   have htx:=htx (CF hj);clear hj htn;cbv
   all_goals
    (refine Bg hle () trivial ?_;try dsimp only)
    cbv
   all_goals
    refine qL.mk (.inr ⟨by rw[jJ (by omega),jJ (by omega),jJ (by omega),jJ (by omega),jJ (by omega),jJ (by omega)];rfl,?_⟩);cbv
   all_goals
    have hK:=htx cust (.refl _) false ⟨rc,rL⟩ cust deliv ⟨number,seller,buyer,house,dfrm,dto,dboxes,state,rel⟩ [] (by
     unfold gB;dsimp only;rw[aE (by omega),aE (by omega),aE (by omega),aE (by omega),aE (by omega),aE (by omega)])
    refine dE (Gh.back 2 [9] gO ⟨number,seller,buyer,house,dfrm,dto,dboxes,state,rel⟩ rfl hy) ?_;cbv;refine dE (Gh.adopt 6 58 14 rfl) ?_;cbv;refine dE (Gh.plain 11 rfl) ?_;cbv
    (refine .q9 ?_;cbv;exact .inl (.f9 hK))
def NQ (κ:Int) (G:HQ→List cZ→Bool×Cr×Dp×List dR):dO:=sG (fun q:HQ=>[.ptr 0 0,.ptr 8 0,eM q.l,.i q.day]) (fun q=>M0 q.C q.i q.d) (fun q=>q.l.kind=κ∧Ve q) (fun q (L0:List cZ)=>L0.Perm q.C.cust) (fun _ _=>.hd 9) fun q L0=>N1 (G q L0).1 (G q L0).2.1 q.C.cust q.i (G q L0).2.2.1 (G q L0).2.2.2
theorem zM {P:bI}{f:Nat}{κ:Int}{F:HQ→Cr×Dp×List dR}(h:bK P f (gL (fun k=>k=κ) F)):bK P f (NQ κ fun q _=>(false,F q)):=fun args H K ⟨q,h1,h2,⟨hk,hp⟩,hK⟩=>h args H K ⟨q,h1,h2,⟨hk,hp.1.1⟩,hK q.C.cust (.refl _)⟩
theorem PD {P:bI}{f:Nat}{κ:Int}{G:HQ→List cZ→Bool×Cr×Dp×List dR}(h:bK P f (uA (fun k=>k=κ) G)):bK P f (NQ κ G):=fun args H K ⟨q,h1,h2,⟨hk,hp⟩,hK⟩=>h args H K ⟨q,h1,h2,⟨hk,hp.1⟩,hK⟩
theorem lV (P:bI) (hle:bK P 48 rD) (hst:bK P 49 qT) {κ:Int}{f n:Nat}{G:HQ→List cZ→Bool×Cr×Dp×List dR}(hmc:dH P f) (hh:bK P f (NQ κ G)) (hfi:oQ (.i κ) AD 0=some (some n)) (hln:AD[n]?=some (.i κ,.clo f [])) (hsp:∀q L0,Ah q (G q L0).2) (hkx:∀q L0,q.l.kind=κ→gB q L0=G q L0):bO P X3 (sU fun k=>k=κ):=by
 intro args H K hc;obtain⟨⟨⟨name,parties,deals,⟨rc,rL⟩,cust,deliv⟩,⟨frm,to,lnumber,kind,ack,deal,text,party,index,day0,cur,amt,docs,boxes⟩,day⟩,rfl,rfl,hp,hK⟩:=hc;refine⟨cM,?_⟩;dsimp only at hp hK⊢;obtain⟨hk,⟨hnd,hfew,hall,hnum,hbx,hbz⟩,hcu,hdl⟩:=hp;dsimp only at hk hnd hfew hall hnum hbx hbz hcu hdl;subst hk;have hKn:∀L0,L0.Perm cust→iG ⟨name,parties,deals,⟨rc,rL⟩,cust,deliv⟩ ⟨frm,to,lnumber,kind,ack,deal,text,party,index,day0,cur,amt,docs,boxes⟩ day L0=(false,⟨name,parties,deals,⟨rc,rL⟩,cust,deliv⟩,[])→K (.sl 14 []) (yL ⟨name,parties,deals,⟨rc,rL⟩,cust,deliv⟩):=fun L0 hp h=>by
  have:=hK L0 hp;rw[h]at this;exact this
 cbv
 all_goals
  refine fB Dp.number (fun _=>rfl) (fun i y hai hy hky=>?_) (fun hai=>?_)<;>try dsimp only at *
  rotate_left
  ·have hK:=hKn cust (.refl _) (sS hai);cbv
   all_goals
    refine dE (Gh.adopt 6 58 14 rfl) ?_;cbv;refine dE (Gh.plain 9 rfl) ?_;cbv
    (refine .q9 ?_;cbv;exact .inl (.f9 hK))
  have hn1:=hnum y (aC hy);have hb1:=hbx y (aC hy);have htx:lF parties frm=true→∀L0,L0.Perm cust→∀b R cu dl d2 ls,gB ⟨⟨name,parties,deals,⟨rc,rL⟩,cust,deliv⟩,i,y,⟨frm,to,lnumber,kind,ack,deal,text,party,index,day0,cur,amt,docs,boxes⟩,day⟩ L0=(b,⟨name,parties,deals,R,cu,dl⟩,d2,ls)→K (.sl 14 (bJ eM (cI y.number day ls))) (OS b ⟨name,parties,deals.set i d2,R,cu,dl⟩ cust):=fun hp L0 hpm b R cu dl d2 ls hkx=>by
   have h1:=hK L0 hpm;rw[FT hai hy hp hkx]at h1;exact h1
  have htn:lF parties frm=false→K (.sl 14 []) (yL ⟨name,parties,deals,⟨rc,rL⟩,cust,deliv⟩):=fun h=>hKn cust (.refl _) (vI h)
  clear hK hKn;obtain⟨number,seller,buyer,house,dfrm,dto,dboxes,state,rel⟩:=y;dsimp only at hky hn1 hb1 htx;subst hky;cbv
  all_goals
   refine oO (fun j hj=>?_) fun hno=>?_
   rotate_left
   ·have hK:=htn (uZ hno);cbv
    all_goals
     refine dE (Gh.back0 2 [9] gO rfl hy) ?_;cbv;refine dE (Gh.adopt 6 58 14 rfl) ?_;cbv;refine dE (Gh.plain 10 rfl) ?_;cbv
     (refine .q9 ?_;cbv;exact .inl (.f9 hK))
   have htx:=htx (CF hj);clear hj htn;cbv
   all_goals
    (refine Bg hle () trivial ?_;try dsimp only)
    cbv
   all_goals
    refine qL.mk (.inl ⟨n,_,_,hfi,hln,?_⟩);cbv;repeat'((first|refine And.intro ?_ ?_|fail)<;>cbv)
   all_goals first
   |exact hmc
   |skip
   all_goals
    refine eQ hh (⟨⟨name,parties,deals,⟨rc,rL⟩,cust,deliv⟩,i,⟨number,seller,buyer,house,dfrm,dto,dboxes,state,rel⟩,⟨frm,to,lnumber,kind,ack,number,text,party,index,day0,cur,amt,docs,boxes⟩,day⟩:HQ) [0,1,2,3,4,5,6,7,9] ⟨rfl,⟨⟨⟨hn1,hfew,hall⟩,hcu,hb1⟩,hdl⟩⟩ rfl rfl (by decide) rfl rfl rfl rfl rfl ?_;intro L0 hp0;obtain⟨⟨rc2,M⟩,cu,dl,st,rl,ls,hsh,hls⟩:=hsp (⟨⟨name,parties,deals,⟨rc,rL⟩,cust,deliv⟩,i,⟨number,seller,buyer,house,dfrm,dto,dboxes,state,rel⟩,⟨frm,to,lnumber,kind,ack,number,text,party,index,day0,cur,amt,docs,boxes⟩,day⟩:HQ) L0;obtain⟨mv,hmv⟩:∃b,b=(G (⟨⟨name,parties,deals,⟨rc,rL⟩,cust,deliv⟩,i,⟨number,seller,buyer,house,dfrm,dto,dboxes,state,rel⟩,⟨frm,to,lnumber,kind,ack,number,text,party,index,day0,cur,amt,docs,boxes⟩,day⟩:HQ) L0).1:=⟨_,rfl⟩
    have hsh2:G (⟨⟨name,parties,deals,⟨rc,rL⟩,cust,deliv⟩,i,⟨number,seller,buyer,house,dfrm,dto,dboxes,state,rel⟩,⟨frm,to,lnumber,kind,ack,number,text,party,index,day0,cur,amt,docs,boxes⟩,day⟩:HQ) L0=(mv,⟨name,parties,deals,⟨rc2,M⟩,cu,dl⟩,⟨number,seller,buyer,house,dfrm,dto,dboxes,st,rl⟩,ls):=Prod.ext hmv.symm hsh;have hK:=htx L0 hp0 mv ⟨rc2,M⟩ cu dl ⟨number,seller,buyer,house,dfrm,dto,dboxes,st,rl⟩ ls ((hkx _ _ rfl).trans hsh2);obtain⟨L9,hL9⟩:∃L,L=cI number day ls:=⟨_,rfl⟩
    try dsimp only at hK
    rw[←hL9]at hK;rw[hsh2];clear hmv hsh hsh2;cases mv with
    |false=>
     cbv
     (refine fW hst ((ls,⟨number,seller,buyer,house,dfrm,dto,dboxes,st,rl⟩,day):List dR×Dp×Int) [11,9] hls ?_;try dsimp only)
     rw[←hL9];cbv;refine dE (Gh.back 2 [9] gO ⟨number,seller,buyer,house,dfrm,dto,dboxes,st,rl⟩ rfl hy) ?_;cbv;refine dE (Gh.plain 11 rfl) ?_;cbv
     (refine .q9 ?_;cbv;exact .inl (.f9 hK))
    |true=>
     cbv
     (refine fW hst ((ls,⟨number,seller,buyer,house,dfrm,dto,dboxes,st,rl⟩,day):List dR×Dp×Int) [11,9] hls ?_;try dsimp only)
     rw[←hL9];cbv;refine dE (Gh.back 2 [9] gO ⟨number,seller,buyer,house,dfrm,dto,dboxes,st,rl⟩ rfl hy) ?_;cbv;refine dE (Gh.plain 11 rfl) ?_;cbv
     (refine .q9 ?_;cbv;exact .inl (eV.sel [0,1,2,3,4,5,6,7,12,13] _ _ (by rfl) (by rfl) (by decide) (by rfl) cM (by rfl) (by rfl) (Le.refl _) (kF.refl _) hK))
theorem Qk (q:HQ) (L0:List cZ) (h:q.l.kind=4):gB q L0=oL q L0:=by unfold gB;rw[aF h]
theorem SK (q:HQ) (L0:List cZ) (h:q.l.kind=8):gB q L0=(false,mV q):=by unfold gB;rw[h];rfl
theorem TO (q:HQ) (L0:List cZ) (h:q.l.kind=20):gB q L0=pS q L0:=by unfold gB;rw[h];rfl
theorem R8 (q:HQ) (L0:List cZ) (h:q.l.kind=19):gB q L0=(false,BE q):=by unfold gB;rw[h];rfl
theorem Ps (q:HQ) (L0:List cZ) (h:q.l.kind=23):gB q L0=(false,qI q):=by unfold gB;rw[h];rfl
theorem PJ (q:HQ) (L0:List cZ) (h:q.l.kind=24):gB q L0=(false,qX q):=by unfold gB;rw[h];rfl
structure VP (P:bI):Prop where
 m1:dH P 79
 h1:bK P 79 (uA (fun k=>k=4) oL)
 m2:dH P 80
 h2:bK P 80 (gL (fun k=>k=8) mV)
 m3:dH P 81
 h3:bK P 81 (AB (fun k=>k=20) pS)
 m4:dH P 82
 h4:bK P 82 (gL (fun k=>k=19) BE)
 m5:dH P 83
 h5:bK P 83 (gL (fun k=>k=23) qI)
 m6:dH P 84
 h6:bK P 84 (gL (fun k=>k=24) qX)
theorem JW {P:bI}(hle:bK P 48 rD) (hst:bK P 49 qT) (h:VP P):bO P X3 (sU fun _=>True):=by
 intro args H0 K hc;obtain⟨q,h1,h2,⟨-,h4⟩,h5⟩:=hc;by_cases k1:q.l.kind=4
 ·exact lV P hle hst h.m1 (PD h.h1) rfl rfl (FD) Qk args H0 K ⟨q,h1,h2,⟨k1,h4⟩,h5⟩
 by_cases k2:q.l.kind=8
 ·exact lV P hle hst h.m2 (zM h.h2) rfl rfl (fun q _=>FY q) SK args H0 K ⟨q,h1,h2,⟨k2,h4⟩,h5⟩
 by_cases k3:q.l.kind=20
 ·exact lV P hle hst h.m3 (h.h3) rfl rfl (Em) TO args H0 K ⟨q,h1,h2,⟨k3,h4⟩,h5⟩
 by_cases k4:q.l.kind=19
 ·exact lV P hle hst h.m4 (zM h.h4) rfl rfl (fun q _=>Hs q) R8 args H0 K ⟨q,h1,h2,⟨k4,h4⟩,h5⟩
 by_cases k5:q.l.kind=23
 ·exact lV P hle hst h.m5 (zM h.h5) rfl rfl (fun q _=>EA q) Ps args H0 K ⟨q,h1,h2,⟨k5,h4⟩,h5⟩
 by_cases k6:q.l.kind=24
 ·exact lV P hle hst h.m6 (zM h.h6) rfl rfl (fun q _=>Ep q) PJ args H0 K ⟨q,h1,h2,⟨k6,h4⟩,h5⟩
 exact Hy P hle hst args H0 K ⟨q,h1,h2,⟨fun h=>by rcases h with h|h|h|h|h|h<;>contradiction,h4⟩,h5⟩
def Dy:dO:=spec (fun _:Cr=>[.ptr 0 0]) yL (fun _=>True) (fun _=>.i 1) yL
theorem HO (P:bI):bO P ZI Dy:=by
 intro args H K hc;obtain⟨⟨name,parties,deals,⟨rc,rL⟩,cust,deliv⟩,rfl,rfl,hp,hK⟩:=hc;refine⟨cM,?_⟩;dsimp only at hp hK⊢;cbv
 (refine .q9 ?_;cbv;exact .inl (.f9 hK))
def CK:dO:=spec (fun i:Cr×Int=>[.ptr 0 0,.i i.2]) (fun i=>yL i.1) (fun _=>True) (fun _=>.v (.slice none 0 0)) fun i=>yL i.1
theorem GO (P:bI):bO P Zf CK:=by
 intro args H K hc;obtain⟨⟨⟨name,parties,deals,⟨rc,rL⟩,cust,deliv⟩,day⟩,rfl,rfl,hp,hK⟩:=hc;refine⟨cM,?_⟩;dsimp only at hp hK⊢;cbv
 (refine .q9 ?_;cbv;exact .inl (.f9 hK))
def I5:dO:=spec (fun _:Cr=>[.ptr 0 0]) yL (fun C=>C.deliv.length≤1000000) (fun C=>.sl 5 (bJ dB C.deliv)) yL
theorem Lw (P:bI) (hc:bK P 52 (mD 5 72)):bO P Za I5:=by
 intro args H K hc;obtain⟨⟨name,parties,deals,⟨rc,rL⟩,cust,deliv⟩,rfl,rfl,hp,hK⟩:=hc;refine⟨cM,?_⟩;dsimp only at hp hK⊢
 try dsimp only at hp
 cbv
 (refine ZN hc _ ⟨by rw[cD];show deliv.length≤maxLen;unfold maxLen;omega,by rw[cD];show deliv.length * 72≤140737488355328;omega⟩ ?_;try dsimp only)
 cbv
 (refine .q9 ?_;cbv;exact .inl (.f9 hK))
def tV:dO:=spec (fun q:bH×iE=>[.str q.1,Gy q.2]) (fun _=>[]) (fun q=>nK q.2) (fun _=>.ptr 0 0) fun q=>yL (KU q.2.su q.1)
theorem Kb {l:List bH}{k:Nat}{x:bH}(h:l[k]?=some x):wM (l.take (k+1))=N0 (wM (l.take k)) x:=by
 unfold wM;rw[cY h,List.foldl_append];rfl
theorem Kp {name:bH}{l:List De}{k:Nat}{x:De}(h:l[k]?=some x):vU name (l.take (k+1))=F3 name (vU name (l.take k)) x:=by
 unfold vU;rw[cY h,List.foldl_append];rfl
theorem LD {α β:Type}{f:α→β}{L:List α}{i:Nat}{x:α}(h:L[i]?=some x):(bJ f L).set i (f x)=bJ f L:=by
 obtain⟨hl,rfl⟩:=aA.1 h;rw[dX];refine List.ext_getElem (by simp) fun j h1 h2=>?_
 rw[List.getElem_set]
 split
 ·subst_vars;simp
 ·rfl
theorem F6 (P:bI) (hrn:bK P 50 Tz) (hcn:bK P 51 Jn):bO P Zp tV:=by
 intro args H K hc;obtain⟨⟨name,⟨parties,deals,funds,rest,holidays⟩⟩,rfl,rfl,hp,hK⟩:=hc;refine⟨cM,?_⟩;dsimp only at hp hK⊢;obtain⟨hpa,hde,hpn,hok⟩:=hp;dsimp only at hpa hde hpn hok;obtain⟨np,hnp⟩:∃n:Nat,n=parties.length:=⟨_,rfl⟩
 obtain⟨nd,hnd⟩:∃n:Nat,n=deals.length:=⟨_,rfl⟩
 cbv
 (refine Bg hrn name trivial ?_;try dsimp only)
 cbv
 (refine Bg hcn () trivial ?_;try dsimp only)
 cbv;repeat'((first|refine .k fun z hz=>?_|fail)<;>cbv)
 obtain⟨nms,hnms⟩:∃l,l=parties.map Gu.name:=⟨_,rfl⟩
 obtain⟨ds,hds⟩:∃l,l=deals.map jM.de:=⟨_,rfl⟩
 have hdsl:ds.length=deals.length:=by rw[hds,aJ]
 replace hK:K (.ptr 0 0) (yL ⟨name,wM nms,vU name ds,⟨name,[]⟩,[],[]⟩):=by rw[hnms,hds];exact hK
 have hnl:nms.length=parties.length:=by rw[hnms,aJ]
 refine bS [] (fun p:{ k:Nat // k≤parties.length }=>[(26,.i (nI p.1))]) (fun p=>[.blk 29 [.sl 3 (bJ jP parties),.sl 17 (bJ iY deals),.sl 3 (bJ kA funds),.sl 1 (bJ dD rest),.sl 1 (bJ dD holidays)],.map 70 (bJ iP (wM (nms.take p.1))),.pool 116 [] [],.blk 122 [.str name,.ph 4],.pool 120 [] [],.blk 174 [.ph 6],.pool 172 [] [],.blk 118 [.str name,.hd 1,.ph 2,.ptr 3 0,.ptr 5 0,.v (.slice none 0 0)]]) (fun p=>fE np p.1) ⟨0,aI _⟩ ?_;rintro ⟨k,hk⟩;dsimp only at hk⊢;obtain⟨L1,hL1⟩:∃l,l=wM (nms.take k):=⟨_,rfl⟩
 rw[←hL1];rcases aL k parties.length with hks|hks
 ·obtain⟨p,hx⟩:=cJ hks;have hx2:nms[k]?=some p.name:=by rw[hnms,aD,hx];rfl
  have hsn:=Kb hx2;rw[←hL1]at hsn;obtain⟨L2,hL2⟩:∃l,l=wM (nms.take (k+1)):=⟨_,rfl⟩
  obtain⟨pname,pq,pr⟩:=p;dsimp only at hsn;cbv;repeat'((first|refine .e ?_|refine .y fun h=>?_|fail)<;>cbv)
  refine oO (fun j hj=>?_) fun hno=>?_
  ·have e:L2=L1:=by rw[hL2,hsn];exact aF (CF hj)
   obtain⟨y,hy,hyp⟩:=eL hj;obtain rfl:y=pname:=hyp;rw[←hL2,e]at hsn;clear hj;cbv;repeat'((first|refine .k fun z hz=>?_|refine .ms fun ms hms=>?_|fail)<;>cbv)
   obtain rfl:z=nI (k+1):=bQ;obtain rfl:ms=bJ iP (wM (nms.take (k+1))):=by rw[←hL2,e];exact hms.trans (LD (f:=iP) hy)
   exact bM ⟨k+1,hks⟩ (bN (by omega))
  ·have e:L2=L1++[pname]:=by rw[hL2,hsn];exact aE (by rw[uZ hno];decide)
   clear hsn;cbv;repeat'((first|refine .k fun z hz=>?_|refine .ms fun ms hms=>?_|fail)<;>cbv)
   obtain rfl:z=nI (k+1):=bQ;obtain rfl:ms=bJ iP (wM (nms.take (k+1))):=by rw[←hL2,e,cB,cE];exact hms
   exact bM ⟨k+1,hks⟩ (bN (by omega))
 obtain rfl:k=np:=by omega
 have eT:L1=wM nms:=by rw[hL1,bC (by omega)]
 clear hL1;obtain⟨T,hT⟩:∃t,t=wM nms:=⟨_,rfl⟩
 rw[←hT]at eT;subst eT;cbv;repeat'((first|refine .n fun h=>?_|refine .k fun z hz=>?_|fail)<;>cbv)
 refine bS [] (fun p:{ k:Nat // k≤deals.length }=>[(40,.i (nI p.1))]) (fun p=>[.blk 29 [.sl 3 (bJ jP parties),.sl 17 (bJ iY deals),.sl 3 (bJ kA funds),.sl 1 (bJ dD rest),.sl 1 (bJ dD holidays)],.map 70 (bJ iP L1),.pool 116 (bJ gO (vU name (ds.take p.1))) [],.blk 122 [.str name,.ph 4],.pool 120 [] [],.blk 174 [.ph 6],.pool 172 [] [],.blk 118 [.str name,.hd 1,.ph 2,.ptr 3 0,.ptr 5 0,.v (.slice none 0 0)]]) (fun p=>fE nd p.1) ⟨0,aI _⟩ ?_;rintro ⟨j,hj⟩;dsimp only at hj⊢;obtain⟨D1,hD1⟩:∃l,l=vU name (ds.take j):=⟨_,rfl⟩
 rw[←hD1];rcases aL j deals.length with hjs|hjs
 rotate_left
 ·obtain rfl:D1=vU name ds:=by rw[hD1,bC (by omega)]
  obtain⟨D1,hD1⟩:∃d,d=vU name ds:=⟨_,rfl⟩
  rw[←hT,←hD1]at hK;rw[←hD1];cbv;repeat'((first|refine .n fun h=>?_|fail)<;>cbv)
  refine dE (Gh.adoptC 7 5 77 5 rfl rfl) ?_;cbv;refine dE (Gh.publish 8 rfl) ?_;cbv
  (refine .q9 ?_;cbv;exact .inl (eV.sel [7,1,2,3,4,5,6,8] _ _ (by rfl) (by rfl) (by decide) (by rfl) cM (by rfl) (by rfl) (Le.refl _) (kF.refl _) hK))
 obtain⟨d,hx⟩:=cJ hjs;have hokd:=hok d (aC hx);have hx2:ds[j]?=some d.de:=by rw[hds,aD,hx];rfl
 have hsn:=Kp (name:=name) hx2;rw[←hD1]at hsn;have hbl:=hokd.bx;obtain⟨mk,hmk⟩:∃m,m=d.marks:=⟨_,rfl⟩
 have hF:F3 name D1 d.de=if (gV Dp.number D1 d.number).isSome=true∨d.carrier≠name then D1 else D1++[⟨d.number,d.seller,d.buyer,d.house,d.frm,d.to,mk,0,decide (d.house=eS)⟩]:=by rw[hmk];rfl
 rw[hF]at hsn;clear hF;obtain⟨dn,dsel,dbuy,dcar,diss,dhou,dins,dfrm,dto,dcur,damt,dbx,dterm,dlat,dexp,dten,dduty⟩:=d;dsimp only at hsn hbl;cbv;repeat'((first|refine .e ?_|refine .y fun h=>?_|fail)<;>cbv)
 all_goals
  refine fB Dp.number (fun _=>rfl) (fun i y hai hy hky=>?_) (fun hai=>?_)<;>try dsimp only at *
  ·rw[aF (.inl (by rw[nL hai hy];rfl))]at hsn;obtain⟨number,seller,buyer,house,dfrm2,dto2,dboxes,state,rel⟩:=y;rw[←hsn]at hy⊢;cbv;repeat'((first|refine .k fun z hz=>?_|fail)<;>cbv)
   refine dV (Gh.back0 2 [9] gO rfl hy) ?_;cbv;obtain rfl:z=nI (j+1):=bQ;exact bM ⟨j+1,hjs⟩ (bN (by omega))
  ·have hno:(gV Dp.number D1 dn).isSome=false:=by rw[sM hai];rfl
   have hmk2:mk=dbx.map IO.mark:=by rw[hmk];rfl
   have hmkl:mk.length=dbx.length:=by rw[hmk2,aJ]
   obtain⟨nb,hnb⟩:∃n:Nat,n=dbx.length:=⟨_,rfl⟩
   clear hmk hokd hx hx2;cbv;repeat'((first|refine .mk (fun h=>?_) fun h=>?_|refine .k fun z hz=>?_|fail)<;>cbv)
   ·have hb:decide (dhou=eS)=true:=aH (by assumption);rw[aE (fun h=>h.elim (fun h=>by rw[hno]at h;cases h) fun h=>h (by assumption)),hb]at hsn;clear hb;refine fX (Gh.adoptC 9 6 9 1 rfl rfl) ?_;cbv;refine bS [10] (fun p:{ k:Nat // k≤dbx.length }=>[(81,.i (nI p.1))]) (fun p=>[.blk 29 [.sl 3 (bJ jP parties),.sl 17 (bJ iY deals),.sl 3 (bJ kA funds),.sl 1 (bJ dD rest),.sl 1 (bJ dD holidays)],.map 70 (bJ iP L1),.pool 116 (bJ gO D1) [],.blk 122 [.str name,.ph 4],.pool 120 [] [],.blk 174 [.ph 6],.pool 172 [] [],.blk 118 [.str name,.hd 1,.ph 2,.ptr 3 0,.ptr 5 0,.v (.slice none 0 0)],.blk 67 [.str dn,.str dsel,.str dbuy,.str dcar,.str diss,.str dhou,.str dins,.str dfrm,.str dto,.str dcur,.i damt,.sl 3 (bJ Ga dbx),.i dterm,.i dlat,.i dexp,.i dten,.i dduty],.blk 136 [.str dn,.str dsel,.str dbuy,.str dhou,.str dfrm,.str dto,.hd 10,.i 0,.bl true],.row 9 1 (bJ .str (mk.take p.1))]) (fun p=>fE nb p.1) ⟨0,aI _⟩ ?_;rintro ⟨m,hm⟩;dsimp only at hm⊢;obtain⟨M1,hM1⟩:∃l,l=mk.take m:=⟨_,rfl⟩
    have hM1l:M1.length≤70:=by rw[hM1,aS];omega
    rw[←hM1];rcases aL m dbx.length with hms|hms
    ·obtain⟨bx,hxb⟩:=cJ hms;have hs3:mk.take (m+1)=M1++[bx.mark]:=by rw[hM1,cY (l:=bx.mark) (by rw[hmk2,aD,hxb];rfl)]
     clear hM1;obtain⟨bmk,bq,br⟩:=bx;dsimp only at hs3;cbv;repeat'((first|refine .e ?_|refine .y fun h=>?_|refine .k fun z hz=>?_|refine .zl fun zs hzs hzl=>?_|fail)<;>cbv)
     all_goals
      obtain rfl:z=nI (m+1):=bQ;obtain rfl:zs=bJ .str (mk.take (m+1)):=by(rw[hs3,cB,cE];exact hzs)
      exact bM ⟨m+1,hms⟩ (bN (by omega))
    ·obtain rfl:M1=mk:=by rw[hM1,bC (by omega)]
     clear hM1;cbv;repeat'((first|refine .n fun h=>?_|fail)<;>cbv)
     all_goals
      refine oK Dp.number (fun _=>rfl) hai (fun es n2 hes hn2=>?_);cbv;repeat'((first|refine .k fun z hz=>?_|fail)<;>cbv)
      refine dV (Gh.plain 10 rfl) ?_;cbv;refine dV (Gh.backN2 2 [9] gO ⟨dn,dsel,dbuy,dhou,dfrm,dto,M1,0,true⟩ hes hn2 hsn) ?_;cbv;obtain rfl:z=nI (j+1):=bQ;exact bM ⟨j+1,hjs⟩ (bN (by omega))
   ·have hb:decide (dhou=eS)=false:=aG (by assumption);rw[aE (fun h=>h.elim (fun h=>by rw[hno]at h;cases h) fun h=>h (by assumption)),hb]at hsn;clear hb;refine fX (Gh.adoptC 9 6 9 1 rfl rfl) ?_;cbv;refine bS [10] (fun p:{ k:Nat // k≤dbx.length }=>[(81,.i (nI p.1))]) (fun p=>[.blk 29 [.sl 3 (bJ jP parties),.sl 17 (bJ iY deals),.sl 3 (bJ kA funds),.sl 1 (bJ dD rest),.sl 1 (bJ dD holidays)],.map 70 (bJ iP L1),.pool 116 (bJ gO D1) [],.blk 122 [.str name,.ph 4],.pool 120 [] [],.blk 174 [.ph 6],.pool 172 [] [],.blk 118 [.str name,.hd 1,.ph 2,.ptr 3 0,.ptr 5 0,.v (.slice none 0 0)],.blk 67 [.str dn,.str dsel,.str dbuy,.str dcar,.str diss,.str dhou,.str dins,.str dfrm,.str dto,.str dcur,.i damt,.sl 3 (bJ Ga dbx),.i dterm,.i dlat,.i dexp,.i dten,.i dduty],.blk 136 [.str dn,.str dsel,.str dbuy,.str dhou,.str dfrm,.str dto,.hd 10,.i 0,.bl false],.row 9 1 (bJ .str (mk.take p.1))]) (fun p=>fE nb p.1) ⟨0,aI _⟩ ?_;rintro ⟨m,hm⟩;dsimp only at hm⊢;obtain⟨M1,hM1⟩:∃l,l=mk.take m:=⟨_,rfl⟩
    have hM1l:M1.length≤70:=by rw[hM1,aS];omega
    rw[←hM1];rcases aL m dbx.length with hms|hms
    ·obtain⟨bx,hxb⟩:=cJ hms;have hs3:mk.take (m+1)=M1++[bx.mark]:=by rw[hM1,cY (l:=bx.mark) (by rw[hmk2,aD,hxb];rfl)]
     clear hM1;obtain⟨bmk,bq,br⟩:=bx;dsimp only at hs3;cbv;repeat'((first|refine .e ?_|refine .y fun h=>?_|refine .k fun z hz=>?_|refine .zl fun zs hzs hzl=>?_|fail)<;>cbv)
     all_goals
      obtain rfl:z=nI (m+1):=bQ;obtain rfl:zs=bJ .str (mk.take (m+1)):=by(rw[hs3,cB,cE];exact hzs)
      exact bM ⟨m+1,hms⟩ (bN (by omega))
    ·obtain rfl:M1=mk:=by rw[hM1,bC (by omega)]
     clear hM1;cbv;repeat'((first|refine .n fun h=>?_|fail)<;>cbv)
     all_goals
      refine oK Dp.number (fun _=>rfl) hai (fun es n2 hes hn2=>?_);cbv;repeat'((first|refine .k fun z hz=>?_|fail)<;>cbv)
      refine dV (Gh.plain 10 rfl) ?_;cbv;refine dV (Gh.backN2 2 [9] gO ⟨dn,dsel,dbuy,dhou,dfrm,dto,M1,0,false⟩ hes hn2 hsn) ?_;cbv;obtain rfl:z=nI (j+1):=bQ;exact bM ⟨j+1,hjs⟩ (bN (by omega))
   ·rw[aF (.inr (by assumption))]at hsn;obtain rfl:z=nI (j+1):=bQ;rw[←hsn];exact bM ⟨j+1,hjs⟩ (bN (by omega))
def tC:dO:=spec (fun q:dR×Int=>[eM q.1,.i q.2]) (fun _=>[]) (fun q=>mH q.1.kind) (fun q=>.sl 14 (bJ eM (cI q.1.deal q.2 (eW fN q.1)))) fun _=>[]
theorem rO {xs:List AV}{x:Int}{K:Nat→AV→Prop}(m:Nat) {u:AV}(hx:x=m) (hu:xs[m]?=some u) (k:K m u):cC xs x K:=⟨m,u,hx,hu,k⟩
theorem H4 (P:bI) (hn:bK P 33 D6):bO P W9 tC:=by
 intro args H K hc;obtain⟨⟨⟨frm,to,number,kind,ack,deal,text,party,index,day0,cur,amt,docs,boxes⟩,day⟩,rfl,rfl,hp,hK⟩:=hc;refine⟨cM,?_⟩;dsimp only at hp hK⊢
 try dsimp only at hp
 replace hK:K (.sl 14 (bJ eM [⟨eS,frm,0,22,0,deal,fN kind,party,index,day,eS,0,[],[]⟩])) []:=hK;rcases hp with rfl|rfl|rfl|rfl
 all_goals
  cbv
  (refine ZN hn () trivial ?_;try dsimp only)
  cbv
  first
  |(refine rO 8 rfl rfl ?_
    cbv;refine dE (Gh.leAt 1 (.row 58 14 (bJ eM [⟨eS,frm,0,22,0,deal,fN 8,party,index,day,eS,0,[],[]⟩])) rfl (tA Bc)) ?_;cbv
    (refine .r9 (Gh.plain 1 rfl) ?_;cbv;exact .inl (.g9 hK)))
  |(refine rO 20 rfl rfl ?_
    cbv;refine dE (Gh.leAt 1 (.row 58 14 (bJ eM [⟨eS,frm,0,22,0,deal,fN 20,party,index,day,eS,0,[],[]⟩])) rfl (tA Bc)) ?_;cbv
    (refine .r9 (Gh.plain 1 rfl) ?_;cbv;exact .inl (.g9 hK)))
  |(refine rO 23 rfl rfl ?_
    cbv;refine dE (Gh.leAt 1 (.row 58 14 (bJ eM [⟨eS,frm,0,22,0,deal,fN 23,party,index,day,eS,0,[],[]⟩])) rfl (tA Bc)) ?_;cbv
    (refine .r9 (Gh.plain 1 rfl) ?_;cbv;exact .inl (.g9 hK)))
  |(refine rO 24 rfl rfl ?_
    cbv;refine dE (Gh.leAt 1 (.row 58 14 (bJ eM [⟨eS,frm,0,22,0,deal,fN 24,party,index,day,eS,0,[],[]⟩])) rfl (tA Bc)) ?_;cbv
    (refine .r9 (Gh.plain 1 rfl) ?_;cbv;exact .inl (.g9 hK)))
structure Qj where
 s:iE
 name:bH
 x:Cs
 l:dR
 day:Int
structure Uk (s:iE) (x:Cs):Prop where
 S:x.S.length=s.deals.length
 F:x.free.length=s.deals.length
 H:x.H.length≤40000
 D:x.D.length≤40000
 few:x.reg.bills.length≤256
 all:∀b∈x.reg.bills,inB b
structure Ro (q:Qj):Prop where
 s:nK q.s
 x:Uk q.s q.x
 sz:q.name.size≤60∧q.l.frm.size≤300∧q.l.deal.size≤300∧q.l.party.size≤300
def YK:Cs×List dR→AV
 |(x,l)=>.tup [Ei x,.sl 14 (bJ eM l)]
def N4 (κ:Int→Prop):dO:=spec (fun q:Qj=>[Gy q.s,.str q.name,Ei q.x,eM q.l,.i q.day]) (fun _=>[]) (fun q=>κ q.l.kind∧Ro q) (fun q=>YK (fD fN q.s.su q.name q.x q.l q.day)) fun _=>[]
theorem jH {nm:Int→bH}{s:Su}{name:bH}{x:Cs}{l:dR}{day:Int}(h:dP s name l.deal=none):fD nm s name x l day=(x,[]):=by unfold fD;rw[h]
theorem kP {nm:Int→bH}{s:Su}{name:bH}{x:Cs}{l:dR}{day:Int}(h:lF s.parties l.frm=false):fD nm s name x l day=(x,[]):=by
 unfold fD;cases dP s name l.deal with
 |none=>rfl
 |some i=>dsimp only;rw[aF h]
def nB (nm:Int→bH) (s:Su) (name:bH) (x:Cs) (l:dR) (day:Int) (i:Nat) (d:De) (st:Int) (fr:Bool):Cs×List dR:=
   if l.kind=4 then (if l.frm=d.seller∧st=0 then (match lE name d day x.H d.boxes with
    |none=>x
    |some H=>oU { x with H:=H } i 1) else x,[])
   else if l.kind=19 then (if d.house≠eS∧l.frm=d.house then { x with free:=x.free.set i true } else x,[])
   else if l.kind=8∨l.kind=20∨l.kind=23∨l.kind=24 then
    let k:Int:=if l.kind=8 then 1 else if l.kind=20 then 2 else if l.kind=23 then 3 else 4
    let a:=eZ k d l day
    if (kM x.reg a).2≠0∨(k=1∧(lF s.parties l.party=false∨l.party=l.frm)) then (x,cI l.deal day (eW nm l))
    else if k=2 then match iK (cV name l.frm d.to day) x.H d.boxes with
     |none=>(x,cI l.deal day (eW nm l))
     |some H=>if st≠3∨fr=false then (x,cI l.deal day (eW nm l)) else
      (oU { x with D:=x.D++H.drop x.H.length,H:=H,reg:=(kM x.reg a).1 } i 4,cI l.deal day [{ nR with to:=l.frm,kind:=21,boxes:=d.boxes }])
    else ({ x with reg:=(kM x.reg a).1 },cI l.deal day (if k=1 then [{ nR with to:=l.party,kind:=9,index:=l.index,party:=l.party }] else if k=4 then [{ nR with to:=l.frm,kind:=25,index:=l.index }] else []))
   else (x,[])
theorem mA {nm:Int→bH}{s:Su}{name:bH}{x:Cs}{l:dR}{day:Int}{i:Nat}{d:De}{st:Int}{fr:Bool}(h:dP s name l.deal=some i) (hp:lF s.parties l.frm=true) (h1:s.deals[i]?=some d) (h2:x.S[i]?=some st) (h3:x.free[i]?=some fr) :
  fD nm s name x l day=nB nm s name x l day i d st fr:=by
 unfold fD nB;rw[h];dsimp only;rw[aE (by rw[hp];decide),h1,h2,h3];rfl
theorem nM {l:List jM}{P:List bH}{name n:bH}{i:Nat}(h:dP ⟨P,l.map jM.de⟩ name n=some i):∃d,l[i]?=some d∧d.carrier=name∧d.number=n:=by
 obtain⟨e,he,h1,h2⟩:=oH h;have he:(l.map jM.de)[i]?=some e:=he;rw[aD]at he;cases hl:l[i]? with
 |none=>rw[hl]at he;cases he
 |some d=>rw[hl]at he;cases he;exact⟨d,rfl,h1,h2⟩
theorem vW (P:bI) (hde:bK P 13 mW) (hpa:bK P 17 nH) (hsh:bK P 99 zG):bO P Rm (N4 (fun z=>z=4)):=by
 intro args H0 K hc;obtain⟨⟨s,name,x,l,day⟩,rfl,rfl,⟨hkind,hs,hx,hnz,hfz,hdz,hpz⟩,hK⟩:=hc;refine⟨cM,?_⟩;dsimp only at hkind hs hx hnz hfz hdz hpz hK⊢;obtain⟨r,hr⟩:∃r,r=fD fN s.su name x l day:=⟨_,rfl⟩
 rw[←hr]at hK;have hdl:=hs.de;have hpl:=hs.pa;obtain⟨o,ho⟩:∃o,o=dP s.su name l.deal:=⟨_,rfl⟩
 obtain⟨b,hb⟩:∃b,b=lF s.su.parties l.frm:=⟨_,rfl⟩
 have hat:∀i,o=some i→∃d st fr,s.deals[i]?=some d∧x.S[i]?=some st∧x.free[i]?=some fr∧Gw d∧d.number=l.deal:=fun i hi=>by
  rw[ho]at hi;obtain⟨d,h1,h2,h3⟩:=nM hi;have hil:=(aA.1 h1).1;exact⟨d,_,_,h1,aB (by rw[hx.S];exact hil),aB (by rw[hx.F];exact hil),hs.ok d (aC h1),h3⟩
 have hrn:o=none→r=(x,[]):=fun h=>by rw[hr];exact jH (ho.symm.trans h)
 have hro:b=false→r=(x,[]):=fun h=>by rw[hr];exact kP (hb.symm.trans h)
 have hra:∀i d st fr,o=some i→b=true→s.deals[i]?=some d→x.S[i]?=some st→x.free[i]?=some fr→r=nB fN s.su name x l day i d.de st fr:=fun i d st fr h1 h2 h3 h4 h5=>by
  rw[hr];exact mA (ho.symm.trans h1) (hb.symm.trans h2) (by show (s.deals.map jM.de)[i]?=_;rw[aD,h3];rfl) h4 h5
 clear hr;obtain⟨parties,deals,funds,rest,holidays⟩:=s;obtain⟨S,free,⟨c,L⟩,H,D⟩:=x;obtain⟨frm,to,number,kind,ack,deal,text,party,index,day0,cur,amt,docs,boxes⟩:=l;dsimp only at hkind hfz hdz hpz hdl hpl ho hb hat hra;subst hkind;cbv
 (refine ZN hde ((⟨parties,deals,funds,rest,holidays⟩,name,deal):iE×bH×bH) hdl ?_;try dsimp only)
 rw[←ho];cases o with
 |none=>
  have hr:=hrn rfl;subst hr;cbv;repeat'((first|refine .y fun h=>?_|fail)<;>cbv)
  (refine .q9 ?_;cbv;exact .inl (.g9 hK))
 |some i=>
  obtain⟨d,st,fr,hd,hst,hfr,hokd,hnum⟩:=hat i rfl;cbv;repeat'((first|refine .n fun h=>?_|fail)<;>cbv)
  (refine ZN hpa ((⟨parties,deals,funds,rest,holidays⟩,frm):iE×bH) hpl ?_;try dsimp only)
  rw[←hb];cases b with
  |false=>
   have hr:=hro rfl;subst hr;cbv
   (refine .q9 ?_;cbv;exact .inl (.g9 hK))
  |true=>
   have hr:=hra i d st fr rfl rfl hd hst hfr;clear hra hro hrn hat
   unfold nB at hr;dsimp only at hr;rw[aF rfl]at hr;have hml:=gD hokd;have hbl:=hokd.bx;have hsz:=hokd.sz;have hshe:∀nm,(An ⟨⟨S,free,⟨c,L⟩,H,D⟩,d,i,nm,day⟩)=(match lE nm d.de day H d.de.boxes with
    |none=>(⟨S,free,⟨c,L⟩,H,D⟩:Cs)
    |some H2=>oU ⟨S,free,⟨c,L⟩,H2,D⟩ i 1):=fun nm=>rfl
   have hshp:Rq ⟨⟨S,free,⟨c,L⟩,H,D⟩,d,i,name,day⟩:=⟨by have:=hx.H;dsimp only at this⊢;omega,hokd,⟨by dsimp only;have:=hx.S;dsimp only at this;omega,(aA.1 hst).1⟩,by dsimp only;omega⟩
   rw[←hshe]at hr;have hrs:∀q:Prop,[Decidable q]→q→(if q then (An ⟨⟨S,free,⟨c,L⟩,H,D⟩,d,i,name,day⟩:Cs) else ⟨S,free,⟨c,L⟩,H,D⟩)=An ⟨⟨S,free,⟨c,L⟩,H,D⟩,d,i,name,day⟩:=fun q _ h=>aF h
   obtain⟨x9,hx9⟩:∃x9,x9=An ⟨⟨S,free,⟨c,L⟩,H,D⟩,d,i,name,day⟩:=⟨_,rfl⟩
   rw[←hx9]at hr;clear hshe hrs;obtain⟨dn,dsel,dbuy,dcar,diss,dhou,dins,dfrm,dto,dcur,damt,dbx,dterm,dlat,dexp,dten,dduty⟩:=d;dsimp only at hnum hbl hsz;subst hnum;have z3:(ByteArray.mk (Array.mk [98,108,45])).size=3:=rfl;cbv;repeat'((first|refine .e ?_|refine .y fun h=>?_|refine .mk (fun h=>?_) fun h=>?_|refine .u fun u hu hul=>?_|fail)<;>cbv)
   ·rw[aF ⟨by assumption,by assumption⟩]at hr
    (refine ZN hsh (⟨⟨S,free,⟨c,L⟩,H,D⟩,(⟨dn,dsel,dbuy,dcar,diss,dhou,dins,dfrm,dto,dcur,damt,dbx,dterm,dlat,dexp,dten,dduty⟩:jM),i,name,day⟩:Qi) hshp ?_;try dsimp only)
    rw[←hx9];obtain⟨S9,free9,⟨c9,L9⟩,H9,D9⟩:=x9;subst hr;cbv
    (refine .q9 ?_;cbv;exact .inl (.g9 hK))
   all_goals
    rw[aE (fun h=>by first|exact absurd h.1 (by assumption)|exact absurd h.2 (by assumption))]at hr;subst hr
    (refine .q9 ?_;cbv;exact .inl (.g9 hK))
theorem yO (P:bI) (hde:bK P 13 mW) (hpa:bK P 17 nH):bO P Rm (N4 (fun z=>z=19)):=by
 intro args H0 K hc;obtain⟨⟨s,name,x,l,day⟩,rfl,rfl,⟨hkind,hs,hx,hnz,hfz,hdz,hpz⟩,hK⟩:=hc;refine⟨cM,?_⟩;dsimp only at hkind hs hx hnz hfz hdz hpz hK⊢;obtain⟨r,hr⟩:∃r,r=fD fN s.su name x l day:=⟨_,rfl⟩
 rw[←hr]at hK;have hdl:=hs.de;have hpl:=hs.pa;obtain⟨o,ho⟩:∃o,o=dP s.su name l.deal:=⟨_,rfl⟩
 obtain⟨b,hb⟩:∃b,b=lF s.su.parties l.frm:=⟨_,rfl⟩
 have hat:∀i,o=some i→∃d st fr,s.deals[i]?=some d∧x.S[i]?=some st∧x.free[i]?=some fr∧Gw d∧d.number=l.deal:=fun i hi=>by
  rw[ho]at hi;obtain⟨d,h1,h2,h3⟩:=nM hi;have hil:=(aA.1 h1).1;exact⟨d,_,_,h1,aB (by rw[hx.S];exact hil),aB (by rw[hx.F];exact hil),hs.ok d (aC h1),h3⟩
 have hrn:o=none→r=(x,[]):=fun h=>by rw[hr];exact jH (ho.symm.trans h)
 have hro:b=false→r=(x,[]):=fun h=>by rw[hr];exact kP (hb.symm.trans h)
 have hra:∀i d st fr,o=some i→b=true→s.deals[i]?=some d→x.S[i]?=some st→x.free[i]?=some fr→r=nB fN s.su name x l day i d.de st fr:=fun i d st fr h1 h2 h3 h4 h5=>by
  rw[hr];exact mA (ho.symm.trans h1) (hb.symm.trans h2) (by show (s.deals.map jM.de)[i]?=_;rw[aD,h3];rfl) h4 h5
 clear hr;obtain⟨parties,deals,funds,rest,holidays⟩:=s;obtain⟨S,free,⟨c,L⟩,H,D⟩:=x;obtain⟨frm,to,number,kind,ack,deal,text,party,index,day0,cur,amt,docs,boxes⟩:=l;dsimp only at hkind hfz hdz hpz hdl hpl ho hb hat hra;subst hkind;cbv
 (refine ZN hde ((⟨parties,deals,funds,rest,holidays⟩,name,deal):iE×bH×bH) hdl ?_;try dsimp only)
 rw[←ho];cases o with
 |none=>
  have hr:=hrn rfl;subst hr;cbv;repeat'((first|refine .y fun h=>?_|fail)<;>cbv)
  (refine .q9 ?_;cbv;exact .inl (.g9 hK))
 |some i=>
  obtain⟨d,st,fr,hd,hst,hfr,hokd,hnum⟩:=hat i rfl;cbv;repeat'((first|refine .n fun h=>?_|fail)<;>cbv)
  (refine ZN hpa ((⟨parties,deals,funds,rest,holidays⟩,frm):iE×bH) hpl ?_;try dsimp only)
  rw[←hb];cases b with
  |false=>
   have hr:=hro rfl;subst hr;cbv
   (refine .q9 ?_;cbv;exact .inl (.g9 hK))
  |true=>
   have hr:=hra i d st fr rfl rfl hd hst hfr;clear hra hro hrn hat
   unfold nB at hr;dsimp only at hr;rw[aE (by decide),aF rfl]at hr;have hml:=gD hokd;have hbl:=hokd.bx;have hsz:=hokd.sz;have hfl:free.length≤8:=by have:=hx.F;dsimp only at this;omega
   obtain⟨F2,hF2⟩:∃F,F=free.set i true:=⟨_,rfl⟩
   rw[←hF2]at hr;obtain⟨dn,dsel,dbuy,dcar,diss,dhou,dins,dfrm,dto,dcur,damt,dbx,dterm,dlat,dexp,dten,dduty⟩:=d;dsimp only at hnum hbl hsz;subst hnum;have z3:(ByteArray.mk (Array.mk [98,108,45])).size=3:=rfl;cbv;repeat'((first|refine .e ?_|refine .n fun h=>?_|refine .y fun h=>?_|refine .mk (fun h=>?_) fun h=>?_|refine .o ?_|refine .u fun u hu hul=>?_|refine .z fun zs hzs=>?_|fail)<;>cbv)
   all_goals first
   |(rw[aE (fun h=>by first|exact absurd h.2 (by assumption)|exact h.1 (by assumption))]at hr
     subst hr
     (refine .q9 ?_;cbv;exact .inl (.g9 hK)))
   |(rw[aF ⟨fun h=>absurd h (by assumption),by assumption⟩]at hr
     subst hr;obtain rfl:zs=bJ mK F2:=by rw[hF2,dX mK (free.set i true),List.map_set,←dX];assumption
     refine dE (Gh.plain 6 rfl) ?_;cbv
     (refine .q9 ?_;cbv;exact .inl (.g9 hK)))
def GL (nm:Int→bH) (s:Su) (name:bH) (x:Cs) (l:dR) (day:Int) (i:Nat) (d:De) (st:Int) (fr:Bool) (k:Int):Cs×List dR:=
 if (kM x.reg (eZ k d l day)).2≠0∨(k=1∧(lF s.parties l.party=false∨l.party=l.frm)) then (x,cI l.deal day (eW nm l))
 else if k=2 then match iK (cV name l.frm d.to day) x.H d.boxes with
  |none=>(x,cI l.deal day (eW nm l))
  |some H=>if st≠3∨fr=false then (x,cI l.deal day (eW nm l)) else
   (oU { x with D:=x.D++H.drop x.H.length,H:=H,reg:=(kM x.reg (eZ k d l day)).1 } i 4,cI l.deal day [{ nR with to:=l.frm,kind:=21,boxes:=d.boxes }])
 else ({ x with reg:=(kM x.reg (eZ k d l day)).1 },cI l.deal day (if k=1 then [{ nR with to:=l.party,kind:=9,index:=l.index,party:=l.party }] else if k=4 then [{ nR with to:=l.frm,kind:=25,index:=l.index }] else []))
section
variable {nm:Int→bH}{s:Su}{name:bH}{x:Cs}{l:dR}{day:Int}{i:Nat}{d:De}{st:Int}{fr:Bool}{k:Int}{R9:Rg}{e9:Int}
theorem rR (h:l.kind=8∧k=1∨l.kind=20∧k=2∨l.kind=23∧k=3∨l.kind=24∧k=4):nB nm s name x l day i d st fr=GL nm s name x l day i d st fr k:=by
 have hk:(if l.kind=8 then (1:Int) else if l.kind=20 then 2 else if l.kind=23 then 3 else 4)=k:=by
  rcases h with ⟨h,rfl⟩|⟨h,rfl⟩|⟨h,rfl⟩|⟨h,rfl⟩<;>rw[h]<;>rfl
 unfold nB;rw[aE (by omega),aE (by omega),aF (by omega),←hk];rfl
theorem rC (hq:kM x.reg (eZ k d l day)=(R9,e9)) (h:e9≠0∨(k=1∧(lF s.parties l.party=false∨l.party=l.frm))):GL nm s name x l day i d st fr k=(x,cI l.deal day (eW nm l)):=by
 unfold GL;rw[hq];exact aF h
theorem Dn (hq:kM x.reg (eZ k d l day)=(R9,e9)) (h0:e9=0) (h1:¬(k=1∧(lF s.parties l.party=false∨l.party=l.frm))) (h2:¬k=2):GL nm s name x l day i d st fr k =
  ({ x with reg:=R9 },cI l.deal day (if k=1 then [{ nR with to:=l.party,kind:=9,index:=l.index,party:=l.party }] else if k=4 then [{ nR with to:=l.frm,kind:=25,index:=l.index }] else [])):=by
 unfold GL;rw[hq,aE (fun h=>by rcases h with h|h;exact h h0;exact h1 h),aE h2]
theorem FO (hq:kM x.reg (eZ 2 d l day)=(R9,e9)) (h0:e9=0):GL nm s name x l day i d st fr 2=match iK (cV name l.frm d.to day) x.H d.boxes with
  |none=>(x,cI l.deal day (eW nm l))
  |some H=>if st≠3∨fr=false then (x,cI l.deal day (eW nm l)) else
   (oU { x with D:=x.D++H.drop x.H.length,H:=H,reg:=R9 } i 4,cI l.deal day [{ nR with to:=l.frm,kind:=21,boxes:=d.boxes }]):=by
 unfold GL;rw[hq,aE (fun h=>by rcases h with h|h;exact h h0;exact absurd h.1 (by decide)),aF rfl]
end
theorem yG (P:bI) (hde:bK P 13 mW) (hpa:bK P 17 nH) (hdo:bK P 100 Hf) (hob:bK P 101 tC):bO P Rm (N4 (fun z=>z=8)):=by
 intro args H0 K hc;obtain⟨⟨s,name,x,l,day⟩,rfl,rfl,⟨hkind,hs,hx,hnz,hfz,hdz,hpz⟩,hK⟩:=hc;refine⟨cM,?_⟩;dsimp only at hkind hs hx hnz hfz hdz hpz hK⊢;obtain⟨r,hr⟩:∃r,r=fD fN s.su name x l day:=⟨_,rfl⟩
 rw[←hr]at hK;have hdl:=hs.de;have hpl:=hs.pa;obtain⟨o,ho⟩:∃o,o=dP s.su name l.deal:=⟨_,rfl⟩
 obtain⟨b,hb⟩:∃b,b=lF s.su.parties l.frm:=⟨_,rfl⟩
 have hat:∀i,o=some i→∃d st fr,s.deals[i]?=some d∧x.S[i]?=some st∧x.free[i]?=some fr∧Gw d∧d.number=l.deal:=fun i hi=>by
  rw[ho]at hi;obtain⟨d,h1,h2,h3⟩:=nM hi;have hil:=(aA.1 h1).1;exact⟨d,_,_,h1,aB (by rw[hx.S];exact hil),aB (by rw[hx.F];exact hil),hs.ok d (aC h1),h3⟩
 have hrn:o=none→r=(x,[]):=fun h=>by rw[hr];exact jH (ho.symm.trans h)
 have hro:b=false→r=(x,[]):=fun h=>by rw[hr];exact kP (hb.symm.trans h)
 have hra:∀i d st fr,o=some i→b=true→s.deals[i]?=some d→x.S[i]?=some st→x.free[i]?=some fr→r=nB fN s.su name x l day i d.de st fr:=fun i d st fr h1 h2 h3 h4 h5=>by
  rw[hr];exact mA (ho.symm.trans h1) (hb.symm.trans h2) (by show (s.deals.map jM.de)[i]?=_;rw[aD,h3];rfl) h4 h5
 clear hr;obtain⟨parties,deals,funds,rest,holidays⟩:=s;obtain⟨S,free,⟨c,L⟩,H,D⟩:=x;obtain⟨frm,to,number,kind,ack,deal,text,party,index,day0,cur,amt,docs,boxes⟩:=l;dsimp only at hkind hfz hdz hpz hdl hpl ho hb hat hra;subst hkind;cbv
 (refine ZN hde ((⟨parties,deals,funds,rest,holidays⟩,name,deal):iE×bH×bH) hdl ?_;try dsimp only)
 rw[←ho];cases o with
 |none=>
  have hr:=hrn rfl;subst hr;cbv;repeat'((first|refine .y fun h=>?_|fail)<;>cbv)
  (refine .q9 ?_;cbv;exact .inl (.g9 hK))
 |some i=>
  obtain⟨d,st,fr,hd,hst,hfr,hokd,hnum⟩:=hat i rfl;cbv;repeat'((first|refine .n fun h=>?_|fail)<;>cbv)
  (refine ZN hpa ((⟨parties,deals,funds,rest,holidays⟩,frm):iE×bH) hpl ?_;try dsimp only)
  rw[←hb];cases b with
  |false=>
   have hr:=hro rfl;subst hr;cbv
   (refine .q9 ?_;cbv;exact .inl (.g9 hK))
  |true=>
   have hr:=hra i d st fr rfl rfl hd hst hfr;clear hra hro hrn hat
   have hml:=gD hokd;have hbl:=hokd.bx;have hsz:=hokd.sz;have hxf:=hx.few;have hxa:=hx.all;obtain⟨bn,hbn⟩:∃b,b=gE d.number:=⟨_,rfl⟩
   have hRP:KQ (⟨c,L⟩,⟨1,index,day,bn,frm,party,cK.noBl⟩):=⟨(show (0:Int)≤1∧(1:Int)≤5 by decide),hxf,hxa,nD,⟨aI _,aI _,aI _,aI _,fun s hs=>(by cases hs)⟩,by(show party.size≤maxLen);unfold maxLen;omega⟩
   obtain⟨⟨⟨c9,L9⟩,e9⟩,hq9⟩:∃q,q=kM ⟨c,L⟩ ⟨1,index,day,bn,frm,party,cK.noBl⟩:=⟨_,rfl⟩
   have hqq:kM (⟨S,free,⟨c,L⟩,H,D⟩:Cs).reg (eZ 1 d.de ⟨frm,to,number,8,ack,deal,text,party,index,day0,cur,amt,docs,boxes⟩ day)=(⟨c9,L9⟩,e9):=by rw[hq9,hbn];rfl
   rw[rR (k:=1) (.inl ⟨rfl,rfl⟩)]at hr;obtain⟨b2,hb2⟩:∃b,b=lF (iE.su ⟨parties,deals,funds,rest,holidays⟩).parties party:=⟨_,rfl⟩
   have hr1:(e9≠0∨((1:Int)=1∧(b2=false∨party=frm)))→r=(⟨S,free,⟨c,L⟩,H,D⟩,cI deal day (eW fN ⟨frm,to,number,8,ack,deal,text,party,index,day0,cur,amt,docs,boxes⟩)):=fun h=>by
    rw[hb2]at h;rw[hr];exact rC hqq h
   have hr2:e9=0→b2=true→¬party=frm→r=(⟨S,free,⟨c9,L9⟩,H,D⟩,[⟨eS,party,0,9,0,deal,eS,party,index,day,eS,0,[],[]⟩]):=fun h1 h2 h3=>by
    rw[hr];exact Dn hqq h1 (fun h=>by rcases h.2 with h|h;(rw[←hb2,h2]at h;cases h);exact h3 h) (by decide)
   clear hr;obtain⟨dn,dsel,dbuy,dcar,diss,dhou,dins,dfrm,dto,dcur,damt,dbx,dterm,dlat,dexp,dten,dduty⟩:=d;dsimp only at hnum hbl hsz;subst hnum;have z3:(ByteArray.mk (Array.mk [98,108,45])).size=3:=rfl;cbv;repeat'((first|refine .e ?_|refine .n fun h=>?_|refine .y fun h=>?_|refine .u fun u hu hul=>?_|fail)<;>cbv)
   obtain rfl:u=bn:=by rw[hbn];assumption
   refine oM [I8 ⟨c,L⟩,Pm ⟨1,index,day,u,frm,party,cK.noBl⟩] Bc ?_
   (refine ZN hdo ((⟨c,L⟩,⟨1,index,day,u,frm,party,cK.noBl⟩):Rg×At) hRP ?_;try dsimp only)
   rw[←hq9];cbv;repeat'((first|refine .y fun h=>?_|refine .mk (fun h=>?_) fun h=>?_|fail)<;>cbv)
   all_goals first
   |((refine ZN hob ((⟨frm,to,number,8,ack,dn,text,party,index,day0,cur,amt,docs,boxes⟩,day):dR×Int) (.inl rfl) ?_;try dsimp only)
     have hr:=hr1 (.inl (by assumption));subst hr;cbv
     (refine .q9 ?_;cbv;exact .inl (.g9 hK)))
   |((refine ZN hpa ((⟨parties,deals,funds,rest,holidays⟩,party):iE×bH) hpl ?_;try dsimp only)
     rw[←hb2];cases b2 with
     |false=>
      have hr:=hr1 (.inr ⟨rfl,.inl rfl⟩);subst hr;cbv
      (refine ZN hob ((⟨frm,to,number,8,ack,dn,text,party,index,day0,cur,amt,docs,boxes⟩,day):dR×Int) (.inl rfl) ?_;try dsimp only)
      cbv
      (refine .q9 ?_;cbv;exact .inl (.g9 hK))
     |true=>
      cbv;repeat'((first|refine .n fun h=>?_|refine .y fun h=>?_|refine .mk (fun h=>?_) fun h=>?_|refine And.intro ?_ ?_|fail)<;>cbv)
      all_goals first
      |((refine ZN hob ((⟨frm,to,number,8,ack,dn,text,party,index,day0,cur,amt,docs,boxes⟩,day):dR×Int) (.inl rfl) ?_;try dsimp only)
        have hr:=hr1 (.inr ⟨rfl,.inr (by assumption)⟩);subst hr;cbv
        (refine .q9 ?_;cbv;exact .inl (.g9 hK)))
      |(have hr:=hr2 (by assumption) rfl (by assumption)
        subst hr;refine dE (Gh.leAt 7 (.row 58 14 (bJ eM [⟨eS,party,0,9,0,dn,eS,party,index,day,eS,0,[],[]⟩])) rfl (tA Bc)) ?_;cbv;refine dE (Gh.plain 7 rfl) ?_;cbv
        (refine .q9 ?_;cbv;exact .inl (.g9 hK)))
      |fail)
theorem xE (P:bI) (hde:bK P 13 mW) (hpa:bK P 17 nH) (hdo:bK P 100 Hf) (hob:bK P 101 tC):bO P Rm (N4 (fun z=>z=23)):=by
 intro args H0 K hc;obtain⟨⟨s,name,x,l,day⟩,rfl,rfl,⟨hkind,hs,hx,hnz,hfz,hdz,hpz⟩,hK⟩:=hc;refine⟨cM,?_⟩;dsimp only at hkind hs hx hnz hfz hdz hpz hK⊢;obtain⟨r,hr⟩:∃r,r=fD fN s.su name x l day:=⟨_,rfl⟩
 rw[←hr]at hK;have hdl:=hs.de;have hpl:=hs.pa;obtain⟨o,ho⟩:∃o,o=dP s.su name l.deal:=⟨_,rfl⟩
 obtain⟨b,hb⟩:∃b,b=lF s.su.parties l.frm:=⟨_,rfl⟩
 have hat:∀i,o=some i→∃d st fr,s.deals[i]?=some d∧x.S[i]?=some st∧x.free[i]?=some fr∧Gw d∧d.number=l.deal:=fun i hi=>by
  rw[ho]at hi;obtain⟨d,h1,h2,h3⟩:=nM hi;have hil:=(aA.1 h1).1;exact⟨d,_,_,h1,aB (by rw[hx.S];exact hil),aB (by rw[hx.F];exact hil),hs.ok d (aC h1),h3⟩
 have hrn:o=none→r=(x,[]):=fun h=>by rw[hr];exact jH (ho.symm.trans h)
 have hro:b=false→r=(x,[]):=fun h=>by rw[hr];exact kP (hb.symm.trans h)
 have hra:∀i d st fr,o=some i→b=true→s.deals[i]?=some d→x.S[i]?=some st→x.free[i]?=some fr→r=nB fN s.su name x l day i d.de st fr:=fun i d st fr h1 h2 h3 h4 h5=>by
  rw[hr];exact mA (ho.symm.trans h1) (hb.symm.trans h2) (by show (s.deals.map jM.de)[i]?=_;rw[aD,h3];rfl) h4 h5
 clear hr;obtain⟨parties,deals,funds,rest,holidays⟩:=s;obtain⟨S,free,⟨c,L⟩,H,D⟩:=x;obtain⟨frm,to,number,kind,ack,deal,text,party,index,day0,cur,amt,docs,boxes⟩:=l;dsimp only at hkind hfz hdz hpz hdl hpl ho hb hat hra;subst hkind;cbv
 (refine ZN hde ((⟨parties,deals,funds,rest,holidays⟩,name,deal):iE×bH×bH) hdl ?_;try dsimp only)
 rw[←ho];cases o with
 |none=>
  have hr:=hrn rfl;subst hr;cbv;repeat'((first|refine .y fun h=>?_|fail)<;>cbv)
  (refine .q9 ?_;cbv;exact .inl (.g9 hK))
 |some i=>
  obtain⟨d,st,fr,hd,hst,hfr,hokd,hnum⟩:=hat i rfl;cbv;repeat'((first|refine .n fun h=>?_|fail)<;>cbv)
  (refine ZN hpa ((⟨parties,deals,funds,rest,holidays⟩,frm):iE×bH) hpl ?_;try dsimp only)
  rw[←hb];cases b with
  |false=>
   have hr:=hro rfl;subst hr;cbv
   (refine .q9 ?_;cbv;exact .inl (.g9 hK))
  |true=>
   have hr:=hra i d st fr rfl rfl hd hst hfr;clear hra hro hrn hat
   have hml:=gD hokd;have hbl:=hokd.bx;have hsz:=hokd.sz;have hxf:=hx.few;have hxa:=hx.all;obtain⟨bn,hbn⟩:∃b,b=gE d.number:=⟨_,rfl⟩
   have hRP:KQ (⟨c,L⟩,⟨3,index,day,bn,frm,party,cK.noBl⟩):=⟨(show (0:Int)≤3∧(3:Int)≤5 by decide),hxf,hxa,nD,⟨aI _,aI _,aI _,aI _,fun s hs=>(by cases hs)⟩,by(show party.size≤maxLen);unfold maxLen;omega⟩
   obtain⟨⟨⟨c9,L9⟩,e9⟩,hq9⟩:∃q,q=kM ⟨c,L⟩ ⟨3,index,day,bn,frm,party,cK.noBl⟩:=⟨_,rfl⟩
   have hqq:kM (⟨S,free,⟨c,L⟩,H,D⟩:Cs).reg (eZ 3 d.de ⟨frm,to,number,23,ack,deal,text,party,index,day0,cur,amt,docs,boxes⟩ day)=(⟨c9,L9⟩,e9):=by rw[hq9,hbn];rfl
   rw[rR (k:=3) (.inr (.inr (.inl ⟨rfl,rfl⟩)))]at hr;have hr1:e9≠0→r=(⟨S,free,⟨c,L⟩,H,D⟩,cI deal day (eW fN ⟨frm,to,number,23,ack,deal,text,party,index,day0,cur,amt,docs,boxes⟩)):=fun h=>by
    rw[hr];exact rC hqq (.inl h)
   have hr2:e9=0→r=(⟨S,free,⟨c9,L9⟩,H,D⟩,[]):=fun h1=>by
    rw[hr];exact Dn hqq h1 (fun h=>absurd h.1 (by decide)) (by decide)
   clear hr;obtain⟨dn,dsel,dbuy,dcar,diss,dhou,dins,dfrm,dto,dcur,damt,dbx,dterm,dlat,dexp,dten,dduty⟩:=d;dsimp only at hnum hbl hsz;subst hnum;have z3:(ByteArray.mk (Array.mk [98,108,45])).size=3:=rfl;cbv;repeat'((first|refine .e ?_|refine .n fun h=>?_|refine .y fun h=>?_|refine .u fun u hu hul=>?_|fail)<;>cbv)
   obtain rfl:u=bn:=by rw[hbn];assumption
   refine oM [I8 ⟨c,L⟩,Pm ⟨3,index,day,u,frm,party,cK.noBl⟩] Bc ?_
   (refine ZN hdo ((⟨c,L⟩,⟨3,index,day,u,frm,party,cK.noBl⟩):Rg×At) hRP ?_;try dsimp only)
   rw[←hq9];cbv;repeat'((first|refine .n fun h=>?_|refine .mk (fun h=>?_) fun h=>?_|fail)<;>cbv)
   all_goals first
   |((refine ZN hob ((⟨frm,to,number,23,ack,dn,text,party,index,day0,cur,amt,docs,boxes⟩,day):dR×Int) (.inr (.inr (.inl rfl))) ?_;try dsimp only)
     have hr:=hr1 (by assumption);subst hr;cbv
     (refine .q9 ?_;cbv;exact .inl (.g9 hK)))
   |(have hr:=hr2 (by assumption)
     subst hr
     (refine .q9 ?_;cbv;exact .inl (.g9 hK)))
   |fail
theorem vZ (P:bI) (hde:bK P 13 mW) (hpa:bK P 17 nH) (hdo:bK P 100 Hf) (hob:bK P 101 tC):bO P Rm (N4 (fun z=>z=24)):=by
 intro args H0 K hc;obtain⟨⟨s,name,x,l,day⟩,rfl,rfl,⟨hkind,hs,hx,hnz,hfz,hdz,hpz⟩,hK⟩:=hc;refine⟨cM,?_⟩;dsimp only at hkind hs hx hnz hfz hdz hpz hK⊢;obtain⟨r,hr⟩:∃r,r=fD fN s.su name x l day:=⟨_,rfl⟩
 rw[←hr]at hK;have hdl:=hs.de;have hpl:=hs.pa;obtain⟨o,ho⟩:∃o,o=dP s.su name l.deal:=⟨_,rfl⟩
 obtain⟨b,hb⟩:∃b,b=lF s.su.parties l.frm:=⟨_,rfl⟩
 have hat:∀i,o=some i→∃d st fr,s.deals[i]?=some d∧x.S[i]?=some st∧x.free[i]?=some fr∧Gw d∧d.number=l.deal:=fun i hi=>by
  rw[ho]at hi;obtain⟨d,h1,h2,h3⟩:=nM hi;have hil:=(aA.1 h1).1;exact⟨d,_,_,h1,aB (by rw[hx.S];exact hil),aB (by rw[hx.F];exact hil),hs.ok d (aC h1),h3⟩
 have hrn:o=none→r=(x,[]):=fun h=>by rw[hr];exact jH (ho.symm.trans h)
 have hro:b=false→r=(x,[]):=fun h=>by rw[hr];exact kP (hb.symm.trans h)
 have hra:∀i d st fr,o=some i→b=true→s.deals[i]?=some d→x.S[i]?=some st→x.free[i]?=some fr→r=nB fN s.su name x l day i d.de st fr:=fun i d st fr h1 h2 h3 h4 h5=>by
  rw[hr];exact mA (ho.symm.trans h1) (hb.symm.trans h2) (by show (s.deals.map jM.de)[i]?=_;rw[aD,h3];rfl) h4 h5
 clear hr;obtain⟨parties,deals,funds,rest,holidays⟩:=s;obtain⟨S,free,⟨c,L⟩,H,D⟩:=x;obtain⟨frm,to,number,kind,ack,deal,text,party,index,day0,cur,amt,docs,boxes⟩:=l;dsimp only at hkind hfz hdz hpz hdl hpl ho hb hat hra;subst hkind;cbv
 (refine ZN hde ((⟨parties,deals,funds,rest,holidays⟩,name,deal):iE×bH×bH) hdl ?_;try dsimp only)
 rw[←ho];cases o with
 |none=>
  have hr:=hrn rfl;subst hr;cbv;repeat'((first|refine .y fun h=>?_|fail)<;>cbv)
  (refine .q9 ?_;cbv;exact .inl (.g9 hK))
 |some i=>
  obtain⟨d,st,fr,hd,hst,hfr,hokd,hnum⟩:=hat i rfl;cbv;repeat'((first|refine .n fun h=>?_|fail)<;>cbv)
  (refine ZN hpa ((⟨parties,deals,funds,rest,holidays⟩,frm):iE×bH) hpl ?_;try dsimp only)
  rw[←hb];cases b with
  |false=>
   have hr:=hro rfl;subst hr;cbv
   (refine .q9 ?_;cbv;exact .inl (.g9 hK))
  |true=>
   have hr:=hra i d st fr rfl rfl hd hst hfr;clear hra hro hrn hat
   have hml:=gD hokd;have hbl:=hokd.bx;have hsz:=hokd.sz;have hxf:=hx.few;have hxa:=hx.all;obtain⟨bn,hbn⟩:∃b,b=gE d.number:=⟨_,rfl⟩
   have hRP:KQ (⟨c,L⟩,⟨4,index,day,bn,frm,party,cK.noBl⟩):=⟨(show (0:Int)≤4∧(4:Int)≤5 by decide),hxf,hxa,nD,⟨aI _,aI _,aI _,aI _,fun s hs=>(by cases hs)⟩,by(show party.size≤maxLen);unfold maxLen;omega⟩
   obtain⟨⟨⟨c9,L9⟩,e9⟩,hq9⟩:∃q,q=kM ⟨c,L⟩ ⟨4,index,day,bn,frm,party,cK.noBl⟩:=⟨_,rfl⟩
   have hqq:kM (⟨S,free,⟨c,L⟩,H,D⟩:Cs).reg (eZ 4 d.de ⟨frm,to,number,24,ack,deal,text,party,index,day0,cur,amt,docs,boxes⟩ day)=(⟨c9,L9⟩,e9):=by rw[hq9,hbn];rfl
   rw[rR (k:=4) (.inr (.inr (.inr ⟨rfl,rfl⟩)))]at hr;have hr1:e9≠0→r=(⟨S,free,⟨c,L⟩,H,D⟩,cI deal day (eW fN ⟨frm,to,number,24,ack,deal,text,party,index,day0,cur,amt,docs,boxes⟩)):=fun h=>by
    rw[hr];exact rC hqq (.inl h)
   have hr2:e9=0→r=(⟨S,free,⟨c9,L9⟩,H,D⟩,[⟨eS,frm,0,25,0,deal,eS,eS,index,day,eS,0,[],[]⟩]):=fun h1=>by
    rw[hr];exact Dn hqq h1 (fun h=>absurd h.1 (by decide)) (by decide)
   clear hr;obtain⟨dn,dsel,dbuy,dcar,diss,dhou,dins,dfrm,dto,dcur,damt,dbx,dterm,dlat,dexp,dten,dduty⟩:=d;dsimp only at hnum hbl hsz;subst hnum;have z3:(ByteArray.mk (Array.mk [98,108,45])).size=3:=rfl;cbv;repeat'((first|refine .e ?_|refine .n fun h=>?_|refine .y fun h=>?_|refine .u fun u hu hul=>?_|fail)<;>cbv)
   obtain rfl:u=bn:=by rw[hbn];assumption
   refine oM [I8 ⟨c,L⟩,Pm ⟨4,index,day,u,frm,party,cK.noBl⟩] Bc ?_
   (refine ZN hdo ((⟨c,L⟩,⟨4,index,day,u,frm,party,cK.noBl⟩):Rg×At) hRP ?_;try dsimp only)
   rw[←hq9];cbv;repeat'((first|refine .n fun h=>?_|refine .y fun h=>?_|refine .mk (fun h=>?_) fun h=>?_|refine And.intro ?_ ?_|fail)<;>cbv)
   all_goals first
   |((refine ZN hob ((⟨frm,to,number,24,ack,dn,text,party,index,day0,cur,amt,docs,boxes⟩,day):dR×Int) (.inr (.inr (.inr rfl))) ?_;try dsimp only)
     have hr:=hr1 (by assumption);subst hr;cbv
     (refine .q9 ?_;cbv;exact .inl (.g9 hK)))
   |(have hr:=hr2 (by assumption)
     subst hr;refine dE (Gh.leAt 7 (.row 58 14 (bJ eM [⟨eS,frm,0,25,0,dn,eS,eS,index,day,eS,0,[],[]⟩])) rfl (tA Bc)) ?_;cbv;refine dE (Gh.plain 7 rfl) ?_;cbv
     (refine .q9 ?_;cbv;exact .inl (.g9 hK)))
   |fail
theorem A8 (f:bH→eF):∀(bs:List bH) (H:List eF),∃T,(hC f H bs).1=H++T∧T.length≤bs.length
 |[],H=>⟨[],(List.append_nil H).symm,aN _⟩
 |b :: r,H=>by
  have g1:hC f H (b :: r)=if iI H (f b)≠0 then (H,false) else hC f (H++[f b]) r:=rfl
  rw[g1];by_cases h:iI H (f b)≠0
  ·rw[aF h];exact⟨[],(List.append_nil H).symm,aI _⟩
  ·rw[aE h];obtain⟨T,h1,h2⟩:=A8 f r (H++[f b]);exact⟨f b :: T,by rw[h1,bG];rfl,Nat.succ_le_succ h2⟩
theorem AX {f:bH→eF}{bs:List bH}{H H9:List eF}{o9:Bool}{α:Type}{a:α}{g:List eF→α}(h:(H9,o9)=hC f H bs):(match iK f H bs with|none=>a|some K=>g K)=if o9=true then g H9 else a:=by
 rcases BR f bs H with ⟨h1,h2⟩|⟨H',h1,h2⟩
 ·rw[h1];obtain rfl:o9=false:=by rw[←h]at h2;exact h2
  rfl
 ·rw[h1];rw[h2]at h;cases h;rfl
theorem yE (P:bI) (hde:bK P 13 mW) (hpa:bK P 17 nH) (hdo:bK P 100 Hf) (hob:bK P 101 tC) (hha:bK P 102 tY) (hsd:bK P 94 qN) (hmr:bK P 20 pQ):bO P Rm (N4 (fun z=>z=20)):=by
 intro args H0 K hc;obtain⟨⟨s,name,x,l,day⟩,rfl,rfl,⟨hkind,hs,hx,hnz,hfz,hdz,hpz⟩,hK⟩:=hc;refine⟨cM,?_⟩;dsimp only at hkind hs hx hnz hfz hdz hpz hK⊢;obtain⟨r,hr⟩:∃r,r=fD fN s.su name x l day:=⟨_,rfl⟩
 rw[←hr]at hK;have hdl:=hs.de;have hpl:=hs.pa;obtain⟨o,ho⟩:∃o,o=dP s.su name l.deal:=⟨_,rfl⟩
 obtain⟨b,hb⟩:∃b,b=lF s.su.parties l.frm:=⟨_,rfl⟩
 have hat:∀i,o=some i→∃d st fr,s.deals[i]?=some d∧x.S[i]?=some st∧x.free[i]?=some fr∧Gw d∧d.number=l.deal:=fun i hi=>by
  rw[ho]at hi;obtain⟨d,h1,h2,h3⟩:=nM hi;have hil:=(aA.1 h1).1;exact⟨d,_,_,h1,aB (by rw[hx.S];exact hil),aB (by rw[hx.F];exact hil),hs.ok d (aC h1),h3⟩
 have hrn:o=none→r=(x,[]):=fun h=>by rw[hr];exact jH (ho.symm.trans h)
 have hro:b=false→r=(x,[]):=fun h=>by rw[hr];exact kP (hb.symm.trans h)
 have hra:∀i d st fr,o=some i→b=true→s.deals[i]?=some d→x.S[i]?=some st→x.free[i]?=some fr→r=nB fN s.su name x l day i d.de st fr:=fun i d st fr h1 h2 h3 h4 h5=>by
  rw[hr];exact mA (ho.symm.trans h1) (hb.symm.trans h2) (by show (s.deals.map jM.de)[i]?=_;rw[aD,h3];rfl) h4 h5
 clear hr;obtain⟨parties,deals,funds,rest,holidays⟩:=s;obtain⟨S,free,⟨c,L⟩,H,D⟩:=x;obtain⟨frm,to,number,kind,ack,deal,text,party,index,day0,cur,amt,docs,boxes⟩:=l;dsimp only at hkind hfz hdz hpz hdl hpl ho hb hat hra;subst hkind;cbv
 (refine ZN hde ((⟨parties,deals,funds,rest,holidays⟩,name,deal):iE×bH×bH) hdl ?_;try dsimp only)
 rw[←ho];cases o with
 |none=>
  have hr:=hrn rfl;subst hr;cbv;repeat'((first|refine .y fun h=>?_|fail)<;>cbv)
  (refine .q9 ?_;cbv;exact .inl (.g9 hK))
 |some i=>
  obtain⟨d,st,fr,hd,hst,hfr,hokd,hnum⟩:=hat i rfl;cbv;repeat'((first|refine .n fun h=>?_|fail)<;>cbv)
  (refine ZN hpa ((⟨parties,deals,funds,rest,holidays⟩,frm):iE×bH) hpl ?_;try dsimp only)
  rw[←hb];cases b with
  |false=>
   have hr:=hro rfl;subst hr;cbv
   (refine .q9 ?_;cbv;exact .inl (.g9 hK))
  |true=>
   have hr:=hra i d st fr rfl rfl hd hst hfr;clear hra hro hrn hat
   have hml:=gD hokd;have hbl:=hokd.bx;have hsz:=hokd.sz;have hxf:=hx.few;have hxa:=hx.all;obtain⟨bn,hbn⟩:∃b,b=gE d.number:=⟨_,rfl⟩
   have hRP:KQ (⟨c,L⟩,⟨2,index,day,bn,frm,party,cK.noBl⟩):=⟨(show (0:Int)≤2∧(2:Int)≤5 by decide),hxf,hxa,nD,⟨aI _,aI _,aI _,aI _,fun s hs=>(by cases hs)⟩,by(show party.size≤maxLen);unfold maxLen;omega⟩
   obtain⟨⟨⟨c9,L9⟩,e9⟩,hq9⟩:∃q,q=kM ⟨c,L⟩ ⟨2,index,day,bn,frm,party,cK.noBl⟩:=⟨_,rfl⟩
   have hqq:kM (⟨S,free,⟨c,L⟩,H,D⟩:Cs).reg (eZ 2 d.de ⟨frm,to,number,20,ack,deal,text,party,index,day0,cur,amt,docs,boxes⟩ day)=(⟨c9,L9⟩,e9):=by rw[hq9,hbn];rfl
   rw[rR (k:=2) (.inr (.inl ⟨rfl,rfl⟩))]at hr;have hms:=kQ hokd;obtain⟨mk,hmk⟩:∃m,m=d.marks:=⟨_,rfl⟩
   have hmk2:d.de.boxes=mk:=hmk.symm;obtain⟨⟨H9,o9⟩,hq5⟩:∃q,q=hC (cV name frm d.to day) H mk:=⟨_,rfl⟩
   have hq6:(H9,o9)=hC (cV name frm d.to day) H d.marks:=by rw[hq5,hmk]
   obtain⟨T9,hT1,hT2⟩:=A8 (cV name frm d.to day) mk H;rw[←hq5]at hT1;replace hT1:H9=H++T9:=hT1;obtain⟨D9,hD9⟩:∃D9,D9=D++T9:=⟨_,rfl⟩
   have hT3:H9.length=H.length+T9.length:=by rw[hT1,aM]
   have hT4:D9.length=D.length+T9.length:=by rw[hD9,aM]
   have hH5:H.length≤40000:=hx.H;have hD5:D.length≤40000:=hx.D;have hS5:S.length≤8:=by have:=hx.S;dsimp only at this;omega
   have hiS:i < S.length:=(aA.1 hst).1;have hr1:e9≠0∨o9=false∨¬st=3∨fr=false→r=(⟨S,free,⟨c,L⟩,H,D⟩,cI deal day (eW fN ⟨frm,to,number,20,ack,deal,text,party,index,day0,cur,amt,docs,boxes⟩)):=fun h=>by
    rw[hr];rcases h with h|h
    ·exact rC hqq (.inl h)
    by_cases h0:e9=0
    rotate_left
    ·exact rC hqq (.inl h0)
    rw[FO hqq h0];refine(AX hq6).trans ?_;rcases h with rfl|h
    ·rfl
    cases o9 with
    |false=>rfl
    |true=>exact(aF rfl).trans (aF h)
   obtain⟨S2,hS2⟩:∃S2,S2=S.set i 4:=⟨_,rfl⟩
   have eS2:oU ⟨S,free,⟨c9,L9⟩,H9,D9⟩ i 4=⟨S2,free,⟨c9,L9⟩,H9,D9⟩:=by rw[hS2];rfl
   have hr2:e9=0→o9=true→st=3→fr=true→r=(⟨S2,free,⟨c9,L9⟩,H9,D9⟩,[⟨eS,frm,0,21,0,deal,eS,eS,0,day,eS,0,[],mk⟩]):=fun h1 h2 h3 h4=>by
    rw[hr];rw[FO hqq h1];refine(AX hq6).trans ?_;rw[aF h2];rw[aE (fun h=>h.elim (fun h=>h h3) (fun h=>by rw[h4]at h;cases h))];rw[←eS2,hmk2];show (oU ⟨S,free,⟨c9,L9⟩,H9,D++H9.drop H.length⟩ i 4,_)=_;rw[show H9.drop H.length=T9 from by rw[hT1];exact List.drop_left ..,←hD9];rfl
   have hHP:Rv ⟨H,d,name,frm,d.to,day⟩:=⟨by dsimp only;omega,hokd,by dsimp only;omega,by dsimp only;omega,by dsimp only;omega⟩
   rw[←hmk]at hml;clear hr hq6 hmk2;obtain⟨dn,dsel,dbuy,dcar,diss,dhou,dins,dfrm,dto,dcur,damt,dbx,dterm,dlat,dexp,dten,dduty⟩:=d;dsimp only at hnum hbl hsz;subst hnum;have z3:(ByteArray.mk (Array.mk [98,108,45])).size=3:=rfl;cbv;repeat'((first|refine .e ?_|refine .n fun h=>?_|refine .y fun h=>?_|refine .u fun u hu hul=>?_|fail)<;>cbv)
   obtain rfl:u=bn:=by rw[hbn];assumption
   refine oM [I8 ⟨c,L⟩,Pm ⟨2,index,day,u,frm,party,cK.noBl⟩] Bc ?_
   (refine ZN hdo ((⟨c,L⟩,⟨2,index,day,u,frm,party,cK.noBl⟩):Rg×At) hRP ?_;try dsimp only)
   rw[←hq9];cbv;repeat'((first|refine .n fun h=>?_|refine .y fun h=>?_|refine .mk (fun h=>?_) fun h=>?_|fail)<;>cbv)
   all_goals first
   |((refine ZN hob ((⟨frm,to,number,20,ack,dn,text,party,index,day0,cur,amt,docs,boxes⟩,day):dR×Int) (.inr (.inl rfl)) ?_;try dsimp only)
     have hr:=hr1 (.inl (by assumption));subst hr;cbv
     (refine .q9 ?_;cbv;exact .inl (.g9 hK)))
   |((refine ZN hha (⟨H,(⟨dn,dsel,dbuy,dcar,diss,dhou,dins,dfrm,dto,dcur,damt,dbx,dterm,dlat,dexp,dten,dduty⟩:jM),name,frm,dto,day⟩:To) hHP ?_;try dsimp only)
     rw[←hmk,←hq5];cbv;repeat'((first|refine .e ?_|refine .mk (fun h=>?_) fun h=>?_|fail)<;>cbv)
     all_goals first
     |((refine ZN hob ((⟨frm,to,number,20,ack,dn,text,party,index,day0,cur,amt,docs,boxes⟩,day):dR×Int) (.inr (.inl rfl)) ?_;try dsimp only)
       have hr:=hr1 (.inr (.inr (.inl (by assumption))));subst hr;cbv
       (refine .q9 ?_;cbv;exact .inl (.g9 hK)))
     |skip
     cases fr with
     |false=>
      have hr:=hr1 (.inr (.inr (.inr rfl)));subst hr;cbv
      (refine ZN hob ((⟨frm,to,number,20,ack,dn,text,party,index,day0,cur,amt,docs,boxes⟩,day):dR×Int) (.inr (.inl rfl)) ?_;try dsimp only)
      cbv
      (refine .q9 ?_;cbv;exact .inl (.g9 hK))
     |true=>
      cases o9 with
      |false=>
       have hr:=hr1 (.inr (.inl rfl));subst hr;cbv
       (refine ZN hob ((⟨frm,to,number,20,ack,dn,text,party,index,day0,cur,amt,docs,boxes⟩,day):dR×Int) (.inr (.inl rfl)) ?_;try dsimp only)
       cbv
       (refine .q9 ?_;cbv;exact .inl (.g9 hK))
      |true=>
       have hr:=hr2 (by assumption) rfl (by assumption) rfl;subst hr;cbv;repeat'((first|refine .k fun z hz=>?_|refine .o ?_|refine .l fun ys hys hyl=>?_|fail)<;>cbv)
       have hzz:z.toNat=H.length:=by rw[hz,cD];rfl
       obtain rfl:ys=D9:=by
        rw[hys,hD9];congr 1;refine Eq.trans (b:=List.drop (Int.toNat ((some z).getD 0)) (List.take (Int.toNat (none.getD (((H9,true).fst.length:Nat):Int))) (H9,true).fst)) (by assumption) ?_;show List.drop z.toNat (List.take (Int.toNat (H9.length:Nat)) H9)=T9;rw[hzz,Int.toNat_natCast,List.take_length,hT1];exact List.drop_left ..
       refine fS 7 rfl ?_;cbv
       (refine ZN hsd ((⟨S,free,⟨c9,L9⟩,H9,ys⟩,i,4):Cs×Nat×Int) ⟨hS5,hiS⟩ ?_;try dsimp only)
       rw[eS2];cbv
       (refine ZN hmr ((⟨dn,dsel,dbuy,dcar,diss,dhou,dins,dfrm,dto,dcur,damt,dbx,dterm,dlat,dexp,dten,dduty⟩:jM)) hbl ?_;try dsimp only)
       rw[←hmk];cbv;repeat'((first|refine And.intro ?_ ?_|fail)<;>cbv)
       all_goals
        try(refine dE (Gh.leAt 10 (.row 58 14 (bJ eM [⟨eS,frm,0,21,0,dn,eS,eS,0,day,eS,0,[],mk⟩])) rfl (tA Bc)) ?_)
        cbv;refine dE (Gh.plain 10 rfl) ?_;cbv
        (refine .q9 ?_;cbv;exact .inl (.g9 hK))
       )
theorem vV (P:bI) (hde:bK P 13 mW) (hpa:bK P 17 nH):bO P Rm (N4 (fun z=>¬(z=4∨z=19∨z=8∨z=20∨z=23∨z=24))):=by
 intro args H0 K hc;obtain⟨⟨s,name,x,l,day⟩,rfl,rfl,⟨hkind,hs,hx,hnz,hfz,hdz,hpz⟩,hK⟩:=hc;refine⟨cM,?_⟩;dsimp only at hkind hs hx hnz hfz hdz hpz hK⊢;obtain⟨r,hr⟩:∃r,r=fD fN s.su name x l day:=⟨_,rfl⟩
 rw[←hr]at hK;have hdl:=hs.de;have hpl:=hs.pa;obtain⟨o,ho⟩:∃o,o=dP s.su name l.deal:=⟨_,rfl⟩
 obtain⟨b,hb⟩:∃b,b=lF s.su.parties l.frm:=⟨_,rfl⟩
 have hat:∀i,o=some i→∃d st fr,s.deals[i]?=some d∧x.S[i]?=some st∧x.free[i]?=some fr∧Gw d∧d.number=l.deal:=fun i hi=>by
  rw[ho]at hi;obtain⟨d,h1,h2,h3⟩:=nM hi;have hil:=(aA.1 h1).1;exact⟨d,_,_,h1,aB (by rw[hx.S];exact hil),aB (by rw[hx.F];exact hil),hs.ok d (aC h1),h3⟩
 have hrn:o=none→r=(x,[]):=fun h=>by rw[hr];exact jH (ho.symm.trans h)
 have hro:b=false→r=(x,[]):=fun h=>by rw[hr];exact kP (hb.symm.trans h)
 have hra:∀i d st fr,o=some i→b=true→s.deals[i]?=some d→x.S[i]?=some st→x.free[i]?=some fr→r=nB fN s.su name x l day i d.de st fr:=fun i d st fr h1 h2 h3 h4 h5=>by
  rw[hr];exact mA (ho.symm.trans h1) (hb.symm.trans h2) (by show (s.deals.map jM.de)[i]?=_;rw[aD,h3];rfl) h4 h5
 clear hr;obtain⟨parties,deals,funds,rest,holidays⟩:=s;obtain⟨S,free,⟨c,L⟩,H,D⟩:=x;obtain⟨frm,to,number,kind,ack,deal,text,party,index,day0,cur,amt,docs,boxes⟩:=l;dsimp only at hkind hfz hdz hpz hdl hpl ho hb hat hra;cbv
 (refine ZN hde ((⟨parties,deals,funds,rest,holidays⟩,name,deal):iE×bH×bH) hdl ?_;try dsimp only)
 rw[←ho];cases o with
 |none=>
  have hr:=hrn rfl;subst hr;cbv;repeat'((first|refine .y fun h=>?_|fail)<;>cbv)
  (refine .q9 ?_;cbv;exact .inl (.g9 hK))
 |some i=>
  obtain⟨d,st,fr,hd,hst,hfr,hokd,hnum⟩:=hat i rfl;cbv;repeat'((first|refine .n fun h=>?_|fail)<;>cbv)
  (refine ZN hpa ((⟨parties,deals,funds,rest,holidays⟩,frm):iE×bH) hpl ?_;try dsimp only)
  rw[←hb];cases b with
  |false=>
   have hr:=hro rfl;subst hr;cbv
   (refine .q9 ?_;cbv;exact .inl (.g9 hK))
  |true=>
   have hr:=hra i d st fr rfl rfl hd hst hfr;clear hra hro hrn hat
   unfold nB at hr;dsimp only at hr;rw[aE (fun h=>hkind (.inl h)),aE (fun h=>hkind (.inr (.inl h))),aE (fun h=>hkind (.inr (.inr h)))]at hr;subst hr;have hml:=gD hokd;have hbl:=hokd.bx;have hsz:=hokd.sz;obtain⟨dn,dsel,dbuy,dcar,diss,dhou,dins,dfrm,dto,dcur,damt,dbx,dterm,dlat,dexp,dten,dduty⟩:=d;dsimp only at hnum hbl hsz;subst hnum;have z3:(ByteArray.mk (Array.mk [98,108,45])).size=3:=rfl;cbv;repeat'((first|refine .e ?_|refine .n fun h=>?_|refine .u fun u hu hul=>?_|fail)<;>cbv)
   all_goals first
   |(exfalso;exact hkind (by omega))
   |((refine .q9 ?_;cbv;exact .inl (.g9 hK)))
   |fail
theorem HL {P:bI}(hde:bK P 13 mW) (hpa:bK P 17 nH) (hsh:bK P 99 zG) (hdo:bK P 100 Hf) (hob:bK P 101 tC) (hha:bK P 102 tY) (hsd:bK P 94 qN) (hmr:bK P 20 pQ):bO P Rm (N4 fun _=>True):=by
 intro args H0 K hc;obtain⟨q,h1,h2,⟨-,h4⟩,h5⟩:=hc;by_cases k1:q.l.kind=4
 ·exact vW P hde hpa hsh args H0 K ⟨q,h1,h2,⟨k1,h4⟩,h5⟩
 by_cases k2:q.l.kind=19
 ·exact yO P hde hpa args H0 K ⟨q,h1,h2,⟨k2,h4⟩,h5⟩
 by_cases k3:q.l.kind=8
 ·exact yG P hde hpa hdo hob args H0 K ⟨q,h1,h2,⟨k3,h4⟩,h5⟩
 by_cases k4:q.l.kind=20
 ·exact yE P hde hpa hdo hob hha hsd hmr args H0 K ⟨q,h1,h2,⟨k4,h4⟩,h5⟩
 by_cases k5:q.l.kind=23
 ·exact xE P hde hpa hdo hob args H0 K ⟨q,h1,h2,⟨k5,h4⟩,h5⟩
 by_cases k6:q.l.kind=24
 ·exact vZ P hde hpa hdo hob args H0 K ⟨q,h1,h2,⟨k6,h4⟩,h5⟩
 exact vV P hde hpa args H0 K ⟨q,h1,h2,⟨fun h=>by rcases h with h|h|h|h|h|h<;>contradiction,h4⟩,h5⟩
def CD:dO:=spec (fun q:iE×bH=>[Gy q.1,.str q.2]) (fun _=>[]) (fun q=>q.1.deals.length≤8) (fun q=>Ei (Bt q.1.su q.2)) fun _=>[]
theorem Id (P:bI):bO P Y4 CD:=by
 intro args H K hc;obtain⟨⟨⟨parties,deals,funds,rest,holidays⟩,name⟩,rfl,rfl,hp,hK⟩:=hc;refine⟨cM,?_⟩;dsimp only at hp hK⊢;obtain⟨n,hn⟩:∃n:Nat,n=deals.length:=⟨_,rfl⟩
 obtain⟨S,hS⟩:∃S,S=deals.map fun _=>(0:Int):=⟨_,rfl⟩
 obtain⟨F,hF⟩:∃F,F=deals.map fun d=>decide (d.house=eS):=⟨_,rfl⟩
 have eK:Bt (iE.su ⟨parties,deals,funds,rest,holidays⟩) name=⟨S,F,⟨name,[]⟩,[],[]⟩:=by
  unfold Bt iE.su;dsimp only;rw[List.map_map,List.map_map,hS,hF];rfl
 replace hK:K (Ei (Bt (iE.su ⟨parties,deals,funds,rest,holidays⟩) name)) []:=hK;rw[eK]at hK;clear eK;cbv;refine fX (Gh.adoptC 2 0 3 1 rfl rfl) ?_;cbv;refine fX (Gh.adoptC 2 1 4 1 rfl rfl) ?_;cbv;refine bS [3,4] (fun p:{ k:Nat // k≤deals.length }=>[(6,.i (nI p.1))]) (fun p=>[.blk 29 [.sl 3 (bJ jP parties),.sl 17 (bJ iY deals),.sl 3 (bJ kA funds),.sl 1 (bJ dD rest),.sl 1 (bJ dD holidays)],.blk 41 [.v (.slice none 0 0),.v (.slice none 0 0),.str ⟨#[]⟩,.v (.slice none 0 0),.v (.slice none 0 0),.v (.slice none 0 0)],.blk 41 [.hd 3,.hd 4,.str name,.v (.slice none 0 0),.v (.slice none 0 0),.v (.slice none 0 0)],.row 3 1 (bJ dD (S.take p.1)),.row 4 1 (bJ mK (F.take p.1))]) (fun p=>fE n p.1) ⟨0,aI _⟩ ?_;rintro ⟨k,hk⟩;dsimp only at hk⊢;obtain⟨S1,hS1⟩:∃s,s=S.take k:=⟨_,rfl⟩
 obtain⟨F1,hF1⟩:∃s,s=F.take k:=⟨_,rfl⟩
 have hl1:S1.length≤8:=by rw[hS1,aS];omega
 have hl2:F1.length≤8:=by rw[hF1,aS];omega
 rw[←hS1,←hF1];rcases aL k deals.length with hks|hks
 rotate_left
 ·obtain rfl:k=n:=by omega
  have e1:S1=S:=by rw[hS1,bC (by rw[hS,aJ];omega)]
  have e2:F1=F:=by rw[hF1,bC (by rw[hF,aJ];omega)]
  subst e1 e2;cbv;repeat'((first|refine .n fun h=>?_|refine .k fun z hz=>?_|fail)<;>cbv)
  refine dE (Gh.plain 3 rfl) ?_;cbv
  (refine .r9 (Gh.plain 4 rfl) ?_;cbv;exact .inl (.g9 hK))
 obtain⟨d,hx⟩:=cJ hks;have hs2:S.take (k+1)=S1++[0]:=by rw[hS1,cY (l:=0) (by rw[hS,aD,hx];rfl)]
 have hf2:F.take (k+1)=F1++[decide (d.house=eS)]:=by rw[hF1,cY (l:=decide (d.house=eS)) (by rw[hF,aD,hx];rfl)]
 clear hS hF hS1 hF1;obtain⟨dn,dsel,dbuy,dcar,diss,dhou,dins,dfrm,dto,dcur,damt,dbx,dterm,dlat,dexp,dten,dduty⟩:=d;dsimp only at hf2;unfold eS at hf2;cbv;repeat'((first|refine .e ?_|refine .y fun h=>?_|refine .mk (fun h=>?_) fun h=>?_|refine .k fun z hz=>?_|refine .zl fun zs hzs hzl=>?_|fail)<;>cbv)
 ·rename_i z0 hz0 h0 zs1 hzs1 hzl1;obtain rfl:z=nI (k+1):=bQ;rw[aH h]at hf2;obtain rfl:zs1=bJ dD (S.take (k+1)):=by(rw[hs2,cB,cE];exact hzs1)
  obtain rfl:zs=bJ mK (F.take (k+1)):=by(rw[hf2,cB,cE];exact hzs)
  exact bM ⟨k+1,hks⟩ (bN (by omega))
 ·rename_i z0 hz0 h0 zs1 hzs1 hzl1;obtain rfl:z=nI (k+1):=bQ;rw[aG h]at hf2;obtain rfl:zs1=bJ dD (S.take (k+1)):=by(rw[hs2,cB,cE];exact hzs1)
  obtain rfl:zs=bJ mK (F.take (k+1)):=by(rw[hf2,cB,cE];exact hzs)
  exact bM ⟨k+1,hks⟩ (bN (by omega))
structure U4 where
 kind:Int
 n:Int
 deal:bH
structure kE where
 kind:Int
 day:Int
 a:U4
 l:dR
def mT:kE→AV
 |⟨kind,day,⟨ak,an,adeal⟩,⟨frm,to,number,lkind,ack,deal,text,party,index,day0,cur,amt,docs,boxes⟩⟩=>.agg [.i kind,.i day,.i ak,.i an,.str adeal,.str frm,.str to,.i number,.i lkind,.i ack,.str deal,.str text,.str party,.i index,.i day0,.str cur,.i amt,.sl 4 (bJ tI docs),.sl 1 (bJ .str boxes)]
def fC (s:bH):Prop:=s.size≤140737488355328
structure T3 (s:iE):Prop where
 pa:s.parties.length≤maxLen
 de:s.deals.length≤maxLen
 pn:∀p∈s.parties,fC p.name
 ok:∀d∈s.deals,d.boxes.length≤maxLen∧(∀b∈d.boxes,fC b.mark)∧fC d.number∧fC d.seller∧fC d.buyer∧fC d.carrier∧fC d.house∧fC d.frm∧fC d.to
structure W5 (l:List kE):Prop where
 len:l.length≤maxLen
 sz:∀c∈l,fC c.a.deal∧fC c.l.frm∧fC c.l.deal∧fC c.l.party
structure Yc (l:List kE):Prop where
 len:l.length≤40
 sz:∀c∈l,c.a.deal.size≤300∧c.l.frm.size≤300∧c.l.deal.size≤300∧c.l.party.size≤300
structure Dq (s:iE) (name:bH) (l:List kE):Prop where
 s:nK s
 n:name.size≤60
 l:Yc l
structure wJ where
 s:iE
 name:bH
 l:List kE
structure L8 (q:wJ):Prop where
 s:T3 q.s
 n:fC q.name
 l:W5 q.l
def Du:dO:=sG (fun q:wJ=>[Gy q.s,.str q.name,.sl 19 (bJ mT q.l)]) (fun _=>[]) L8 (fun q b=>b=true→Dq q.s q.name q.l) (fun _ b=>.bl b) fun _ _=>[]
def WN (l:List Gu) (k:Nat):Prop:=∀j y,j < k→l[j]?=some y→y.name.size≤60
def Ut (l:List jM) (k:Nat):Prop:=∀j y,j < k→l[j]?=some y→Gw y
def W4 (l:List IO) (k:Nat):Prop:=∀j y,j < k→l[j]?=some y→y.mark.size≤60
def Wi (l:List kE) (k:Nat):Prop:=∀j c,j < k→l[j]?=some c→c.a.deal.size≤300∧c.l.frm.size≤300∧c.l.deal.size≤300∧c.l.party.size≤300
theorem uW {α:Type}{l:List α}{p:α→Prop}(h:∀j y,j < l.length→l[j]?=some y→p y):∀x∈l,p x:=fun x hx=>by
 obtain⟨j,hj⟩:=aV hx;exact h j x (aA.1 hj).1 hj
theorem rV {α:Type}{l:List α}{p:α→Prop}:∀j y,j < 0→l[j]?=some y→p y:=fun j y h=>absurd h (Nat.not_lt_zero j)
theorem rI {α:Type}{l:List α}{p:α→Prop}{k:Nat}{x:α}(h:∀j y,j < k→l[j]?=some y→p y) (hx:l[k]?=some x) (hp:p x):∀j y,j < k+1→l[j]?=some y→p y:=fun j y hj hy=>by
 rcases aL j k with h1|h1
 ·exact h j y h1 hy
 ·obtain rfl:j=k:=by omega
  rw[hx]at hy;cases hy;exact hp
theorem MJ (P:bI):bO P ZK Du:=by
 intro args H K hc;obtain⟨⟨⟨parties,deals,funds,rest,holidays⟩,name,l⟩,rfl,rfl,hp,hK⟩:=hc;refine⟨cM,?_⟩;obtain⟨⟨hpa,hde,hpn,hok⟩,hnm,hll,hls⟩:=hp;dsimp only at hpa hde hpn hok hnm hll hls hK⊢;unfold fC at hpn hok hnm hls;have hno:K (.bl false) []:=hK false (fun h=>by cases h);have hyes:Dq ⟨parties,deals,funds,rest,holidays⟩ name l→K (.bl true) []:=fun h=>hK true fun _=>h
 clear hK;obtain⟨np,hnp⟩:∃n:Nat,n=parties.length:=⟨_,rfl⟩
 obtain⟨nd,hnd⟩:∃n:Nat,n=deals.length:=⟨_,rfl⟩
 obtain⟨nl,hnl⟩:∃n:Nat,n=l.length:=⟨_,rfl⟩
 cbv;repeat'((first|refine .mk (fun h=>?_) fun h=>?_|refine .k fun z hz=>?_|fail)<;>cbv)
 ·(refine .q9 ?_;cbv;exact .inl (.f9 hno))
 ·(refine .q9 ?_;cbv;exact .inl (.f9 hno))
 ·(refine .q9 ?_;cbv;exact .inl (.f9 hno))
 ·(refine .q9 ?_;cbv;exact .inl (.f9 hno))
 have hP:parties.length≤20:=bQ;have hD:deals.length≤8:=bQ;have hN:name.size≤60:=bQ;have hL:l.length≤40:=bQ;refine bS [] (fun p:{ k:Nat // k≤parties.length∧WN parties k }=>[(7,.i (nI p.1))]) (fun _=>[.blk 29 [.sl 3 (bJ jP parties),.sl 17 (bJ iY deals),.sl 3 (bJ kA funds),.sl 1 (bJ dD rest),.sl 1 (bJ dD holidays)]]) (fun p=>fE np p.1) ⟨0,aI _,rV⟩ ?_;rintro ⟨k,hk,hf⟩;dsimp only at hk hf⊢;rcases aL k parties.length with hks|hks
 ·obtain⟨⟨pn,pb,pk⟩,hx⟩:=cJ hks;have hpz:=hpn _ (aC hx);dsimp only at hpz;cbv;repeat'((first|refine .e ?_|refine .y fun h=>?_|refine .mk (fun h=>?_) fun h=>?_|refine .k fun z hz=>?_|fail)<;>cbv)
  ·(refine .q9 ?_;cbv;exact .inl (.f9 hno))
  ·obtain rfl:z=nI (k+1):=bQ;exact bM ⟨k+1,hks,rI hf hx (by dsimp only;((try simp only[vn]at *)<;>omega))⟩ (bN (by omega))
 obtain rfl:k=np:=by omega
 rw[hnp]at hf;have hPall:=uW hf;clear hf hpn;cbv;repeat'((first|refine .n fun h=>?_|refine .k fun z hz=>?_|fail)<;>cbv)
 refine bS [] (fun p:{ k:Nat // k≤deals.length∧Ut deals k }=>[(8,.i (nI p.1))]) (fun _=>[.blk 29 [.sl 3 (bJ jP parties),.sl 17 (bJ iY deals),.sl 3 (bJ kA funds),.sl 1 (bJ dD rest),.sl 1 (bJ dD holidays)]]) (fun p=>fE nd p.1) ⟨0,aI _,rV⟩ ?_;rintro ⟨k2,hk2,hf2⟩;dsimp only at hk2 hf2⊢;rcases aL k2 deals.length with hks2|hks2
 ·obtain⟨d,hx⟩:=cJ hks2;obtain⟨hdb,hdm,hd1,hd2,hd3,hd4,hd5,hd6,hd7⟩:=hok _ (aC hx);have hnx:Gw d→Ut deals (k2+1):=fun h=>rI hf2 hx h
  obtain⟨dn,dsel,dbuy,dcar,diss,dhou,dins,dfrm,dto,dcur,damt,dbx,dterm,dlat,dexp,dten,dduty⟩:=d;dsimp only at hdb hdm hd1 hd2 hd3 hd4 hd5 hd6 hd7;clear hok;cbv;repeat'((first|refine .e ?_|refine .y fun h=>?_|refine .mk (fun h=>?_) fun h=>?_|refine .k fun z hz=>?_|fail)<;>cbv)
  ·(refine .q9 ?_;cbv;exact .inl (.f9 hno))
  ·(refine .q9 ?_;cbv;exact .inl (.f9 hno))
  have hbx:dbx.length≤70:=bQ;have hall:dn.size≤300∧dsel.size≤300∧dbuy.size≤300∧dcar.size≤300∧dhou.size≤300∧dfrm.size≤300∧dto.size≤300:=bQ;obtain⟨nb,hnb⟩:∃n:Nat,n=dbx.length:=⟨_,rfl⟩
  refine bS [] (fun p:{ k:Nat // k≤dbx.length∧W4 dbx k }=>[(10,.i (nI p.1))]) (fun _=>[.blk 29 [.sl 3 (bJ jP parties),.sl 17 (bJ iY deals),.sl 3 (bJ kA funds),.sl 1 (bJ dD rest),.sl 1 (bJ dD holidays)]]++[.blk 67 [.str dn,.str dsel,.str dbuy,.str dcar,.str diss,.str dhou,.str dins,.str dfrm,.str dto,.str dcur,.i damt,.sl 3 (bJ Ga dbx),.i dterm,.i dlat,.i dexp,.i dten,.i dduty]]) (fun p=>fE nb p.1) ⟨0,aI _,rV⟩ ?_;rintro ⟨k3,hk3,hf3⟩;dsimp only at hk3 hf3⊢;rcases aL k3 dbx.length with hks3|hks3
  ·obtain⟨⟨bm,bk,bl⟩,hx3⟩:=cJ hks3;have hbz:=hdm _ (aC hx3);dsimp only at hbz;cbv;repeat'((first|refine .e ?_|refine .y fun h=>?_|refine .mk (fun h=>?_) fun h=>?_|refine .k fun z hz=>?_|fail)<;>cbv)
   ·(refine .q9 ?_;cbv;exact .inl (.f9 hno))
   ·obtain rfl:z=nI (k3+1):=bQ;exact bM ⟨k3+1,hks3,rI hf3 hx3 (by dsimp only;((try simp only[vn]at *)<;>omega))⟩ (bN (by omega))
  obtain rfl:k3=nb:=by omega
  rw[hnb]at hf3;have hBall:=uW hf3;cbv;repeat'((first|refine .n fun h=>?_|refine .k fun z hz=>?_|fail)<;>cbv)
  obtain rfl:z=nI (k2+1):=bQ;exact bM ⟨k2+1,hks2,hnx ⟨hbx,hBall,hall⟩⟩ (bN (by omega))
 obtain rfl:k2=nd:=by omega
 rw[hnd]at hf2;have hDall:=uW hf2;clear hf2 hok;cbv;repeat'((first|refine .n fun h=>?_|refine .k fun z hz=>?_|fail)<;>cbv)
 refine bS [] (fun p:{ k:Nat // k≤l.length∧Wi l k }=>[(11,.i (nI p.1))]) (fun _=>[.blk 29 [.sl 3 (bJ jP parties),.sl 17 (bJ iY deals),.sl 3 (bJ kA funds),.sl 1 (bJ dD rest),.sl 1 (bJ dD holidays)]]) (fun p=>fE nl p.1) ⟨0,aI _,rV⟩ ?_;rintro ⟨k4,hk4,hf4⟩;dsimp only at hk4 hf4⊢;rcases aL k4 l.length with hks4|hks4
 ·obtain⟨cx,hx⟩:=cJ hks4;obtain⟨hc1,hc2,hc3,hc4⟩:=hls _ (aC hx);have hnx:(cx.a.deal.size≤300∧cx.l.frm.size≤300∧cx.l.deal.size≤300∧cx.l.party.size≤300)→Wi l (k4+1):=fun h=>rI hf4 hx h
  obtain⟨ckind,cday,⟨ak,an,adeal⟩,⟨frm,to,number,lkind,ack,deal,text,party,index,day0,cur,amt,docs,boxes⟩⟩:=cx;dsimp only at hc1 hc2 hc3 hc4 hnx;cbv;repeat'((first|refine .e ?_|refine .y fun h=>?_|refine .mk (fun h=>?_) fun h=>?_|refine .k fun z hz=>?_|fail)<;>cbv)
  ·(refine .q9 ?_;cbv;exact .inl (.f9 hno))
  ·obtain rfl:z=nI (k4+1):=bQ;exact bM ⟨k4+1,hks4,hnx bQ⟩ (bN (by omega))
 obtain rfl:k4=nl:=by omega
 rw[hnl]at hf4;have hCall:=uW hf4;cbv;repeat'((first|refine .n fun h=>?_|refine .k fun z hz=>?_|fail)<;>cbv)
 (refine .q9 ?_;cbv;exact .inl (.f9 (hyes ⟨⟨hP,hD,hPall,hDall⟩,hN,⟨hL,hCall⟩⟩)))
structure Ss where
 s:iE
 name:bH
 x:Cs
 a:U4
 day:Int
structure Re (q:Ss):Prop where
 s:nK q.s
 x:Uk q.s q.x
 sz:q.name.size≤60∧q.a.deal.size≤300
 day:-9223372036854775808≤q.day∧q.day≤9223372036854775807
def YX:Cs×List dR×Int→AV
 |(x,l,e)=>.tup [Ei x,.sl 14 (bJ eM l),.i e]
def TE (κ:Int→Prop):dO:=spec (fun q:Ss=>[Gy q.s,.str q.name,Ei q.x,.agg [.i q.a.kind,.i q.a.n,.str q.a.deal],.i q.day]) (fun _=>[]) (fun q=>κ q.a.kind∧Re q) (fun q=>YX (lG eY q.s.su q.name q.x q.a.kind q.a.deal q.day)) fun _=>[]
def Lo (lad:Bl→Lr) (name:bH) (x:Cs) (kind:Int) (i:Nat) (d:De) (st:Int) (day:Int):Cs×List dR×Int:=
   if kind=6 then (if st≠2 then (x,[],9) else (oU x i 3,cI d.number day [{ nR with to:=d.buyer,kind:=26,boxes:=d.boxes }],0))
   else if st≠1 then (x,[],9) else
    let b:Bl:=gS name (cN d st true) day
    if gQ ⟨x.reg,b,d.seller⟩≠0 then (x,[],gQ ⟨x.reg,b,d.seller⟩)
    else ({ oU x i 2 with reg:=kD ⟨x.reg,b,d.seller⟩ },cI d.number day [{ nR with to:=d.seller,kind:=5,docs:=[lad b] }],0)
theorem Ci {lad:Bl→Lr}{s:Su}{name:bH}{x:Cs}{kind:Int}{deal:bH}{day:Int}(hk:kind=5∨kind=6) (h:dP s name deal=none):lG lad s name x kind deal day=(x,[],4):=by
 unfold lG;rw[aE (by omega),h]
theorem II {lad:Bl→Lr}{s:Su}{name:bH}{x:Cs}{kind:Int}{deal:bH}{day:Int}{i:Nat}{d:De}{st:Int}(hk:kind=5∨kind=6) (h:dP s name deal=some i) (h1:s.deals[i]?=some d) (h2:x.S[i]?=some st) :
  lG lad s name x kind deal day=Lo lad name x kind i d st day:=by
 unfold lG Lo;rw[aE (by omega),h];dsimp only;rw[h1,h2]
theorem Fw (P:bI):bO P Wm (TE fun k=>¬(k=5∨k=6)):=by
 intro args H0 K hc;obtain⟨⟨s,name,x,⟨kind,an,deal⟩,day⟩,rfl,rfl,⟨hkind,hs,hx,⟨hnz,hdz⟩,hday⟩,hK⟩:=hc;refine⟨cM,?_⟩;dsimp only at hkind hs hx hnz hdz hday hK⊢;obtain⟨r,hr⟩:∃r,r=lG eY s.su name x kind deal day:=⟨_,rfl⟩
 rw[←hr]at hK;unfold lG at hr;rw[aF (by omega)]at hr;subst hr;obtain⟨parties,deals,funds,rest,holidays⟩:=s;obtain⟨S,free,⟨c,L⟩,H,D⟩:=x;cbv;repeat'((first|refine .n fun h=>?_|fail)<;>cbv)
 all_goals first
 |(exfalso;exact hkind (by omega))
 |((refine .q9 ?_;cbv;exact .inl (.g9 hK)))
theorem yK (P:bI) (hde:bK P 13 mW) (hsd:bK P 94 qN) (hmr:bK P 20 pQ):bO P Wm (TE fun k=>k=6):=by
 intro args H0 K hc;obtain⟨⟨s,name,x,⟨kind,an,deal⟩,day⟩,rfl,rfl,⟨hkind,hs,hx,⟨hnz,hdz⟩,hday⟩,hK⟩:=hc;refine⟨cM,?_⟩;dsimp only at hkind hs hx hnz hdz hday hK⊢;obtain⟨r,hr⟩:∃r,r=lG eY s.su name x kind deal day:=⟨_,rfl⟩
 rw[←hr]at hK;have hdl:=hs.de;obtain⟨o,ho⟩:∃o,o=dP s.su name deal:=⟨_,rfl⟩
 have hat:∀i,o=some i→∃d st,s.deals[i]?=some d∧x.S[i]?=some st∧Gw d∧d.number=deal:=fun i hi=>by
  rw[ho]at hi;obtain⟨d,h1,h2,h3⟩:=nM hi;have hil:=(aA.1 h1).1;exact⟨d,_,h1,aB (by rw[hx.S];exact hil),hs.ok d (aC h1),h3⟩
 have hrn:o=none→r=(x,[],4):=fun h=>by rw[hr];exact Ci (by omega) (ho.symm.trans h)
 have hra:∀i d st,o=some i→s.deals[i]?=some d→x.S[i]?=some st→r=Lo eY name x kind i d.de st day:=fun i d st h1 h3 h4=>by
  rw[hr];exact II (by omega) (ho.symm.trans h1) (by show (s.deals.map jM.de)[i]?=_;rw[aD,h3];rfl) h4
 clear hr;obtain⟨parties,deals,funds,rest,holidays⟩:=s;obtain⟨S,free,⟨c,L⟩,H,D⟩:=x;subst hkind;dsimp only at hdl ho hat hra;cbv;repeat'((first|refine .n fun h=>?_|refine .y fun h=>?_|fail)<;>cbv)
 (refine ZN hde ((⟨parties,deals,funds,rest,holidays⟩,name,deal):iE×bH×bH) hdl ?_;try dsimp only)
 rw[←ho];cases o with
 |none=>
  have hr:=hrn rfl;subst hr;cbv;repeat'((first|refine .y fun h=>?_|fail)<;>cbv)
  (refine .q9 ?_;cbv;exact .inl (.g9 hK))
 |some i=>
  obtain⟨d,st,hd,hst,hokd,hnum⟩:=hat i rfl;have hr:=hra i d st rfl hd hst;clear hra hrn hat
  unfold Lo at hr;dsimp only at hr;have hml:=gD hokd;have hms:=kQ hokd;have hbl:=hokd.bx;have hsz:=hokd.sz;obtain⟨mk,hmk⟩:∃m,m=d.marks:=⟨_,rfl⟩
  have hmk2:d.de.boxes=mk:=hmk.symm;rw[←hmk]at hml hms;have hS5:S.length≤8:=by have:=hx.S;dsimp only at this;omega
  have hiS:i < S.length:=(aA.1 hst).1;rw[aF rfl,hmk2]at hr;obtain⟨S2,hS2⟩:∃S2,S2=S.set i 3:=⟨_,rfl⟩
  have eS2:oU ⟨S,free,⟨c,L⟩,H,D⟩ i 3=⟨S2,free,⟨c,L⟩,H,D⟩:=by rw[hS2];rfl
  rw[eS2]at hr;obtain⟨dn,dsel,dbuy,dcar,diss,dhou,dins,dfrm,dto,dcur,damt,dbx,dterm,dlat,dexp,dten,dduty⟩:=d;dsimp only at hnum hbl hsz;subst hnum;cbv;repeat'((first|refine .e ?_|refine .n fun h=>?_|refine .y fun h=>?_|refine .mk (fun h=>?_) fun h=>?_|fail)<;>cbv)
  all_goals first
  |(rw[aF (by assumption)]at hr
    subst hr
    (refine .q9 ?_;cbv;exact .inl (.g9 hK)))
  |skip
  rw[aE (fun h=>h (by assumption))]at hr;replace hr:r=(⟨S2,free,⟨c,L⟩,H,D⟩,[⟨eS,dbuy,0,26,0,dn,eS,eS,0,day,eS,0,[],mk⟩],0):=hr;subst hr
  (refine ZN hsd ((⟨S,free,⟨c,L⟩,H,D⟩,i,3):Cs×Nat×Int) ⟨hS5,hiS⟩ ?_;try dsimp only)
  rw[eS2];cbv
  (refine ZN hmr (⟨dn,dsel,dbuy,dcar,diss,dhou,dins,dfrm,dto,dcur,damt,dbx,dterm,dlat,dexp,dten,dduty⟩:jM) hbl ?_;try dsimp only)
  rw[←hmk];cbv;repeat'((first|refine And.intro ?_ ?_|fail)<;>cbv)
  all_goals
   refine dE (Gh.leAt 5 (.row 58 14 (bJ eM [⟨eS,dbuy,0,26,0,dn,eS,eS,0,day,eS,0,[],mk⟩])) rfl (tA Bc)) ?_;cbv;refine dE (Gh.plain 5 rfl) ?_;cbv
   (refine .q9 ?_;cbv;exact .inl (.g9 hK))
theorem yQ (P:bI) (hde:bK P 13 mW) (hsd:bK P 94 qN) (hbl5:bK P 95 zJ) (his:bK P 96 tU) (hla:bK P 97 GC):bO P Wm (TE fun k=>k=5):=by
 intro args H0 K hc;obtain⟨⟨s,name,x,⟨kind,an,deal⟩,day⟩,rfl,rfl,⟨hkind,hs,hx,⟨hnz,hdz⟩,hday⟩,hK⟩:=hc;refine⟨cM,?_⟩;dsimp only at hkind hs hx hnz hdz hday hK⊢;obtain⟨r,hr⟩:∃r,r=lG eY s.su name x kind deal day:=⟨_,rfl⟩
 rw[←hr]at hK;have hdl:=hs.de;obtain⟨o,ho⟩:∃o,o=dP s.su name deal:=⟨_,rfl⟩
 have hat:∀i,o=some i→∃d st,s.deals[i]?=some d∧x.S[i]?=some st∧Gw d∧d.number=deal:=fun i hi=>by
  rw[ho]at hi;obtain⟨d,h1,h2,h3⟩:=nM hi;have hil:=(aA.1 h1).1;exact⟨d,_,h1,aB (by rw[hx.S];exact hil),hs.ok d (aC h1),h3⟩
 have hrn:o=none→r=(x,[],4):=fun h=>by rw[hr];exact Ci (by omega) (ho.symm.trans h)
 have hra:∀i d st,o=some i→s.deals[i]?=some d→x.S[i]?=some st→r=Lo eY name x kind i d.de st day:=fun i d st h1 h3 h4=>by
  rw[hr];exact II (by omega) (ho.symm.trans h1) (by show (s.deals.map jM.de)[i]?=_;rw[aD,h3];rfl) h4
 clear hr;obtain⟨parties,deals,funds,rest,holidays⟩:=s;obtain⟨S,free,⟨c,L⟩,H,D⟩:=x;subst hkind;dsimp only at hdl ho hat hra;cbv;repeat'((first|refine .y fun h=>?_|fail)<;>cbv)
 (refine ZN hde ((⟨parties,deals,funds,rest,holidays⟩,name,deal):iE×bH×bH) hdl ?_;try dsimp only)
 rw[←ho];cases o with
 |none=>
  have hr:=hrn rfl;subst hr;cbv;repeat'((first|refine .y fun h=>?_|fail)<;>cbv)
  (refine .q9 ?_;cbv;exact .inl (.g9 hK))
 |some i=>
  obtain⟨d,st,hd,hst,hokd,hnum⟩:=hat i rfl;have hr:=hra i d st rfl hd hst;clear hra hrn hat
  unfold Lo at hr;dsimp only at hr;have hml:=gD hokd;have hms:=kQ hokd;have hbl:=hokd.bx;have hsz:=hokd.sz;obtain⟨mk,hmk⟩:∃m,m=d.marks:=⟨_,rfl⟩
  have hmk2:d.de.boxes=mk:=hmk.symm;rw[←hmk]at hml hms;have hS5:S.length≤8:=by have:=hx.S;dsimp only at this;omega
  have hiS:i < S.length:=(aA.1 hst).1;rw[aE (by decide)]at hr;have hxf:=hx.few;have hxa:=hx.all;obtain⟨b,hb⟩:∃b:Bl,b=gS name (cN d.de 0 true) day:=⟨_,rfl⟩
  have hbb:gS name (cN d.de st true) day=b:=by rw[hb];rfl
  have hbm:b=⟨Pk++d.number,name,d.seller,d.frm,d.to,mk,[],day,true⟩:=by rw[hb,hmk];rfl
  have hbz:b.number.size≤1000∧b.shipper.size≤1000∧b.frm.size≤1000∧b.to.size≤1000:=by
   rw[hbm];have h3:Pk.size=3:=rfl;have:=ByteArray.size_append (a:=Pk) (b:=d.number);exact⟨by dsimp only;omega,by dsimp only;omega,by dsimp only;omega,by dsimp only;omega⟩
  have hIP:M6 ⟨⟨c,L⟩,b,d.seller⟩:=by
   refine⟨hxf,fun y hy=>(hxa y hy).2,?_,⟨by show b.number.size≤maxLen;unfold maxLen;omega,by show b.shipper.size≤maxLen;unfold maxLen;omega,by show b.frm.size≤maxLen;unfold maxLen;omega,by show b.to.size≤maxLen;unfold maxLen;omega,?_⟩,by show d.seller.size≤maxLen;unfold maxLen;omega⟩
   ·show b.boxes.length≤5000∧b.parents.length≤5000;rw[hbm];exact⟨by dsimp only;omega,aI _⟩
   ·rw[hbm];intro s hs;cases hs
  have hLP:RW b:=by
   rw[hbm];exact⟨⟨by dsimp only;omega,fun s hs=>by have:=hms s hs;omega⟩,⟨aI _,fun s hs=>by cases hs⟩,hday⟩
  rw[hbb]at hr;obtain⟨⟨dk,dn1,di,dfs⟩,hdc⟩:∃q,q=eY b:=⟨_,rfl⟩
  obtain⟨S2,hS2⟩:∃S2,S2=S.set i 2:=⟨_,rfl⟩
  have eS2:oU ⟨S,free,⟨c,L⟩,H,D⟩ i 2=⟨S2,free,⟨c,L⟩,H,D⟩:=by rw[hS2];rfl
  rw[eS2,←hdc]at hr;obtain⟨e9,he9⟩:∃e,e=gQ ⟨⟨c,L⟩,b,d.seller⟩:=⟨_,rfl⟩
  obtain⟨⟨c9,L9⟩,hR9⟩:∃R,R=kD ⟨⟨c,L⟩,b,d.seller⟩:=⟨_,rfl⟩
  have hr1:st≠1→r=(⟨S,free,⟨c,L⟩,H,D⟩,[],9):=fun h=>by rw[hr,aF h]
  have hr2:st=1→e9≠0→r=(⟨S,free,⟨c,L⟩,H,D⟩,[],e9):=fun h h1=>by
   rw[hr,aE (fun h2=>h2 h)];show (if gQ ⟨⟨c,L⟩,b,d.seller⟩≠0 then ((⟨S,free,⟨c,L⟩,H,D⟩:Cs),([]:List dR),gQ ⟨⟨c,L⟩,b,d.seller⟩) else _)=_;rw[←he9,aF h1]
  have hr3:st=1→e9=0→r=(⟨S2,free,⟨c9,L9⟩,H,D⟩,[⟨eS,d.seller,0,5,0,d.number,eS,eS,0,day,eS,0,[⟨dk,dn1,di,dfs⟩],[]⟩],0):=fun h h1=>by
   rw[hr,aE (fun h2=>h2 h)];show (if gQ ⟨⟨c,L⟩,b,d.seller⟩≠0 then _ else (({ (⟨S2,free,⟨c,L⟩,H,D⟩:Cs)with reg:=kD ⟨⟨c,L⟩,b,d.seller⟩ }:Cs),_))=_;rw[←he9,aE (fun h=>h h1),←hR9];rfl
  clear hr;obtain⟨dn,dsel,dbuy,dcar,diss,dhou,dins,dfrm,dto,dcur,damt,dbx,dterm,dlat,dexp,dten,dduty⟩:=d;dsimp only at hnum hbl hsz;subst hnum;cbv;repeat'((first|refine .e ?_|refine .n fun h=>?_|refine .mk (fun h=>?_) fun h=>?_|fail)<;>cbv)
  all_goals first
  |(have hr:=hr1 (by assumption)
    subst hr
    (refine .q9 ?_;cbv;exact .inl (.g9 hK)))
  |skip
  (refine ZN hbl5 (((⟨dn,dsel,dbuy,dcar,diss,dhou,dins,dfrm,dto,dcur,damt,dbx,dterm,dlat,dexp,dten,dduty⟩:jM),name,day):jM×bH×Int) ⟨hbl,hdz⟩ ?_;try dsimp only)
  rw[←hb];obtain⟨bnum,bcar,bshi,bfrm,bto,bboxes,bpar,biss,bcl⟩:=b;cbv
  (refine ZN his (⟨⟨c,L⟩,⟨bnum,bcar,bshi,bfrm,bto,bboxes,bpar,biss,bcl⟩,dsel⟩:oV) hIP ?_;try dsimp only)
  rw[←he9,←hR9];cbv;repeat'((first|refine .mk (fun h=>?_) fun h=>?_|fail)<;>cbv)
  all_goals first
  |(have hr:=hr2 (by assumption) (by assumption)
    subst hr
    (refine .q9 ?_;cbv;exact .inl (.g9 hK)))
  |skip
  have hr:=hr3 (by assumption) (by assumption);subst hr
  (refine ZN hsd ((⟨S,free,⟨c,L⟩,H,D⟩,i,2):Cs×Nat×Int) ⟨hS5,hiS⟩ ?_;try dsimp only)
  rw[eS2];cbv
  (refine ZN hla (⟨bnum,bcar,bshi,bfrm,bto,bboxes,bpar,biss,bcl⟩:Bl) hLP ?_;try dsimp only)
  rw[←hdc];cbv;repeat'((first|refine And.intro ?_ ?_|fail)<;>cbv)
  all_goals
   refine dE (Gh.leAt 8 (.row 58 14 (bJ eM [⟨eS,dsel,0,5,0,dn,eS,eS,0,day,eS,0,[⟨dk,dn1,di,dfs⟩],[]⟩])) rfl (tA Bc)) ?_;cbv;refine dE (Gh.plain 8 rfl) ?_;cbv
   (refine .q9 ?_;cbv;exact .inl (.g9 hK))
theorem JM {P:bI}(hde:bK P 13 mW) (hsd:bK P 94 qN) (hmr:bK P 20 pQ) (hbl5:bK P 95 zJ) (his:bK P 96 tU) (hla:bK P 97 GC):bO P Wm (TE fun _=>True):=by
 intro args H0 K hc;obtain⟨q,h1,h2,⟨-,h4⟩,h5⟩:=hc;by_cases k1:q.a.kind=5
 ·exact yQ P hde hsd hbl5 his hla args H0 K ⟨q,h1,h2,⟨k1,h4⟩,h5⟩
 by_cases k2:q.a.kind=6
 ·exact yK P hde hsd hmr args H0 K ⟨q,h1,h2,⟨k2,h4⟩,h5⟩
 exact Fw P args H0 K ⟨q,h1,h2,⟨fun h=>by rcases h with h|h<;>contradiction,h4⟩,h5⟩
end Go.Proofs.YtigdiekbiphhmaaGreatDoor
end
