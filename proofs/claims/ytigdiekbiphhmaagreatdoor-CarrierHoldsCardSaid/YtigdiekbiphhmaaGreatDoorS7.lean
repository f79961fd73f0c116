/-
  Texts of this proof,joined: CWJ,SI3,SI1,SI2,SI5,SIZ,CWO,CWP,CWR,CWS,CWT,CWQ,CWU,CWK,CWL,CWM.
-/
import Derived.Test.YtigdiekbiphhmaaGreatDoorS6
set_option linter.unusedVariables false
set_option linter.unusedSimpArgs false
noncomputable section
namespace Go.Proofs.YtigdiekbiphhmaaGreatDoor
open Go.RowKit
set_option maxHeartbeats 8000000
set_option maxRecDepth 100000
structure Zr (name:bH) (d:De) (day:Int) (H:List eJ) (bs:List bH) (p:Nat×List eJ):Prop where
 le:p.1≤bs.length
 eq:lA name d day H bs=lA name d day p.2 (bs.drop p.1)
 len:p.2.length≤H.length+2 * p.1
structure Qd where
 x:Cs
 d:jM
 i:Nat
 name:bH
 day:Int
structure Rp (q:Qd):Prop where
 len:q.x.H.length≤50000
 ok:Gz q.d
 S:q.x.S.length≤8∧q.i < q.x.S.length
 sz:q.name.size≤1000
def AE (q:Qd):Cs:=match lA q.name q.d.de q.day q.x.H q.d.marks with
 |none=>q.x
 |some H=>oU { q.x with H:=H } q.i 1
def zT:dL:=spec (fun q:Qd=>[Fn q.x,lD q.d,.i (nI q.i),.str q.name,.i q.day]) (fun _=>[]) Rp (fun q=>Fn (AE q)) fun _=>[]
theorem ET (P:bI) (hm:bK P 20 pT) (hb:bK P 140 C0) (hh:bK P 141 Dj) (hs:bK P 94 qP):bM P ZI zT:=by
 intro args H K hc;obtain⟨⟨⟨S,free,⟨c,L⟩,H,D⟩,d,i,name,day⟩,rfl,rfl,hp,hK⟩:=hc;refine⟨cK,?_⟩;dsimp only at hp hK⊢;obtain⟨hl,hok,⟨hS8,hiS⟩,hnm⟩:=hp
 try dsimp only at hl hS8 hiS hnm
 have hml:=gH hok;have hms:=kN hok;have hbl:=hok.bx;have hsz:=hok.sz;obtain⟨bs,hbs⟩:∃q,q=d.marks:=⟨_,rfl⟩
 obtain⟨q,hq⟩:∃q,q=lA name d.de day H bs:=⟨_,rfl⟩
 replace hK:K (Fn (AE ⟨⟨S,free,⟨c,L⟩,H,D⟩,d,i,name,day⟩)) []:=hK;unfold AE at hK;dsimp only at hK;rw[←hbs,←hq]at hK;rw[←hbs]at hml hms;obtain⟨n,hn⟩:∃n:Nat,n=bs.length:=⟨_,rfl⟩
 obtain⟨de,hde⟩:∃e,e=d.de:=⟨_,rfl⟩
 have hdS:de.seller=d.seller:=by rw[hde];rfl
 have hdF:de.frm=d.frm:=by rw[hde];rfl
 rw[←hde]at hq;clear hok;obtain⟨number,seller,buyer,carrier,issuer,house,insurer,frm,to,cur,amt,boxes,term,latest,expiry,tenor,duty⟩:=d
 try dsimp only at hbl hdS hdF hsz
 clear hde;cbv
 (refine ZO hm (⟨number,seller,buyer,carrier,issuer,house,insurer,frm,to,cur,amt,boxes,term,latest,expiry,tenor,duty⟩:jM) hbl ?_;try dsimp only)
 rw[←hbs];cbv;refine bU [] (fun p:{ p:Nat×List eJ // Zr name de day H bs p }=>[(11,.sl 5 (bJ dP p.1.2)),(13,.i (nI p.1.1))]) (fun _=>[.blk 41 [.sl 1 (bJ dZ S),.sl 1 (bJ sX free),.str c,.sl 11 (bJ jF L),.sl 5 (bJ dP H),.sl 5 (bJ dP D)],.blk 67 [.str number,.str seller,.str buyer,.str carrier,.str issuer,.str house,.str insurer,.str frm,.str to,.str cur,.i amt,.sl 3 (bJ Gf boxes),.i term,.i latest,.i expiry,.i tenor,.i duty],.blk 41 [.v (.slice none 0 0),.v (.slice none 0 0),.str ⟨#[]⟩,.v (.slice none 0 0),.v (.slice none 0 0),.v (.slice none 0 0)]]) (fun p=>fO n p.1.1) ⟨(0,H),⟨aI _,rfl,aN _⟩⟩ ?_;rintro ⟨⟨k,Hk⟩,⟨hk,heq,hlen⟩⟩;dsimp only at hk heq hlen⊢;rcases aL k bs.length with hks|hks
 rotate_left
 ·obtain rfl:k=n:=by omega
  rw[List.drop_of_length_le (by omega),←hq]at heq;have e1:q=some Hk:=heq;rw[e1]at hK;dsimp only at hK;cbv;repeat'((first|refine .n fun h=>?_|refine .k fun z hz=>?_|fail)<;>cbv)
  obtain⟨S2,hS2⟩:∃S2,S2=S.set i 1:=⟨_,rfl⟩
  have eS2:oU ⟨S,free,⟨c,L⟩,Hk,D⟩ i 1=⟨S2,free,⟨c,L⟩,Hk,D⟩:=by rw[hS2];rfl
  (refine ZO hs ((⟨S,free,⟨c,L⟩,Hk,D⟩,i,1):Cs×Nat×Int) ⟨hS8,hiS⟩ ?_;try dsimp only)
  rw[eS2]at hK⊢;cbv
  (refine .q9 ?_;cbv;exact .inl (.f9 hK))
 obtain⟨b,hx⟩:=cJ hks;have hbz:=hms b (aC hx);have hdr:bs.drop k=b :: bs.drop (k+1):=by
  obtain⟨h1,rfl⟩:=aA.1 hx;exact List.drop_eq_getElem_cons h1
 have heq2:lA name de day H bs=if wI Hk ⟨b,eS,seller,frm,day⟩≠0 then none else if iG (Hk++[⟨b,eS,seller,frm,day⟩]) ⟨b,seller,name,frm,day⟩≠0 then none else lA name de day (Hk++[⟨b,eS,seller,frm,day⟩]++[⟨b,seller,name,frm,day⟩]) (bs.drop (k+1)):=by
  rw[heq,hdr,←hdS,←hdF];rfl
 clear heq hdr;obtain⟨e,he⟩:∃e,e=wI Hk ⟨b,eS,seller,frm,day⟩:=⟨_,rfl⟩
 obtain⟨H2,hH2⟩:∃H2,H2=Hk++[⟨b,eS,seller,frm,day⟩]:=⟨_,rfl⟩
 have hH2l:H2.length=Hk.length+1:=by rw[hH2];simp
 rw[←he,←hH2]at heq2;obtain⟨e2,he2⟩:∃e,e=iG H2 ⟨b,seller,name,frm,day⟩:=⟨_,rfl⟩
 rw[←he2]at heq2;have hlong:∀s:bH,s.size≤1000→s.size≤maxLen:=fun s h=>by unfold maxLen;omega
 cbv;repeat'((first|refine .e ?_|refine .y fun h=>?_|refine .k fun z hz=>?_|fail)<;>cbv)
 (refine ZO hb ((Hk,⟨b,eS,seller,frm,day⟩):List eJ×eJ) ⟨by dsimp only;omega,hlong _ (by dsimp only;omega),hlong _ (by dsimp only;omega),hlong _ (by dsimp only;omega)⟩ ?_;try dsimp only)
 rw[←he];cbv;repeat'((first|refine .e ?_|refine .mk (fun h=>?_) fun h=>?_|refine .o ?_|refine .zl fun zs hzs hzl=>?_|refine And.intro ?_ ?_|fail)<;>cbv)
 all_goals first
  |(rw[aF (by assumption),←hq]at heq2
    rw[heq2]at hK
    (refine .q9 ?_;cbv;exact .inl (.f9 hK)))
  |skip
 all_goals
  rw[aE (fun h=>h (by assumption))]at heq2;obtain rfl:zs=bJ dP H2:=by(rw[hH2,bW,cD];first|exact hzs|(subst_vars;rfl))
  first
  |(refine eP 3 rfl ?_
    cbv
    (refine ZO hh ((H2,⟨b,seller,name,frm,day⟩):List eJ×eJ) ⟨by dsimp only;omega,hlong _ (by dsimp only;omega),hlong _ (by dsimp only;omega),hlong _ (by dsimp only;omega),hlong _ (by dsimp only;omega)⟩ ?_;try dsimp only))
  |(refine eP 4 rfl ?_
    cbv
    (refine ZO hh ((H2,⟨b,seller,name,frm,day⟩):List eJ×eJ) ⟨by dsimp only;omega,hlong _ (by dsimp only;omega),hlong _ (by dsimp only;omega),hlong _ (by dsimp only;omega),hlong _ (by dsimp only;omega)⟩ ?_;try dsimp only))
  |(refine eP 5 rfl ?_
    cbv
    (refine ZO hh ((H2,⟨b,seller,name,frm,day⟩):List eJ×eJ) ⟨by dsimp only;omega,hlong _ (by dsimp only;omega),hlong _ (by dsimp only;omega),hlong _ (by dsimp only;omega),hlong _ (by dsimp only;omega)⟩ ?_;try dsimp only))
  |(refine eP 6 rfl ?_
    cbv
    (refine ZO hh ((H2,⟨b,seller,name,frm,day⟩):List eJ×eJ) ⟨by dsimp only;omega,hlong _ (by dsimp only;omega),hlong _ (by dsimp only;omega),hlong _ (by dsimp only;omega),hlong _ (by dsimp only;omega)⟩ ?_;try dsimp only))
  rw[←he2];cbv;repeat'((first|refine .mk (fun h=>?_) fun h=>?_|refine .k fun z hz=>?_|refine .o ?_|refine .zl fun zs hzs hzl=>?_|refine And.intro ?_ ?_|fail)<;>cbv)
  all_goals first
   |(rw[aF (by assumption),←hq]at heq2
     rw[heq2]at hK
     (refine .q9 ?_;cbv;exact .inl (.f9 hK)))
   |(rw[aE (fun h=>h (by assumption))]at heq2
     obtain rfl:z=nI (k+1):=bQ;obtain rfl:zs=bJ dP (H2++[⟨b,seller,name,frm,day⟩]):=by(rw[bW,cD];first|exact hzs|(subst_vars;rfl))
     refine dW (Gh.plain 8 rfl) ?_;cbv;exact bN ⟨(k+1,H2++[⟨b,seller,name,frm,day⟩]),⟨hks,heq2,by(show (H2++[_]).length≤H.length+2 * (k+1);rw[aM,List.length_cons,List.length_nil];omega)⟩⟩ (bO (by omega)))
set_option maxHeartbeats 4000000
theorem jO {L a b:List Br}{y:Br}{i:Nat}{x:AV}{n:Int}{zs1 zs:List AV}(h4:zs=zs1++bJ jF b) (h2:b=List.drop ((some n).getD 0).toNat (List.take ((none:Option Int).getD (L.length:Int)).toNat L)) (h3:zs1=bJ jF a++[x]) (h1:a=List.drop ((none:Option Int).getD 0).toNat (List.take ((some (Int.ofNat i)).getD (L.length:Int)).toNat L)) (hx:x=jF y) (hn:n=Int.ofNat i+1) (hi:i < L.length):zs=bJ jF (L.set i y):=by
 have e1:a=L.take i:=by rw[h1];simp
 have e2:b=L.drop (i+1):=by
  rw[h2,hn];have:((some (Int.ofNat i+1)).getD 0).toNat=i+1:=by show ((i:Int)+1).toNat=i+1;omega
  rw[this];simp
 rw[h4,h3,e1,e2,hx,List.set_eq_take_append_cons_drop,aF hi,bW];have e:bJ jF (y :: L.drop (i+1))=jF y :: bJ jF (L.drop (i+1)):=rfl;rw[e,bG];rfl
theorem La (P:bI) (hw:bK P 142 nD) (hf:bK P 63 sO) (hwh:bK P 143 oT):bM P Kp (qF 3):=by
 intro args H K hc;obtain⟨⟨⟨carrier,L⟩,a⟩,rfl,rfl,hp,hK⟩:=hc;refine⟨cK,?_⟩;dsimp only at hp hK⊢;obtain⟨hkind,_,hfew,hall,hok,hsz,hts⟩:=hp;dsimp only at hkind hfew hall hok hsz hts;have hd:kI ⟨carrier,L⟩ a=(⟨carrier,fZ L (cP a) (iI a)⟩,eI L (cP a)):=by unfold kI;rw[aE (by omega)]
 rw[hd]at hK;clear hd;obtain⟨e,he⟩:∃e,e=eI L (cP a):=⟨_,rfl⟩
 obtain⟨L',hL'⟩:∃L',L'=fZ L (cP a) (iI a):=⟨_,rfl⟩
 rw[←he,←hL']at hK;unfold fZ at hL';rw[←he]at hL';obtain⟨kind,index,day,bill,by_,to,b⟩:=a;obtain rfl:kind=3:=hkind;obtain⟨nq2,cq2,sq2,frm2,to2,bq2,pq2,iq2,lq2⟩:=b;cbv;repeat'((first|refine .n fun h=>?_|fail)<;>cbv)
 (refine ZO hw ((⟨carrier,L⟩:Rg),(⟨3,index,day,bill,by_,to,⟨nq2,cq2,sq2,frm2,to2,bq2,pq2,iq2,lq2⟩⟩:At)) ⟨⟨by show (1:Int)≤3;decide,by show (3:Int)≤5;decide⟩,hfew,fun b hb=>(hall b hb).1,hts⟩ ?_;try dsimp only)
 rw[←he];cbv;repeat'((first|refine .mk (fun h=>?_) fun h=>?_|fail)<;>cbv)
 ·rw[aF (by assumption:e=0)]at hL';have h0:e=0:=by assumption
  rw[h0]at hK;obtain⟨f,hf1⟩:∃f,f=pE (fun y:Br=>decide (y.b.number=bill)) L:=⟨_,rfl⟩
  (refine ZO hf ((⟨carrier,L⟩:Rg),bill) (by dsimp only;omega) ?_;try dsimp only)
  rw[←hf1];cases hb:rN L bill with
  |none=>exact(jZ (he.symm.trans (by assumption:e=0)) hb).elim
  |some i=>
   rw[lM,hb]at hf1;dsimp only at hf1;subst hf1;obtain⟨x,hx,_⟩:=eB hb;have hii:=(aA.1 hx).1;have hz:=lG (he.symm.trans (by assumption:e=0)) hb hx;have hk:=mV hz;clear hz;have hL':L'=BU L bill (tG index (yG 3)):=hL';rw[gW _ hb hx]at hL';have hki:0≤index∧index < 3:=hk;have hk3:index=0∨index=1∨index=2:=by omega
   obtain⟨⟨nq1,cq1,sq1,frm1,to1,bq1,pq1,iq1,lq1⟩,st1,⟨sa1,ha1,ca1⟩,⟨sb1,hb1,cb1⟩,⟨sc1,hc1,cc1⟩⟩:=x;rcases hk3 with rfl|rfl|rfl
   ·obtain rfl:L'=L.set i ⟨⟨nq1,cq1,sq1,frm1,to1,bq1,pq1,iq1,lq1⟩,st1,⟨3,ha1,ca1⟩,⟨sb1,hb1,cb1⟩,⟨sc1,hc1,cc1⟩⟩:=hL';cbv;repeat'((first|refine .e ?_|refine .zl fun zs hzs hzl=>?_|fail)<;>cbv)
    obtain rfl:zs=[.agg [.i sa1,.str ha1,.sl 4 (bJ bV ca1)],.agg [.i sb1,.str hb1,.sl 4 (bJ bV cb1)],.agg [.i sc1,.str hc1,.sl 4 (bJ bV cc1)]]:=hzs
    (refine ZO hwh (⟨3,0,day,bill,by_,to,⟨nq2,cq2,sq2,frm2,to2,bq2,pq2,iq2,lq2⟩⟩:At) trivial ?_;try dsimp only)
    rw[aE (by decide)];cbv;refine bU [4] (fun q:{ j:Nat // j≤1 }=>[(11,.i (nI q.1)),(9,gB q.1 (.hd 4) (.sl 3 [.agg [.i 3,.str ha1,.sl 4 (bJ bV ca1)],.agg [.i sb1,.str hb1,.sl 4 (bJ bV cb1)],.agg [.i sc1,.str hc1,.sl 4 (bJ bV cc1)]]) .any .any)]) (fun q=>[.blk 38 [.str carrier,.sl 11 (bJ jF L)],.blk 204 (yZ ⟨3,0,day,bill,by_,to,⟨nq2,cq2,sq2,frm2,to2,bq2,pq2,iq2,lq2⟩⟩),.blk 38 [.str ⟨⟨[]⟩⟩,.v (.slice none 0 0)],.blk 104 (zE ⟨⟨nq1,cq1,sq1,frm1,to1,bq1,pq1,iq1,lq1⟩,st1,⟨sa1,ha1,ca1⟩,⟨sb1,hb1,cb1⟩,⟨sc1,hc1,cc1⟩⟩),gB q.1 (.row 107 3 [.agg [.i sa1,.str ha1,.sl 4 (bJ bV ca1)],.agg [.i sb1,.str hb1,.sl 4 (bJ bV cb1)],.agg [.i sc1,.str hc1,.sl 4 (bJ bV cc1)]]) (.tip 107 3 [.agg [.i 3,.str ha1,.sl 4 (bJ bV ca1)],.agg [.i sb1,.str hb1,.sl 4 (bJ bV cb1)],.agg [.i sc1,.str hc1,.sl 4 (bJ bV cc1)]]) .dead .dead]) (fun q=>fO 1 q.1) ⟨0,by decide⟩ ?_;rintro ⟨j,hj⟩;dsimp only at hj⊢;have hj2:j=0∨j=1:=by omega
    rcases hj2 with rfl|rfl
    ·cbv;repeat'((first|refine .n fun h=>?_|refine .y fun h=>?_|refine .k fun z hz=>?_|refine .z fun zs hzs=>?_|refine ZX.i0 ?_|refine cN.i0 ?_|fail)<;>cbv)
     obtain rfl:zs=[.agg [.i 3,.str ha1,.sl 4 (bJ bV ca1)],.agg [.i sb1,.str hb1,.sl 4 (bJ bV cb1)],.agg [.i sc1,.str hc1,.sl 4 (bJ bV cc1)]]:=hzs;obtain rfl:z=nI 1:=bQ;refine dW (Gh.plain 4 rfl) ?_;cbv;exact bN ⟨1,by decide⟩ (bO (by decide))
    ·cbv;repeat'((first|refine .n fun h=>?_|refine .k fun z hz=>?_|refine .o ?_|refine .l fun ys hys hyl=>?_|refine .zl fun zs hzs hzl=>?_|refine And.intro ?_ ?_|fail)<;>cbv)
     all_goals
      obtain rfl:zs=bJ jF (L.set i ⟨⟨nq1,cq1,sq1,frm1,to1,bq1,pq1,iq1,lq1⟩,st1,⟨3,ha1,ca1⟩,⟨sb1,hb1,cb1⟩,⟨sc1,hc1,cc1⟩⟩):=jO hzs hys (by assumption) (by assumption) rfl bQ hii
      (refine .r9 (Gh.plain 5 rfl) ?_;cbv;exact .inl (.g9 hK))
   ·obtain rfl:L'=L.set i ⟨⟨nq1,cq1,sq1,frm1,to1,bq1,pq1,iq1,lq1⟩,st1,⟨sa1,ha1,ca1⟩,⟨3,hb1,cb1⟩,⟨sc1,hc1,cc1⟩⟩:=hL';cbv;repeat'((first|refine .e ?_|refine .zl fun zs hzs hzl=>?_|fail)<;>cbv)
    obtain rfl:zs=[.agg [.i sa1,.str ha1,.sl 4 (bJ bV ca1)],.agg [.i sb1,.str hb1,.sl 4 (bJ bV cb1)],.agg [.i sc1,.str hc1,.sl 4 (bJ bV cc1)]]:=hzs
    (refine ZO hwh (⟨3,1,day,bill,by_,to,⟨nq2,cq2,sq2,frm2,to2,bq2,pq2,iq2,lq2⟩⟩:At) trivial ?_;try dsimp only)
    rw[aE (by decide)];cbv;refine bU [4] (fun q:{ j:Nat // j≤1 }=>[(11,.i (nI q.1)),(9,gB q.1 (.hd 4) (.sl 3 [.agg [.i sa1,.str ha1,.sl 4 (bJ bV ca1)],.agg [.i 3,.str hb1,.sl 4 (bJ bV cb1)],.agg [.i sc1,.str hc1,.sl 4 (bJ bV cc1)]]) .any .any)]) (fun q=>[.blk 38 [.str carrier,.sl 11 (bJ jF L)],.blk 204 (yZ ⟨3,1,day,bill,by_,to,⟨nq2,cq2,sq2,frm2,to2,bq2,pq2,iq2,lq2⟩⟩),.blk 38 [.str ⟨⟨[]⟩⟩,.v (.slice none 0 0)],.blk 104 (zE ⟨⟨nq1,cq1,sq1,frm1,to1,bq1,pq1,iq1,lq1⟩,st1,⟨sa1,ha1,ca1⟩,⟨sb1,hb1,cb1⟩,⟨sc1,hc1,cc1⟩⟩),gB q.1 (.row 107 3 [.agg [.i sa1,.str ha1,.sl 4 (bJ bV ca1)],.agg [.i sb1,.str hb1,.sl 4 (bJ bV cb1)],.agg [.i sc1,.str hc1,.sl 4 (bJ bV cc1)]]) (.tip 107 3 [.agg [.i sa1,.str ha1,.sl 4 (bJ bV ca1)],.agg [.i 3,.str hb1,.sl 4 (bJ bV cb1)],.agg [.i sc1,.str hc1,.sl 4 (bJ bV cc1)]]) .dead .dead]) (fun q=>fO 1 q.1) ⟨0,by decide⟩ ?_;rintro ⟨j,hj⟩;dsimp only at hj⊢;have hj2:j=0∨j=1:=by omega
    rcases hj2 with rfl|rfl
    ·cbv;repeat'((first|refine .n fun h=>?_|refine .y fun h=>?_|refine .k fun z hz=>?_|refine .z fun zs hzs=>?_|refine ZX.i0 ?_|refine ZX.i1 ?_|refine cN.i1 ?_|fail)<;>cbv)
     obtain rfl:zs=[.agg [.i sa1,.str ha1,.sl 4 (bJ bV ca1)],.agg [.i 3,.str hb1,.sl 4 (bJ bV cb1)],.agg [.i sc1,.str hc1,.sl 4 (bJ bV cc1)]]:=hzs;obtain rfl:z=nI 1:=bQ;refine dW (Gh.plain 4 rfl) ?_;cbv;exact bN ⟨1,by decide⟩ (bO (by decide))
    ·cbv;repeat'((first|refine .n fun h=>?_|refine .k fun z hz=>?_|refine .o ?_|refine .l fun ys hys hyl=>?_|refine .zl fun zs hzs hzl=>?_|refine And.intro ?_ ?_|fail)<;>cbv)
     all_goals
      obtain rfl:zs=bJ jF (L.set i ⟨⟨nq1,cq1,sq1,frm1,to1,bq1,pq1,iq1,lq1⟩,st1,⟨sa1,ha1,ca1⟩,⟨3,hb1,cb1⟩,⟨sc1,hc1,cc1⟩⟩):=jO hzs hys (by assumption) (by assumption) rfl bQ hii
      (refine .r9 (Gh.plain 5 rfl) ?_;cbv;exact .inl (.g9 hK))
   ·obtain rfl:L'=L.set i ⟨⟨nq1,cq1,sq1,frm1,to1,bq1,pq1,iq1,lq1⟩,st1,⟨sa1,ha1,ca1⟩,⟨sb1,hb1,cb1⟩,⟨3,hc1,cc1⟩⟩:=hL';cbv;repeat'((first|refine .e ?_|refine .zl fun zs hzs hzl=>?_|fail)<;>cbv)
    obtain rfl:zs=[.agg [.i sa1,.str ha1,.sl 4 (bJ bV ca1)],.agg [.i sb1,.str hb1,.sl 4 (bJ bV cb1)],.agg [.i sc1,.str hc1,.sl 4 (bJ bV cc1)]]:=hzs
    (refine ZO hwh (⟨3,2,day,bill,by_,to,⟨nq2,cq2,sq2,frm2,to2,bq2,pq2,iq2,lq2⟩⟩:At) trivial ?_;try dsimp only)
    rw[aE (by decide)];cbv;refine bU [4] (fun q:{ j:Nat // j≤1 }=>[(11,.i (nI q.1)),(9,gB q.1 (.hd 4) (.sl 3 [.agg [.i sa1,.str ha1,.sl 4 (bJ bV ca1)],.agg [.i sb1,.str hb1,.sl 4 (bJ bV cb1)],.agg [.i 3,.str hc1,.sl 4 (bJ bV cc1)]]) .any .any)]) (fun q=>[.blk 38 [.str carrier,.sl 11 (bJ jF L)],.blk 204 (yZ ⟨3,2,day,bill,by_,to,⟨nq2,cq2,sq2,frm2,to2,bq2,pq2,iq2,lq2⟩⟩),.blk 38 [.str ⟨⟨[]⟩⟩,.v (.slice none 0 0)],.blk 104 (zE ⟨⟨nq1,cq1,sq1,frm1,to1,bq1,pq1,iq1,lq1⟩,st1,⟨sa1,ha1,ca1⟩,⟨sb1,hb1,cb1⟩,⟨sc1,hc1,cc1⟩⟩),gB q.1 (.row 107 3 [.agg [.i sa1,.str ha1,.sl 4 (bJ bV ca1)],.agg [.i sb1,.str hb1,.sl 4 (bJ bV cb1)],.agg [.i sc1,.str hc1,.sl 4 (bJ bV cc1)]]) (.tip 107 3 [.agg [.i sa1,.str ha1,.sl 4 (bJ bV ca1)],.agg [.i sb1,.str hb1,.sl 4 (bJ bV cb1)],.agg [.i 3,.str hc1,.sl 4 (bJ bV cc1)]]) .dead .dead]) (fun q=>fO 1 q.1) ⟨0,by decide⟩ ?_;rintro ⟨j,hj⟩;dsimp only at hj⊢;have hj2:j=0∨j=1:=by omega
    rcases hj2 with rfl|rfl
    ·cbv;repeat'((first|refine .n fun h=>?_|refine .y fun h=>?_|refine .k fun z hz=>?_|refine .z fun zs hzs=>?_|refine ZX.i0 ?_|refine ZX.i2 ?_|refine cN.i2 ?_|fail)<;>cbv)
     obtain rfl:zs=[.agg [.i sa1,.str ha1,.sl 4 (bJ bV ca1)],.agg [.i sb1,.str hb1,.sl 4 (bJ bV cb1)],.agg [.i 3,.str hc1,.sl 4 (bJ bV cc1)]]:=hzs;obtain rfl:z=nI 1:=bQ;refine dW (Gh.plain 4 rfl) ?_;cbv;exact bN ⟨1,by decide⟩ (bO (by decide))
    ·cbv;repeat'((first|refine .n fun h=>?_|refine .k fun z hz=>?_|refine .o ?_|refine .l fun ys hys hyl=>?_|refine .zl fun zs hzs hzl=>?_|refine And.intro ?_ ?_|fail)<;>cbv)
     all_goals
      obtain rfl:zs=bJ jF (L.set i ⟨⟨nq1,cq1,sq1,frm1,to1,bq1,pq1,iq1,lq1⟩,st1,⟨sa1,ha1,ca1⟩,⟨sb1,hb1,cb1⟩,⟨3,hc1,cc1⟩⟩):=jO hzs hys (by assumption) (by assumption) rfl bQ hii
      (refine .r9 (Gh.plain 5 rfl) ?_;cbv;exact .inl (.g9 hK))
 ·rw[aE (by assumption:¬e=0)]at hL';subst hL'
  (refine .q9 ?_;cbv;exact .inl (.f9 hK))
theorem LK (P:bI) (hw:bK P 142 nD) (hf:bK P 63 sO) (hwh:bK P 143 oT):bM P Kp (qF 4):=by
 intro args H K hc;obtain⟨⟨⟨carrier,L⟩,a⟩,rfl,rfl,hp,hK⟩:=hc;refine⟨cK,?_⟩;dsimp only at hp hK⊢;obtain⟨hkind,_,hfew,hall,hok,hsz,hts⟩:=hp;dsimp only at hkind hfew hall hok hsz hts;have hd:kI ⟨carrier,L⟩ a=(⟨carrier,fZ L (cP a) (iI a)⟩,eI L (cP a)):=by unfold kI;rw[aE (by omega)]
 rw[hd]at hK;clear hd;obtain⟨e,he⟩:∃e,e=eI L (cP a):=⟨_,rfl⟩
 obtain⟨L',hL'⟩:∃L',L'=fZ L (cP a) (iI a):=⟨_,rfl⟩
 rw[←he,←hL']at hK;unfold fZ at hL';rw[←he]at hL';obtain⟨kind,index,day,bill,by_,to,b⟩:=a;obtain rfl:kind=4:=hkind;obtain⟨nq2,cq2,sq2,frm2,to2,bq2,pq2,iq2,lq2⟩:=b;cbv;repeat'((first|refine .n fun h=>?_|fail)<;>cbv)
 (refine ZO hw ((⟨carrier,L⟩:Rg),(⟨4,index,day,bill,by_,to,⟨nq2,cq2,sq2,frm2,to2,bq2,pq2,iq2,lq2⟩⟩:At)) ⟨⟨by show (1:Int)≤4;decide,by show (4:Int)≤5;decide⟩,hfew,fun b hb=>(hall b hb).1,hts⟩ ?_;try dsimp only)
 rw[←he];cbv;repeat'((first|refine .mk (fun h=>?_) fun h=>?_|fail)<;>cbv)
 ·rw[aF (by assumption:e=0)]at hL';have h0:e=0:=by assumption
  rw[h0]at hK;obtain⟨f,hf1⟩:∃f,f=pE (fun y:Br=>decide (y.b.number=bill)) L:=⟨_,rfl⟩
  (refine ZO hf ((⟨carrier,L⟩:Rg),bill) (by dsimp only;omega) ?_;try dsimp only)
  rw[←hf1];cases hb:rN L bill with
  |none=>exact(jZ (he.symm.trans (by assumption:e=0)) hb).elim
  |some i=>
   rw[lM,hb]at hf1;dsimp only at hf1;subst hf1;obtain⟨x,hx,_⟩:=eB hb;have hii:=(aA.1 hx).1;have hz:=lG (he.symm.trans (by assumption:e=0)) hb hx;have hk:=mV hz;clear hz;have hL':L'=BU L bill (tG index (yG 0)):=hL';rw[gW _ hb hx]at hL';have hki:0≤index∧index < 3:=hk;have hk3:index=0∨index=1∨index=2:=by omega
   obtain⟨⟨nq1,cq1,sq1,frm1,to1,bq1,pq1,iq1,lq1⟩,st1,⟨sa1,ha1,ca1⟩,⟨sb1,hb1,cb1⟩,⟨sc1,hc1,cc1⟩⟩:=x;rcases hk3 with rfl|rfl|rfl
   ·obtain rfl:L'=L.set i ⟨⟨nq1,cq1,sq1,frm1,to1,bq1,pq1,iq1,lq1⟩,st1,⟨0,ha1,ca1⟩,⟨sb1,hb1,cb1⟩,⟨sc1,hc1,cc1⟩⟩:=hL';cbv;repeat'((first|refine .e ?_|refine .zl fun zs hzs hzl=>?_|fail)<;>cbv)
    obtain rfl:zs=[.agg [.i sa1,.str ha1,.sl 4 (bJ bV ca1)],.agg [.i sb1,.str hb1,.sl 4 (bJ bV cb1)],.agg [.i sc1,.str hc1,.sl 4 (bJ bV cc1)]]:=hzs
    (refine ZO hwh (⟨4,0,day,bill,by_,to,⟨nq2,cq2,sq2,frm2,to2,bq2,pq2,iq2,lq2⟩⟩:At) trivial ?_;try dsimp only)
    rw[aE (by decide)];cbv;refine bU [4] (fun q:{ j:Nat // j≤1 }=>[(11,.i (nI q.1)),(9,gB q.1 (.hd 4) (.sl 3 [.agg [.i 0,.str ha1,.sl 4 (bJ bV ca1)],.agg [.i sb1,.str hb1,.sl 4 (bJ bV cb1)],.agg [.i sc1,.str hc1,.sl 4 (bJ bV cc1)]]) .any .any)]) (fun q=>[.blk 38 [.str carrier,.sl 11 (bJ jF L)],.blk 204 (yZ ⟨4,0,day,bill,by_,to,⟨nq2,cq2,sq2,frm2,to2,bq2,pq2,iq2,lq2⟩⟩),.blk 38 [.str ⟨⟨[]⟩⟩,.v (.slice none 0 0)],.blk 104 (zE ⟨⟨nq1,cq1,sq1,frm1,to1,bq1,pq1,iq1,lq1⟩,st1,⟨sa1,ha1,ca1⟩,⟨sb1,hb1,cb1⟩,⟨sc1,hc1,cc1⟩⟩),gB q.1 (.row 107 3 [.agg [.i sa1,.str ha1,.sl 4 (bJ bV ca1)],.agg [.i sb1,.str hb1,.sl 4 (bJ bV cb1)],.agg [.i sc1,.str hc1,.sl 4 (bJ bV cc1)]]) (.tip 107 3 [.agg [.i 0,.str ha1,.sl 4 (bJ bV ca1)],.agg [.i sb1,.str hb1,.sl 4 (bJ bV cb1)],.agg [.i sc1,.str hc1,.sl 4 (bJ bV cc1)]]) .dead .dead]) (fun q=>fO 1 q.1) ⟨0,by decide⟩ ?_;rintro ⟨j,hj⟩;dsimp only at hj⊢;have hj2:j=0∨j=1:=by omega
    rcases hj2 with rfl|rfl
    ·cbv;repeat'((first|refine .n fun h=>?_|refine .y fun h=>?_|refine .k fun z hz=>?_|refine .z fun zs hzs=>?_|refine ZX.i0 ?_|refine cN.i0 ?_|fail)<;>cbv)
     obtain rfl:zs=[.agg [.i 0,.str ha1,.sl 4 (bJ bV ca1)],.agg [.i sb1,.str hb1,.sl 4 (bJ bV cb1)],.agg [.i sc1,.str hc1,.sl 4 (bJ bV cc1)]]:=hzs;obtain rfl:z=nI 1:=bQ;refine dW (Gh.plain 4 rfl) ?_;cbv;exact bN ⟨1,by decide⟩ (bO (by decide))
    ·cbv;repeat'((first|refine .n fun h=>?_|refine .k fun z hz=>?_|refine .o ?_|refine .l fun ys hys hyl=>?_|refine .zl fun zs hzs hzl=>?_|refine And.intro ?_ ?_|fail)<;>cbv)
     all_goals
      obtain rfl:zs=bJ jF (L.set i ⟨⟨nq1,cq1,sq1,frm1,to1,bq1,pq1,iq1,lq1⟩,st1,⟨0,ha1,ca1⟩,⟨sb1,hb1,cb1⟩,⟨sc1,hc1,cc1⟩⟩):=jO hzs hys (by assumption) (by assumption) rfl bQ hii
      (refine .r9 (Gh.plain 5 rfl) ?_;cbv;exact .inl (.g9 hK))
   ·obtain rfl:L'=L.set i ⟨⟨nq1,cq1,sq1,frm1,to1,bq1,pq1,iq1,lq1⟩,st1,⟨sa1,ha1,ca1⟩,⟨0,hb1,cb1⟩,⟨sc1,hc1,cc1⟩⟩:=hL';cbv;repeat'((first|refine .e ?_|refine .zl fun zs hzs hzl=>?_|fail)<;>cbv)
    obtain rfl:zs=[.agg [.i sa1,.str ha1,.sl 4 (bJ bV ca1)],.agg [.i sb1,.str hb1,.sl 4 (bJ bV cb1)],.agg [.i sc1,.str hc1,.sl 4 (bJ bV cc1)]]:=hzs
    (refine ZO hwh (⟨4,1,day,bill,by_,to,⟨nq2,cq2,sq2,frm2,to2,bq2,pq2,iq2,lq2⟩⟩:At) trivial ?_;try dsimp only)
    rw[aE (by decide)];cbv;refine bU [4] (fun q:{ j:Nat // j≤1 }=>[(11,.i (nI q.1)),(9,gB q.1 (.hd 4) (.sl 3 [.agg [.i sa1,.str ha1,.sl 4 (bJ bV ca1)],.agg [.i 0,.str hb1,.sl 4 (bJ bV cb1)],.agg [.i sc1,.str hc1,.sl 4 (bJ bV cc1)]]) .any .any)]) (fun q=>[.blk 38 [.str carrier,.sl 11 (bJ jF L)],.blk 204 (yZ ⟨4,1,day,bill,by_,to,⟨nq2,cq2,sq2,frm2,to2,bq2,pq2,iq2,lq2⟩⟩),.blk 38 [.str ⟨⟨[]⟩⟩,.v (.slice none 0 0)],.blk 104 (zE ⟨⟨nq1,cq1,sq1,frm1,to1,bq1,pq1,iq1,lq1⟩,st1,⟨sa1,ha1,ca1⟩,⟨sb1,hb1,cb1⟩,⟨sc1,hc1,cc1⟩⟩),gB q.1 (.row 107 3 [.agg [.i sa1,.str ha1,.sl 4 (bJ bV ca1)],.agg [.i sb1,.str hb1,.sl 4 (bJ bV cb1)],.agg [.i sc1,.str hc1,.sl 4 (bJ bV cc1)]]) (.tip 107 3 [.agg [.i sa1,.str ha1,.sl 4 (bJ bV ca1)],.agg [.i 0,.str hb1,.sl 4 (bJ bV cb1)],.agg [.i sc1,.str hc1,.sl 4 (bJ bV cc1)]]) .dead .dead]) (fun q=>fO 1 q.1) ⟨0,by decide⟩ ?_;rintro ⟨j,hj⟩;dsimp only at hj⊢;have hj2:j=0∨j=1:=by omega
    rcases hj2 with rfl|rfl
    ·cbv;repeat'((first|refine .n fun h=>?_|refine .y fun h=>?_|refine .k fun z hz=>?_|refine .z fun zs hzs=>?_|refine ZX.i0 ?_|refine ZX.i1 ?_|refine cN.i1 ?_|fail)<;>cbv)
     obtain rfl:zs=[.agg [.i sa1,.str ha1,.sl 4 (bJ bV ca1)],.agg [.i 0,.str hb1,.sl 4 (bJ bV cb1)],.agg [.i sc1,.str hc1,.sl 4 (bJ bV cc1)]]:=hzs;obtain rfl:z=nI 1:=bQ;refine dW (Gh.plain 4 rfl) ?_;cbv;exact bN ⟨1,by decide⟩ (bO (by decide))
    ·cbv;repeat'((first|refine .n fun h=>?_|refine .k fun z hz=>?_|refine .o ?_|refine .l fun ys hys hyl=>?_|refine .zl fun zs hzs hzl=>?_|refine And.intro ?_ ?_|fail)<;>cbv)
     all_goals
      obtain rfl:zs=bJ jF (L.set i ⟨⟨nq1,cq1,sq1,frm1,to1,bq1,pq1,iq1,lq1⟩,st1,⟨sa1,ha1,ca1⟩,⟨0,hb1,cb1⟩,⟨sc1,hc1,cc1⟩⟩):=jO hzs hys (by assumption) (by assumption) rfl bQ hii
      (refine .r9 (Gh.plain 5 rfl) ?_;cbv;exact .inl (.g9 hK))
   ·obtain rfl:L'=L.set i ⟨⟨nq1,cq1,sq1,frm1,to1,bq1,pq1,iq1,lq1⟩,st1,⟨sa1,ha1,ca1⟩,⟨sb1,hb1,cb1⟩,⟨0,hc1,cc1⟩⟩:=hL';cbv;repeat'((first|refine .e ?_|refine .zl fun zs hzs hzl=>?_|fail)<;>cbv)
    obtain rfl:zs=[.agg [.i sa1,.str ha1,.sl 4 (bJ bV ca1)],.agg [.i sb1,.str hb1,.sl 4 (bJ bV cb1)],.agg [.i sc1,.str hc1,.sl 4 (bJ bV cc1)]]:=hzs
    (refine ZO hwh (⟨4,2,day,bill,by_,to,⟨nq2,cq2,sq2,frm2,to2,bq2,pq2,iq2,lq2⟩⟩:At) trivial ?_;try dsimp only)
    rw[aE (by decide)];cbv;refine bU [4] (fun q:{ j:Nat // j≤1 }=>[(11,.i (nI q.1)),(9,gB q.1 (.hd 4) (.sl 3 [.agg [.i sa1,.str ha1,.sl 4 (bJ bV ca1)],.agg [.i sb1,.str hb1,.sl 4 (bJ bV cb1)],.agg [.i 0,.str hc1,.sl 4 (bJ bV cc1)]]) .any .any)]) (fun q=>[.blk 38 [.str carrier,.sl 11 (bJ jF L)],.blk 204 (yZ ⟨4,2,day,bill,by_,to,⟨nq2,cq2,sq2,frm2,to2,bq2,pq2,iq2,lq2⟩⟩),.blk 38 [.str ⟨⟨[]⟩⟩,.v (.slice none 0 0)],.blk 104 (zE ⟨⟨nq1,cq1,sq1,frm1,to1,bq1,pq1,iq1,lq1⟩,st1,⟨sa1,ha1,ca1⟩,⟨sb1,hb1,cb1⟩,⟨sc1,hc1,cc1⟩⟩),gB q.1 (.row 107 3 [.agg [.i sa1,.str ha1,.sl 4 (bJ bV ca1)],.agg [.i sb1,.str hb1,.sl 4 (bJ bV cb1)],.agg [.i sc1,.str hc1,.sl 4 (bJ bV cc1)]]) (.tip 107 3 [.agg [.i sa1,.str ha1,.sl 4 (bJ bV ca1)],.agg [.i sb1,.str hb1,.sl 4 (bJ bV cb1)],.agg [.i 0,.str hc1,.sl 4 (bJ bV cc1)]]) .dead .dead]) (fun q=>fO 1 q.1) ⟨0,by decide⟩ ?_;rintro ⟨j,hj⟩;dsimp only at hj⊢;have hj2:j=0∨j=1:=by omega
    rcases hj2 with rfl|rfl
    ·cbv;repeat'((first|refine .n fun h=>?_|refine .y fun h=>?_|refine .k fun z hz=>?_|refine .z fun zs hzs=>?_|refine ZX.i0 ?_|refine ZX.i2 ?_|refine cN.i2 ?_|fail)<;>cbv)
     obtain rfl:zs=[.agg [.i sa1,.str ha1,.sl 4 (bJ bV ca1)],.agg [.i sb1,.str hb1,.sl 4 (bJ bV cb1)],.agg [.i 0,.str hc1,.sl 4 (bJ bV cc1)]]:=hzs;obtain rfl:z=nI 1:=bQ;refine dW (Gh.plain 4 rfl) ?_;cbv;exact bN ⟨1,by decide⟩ (bO (by decide))
    ·cbv;repeat'((first|refine .n fun h=>?_|refine .k fun z hz=>?_|refine .o ?_|refine .l fun ys hys hyl=>?_|refine .zl fun zs hzs hzl=>?_|refine And.intro ?_ ?_|fail)<;>cbv)
     all_goals
      obtain rfl:zs=bJ jF (L.set i ⟨⟨nq1,cq1,sq1,frm1,to1,bq1,pq1,iq1,lq1⟩,st1,⟨sa1,ha1,ca1⟩,⟨sb1,hb1,cb1⟩,⟨0,hc1,cc1⟩⟩):=jO hzs hys (by assumption) (by assumption) rfl bQ hii
      (refine .r9 (Gh.plain 5 rfl) ?_;cbv;exact .inl (.g9 hK))
 ·rw[aE (by assumption:¬e=0)]at hL';subst hL'
  (refine .q9 ?_;cbv;exact .inl (.f9 hK))
theorem JN (P:bI) (hw:bK P 142 nD) (hf:bK P 63 sO) (hwh:bK P 143 oT):bM P Kp (qF 1):=by
 intro args H K hc;obtain⟨⟨⟨carrier,L⟩,a⟩,rfl,rfl,hp,hK⟩:=hc;refine⟨cK,?_⟩;dsimp only at hp hK⊢;obtain⟨hkind,_,hfew,hall,hok,hsz,hts⟩:=hp;dsimp only at hkind hfew hall hok hsz hts;have hd:kI ⟨carrier,L⟩ a=(⟨carrier,fZ L (cP a) (iI a)⟩,eI L (cP a)):=by unfold kI;rw[aE (by omega)]
 rw[hd]at hK;clear hd;obtain⟨e,he⟩:∃e,e=eI L (cP a):=⟨_,rfl⟩
 obtain⟨L',hL'⟩:∃L',L'=fZ L (cP a) (iI a):=⟨_,rfl⟩
 rw[←he,←hL']at hK;unfold fZ at hL';rw[←he]at hL';obtain⟨kind,index,day,bill,by_,to,b⟩:=a;obtain rfl:kind=1:=hkind;obtain⟨nq2,cq2,sq2,frm2,to2,bq2,pq2,iq2,lq2⟩:=b;cbv;repeat'((first|refine .n fun h=>?_|fail)<;>cbv)
 (refine ZO hw ((⟨carrier,L⟩:Rg),(⟨1,index,day,bill,by_,to,⟨nq2,cq2,sq2,frm2,to2,bq2,pq2,iq2,lq2⟩⟩:At)) ⟨⟨by show (1:Int)≤1;decide,by show (1:Int)≤5;decide⟩,hfew,fun b hb=>(hall b hb).1,hts⟩ ?_;try dsimp only)
 rw[←he];cbv;repeat'((first|refine .mk (fun h=>?_) fun h=>?_|fail)<;>cbv)
 ·rw[aF (by assumption:e=0)]at hL';have h0:e=0:=by assumption
  rw[h0]at hK;obtain⟨f,hf1⟩:∃f,f=pE (fun y:Br=>decide (y.b.number=bill)) L:=⟨_,rfl⟩
  (refine ZO hf ((⟨carrier,L⟩:Rg),bill) (by dsimp only;omega) ?_;try dsimp only)
  rw[←hf1];cases hb:rN L bill with
  |none=>exact(jZ (he.symm.trans (by assumption:e=0)) hb).elim
  |some i=>
   rw[lM,hb]at hf1;dsimp only at hf1;subst hf1;obtain⟨x,hx,_⟩:=eB hb;have hii:=(aA.1 hx).1;have hz:=lG (he.symm.trans (by assumption:e=0)) hb hx;have hk:=mV hz;clear hz;have hL':L'=BU L bill (tG index (wR by_ to day)):=hL';rw[gW _ hb hx]at hL';have hki:-1≤index∧index < 3:=hk;have hk3:index=0∨index=1∨index=2∨index=-1:=by omega
   have hch:=(hall x (aC hx)).1;obtain⟨⟨nq1,cq1,sq1,frm1,to1,bq1,pq1,iq1,lq1⟩,st1,⟨sa1,ha1,ca1⟩,⟨sb1,hb1,cb1⟩,⟨sc1,hc1,cc1⟩⟩:=x;unfold qR at hch;dsimp only at hch;obtain⟨hch0,hch1,hch2⟩:=hch;obtain⟨da,hda⟩:∃d,d=ca1++[(⟨by_,to,0,day⟩:pY)]:=⟨_,rfl⟩
   obtain⟨db,hdb⟩:∃d,d=cb1++[(⟨by_,to,0,day⟩:pY)]:=⟨_,rfl⟩
   obtain⟨dc,hdc⟩:∃d,d=cc1++[(⟨by_,to,0,day⟩:pY)]:=⟨_,rfl⟩
   rcases hk3 with rfl|rfl|rfl|rfl
   ·obtain rfl:L'=L.set i ⟨⟨nq1,cq1,sq1,frm1,to1,bq1,pq1,iq1,lq1⟩,st1,⟨sa1,to,da⟩,⟨sb1,hb1,cb1⟩,⟨sc1,hc1,cc1⟩⟩:=by rw[hL',hda];rfl
    cbv;repeat'((first|refine .e ?_|refine .zl fun zs hzs hzl=>?_|fail)<;>cbv)
    obtain rfl:zs=[.agg [.i sa1,.str ha1,.sl 4 (bJ bV ca1)],.agg [.i sb1,.str hb1,.sl 4 (bJ bV cb1)],.agg [.i sc1,.str hc1,.sl 4 (bJ bV cc1)]]:=hzs
    (refine ZO hwh (⟨1,0,day,bill,by_,to,⟨nq2,cq2,sq2,frm2,to2,bq2,pq2,iq2,lq2⟩⟩:At) trivial ?_;try dsimp only)
    rw[aE (by decide)];cbv;refine zV [4] (fun q:{ j:Nat // j≤1 }=>[(11,.i (nI q.1)),(9,gB q.1 (.hd 4) (.sl 3 [.agg [.i sa1,.str to,.sl 4 (bJ bV da)],.agg [.i sb1,.str hb1,.sl 4 (bJ bV cb1)],.agg [.i sc1,.str hc1,.sl 4 (bJ bV cc1)]]) .any .any)]) (fun q=>[.blk 38 [.str carrier,.sl 11 (bJ jF L)],.blk 204 (yZ ⟨1,0,day,bill,by_,to,⟨nq2,cq2,sq2,frm2,to2,bq2,pq2,iq2,lq2⟩⟩),.blk 38 [.str ⟨⟨[]⟩⟩,.v (.slice none 0 0)],.blk 104 (zE ⟨⟨nq1,cq1,sq1,frm1,to1,bq1,pq1,iq1,lq1⟩,st1,⟨sa1,ha1,ca1⟩,⟨sb1,hb1,cb1⟩,⟨sc1,hc1,cc1⟩⟩),gB q.1 (.row 107 3 [.agg [.i sa1,.str ha1,.sl 4 (bJ bV ca1)],.agg [.i sb1,.str hb1,.sl 4 (bJ bV cb1)],.agg [.i sc1,.str hc1,.sl 4 (bJ bV cc1)]]) (.tip 107 3 [.agg [.i sa1,.str to,.sl 4 (bJ bV da)],.agg [.i sb1,.str hb1,.sl 4 (bJ bV cb1)],.agg [.i sc1,.str hc1,.sl 4 (bJ bV cc1)]]) .dead .dead]) (fun q=>fO 1 q.1) ⟨0,by decide⟩ ?_;rintro ⟨j,hj⟩;dsimp only at hj⊢;have hj2:j=0∨j=1:=by omega
    rcases hj2 with rfl|rfl
    ·refine dK.seq (.of ?_);cbv;repeat'((first|refine .y fun h=>?_|refine .k fun z hz=>?_|fail)<;>cbv)
     refine dK.seq (.block ?_);refine dK.seq (.of ?_);cbv;repeat'((first|refine ZX.i0 ?_|refine cN.i0 ?_|fail)<;>cbv)
     refine dK.seq (.of ?_);cbv;repeat'((first|refine .y fun h=>?_|refine .o ?_|refine .zl fun zs hzs hzl=>?_|refine And.intro ?_ ?_|fail)<;>cbv)
     all_goals
      obtain rfl:zs=bJ bV da:=by rw[hda,bW,cD];exact hzs
      refine dK.gh (Gh.plain 6 rfl) (.of ?_);cbv;repeat'((first|refine .z fun zs hzs=>?_|refine ZX.i0 ?_|refine cN.i0 ?_|fail)<;>cbv)
      obtain rfl:zs=[.agg [.i sa1,.str to,.sl 4 (bJ bV da)],.agg [.i sb1,.str hb1,.sl 4 (bJ bV cb1)],.agg [.i sc1,.str hc1,.sl 4 (bJ bV cc1)]]:=hzs;refine .of ?_;cbv;repeat'((first|refine .k fun z hz=>?_|fail)<;>cbv)
      obtain rfl:z=nI 1:=bQ;refine dW (Gh.plain 4 rfl) ?_;cbv;exact bN ⟨1,by decide⟩ (bO (by decide))
    ·refine dK.seq (.of ?_);cbv;repeat'((first|refine .n fun h=>?_|refine .k fun z hz=>?_|refine .o ?_|refine .l fun ys hys hyl=>?_|refine .zl fun zs hzs hzl=>?_|refine And.intro ?_ ?_|fail)<;>cbv)
     all_goals
      obtain rfl:zs=bJ jF (L.set i ⟨⟨nq1,cq1,sq1,frm1,to1,bq1,pq1,iq1,lq1⟩,st1,⟨sa1,to,da⟩,⟨sb1,hb1,cb1⟩,⟨sc1,hc1,cc1⟩⟩):=jO hzs hys (by assumption) (by assumption) rfl bQ hii
      (refine .r9 (Gh.plain 5 rfl) ?_;cbv;exact .inl (.g9 hK))
   ·obtain rfl:L'=L.set i ⟨⟨nq1,cq1,sq1,frm1,to1,bq1,pq1,iq1,lq1⟩,st1,⟨sa1,ha1,ca1⟩,⟨sb1,to,db⟩,⟨sc1,hc1,cc1⟩⟩:=by rw[hL',hdb];rfl
    cbv;repeat'((first|refine .e ?_|refine .zl fun zs hzs hzl=>?_|fail)<;>cbv)
    obtain rfl:zs=[.agg [.i sa1,.str ha1,.sl 4 (bJ bV ca1)],.agg [.i sb1,.str hb1,.sl 4 (bJ bV cb1)],.agg [.i sc1,.str hc1,.sl 4 (bJ bV cc1)]]:=hzs
    (refine ZO hwh (⟨1,1,day,bill,by_,to,⟨nq2,cq2,sq2,frm2,to2,bq2,pq2,iq2,lq2⟩⟩:At) trivial ?_;try dsimp only)
    rw[aE (by decide)];cbv;refine zV [4] (fun q:{ j:Nat // j≤1 }=>[(11,.i (nI q.1)),(9,gB q.1 (.hd 4) (.sl 3 [.agg [.i sa1,.str ha1,.sl 4 (bJ bV ca1)],.agg [.i sb1,.str to,.sl 4 (bJ bV db)],.agg [.i sc1,.str hc1,.sl 4 (bJ bV cc1)]]) .any .any)]) (fun q=>[.blk 38 [.str carrier,.sl 11 (bJ jF L)],.blk 204 (yZ ⟨1,1,day,bill,by_,to,⟨nq2,cq2,sq2,frm2,to2,bq2,pq2,iq2,lq2⟩⟩),.blk 38 [.str ⟨⟨[]⟩⟩,.v (.slice none 0 0)],.blk 104 (zE ⟨⟨nq1,cq1,sq1,frm1,to1,bq1,pq1,iq1,lq1⟩,st1,⟨sa1,ha1,ca1⟩,⟨sb1,hb1,cb1⟩,⟨sc1,hc1,cc1⟩⟩),gB q.1 (.row 107 3 [.agg [.i sa1,.str ha1,.sl 4 (bJ bV ca1)],.agg [.i sb1,.str hb1,.sl 4 (bJ bV cb1)],.agg [.i sc1,.str hc1,.sl 4 (bJ bV cc1)]]) (.tip 107 3 [.agg [.i sa1,.str ha1,.sl 4 (bJ bV ca1)],.agg [.i sb1,.str to,.sl 4 (bJ bV db)],.agg [.i sc1,.str hc1,.sl 4 (bJ bV cc1)]]) .dead .dead]) (fun q=>fO 1 q.1) ⟨0,by decide⟩ ?_;rintro ⟨j,hj⟩;dsimp only at hj⊢;have hj2:j=0∨j=1:=by omega
    rcases hj2 with rfl|rfl
    ·refine dK.seq (.of ?_);cbv;repeat'((first|refine .y fun h=>?_|refine .k fun z hz=>?_|fail)<;>cbv)
     refine dK.seq (.block ?_);refine dK.seq (.of ?_);cbv;repeat'((first|refine ZX.i0 ?_|refine ZX.i1 ?_|refine cN.i1 ?_|fail)<;>cbv)
     refine dK.seq (.of ?_);cbv;repeat'((first|refine .y fun h=>?_|refine .o ?_|refine .zl fun zs hzs hzl=>?_|refine And.intro ?_ ?_|fail)<;>cbv)
     all_goals
      obtain rfl:zs=bJ bV db:=by rw[hdb,bW,cD];exact hzs
      refine dK.gh (Gh.plain 6 rfl) (.of ?_);cbv;repeat'((first|refine .z fun zs hzs=>?_|refine ZX.i0 ?_|refine ZX.i1 ?_|refine cN.i1 ?_|fail)<;>cbv)
      obtain rfl:zs=[.agg [.i sa1,.str ha1,.sl 4 (bJ bV ca1)],.agg [.i sb1,.str to,.sl 4 (bJ bV db)],.agg [.i sc1,.str hc1,.sl 4 (bJ bV cc1)]]:=hzs;refine .of ?_;cbv;repeat'((first|refine .k fun z hz=>?_|fail)<;>cbv)
      obtain rfl:z=nI 1:=bQ;refine dW (Gh.plain 4 rfl) ?_;cbv;exact bN ⟨1,by decide⟩ (bO (by decide))
    ·refine dK.seq (.of ?_);cbv;repeat'((first|refine .n fun h=>?_|refine .k fun z hz=>?_|refine .o ?_|refine .l fun ys hys hyl=>?_|refine .zl fun zs hzs hzl=>?_|refine And.intro ?_ ?_|fail)<;>cbv)
     all_goals
      obtain rfl:zs=bJ jF (L.set i ⟨⟨nq1,cq1,sq1,frm1,to1,bq1,pq1,iq1,lq1⟩,st1,⟨sa1,ha1,ca1⟩,⟨sb1,to,db⟩,⟨sc1,hc1,cc1⟩⟩):=jO hzs hys (by assumption) (by assumption) rfl bQ hii
      (refine .r9 (Gh.plain 5 rfl) ?_;cbv;exact .inl (.g9 hK))
   ·obtain rfl:L'=L.set i ⟨⟨nq1,cq1,sq1,frm1,to1,bq1,pq1,iq1,lq1⟩,st1,⟨sa1,ha1,ca1⟩,⟨sb1,hb1,cb1⟩,⟨sc1,to,dc⟩⟩:=by rw[hL',hdc];rfl
    cbv;repeat'((first|refine .e ?_|refine .zl fun zs hzs hzl=>?_|fail)<;>cbv)
    obtain rfl:zs=[.agg [.i sa1,.str ha1,.sl 4 (bJ bV ca1)],.agg [.i sb1,.str hb1,.sl 4 (bJ bV cb1)],.agg [.i sc1,.str hc1,.sl 4 (bJ bV cc1)]]:=hzs
    (refine ZO hwh (⟨1,2,day,bill,by_,to,⟨nq2,cq2,sq2,frm2,to2,bq2,pq2,iq2,lq2⟩⟩:At) trivial ?_;try dsimp only)
    rw[aE (by decide)];cbv;refine zV [4] (fun q:{ j:Nat // j≤1 }=>[(11,.i (nI q.1)),(9,gB q.1 (.hd 4) (.sl 3 [.agg [.i sa1,.str ha1,.sl 4 (bJ bV ca1)],.agg [.i sb1,.str hb1,.sl 4 (bJ bV cb1)],.agg [.i sc1,.str to,.sl 4 (bJ bV dc)]]) .any .any)]) (fun q=>[.blk 38 [.str carrier,.sl 11 (bJ jF L)],.blk 204 (yZ ⟨1,2,day,bill,by_,to,⟨nq2,cq2,sq2,frm2,to2,bq2,pq2,iq2,lq2⟩⟩),.blk 38 [.str ⟨⟨[]⟩⟩,.v (.slice none 0 0)],.blk 104 (zE ⟨⟨nq1,cq1,sq1,frm1,to1,bq1,pq1,iq1,lq1⟩,st1,⟨sa1,ha1,ca1⟩,⟨sb1,hb1,cb1⟩,⟨sc1,hc1,cc1⟩⟩),gB q.1 (.row 107 3 [.agg [.i sa1,.str ha1,.sl 4 (bJ bV ca1)],.agg [.i sb1,.str hb1,.sl 4 (bJ bV cb1)],.agg [.i sc1,.str hc1,.sl 4 (bJ bV cc1)]]) (.tip 107 3 [.agg [.i sa1,.str ha1,.sl 4 (bJ bV ca1)],.agg [.i sb1,.str hb1,.sl 4 (bJ bV cb1)],.agg [.i sc1,.str to,.sl 4 (bJ bV dc)]]) .dead .dead]) (fun q=>fO 1 q.1) ⟨0,by decide⟩ ?_;rintro ⟨j,hj⟩;dsimp only at hj⊢;have hj2:j=0∨j=1:=by omega
    rcases hj2 with rfl|rfl
    ·refine dK.seq (.of ?_);cbv;repeat'((first|refine .y fun h=>?_|refine .k fun z hz=>?_|fail)<;>cbv)
     refine dK.seq (.block ?_);refine dK.seq (.of ?_);cbv;repeat'((first|refine ZX.i0 ?_|refine ZX.i2 ?_|refine cN.i2 ?_|fail)<;>cbv)
     refine dK.seq (.of ?_);cbv;repeat'((first|refine .y fun h=>?_|refine .o ?_|refine .zl fun zs hzs hzl=>?_|refine And.intro ?_ ?_|fail)<;>cbv)
     all_goals
      obtain rfl:zs=bJ bV dc:=by rw[hdc,bW,cD];exact hzs
      refine dK.gh (Gh.plain 6 rfl) (.of ?_);cbv;repeat'((first|refine .z fun zs hzs=>?_|refine ZX.i0 ?_|refine ZX.i2 ?_|refine cN.i2 ?_|fail)<;>cbv)
      obtain rfl:zs=[.agg [.i sa1,.str ha1,.sl 4 (bJ bV ca1)],.agg [.i sb1,.str hb1,.sl 4 (bJ bV cb1)],.agg [.i sc1,.str to,.sl 4 (bJ bV dc)]]:=hzs;refine .of ?_;cbv;repeat'((first|refine .k fun z hz=>?_|fail)<;>cbv)
      obtain rfl:z=nI 1:=bQ;refine dW (Gh.plain 4 rfl) ?_;cbv;exact bN ⟨1,by decide⟩ (bO (by decide))
    ·refine dK.seq (.of ?_);cbv;repeat'((first|refine .n fun h=>?_|refine .k fun z hz=>?_|refine .o ?_|refine .l fun ys hys hyl=>?_|refine .zl fun zs hzs hzl=>?_|refine And.intro ?_ ?_|fail)<;>cbv)
     all_goals
      obtain rfl:zs=bJ jF (L.set i ⟨⟨nq1,cq1,sq1,frm1,to1,bq1,pq1,iq1,lq1⟩,st1,⟨sa1,ha1,ca1⟩,⟨sb1,hb1,cb1⟩,⟨sc1,to,dc⟩⟩):=jO hzs hys (by assumption) (by assumption) rfl bQ hii
      (refine .r9 (Gh.plain 5 rfl) ?_;cbv;exact .inl (.g9 hK))
   ·obtain rfl:L'=L.set i ⟨⟨nq1,cq1,sq1,frm1,to1,bq1,pq1,iq1,lq1⟩,st1,⟨sa1,to,da⟩,⟨sb1,to,db⟩,⟨sc1,to,dc⟩⟩:=by rw[hL',hda,hdb,hdc];rfl
    cbv;repeat'((first|refine .e ?_|refine .zl fun zs hzs hzl=>?_|fail)<;>cbv)
    obtain rfl:zs=[.agg [.i sa1,.str ha1,.sl 4 (bJ bV ca1)],.agg [.i sb1,.str hb1,.sl 4 (bJ bV cb1)],.agg [.i sc1,.str hc1,.sl 4 (bJ bV cc1)]]:=hzs
    (refine ZO hwh (⟨1,-1,day,bill,by_,to,⟨nq2,cq2,sq2,frm2,to2,bq2,pq2,iq2,lq2⟩⟩:At) trivial ?_;try dsimp only)
    rw[aF (.inr ⟨rfl,rfl⟩)];cbv;refine zV [4] (fun q:{ j:Nat // j≤3 }=>[(11,.i (nI q.1)),(9,gB q.1 (.hd 4) (.hd 4) (.hd 4) (.sl 3 [.agg [.i sa1,.str to,.sl 4 (bJ bV da)],.agg [.i sb1,.str to,.sl 4 (bJ bV db)],.agg [.i sc1,.str to,.sl 4 (bJ bV dc)]]))]) (fun q=>[.blk 38 [.str carrier,.sl 11 (bJ jF L)],.blk 204 (yZ ⟨1,-1,day,bill,by_,to,⟨nq2,cq2,sq2,frm2,to2,bq2,pq2,iq2,lq2⟩⟩),.blk 38 [.str ⟨⟨[]⟩⟩,.v (.slice none 0 0)],.blk 104 (zE ⟨⟨nq1,cq1,sq1,frm1,to1,bq1,pq1,iq1,lq1⟩,st1,⟨sa1,ha1,ca1⟩,⟨sb1,hb1,cb1⟩,⟨sc1,hc1,cc1⟩⟩),gB q.1 (.row 107 3 [.agg [.i sa1,.str ha1,.sl 4 (bJ bV ca1)],.agg [.i sb1,.str hb1,.sl 4 (bJ bV cb1)],.agg [.i sc1,.str hc1,.sl 4 (bJ bV cc1)]]) (.row 107 3 [.agg [.i sa1,.str to,.sl 4 (bJ bV da)],.agg [.i sb1,.str hb1,.sl 4 (bJ bV cb1)],.agg [.i sc1,.str hc1,.sl 4 (bJ bV cc1)]]) (.row 107 3 [.agg [.i sa1,.str to,.sl 4 (bJ bV da)],.agg [.i sb1,.str to,.sl 4 (bJ bV db)],.agg [.i sc1,.str hc1,.sl 4 (bJ bV cc1)]]) (.tip 107 3 [.agg [.i sa1,.str to,.sl 4 (bJ bV da)],.agg [.i sb1,.str to,.sl 4 (bJ bV db)],.agg [.i sc1,.str to,.sl 4 (bJ bV dc)]])]) (fun q=>fO 3 q.1) ⟨0,by decide⟩ ?_;rintro ⟨j,hj⟩;dsimp only at hj⊢;have hj2:j=0∨j=1∨j=2∨j=3:=by omega
    rcases hj2 with rfl|rfl|rfl|rfl
    ·refine dK.seq (.of ?_);cbv;repeat'((first|refine .y fun h=>?_|refine .k fun z hz=>?_|fail)<;>cbv)
     refine dK.seq (.block ?_);refine dK.seq (.of ?_);cbv;repeat'((first|refine ZX.i0 ?_|refine cN.i0 ?_|fail)<;>cbv)
     refine dK.seq (.of ?_);cbv;repeat'((first|refine .y fun h=>?_|refine .o ?_|refine .zl fun zs hzs hzl=>?_|refine And.intro ?_ ?_|fail)<;>cbv)
     all_goals
      obtain rfl:zs=bJ bV da:=by rw[hda,bW,cD];exact hzs
      refine dK.gh (Gh.plain 6 rfl) (.of ?_);cbv;repeat'((first|refine .z fun zs hzs=>?_|refine ZX.i0 ?_|refine cN.i0 ?_|fail)<;>cbv)
      obtain rfl:zs=[.agg [.i sa1,.str to,.sl 4 (bJ bV da)],.agg [.i sb1,.str hb1,.sl 4 (bJ bV cb1)],.agg [.i sc1,.str hc1,.sl 4 (bJ bV cc1)]]:=hzs;refine .of ?_;cbv;repeat'((first|refine .k fun z hz=>?_|fail)<;>cbv)
      obtain rfl:z=nI 1:=bQ;exact bN ⟨1,by decide⟩ (bO (by decide))
    ·refine dK.seq (.of ?_);cbv;repeat'((first|refine .y fun h=>?_|refine .k fun z hz=>?_|fail)<;>cbv)
     refine dK.seq (.block ?_);refine dK.seq (.of ?_);cbv;repeat'((first|refine ZX.i1 ?_|refine cN.i1 ?_|fail)<;>cbv)
     refine dK.seq (.of ?_);cbv;repeat'((first|refine .y fun h=>?_|refine .o ?_|refine .zl fun zs hzs hzl=>?_|refine And.intro ?_ ?_|fail)<;>cbv)
     all_goals
      obtain rfl:zs=bJ bV db:=by rw[hdb,bW,cD];exact hzs
      refine dK.gh (Gh.plain 6 rfl) (.of ?_);cbv;repeat'((first|refine .z fun zs hzs=>?_|refine ZX.i1 ?_|refine cN.i1 ?_|fail)<;>cbv)
      obtain rfl:zs=[.agg [.i sa1,.str to,.sl 4 (bJ bV da)],.agg [.i sb1,.str to,.sl 4 (bJ bV db)],.agg [.i sc1,.str hc1,.sl 4 (bJ bV cc1)]]:=hzs;refine .of ?_;cbv;repeat'((first|refine .k fun z hz=>?_|fail)<;>cbv)
      obtain rfl:z=nI 2:=bQ;exact bN ⟨2,by decide⟩ (bO (by decide))
    ·refine dK.seq (.of ?_);cbv;repeat'((first|refine .y fun h=>?_|refine .k fun z hz=>?_|fail)<;>cbv)
     refine dK.seq (.block ?_);refine dK.seq (.of ?_);cbv;repeat'((first|refine ZX.i2 ?_|refine cN.i2 ?_|fail)<;>cbv)
     refine dK.seq (.of ?_);cbv;repeat'((first|refine .y fun h=>?_|refine .o ?_|refine .zl fun zs hzs hzl=>?_|refine And.intro ?_ ?_|fail)<;>cbv)
     all_goals
      obtain rfl:zs=bJ bV dc:=by rw[hdc,bW,cD];exact hzs
      refine dK.gh (Gh.plain 6 rfl) (.of ?_);cbv;repeat'((first|refine .z fun zs hzs=>?_|refine ZX.i2 ?_|refine cN.i2 ?_|fail)<;>cbv)
      obtain rfl:zs=[.agg [.i sa1,.str to,.sl 4 (bJ bV da)],.agg [.i sb1,.str to,.sl 4 (bJ bV db)],.agg [.i sc1,.str to,.sl 4 (bJ bV dc)]]:=hzs;refine .of ?_;cbv;repeat'((first|refine .k fun z hz=>?_|fail)<;>cbv)
      obtain rfl:z=nI 3:=bQ;refine dW (Gh.plain 4 rfl) ?_;cbv;exact bN ⟨3,by decide⟩ (bO (by decide))
    ·refine dK.seq (.of ?_);cbv;repeat'((first|refine .n fun h=>?_|refine .k fun z hz=>?_|refine .o ?_|refine .l fun ys hys hyl=>?_|refine .zl fun zs hzs hzl=>?_|refine And.intro ?_ ?_|fail)<;>cbv)
     all_goals
      obtain rfl:zs=bJ jF (L.set i ⟨⟨nq1,cq1,sq1,frm1,to1,bq1,pq1,iq1,lq1⟩,st1,⟨sa1,to,da⟩,⟨sb1,to,db⟩,⟨sc1,to,dc⟩⟩):=jO hzs hys (by assumption) (by assumption) rfl bQ hii
      (refine .r9 (Gh.plain 5 rfl) ?_;cbv;exact .inl (.g9 hK))
 ·rw[aE (by assumption:¬e=0)]at hL';subst hL'
  (refine .q9 ?_;cbv;exact .inl (.f9 hK))
theorem Kn (P:bI) (hw:bK P 142 nD) (hf:bK P 63 sO) (hwh:bK P 143 oT):IY P Kp (qF 2):=by
 intro args H K hc;obtain⟨⟨⟨carrier,L⟩,a⟩,rfl,rfl,hp,hK⟩:=hc;refine⟨cK,?_⟩;dsimp only at hp hK⊢;obtain⟨hkind,_,hfew,hall,hok,hsz,hts⟩:=hp;dsimp only at hkind hfew hall hok hsz hts;have hd:kI ⟨carrier,L⟩ a=(⟨carrier,fZ L (cP a) (iI a)⟩,eI L (cP a)):=by unfold kI;rw[aE (by omega)]
 rw[hd]at hK;clear hd;obtain⟨e,he⟩:∃e,e=eI L (cP a):=⟨_,rfl⟩
 obtain⟨L',hL'⟩:∃L',L'=fZ L (cP a) (iI a):=⟨_,rfl⟩
 rw[←he,←hL']at hK;unfold fZ at hL';rw[←he]at hL';obtain⟨kind,index,day,bill,by_,to,b⟩:=a;obtain rfl:kind=2:=hkind;obtain⟨nq2,cq2,sq2,frm2,to2,bq2,pq2,iq2,lq2⟩:=b;refine dK.seq (.of ?_);cbv;refine dK.seq (.of ?_);cbv;repeat'((first|refine .n fun h=>?_|fail)<;>cbv)
 refine dK.seq (.of ?_);cbv
 (refine ZO hw ((⟨carrier,L⟩:Rg),(⟨2,index,day,bill,by_,to,⟨nq2,cq2,sq2,frm2,to2,bq2,pq2,iq2,lq2⟩⟩:At)) ⟨⟨by show (1:Int)≤2;decide,by show (2:Int)≤5;decide⟩,hfew,fun b hb=>(hall b hb).1,hts⟩ ?_;try dsimp only)
 rw[←he];cbv;repeat'((first|refine .mk (fun h=>?_) fun h=>?_|fail)<;>cbv)
 ·rw[aF (by assumption:e=0)]at hL';have h0:e=0:=by assumption
  rw[h0]at hK;obtain⟨f,hf1⟩:∃f,f=pE (fun y:Br=>decide (y.b.number=bill)) L:=⟨_,rfl⟩
  refine dK.seq (.of ?_);cbv
  (refine ZO hf ((⟨carrier,L⟩:Rg),bill) (by dsimp only;omega) ?_;try dsimp only)
  rw[←hf1];cases hb:rN L bill with
  |none=>exact(jZ (he.symm.trans (by assumption:e=0)) hb).elim
  |some i=>
   rw[lM,hb]at hf1;dsimp only at hf1;subst hf1;obtain⟨x,hx,_⟩:=eB hb;have hii:=(aA.1 hx).1;have hz:=lG (he.symm.trans (by assumption:e=0)) hb hx;have hk:=mV hz;clear hz;have hL':L'=BU L bill (fun b=>tG index (yG 1) (Dw 1 b)):=hL';rw[gW _ hb hx]at hL';have hki:0≤index∧index < 3:=hk;have hk3:index=0∨index=1∨index=2:=by omega
   obtain⟨⟨nq1,cq1,sq1,frm1,to1,bq1,pq1,iq1,lq1⟩,st1,⟨sa1,ha1,ca1⟩,⟨sb1,hb1,cb1⟩,⟨sc1,hc1,cc1⟩⟩:=x;cbv;rcases hk3 with rfl|rfl|rfl
   ·obtain rfl:L'=L.set i ⟨⟨nq1,cq1,sq1,frm1,to1,bq1,pq1,iq1,lq1⟩,1,⟨1,ha1,ca1⟩,⟨2,hb1,cb1⟩,⟨2,hc1,cc1⟩⟩:=hL';refine dK.seq (.of ?_);cbv;repeat'((first|refine .e ?_|fail)<;>cbv)
    refine dK.seq (.of ?_);cbv;repeat'((first|refine .zl fun zs hzs hzl=>?_|fail)<;>cbv)
    obtain rfl:zs=[.agg [.i sa1,.str ha1,.sl 4 (bJ bV ca1)],.agg [.i sb1,.str hb1,.sl 4 (bJ bV cb1)],.agg [.i sc1,.str hc1,.sl 4 (bJ bV cc1)]]:=hzs;refine dK.seq (.of ?_);cbv
    (refine ZO hwh (⟨2,0,day,bill,by_,to,⟨nq2,cq2,sq2,frm2,to2,bq2,pq2,iq2,lq2⟩⟩:At) trivial ?_;try dsimp only)
    rw[aE (by decide)];cbv;refine dK.seq (.of ?_);cbv;refine bU [] (fun q:{ j:Nat // j≤1 }=>[(11,.i (nI q.1))]) (fun q=>[.blk 38 [.str carrier,.sl 11 (bJ jF L)],.blk 204 (yZ ⟨2,0,day,bill,by_,to,⟨nq2,cq2,sq2,frm2,to2,bq2,pq2,iq2,lq2⟩⟩),.blk 38 [.str ⟨⟨[]⟩⟩,.v (.slice none 0 0)],.blk 104 (zE ⟨⟨nq1,cq1,sq1,frm1,to1,bq1,pq1,iq1,lq1⟩,st1,⟨sa1,ha1,ca1⟩,⟨sb1,hb1,cb1⟩,⟨sc1,hc1,cc1⟩⟩),.row 107 3 [.agg [.i sa1,.str ha1,.sl 4 (bJ bV ca1)],.agg [.i sb1,.str hb1,.sl 4 (bJ bV cb1)],.agg [.i sc1,.str hc1,.sl 4 (bJ bV cc1)]]]) (fun q=>fO 1 q.1) ⟨0,by decide⟩ ?_;rintro ⟨j,hj⟩;dsimp only at hj⊢;have hj2:j=0∨j=1:=by omega
    rcases hj2 with rfl|rfl
    ·cbv;repeat'((first|refine .n fun h=>?_|refine .y fun h=>?_|refine .k fun z hz=>?_|refine .z fun zs hzs=>?_|refine ZX.i0 ?_|refine cN.i0 ?_|fail)<;>cbv)
     obtain rfl:zs=[.agg [.i sa1,.str ha1,.sl 4 (bJ bV ca1)],.agg [.i sb1,.str hb1,.sl 4 (bJ bV cb1)],.agg [.i sc1,.str hc1,.sl 4 (bJ bV cc1)]]:=hzs;obtain rfl:z=nI 1:=bQ;exact bN ⟨1,by decide⟩ (bO (by decide))
    ·cbv;repeat'((first|refine .n fun h=>?_|refine .k fun z hz=>?_|fail)<;>cbv)
     refine dK.seq (.of ?_);cbv;repeat'((first|refine .y fun h=>?_|fail)<;>cbv)
     refine bU [] (fun q:{ j:Nat // j≤3 }=>[(13,.i (nI q.1))]) (fun q=>[.blk 38 [.str carrier,.sl 11 (bJ jF L)],.blk 204 (yZ ⟨2,0,day,bill,by_,to,⟨nq2,cq2,sq2,frm2,to2,bq2,pq2,iq2,lq2⟩⟩),.blk 38 [.str ⟨⟨[]⟩⟩,.v (.slice none 0 0)],.blk 104 (zE ⟨⟨nq1,cq1,sq1,frm1,to1,bq1,pq1,iq1,lq1⟩,st1,⟨sa1,ha1,ca1⟩,⟨sb1,hb1,cb1⟩,⟨sc1,hc1,cc1⟩⟩),gB q.1 (.row 107 3 [.agg [.i sa1,.str ha1,.sl 4 (bJ bV ca1)],.agg [.i sb1,.str hb1,.sl 4 (bJ bV cb1)],.agg [.i sc1,.str hc1,.sl 4 (bJ bV cc1)]]) (.row 107 3 [.agg [.i 2,.str ha1,.sl 4 (bJ bV ca1)],.agg [.i sb1,.str hb1,.sl 4 (bJ bV cb1)],.agg [.i sc1,.str hc1,.sl 4 (bJ bV cc1)]]) (.row 107 3 [.agg [.i 2,.str ha1,.sl 4 (bJ bV ca1)],.agg [.i 2,.str hb1,.sl 4 (bJ bV cb1)],.agg [.i sc1,.str hc1,.sl 4 (bJ bV cc1)]]) (.row 107 3 [.agg [.i 2,.str ha1,.sl 4 (bJ bV ca1)],.agg [.i 2,.str hb1,.sl 4 (bJ bV cb1)],.agg [.i 2,.str hc1,.sl 4 (bJ bV cc1)]])]) (fun q=>fO 3 q.1) ⟨0,by decide⟩ ?_;rintro ⟨j,hj⟩;dsimp only at hj⊢;have hj2:j=0∨j=1∨j=2∨j=3:=by omega
     rcases hj2 with rfl|rfl|rfl|rfl
     ·cbv;repeat'((first|refine .y fun h=>?_|refine .k fun z hz=>?_|refine .z fun zs hzs=>?_|refine ZX.i0 ?_|refine cN.i0 ?_|fail)<;>cbv)
      obtain rfl:zs=[.agg [.i 2,.str ha1,.sl 4 (bJ bV ca1)],.agg [.i sb1,.str hb1,.sl 4 (bJ bV cb1)],.agg [.i sc1,.str hc1,.sl 4 (bJ bV cc1)]]:=hzs;obtain rfl:z=nI 1:=bQ;exact bN ⟨1,by decide⟩ (bO (by decide))
     ·cbv;repeat'((first|refine .y fun h=>?_|refine .k fun z hz=>?_|refine .z fun zs hzs=>?_|refine ZX.i1 ?_|refine cN.i1 ?_|fail)<;>cbv)
      obtain rfl:zs=[.agg [.i 2,.str ha1,.sl 4 (bJ bV ca1)],.agg [.i 2,.str hb1,.sl 4 (bJ bV cb1)],.agg [.i sc1,.str hc1,.sl 4 (bJ bV cc1)]]:=hzs;obtain rfl:z=nI 2:=bQ;exact bN ⟨2,by decide⟩ (bO (by decide))
     ·cbv;repeat'((first|refine .y fun h=>?_|refine .k fun z hz=>?_|refine .z fun zs hzs=>?_|refine ZX.i2 ?_|refine cN.i2 ?_|fail)<;>cbv)
      obtain rfl:zs=[.agg [.i 2,.str ha1,.sl 4 (bJ bV ca1)],.agg [.i 2,.str hb1,.sl 4 (bJ bV cb1)],.agg [.i 2,.str hc1,.sl 4 (bJ bV cc1)]]:=hzs;obtain rfl:z=nI 3:=bQ;exact bN ⟨3,by decide⟩ (bO (by decide))
     ·cbv;repeat'((first|refine .n fun h=>?_|fail)<;>cbv)
      refine dK.seq (.of ?_);cbv;repeat'((first|refine .y fun h=>?_|refine .z fun zs hzs=>?_|refine ZX.i0 ?_|refine cN.i0 ?_|fail)<;>cbv)
      obtain rfl:zs=[.agg [.i 1,.str ha1,.sl 4 (bJ bV ca1)],.agg [.i 2,.str hb1,.sl 4 (bJ bV cb1)],.agg [.i 2,.str hc1,.sl 4 (bJ bV cc1)]]:=hzs;refine dK.gh (Gh.plain 4 rfl) (.of ?_);cbv;repeat'((first|refine .k fun z hz=>?_|refine .o ?_|refine .l fun ys hys hyl=>?_|refine .zl fun zs hzs hzl=>?_|refine And.intro ?_ ?_|fail)<;>cbv)
      all_goals
       obtain rfl:zs=bJ jF (L.set i ⟨⟨nq1,cq1,sq1,frm1,to1,bq1,pq1,iq1,lq1⟩,1,⟨1,ha1,ca1⟩,⟨2,hb1,cb1⟩,⟨2,hc1,cc1⟩⟩):=jO hzs hys (by assumption) (by assumption) rfl bQ hii
       (refine .r9 (Gh.plain 5 rfl) ?_;cbv;exact .inl (.g9 hK))
   ·obtain rfl:L'=L.set i ⟨⟨nq1,cq1,sq1,frm1,to1,bq1,pq1,iq1,lq1⟩,1,⟨2,ha1,ca1⟩,⟨1,hb1,cb1⟩,⟨2,hc1,cc1⟩⟩:=hL';refine dK.seq (.of ?_);cbv;repeat'((first|refine .e ?_|fail)<;>cbv)
    refine dK.seq (.of ?_);cbv;repeat'((first|refine .zl fun zs hzs hzl=>?_|fail)<;>cbv)
    obtain rfl:zs=[.agg [.i sa1,.str ha1,.sl 4 (bJ bV ca1)],.agg [.i sb1,.str hb1,.sl 4 (bJ bV cb1)],.agg [.i sc1,.str hc1,.sl 4 (bJ bV cc1)]]:=hzs;refine dK.seq (.of ?_);cbv
    (refine ZO hwh (⟨2,1,day,bill,by_,to,⟨nq2,cq2,sq2,frm2,to2,bq2,pq2,iq2,lq2⟩⟩:At) trivial ?_;try dsimp only)
    rw[aE (by decide)];cbv;refine dK.seq (.of ?_);cbv;refine bU [] (fun q:{ j:Nat // j≤1 }=>[(11,.i (nI q.1))]) (fun q=>[.blk 38 [.str carrier,.sl 11 (bJ jF L)],.blk 204 (yZ ⟨2,1,day,bill,by_,to,⟨nq2,cq2,sq2,frm2,to2,bq2,pq2,iq2,lq2⟩⟩),.blk 38 [.str ⟨⟨[]⟩⟩,.v (.slice none 0 0)],.blk 104 (zE ⟨⟨nq1,cq1,sq1,frm1,to1,bq1,pq1,iq1,lq1⟩,st1,⟨sa1,ha1,ca1⟩,⟨sb1,hb1,cb1⟩,⟨sc1,hc1,cc1⟩⟩),.row 107 3 [.agg [.i sa1,.str ha1,.sl 4 (bJ bV ca1)],.agg [.i sb1,.str hb1,.sl 4 (bJ bV cb1)],.agg [.i sc1,.str hc1,.sl 4 (bJ bV cc1)]]]) (fun q=>fO 1 q.1) ⟨0,by decide⟩ ?_;rintro ⟨j,hj⟩;dsimp only at hj⊢;have hj2:j=0∨j=1:=by omega
    rcases hj2 with rfl|rfl
    ·cbv;repeat'((first|refine .n fun h=>?_|refine .y fun h=>?_|refine .k fun z hz=>?_|refine .z fun zs hzs=>?_|refine ZX.i0 ?_|refine ZX.i1 ?_|refine cN.i1 ?_|fail)<;>cbv)
     obtain rfl:zs=[.agg [.i sa1,.str ha1,.sl 4 (bJ bV ca1)],.agg [.i sb1,.str hb1,.sl 4 (bJ bV cb1)],.agg [.i sc1,.str hc1,.sl 4 (bJ bV cc1)]]:=hzs;obtain rfl:z=nI 1:=bQ;exact bN ⟨1,by decide⟩ (bO (by decide))
    ·cbv;repeat'((first|refine .n fun h=>?_|refine .k fun z hz=>?_|fail)<;>cbv)
     refine dK.seq (.of ?_);cbv;repeat'((first|refine .y fun h=>?_|fail)<;>cbv)
     refine bU [] (fun q:{ j:Nat // j≤3 }=>[(13,.i (nI q.1))]) (fun q=>[.blk 38 [.str carrier,.sl 11 (bJ jF L)],.blk 204 (yZ ⟨2,1,day,bill,by_,to,⟨nq2,cq2,sq2,frm2,to2,bq2,pq2,iq2,lq2⟩⟩),.blk 38 [.str ⟨⟨[]⟩⟩,.v (.slice none 0 0)],.blk 104 (zE ⟨⟨nq1,cq1,sq1,frm1,to1,bq1,pq1,iq1,lq1⟩,st1,⟨sa1,ha1,ca1⟩,⟨sb1,hb1,cb1⟩,⟨sc1,hc1,cc1⟩⟩),gB q.1 (.row 107 3 [.agg [.i sa1,.str ha1,.sl 4 (bJ bV ca1)],.agg [.i sb1,.str hb1,.sl 4 (bJ bV cb1)],.agg [.i sc1,.str hc1,.sl 4 (bJ bV cc1)]]) (.row 107 3 [.agg [.i 2,.str ha1,.sl 4 (bJ bV ca1)],.agg [.i sb1,.str hb1,.sl 4 (bJ bV cb1)],.agg [.i sc1,.str hc1,.sl 4 (bJ bV cc1)]]) (.row 107 3 [.agg [.i 2,.str ha1,.sl 4 (bJ bV ca1)],.agg [.i 2,.str hb1,.sl 4 (bJ bV cb1)],.agg [.i sc1,.str hc1,.sl 4 (bJ bV cc1)]]) (.row 107 3 [.agg [.i 2,.str ha1,.sl 4 (bJ bV ca1)],.agg [.i 2,.str hb1,.sl 4 (bJ bV cb1)],.agg [.i 2,.str hc1,.sl 4 (bJ bV cc1)]])]) (fun q=>fO 3 q.1) ⟨0,by decide⟩ ?_;rintro ⟨j,hj⟩;dsimp only at hj⊢;have hj2:j=0∨j=1∨j=2∨j=3:=by omega
     rcases hj2 with rfl|rfl|rfl|rfl
     ·cbv;repeat'((first|refine .y fun h=>?_|refine .k fun z hz=>?_|refine .z fun zs hzs=>?_|refine ZX.i0 ?_|refine cN.i0 ?_|fail)<;>cbv)
      obtain rfl:zs=[.agg [.i 2,.str ha1,.sl 4 (bJ bV ca1)],.agg [.i sb1,.str hb1,.sl 4 (bJ bV cb1)],.agg [.i sc1,.str hc1,.sl 4 (bJ bV cc1)]]:=hzs;obtain rfl:z=nI 1:=bQ;exact bN ⟨1,by decide⟩ (bO (by decide))
     ·cbv;repeat'((first|refine .y fun h=>?_|refine .k fun z hz=>?_|refine .z fun zs hzs=>?_|refine ZX.i1 ?_|refine cN.i1 ?_|fail)<;>cbv)
      obtain rfl:zs=[.agg [.i 2,.str ha1,.sl 4 (bJ bV ca1)],.agg [.i 2,.str hb1,.sl 4 (bJ bV cb1)],.agg [.i sc1,.str hc1,.sl 4 (bJ bV cc1)]]:=hzs;obtain rfl:z=nI 2:=bQ;exact bN ⟨2,by decide⟩ (bO (by decide))
     ·cbv;repeat'((first|refine .y fun h=>?_|refine .k fun z hz=>?_|refine .z fun zs hzs=>?_|refine ZX.i2 ?_|refine cN.i2 ?_|fail)<;>cbv)
      obtain rfl:zs=[.agg [.i 2,.str ha1,.sl 4 (bJ bV ca1)],.agg [.i 2,.str hb1,.sl 4 (bJ bV cb1)],.agg [.i 2,.str hc1,.sl 4 (bJ bV cc1)]]:=hzs;obtain rfl:z=nI 3:=bQ;exact bN ⟨3,by decide⟩ (bO (by decide))
     ·cbv;repeat'((first|refine .n fun h=>?_|fail)<;>cbv)
      refine dK.seq (.of ?_);cbv;repeat'((first|refine .y fun h=>?_|refine .z fun zs hzs=>?_|refine ZX.i1 ?_|refine cN.i1 ?_|fail)<;>cbv)
      obtain rfl:zs=[.agg [.i 2,.str ha1,.sl 4 (bJ bV ca1)],.agg [.i 1,.str hb1,.sl 4 (bJ bV cb1)],.agg [.i 2,.str hc1,.sl 4 (bJ bV cc1)]]:=hzs;refine dK.gh (Gh.plain 4 rfl) (.of ?_);cbv;repeat'((first|refine .k fun z hz=>?_|refine .o ?_|refine .l fun ys hys hyl=>?_|refine .zl fun zs hzs hzl=>?_|refine And.intro ?_ ?_|fail)<;>cbv)
      all_goals
       obtain rfl:zs=bJ jF (L.set i ⟨⟨nq1,cq1,sq1,frm1,to1,bq1,pq1,iq1,lq1⟩,1,⟨2,ha1,ca1⟩,⟨1,hb1,cb1⟩,⟨2,hc1,cc1⟩⟩):=jO hzs hys (by assumption) (by assumption) rfl bQ hii
       (refine .r9 (Gh.plain 5 rfl) ?_;cbv;exact .inl (.g9 hK))
   ·obtain rfl:L'=L.set i ⟨⟨nq1,cq1,sq1,frm1,to1,bq1,pq1,iq1,lq1⟩,1,⟨2,ha1,ca1⟩,⟨2,hb1,cb1⟩,⟨1,hc1,cc1⟩⟩:=hL';refine dK.seq (.of ?_);cbv;repeat'((first|refine .e ?_|fail)<;>cbv)
    refine dK.seq (.of ?_);cbv;repeat'((first|refine .zl fun zs hzs hzl=>?_|fail)<;>cbv)
    obtain rfl:zs=[.agg [.i sa1,.str ha1,.sl 4 (bJ bV ca1)],.agg [.i sb1,.str hb1,.sl 4 (bJ bV cb1)],.agg [.i sc1,.str hc1,.sl 4 (bJ bV cc1)]]:=hzs;refine dK.seq (.of ?_);cbv
    (refine ZO hwh (⟨2,2,day,bill,by_,to,⟨nq2,cq2,sq2,frm2,to2,bq2,pq2,iq2,lq2⟩⟩:At) trivial ?_;try dsimp only)
    rw[aE (by decide)];cbv;refine dK.seq (.of ?_);cbv;refine bU [] (fun q:{ j:Nat // j≤1 }=>[(11,.i (nI q.1))]) (fun q=>[.blk 38 [.str carrier,.sl 11 (bJ jF L)],.blk 204 (yZ ⟨2,2,day,bill,by_,to,⟨nq2,cq2,sq2,frm2,to2,bq2,pq2,iq2,lq2⟩⟩),.blk 38 [.str ⟨⟨[]⟩⟩,.v (.slice none 0 0)],.blk 104 (zE ⟨⟨nq1,cq1,sq1,frm1,to1,bq1,pq1,iq1,lq1⟩,st1,⟨sa1,ha1,ca1⟩,⟨sb1,hb1,cb1⟩,⟨sc1,hc1,cc1⟩⟩),.row 107 3 [.agg [.i sa1,.str ha1,.sl 4 (bJ bV ca1)],.agg [.i sb1,.str hb1,.sl 4 (bJ bV cb1)],.agg [.i sc1,.str hc1,.sl 4 (bJ bV cc1)]]]) (fun q=>fO 1 q.1) ⟨0,by decide⟩ ?_;rintro ⟨j,hj⟩;dsimp only at hj⊢;have hj2:j=0∨j=1:=by omega
    rcases hj2 with rfl|rfl
    ·cbv;repeat'((first|refine .n fun h=>?_|refine .y fun h=>?_|refine .k fun z hz=>?_|refine .z fun zs hzs=>?_|refine ZX.i0 ?_|refine ZX.i2 ?_|refine cN.i2 ?_|fail)<;>cbv)
     obtain rfl:zs=[.agg [.i sa1,.str ha1,.sl 4 (bJ bV ca1)],.agg [.i sb1,.str hb1,.sl 4 (bJ bV cb1)],.agg [.i sc1,.str hc1,.sl 4 (bJ bV cc1)]]:=hzs;obtain rfl:z=nI 1:=bQ;exact bN ⟨1,by decide⟩ (bO (by decide))
    ·cbv;repeat'((first|refine .n fun h=>?_|refine .k fun z hz=>?_|fail)<;>cbv)
     refine dK.seq (.of ?_);cbv;repeat'((first|refine .y fun h=>?_|fail)<;>cbv)
     refine bU [] (fun q:{ j:Nat // j≤3 }=>[(13,.i (nI q.1))]) (fun q=>[.blk 38 [.str carrier,.sl 11 (bJ jF L)],.blk 204 (yZ ⟨2,2,day,bill,by_,to,⟨nq2,cq2,sq2,frm2,to2,bq2,pq2,iq2,lq2⟩⟩),.blk 38 [.str ⟨⟨[]⟩⟩,.v (.slice none 0 0)],.blk 104 (zE ⟨⟨nq1,cq1,sq1,frm1,to1,bq1,pq1,iq1,lq1⟩,st1,⟨sa1,ha1,ca1⟩,⟨sb1,hb1,cb1⟩,⟨sc1,hc1,cc1⟩⟩),gB q.1 (.row 107 3 [.agg [.i sa1,.str ha1,.sl 4 (bJ bV ca1)],.agg [.i sb1,.str hb1,.sl 4 (bJ bV cb1)],.agg [.i sc1,.str hc1,.sl 4 (bJ bV cc1)]]) (.row 107 3 [.agg [.i 2,.str ha1,.sl 4 (bJ bV ca1)],.agg [.i sb1,.str hb1,.sl 4 (bJ bV cb1)],.agg [.i sc1,.str hc1,.sl 4 (bJ bV cc1)]]) (.row 107 3 [.agg [.i 2,.str ha1,.sl 4 (bJ bV ca1)],.agg [.i 2,.str hb1,.sl 4 (bJ bV cb1)],.agg [.i sc1,.str hc1,.sl 4 (bJ bV cc1)]]) (.row 107 3 [.agg [.i 2,.str ha1,.sl 4 (bJ bV ca1)],.agg [.i 2,.str hb1,.sl 4 (bJ bV cb1)],.agg [.i 2,.str hc1,.sl 4 (bJ bV cc1)]])]) (fun q=>fO 3 q.1) ⟨0,by decide⟩ ?_;rintro ⟨j,hj⟩;dsimp only at hj⊢;have hj2:j=0∨j=1∨j=2∨j=3:=by omega
     rcases hj2 with rfl|rfl|rfl|rfl
     ·cbv;repeat'((first|refine .y fun h=>?_|refine .k fun z hz=>?_|refine .z fun zs hzs=>?_|refine ZX.i0 ?_|refine cN.i0 ?_|fail)<;>cbv)
      obtain rfl:zs=[.agg [.i 2,.str ha1,.sl 4 (bJ bV ca1)],.agg [.i sb1,.str hb1,.sl 4 (bJ bV cb1)],.agg [.i sc1,.str hc1,.sl 4 (bJ bV cc1)]]:=hzs;obtain rfl:z=nI 1:=bQ;exact bN ⟨1,by decide⟩ (bO (by decide))
     ·cbv;repeat'((first|refine .y fun h=>?_|refine .k fun z hz=>?_|refine .z fun zs hzs=>?_|refine ZX.i1 ?_|refine cN.i1 ?_|fail)<;>cbv)
      obtain rfl:zs=[.agg [.i 2,.str ha1,.sl 4 (bJ bV ca1)],.agg [.i 2,.str hb1,.sl 4 (bJ bV cb1)],.agg [.i sc1,.str hc1,.sl 4 (bJ bV cc1)]]:=hzs;obtain rfl:z=nI 2:=bQ;exact bN ⟨2,by decide⟩ (bO (by decide))
     ·cbv;repeat'((first|refine .y fun h=>?_|refine .k fun z hz=>?_|refine .z fun zs hzs=>?_|refine ZX.i2 ?_|refine cN.i2 ?_|fail)<;>cbv)
      obtain rfl:zs=[.agg [.i 2,.str ha1,.sl 4 (bJ bV ca1)],.agg [.i 2,.str hb1,.sl 4 (bJ bV cb1)],.agg [.i 2,.str hc1,.sl 4 (bJ bV cc1)]]:=hzs;obtain rfl:z=nI 3:=bQ;exact bN ⟨3,by decide⟩ (bO (by decide))
     ·cbv;repeat'((first|refine .n fun h=>?_|fail)<;>cbv)
      refine dK.seq (.of ?_);cbv;repeat'((first|refine .y fun h=>?_|refine .z fun zs hzs=>?_|refine ZX.i2 ?_|refine cN.i2 ?_|fail)<;>cbv)
      obtain rfl:zs=[.agg [.i 2,.str ha1,.sl 4 (bJ bV ca1)],.agg [.i 2,.str hb1,.sl 4 (bJ bV cb1)],.agg [.i 1,.str hc1,.sl 4 (bJ bV cc1)]]:=hzs;refine dK.gh (Gh.plain 4 rfl) (.of ?_);cbv;repeat'((first|refine .k fun z hz=>?_|refine .o ?_|refine .l fun ys hys hyl=>?_|refine .zl fun zs hzs hzl=>?_|refine And.intro ?_ ?_|fail)<;>cbv)
      all_goals
       obtain rfl:zs=bJ jF (L.set i ⟨⟨nq1,cq1,sq1,frm1,to1,bq1,pq1,iq1,lq1⟩,1,⟨2,ha1,ca1⟩,⟨2,hb1,cb1⟩,⟨1,hc1,cc1⟩⟩):=jO hzs hys (by assumption) (by assumption) rfl bQ hii
       (refine .r9 (Gh.plain 5 rfl) ?_;cbv;exact .inl (.g9 hK))
 ·rw[aE (by assumption:¬e=0)]at hL';subst hL'
  (refine .q9 ?_;cbv;exact .inl (.f9 hK))
theorem JZ (P:bI) (hw:bK P 142 nD) (hf:bK P 63 sO) (hwh:bK P 143 oT):bM P Kp (qF 5):=by
 intro args H K hc;obtain⟨⟨⟨carrier,L⟩,a⟩,rfl,rfl,hp,hK⟩:=hc;refine⟨cK,?_⟩;dsimp only at hp hK⊢;obtain⟨hkind,_,hfew,hall,hok,hsz,hts⟩:=hp;dsimp only at hkind hfew hall hok hsz hts;have hd:kI ⟨carrier,L⟩ a=(⟨carrier,fZ L (cP a) (iI a)⟩,eI L (cP a)):=by unfold kI;rw[aE (by omega)]
 rw[hd]at hK;clear hd;obtain⟨e,he⟩:∃e,e=eI L (cP a):=⟨_,rfl⟩
 obtain⟨L',hL'⟩:∃L',L'=fZ L (cP a) (iI a):=⟨_,rfl⟩
 rw[←he,←hL']at hK;unfold fZ at hL';rw[←he]at hL';obtain⟨kind,index,day,bill,by_,to,b⟩:=a;obtain rfl:kind=5:=hkind;obtain⟨nq2,cq2,sq2,frm2,to2,bq2,pq2,iq2,lq2⟩:=b;cbv;repeat'((first|refine .n fun h=>?_|fail)<;>cbv)
 (refine ZO hw ((⟨carrier,L⟩:Rg),(⟨5,index,day,bill,by_,to,⟨nq2,cq2,sq2,frm2,to2,bq2,pq2,iq2,lq2⟩⟩:At)) ⟨⟨by show (1:Int)≤5;decide,by show (5:Int)≤5;decide⟩,hfew,fun b hb=>(hall b hb).1,hts⟩ ?_;try dsimp only)
 rw[←he];cbv;repeat'((first|refine .mk (fun h=>?_) fun h=>?_|fail)<;>cbv)
 ·rw[aF (by assumption:e=0)]at hL';have h0:e=0:=by assumption
  rw[h0]at hK;obtain⟨f,hf1⟩:∃f,f=pE (fun y:Br=>decide (y.b.number=bill)) L:=⟨_,rfl⟩
  (refine ZO hf ((⟨carrier,L⟩:Rg),bill) (by dsimp only;omega) ?_;try dsimp only)
  rw[←hf1];cases hb:rN L bill with
  |none=>exact(jZ (he.symm.trans (by assumption:e=0)) hb).elim
  |some i=>
   rw[lM,hb]at hf1;dsimp only at hf1;subst hf1;obtain⟨x,hx,_⟩:=eB hb;have hii:=(aA.1 hx).1;have hz:=lG (he.symm.trans (by assumption:e=0)) hb hx;have hL':L'=BU L bill (Dw 4):=hL';rw[gW _ hb hx]at hL';clear hz;obtain⟨⟨nq1,cq1,sq1,frm1,to1,bq1,pq1,iq1,lq1⟩,st1,⟨sa1,ha1,ca1⟩,⟨sb1,hb1,cb1⟩,⟨sc1,hc1,cc1⟩⟩:=x;obtain rfl:L'=L.set i ⟨⟨nq1,cq1,sq1,frm1,to1,bq1,pq1,iq1,lq1⟩,4,⟨2,ha1,ca1⟩,⟨2,hb1,cb1⟩,⟨2,hc1,cc1⟩⟩:=hL';cbv;repeat'((first|refine .e ?_|refine .zl fun zs hzs hzl=>?_|fail)<;>cbv)
   obtain rfl:zs=[.agg [.i sa1,.str ha1,.sl 4 (bJ bV ca1)],.agg [.i sb1,.str hb1,.sl 4 (bJ bV cb1)],.agg [.i sc1,.str hc1,.sl 4 (bJ bV cc1)]]:=hzs
   (refine ZO hwh (⟨5,index,day,bill,by_,to,⟨nq2,cq2,sq2,frm2,to2,bq2,pq2,iq2,lq2⟩⟩:At) trivial ?_;try dsimp only)
   rw[aF (.inl rfl)];cbv;refine bU [] (fun q:{ j:Nat // j≤3 }=>[(11,.i (nI q.1))]) (fun q=>[.blk 38 [.str carrier,.sl 11 (bJ jF L)],.blk 204 (yZ ⟨5,index,day,bill,by_,to,⟨nq2,cq2,sq2,frm2,to2,bq2,pq2,iq2,lq2⟩⟩),.blk 38 [.str ⟨⟨[]⟩⟩,.v (.slice none 0 0)],.blk 104 (zE ⟨⟨nq1,cq1,sq1,frm1,to1,bq1,pq1,iq1,lq1⟩,st1,⟨sa1,ha1,ca1⟩,⟨sb1,hb1,cb1⟩,⟨sc1,hc1,cc1⟩⟩),.row 107 3 [.agg [.i sa1,.str ha1,.sl 4 (bJ bV ca1)],.agg [.i sb1,.str hb1,.sl 4 (bJ bV cb1)],.agg [.i sc1,.str hc1,.sl 4 (bJ bV cc1)]]]) (fun q=>fO 3 q.1) ⟨0,by decide⟩ ?_;rintro ⟨j,hj⟩;dsimp only at hj⊢;have hj2:j=0∨j=1∨j=2∨j=3:=by omega
   rcases hj2 with rfl|rfl|rfl|rfl
   ·cbv;repeat'((first|refine .n fun h=>?_|refine .y fun h=>?_|refine .k fun z hz=>?_|refine .z fun zs hzs=>?_|refine ZX.i0 ?_|refine cN.i0 ?_|fail)<;>cbv)
    obtain rfl:zs=[.agg [.i sa1,.str ha1,.sl 4 (bJ bV ca1)],.agg [.i sb1,.str hb1,.sl 4 (bJ bV cb1)],.agg [.i sc1,.str hc1,.sl 4 (bJ bV cc1)]]:=hzs;obtain rfl:z=nI 1:=bQ;exact bN ⟨1,by decide⟩ (bO (by decide))
   ·cbv;repeat'((first|refine .n fun h=>?_|refine .y fun h=>?_|refine .k fun z hz=>?_|refine .z fun zs hzs=>?_|refine ZX.i1 ?_|refine cN.i1 ?_|fail)<;>cbv)
    obtain rfl:zs=[.agg [.i sa1,.str ha1,.sl 4 (bJ bV ca1)],.agg [.i sb1,.str hb1,.sl 4 (bJ bV cb1)],.agg [.i sc1,.str hc1,.sl 4 (bJ bV cc1)]]:=hzs;obtain rfl:z=nI 2:=bQ;exact bN ⟨2,by decide⟩ (bO (by decide))
   ·cbv;repeat'((first|refine .n fun h=>?_|refine .y fun h=>?_|refine .k fun z hz=>?_|refine .z fun zs hzs=>?_|refine ZX.i2 ?_|refine cN.i2 ?_|fail)<;>cbv)
    obtain rfl:zs=[.agg [.i sa1,.str ha1,.sl 4 (bJ bV ca1)],.agg [.i sb1,.str hb1,.sl 4 (bJ bV cb1)],.agg [.i sc1,.str hc1,.sl 4 (bJ bV cc1)]]:=hzs;obtain rfl:z=nI 3:=bQ;exact bN ⟨3,by decide⟩ (bO (by decide))
   ·cbv;repeat'((first|refine .n fun h=>?_|refine .y fun h=>?_|refine .k fun z hz=>?_|fail)<;>cbv)
    refine bU [4] (fun q:{ j:Nat // j≤3 }=>[(13,.i (nI q.1)),(9,gB q.1 (.hd 4) (.hd 4) (.hd 4) (.sl 3 [.agg [.i 2,.str ha1,.sl 4 (bJ bV ca1)],.agg [.i 2,.str hb1,.sl 4 (bJ bV cb1)],.agg [.i 2,.str hc1,.sl 4 (bJ bV cc1)]]))]) (fun q=>[.blk 38 [.str carrier,.sl 11 (bJ jF L)],.blk 204 (yZ ⟨5,index,day,bill,by_,to,⟨nq2,cq2,sq2,frm2,to2,bq2,pq2,iq2,lq2⟩⟩),.blk 38 [.str ⟨⟨[]⟩⟩,.v (.slice none 0 0)],.blk 104 (zE ⟨⟨nq1,cq1,sq1,frm1,to1,bq1,pq1,iq1,lq1⟩,st1,⟨sa1,ha1,ca1⟩,⟨sb1,hb1,cb1⟩,⟨sc1,hc1,cc1⟩⟩),gB q.1 (.row 107 3 [.agg [.i sa1,.str ha1,.sl 4 (bJ bV ca1)],.agg [.i sb1,.str hb1,.sl 4 (bJ bV cb1)],.agg [.i sc1,.str hc1,.sl 4 (bJ bV cc1)]]) (.row 107 3 [.agg [.i 2,.str ha1,.sl 4 (bJ bV ca1)],.agg [.i sb1,.str hb1,.sl 4 (bJ bV cb1)],.agg [.i sc1,.str hc1,.sl 4 (bJ bV cc1)]]) (.row 107 3 [.agg [.i 2,.str ha1,.sl 4 (bJ bV ca1)],.agg [.i 2,.str hb1,.sl 4 (bJ bV cb1)],.agg [.i sc1,.str hc1,.sl 4 (bJ bV cc1)]]) (.tip 107 3 [.agg [.i 2,.str ha1,.sl 4 (bJ bV ca1)],.agg [.i 2,.str hb1,.sl 4 (bJ bV cb1)],.agg [.i 2,.str hc1,.sl 4 (bJ bV cc1)]])]) (fun q=>fO 3 q.1) ⟨0,by decide⟩ ?_;rintro ⟨j,hj⟩;dsimp only at hj⊢;have hj2:j=0∨j=1∨j=2∨j=3:=by omega
    rcases hj2 with rfl|rfl|rfl|rfl
    ·cbv;repeat'((first|refine .y fun h=>?_|refine .k fun z hz=>?_|refine .z fun zs hzs=>?_|refine ZX.i0 ?_|refine cN.i0 ?_|fail)<;>cbv)
     obtain rfl:zs=[.agg [.i 2,.str ha1,.sl 4 (bJ bV ca1)],.agg [.i sb1,.str hb1,.sl 4 (bJ bV cb1)],.agg [.i sc1,.str hc1,.sl 4 (bJ bV cc1)]]:=hzs;obtain rfl:z=nI 1:=bQ;exact bN ⟨1,by decide⟩ (bO (by decide))
    ·cbv;repeat'((first|refine .y fun h=>?_|refine .k fun z hz=>?_|refine .z fun zs hzs=>?_|refine ZX.i1 ?_|refine cN.i1 ?_|fail)<;>cbv)
     obtain rfl:zs=[.agg [.i 2,.str ha1,.sl 4 (bJ bV ca1)],.agg [.i 2,.str hb1,.sl 4 (bJ bV cb1)],.agg [.i sc1,.str hc1,.sl 4 (bJ bV cc1)]]:=hzs;obtain rfl:z=nI 2:=bQ;exact bN ⟨2,by decide⟩ (bO (by decide))
    ·cbv;repeat'((first|refine .y fun h=>?_|refine .k fun z hz=>?_|refine .z fun zs hzs=>?_|refine ZX.i2 ?_|refine cN.i2 ?_|fail)<;>cbv)
     obtain rfl:zs=[.agg [.i 2,.str ha1,.sl 4 (bJ bV ca1)],.agg [.i 2,.str hb1,.sl 4 (bJ bV cb1)],.agg [.i 2,.str hc1,.sl 4 (bJ bV cc1)]]:=hzs;obtain rfl:z=nI 3:=bQ;refine dW (Gh.plain 4 rfl) ?_;cbv;exact bN ⟨3,by decide⟩ (bO (by decide))
    ·cbv;repeat'((first|refine .n fun h=>?_|refine .k fun z hz=>?_|refine .o ?_|refine .l fun ys hys hyl=>?_|refine .zl fun zs hzs hzl=>?_|refine And.intro ?_ ?_|fail)<;>cbv)
     all_goals
      obtain rfl:zs=bJ jF (L.set i ⟨⟨nq1,cq1,sq1,frm1,to1,bq1,pq1,iq1,lq1⟩,4,⟨2,ha1,ca1⟩,⟨2,hb1,cb1⟩,⟨2,hc1,cc1⟩⟩):=jO hzs hys (by assumption) (by assumption) rfl bQ hii
      (refine .r9 (Gh.plain 5 rfl) ?_;cbv;exact .inl (.g9 hK))
 ·rw[aE (by assumption:¬e=0)]at hL';subst hL'
  (refine .q9 ?_;cbv;exact .inl (.f9 hK))
def Hh:dL:=spec (fun i:Rg×At=>[KF i.1,Pi i.2]) (fun _=>[]) (fun i=>KI i) (fun i=>W7 (kI i.1 i.2)) fun _=>[]
theorem TD {P:bI}{f:Nat}(h0:bK P f (qF 0)) (h1:bK P f (qF 1)) (h2:bK P f (qF 2)) (h3:bK P f (qF 3)) (h4:bK P f (qF 4)) (h5:bK P f (qF 5)):bK P f Hh:=by
 intro args H K hc;obtain⟨i,rfl,rfl,hp,hK⟩:=hc;have hk:=hp.kind;have h:i.2.kind=0∨i.2.kind=1∨i.2.kind=2∨i.2.kind=3∨i.2.kind=4∨i.2.kind=5:=by omega
 rcases h with h|h|h|h|h|h
 ·exact h0 _ _ K ⟨i,rfl,rfl,⟨h,hp⟩,hK⟩
 ·exact h1 _ _ K ⟨i,rfl,rfl,⟨h,hp⟩,hK⟩
 ·exact h2 _ _ K ⟨i,rfl,rfl,⟨h,hp⟩,hK⟩
 ·exact h3 _ _ K ⟨i,rfl,rfl,⟨h,hp⟩,hK⟩
 ·exact h4 _ _ K ⟨i,rfl,rfl,⟨h,hp⟩,hK⟩
 ·exact h5 _ _ K ⟨i,rfl,rfl,⟨h,hp⟩,hK⟩
set_option maxHeartbeats 8000000
def Uj:Dp→List AV
 |⟨number,seller,buyer,house,frm,to,boxes,state,rel⟩=>[.str number,.str seller,.str buyer,.str house,.str frm,.str to,.sl 1 (bJ .str boxes),.i state,.bl rel]
def gM:Dp→Bd
 |⟨number,seller,buyer,house,frm,to,boxes,state,rel⟩=>(.str number,.ptr 0 0,[.blk 136 [.str number,.str seller,.str buyer,.str house,.str frm,.str to,.sl 1 (bJ .str boxes),.i state,.bl rel]])
def XR (d:Dp):List cG:=[.blk 136 (Uj d)]
def MR (C:Cr) (i:Nat) (d:Dp):List cG:=[.blk 118 [.str C.name,.hd 1,.ph 2,.ptr 3 0,.ptr 5 0,.hd 7],.map 70 (bJ iK C.parties),.pool 116 (bJ gM C.deals) [(i,.ptr 8 0)],.blk 122 [.str C.reg.carrier,.ph 4],.pool 120 (bJ fM C.reg.bills) [],.blk 174 [.ph 6],.pool 172 (bJ gE C.cust) [],.tip 77 5 (bJ dP C.deliv),.blk 136 (Uj d)]
structure HQ where
 C:Cr
 i:Nat
 d:Dp
 l:dE
 day:Int
structure Yw (q:HQ):Prop where
 num:q.d.number.size≤1000
 few:q.C.reg.bills.length≤256
 all:∀b∈q.C.reg.bills,inB b
def gO (κ:Int→Prop) (f:HQ→Cr×Dp×List dE):dL:=spec (fun q:HQ=>[.ptr 0 0,.ptr 8 0,eD q.l,.i q.day]) (fun q=>MR q.C q.i q.d) (fun q=>κ q.l.kind∧Yw q) (fun _=>.hd 9) fun q=>MR (f q).1 q.i (f q).2.1++[.row 58 14 (bJ eD (f q).2.2)]
def CH:dL:=spec (fun _:Dp=>[.ptr 0 0]) XR (fun d=>d.number.size≤1000) (fun d=>.str (gI d.number)) XR
theorem HN (P:bI):bM P Uw CH:=by
 intro args H K hc;obtain⟨⟨number,seller,buyer,house,frm,to,boxes,state,rel⟩,rfl,rfl,hp,hK⟩:=hc;refine⟨cK,?_⟩;dsimp only at hp hK⊢;have z3:(ByteArray.mk (Array.mk [98,108,45])).size=3:=rfl;obtain⟨bn,hbn⟩:∃b,b=Ph++number:=⟨_,rfl⟩
 replace hK:K (.str (Ph++number)) (XR ⟨number,seller,buyer,house,frm,to,boxes,state,rel⟩):=hK;rw[←hbn]at hK;cbv;repeat'((first|refine .u fun u hu hul=>?_|fail)<;>cbv)
 obtain rfl:u=bn:=by rw[hbn];assumption
 (refine .q9 ?_;cbv;exact .inl (.f9 hK))
def BW (q:HQ):Cr×Dp×List dE:=(q.C,if q.d.house≠eS∧q.l.frm=q.d.house then Mq q.d else q.d,[])
theorem BH (P:bI):bM P ZA (gO (fun k=>k=19) BW):=by
 intro args H K hc;obtain⟨⟨⟨name,parties,deals,⟨rc,rL⟩,cust,deliv⟩,i,⟨number,seller,buyer,house,dfrm,dto,dboxes,state,rel⟩,⟨frm,to,lnumber,kind,ack,deal,text,party,index,day0,cur,amt,docs,boxes⟩,day⟩,rfl,rfl,hp,hK⟩:=hc;refine⟨cK,?_⟩;dsimp only at hp hK⊢;obtain⟨r,hr⟩:∃r,r=BW ⟨⟨name,parties,deals,⟨rc,rL⟩,cust,deliv⟩,i,⟨number,seller,buyer,house,dfrm,dto,dboxes,state,rel⟩,⟨frm,to,lnumber,kind,ack,deal,text,party,index,day0,cur,amt,docs,boxes⟩,day⟩:=⟨_,rfl⟩
 rw[←hr]at hK;unfold BW at hr;dsimp only at hr;cbv;repeat'((first|refine .mk (fun h=>?_) fun h=>?_|fail)<;>cbv)
 ·rw[aE (fun h=>h.1 (by assumption))]at hr;subst hr;refine cZ (Gh.adopt 8 58 14 rfl) ?_;cbv
  (refine .q9 ?_;cbv;exact .inl (eY.sel [0,1,2,3,4,5,6,7,8,10] _ _ (by rfl) (by rfl) (by decide) (by rfl) cK (by rfl) (by rfl) (Le.refl _) (kD.refl _) hK))
 ·rw[aF ⟨by assumption,by assumption⟩]at hr;subst hr;refine cZ (Gh.adopt 8 58 14 rfl) ?_;cbv
  (refine .q9 ?_;cbv;exact .inl (eY.sel [0,1,2,3,4,5,6,7,8,10] _ _ (by rfl) (by rfl) (by decide) (by rfl) cK (by rfl) (by rfl) (Le.refl _) (kD.refl _) hK))
 ·rw[aE (fun h=>absurd h.2 (by assumption))]at hr;subst hr;refine cZ (Gh.adopt 8 58 14 rfl) ?_;cbv
  (refine .q9 ?_;cbv;exact .inl (eY.sel [0,1,2,3,4,5,6,7,8,10] _ _ (by rfl) (by rfl) (by decide) (by rfl) cK (by rfl) (by rfl) (Le.refl _) (kD.refl _) hK))
def qL (q:HQ):Cr×Dp×List dE:=let r:=rH fL q.C q.d q.l q.day;(r.1,q.d,r.2)
def qY (q:HQ):Cr×Dp×List dE:=let r:=qU fL q.C q.d q.l q.day;(r.1,q.d,r.2)
def nB (q:HQ):Cr×Dp×List dE:=let r:=yQ fL q.C q.d q.l q.day;(r.1,q.d,r.2)
theorem Bq {q:HQ}(h:jL q.C.reg (cI 3 q.d q.l q.day)≠0):qL q=(q.C,q.d,eV fL q.l):=by
 have:rH fL q.C q.d q.l q.day=(q.C,eV fL q.l):=aF h;unfold qL;rw[this]
theorem vX {q:HQ}(h:jL q.C.reg (cI 3 q.d q.l q.day)=0):qL q=({ q.C with reg:=vS q.C.reg (cI 3 q.d q.l q.day) },q.d,[]):=by
 have:rH fL q.C q.d q.l q.day=({ q.C with reg:=vS q.C.reg (cI 3 q.d q.l q.day) },[]):=aE (fun h2=>h2 h);unfold qL;rw[this]
theorem AN {q:HQ}(h:jL q.C.reg (cI 4 q.d q.l q.day)≠0):qY q=(q.C,q.d,eV fL q.l):=by
 have:qU fL q.C q.d q.l q.day=(q.C,eV fL q.l):=aF h;unfold qY;rw[this]
theorem xB {q:HQ}(h:jL q.C.reg (cI 4 q.d q.l q.day)=0):qY q=({ q.C with reg:=vS q.C.reg (cI 4 q.d q.l q.day) },q.d,[{ nJ with to:=q.l.frm,kind:=25,index:=q.l.index }]):=by
 have:qU fL q.C q.d q.l q.day=({ q.C with reg:=vS q.C.reg (cI 4 q.d q.l q.day) },[{ nJ with to:=q.l.frm,kind:=25,index:=q.l.index }]):=aE (fun h2=>h2 h);unfold qY;rw[this]
theorem AJ {q:HQ}(h:kC q.C.parties q.l.party=false∨q.l.party=q.l.frm∨jL q.C.reg (cI 1 q.d q.l q.day)≠0):nB q=(q.C,q.d,eV fL q.l):=by
 have:yQ fL q.C q.d q.l q.day=(q.C,eV fL q.l):=aF h;unfold nB;rw[this]
theorem LR {q:HQ}(h0:kC q.C.parties q.l.party=true) (h1:¬q.l.party=q.l.frm) (h:jL q.C.reg (cI 1 q.d q.l q.day)=0):nB q=({ q.C with reg:=vS q.C.reg (cI 1 q.d q.l q.day) },q.d,[{ nJ with to:=q.l.party,kind:=9,index:=q.l.index,party:=q.l.party }]):=by
 have:yQ fL q.C q.d q.l q.day=({ q.C with reg:=vS q.C.reg (cI 1 q.d q.l q.day) },[{ nJ with to:=q.l.party,kind:=9,index:=q.l.index,party:=q.l.party }]):=aE (fun h2=>by
  rcases h2 with h2|h2|h2
  ·rw[h0]at h2;cases h2
  ·exact h1 h2
  ·exact h2 h)
 unfold nB;rw[this]
theorem CW {L:List bH}{s:bH}{i:Nat}(h:lI id L s=some i):kC L s=true:=by
 obtain⟨y,hy,he⟩:=eB h;exact List.any_eq_true.2 ⟨y,aC hy,by simpa using he⟩
theorem vO {L:List bH}{s:bH}(h:lI id L s=none):kC L s=false:=by
 unfold kC;rw[List.any_eq_false];intro y hy;unfold lI at h;rw[List.findIdx?_eq_none_iff]at h;have:=h y hy;simpa using this
theorem Mu {R:Rg}{d:Dp}{l:dE}{day:Int}:jL R (cI 3 d l day)=eI R.bills ⟨gI d.number,l.index,0,l.frm,0,0,false,false⟩:=rfl
theorem Ux {R:Rg}{d:Dp}{l:dE}{day:Int}:vS R (cI 3 d l day)=⟨R.carrier,fZ R.bills ⟨gI d.number,l.index,0,l.frm,0,0,false,false⟩ (JD ⟨gI d.number,l.index,0,l.frm,0,0,false,false⟩)⟩:=rfl
theorem MU {R:Rg}{d:Dp}{l:dE}{day:Int}:jL R (cI 4 d l day)=eI R.bills ⟨gI d.number,l.index,0,l.frm,3,day,true,false⟩:=rfl
theorem UN {R:Rg}{d:Dp}{l:dE}{day:Int}:vS R (cI 4 d l day)=⟨R.carrier,fZ R.bills ⟨gI d.number,l.index,0,l.frm,3,day,true,false⟩ (PG ⟨gI d.number,l.index,0,l.frm,3,day,true,false⟩)⟩:=rfl
theorem NM {R:Rg}{d:Dp}{l:dE}{day:Int}:jL R (cI 1 d l day)=eI R.bills ⟨gI d.number,l.index,-1,l.frm,0,day,true,hY l.frm l.party⟩:=rfl
theorem Uz {R:Rg}{d:Dp}{l:dE}{day:Int}:vS R (cI 1 d l day)=⟨R.carrier,fZ R.bills ⟨gI d.number,l.index,-1,l.frm,0,day,true,hY l.frm l.party⟩ (tG l.index (tY l.frm l.party day))⟩:=rfl
theorem Id (P:bI) (hb:bK P 120 CH) (hlo:bK P 46 MK) (ho:bK P 121 Ks):bM P YW (gO (fun k=>k=23) qL):=by
 intro args H K hc;obtain⟨⟨⟨name,parties,deals,⟨rc,rL⟩,cust,deliv⟩,i,⟨number,seller,buyer,house,dfrm,dto,dboxes,state,rel⟩,⟨frm,to,lnumber,kind,ack,deal,text,party,index,day0,cur,amt,docs,boxes⟩,day⟩,rfl,rfl,hp,hK⟩:=hc;refine⟨cK,?_⟩;dsimp only at hp hK⊢;obtain⟨hk,hnum,hfew,hall⟩:=hp;dsimp only at hk hnum hfew hall;subst hk;have hok:mM 23:=by unfold mM;decide
 obtain⟨r,hr⟩:∃r,r=qL ⟨⟨name,parties,deals,⟨rc,rL⟩,cust,deliv⟩,i,⟨number,seller,buyer,house,dfrm,dto,dboxes,state,rel⟩,⟨frm,to,lnumber,23,ack,deal,text,party,index,day0,cur,amt,docs,boxes⟩,day⟩:=⟨_,rfl⟩
 rw[←hr]at hK;obtain⟨bn,hbn⟩:∃b,b=gI number:=⟨_,rfl⟩
 obtain⟨e,he⟩:∃e,e=eI rL ⟨bn,index,0,frm,0,0,false,false⟩:=⟨_,rfl⟩
 obtain⟨M,hM⟩:∃M,M=fZ rL ⟨bn,index,0,frm,0,0,false,false⟩ (JD ⟨bn,index,0,frm,0,0,false,false⟩):=⟨_,rfl⟩
 have hr1:e≠0→r=(⟨name,parties,deals,⟨rc,rL⟩,cust,deliv⟩,⟨number,seller,buyer,house,dfrm,dto,dboxes,state,rel⟩,eV fL ⟨frm,to,lnumber,23,ack,deal,text,party,index,day0,cur,amt,docs,boxes⟩):=fun h=>by
  rw[hr];refine Bq ?_;rw[Mu];rw[he,hbn]at h;exact h
 have hr2:e=0→r=(⟨name,parties,deals,⟨rc,M⟩,cust,deliv⟩,⟨number,seller,buyer,house,dfrm,dto,dboxes,state,rel⟩,[]):=fun h=>by
  rw[hr,hM];refine(vX (by rw[Mu];rw[he,hbn]at h;exact h)).trans ?_;rw[Ux,hbn]
 have hM0:e≠0→M=rL:=fun h=>by rw[hM];exact aE (he ▸ h)
 clear hr;cbv
 all_goals
  (refine eW hb (⟨number,seller,buyer,house,dfrm,dto,dboxes,state,rel⟩:Dp) [8] hnum ?_;try dsimp only)
  rw[←hbn];cbv
  (refine eW hlo ((⟨rc,rL⟩,⟨bn,index,0,frm,0,0,false,false⟩):Rg×Ak) [3,4] ⟨fun b hb=>(hall b hb).1,rfl,rfl,rfl,rfl,rfl⟩ ?_;try dsimp only)
  rw[←he,←hM];cbv;repeat'((first|refine .mk (fun h=>?_) fun h=>?_|fail)<;>cbv)
 all_goals first
 |(have hr:=hr2 (by assumption)
   subst hr;refine cZ (Gh.adopt 8 58 14 rfl) ?_;cbv
   (refine .q9 ?_;cbv;exact .inl (eY.sel [0,1,2,3,4,5,6,7,8,10] _ _ (by rfl) (by rfl) (by decide) (by rfl) cK (by rfl) (by rfl) (Le.refl _) (kD.refl _) hK)))
 |(obtain rfl:M=rL:=hM0 (by assumption)
   have hr:=hr1 (by assumption);subst hr
   (refine BB ho (⟨frm,to,lnumber,23,ack,deal,text,party,index,day0,cur,amt,docs,boxes⟩:dE) hok ?_;try dsimp only)
   cbv
   (refine .q9 ?_;cbv;exact .inl (eY.sel [0,1,2,3,4,5,6,7,8,10] _ _ (by rfl) (by rfl) (by decide) (by rfl) cK (by rfl) (by rfl) (Le.refl _) (kD.refl _) hK)))
theorem BK (P:bI) (hb:bK P 120 CH) (hrp:bK P 123 A4) (ho:bK P 121 Ks):bM P ZB (gO (fun k=>k=24) qY):=by
 intro args H K hc;obtain⟨⟨⟨name,parties,deals,⟨rc,rL⟩,cust,deliv⟩,i,⟨number,seller,buyer,house,dfrm,dto,dboxes,state,rel⟩,⟨frm,to,lnumber,kind,ack,deal,text,party,index,day0,cur,amt,docs,boxes⟩,day⟩,rfl,rfl,hp,hK⟩:=hc;refine⟨cK,?_⟩;dsimp only at hp hK⊢;obtain⟨hk,hnum,hfew,hall⟩:=hp;dsimp only at hk hnum hfew hall;subst hk;have hok:mM 24:=by unfold mM;decide
 obtain⟨r,hr⟩:∃r,r=qY ⟨⟨name,parties,deals,⟨rc,rL⟩,cust,deliv⟩,i,⟨number,seller,buyer,house,dfrm,dto,dboxes,state,rel⟩,⟨frm,to,lnumber,24,ack,deal,text,party,index,day0,cur,amt,docs,boxes⟩,day⟩:=⟨_,rfl⟩
 rw[←hr]at hK;obtain⟨bn,hbn⟩:∃b,b=gI number:=⟨_,rfl⟩
 obtain⟨e,he⟩:∃e,e=eI rL ⟨bn,index,0,frm,3,day,true,false⟩:=⟨_,rfl⟩
 obtain⟨M,hM⟩:∃M,M=fZ rL ⟨bn,index,0,frm,3,day,true,false⟩ (PG ⟨bn,index,0,frm,3,day,true,false⟩):=⟨_,rfl⟩
 have hr1:e≠0→r=(⟨name,parties,deals,⟨rc,rL⟩,cust,deliv⟩,⟨number,seller,buyer,house,dfrm,dto,dboxes,state,rel⟩,eV fL ⟨frm,to,lnumber,24,ack,deal,text,party,index,day0,cur,amt,docs,boxes⟩):=fun h=>by
  rw[hr];refine AN ?_;rw[MU];rw[he,hbn]at h;exact h
 have hr2:e=0→r=(⟨name,parties,deals,⟨rc,M⟩,cust,deliv⟩,⟨number,seller,buyer,house,dfrm,dto,dboxes,state,rel⟩,[⟨eS,frm,0,25,0,eS,eS,eS,index,0,eS,0,[],[]⟩]):=fun h=>by
  rw[hr,hM];refine(xB (by rw[MU];rw[he,hbn]at h;exact h)).trans ?_;rw[UN,hbn];rfl
 have hM0:e≠0→M=rL:=fun h=>by rw[hM];exact aE (he ▸ h)
 clear hr;cbv
 all_goals
  (refine eW hb (⟨number,seller,buyer,house,dfrm,dto,dboxes,state,rel⟩:Dp) [8] hnum ?_;try dsimp only)
  rw[←hbn];cbv
  (refine eW hrp ((⟨rc,rL⟩,⟨bn,index,0,frm,3,day,true,false⟩):Rg×Ak) [3,4] ⟨fun b hb=>(hall b hb).1,rfl,rfl,rfl,rfl⟩ ?_;try dsimp only)
  rw[←he,←hM];cbv;repeat'((first|refine .mk (fun h=>?_) fun h=>?_|fail)<;>cbv)
 all_goals first
 |(have hr:=hr2 (by assumption)
   subst hr;refine cZ (Gh.leAt 10 (.row 58 14 (bJ eD [⟨eS,frm,0,25,0,eS,eS,eS,index,0,eS,0,[],[]⟩])) rfl (tL Bx)) ?_;cbv
   (refine .q9 ?_;cbv;exact .inl (eY.sel [0,1,2,3,4,5,6,7,8,10] _ _ (by rfl) (by rfl) (by decide) (by rfl) cK (by rfl) (by rfl) (Le.refl _) (kD.refl _) hK)))
 |(obtain rfl:M=rL:=hM0 (by assumption)
   have hr:=hr1 (by assumption);subst hr
   (refine BB ho (⟨frm,to,lnumber,24,ack,deal,text,party,index,day0,cur,amt,docs,boxes⟩:dE) hok ?_;try dsimp only)
   cbv
   (refine .q9 ?_;cbv;exact .inl (eY.sel [0,1,2,3,4,5,6,7,8,10] _ _ (by rfl) (by rfl) (by decide) (by rfl) cK (by rfl) (by rfl) (Le.refl _) (kD.refl _) hK)))
theorem BT (P:bI) (hb:bK P 120 CH) (hen:bK P 119 Bo) (ho:bK P 121 Ks):bM P YL (gO (fun k=>k=8) nB):=by
 intro args H K hc;obtain⟨⟨⟨name,parties,deals,⟨rc,rL⟩,cust,deliv⟩,i,⟨number,seller,buyer,house,dfrm,dto,dboxes,state,rel⟩,⟨frm,to,lnumber,kind,ack,deal,text,party,index,day0,cur,amt,docs,boxes⟩,day⟩,rfl,rfl,hp,hK⟩:=hc;refine⟨cK,?_⟩;dsimp only at hp hK⊢;obtain⟨hk,hnum,hfew,hall⟩:=hp;dsimp only at hk hnum hfew hall;subst hk;have hok:mM 8:=by unfold mM;decide
 obtain⟨r,hr⟩:∃r,r=nB ⟨⟨name,parties,deals,⟨rc,rL⟩,cust,deliv⟩,i,⟨number,seller,buyer,house,dfrm,dto,dboxes,state,rel⟩,⟨frm,to,lnumber,8,ack,deal,text,party,index,day0,cur,amt,docs,boxes⟩,day⟩:=⟨_,rfl⟩
 rw[←hr]at hK;obtain⟨bn,hbn⟩:∃b,b=gI number:=⟨_,rfl⟩
 obtain⟨e,he⟩:∃e,e=eI rL ⟨bn,index,-1,frm,0,day,true,hY frm party⟩:=⟨_,rfl⟩
 obtain⟨M,hM⟩:∃M,M=fZ rL ⟨bn,index,-1,frm,0,day,true,hY frm party⟩ (tG index (tY frm party day)):=⟨_,rfl⟩
 have hr1:kC parties party=false∨party=frm∨e≠0→r=(⟨name,parties,deals,⟨rc,rL⟩,cust,deliv⟩,⟨number,seller,buyer,house,dfrm,dto,dboxes,state,rel⟩,eV fL ⟨frm,to,lnumber,8,ack,deal,text,party,index,day0,cur,amt,docs,boxes⟩):=fun h=>by
  rw[hr];refine AJ ?_;refine h.imp id (Or.imp id fun h=>?_);rw[NM];rw[he,hbn]at h;exact h
 have hr2:kC parties party=true→¬party=frm→e=0→r=(⟨name,parties,deals,⟨rc,M⟩,cust,deliv⟩,⟨number,seller,buyer,house,dfrm,dto,dboxes,state,rel⟩,[⟨eS,party,0,9,0,eS,eS,party,index,0,eS,0,[],[]⟩]):=fun h0 h1 h=>by
  rw[hr,hM];refine(LR h0 h1 (by rw[NM];rw[he,hbn]at h;exact h)).trans ?_;rw[Uz,hbn];rfl
 have hM0:e≠0→M=rL:=fun h=>by rw[hM];exact aE (he ▸ h)
 clear hr;obtain⟨wr,hwr⟩:∃w,w=hY frm party:=⟨_,rfl⟩
 rw[←hwr]at he hM;cbv;refine oO (fun j hj=>?_) fun hn=>?_
 rotate_left
 ·have hr:=hr1 (.inl (vO hn));subst hr;cbv
  all_goals
    (refine BB ho (⟨frm,to,lnumber,8,ack,deal,text,party,index,day0,cur,amt,docs,boxes⟩:dE) hok ?_;try dsimp only)
    cbv
    (refine .q9 ?_;cbv;exact .inl (eY.sel [0,1,2,3,4,5,6,7,8,10] _ _ (by rfl) (by rfl) (by decide) (by rfl) cK (by rfl) (by rfl) (Le.refl _) (kD.refl _) hK))
 ·have hin:=CW hj;clear hj;cbv;repeat'((first|refine .mk (fun h=>?_) fun h=>?_|fail)<;>cbv)
  all_goals first
  |(have hr:=hr1 (.inr (.inl (by assumption)))
    subst hr
    (refine BB ho (⟨frm,to,lnumber,8,ack,deal,text,party,index,day0,cur,amt,docs,boxes⟩:dE) hok ?_;try dsimp only)
    cbv
    (refine .q9 ?_;cbv;exact .inl (eY.sel [0,1,2,3,4,5,6,7,8,10] _ _ (by rfl) (by rfl) (by decide) (by rfl) cK (by rfl) (by rfl) (Le.refl _) (kD.refl _) hK)))
  |((refine eW hb (⟨number,seller,buyer,house,dfrm,dto,dboxes,state,rel⟩:Dp) [8] hnum ?_;try dsimp only)
    rw[←hbn];cbv
    (refine eW hen ((⟨rc,rL⟩,⟨bn,index,-1,frm,0,day,true,wr⟩,party):Rg×Ak×bH) [3,4] ⟨fun b hb=>(hall b hb).1,rfl,rfl,rfl,hwr⟩ ?_;try dsimp only)
    rw[←he,←hM];cbv;repeat'((first|refine .mk (fun h=>?_) fun h=>?_|fail)<;>cbv))
  all_goals first
  |(have hr:=hr2 hin (by assumption) (by assumption)
    subst hr;refine cZ (Gh.leAt 10 (.row 58 14 (bJ eD [⟨eS,party,0,9,0,eS,eS,party,index,0,eS,0,[],[]⟩])) rfl (tL Bx)) ?_;cbv
    (refine .q9 ?_;cbv;exact .inl (eY.sel [0,1,2,3,4,5,6,7,8,10] _ _ (by rfl) (by rfl) (by decide) (by rfl) cK (by rfl) (by rfl) (Le.refl _) (kD.refl _) hK)))
  |(obtain rfl:M=rL:=hM0 (by assumption)
    have hr:=hr1 (.inr (.inr (by assumption)));subst hr
    (refine BB ho (⟨frm,to,lnumber,8,ack,deal,text,party,index,day0,cur,amt,docs,boxes⟩:dE) hok ?_;try dsimp only)
    cbv
    (refine .q9 ?_;cbv;exact .inl (eY.sel [0,1,2,3,4,5,6,7,8,10] _ _ (by rfl) (by rfl) (by decide) (by rfl) cK (by rfl) (by rfl) (Le.refl _) (kD.refl _) hK)))
def PT (n:bH) (day:Int) (l:dE):dE:={ l with deal:=n,day:=day }
def mD (n:bH) (day:Int) (l:List dE) (k:Nat):List dE:=cF n day (l.take k)++l.drop k
def qT:dL:=spec (fun q:List dE×Dp×Int=>[.hd 0,.ptr 1 0,.i q.2.2]) (fun q=>[.row 58 14 (bJ eD q.1),.blk 136 (Uj q.2.1)]) (fun q=>q.1.length≤1000) (fun _=>.hd 0) fun q=>[.row 58 14 (bJ eD (cF q.2.1.number q.2.2 q.1)),.blk 136 (Uj q.2.1)]
theorem CN {α:Type}(f:α→AV) (L:List α) (k:Nat) (x:α):(bJ f L).set k (f x)=bJ f (L.set k x):=by rw[ZY,ZY,List.map_set]
theorem QD {α:Type}{L:List α}{k:Nat}{y:α}(x:α) (h:L[k]?=some y):(L.set k x)[k]?=some x:=by
 obtain⟨hl,_⟩:=aA.1 h;rw[aQ hl]
theorem E4 {n:bH}{day:Int}{l:List dE}{k:Nat}{x:dE}(h:l[k]?=some x):mD n day l (k+1)=(mD n day l k).set k (PT n day x):=by
 obtain⟨hl,rfl⟩:=aA.1 h;unfold mD;rw[List.set_append_right _ _ (by unfold cF;rw[aJ,aS];omega)];have e:k - (cF n day (l.take k)).length=0:=by unfold cF;rw[aJ,aS];omega
 rw[e,List.drop_eq_getElem_cons hl,List.set_cons_zero,dO h];unfold cF;rw[List.map_append,bG];rfl
theorem Hj (n:bH) (day:Int) (l:List dE) {k:Nat}(h:l.length≤k):mD n day l k=cF n day l:=by
 unfold mD;rw[bC h,List.drop_of_length_le h,List.append_nil]
theorem HI (P:bI):bM P YT qT:=by
 intro args H K hc;obtain⟨⟨ls,⟨number,seller,buyer,house,dfrm,dto,dboxes,state,rel⟩,day⟩,rfl,rfl,hp,hK⟩:=hc;refine⟨cK,?_⟩;dsimp only at hp hK⊢;obtain⟨n,hn⟩:∃n:Nat,n=ls.length:=⟨_,rfl⟩
 cbv;repeat'((first|refine .k fun z hz=>?_|fail)<;>cbv)
 refine bU [] (fun p:{ k:Nat // k≤ls.length }=>[(10,.i (nI p.1))]) (fun p=>[.row 58 14 (bJ eD (mD number day ls p.1)),.blk 136 [.str number,.str seller,.str buyer,.str house,.str dfrm,.str dto,.sl 1 (bJ .str dboxes),.i state,.bl rel]]) (fun p=>fO n p.1) ⟨0,aI _⟩ ?_;rintro ⟨k,hk⟩;dsimp only at hk⊢;obtain⟨L1,hL1⟩:∃l,l=mD number day ls k:=⟨_,rfl⟩
 rw[←hL1];rcases aL k ls.length with hks|hks
 rotate_left
 ·have e:L1=cF number day ls:=by rw[hL1];exact Hj _ _ _ hks
  subst e;cbv;repeat'((first|refine .n fun h=>?_|fail)<;>cbv)
  (refine .q9 ?_;cbv;exact .inl (.f9 hK))
 obtain⟨l,hx⟩:=cJ hks;have hx1:L1[k]?=some l:=by
  rw[hL1];unfold mD cF;rw[List.getElem?_append_right (by rw[aJ,aS];omega),aJ,aS,Nat.min_eq_left (by omega),Nat.sub_self,List.getElem?_drop,Nat.add_zero,hx]
 have hsn:=E4 (n:=number) (day:=day) hx;rw[←hL1]at hsn;obtain⟨frm,to,lnumber,kind,ack,deal,text,party,index,day0,cur,amt,docs,boxes⟩:=l;replace hsn:mD number day ls (k+1)=L1.set k ⟨frm,to,lnumber,kind,ack,number,text,party,index,day,cur,amt,docs,boxes⟩:=hsn;have hx2:=QD ⟨frm,to,lnumber,kind,ack,number,text,party,index,day0,cur,amt,docs,boxes⟩ hx1;obtain⟨L2,hL2⟩:∃l,l=L1.set k ⟨frm,to,lnumber,kind,ack,number,text,party,index,day0,cur,amt,docs,boxes⟩:=⟨_,rfl⟩
 rw[←hL2]at hx2;have hsn2:mD number day ls (k+1)=L2.set k ⟨frm,to,lnumber,kind,ack,number,text,party,index,day,cur,amt,docs,boxes⟩:=by rw[hL2,List.set_set];exact hsn
 clear hL1 hx hsn;cbv;repeat'((first|refine .e ?_|refine .y fun h=>?_|refine .z fun zs hzs=>?_|fail)<;>cbv)
 obtain rfl:zs=bJ eD L2:=by rw[hL2];exact hzs.trans (CN eD L1 k ⟨frm,to,lnumber,kind,ack,number,text,party,index,day0,cur,amt,docs,boxes⟩)
 clear hL2 hx1 hzs;cbv;repeat'((first|refine .e ?_|refine .k fun z hz=>?_|refine .z fun zs hzs=>?_|fail)<;>cbv)
 obtain rfl:z=nI (k+1):=bQ;obtain rfl:zs=bJ eD (mD number day ls (k+1)):=by rw[hsn2];exact hzs.trans (CN eD L2 k ⟨frm,to,lnumber,kind,ack,number,text,party,index,day,cur,amt,docs,boxes⟩)
 exact bN ⟨k+1,hks⟩ (bO (by omega))
def GK:dL:=spec (fun d:Dp=>[.rp (Uj d) 0]) (fun _=>[]) (fun d=>d.number.size≤1000) (fun d=>.str (gI d.number)) fun _=>[]
theorem Hw (P:bI):bM P Uw GK:=by
 intro args H K hc;obtain⟨⟨number,seller,buyer,house,frm,to,boxes,state,rel⟩,rfl,rfl,hp,hK⟩:=hc;refine⟨cK,?_⟩;dsimp only at hp hK⊢;have z3:(ByteArray.mk (Array.mk [98,108,45])).size=3:=rfl;obtain⟨bn,hbn⟩:∃b,b=Ph++number:=⟨_,rfl⟩
 replace hK:K (.str (Ph++number)) []:=hK;rw[←hbn]at hK;cbv;repeat'((first|refine .u fun u hu hul=>?_|fail)<;>cbv)
 obtain rfl:u=bn:=by rw[hbn];assumption
 (refine .q9 ?_;cbv;exact .inl (.f9 hK))
structure AQ where
 C:Cr
 i:Nat
 d:Dp
 day:Int
structure ZK (q:AQ):Prop where
 num:q.d.number.size≤1000
 few:q.C.reg.bills.length≤256
 all:∀b∈q.C.reg.bills,inB b
 bx:q.d.boxes.length≤70
 bz:∀b∈q.d.boxes,b.size≤1000
 day:-9223372036854775808≤q.day∧q.day≤9223372036854775807
def qM (f:AQ→Cr×Dp×List dE×Int):dL:=spec (fun q:AQ=>[.ptr 0 0,.ptr 8 0,.i q.day]) (fun q=>MR q.C q.i q.d) ZK (fun q=>.tup [.hd 9,.i (f q).2.2.2]) fun q=>MR (f q).1 q.i (f q).2.1++[.row 58 14 (bJ eD (f q).2.2.1)]
def Gd (q:AQ):Cr×Dp×List dE×Int:=(q.C,sB 3 q.d,[{ nJ with to:=q.d.buyer,kind:=26,boxes:=q.d.boxes }],0)
def sK (q:AQ):Cr×Dp×List dE×Int:=if gR ⟨q.C.reg,gT q.C.name q.d q.day,q.d.seller⟩≠0 then (q.C,q.d,[],gR ⟨q.C.reg,gT q.C.name q.d q.day,q.d.seller⟩)
 else ({ q.C with reg:=kB ⟨q.C.reg,gT q.C.name q.d q.day,q.d.seller⟩ },sB 2 q.d,[{ nJ with to:=q.d.seller,kind:=5,docs:=[eU (gT q.C.name q.d q.day)] }],0)
theorem GQ (P:bI) (hc1:bK P 87 (mJ 1 16)):bM P Zh (qM Gd):=by
 intro args H K hc;obtain⟨⟨⟨name,parties,deals,⟨rc,rL⟩,cust,deliv⟩,i,⟨number,seller,buyer,house,dfrm,dto,dboxes,state,rel⟩,day⟩,rfl,rfl,hp,hK⟩:=hc;refine⟨cK,?_⟩;dsimp only at hp hK⊢;obtain⟨hnum,hfew,hall,hbx,hmk,hday⟩:=hp;dsimp only at hnum hfew hall hbx hmk hday;obtain⟨r,hr⟩:∃r,r=Gd ⟨⟨name,parties,deals,⟨rc,rL⟩,cust,deliv⟩,i,⟨number,seller,buyer,house,dfrm,dto,dboxes,state,rel⟩,day⟩:=⟨_,rfl⟩
 rw[←hr]at hK;replace hr:r=(⟨name,parties,deals,⟨rc,rL⟩,cust,deliv⟩,⟨number,seller,buyer,house,dfrm,dto,dboxes,3,rel⟩,[⟨eS,buyer,0,26,0,eS,eS,eS,0,0,eS,0,[],dboxes⟩],0):=hr;cbv
 all_goals
  (refine ZO hc1 _ ⟨by rw[cC];unfold maxLen;omega,by rw[cC];omega⟩ ?_;try dsimp only)
  cbv
 all_goals
  subst hr;refine cZ (Gh.leAt 9 (.row 58 14 (bJ eD [⟨eS,buyer,0,26,0,eS,eS,eS,0,0,eS,0,[],dboxes⟩])) rfl (tL Bx)) ?_;cbv
  (refine .q9 ?_;cbv;exact .inl (.f9 hK))
theorem G9 (P:bI) (hb:bK P 120 GK) (hc1:bK P 87 (mJ 1 16)) (his:bK P 124 HB) (hla:bK P 125 GC):bM P Y5 (qM sK):=by
 intro args H K hc;obtain⟨⟨⟨name,parties,deals,⟨rc,rL⟩,cust,deliv⟩,i,⟨number,seller,buyer,house,dfrm,dto,dboxes,state,rel⟩,day⟩,rfl,rfl,hp,hK⟩:=hc;refine⟨cK,?_⟩;dsimp only at hp hK⊢;obtain⟨hnum,hfew,hall,hbx,hmk,hday⟩:=hp;dsimp only at hnum hfew hall hbx hmk hday;obtain⟨r,hr⟩:∃r,r=sK ⟨⟨name,parties,deals,⟨rc,rL⟩,cust,deliv⟩,i,⟨number,seller,buyer,house,dfrm,dto,dboxes,state,rel⟩,day⟩:=⟨_,rfl⟩
 rw[←hr]at hK;obtain⟨bn,hbn⟩:∃b,b=gI number:=⟨_,rfl⟩
 obtain⟨e,he⟩:∃e,e=gR ⟨⟨rc,rL⟩,⟨bn,name,seller,dfrm,dto,dboxes,[],day,true⟩,seller⟩:=⟨_,rfl⟩
 obtain⟨⟨rc2,M⟩,hM⟩:∃R,R=kB ⟨⟨rc,rL⟩,⟨bn,name,seller,dfrm,dto,dboxes,[],day,true⟩,seller⟩:=⟨_,rfl⟩
 obtain⟨⟨dk,dn1,di,dfs⟩,hdc⟩:∃q,q=eU ⟨bn,name,seller,dfrm,dto,dboxes,[],day,true⟩:=⟨_,rfl⟩
 have hr1:e≠0→r=(⟨name,parties,deals,⟨rc,rL⟩,cust,deliv⟩,⟨number,seller,buyer,house,dfrm,dto,dboxes,state,rel⟩,[],e):=fun h=>by
  rw[hr];rw[he,hbn]at h;refine(aF h).trans ?_;rw[he,hbn];rfl
 have hr2:e=0→r=(⟨name,parties,deals,⟨rc2,M⟩,cust,deliv⟩,⟨number,seller,buyer,house,dfrm,dto,dboxes,2,rel⟩,[⟨eS,seller,0,5,0,eS,eS,eS,0,0,eS,0,[⟨dk,dn1,di,dfs⟩],[]⟩],0):=fun h=>by
  rw[hr];rw[he,hbn]at h;refine(aE (fun h2=>h2 h)).trans ?_;rw[hM,hdc,hbn];rfl
 have hM0:e≠0→(⟨rc2,M⟩:Rg)=⟨rc,rL⟩:=fun h=>by rw[hM];exact aE (he ▸ h)
 clear hr;have hIP:Dt ⟨⟨rc,rL⟩,⟨bn,name,seller,dfrm,dto,dboxes,[],day,true⟩,seller⟩:=⟨hfew,hall,⟨by dsimp only;omega,aI _⟩⟩
 have hLP:RU ⟨bn,name,seller,dfrm,dto,dboxes,[],day,true⟩:=⟨⟨by dsimp only;omega,hmk⟩,⟨aI _,fun s hs=>by cases hs⟩,hday⟩
 cbv;repeat'((first|refine And.intro ?_ ?_|fail)<;>cbv)
 all_goals
  (refine EN hb 8 (rest:=[]) (fun _=>(⟨number,seller,buyer,house,dfrm,dto,dboxes,state,rel⟩:Dp)) rfl rfl rfl rfl (fun _=>rfl) (fun x hx=>⟨rfl,hnum,?_⟩);try dsimp only)
  rw[←hbn];cbv;repeat'((first|refine And.intro ?_ ?_|fail)<;>cbv)
 all_goals
  repeat'(first
   |((refine EN hb 8 (rest:=[]) (fun _=>(⟨number,seller,buyer,house,dfrm,dto,dboxes,state,rel⟩:Dp)) rfl rfl rfl rfl (fun _=>rfl) (fun x hx=>⟨rfl,hnum,?_⟩);try dsimp only)
     rw[←hbn];cbv)
   |((refine ZO hc1 _ ⟨by rw[cC];unfold maxLen;omega,by rw[cC];omega⟩ ?_;try dsimp only)
     cbv))
 all_goals
  refine oL [.ptr 3 0,J5 ⟨bn,name,seller,dfrm,dto,dboxes,[],day,true⟩,.str seller] Bx ?_
  (refine eW his (⟨⟨rc,rL⟩,⟨bn,name,seller,dfrm,dto,dboxes,[],day,true⟩,seller⟩:oV) [3,4] hIP ?_;try dsimp only)
  rw[←he,←hM];cbv;repeat'((first|refine .mk (fun h=>?_) fun h=>?_|fail)<;>cbv)
 all_goals first
 |(obtain⟨rfl,rfl⟩:rc2=rc∧M=rL:=by have:=hM0 (by assumption);cases this;exact⟨rfl,rfl⟩
   have hr:=hr1 (by assumption);subst hr;refine cZ (Gh.adopt 6 58 14 rfl) ?_;cbv
   (refine .q9 ?_;cbv;exact .inl (eY.sel [0,1,2,3,4,5,6,7,8,10] _ _ (by rfl) (by rfl) (by decide) (by rfl) cK (by rfl) (by rfl) (Le.refl _) (kD.refl _) hK)))
 |(have hr:=hr2 (by assumption)
   subst hr;refine oL [J5 ⟨bn,name,seller,dfrm,dto,dboxes,[],day,true⟩] Bx ?_
   (refine ZO hla (⟨bn,name,seller,dfrm,dto,dboxes,[],day,true⟩:Bl) hLP ?_;try dsimp only)
   rw[←hdc];cbv)
 all_goals
  refine cZ (Gh.leAt 11 (.row 58 14 (bJ eD [⟨eS,seller,0,5,0,eS,eS,eS,0,0,eS,0,[⟨dk,dn1,di,dfs⟩],[]⟩])) rfl (tL Bx)) ?_;cbv
  (refine .q9 ?_;cbv;exact .inl (eY.sel [0,1,2,3,4,5,6,7,8,11] _ _ (by rfl) (by rfl) (by decide) (by rfl) cK (by rfl) (by rfl) (Le.refl _) (kD.refl _) hK))
def UO:List (AV×AV):=[(.i 5,.agg [.i 1,.clo 85 []]),(.i 6,.agg [.i 2,.clo 86 []])]
def AX:List (AV×AV):=[(.i 4,.clo 79 []),(.i 8,.clo 80 []),(.i 20,.clo 81 []),(.i 19,.clo 82 []),(.i 23,.clo 83 []),(.i 24,.clo 84 [])]
def Cx:dL:=spec (fun _:Unit=>[]) (fun _=>[]) (fun _=>True) (fun _=>.hd 0) fun _=>[.map 142 UO]
def rE:dL:=spec (fun _:Unit=>[]) (fun _=>[]) (fun _=>True) (fun _=>.hd 0) fun _=>[.map 131 AX]
theorem Kr (P:bI):bM P Zu Cx:=by
 intro args H K hc;obtain⟨u,rfl,rfl,hp,hK⟩:=hc;refine⟨cK,?_⟩;dsimp only at hp hK⊢;cbv
 repeat'(first
  |(refine qN.mk (.inr ⟨by rfl,?_⟩);cbv)
  |(refine Om.mk fun z hz=>?_;subst hz;cbv)
  |((first|fail)<;>cbv))
 (refine .q9 ?_;cbv;exact .inl (.f9 hK))
theorem DR (P:bI):bM P YX rE:=by
 intro args H K hc;obtain⟨u,rfl,rfl,hp,hK⟩:=hc;refine⟨cK,?_⟩;dsimp only at hp hK⊢;cbv
 repeat'(first
  |(refine qN.mk (.inr ⟨by rfl,?_⟩);cbv)
  |(refine Om.mk fun z hz=>?_;subst hz;cbv)
  |((first|fail)<;>cbv))
 (refine .q9 ?_;cbv;exact .inl (.f9 hK))
def yY (C:Cr):List cG:=[.blk 118 [.str C.name,.hd 1,.ph 2,.ptr 3 0,.ptr 5 0,.hd 7],.map 70 (bJ iK C.parties),.pool 116 (bJ gM C.deals) [],.blk 122 [.str C.reg.carrier,.ph 4],.pool 120 (bJ fM C.reg.bills) [],.blk 174 [.ph 6],.pool 172 (bJ gE C.cust) [],.tip 77 5 (bJ dP C.deliv)]
structure Tv (C:Cr):Prop where
 nd:(C.deals.map Dp.number).Nodup
 few:C.reg.bills.length≤256
 all:∀b∈C.reg.bills,inB b
 num:∀d∈C.deals,d.number.size≤1000
 bx:∀d∈C.deals,d.boxes.length≤70
 bz:∀d∈C.deals,∀b∈d.boxes,b.size≤60
structure CQ where
 C:Cr
 kind:Int
 n:Int
 deal:bH
 day:Int
structure UP (q:CQ):Prop where
 c:Tv q.C
 day:-9223372036854775808≤q.day∧q.day≤9223372036854775807
def uQ (κ:Int→Prop):dL:=spec (fun q:CQ=>[.ptr 0 0,.agg [.i q.kind,.i q.n,.str q.deal],.i q.day]) (fun q=>yY q.C) (fun q=>κ q.kind∧UP q) (fun q=>.tup [.sl 14 (bJ eD (lE eU q.C q.kind q.deal q.day).2.1),.i (lE eU q.C q.kind q.deal q.day).2.2]) fun q=>yY (lE eU q.C q.kind q.deal q.day).1
theorem jI {z k:Int}{v:AV}{es:List (AV×AV)}{i:Nat}(h:¬z=k):oQ (.i z) ((.i k,v) :: es) i=oQ (.i z) es (i+1):=by
 have e:mX (.i z) (.i k)=some false:=by
  show (if IntKind.i64=IntKind.i64 then some (z == k) else none)=_;rw[aF rfl];simpa using h
 show (match mX (.i z) (.i k) with|some true=>_|some false=>oQ (.i z) es (i+1)|none=>_)=_;rw[e]
theorem G3 (P:bI) (hac:bK P 53 Cx):bM P Wq (uQ fun k=>¬(k=5∨k=6)):=by
 intro args H K hc;obtain⟨⟨⟨name,parties,deals,⟨rc,rL⟩,cust,deliv⟩,kind,n,deal,day⟩,rfl,rfl,hp,hK⟩:=hc;refine⟨cK,?_⟩;dsimp only at hp hK⊢;obtain⟨hk,⟨hnd,hfew,hall,hnum,hbx,hbz⟩,hday⟩:=hp;dsimp only at hk hnd hfew hall hnum hbx hbz hday;obtain⟨r,hr⟩:∃r,r=lE eU ⟨name,parties,deals,⟨rc,rL⟩,cust,deliv⟩ kind deal day:=⟨_,rfl⟩
 rw[←hr]at hK;have hr:r=(⟨name,parties,deals,⟨rc,rL⟩,cust,deliv⟩,[],1):=hr.trans (aF (by omega));subst hr;cbv;repeat'((first|refine And.intro ?_ ?_|fail)<;>cbv)
 all_goals
  (refine BB hac () trivial ?_;try dsimp only)
  cbv;repeat'((first|refine And.intro ?_ ?_|fail)<;>cbv)
 all_goals
  refine qN.mk (.inr ⟨by rw[jI (by omega),jI (by omega)];rfl,?_⟩);cbv
 all_goals
  refine cZ (Gh.adopt 6 58 14 rfl) ?_;cbv;refine cZ (Gh.plain 11 rfl) ?_;cbv
  (refine .q9 ?_;cbv;exact .inl (.f9 hK))
theorem LZ {C:Cr}{i:Nat}{d:Dp}{day:Int}(hnd:(C.deals.map Dp.number).Nodup) (hi:lI Dp.number C.deals d.number=some i) (hd:C.deals[i]?=some d):Jy C d day=({ C with deals:=C.deals.set i (sB 3 d) },cF d.number day [{ nJ with to:=d.buyer,kind:=26,boxes:=d.boxes }],0):=by
 unfold Jy Z0;rw[nY hnd (sB 3) hi hd]
theorem Pe {C:Cr}{i:Nat}{d:Dp}{day:Int}(hnd:(C.deals.map Dp.number).Nodup) (hi:lI Dp.number C.deals d.number=some i) (hd:C.deals[i]?=some d):vG eU C d day=(let r:=sK ⟨C,i,d,day⟩;({ r.1 with deals:=C.deals.set i r.2.1 },cF d.number day r.2.2.1,r.2.2.2)):=by
 unfold vG sK;dsimp only;by_cases h:gR ⟨C.reg,gT C.name d day,d.seller⟩≠0
 ·rw[aF h,aF h];dsimp only;have e:C.deals.set i d=C.deals:=by
   obtain⟨hl,rfl⟩:=aA.1 hd;exact List.set_getElem_self hl
  rw[e];rfl
 ·rw[aE h,aE h];unfold Z0;dsimp only;rw[nY hnd (sB 2) hi hd]
theorem Cw {C:Cr}{kind:Int}{deal:bH}{day:Int}(hk:kind=5∨kind=6) (h:lI Dp.number C.deals deal=none):lE eU C kind deal day=(C,[],4):=by
 unfold lE;rw[aE (by omega),sV h]
theorem Ju {C:Cr}{kind:Int}{deal:bH}{day:Int}{i:Nat}{d:Dp}(hk:kind=5∨kind=6) (h:lI Dp.number C.deals deal=some i) (hd:C.deals[i]?=some d):lE eU C kind deal day=if d.state≠(if kind=5 then 1 else 2) then (C,[],9) else if kind=5 then vG eU C d day else Jy C d day:=by
 unfold lE;rw[aE (by omega),mF h hd]
theorem KM (P:bI) (hac:bK P 53 Cx) (hmc:dB P 86) (hla:bK P 86 (qM Gd)) (hst:bK P 49 qT):bM P Wq (uQ fun k=>k=6):=by
 intro args H K hc;obtain⟨⟨⟨name,parties,deals,⟨rc,rL⟩,cust,deliv⟩,kind,n,deal,day⟩,rfl,rfl,hp,hK⟩:=hc;refine⟨cK,?_⟩;dsimp only at hp hK⊢;obtain⟨hk,⟨hnd,hfew,hall,hnum,hbx,hbz⟩,hday⟩:=hp;dsimp only at hk hnd hfew hall hnum hbx hbz hday;subst hk;obtain⟨r,hr⟩:∃r,r=lE eU ⟨name,parties,deals,⟨rc,rL⟩,cust,deliv⟩ 6 deal day:=⟨_,rfl⟩
 rw[←hr]at hK;cbv;repeat'((first|refine And.intro ?_ ?_|fail)<;>cbv)
 all_goals
  (refine BB hac () trivial ?_;try dsimp only)
  cbv;repeat'((first|refine And.intro ?_ ?_|fail)<;>cbv)
 all_goals
  refine qN.mk (.inl ⟨1,_,_,by rfl,by rfl,?_⟩);cbv
 all_goals
  refine fC Dp.number (fun _=>rfl) (fun i y hai hy hky=>?_) (fun hai=>?_)<;>try dsimp only at *
  rotate_left
  ·have hr:=hr.trans (Cw (.inr rfl) hai);subst hr;cbv
   all_goals
    refine cZ (Gh.adopt 6 58 14 rfl) ?_;cbv;refine cZ (Gh.plain 11 rfl) ?_;cbv
    (refine .q9 ?_;cbv;exact .inl (.f9 hK))
  ·have hmem:=aC hy;have hn1:=hnum y hmem;have hb1:=hbx y hmem;have hb2:=hbz y hmem;have hr:=hr.trans (Ju (.inr rfl) hai hy);rw[←hky]at hai;have hla2:=LZ (C:=⟨name,parties,deals,⟨rc,rL⟩,cust,deliv⟩) (day:=day) hnd hai hy;rw[hla2]at hr;clear hla2;have hr1:y.state≠2→r=(⟨name,parties,deals,⟨rc,rL⟩,cust,deliv⟩,[],9):=fun h=>hr.trans (aF h)
   have hr2:y.state=2→r=(⟨name,parties,deals.set i (sB 3 y),⟨rc,rL⟩,cust,deliv⟩,[⟨eS,y.buyer,0,26,0,y.number,eS,eS,0,day,eS,0,[],y.boxes⟩],0):=fun h=>hr.trans (aE (fun h2=>h2 h))
   clear hr;obtain⟨number,seller,buyer,house,dfrm,dto,dboxes,state,rel⟩:=y;dsimp only at hky hn1 hb1 hb2 hai hr1 hr2;subst hky;cbv;repeat'((first|refine .mk (fun h=>?_) fun h=>?_|refine And.intro ?_ ?_|fail)<;>cbv)
   ·exact hmc
   ·have hr:=hr2 (by assumption);clear hr1 hr2;subst hr
    (refine eW hla (⟨⟨name,parties,deals,⟨rc,rL⟩,cust,deliv⟩,i,⟨number,seller,buyer,house,dfrm,dto,dboxes,state,rel⟩,day⟩:AQ) [0,1,2,3,4,5,6,7,11] ⟨hn1,hfew,hall,hb1,fun b hb=>by have:=hb2 b hb;omega,hday⟩ ?_;try dsimp only)
    cbv;repeat'((first|refine .y fun h=>?_|fail)<;>cbv)
    (refine eW hst (([⟨eS,buyer,0,26,0,eS,eS,eS,0,0,eS,0,[],dboxes⟩],⟨number,seller,buyer,house,dfrm,dto,dboxes,3,rel⟩,day):List dE×Dp×Int) [12,11] (show (1:Nat)≤1000 by decide) ?_;try dsimp only)
    cbv;refine cZ (Gh.back 2 [11] gM ⟨number,seller,buyer,house,dfrm,dto,dboxes,3,rel⟩ rfl hy) ?_;cbv;refine cZ (Gh.plain 12 rfl) ?_;cbv
    (refine .q9 ?_;cbv;exact .inl (.f9 hK))
   ·have hr:=hr1 (by assumption);clear hr1 hr2;subst hr;refine cZ (Gh.back0 2 [11] gM rfl hy) ?_;cbv;refine cZ (Gh.adopt 6 58 14 rfl) ?_;cbv;refine cZ (Gh.plain 12 rfl) ?_;cbv
    (refine .q9 ?_;cbv;exact .inl (.f9 hK))
theorem NZ (q:AQ):(∃e,e≠0∧sK q=(q.C,q.d,[],e))∨∃R D,sK q=({ q.C with reg:=R },sB 2 q.d,[⟨eS,q.d.seller,0,5,0,eS,eS,eS,0,0,eS,0,[D],[]⟩],0):=by
 by_cases h:gR ⟨q.C.reg,gT q.C.name q.d q.day,q.d.seller⟩≠0
 ·exact .inl ⟨_,h,aF h⟩
 ·exact .inr ⟨_,_,aE h⟩
theorem Lv (P:bI) (hac:bK P 53 Cx) (hmc:dB P 85) (hsa:bK P 85 (qM sK)) (hst:bK P 49 qT):bM P Wq (uQ fun k=>k=5):=by
 intro args H K hc;obtain⟨⟨⟨name,parties,deals,⟨rc,rL⟩,cust,deliv⟩,kind,n,deal,day⟩,rfl,rfl,hp,hK⟩:=hc;refine⟨cK,?_⟩;dsimp only at hp hK⊢;obtain⟨hk,⟨hnd,hfew,hall,hnum,hbx,hbz⟩,hday⟩:=hp;dsimp only at hk hnd hfew hall hnum hbx hbz hday;subst hk;obtain⟨r,hr⟩:∃r,r=lE eU ⟨name,parties,deals,⟨rc,rL⟩,cust,deliv⟩ 5 deal day:=⟨_,rfl⟩
 rw[←hr]at hK;cbv;repeat'((first|refine And.intro ?_ ?_|fail)<;>cbv)
 all_goals
  (refine BB hac () trivial ?_;try dsimp only)
  cbv;repeat'((first|refine And.intro ?_ ?_|fail)<;>cbv)
 all_goals
  refine qN.mk (.inl ⟨0,_,_,by rfl,by rfl,?_⟩);cbv
 all_goals
  refine fC Dp.number (fun _=>rfl) (fun i y hai hy hky=>?_) (fun hai=>?_)<;>try dsimp only at *
  rotate_left
  ·have hr:=hr.trans (Cw (.inl rfl) hai);subst hr;cbv
   all_goals
    refine cZ (Gh.adopt 6 58 14 rfl) ?_;cbv;refine cZ (Gh.plain 11 rfl) ?_;cbv
    (refine .q9 ?_;cbv;exact .inl (.f9 hK))
  ·have hmem:=aC hy;have hn1:=hnum y hmem;have hb1:=hbx y hmem;have hb2:=hbz y hmem;have hr:=hr.trans (Ju (.inl rfl) hai hy);rw[←hky]at hai;have hla2:=Pe (C:=⟨name,parties,deals,⟨rc,rL⟩,cust,deliv⟩) (day:=day) hnd hai hy;rw[hla2]at hr;clear hla2;have hr1:y.state≠1→r=(⟨name,parties,deals,⟨rc,rL⟩,cust,deliv⟩,[],9):=fun h=>hr.trans (aF h)
   obtain⟨q9,hq9⟩:∃q,q=sK ⟨⟨name,parties,deals,⟨rc,rL⟩,cust,deliv⟩,i,y,day⟩:=⟨_,rfl⟩
   have hr2:y.state=1→r=({ q9.1 with deals:=deals.set i q9.2.1 },cF y.number day q9.2.2.1,q9.2.2.2):=fun h=>by rw[hq9];exact hr.trans (aE (fun h2=>h2 h))
   have hor:(∃e,e≠0∧q9=(⟨name,parties,deals,⟨rc,rL⟩,cust,deliv⟩,y,[],e))∨∃R D,q9=(⟨name,parties,deals,R,cust,deliv⟩,sB 2 y,[⟨eS,y.seller,0,5,0,eS,eS,eS,0,0,eS,0,[D],[]⟩],0):=by
    have:=NZ ⟨⟨name,parties,deals,⟨rc,rL⟩,cust,deliv⟩,i,y,day⟩;rw[←hq9]at this;exact this
   clear hr;obtain⟨number,seller,buyer,house,dfrm,dto,dboxes,state,rel⟩:=y;dsimp only at hky hn1 hb1 hb2 hai hr1 hr2 hor;subst hky;cbv;repeat'((first|refine .mk (fun h=>?_) fun h=>?_|refine And.intro ?_ ?_|fail)<;>cbv)
   ·exact hmc
   ·have hr:=hr2 (by assumption);clear hr1 hr2;rcases hor with ⟨e,he,rfl⟩|⟨⟨rc2,M⟩,⟨dk,dn1,di,dfs⟩,rfl⟩
    ·subst hr
     (refine eW hsa (⟨⟨name,parties,deals,⟨rc,rL⟩,cust,deliv⟩,i,⟨number,seller,buyer,house,dfrm,dto,dboxes,state,rel⟩,day⟩:AQ) [0,1,2,3,4,5,6,7,11] ⟨hn1,hfew,hall,hb1,fun b hb=>by have:=hb2 b hb;omega,hday⟩ ?_;try dsimp only)
     rw[←hq9];cbv;repeat'((first|refine .n fun h=>?_|fail)<;>cbv)
     refine cZ (Gh.back 2 [11] gM ⟨number,seller,buyer,house,dfrm,dto,dboxes,state,rel⟩ rfl hy) ?_;cbv;refine cZ (Gh.adopt 6 58 14 rfl) ?_;cbv;refine cZ (Gh.plain 13 rfl) ?_;cbv
     (refine .q9 ?_;cbv;exact .inl (.f9 hK))
    ·replace hr:r=(⟨name,parties,deals.set i (sB 2 ⟨number,seller,buyer,house,dfrm,dto,dboxes,state,rel⟩),⟨rc2,M⟩,cust,deliv⟩,[⟨eS,seller,0,5,0,number,eS,eS,0,day,eS,0,[⟨dk,dn1,di,dfs⟩],[]⟩],0):=hr;subst hr
     (refine eW hsa (⟨⟨name,parties,deals,⟨rc,rL⟩,cust,deliv⟩,i,⟨number,seller,buyer,house,dfrm,dto,dboxes,state,rel⟩,day⟩:AQ) [0,1,2,3,4,5,6,7,11] ⟨hn1,hfew,hall,hb1,fun b hb=>by have:=hb2 b hb;omega,hday⟩ ?_;try dsimp only)
     rw[←hq9];cbv;repeat'((first|refine .y fun h=>?_|fail)<;>cbv)
     (refine eW hst (([⟨eS,seller,0,5,0,eS,eS,eS,0,0,eS,0,[⟨dk,dn1,di,dfs⟩],[]⟩],⟨number,seller,buyer,house,dfrm,dto,dboxes,2,rel⟩,day):List dE×Dp×Int) [12,11] (show (1:Nat)≤1000 by decide) ?_;try dsimp only)
     cbv;refine cZ (Gh.back 2 [11] gM ⟨number,seller,buyer,house,dfrm,dto,dboxes,2,rel⟩ rfl hy) ?_;cbv;refine cZ (Gh.plain 12 rfl) ?_;cbv
     (refine .q9 ?_;cbv;exact .inl (.f9 hK))
   ·have hr:=hr1 (by assumption);clear hr1 hr2;subst hr;refine cZ (Gh.back0 2 [11] gM rfl hy) ?_;cbv;refine cZ (Gh.adopt 6 58 14 rfl) ?_;cbv;refine cZ (Gh.plain 12 rfl) ?_;cbv
    (refine .q9 ?_;cbv;exact .inl (.f9 hK))
theorem MW {P:bI}(hac:bK P 53 Cx) (hm1:dB P 85) (hsa:bK P 85 (qM sK)) (hm2:dB P 86) (hla:bK P 86 (qM Gd)) (hst:bK P 49 qT):bM P Wq (uQ fun _=>True):=by
 intro args H0 K hc;obtain⟨q,h1,h2,⟨-,h4⟩,h5⟩:=hc;by_cases k1:q.kind=5
 ·exact Lv P hac hm1 hsa hst args H0 K ⟨q,h1,h2,⟨k1,h4⟩,h5⟩
 by_cases k2:q.kind=6
 ·exact KM P hac hm2 hla hst args H0 K ⟨q,h1,h2,⟨k2,h4⟩,h5⟩
 exact G3 P hac args H0 K ⟨q,h1,h2,⟨fun h=>by rcases h with h|h<;>contradiction,h4⟩,h5⟩
theorem jR {s:bH}(h:bS s=true):s.size≤16:=by
 rcases aL 16 s.size with h1|h1
 ·rw[fU (.inr h1)]at h;cases h
 ·exact h1
theorem jW.beg {L:List cV}(h:jW L) {x:eJ}(h0:sF L x=0):jW (L++[⟨x.box,[x]⟩]):=by
 unfold sF at h0
 split at h0
 ·cases h0
 rename_i g1
 split at h0
 ·cases h0
 rename_i g2
 split at h0
 ·cases h0
 rename_i g3
 split at h0
 ·cases h0
 rename_i g4;simp only[Bool.or_eq_true,Bool.not_eq_true',not_or,Bool.not_eq_false]at g1;obtain⟨⟨n1,n2⟩,n3⟩:=g1;have hd:x.day≤1048576:=by
  have:gP x.day=true:=by cases hh:gP x.day with|true=>rfl|false=>rw[hh]at g2;exact absurd rfl g2
  unfold gP at this;simp only[aO,decide_eq_true_eq]at this;exact this.2
 have hno:gS cV.box L x.box=none:=by cases hh:gS cV.box L x.box with|none=>rfl|some _=>rw[hh]at g3;exact absurd rfl g3
 refine⟨by rw[aM,List.length_cons,List.length_nil];omega,?_,fun b hb=>?_,fun b hb=>?_,fun b hb=>?_⟩
 ·rw[List.map_append,List.nodup_append];refine⟨h.nd,List.nodup_cons.2 ⟨by simp,.nil⟩,fun a ha b hb=>?_⟩;obtain rfl:b=x.box:=by simpa using hb
  rintro rfl;obtain⟨y,hy,he⟩:=aX.1 ha;exact absurd he (iH hno hy)
 all_goals
  rcases List.mem_append.1 hb with hb|hb
 ·exact h.ne b hb
 ·obtain rfl:b=⟨x.box,[x]⟩:=by simpa using hb
  exact⟨by simp,by simp⟩
 ·exact h.day b hb
 ·obtain rfl:b=⟨x.box,[x]⟩:=by simpa using hb
  intro y hy;obtain rfl:y=x:=by simpa using hy
  exact hd
 ·exact h.sz b hb
 ·obtain rfl:b=⟨x.box,[x]⟩:=by simpa using hb
  refine⟨jR n1,fun y hy=>?_⟩;obtain rfl:y=x:=by simpa using hy
  exact⟨jR n2,jR n3⟩
theorem jW.hand {L:List cV}(h:jW L) {x:eJ}(h0:iF L x=0):jW (iU cV.box L x.box (iC x)):=by
 unfold iF xJ at h0
 split at h0
 ·cases h0
 rename_i g1
 split at h0
 ·cases h0
 rename_i g2;simp only[Bool.or_eq_true,Bool.not_eq_true',not_or,Bool.not_eq_false]at g1;obtain⟨⟨⟨⟨n1,n2⟩,n3⟩,n4⟩,n5⟩:=g1;have hd:x.day≤1048576:=by
  have:gP x.day=true:=by cases hh:gP x.day with|true=>rfl|false=>rw[hh]at g2;exact absurd rfl g2
  unfold gP at this;simp only[aO,decide_eq_true_eq]at this;exact this.2
 split at h0
 ·cases h0
 rename_i b0 hb0;have hlen:b0.hist.length+1≤4096:=by
  unfold Cj at h0
  split at h0
  ·cases h0
  split at h0
  ·cases h0
  split at h0
  ·cases h0
  split at h0
  ·cases h0
  omega
 have hcase:∀b,b∈iU cV.box L x.box (iC x)→b∈L∨b=iC x b0:=fun b hb=>by
  unfold iU at hb;obtain⟨y,hy,he⟩:=aX.1 hb;by_cases hk:y.box=x.box
  ·rw[aF hk]at he;right;have:y=b0:=by
    have h1:=tE h.nd hy hk;rw[h1]at hb0;cases hb0;rfl
   rw[←he,this]
  ·rw[aE hk]at he;exact .inl (he ▸ hy)
 have hb0m:b0∈L:=(iZ hb0).1;refine⟨by unfold iU;rw[aJ];exact h.few,by rw[rX _ _ (rU x)];exact h.nd,fun b hb=>?_,fun b hb=>?_,fun b hb=>?_⟩
 all_goals
  rcases hcase b hb with hb|rfl
 ·exact h.ne b hb
 ·exact⟨by unfold iC;simp,by unfold iC;rw[aM];exact hlen⟩
 ·exact h.day b hb
 ·intro y hy;rcases List.mem_append.1 hy with hy|hy
  ·exact h.day b0 hb0m y hy
  ·obtain rfl:y=x:=by simpa using hy
   exact hd
 ·exact h.sz b hb
 ·refine⟨(h.sz b0 hb0m).1,fun y hy=>?_⟩;rcases List.mem_append.1 hy with hy|hy
  ·exact(h.sz b0 hb0m).2 y hy
  ·obtain rfl:y=x:=by simpa using hy
   exact⟨jR n3,jR n4⟩
theorem jW.perm {L M:List cV}(h:jW L) (p:L.Perm M):jW M:=⟨by rw[←p.length_eq];exact h.few,(p.map cV.box).nodup_iff.1 h.nd,fun b hb=>h.ne b (p.mem_iff.2 hb),fun b hb=>h.day b (p.mem_iff.2 hb),fun b hb=>h.sz b (p.mem_iff.2 hb)⟩
structure Vi (q:HQ):Prop where
 h:Yw q
 cu:jW q.C.cust
 bx:q.d.boxes.length≤70
def Yp (C:Cr) (old:List cV) (i:Nat) (d:Dp) (ls:List dE):List cG:=[.blk 118 [.str C.name,.hd 1,.ph 2,.ptr 3 0,.ptr 10 0,.hd 7],.map 70 (bJ iK C.parties),.pool 116 (bJ gM C.deals) [(i,.ptr 8 0)],.blk 122 [.str C.reg.carrier,.ph 4],.pool 120 (bJ fM C.reg.bills) [],.blk 174 [.ph 6],.pool 172 (bJ gE old) [],.tip 77 5 (bJ dP C.deliv),.blk 136 (Uj d),.row 58 14 (bJ eD ls),.blk 174 [.ph 11],.pool 172 (bJ gE C.cust) []]
def NY (b:Bool) (C:Cr) (old:List cV) (i:Nat) (d:Dp) (ls:List dE):List cG:=bif b then Yp C old i d ls else MR C i d++[.row 58 14 (bJ eD ls)]
def uN (κ:Int→Prop) (f:HQ→List cV→Bool×Cr×Dp×List dE):dL:=sP (fun q:HQ=>[.ptr 0 0,.ptr 8 0,eD q.l,.i q.day]) (fun q=>MR q.C q.i q.d) (fun q=>κ q.l.kind∧Vi q) (fun q (L0:List cV)=>L0.Perm q.C.cust) (fun _ _=>.hd 9) fun q L0=>NY (f q L0).1 (f q L0).2.1 q.C.cust q.i (f q L0).2.2.1 (f q L0).2.2.2
def oK (q:HQ) (L0:List cV):Bool×Cr×Dp×List dE:=if q.l.frm≠q.d.seller∨q.d.state≠0 then (false,q.C,q.d,[]) else match fF q.C.name q.d q.day L0 q.d.boxes with
 |none=>(false,q.C,q.d,[])
 |some L=>(true,{ q.C with cust:=L },sB 1 q.d,[])
structure YJ (name:bH) (d:Dp) (day:Int) (L:List cV) (bs:List bH) (p:Nat×List cV):Prop where
 le:p.1≤bs.length
 eq:fF name d day L bs=fF name d day p.2 (bs.drop p.1)
 ok:jW p.2
theorem G2 (P:bI) (hcp:bK P 68 Ek) (hbg:bK P 118 HD) (hhn:bK P 43 I3):bM P Zc (uN (fun k=>k=4) oK):=by
 intro args H K hc;obtain⟨⟨⟨name,parties,deals,⟨rc,rL⟩,cust,deliv⟩,i,⟨number,seller,buyer,house,dfrm,dto,dboxes,state,rel⟩,⟨frm,to,lnumber,kind,ack,deal,text,party,index,day0,cur,amt,docs,boxes⟩,day⟩,rfl,rfl,hp,hK⟩:=hc;refine⟨cK,?_⟩;dsimp only at hp hK⊢;obtain⟨hk,⟨hnum,hfew,hall⟩,hcu,hbx⟩:=hp;dsimp only at hk hnum hfew hall hcu hbx;subst hk;obtain⟨d0,hd0⟩:∃d:Dp,d=⟨number,seller,buyer,house,dfrm,dto,dboxes,state,rel⟩:=⟨_,rfl⟩
 have hK0:frm≠seller∨state≠0→K (.hd 9) (MR ⟨name,parties,deals,⟨rc,rL⟩,cust,deliv⟩ i ⟨number,seller,buyer,house,dfrm,dto,dboxes,state,rel⟩++[.row 58 14 (bJ eD [])]):=fun h=>by
  have h1:=hK cust (.refl _);have e:oK ⟨⟨name,parties,deals,⟨rc,rL⟩,cust,deliv⟩,i,⟨number,seller,buyer,house,dfrm,dto,dboxes,state,rel⟩,⟨frm,to,lnumber,4,ack,deal,text,party,index,day0,cur,amt,docs,boxes⟩,day⟩ cust=(false,⟨name,parties,deals,⟨rc,rL⟩,cust,deliv⟩,⟨number,seller,buyer,house,dfrm,dto,dboxes,state,rel⟩,[]):=aF h;rw[e]at h1;exact h1
 have hKn:frm=seller→state=0→∀L0,L0.Perm cust→fF name d0 day L0 dboxes=none→K (.hd 9) (MR ⟨name,parties,deals,⟨rc,rL⟩,cust,deliv⟩ i ⟨number,seller,buyer,house,dfrm,dto,dboxes,state,rel⟩++[.row 58 14 (bJ eD [])]):=fun h0 h1 L0 hp h2=>by
  have h3:=hK L0 hp;have e:oK ⟨⟨name,parties,deals,⟨rc,rL⟩,cust,deliv⟩,i,⟨number,seller,buyer,house,dfrm,dto,dboxes,state,rel⟩,⟨frm,to,lnumber,4,ack,deal,text,party,index,day0,cur,amt,docs,boxes⟩,day⟩ L0=(false,⟨name,parties,deals,⟨rc,rL⟩,cust,deliv⟩,⟨number,seller,buyer,house,dfrm,dto,dboxes,state,rel⟩,[]):=by
   refine(aE (fun h=>h.elim (fun h=>h h0) fun h=>h h1)).trans ?_;show (match fF name ⟨number,seller,buyer,house,dfrm,dto,dboxes,state,rel⟩ day L0 dboxes with|none=>_|some L=>_)=_;rw[←hd0,h2,hd0]
  rw[e]at h3;exact h3
 have hKy:frm=seller→state=0→∀L0,L0.Perm cust→∀L,fF name d0 day L0 dboxes=some L→K (.hd 9) (Yp ⟨name,parties,deals,⟨rc,rL⟩,L,deliv⟩ cust i ⟨number,seller,buyer,house,dfrm,dto,dboxes,1,rel⟩ []):=fun h0 h1 L0 hp L h2=>by
  have h3:=hK L0 hp;have e:oK ⟨⟨name,parties,deals,⟨rc,rL⟩,cust,deliv⟩,i,⟨number,seller,buyer,house,dfrm,dto,dboxes,state,rel⟩,⟨frm,to,lnumber,4,ack,deal,text,party,index,day0,cur,amt,docs,boxes⟩,day⟩ L0=(true,⟨name,parties,deals,⟨rc,rL⟩,L,deliv⟩,⟨number,seller,buyer,house,dfrm,dto,dboxes,1,rel⟩,[]):=by
   refine(aE (fun h=>h.elim (fun h=>h h0) fun h=>h h1)).trans ?_;show (match fF name ⟨number,seller,buyer,house,dfrm,dto,dboxes,state,rel⟩ day L0 dboxes with|none=>_|some L=>_)=_;rw[←hd0,h2,hd0];rfl
  rw[e]at h3;exact h3
 clear hK;cbv;repeat'((first|refine .mk (fun h=>?_) fun h=>?_|fail)<;>cbv)
 rotate_left
 ·have hK:=hK0 (.inr (by assumption));refine cZ (Gh.adopt 8 58 14 rfl) ?_;cbv
  (refine .q9 ?_;cbv;exact .inl (eY.sel [0,1,2,3,4,5,6,7,8,10] _ _ (by rfl) (by rfl) (by decide) (by rfl) cK (by rfl) (by rfl) (Le.refl _) (kD.refl _) hK))
 ·have hK:=hK0 (.inl (by assumption));refine cZ (Gh.adopt 8 58 14 rfl) ?_;cbv
  (refine .q9 ?_;cbv;exact .inl (eY.sel [0,1,2,3,4,5,6,7,8,10] _ _ (by rfl) (by rfl) (by decide) (by rfl) cK (by rfl) (by rfl) (Le.refl _) (kD.refl _) hK))
 refine cW hcp cust [5,6] hcu rfl rfl (by decide) rfl rfl rfl rfl rfl ?_;intro L1 hp1;have hKn:=hKn (by assumption) (by assumption) L1 hp1;have hKy:=hKy (by assumption) (by assumption) L1 hp1;obtain⟨n,hn⟩:∃n:Nat,n=dboxes.length:=⟨_,rfl⟩
 have hds:d0.seller=seller:=by rw[hd0]
 have hdf:d0.frm=dfrm:=by rw[hd0]
 clear hd0;cbv;repeat'((first|refine .k fun z hz=>?_|fail)<;>cbv)
 refine bU [] (fun p:{ p:Nat×List cV // YJ name d0 day L1 dboxes p }=>[(36,.i (nI p.1.1))]) (fun p=>[.blk 118 [.str name,.hd 1,.ph 2,.ptr 3 0,.ptr 5 0,.hd 7],.map 70 (bJ iK parties),.pool 116 (bJ gM deals) [(i,.ptr 8 0)],.blk 122 [.str rc,.ph 4],.pool 120 (bJ fM rL) [],.blk 174 [.ph 6],.pool 172 (bJ gE cust) [],.tip 77 5 (bJ dP deliv),.blk 136 [.str number,.str seller,.str buyer,.str house,.str dfrm,.str dto,.sl 1 (bJ .str dboxes),.i state,.bl rel],.blk 58 [.str frm,.str to,.i lnumber,.i 4,.i ack,.str deal,.str text,.str party,.i index,.i day0,.str cur,.i amt,.sl 4 (bJ tW docs),.sl 1 (bJ .str boxes)],.blk 174 [.ph 11],.pool 172 (bJ gE p.1.2) []]) (fun p=>fO n p.1.1) ⟨(0,L1),⟨aI _,rfl,hcu.perm hp1.symm⟩⟩ ?_;rintro ⟨⟨k,Lk⟩,⟨hk,heq,hcuk⟩⟩;dsimp only at hk heq hcuk⊢;rcases aL k dboxes.length with hks|hks
 rotate_left
 ·rw[List.drop_of_length_le hks]at heq;have hK:=hKy Lk heq;cbv;repeat'((first|refine .n fun h=>?_|fail)<;>cbv)
  refine cZ (Gh.adopt 8 58 14 rfl) ?_;cbv
  (refine .q9 ?_;cbv;exact .inl (eY.sel [0,1,2,3,4,5,6,7,8,12,10,11] _ _ (by rfl) (by rfl) (by decide) (by rfl) cK (by rfl) (by rfl) (Le.refl _) (kD.refl _) hK))
 obtain⟨b,hx⟩:=cJ hks;have hdr:dboxes.drop k=b :: dboxes.drop (k+1):=by
  obtain⟨h1,rfl⟩:=aA.1 hx;exact List.drop_eq_getElem_cons h1
 obtain⟨e1,he1⟩:∃e,e=sF Lk ⟨b,eS,seller,dfrm,day⟩:=⟨_,rfl⟩
 obtain⟨M1,hM1⟩:∃M,M=PX Lk ⟨b,eS,seller,dfrm,day⟩:=⟨_,rfl⟩
 obtain⟨e2,he2⟩:∃e,e=iF M1 ⟨b,seller,name,dfrm,day⟩:=⟨_,rfl⟩
 obtain⟨M2,hM2⟩:∃M,M=OD M1 ⟨b,seller,name,dfrm,day⟩:=⟨_,rfl⟩
 have hs1:e1≠0→fF name d0 day L1 dboxes=none:=fun h=>by
  rw[heq,hdr];refine aF ?_;show sF Lk ⟨b,eS,d0.seller,d0.frm,day⟩≠0;rw[hds,hdf,←he1];exact h
 have hc1:e1=0→M1=Lk++[⟨b,[⟨b,eS,seller,dfrm,day⟩]⟩]∧jW M1:=fun h=>by
  have h1:M1=Lk++[⟨b,[⟨b,eS,seller,dfrm,day⟩]⟩]:=by rw[hM1];exact aF (he1.symm.trans h)
  exact⟨h1,by rw[h1];exact hcuk.beg (he1.symm.trans h)⟩
 have hs2:e1=0→fF name d0 day L1 dboxes=if e2≠0 then none else fF name d0 day (iU cV.box M1 b (iC ⟨b,seller,name,dfrm,day⟩)) (dboxes.drop (k+1)):=fun h=>by
  rw[heq,hdr];refine(aE (fun h2=>h2 ?_)).trans ?_
  rotate_left
  ·show sF Lk ⟨b,eS,d0.seller,d0.frm,day⟩=0;rw[hds,hdf,←he1];exact h
  ·rw[he2,(hc1 h).1];show (if iF (Lk++[⟨b,[⟨b,eS,d0.seller,d0.frm,day⟩]⟩]) ⟨b,d0.seller,name,d0.frm,day⟩≠0 then none else fF name d0 day (iU cV.box (Lk++[⟨b,[⟨b,eS,d0.seller,d0.frm,day⟩]⟩]) b (iC ⟨b,d0.seller,name,d0.frm,day⟩)) (dboxes.drop (k+1)))=_;rw[hds,hdf]
 have hc2:e1=0→e2=0→M2=iU cV.box M1 b (iC ⟨b,seller,name,dfrm,day⟩)∧jW M2:=fun h h'=>by
  have h1:M2=iU cV.box M1 b (iC ⟨b,seller,name,dfrm,day⟩):=by rw[hM2];exact aF (he2.symm.trans h')
  exact⟨h1,by rw[h1];exact(hc1 h).2.hand (x:=⟨b,seller,name,dfrm,day⟩) (he2.symm.trans h')⟩
 clear heq hdr;cbv;repeat'((first|refine .e ?_|refine .y fun h=>?_|fail)<;>cbv)
 (refine eW hbg ((Lk,⟨b,eS,seller,dfrm,day⟩):List cV×eJ) [10,11] ⟨hcuk,rfl⟩ ?_;try dsimp only)
 rw[←he1,←hM1];cbv;repeat'((first|refine .mk (fun h=>?_) fun h=>?_|fail)<;>cbv)
 all_goals first
 |(have hK:=hKn (hs1 (by assumption))
   refine cZ (Gh.adopt 8 58 14 rfl) ?_;cbv
   (refine .q9 ?_;cbv;exact .inl (eY.sel [0,1,2,3,4,5,6,7,8,12] _ _ (by rfl) (by rfl) (by decide) (by rfl) cK (by rfl) (by rfl) (Le.refl _) (kD.refl _) hK)))
 |skip
 obtain⟨hm1,hcu1⟩:=hc1 (by assumption);have hs2:=hs2 (by assumption);have hc2:=hc2 (by assumption);clear hm1 hM1
 (refine eW hhn ((M1,⟨b,seller,name,dfrm,day⟩):List cV×eJ) [10,11] hcu1 ?_;try dsimp only)
 rw[←he2,←hM2];cbv;repeat'((first|refine .mk (fun h=>?_) fun h=>?_|refine .k fun z hz=>?_|fail)<;>cbv)
 all_goals first
 |(rw[aF (by assumption)]at hs2
   have hK:=hKn hs2;refine cZ (Gh.adopt 8 58 14 rfl) ?_;cbv
   (refine .q9 ?_;cbv;exact .inl (eY.sel [0,1,2,3,4,5,6,7,8,12] _ _ (by rfl) (by rfl) (by decide) (by rfl) cK (by rfl) (by rfl) (Le.refl _) (kD.refl _) hK)))
 |skip
 obtain⟨hm2,hcu2⟩:=hc2 (by assumption);rw[aE (fun h=>h (by assumption)),←hm2]at hs2;clear hm2 hM2;obtain rfl:z=nI (k+1):=bQ;exact bN ⟨(k+1,M2),⟨hks,hs2,hcu2⟩⟩ (bO (by omega))
structure Ve (q:HQ):Prop where
 h:Vi q
 dl:q.C.deliv.length≤40000
def AU (κ:Int→Prop) (f:HQ→List cV→Bool×Cr×Dp×List dE):dL:=sP (fun q:HQ=>[.ptr 0 0,.ptr 8 0,eD q.l,.i q.day]) (fun q=>MR q.C q.i q.d) (fun q=>κ q.l.kind∧Ve q) (fun q (L0:List cV)=>L0.Perm q.C.cust) (fun _ _=>.hd 9) fun q L0=>NY (f q L0).1 (f q L0).2.1 q.C.cust q.i (f q L0).2.2.1 (f q L0).2.2.2
def pV (q:HQ) (L0:List cV):Bool×Cr×Dp×List dE:=if q.d.state≠3∨q.d.rel=false then (false,q.C,q.d,eV fL q.l) else match eR (cS q.C.name q.l.frm q.d.to q.day) L0 q.d.boxes with
 |none=>(false,q.C,q.d,eV fL q.l)
 |some L=>if jL q.C.reg (cI 2 q.d q.l q.day)≠0 then (false,q.C,q.d,eV fL q.l) else (true,{ q.C with cust:=L,deliv:=q.C.deliv++q.d.boxes.map (cS q.C.name q.l.frm q.d.to q.day),reg:=vS q.C.reg (cI 2 q.d q.l q.day) },sB 4 q.d,[{ nJ with to:=q.l.frm,kind:=21,boxes:=q.d.boxes }])
theorem Nt {R:Rg}{d:Dp}{l:dE}{day:Int}:jL R (cI 2 d l day)=eI R.bills ⟨gI d.number,l.index,0,l.frm,0,day,true,false⟩:=rfl
structure YQ (f:bH→eJ) (L:List cV) (bs:List bH) (p:Nat×List cV):Prop where
 le:p.1≤bs.length
 eq:eR f L bs=eR f p.2 (bs.drop p.1)
 ok:jW p.2
theorem yO (P:bI) (hcp:bK P 68 Ek) (hhn:bK P 43 I3) (hb:bK P 120 CH) (hsu:bK P 122 sU) (hc1:bK P 87 (mJ 1 16)) (ho:bK P 121 Ks):bM P Zx (AU (fun k=>k=20) pV):=by
 intro args H K hc;obtain⟨⟨⟨name,parties,deals,⟨rc,rL⟩,cust,deliv⟩,i,⟨number,seller,buyer,house,dfrm,dto,dboxes,state,rel⟩,⟨frm,to,lnumber,kind,ack,deal,text,party,index,day0,cur,amt,docs,boxes⟩,day⟩,rfl,rfl,hp,hK⟩:=hc;refine⟨cK,?_⟩;dsimp only at hp hK⊢;obtain⟨hk,⟨⟨hnum,hfew,hall⟩,hcu,hbx⟩,hdl⟩:=hp;dsimp only at hk hnum hfew hall hcu hbx hdl;subst hk;have hok:mM 20:=by unfold mM;decide
 obtain⟨bn,hbn⟩:∃b,b=gI number:=⟨_,rfl⟩
 obtain⟨e,he⟩:∃e,e=eI rL ⟨bn,index,0,frm,0,day,true,false⟩:=⟨_,rfl⟩
 obtain⟨M,hM⟩:∃M,M=fZ rL ⟨bn,index,0,frm,0,day,true,false⟩ (S4 ⟨bn,index,0,frm,0,day,true,false⟩):=⟨_,rfl⟩
 have hM0:e≠0→M=rL:=fun h=>by rw[hM];exact aE (he ▸ h)
 obtain⟨f,hf⟩:∃f,f=cS name frm dto day:=⟨_,rfl⟩
 obtain⟨T,hT⟩:∃T,T=dboxes.map f:=⟨_,rfl⟩
 have hKo:(state≠3∨rel=false)∨(∃L0,L0.Perm cust∧(eR f L0 dboxes=none∨e≠0))→K (.hd 9) (MR ⟨name,parties,deals,⟨rc,rL⟩,cust,deliv⟩ i ⟨number,seller,buyer,house,dfrm,dto,dboxes,state,rel⟩++[.row 58 14 (bJ eD (eV fL ⟨frm,to,lnumber,20,ack,deal,text,party,index,day0,cur,amt,docs,boxes⟩))]):=fun h=>by
  have hg:∃L0,L0.Perm cust∧pV ⟨⟨name,parties,deals,⟨rc,rL⟩,cust,deliv⟩,i,⟨number,seller,buyer,house,dfrm,dto,dboxes,state,rel⟩,⟨frm,to,lnumber,20,ack,deal,text,party,index,day0,cur,amt,docs,boxes⟩,day⟩ L0=(false,⟨name,parties,deals,⟨rc,rL⟩,cust,deliv⟩,⟨number,seller,buyer,house,dfrm,dto,dboxes,state,rel⟩,eV fL ⟨frm,to,lnumber,20,ack,deal,text,party,index,day0,cur,amt,docs,boxes⟩):=by
   rcases h with h|⟨L0,hp,h⟩
   ·exact⟨cust,.refl _,aF h⟩
   ·refine⟨L0,hp,?_⟩;by_cases h1:state≠3∨rel=false
    ·exact aF h1
    ·refine(aE h1).trans ?_;show (match eR (cS name frm dto day) L0 dboxes with|none=>_|some L=>if _ then _ else _)=_;rw[←hf];cases hL:eR f L0 dboxes with
     |none=>rfl
     |some L=>
      refine aF ?_;rw[Nt];show eI rL ⟨gI number,index,0,frm,0,day,true,false⟩≠0;rw[←hbn,←he];rcases h with h|h
      ·rw[hL]at h;cases h
      ·exact h
  obtain⟨L0,hp,h3⟩:=hg;have h4:=hK L0 hp;rw[h3]at h4;exact h4
 have hKy:state=3→rel=true→e=0→∀L0,L0.Perm cust→∀L,eR f L0 dboxes=some L→K (.hd 9) (Yp ⟨name,parties,deals,⟨rc,M⟩,L,deliv++T⟩ cust i ⟨number,seller,buyer,house,dfrm,dto,dboxes,4,rel⟩ [⟨eS,frm,0,21,0,eS,eS,eS,0,0,eS,0,[],dboxes⟩]):=fun h1 h2 h3 L0 hp L h4=>by
  have h5:=hK L0 hp;have h6:pV ⟨⟨name,parties,deals,⟨rc,rL⟩,cust,deliv⟩,i,⟨number,seller,buyer,house,dfrm,dto,dboxes,state,rel⟩,⟨frm,to,lnumber,20,ack,deal,text,party,index,day0,cur,amt,docs,boxes⟩,day⟩ L0=(true,⟨name,parties,deals,⟨rc,M⟩,L,deliv++T⟩,⟨number,seller,buyer,house,dfrm,dto,dboxes,4,rel⟩,[⟨eS,frm,0,21,0,eS,eS,eS,0,0,eS,0,[],dboxes⟩]):=by
   refine(aE (fun h=>h.elim (fun h=>h h1) (fun h=>by rw[h2]at h;cases h))).trans ?_;show (match eR (cS name frm dto day) L0 dboxes with|none=>_|some L=>if _ then _ else _)=_;rw[←hf,h4];refine(aE (fun h=>h ?_)).trans ?_
   rotate_left
   ·rw[Nt];show eI rL ⟨gI number,index,0,frm,0,day,true,false⟩=0;rw[←hbn,←he];exact h3
   ·rw[hM,hT,hbn,hf];rfl
  rw[h6]at h5;exact h5
 clear hK;obtain⟨DT,hDT⟩:∃D,D=deliv++T:=⟨_,rfl⟩
 rw[←hDT]at hKy;have hTl:T.length≤70:=by rw[hT,aJ];exact hbx
 obtain⟨n,hn⟩:∃n:Nat,n=dboxes.length:=⟨_,rfl⟩
 cases rel with
 |false=>
  have hK:=hKo (.inl (.inr rfl));cbv;repeat'((first|refine .mk (fun h=>?_) fun h=>?_|fail)<;>cbv)
  all_goals
    (refine BB ho (⟨frm,to,lnumber,20,ack,deal,text,party,index,day0,cur,amt,docs,boxes⟩:dE) hok ?_;try dsimp only)
    cbv
    (refine .q9 ?_;cbv;exact .inl (eY.sel [0,1,2,3,4,5,6,7,8,10] _ _ (by rfl) (by rfl) (by decide) (by rfl) cK (by rfl) (by rfl) (Le.refl _) (kD.refl _) hK))
 |true=>
  cbv;repeat'((first|refine .mk (fun h=>?_) fun h=>?_|fail)<;>cbv)
  rotate_left
  ·have hK:=hKo (.inl (.inl (by assumption)))
   all_goals
    (refine BB ho (⟨frm,to,lnumber,20,ack,deal,text,party,index,day0,cur,amt,docs,boxes⟩:dE) hok ?_;try dsimp only)
    cbv
    (refine .q9 ?_;cbv;exact .inl (eY.sel [0,1,2,3,4,5,6,7,8,10] _ _ (by rfl) (by rfl) (by decide) (by rfl) cK (by rfl) (by rfl) (Le.refl _) (kD.refl _) hK))
  refine cW hcp cust [5,6] hcu rfl rfl (by decide) rfl rfl rfl rfl rfl ?_;intro L1 hp1;have hKo:eR f L1 dboxes=none∨e≠0→_:=fun h=>hKo (.inr ⟨L1,hp1,h⟩)
  have hKy:=fun h=>hKy (by assumption) rfl h L1 hp1
  have hfb:∀b,f b=⟨b,name,frm,dto,day⟩:=fun b=>by rw[hf];rfl
  clear hf;cbv;repeat'((first|refine .k fun z hz=>?_|fail)<;>cbv)
  refine iL (Gh.adopt 10 77 5 rfl) ?_;cbv;refine bU [12] (fun p:{ p:Nat×List cV // YQ f L1 dboxes p }=>[(10,.hd 12),(40,.i (nI p.1.1))]) (fun p=>[.blk 118 [.str name,.hd 1,.ph 2,.ptr 3 0,.ptr 5 0,.hd 7],.map 70 (bJ iK parties),.pool 116 (bJ gM deals) [(i,.ptr 8 0)],.blk 122 [.str rc,.ph 4],.pool 120 (bJ fM rL) [],.blk 174 [.ph 6],.pool 172 (bJ gE cust) [],.tip 77 5 (bJ dP deliv),.blk 136 [.str number,.str seller,.str buyer,.str house,.str dfrm,.str dto,.sl 1 (bJ .str dboxes),.i state,.bl true],.blk 58 [.str frm,.str to,.i lnumber,.i 20,.i ack,.str deal,.str text,.str party,.i index,.i day0,.str cur,.i amt,.sl 4 (bJ tW docs),.sl 1 (bJ .str boxes)],.blk 174 [.ph 11],.pool 172 (bJ gE p.1.2) [],.row 77 5 (bJ dP (T.take p.1.1))]) (fun p=>fO n p.1.1) ⟨(0,L1),⟨aI _,rfl,hcu.perm hp1.symm⟩⟩ ?_;rintro ⟨⟨k,Lk⟩,⟨hk,heq,hcuk⟩⟩;dsimp only at hk heq hcuk⊢;rcases aL k dboxes.length with hks|hks
  rotate_left
  ·rw[List.drop_of_length_le hks]at heq;have hKy:=fun h=>hKy h Lk heq
   have eT:T.take k=T:=bC (by rw[hT,aJ];exact hks);rw[eT];clear heq eT;cbv;repeat'((first|refine .n fun h=>?_|fail)<;>cbv)
   (refine eW hb (⟨number,seller,buyer,house,dfrm,dto,dboxes,state,true⟩:Dp) [8] hnum ?_;try dsimp only)
   rw[←hbn];cbv;obtain⟨bm,hbm⟩:∃b,b=Qm rL ⟨bn,index,0,frm,0,day,true,false⟩:=⟨_,rfl⟩
   (refine eW hsu ((⟨rc,rL⟩,⟨bn,index,0,frm,0,day,true,false⟩):Rg×Ak) [3,4] ⟨hall,rfl,rfl,rfl,rfl⟩ ?_;try dsimp only)
   rw[←he,←hM,←hbm];clear hbm;cbv;repeat'((first|refine .mk (fun h=>?_) fun h=>?_|refine .l fun ys hys hyl=>?_|fail)<;>cbv)
   all_goals first
   |(have hK:=hKo (.inr (by assumption))
     obtain rfl:M=rL:=hM0 (by assumption)
     (refine BB ho (⟨frm,to,lnumber,20,ack,deal,text,party,index,day0,cur,amt,docs,boxes⟩:dE) hok ?_;try dsimp only)
     cbv
     (refine .q9 ?_;cbv;exact .inl (eY.sel [0,1,2,3,4,5,6,7,8,13] _ _ (by rfl) (by rfl) (by decide) (by rfl) cK (by rfl) (by rfl) (Le.refl _) (kD.refl _) hK)))
   |skip
   all_goals
    have hK:=hKy (by assumption);obtain rfl:ys=DT:=by rw[hys,hDT]
    (refine ZO hc1 _ ⟨by rw[cC];unfold maxLen;omega,by rw[cC];omega⟩ ?_;try dsimp only)
    cbv
   all_goals
    refine cZ (Gh.leAt 13 (.row 58 14 (bJ eD [⟨eS,frm,0,21,0,eS,eS,eS,0,0,eS,0,[],dboxes⟩])) rfl (tL Bx)) ?_;cbv
    (refine .q9 ?_;cbv;exact .inl (eY.sel [0,1,2,3,4,5,6,7,8,13,10,11] _ _ (by rfl) (by rfl) (by decide) (by rfl) cK (by rfl) (by rfl) (Le.refl _) (kD.refl _) hK))
  obtain⟨b,hx⟩:=cJ hks;have hdr:dboxes.drop k=b :: dboxes.drop (k+1):=by
   obtain⟨h1,rfl⟩:=aA.1 hx;exact List.drop_eq_getElem_cons h1
  obtain⟨e2,he2⟩:∃e,e=iF Lk ⟨b,name,frm,dto,day⟩:=⟨_,rfl⟩
  obtain⟨M2,hM2⟩:∃M,M=OD Lk ⟨b,name,frm,dto,day⟩:=⟨_,rfl⟩
  have hs2:eR f L1 dboxes=if e2≠0 then none else eR f (iU cV.box Lk b (iC ⟨b,name,frm,dto,day⟩)) (dboxes.drop (k+1)):=by
   rw[heq,hdr,he2];show (if iF Lk (f b)≠0 then none else eR f (iU cV.box Lk (f b).box (iC (f b))) (dboxes.drop (k+1)))=_;rw[hfb]
  have hc2:e2=0→M2=iU cV.box Lk b (iC ⟨b,name,frm,dto,day⟩)∧jW M2:=fun h=>by
   have h1:M2=iU cV.box Lk b (iC ⟨b,name,frm,dto,day⟩):=by rw[hM2];exact aF (he2.symm.trans h)
   exact⟨h1,by rw[h1];exact hcuk.hand (x:=⟨b,name,frm,dto,day⟩) (he2.symm.trans h)⟩
  have hT2:T.take (k+1)=T.take k++[⟨b,name,frm,dto,day⟩]:=by
   rw[hT,←List.map_take,←List.map_take,dO hx,List.map_append];simp[hfb]
  obtain⟨Tk,hTk⟩:∃t,t=T.take k:=⟨_,rfl⟩
  have hTkl:Tk.length≤70:=by rw[hTk,aS];omega
  rw[←hTk]at hT2⊢;clear heq hdr hTk;cbv;repeat'((first|refine .e ?_|refine .y fun h=>?_|fail)<;>cbv)
  (refine eW hhn ((Lk,⟨b,name,frm,dto,day⟩):List cV×eJ) [10,11] hcuk ?_;try dsimp only)
  rw[←he2,←hM2];cbv;repeat'((first|refine .mk (fun h=>?_) fun h=>?_|refine .k fun z hz=>?_|refine .zl fun zs hzs hzl=>?_|fail)<;>cbv)
  all_goals first
  |(rw[aF (by assumption)]at hs2
    have hK:=hKo (.inl hs2)
    (refine BB ho (⟨frm,to,lnumber,20,ack,deal,text,party,index,day0,cur,amt,docs,boxes⟩:dE) hok ?_;try dsimp only)
    cbv
    (refine .q9 ?_;cbv;exact .inl (eY.sel [0,1,2,3,4,5,6,7,8,14] _ _ (by rfl) (by rfl) (by decide) (by rfl) cK (by rfl) (by rfl) (Le.refl _) (kD.refl _) hK)))
  |skip
  obtain⟨hm2,hcu2⟩:=hc2 (by assumption);rw[aE (fun h=>h (by assumption)),←hm2]at hs2;clear hm2 hM2;obtain rfl:z=nI (k+1):=bQ;obtain rfl:zs=bJ dP (T.take (k+1)):=by(rw[hT2,bW,cD];exact hzs)
  exact bN ⟨(k+1,M2),⟨hks,hs2,hcu2⟩⟩ (bO (by omega))
def XN (C:Cr) (old:List cV):List cG:=[.blk 118 [.str C.name,.hd 1,.ph 2,.ptr 3 0,.ptr 8 0,.hd 7],.map 70 (bJ iK C.parties),.pool 116 (bJ gM C.deals) [],.blk 122 [.str C.reg.carrier,.ph 4],.pool 120 (bJ fM C.reg.bills) [],.blk 174 [.ph 6],.pool 172 (bJ gE old) [],.tip 77 5 (bJ dP C.deliv),.blk 174 [.ph 9],.pool 172 (bJ gE C.cust) []]
def ON (b:Bool) (C:Cr) (old:List cV):List cG:=bif b then XN C old else yY C
def gD (q:HQ) (L0:List cV):Bool×Cr×Dp×List dE:=
 if q.l.kind=4 then oK q L0 else if q.l.kind=8 then (false,nB q) else if q.l.kind=20 then pV q L0 else if q.l.kind=19 then (false,BW q) else if q.l.kind=23 then (false,qL q) else if q.l.kind=24 then (false,qY q) else (false,q.C,q.d,[])
def gG (C:Cr) (l:dE) (day:Int) (L0:List cV):Bool×Cr×List dE:=match lI Dp.number C.deals l.deal with
 |none=>(false,C,[])
 |some i=>match C.deals[i]? with
  |none=>(false,C,[])
  |some d=>if kC C.parties l.frm=false then (false,C,[]) else
   ((gD ⟨C,i,d,l,day⟩ L0).1,{ (gD ⟨C,i,d,l,day⟩ L0).2.1 with deals:=C.deals.set i (gD ⟨C,i,d,l,day⟩ L0).2.2.1 },cF d.number day (gD ⟨C,i,d,l,day⟩ L0).2.2.2)
structure TQ where
 C:Cr
 l:dE
 day:Int
structure Tn (q:TQ):Prop where
 c:Tv q.C
 cu:jW q.C.cust
 dl:q.C.deliv.length≤40000
def nP (κ:Int→Prop):dL:=sP (fun q:TQ=>[.ptr 0 0,eD q.l,.i q.day]) (fun q=>yY q.C) (fun q=>κ q.l.kind∧Tn q) (fun q (L0:List cV)=>L0.Perm q.C.cust) (fun q L0=>.sl 14 (bJ eD (gG q.C q.l q.day L0).2.2)) fun q L0=>ON (gG q.C q.l q.day L0).1 (gG q.C q.l q.day L0).2.1 q.C.cust
theorem oZ {C:Cr}{l:dE}{day:Int}{L0:List cV}(h:lI Dp.number C.deals l.deal=none):gG C l day L0=(false,C,[]):=by unfold gG;rw[h]
theorem rP {C:Cr}{l:dE}{day:Int}{L0:List cV}(h:kC C.parties l.frm=false):gG C l day L0=(false,C,[]):=by
 unfold gG
 split
 ·rfl
 ·split
  ·rfl
  ·rw[aF h]
theorem FV {C:Cr}{l:dE}{day:Int}{L0:List cV}{i:Nat}{d:Dp}(h:lI Dp.number C.deals l.deal=some i) (hd:C.deals[i]?=some d) (hp:kC C.parties l.frm=true) {b:Bool}{R:Rg}{cu:List cV}{dl:List eJ}{d2:Dp}{ls:List dE}
  (hk:gD ⟨C,i,d,l,day⟩ L0=(b,⟨C.name,C.parties,C.deals,R,cu,dl⟩,d2,ls)):gG C l day L0=(b,⟨C.name,C.parties,C.deals.set i d2,R,cu,dl⟩,cF d.number day ls):=by
 unfold gG;rw[h];dsimp only;rw[hd];dsimp only;rw[aE (by rw[hp];decide),hk]
def Az (q:HQ) (r:Cr×Dp×List dE):Prop:=∃R cu dl st rl ls,r=(⟨q.C.name,q.C.parties,q.C.deals,R,cu,dl⟩,⟨q.d.number,q.d.seller,q.d.buyer,q.d.house,q.d.frm,q.d.to,q.d.boxes,st,rl⟩,ls)∧ls.length≤1000
theorem Hs (q:HQ):Az q (BW q):=by
 unfold BW
 split
 ·exact⟨_,_,_,_,_,_,rfl,aI _⟩
 ·exact⟨_,_,_,_,_,_,rfl,aI _⟩
theorem EP (q:HQ):Az q (qL q):=by
 by_cases h:jL q.C.reg (cI 3 q.d q.l q.day)=0
 ·rw[vX h];exact⟨_,_,_,_,_,_,rfl,aI _⟩
 ·rw[Bq h];exact⟨_,_,_,_,_,_,rfl,(show (1:Nat)≤1000 by decide)⟩
theorem EG (q:HQ):Az q (qY q):=by
 by_cases h:jL q.C.reg (cI 4 q.d q.l q.day)=0
 ·rw[xB h];exact⟨_,_,_,_,_,_,rfl,(show (1:Nat)≤1000 by decide)⟩
 ·rw[AN h];exact⟨_,_,_,_,_,_,rfl,(show (1:Nat)≤1000 by decide)⟩
theorem F6 (q:HQ):Az q (nB q):=by
 by_cases h:kC q.C.parties q.l.party=false∨q.l.party=q.l.frm∨jL q.C.reg (cI 1 q.d q.l q.day)≠0
 ·rw[AJ h];exact⟨_,_,_,_,_,_,rfl,(show (1:Nat)≤1000 by decide)⟩
 ·have e:nB q=(({ q.C with reg:=vS q.C.reg (cI 1 q.d q.l q.day) },q.d,[{ nJ with to:=q.l.party,kind:=9,index:=q.l.index,party:=q.l.party }])):=by
   have:yQ fL q.C q.d q.l q.day=({ q.C with reg:=vS q.C.reg (cI 1 q.d q.l q.day) },[{ nJ with to:=q.l.party,kind:=9,index:=q.l.index,party:=q.l.party }]):=aE h;unfold nB;rw[this]
  rw[e];exact⟨_,_,_,_,_,_,rfl,(show (1:Nat)≤1000 by decide)⟩
theorem FH (q:HQ) (L0:List cV):Az q (oK q L0).2:=by
 unfold oK
 split
 ·exact⟨_,_,_,_,_,_,rfl,aI _⟩
 ·split
  ·exact⟨_,_,_,_,_,_,rfl,aI _⟩
  ·exact⟨_,_,_,_,_,_,rfl,aI _⟩
theorem ED (q:HQ) (L0:List cV):Az q (pV q L0).2:=by
 unfold pV
 split
 ·exact⟨_,_,_,_,_,_,rfl,(show (1:Nat)≤1000 by decide)⟩
 ·split
  ·exact⟨_,_,_,_,_,_,rfl,(show (1:Nat)≤1000 by decide)⟩
  ·split
   ·exact⟨_,_,_,_,_,_,rfl,(show (1:Nat)≤1000 by decide)⟩
   ·exact⟨_,_,_,_,_,_,rfl,(show (1:Nat)≤1000 by decide)⟩
theorem Hx (P:bI) (hle:bK P 48 rE) (hst:bK P 49 qT):bM P X2 (nP fun k=>¬(k=4∨k=8∨k=20∨k=19∨k=23∨k=24)):=by
 intro args H K hc;obtain⟨⟨⟨name,parties,deals,⟨rc,rL⟩,cust,deliv⟩,⟨frm,to,lnumber,kind,ack,deal,text,party,index,day0,cur,amt,docs,boxes⟩,day⟩,rfl,rfl,hp,hK⟩:=hc;refine⟨cK,?_⟩;dsimp only at hp hK⊢;obtain⟨hk,⟨hnd,hfew,hall,hnum,hbx,hbz⟩,hcu,hdl⟩:=hp;dsimp only at hk hnd hfew hall hnum hbx hbz hcu hdl;have hKn:∀L0,L0.Perm cust→gG ⟨name,parties,deals,⟨rc,rL⟩,cust,deliv⟩ ⟨frm,to,lnumber,kind,ack,deal,text,party,index,day0,cur,amt,docs,boxes⟩ day L0=(false,⟨name,parties,deals,⟨rc,rL⟩,cust,deliv⟩,[])→K (.sl 14 []) (yY ⟨name,parties,deals,⟨rc,rL⟩,cust,deliv⟩):=fun L0 hp h=>by
  have:=hK L0 hp;rw[h]at this;exact this
 cbv
 all_goals
  refine fC Dp.number (fun _=>rfl) (fun i y hai hy hky=>?_) (fun hai=>?_)<;>try dsimp only at *
  rotate_left
  ·have hK:=hKn cust (.refl _) (oZ hai);cbv
   all_goals
    refine cZ (Gh.adopt 6 58 14 rfl) ?_;cbv;refine cZ (Gh.plain 9 rfl) ?_;cbv
    (refine .q9 ?_;cbv;exact .inl (.f9 hK))
  have hn1:=hnum y (aC hy);have hb1:=hbx y (aC hy);have htx:kC parties frm=true→∀L0,L0.Perm cust→∀b R cu dl d2 ls,gD ⟨⟨name,parties,deals,⟨rc,rL⟩,cust,deliv⟩,i,y,⟨frm,to,lnumber,kind,ack,deal,text,party,index,day0,cur,amt,docs,boxes⟩,day⟩ L0=(b,⟨name,parties,deals,R,cu,dl⟩,d2,ls)→K (.sl 14 (bJ eD (cF y.number day ls))) (ON b ⟨name,parties,deals.set i d2,R,cu,dl⟩ cust):=fun hp L0 hpm b R cu dl d2 ls hkx=>by
   have h1:=hK L0 hpm;rw[FV hai hy hp hkx]at h1;exact h1
  have htn:kC parties frm=false→K (.sl 14 []) (yY ⟨name,parties,deals,⟨rc,rL⟩,cust,deliv⟩):=fun h=>hKn cust (.refl _) (rP h)
  clear hK hKn;obtain⟨number,seller,buyer,house,dfrm,dto,dboxes,state,rel⟩:=y;dsimp only at hky hn1 hb1 htx;subst hky;cbv
  all_goals
   refine oO (fun j hj=>?_) fun hno=>?_
   rotate_left
   ·have hK:=htn (vO hno);cbv
    all_goals
     refine cZ (Gh.back0 2 [9] gM rfl hy) ?_;cbv;refine cZ (Gh.adopt 6 58 14 rfl) ?_;cbv;refine cZ (Gh.plain 10 rfl) ?_;cbv
     (refine .q9 ?_;cbv;exact .inl (.f9 hK))
   have htx:=htx (CW hj);clear hj htn;cbv
   all_goals
    (refine BB hle () trivial ?_;try dsimp only)
    cbv
   all_goals
    refine qN.mk (.inr ⟨by rw[jI (by omega),jI (by omega),jI (by omega),jI (by omega),jI (by omega),jI (by omega)];rfl,?_⟩);cbv
   all_goals
    have hK:=htx cust (.refl _) false ⟨rc,rL⟩ cust deliv ⟨number,seller,buyer,house,dfrm,dto,dboxes,state,rel⟩ [] (by
     unfold gD;dsimp only;rw[aE (by omega),aE (by omega),aE (by omega),aE (by omega),aE (by omega),aE (by omega)])
    refine cZ (Gh.back 2 [9] gM ⟨number,seller,buyer,house,dfrm,dto,dboxes,state,rel⟩ rfl hy) ?_;cbv;refine cZ (Gh.adopt 6 58 14 rfl) ?_;cbv;refine cZ (Gh.plain 11 rfl) ?_;cbv
    (refine .q9 ?_;cbv;exact .inl (.f9 hK))
def NL (κ:Int) (G:HQ→List cV→Bool×Cr×Dp×List dE):dL:=sP (fun q:HQ=>[.ptr 0 0,.ptr 8 0,eD q.l,.i q.day]) (fun q=>MR q.C q.i q.d) (fun q=>q.l.kind=κ∧Ve q) (fun q (L0:List cV)=>L0.Perm q.C.cust) (fun _ _=>.hd 9) fun q L0=>NY (G q L0).1 (G q L0).2.1 q.C.cust q.i (G q L0).2.2.1 (G q L0).2.2.2
theorem zZ {P:bI}{f:Nat}{κ:Int}{F:HQ→Cr×Dp×List dE}(h:bK P f (gO (fun k=>k=κ) F)):bK P f (NL κ fun q _=>(false,F q)):=fun args H K ⟨q,h1,h2,⟨hk,hp⟩,hK⟩=>h args H K ⟨q,h1,h2,⟨hk,hp.1.1⟩,hK q.C.cust (.refl _)⟩
theorem Py {P:bI}{f:Nat}{κ:Int}{G:HQ→List cV→Bool×Cr×Dp×List dE}(h:bK P f (uN (fun k=>k=κ) G)):bK P f (NL κ G):=fun args H K ⟨q,h1,h2,⟨hk,hp⟩,hK⟩=>h args H K ⟨q,h1,h2,⟨hk,hp.1⟩,hK⟩
theorem lX (P:bI) (hle:bK P 48 rE) (hst:bK P 49 qT) {κ:Int}{f n:Nat}{G:HQ→List cV→Bool×Cr×Dp×List dE}(hmc:dB P f) (hh:bK P f (NL κ G)) (hfi:oQ (.i κ) AX 0=some (some n)) (hln:AX[n]?=some (.i κ,.clo f [])) (hsp:∀q L0,Az q (G q L0).2) (hkx:∀q L0,q.l.kind=κ→gD q L0=G q L0):bM P X2 (nP fun k=>k=κ):=by
 intro args H K hc;obtain⟨⟨⟨name,parties,deals,⟨rc,rL⟩,cust,deliv⟩,⟨frm,to,lnumber,kind,ack,deal,text,party,index,day0,cur,amt,docs,boxes⟩,day⟩,rfl,rfl,hp,hK⟩:=hc;refine⟨cK,?_⟩;dsimp only at hp hK⊢;obtain⟨hk,⟨hnd,hfew,hall,hnum,hbx,hbz⟩,hcu,hdl⟩:=hp;dsimp only at hk hnd hfew hall hnum hbx hbz hcu hdl;subst hk;have hKn:∀L0,L0.Perm cust→gG ⟨name,parties,deals,⟨rc,rL⟩,cust,deliv⟩ ⟨frm,to,lnumber,kind,ack,deal,text,party,index,day0,cur,amt,docs,boxes⟩ day L0=(false,⟨name,parties,deals,⟨rc,rL⟩,cust,deliv⟩,[])→K (.sl 14 []) (yY ⟨name,parties,deals,⟨rc,rL⟩,cust,deliv⟩):=fun L0 hp h=>by
  have:=hK L0 hp;rw[h]at this;exact this
 cbv
 all_goals
  refine fC Dp.number (fun _=>rfl) (fun i y hai hy hky=>?_) (fun hai=>?_)<;>try dsimp only at *
  rotate_left
  ·have hK:=hKn cust (.refl _) (oZ hai);cbv
   all_goals
    refine cZ (Gh.adopt 6 58 14 rfl) ?_;cbv;refine cZ (Gh.plain 9 rfl) ?_;cbv
    (refine .q9 ?_;cbv;exact .inl (.f9 hK))
  have hn1:=hnum y (aC hy);have hb1:=hbx y (aC hy);have htx:kC parties frm=true→∀L0,L0.Perm cust→∀b R cu dl d2 ls,gD ⟨⟨name,parties,deals,⟨rc,rL⟩,cust,deliv⟩,i,y,⟨frm,to,lnumber,kind,ack,deal,text,party,index,day0,cur,amt,docs,boxes⟩,day⟩ L0=(b,⟨name,parties,deals,R,cu,dl⟩,d2,ls)→K (.sl 14 (bJ eD (cF y.number day ls))) (ON b ⟨name,parties,deals.set i d2,R,cu,dl⟩ cust):=fun hp L0 hpm b R cu dl d2 ls hkx=>by
   have h1:=hK L0 hpm;rw[FV hai hy hp hkx]at h1;exact h1
  have htn:kC parties frm=false→K (.sl 14 []) (yY ⟨name,parties,deals,⟨rc,rL⟩,cust,deliv⟩):=fun h=>hKn cust (.refl _) (rP h)
  clear hK hKn;obtain⟨number,seller,buyer,house,dfrm,dto,dboxes,state,rel⟩:=y;dsimp only at hky hn1 hb1 htx;subst hky;cbv
  all_goals
   refine oO (fun j hj=>?_) fun hno=>?_
   rotate_left
   ·have hK:=htn (vO hno);cbv
    all_goals
     refine cZ (Gh.back0 2 [9] gM rfl hy) ?_;cbv;refine cZ (Gh.adopt 6 58 14 rfl) ?_;cbv;refine cZ (Gh.plain 10 rfl) ?_;cbv
     (refine .q9 ?_;cbv;exact .inl (.f9 hK))
   have htx:=htx (CW hj);clear hj htn;cbv
   all_goals
    (refine BB hle () trivial ?_;try dsimp only)
    cbv
   all_goals
    refine qN.mk (.inl ⟨n,_,_,hfi,hln,?_⟩);cbv;repeat'((first|refine And.intro ?_ ?_|fail)<;>cbv)
   all_goals first
   |exact hmc
   |skip
   all_goals
    refine cW hh (⟨⟨name,parties,deals,⟨rc,rL⟩,cust,deliv⟩,i,⟨number,seller,buyer,house,dfrm,dto,dboxes,state,rel⟩,⟨frm,to,lnumber,kind,ack,number,text,party,index,day0,cur,amt,docs,boxes⟩,day⟩:HQ) [0,1,2,3,4,5,6,7,9] ⟨rfl,⟨⟨⟨hn1,hfew,hall⟩,hcu,hb1⟩,hdl⟩⟩ rfl rfl (by decide) rfl rfl rfl rfl rfl ?_;intro L0 hp0;obtain⟨⟨rc2,M⟩,cu,dl,st,rl,ls,hsh,hls⟩:=hsp (⟨⟨name,parties,deals,⟨rc,rL⟩,cust,deliv⟩,i,⟨number,seller,buyer,house,dfrm,dto,dboxes,state,rel⟩,⟨frm,to,lnumber,kind,ack,number,text,party,index,day0,cur,amt,docs,boxes⟩,day⟩:HQ) L0;obtain⟨mv,hmv⟩:∃b,b=(G (⟨⟨name,parties,deals,⟨rc,rL⟩,cust,deliv⟩,i,⟨number,seller,buyer,house,dfrm,dto,dboxes,state,rel⟩,⟨frm,to,lnumber,kind,ack,number,text,party,index,day0,cur,amt,docs,boxes⟩,day⟩:HQ) L0).1:=⟨_,rfl⟩
    have hsh2:G (⟨⟨name,parties,deals,⟨rc,rL⟩,cust,deliv⟩,i,⟨number,seller,buyer,house,dfrm,dto,dboxes,state,rel⟩,⟨frm,to,lnumber,kind,ack,number,text,party,index,day0,cur,amt,docs,boxes⟩,day⟩:HQ) L0=(mv,⟨name,parties,deals,⟨rc2,M⟩,cu,dl⟩,⟨number,seller,buyer,house,dfrm,dto,dboxes,st,rl⟩,ls):=Prod.ext hmv.symm hsh;have hK:=htx L0 hp0 mv ⟨rc2,M⟩ cu dl ⟨number,seller,buyer,house,dfrm,dto,dboxes,st,rl⟩ ls ((hkx _ _ rfl).trans hsh2);obtain⟨L9,hL9⟩:∃L,L=cF number day ls:=⟨_,rfl⟩
    try dsimp only at hK
    rw[←hL9]at hK;rw[hsh2];clear hmv hsh hsh2;cases mv with
    |false=>
     cbv
     (refine eW hst ((ls,⟨number,seller,buyer,house,dfrm,dto,dboxes,st,rl⟩,day):List dE×Dp×Int) [11,9] hls ?_;try dsimp only)
     rw[←hL9];cbv;refine cZ (Gh.back 2 [9] gM ⟨number,seller,buyer,house,dfrm,dto,dboxes,st,rl⟩ rfl hy) ?_;cbv;refine cZ (Gh.plain 11 rfl) ?_;cbv
     (refine .q9 ?_;cbv;exact .inl (.f9 hK))
    |true=>
     cbv
     (refine eW hst ((ls,⟨number,seller,buyer,house,dfrm,dto,dboxes,st,rl⟩,day):List dE×Dp×Int) [11,9] hls ?_;try dsimp only)
     rw[←hL9];cbv;refine cZ (Gh.back 2 [9] gM ⟨number,seller,buyer,house,dfrm,dto,dboxes,st,rl⟩ rfl hy) ?_;cbv;refine cZ (Gh.plain 11 rfl) ?_;cbv
     (refine .q9 ?_;cbv;exact .inl (eY.sel [0,1,2,3,4,5,6,7,12,13] _ _ (by rfl) (by rfl) (by decide) (by rfl) cK (by rfl) (by rfl) (Le.refl _) (kD.refl _) hK))
theorem Qf (q:HQ) (L0:List cV) (h:q.l.kind=4):gD q L0=oK q L0:=by unfold gD;rw[aF h]
theorem Sz (q:HQ) (L0:List cV) (h:q.l.kind=8):gD q L0=(false,nB q):=by unfold gD;rw[h];rfl
theorem TK (q:HQ) (L0:List cV) (h:q.l.kind=20):gD q L0=pV q L0:=by unfold gD;rw[h];rfl
theorem R6 (q:HQ) (L0:List cV) (h:q.l.kind=19):gD q L0=(false,BW q):=by unfold gD;rw[h];rfl
theorem Pq (q:HQ) (L0:List cV) (h:q.l.kind=23):gD q L0=(false,qL q):=by unfold gD;rw[h];rfl
theorem PF (q:HQ) (L0:List cV) (h:q.l.kind=24):gD q L0=(false,qY q):=by unfold gD;rw[h];rfl
structure VR (P:bI):Prop where
 m1:dB P 79
 h1:bK P 79 (uN (fun k=>k=4) oK)
 m2:dB P 80
 h2:bK P 80 (gO (fun k=>k=8) nB)
 m3:dB P 81
 h3:bK P 81 (AU (fun k=>k=20) pV)
 m4:dB P 82
 h4:bK P 82 (gO (fun k=>k=19) BW)
 m5:dB P 83
 h5:bK P 83 (gO (fun k=>k=23) qL)
 m6:dB P 84
 h6:bK P 84 (gO (fun k=>k=24) qY)
theorem JO {P:bI}(hle:bK P 48 rE) (hst:bK P 49 qT) (h:VR P):bM P X2 (nP fun _=>True):=by
 intro args H0 K hc;obtain⟨q,h1,h2,⟨-,h4⟩,h5⟩:=hc;by_cases k1:q.l.kind=4
 ·exact lX P hle hst h.m1 (Py h.h1) rfl rfl (FH) Qf args H0 K ⟨q,h1,h2,⟨k1,h4⟩,h5⟩
 by_cases k2:q.l.kind=8
 ·exact lX P hle hst h.m2 (zZ h.h2) rfl rfl (fun q _=>F6 q) Sz args H0 K ⟨q,h1,h2,⟨k2,h4⟩,h5⟩
 by_cases k3:q.l.kind=20
 ·exact lX P hle hst h.m3 (h.h3) rfl rfl (ED) TK args H0 K ⟨q,h1,h2,⟨k3,h4⟩,h5⟩
 by_cases k4:q.l.kind=19
 ·exact lX P hle hst h.m4 (zZ h.h4) rfl rfl (fun q _=>Hs q) R6 args H0 K ⟨q,h1,h2,⟨k4,h4⟩,h5⟩
 by_cases k5:q.l.kind=23
 ·exact lX P hle hst h.m5 (zZ h.h5) rfl rfl (fun q _=>EP q) Pq args H0 K ⟨q,h1,h2,⟨k5,h4⟩,h5⟩
 by_cases k6:q.l.kind=24
 ·exact lX P hle hst h.m6 (zZ h.h6) rfl rfl (fun q _=>EG q) PF args H0 K ⟨q,h1,h2,⟨k6,h4⟩,h5⟩
 exact Hx P hle hst args H0 K ⟨q,h1,h2,⟨fun h=>by rcases h with h|h|h|h|h|h<;>contradiction,h4⟩,h5⟩
def HZ:dL:=spec (fun _:Cr=>[.ptr 0 0]) yY (fun _=>True) (fun _=>.i 1) yY
theorem HP (P:bI):bM P ZJ HZ:=by
 intro args H K hc;obtain⟨⟨name,parties,deals,⟨rc,rL⟩,cust,deliv⟩,rfl,rfl,hp,hK⟩:=hc;refine⟨cK,?_⟩;dsimp only at hp hK⊢;cbv
 (refine .q9 ?_;cbv;exact .inl (.f9 hK))
def vY:dL:=spec (fun i:Cr×Int=>[.ptr 0 0,.i i.2]) (fun i=>yY i.1) (fun _=>True) (fun _=>.v (.slice none 0 0)) fun i=>yY i.1
theorem GR (P:bI):bM P Zj vY:=by
 intro args H K hc;obtain⟨⟨⟨name,parties,deals,⟨rc,rL⟩,cust,deliv⟩,day⟩,rfl,rfl,hp,hK⟩:=hc;refine⟨cK,?_⟩;dsimp only at hp hK⊢;cbv
 (refine .q9 ?_;cbv;exact .inl (.f9 hK))
def I7:dL:=spec (fun _:Cr=>[.ptr 0 0]) yY (fun C=>C.deliv.length≤1000000) (fun C=>.sl 5 (bJ dP C.deliv)) yY
theorem Lu (P:bI) (hc:bK P 52 (mJ 5 72)):bM P Ze I7:=by
 intro args H K hc;obtain⟨⟨name,parties,deals,⟨rc,rL⟩,cust,deliv⟩,rfl,rfl,hp,hK⟩:=hc;refine⟨cK,?_⟩;dsimp only at hp hK⊢
 try dsimp only at hp
 cbv
 (refine ZO hc _ ⟨by rw[cC];show deliv.length≤maxLen;unfold maxLen;omega,by rw[cC];show deliv.length * 72≤140737488355328;omega⟩ ?_;try dsimp only)
 cbv
 (refine .q9 ?_;cbv;exact .inl (.f9 hK))
def uH:dL:=spec (fun q:bH×gZ=>[.str q.1,F5 q.2]) (fun _=>[]) (fun q=>nZ q.2) (fun _=>.ptr 0 0) fun q=>yY (KN q.2.su q.1)
theorem J2 {l:List bH}{k:Nat}{x:bH}(h:l[k]?=some x):xK (l.take (k+1))=NX (xK (l.take k)) x:=by
 unfold xK;rw[dO h,List.foldl_append];rfl
theorem Kg {name:bH}{l:List De}{k:Nat}{x:De}(h:l[k]?=some x):wU name (l.take (k+1))=F9 name (wU name (l.take k)) x:=by
 unfold wU;rw[dO h,List.foldl_append];rfl
theorem LB {α β:Type}{f:α→β}{L:List α}{i:Nat}{x:α}(h:L[i]?=some x):(bJ f L).set i (f x)=bJ f L:=by
 obtain⟨hl,rfl⟩:=aA.1 h;rw[ZY];refine List.ext_getElem (by simp) fun j h1 h2=>?_
 rw[List.getElem_set]
 split
 ·subst_vars;simp
 ·rfl
theorem Gc (P:bI) (hrn:bK P 50 Tw) (hcn:bK P 51 Jm):bM P Zt uH:=by
 intro args H K hc;obtain⟨⟨name,⟨parties,deals,funds,rest,holidays⟩⟩,rfl,rfl,hp,hK⟩:=hc;refine⟨cK,?_⟩;dsimp only at hp hK⊢;obtain⟨hpa,hde,hpn,hok⟩:=hp;dsimp only at hpa hde hpn hok;obtain⟨np,hnp⟩:∃n:Nat,n=parties.length:=⟨_,rfl⟩
 obtain⟨nd,hnd⟩:∃n:Nat,n=deals.length:=⟨_,rfl⟩
 cbv
 (refine BB hrn name trivial ?_;try dsimp only)
 cbv
 (refine BB hcn () trivial ?_;try dsimp only)
 cbv;repeat'((first|refine .k fun z hz=>?_|fail)<;>cbv)
 obtain⟨nms,hnms⟩:∃l,l=parties.map Gw.name:=⟨_,rfl⟩
 obtain⟨ds,hds⟩:∃l,l=deals.map jM.de:=⟨_,rfl⟩
 have hdsl:ds.length=deals.length:=by rw[hds,aJ]
 replace hK:K (.ptr 0 0) (yY ⟨name,xK nms,wU name ds,⟨name,[]⟩,[],[]⟩):=by rw[hnms,hds];exact hK
 have hnl:nms.length=parties.length:=by rw[hnms,aJ]
 refine bU [] (fun p:{ k:Nat // k≤parties.length }=>[(26,.i (nI p.1))]) (fun p=>[.blk 29 [.sl 3 (bJ mP parties),.sl 17 (bJ lD deals),.sl 3 (bJ mT funds),.sl 1 (bJ dZ rest),.sl 1 (bJ dZ holidays)],.map 70 (bJ iK (xK (nms.take p.1))),.pool 116 [] [],.blk 122 [.str name,.ph 4],.pool 120 [] [],.blk 174 [.ph 6],.pool 172 [] [],.blk 118 [.str name,.hd 1,.ph 2,.ptr 3 0,.ptr 5 0,.v (.slice none 0 0)]]) (fun p=>fO np p.1) ⟨0,aI _⟩ ?_;rintro ⟨k,hk⟩;dsimp only at hk⊢;obtain⟨L1,hL1⟩:∃l,l=xK (nms.take k):=⟨_,rfl⟩
 rw[←hL1];rcases aL k parties.length with hks|hks
 ·obtain⟨p,hx⟩:=cJ hks;have hx2:nms[k]?=some p.name:=by rw[hnms,aD,hx];rfl
  have hsn:=J2 hx2;rw[←hL1]at hsn;obtain⟨L2,hL2⟩:∃l,l=xK (nms.take (k+1)):=⟨_,rfl⟩
  obtain⟨pname,pq,pr⟩:=p;dsimp only at hsn;cbv;repeat'((first|refine .e ?_|refine .y fun h=>?_|fail)<;>cbv)
  refine oO (fun j hj=>?_) fun hno=>?_
  ·have e:L2=L1:=by rw[hL2,hsn];exact aF (CW hj)
   obtain⟨y,hy,hyp⟩:=eB hj;obtain rfl:y=pname:=hyp;rw[←hL2,e]at hsn;clear hj;cbv;repeat'((first|refine .k fun z hz=>?_|refine .ms fun ms hms=>?_|fail)<;>cbv)
   obtain rfl:z=nI (k+1):=bQ;obtain rfl:ms=bJ iK (xK (nms.take (k+1))):=by rw[←hL2,e];exact hms.trans (LB (f:=iK) hy)
   exact bN ⟨k+1,hks⟩ (bO (by omega))
  ·have e:L2=L1++[pname]:=by rw[hL2,hsn];exact aE (by rw[vO hno];decide)
   clear hsn;cbv;repeat'((first|refine .k fun z hz=>?_|refine .ms fun ms hms=>?_|fail)<;>cbv)
   obtain rfl:z=nI (k+1):=bQ;obtain rfl:ms=bJ iK (xK (nms.take (k+1))):=by rw[←hL2,e,bW,cD];exact hms
   exact bN ⟨k+1,hks⟩ (bO (by omega))
 obtain rfl:k=np:=by omega
 have eT:L1=xK nms:=by rw[hL1,bC (by omega)]
 clear hL1;obtain⟨T,hT⟩:∃t,t=xK nms:=⟨_,rfl⟩
 rw[←hT]at eT;subst eT;cbv;repeat'((first|refine .n fun h=>?_|refine .k fun z hz=>?_|fail)<;>cbv)
 refine bU [] (fun p:{ k:Nat // k≤deals.length }=>[(40,.i (nI p.1))]) (fun p=>[.blk 29 [.sl 3 (bJ mP parties),.sl 17 (bJ lD deals),.sl 3 (bJ mT funds),.sl 1 (bJ dZ rest),.sl 1 (bJ dZ holidays)],.map 70 (bJ iK L1),.pool 116 (bJ gM (wU name (ds.take p.1))) [],.blk 122 [.str name,.ph 4],.pool 120 [] [],.blk 174 [.ph 6],.pool 172 [] [],.blk 118 [.str name,.hd 1,.ph 2,.ptr 3 0,.ptr 5 0,.v (.slice none 0 0)]]) (fun p=>fO nd p.1) ⟨0,aI _⟩ ?_;rintro ⟨j,hj⟩;dsimp only at hj⊢;obtain⟨D1,hD1⟩:∃l,l=wU name (ds.take j):=⟨_,rfl⟩
 rw[←hD1];rcases aL j deals.length with hjs|hjs
 rotate_left
 ·obtain rfl:D1=wU name ds:=by rw[hD1,bC (by omega)]
  obtain⟨D1,hD1⟩:∃d,d=wU name ds:=⟨_,rfl⟩
  rw[←hT,←hD1]at hK;rw[←hD1];cbv;repeat'((first|refine .n fun h=>?_|fail)<;>cbv)
  refine cZ (Gh.adoptC 7 5 77 5 rfl rfl) ?_;cbv;refine cZ (Gh.publish 8 rfl) ?_;cbv
  (refine .q9 ?_;cbv;exact .inl (eY.sel [7,1,2,3,4,5,6,8] _ _ (by rfl) (by rfl) (by decide) (by rfl) cK (by rfl) (by rfl) (Le.refl _) (kD.refl _) hK))
 obtain⟨d,hx⟩:=cJ hjs;have hokd:=hok d (aC hx);have hx2:ds[j]?=some d.de:=by rw[hds,aD,hx];rfl
 have hsn:=Kg (name:=name) hx2;rw[←hD1]at hsn;have hbl:=hokd.bx;obtain⟨mk,hmk⟩:∃m,m=d.marks:=⟨_,rfl⟩
 have hF:F9 name D1 d.de=if (gS Dp.number D1 d.number).isSome=true∨d.carrier≠name then D1 else D1++[⟨d.number,d.seller,d.buyer,d.house,d.frm,d.to,mk,0,decide (d.house=eS)⟩]:=by rw[hmk];rfl
 rw[hF]at hsn;clear hF;obtain⟨dn,dsel,dbuy,dcar,diss,dhou,dins,dfrm,dto,dcur,damt,dbx,dterm,dlat,dexp,dten,dduty⟩:=d;dsimp only at hsn hbl;cbv;repeat'((first|refine .e ?_|refine .y fun h=>?_|fail)<;>cbv)
 all_goals
  refine fC Dp.number (fun _=>rfl) (fun i y hai hy hky=>?_) (fun hai=>?_)<;>try dsimp only at *
  ·rw[aF (.inl (by rw[mF hai hy];rfl))]at hsn;obtain⟨number,seller,buyer,house,dfrm2,dto2,dboxes,state,rel⟩:=y;rw[←hsn]at hy⊢;cbv;repeat'((first|refine .k fun z hz=>?_|fail)<;>cbv)
   refine dW (Gh.back0 2 [9] gM rfl hy) ?_;cbv;obtain rfl:z=nI (j+1):=bQ;exact bN ⟨j+1,hjs⟩ (bO (by omega))
  ·have hno:(gS Dp.number D1 dn).isSome=false:=by rw[sV hai];rfl
   have hmk2:mk=dbx.map IR.mark:=by rw[hmk];rfl
   have hmkl:mk.length=dbx.length:=by rw[hmk2,aJ]
   obtain⟨nb,hnb⟩:∃n:Nat,n=dbx.length:=⟨_,rfl⟩
   clear hmk hokd hx hx2;cbv;repeat'((first|refine .mk (fun h=>?_) fun h=>?_|refine .k fun z hz=>?_|fail)<;>cbv)
   ·have hb:decide (dhou=eS)=true:=aH (by assumption);rw[aE (fun h=>h.elim (fun h=>by rw[hno]at h;cases h) fun h=>h (by assumption)),hb]at hsn;clear hb;refine iL (Gh.adoptC 9 6 9 1 rfl rfl) ?_;cbv;refine bU [10] (fun p:{ k:Nat // k≤dbx.length }=>[(81,.i (nI p.1))]) (fun p=>[.blk 29 [.sl 3 (bJ mP parties),.sl 17 (bJ lD deals),.sl 3 (bJ mT funds),.sl 1 (bJ dZ rest),.sl 1 (bJ dZ holidays)],.map 70 (bJ iK L1),.pool 116 (bJ gM D1) [],.blk 122 [.str name,.ph 4],.pool 120 [] [],.blk 174 [.ph 6],.pool 172 [] [],.blk 118 [.str name,.hd 1,.ph 2,.ptr 3 0,.ptr 5 0,.v (.slice none 0 0)],.blk 67 [.str dn,.str dsel,.str dbuy,.str dcar,.str diss,.str dhou,.str dins,.str dfrm,.str dto,.str dcur,.i damt,.sl 3 (bJ Gf dbx),.i dterm,.i dlat,.i dexp,.i dten,.i dduty],.blk 136 [.str dn,.str dsel,.str dbuy,.str dhou,.str dfrm,.str dto,.hd 10,.i 0,.bl true],.row 9 1 (bJ .str (mk.take p.1))]) (fun p=>fO nb p.1) ⟨0,aI _⟩ ?_;rintro ⟨m,hm⟩;dsimp only at hm⊢;obtain⟨M1,hM1⟩:∃l,l=mk.take m:=⟨_,rfl⟩
    have hM1l:M1.length≤70:=by rw[hM1,aS];omega
    rw[←hM1];rcases aL m dbx.length with hms|hms
    ·obtain⟨bx,hxb⟩:=cJ hms;have hs3:mk.take (m+1)=M1++[bx.mark]:=by rw[hM1,dO (l:=bx.mark) (by rw[hmk2,aD,hxb];rfl)]
     clear hM1;obtain⟨bmk,bq,br⟩:=bx;dsimp only at hs3;cbv;repeat'((first|refine .e ?_|refine .y fun h=>?_|refine .k fun z hz=>?_|refine .zl fun zs hzs hzl=>?_|fail)<;>cbv)
     all_goals
      obtain rfl:z=nI (m+1):=bQ;obtain rfl:zs=bJ .str (mk.take (m+1)):=by(rw[hs3,bW,cD];exact hzs)
      exact bN ⟨m+1,hms⟩ (bO (by omega))
    ·obtain rfl:M1=mk:=by rw[hM1,bC (by omega)]
     clear hM1;cbv;repeat'((first|refine .n fun h=>?_|fail)<;>cbv)
     all_goals
      refine oJ Dp.number (fun _=>rfl) hai (fun es n2 hes hn2=>?_);cbv;repeat'((first|refine .k fun z hz=>?_|fail)<;>cbv)
      refine dW (Gh.plain 10 rfl) ?_;cbv;refine dW (Gh.backN2 2 [9] gM ⟨dn,dsel,dbuy,dhou,dfrm,dto,M1,0,true⟩ hes hn2 hsn) ?_;cbv;obtain rfl:z=nI (j+1):=bQ;exact bN ⟨j+1,hjs⟩ (bO (by omega))
   ·have hb:decide (dhou=eS)=false:=aG (by assumption);rw[aE (fun h=>h.elim (fun h=>by rw[hno]at h;cases h) fun h=>h (by assumption)),hb]at hsn;clear hb;refine iL (Gh.adoptC 9 6 9 1 rfl rfl) ?_;cbv;refine bU [10] (fun p:{ k:Nat // k≤dbx.length }=>[(81,.i (nI p.1))]) (fun p=>[.blk 29 [.sl 3 (bJ mP parties),.sl 17 (bJ lD deals),.sl 3 (bJ mT funds),.sl 1 (bJ dZ rest),.sl 1 (bJ dZ holidays)],.map 70 (bJ iK L1),.pool 116 (bJ gM D1) [],.blk 122 [.str name,.ph 4],.pool 120 [] [],.blk 174 [.ph 6],.pool 172 [] [],.blk 118 [.str name,.hd 1,.ph 2,.ptr 3 0,.ptr 5 0,.v (.slice none 0 0)],.blk 67 [.str dn,.str dsel,.str dbuy,.str dcar,.str diss,.str dhou,.str dins,.str dfrm,.str dto,.str dcur,.i damt,.sl 3 (bJ Gf dbx),.i dterm,.i dlat,.i dexp,.i dten,.i dduty],.blk 136 [.str dn,.str dsel,.str dbuy,.str dhou,.str dfrm,.str dto,.hd 10,.i 0,.bl false],.row 9 1 (bJ .str (mk.take p.1))]) (fun p=>fO nb p.1) ⟨0,aI _⟩ ?_;rintro ⟨m,hm⟩;dsimp only at hm⊢;obtain⟨M1,hM1⟩:∃l,l=mk.take m:=⟨_,rfl⟩
    have hM1l:M1.length≤70:=by rw[hM1,aS];omega
    rw[←hM1];rcases aL m dbx.length with hms|hms
    ·obtain⟨bx,hxb⟩:=cJ hms;have hs3:mk.take (m+1)=M1++[bx.mark]:=by rw[hM1,dO (l:=bx.mark) (by rw[hmk2,aD,hxb];rfl)]
     clear hM1;obtain⟨bmk,bq,br⟩:=bx;dsimp only at hs3;cbv;repeat'((first|refine .e ?_|refine .y fun h=>?_|refine .k fun z hz=>?_|refine .zl fun zs hzs hzl=>?_|fail)<;>cbv)
     all_goals
      obtain rfl:z=nI (m+1):=bQ;obtain rfl:zs=bJ .str (mk.take (m+1)):=by(rw[hs3,bW,cD];exact hzs)
      exact bN ⟨m+1,hms⟩ (bO (by omega))
    ·obtain rfl:M1=mk:=by rw[hM1,bC (by omega)]
     clear hM1;cbv;repeat'((first|refine .n fun h=>?_|fail)<;>cbv)
     all_goals
      refine oJ Dp.number (fun _=>rfl) hai (fun es n2 hes hn2=>?_);cbv;repeat'((first|refine .k fun z hz=>?_|fail)<;>cbv)
      refine dW (Gh.plain 10 rfl) ?_;cbv;refine dW (Gh.backN2 2 [9] gM ⟨dn,dsel,dbuy,dhou,dfrm,dto,M1,0,false⟩ hes hn2 hsn) ?_;cbv;obtain rfl:z=nI (j+1):=bQ;exact bN ⟨j+1,hjs⟩ (bO (by omega))
   ·rw[aF (.inr (by assumption))]at hsn;obtain rfl:z=nI (j+1):=bQ;rw[←hsn];exact bN ⟨j+1,hjs⟩ (bO (by omega))
def tO:dL:=spec (fun q:dE×Int=>[eD q.1,.i q.2]) (fun _=>[]) (fun q=>mM q.1.kind) (fun q=>.sl 14 (bJ eD (cF q.1.deal q.2 (eV fL q.1)))) fun _=>[]
theorem rS {xs:List AV}{x:Int}{K:Nat→AV→Prop}(m:Nat) {u:AV}(hx:x=m) (hu:xs[m]?=some u) (k:K m u):ZX xs x K:=⟨m,u,hx,hu,k⟩
theorem H6 (P:bI) (hn:bK P 33 Aa):bM P Xa tO:=by
 intro args H K hc;obtain⟨⟨⟨frm,to,number,kind,ack,deal,text,party,index,day0,cur,amt,docs,boxes⟩,day⟩,rfl,rfl,hp,hK⟩:=hc;refine⟨cK,?_⟩;dsimp only at hp hK⊢
 try dsimp only at hp
 replace hK:K (.sl 14 (bJ eD [⟨eS,frm,0,22,0,deal,fL kind,party,index,day,eS,0,[],[]⟩])) []:=hK;rcases hp with rfl|rfl|rfl|rfl
 all_goals
  cbv
  (refine ZO hn () trivial ?_;try dsimp only)
  cbv
  first
  |(refine rS 8 rfl rfl ?_
    cbv;refine cZ (Gh.leAt 1 (.row 58 14 (bJ eD [⟨eS,frm,0,22,0,deal,fL 8,party,index,day,eS,0,[],[]⟩])) rfl (tL Bx)) ?_;cbv
    (refine .r9 (Gh.plain 1 rfl) ?_;cbv;exact .inl (.g9 hK)))
  |(refine rS 20 rfl rfl ?_
    cbv;refine cZ (Gh.leAt 1 (.row 58 14 (bJ eD [⟨eS,frm,0,22,0,deal,fL 20,party,index,day,eS,0,[],[]⟩])) rfl (tL Bx)) ?_;cbv
    (refine .r9 (Gh.plain 1 rfl) ?_;cbv;exact .inl (.g9 hK)))
  |(refine rS 23 rfl rfl ?_
    cbv;refine cZ (Gh.leAt 1 (.row 58 14 (bJ eD [⟨eS,frm,0,22,0,deal,fL 23,party,index,day,eS,0,[],[]⟩])) rfl (tL Bx)) ?_;cbv
    (refine .r9 (Gh.plain 1 rfl) ?_;cbv;exact .inl (.g9 hK)))
  |(refine rS 24 rfl rfl ?_
    cbv;refine cZ (Gh.leAt 1 (.row 58 14 (bJ eD [⟨eS,frm,0,22,0,deal,fL 24,party,index,day,eS,0,[],[]⟩])) rfl (tL Bx)) ?_;cbv
    (refine .r9 (Gh.plain 1 rfl) ?_;cbv;exact .inl (.g9 hK)))
structure Qe where
 s:gZ
 name:bH
 x:Cs
 l:dE
 day:Int
structure Ug (s:gZ) (x:Cs):Prop where
 S:x.S.length=s.deals.length
 F:x.free.length=s.deals.length
 H:x.H.length≤40000
 D:x.D.length≤40000
 few:x.reg.bills.length≤256
 all:∀b∈x.reg.bills,inB b
structure Rn (q:Qe):Prop where
 s:nZ q.s
 x:Ug q.s q.x
 sz:q.name.size≤60∧q.l.frm.size≤300∧q.l.deal.size≤300∧q.l.party.size≤300
def YM:Cs×List dE→AV
 |(x,l)=>.tup [Fn x,.sl 14 (bJ eD l)]
def N1 (κ:Int→Prop):dL:=spec (fun q:Qe=>[F5 q.s,.str q.name,Fn q.x,eD q.l,.i q.day]) (fun _=>[]) (fun q=>κ q.l.kind∧Rn q) (fun q=>YM (eX fL q.s.su q.name q.x q.l q.day)) fun _=>[]
theorem jG {nm:Int→bH}{s:Su}{name:bH}{x:Cs}{l:dE}{day:Int}(h:dD s name l.deal=none):eX nm s name x l day=(x,[]):=by unfold eX;rw[h]
theorem kM {nm:Int→bH}{s:Su}{name:bH}{x:Cs}{l:dE}{day:Int}(h:kC s.parties l.frm=false):eX nm s name x l day=(x,[]):=by
 unfold eX;cases dD s name l.deal with
 |none=>rfl
 |some i=>dsimp only;rw[aF h]
def nG (nm:Int→bH) (s:Su) (name:bH) (x:Cs) (l:dE) (day:Int) (i:Nat) (d:De) (st:Int) (fr:Bool):Cs×List dE:=
   if l.kind=4 then (if l.frm=d.seller∧st=0 then (match lA name d day x.H d.boxes with
    |none=>x
    |some H=>oU { x with H:=H } i 1) else x,[])
   else if l.kind=19 then (if d.house≠eS∧l.frm=d.house then { x with free:=x.free.set i true } else x,[])
   else if l.kind=8∨l.kind=20∨l.kind=23∨l.kind=24 then
    let k:Int:=if l.kind=8 then 1 else if l.kind=20 then 2 else if l.kind=23 then 3 else 4
    let a:=fA k d l day
    if (kI x.reg a).2≠0∨(k=1∧(kC s.parties l.party=false∨l.party=l.frm)) then (x,cF l.deal day (eV nm l))
    else if k=2 then match iJ (cS name l.frm d.to day) x.H d.boxes with
     |none=>(x,cF l.deal day (eV nm l))
     |some H=>if st≠3∨fr=false then (x,cF l.deal day (eV nm l)) else
      (oU { x with D:=x.D++H.drop x.H.length,H:=H,reg:=(kI x.reg a).1 } i 4,cF l.deal day [{ nJ with to:=l.frm,kind:=21,boxes:=d.boxes }])
    else ({ x with reg:=(kI x.reg a).1 },cF l.deal day (if k=1 then [{ nJ with to:=l.party,kind:=9,index:=l.index,party:=l.party }] else if k=4 then [{ nJ with to:=l.frm,kind:=25,index:=l.index }] else []))
   else (x,[])
theorem mE {nm:Int→bH}{s:Su}{name:bH}{x:Cs}{l:dE}{day:Int}{i:Nat}{d:De}{st:Int}{fr:Bool}(h:dD s name l.deal=some i) (hp:kC s.parties l.frm=true) (h1:s.deals[i]?=some d) (h2:x.S[i]?=some st) (h3:x.free[i]?=some fr) :
  eX nm s name x l day=nG nm s name x l day i d st fr:=by
 unfold eX nG;rw[h];dsimp only;rw[aE (by rw[hp];decide),h1,h2,h3];rfl
theorem pD {l:List jM}{P:List bH}{name n:bH}{i:Nat}(h:dD ⟨P,l.map jM.de⟩ name n=some i):∃d,l[i]?=some d∧d.carrier=name∧d.number=n:=by
 obtain⟨e,he,h1,h2⟩:=oG h;have he:(l.map jM.de)[i]?=some e:=he;rw[aD]at he;cases hl:l[i]? with
 |none=>rw[hl]at he;cases he
 |some d=>rw[hl]at he;cases he;exact⟨d,rfl,h1,h2⟩
theorem wZ (P:bI) (hde:bK P 13 nC) (hpa:bK P 17 mA) (hsh:bK P 99 zT):bM P Rl (N1 (fun z=>z=4)):=by
 intro args H0 K hc;obtain⟨⟨s,name,x,l,day⟩,rfl,rfl,⟨hkind,hs,hx,hnz,hfz,hdz,hpz⟩,hK⟩:=hc;refine⟨cK,?_⟩;dsimp only at hkind hs hx hnz hfz hdz hpz hK⊢;obtain⟨r,hr⟩:∃r,r=eX fL s.su name x l day:=⟨_,rfl⟩
 rw[←hr]at hK;have hdl:=hs.de;have hpl:=hs.pa;obtain⟨o,ho⟩:∃o,o=dD s.su name l.deal:=⟨_,rfl⟩
 obtain⟨b,hb⟩:∃b,b=kC s.su.parties l.frm:=⟨_,rfl⟩
 have hat:∀i,o=some i→∃d st fr,s.deals[i]?=some d∧x.S[i]?=some st∧x.free[i]?=some fr∧Gz d∧d.number=l.deal:=fun i hi=>by
  rw[ho]at hi;obtain⟨d,h1,h2,h3⟩:=pD hi;have hil:=(aA.1 h1).1;exact⟨d,_,_,h1,aB (by rw[hx.S];exact hil),aB (by rw[hx.F];exact hil),hs.ok d (aC h1),h3⟩
 have hrn:o=none→r=(x,[]):=fun h=>by rw[hr];exact jG (ho.symm.trans h)
 have hro:b=false→r=(x,[]):=fun h=>by rw[hr];exact kM (hb.symm.trans h)
 have hra:∀i d st fr,o=some i→b=true→s.deals[i]?=some d→x.S[i]?=some st→x.free[i]?=some fr→r=nG fL s.su name x l day i d.de st fr:=fun i d st fr h1 h2 h3 h4 h5=>by
  rw[hr];exact mE (ho.symm.trans h1) (hb.symm.trans h2) (by show (s.deals.map jM.de)[i]?=_;rw[aD,h3];rfl) h4 h5
 clear hr;obtain⟨parties,deals,funds,rest,holidays⟩:=s;obtain⟨S,free,⟨c,L⟩,H,D⟩:=x;obtain⟨frm,to,number,kind,ack,deal,text,party,index,day0,cur,amt,docs,boxes⟩:=l;dsimp only at hkind hfz hdz hpz hdl hpl ho hb hat hra;subst hkind;cbv
 (refine ZO hde ((⟨parties,deals,funds,rest,holidays⟩,name,deal):gZ×bH×bH) hdl ?_;try dsimp only)
 rw[←ho];cases o with
 |none=>
  have hr:=hrn rfl;subst hr;cbv;repeat'((first|refine .y fun h=>?_|fail)<;>cbv)
  (refine .q9 ?_;cbv;exact .inl (.g9 hK))
 |some i=>
  obtain⟨d,st,fr,hd,hst,hfr,hokd,hnum⟩:=hat i rfl;cbv;repeat'((first|refine .n fun h=>?_|fail)<;>cbv)
  (refine ZO hpa ((⟨parties,deals,funds,rest,holidays⟩,frm):gZ×bH) hpl ?_;try dsimp only)
  rw[←hb];cases b with
  |false=>
   have hr:=hro rfl;subst hr;cbv
   (refine .q9 ?_;cbv;exact .inl (.g9 hK))
  |true=>
   have hr:=hra i d st fr rfl rfl hd hst hfr;clear hra hro hrn hat
   unfold nG at hr;dsimp only at hr;rw[aF rfl]at hr;have hml:=gH hokd;have hbl:=hokd.bx;have hsz:=hokd.sz;have hshe:∀nm,(AE ⟨⟨S,free,⟨c,L⟩,H,D⟩,d,i,nm,day⟩)=(match lA nm d.de day H d.de.boxes with
    |none=>(⟨S,free,⟨c,L⟩,H,D⟩:Cs)
    |some H2=>oU ⟨S,free,⟨c,L⟩,H2,D⟩ i 1):=fun nm=>rfl
   have hshp:Rp ⟨⟨S,free,⟨c,L⟩,H,D⟩,d,i,name,day⟩:=⟨by have:=hx.H;dsimp only at this⊢;omega,hokd,⟨by dsimp only;have:=hx.S;dsimp only at this;omega,(aA.1 hst).1⟩,by dsimp only;omega⟩
   rw[←hshe]at hr;have hrs:∀q:Prop,[Decidable q]→q→(if q then (AE ⟨⟨S,free,⟨c,L⟩,H,D⟩,d,i,name,day⟩:Cs) else ⟨S,free,⟨c,L⟩,H,D⟩)=AE ⟨⟨S,free,⟨c,L⟩,H,D⟩,d,i,name,day⟩:=fun q _ h=>aF h
   obtain⟨x9,hx9⟩:∃x9,x9=AE ⟨⟨S,free,⟨c,L⟩,H,D⟩,d,i,name,day⟩:=⟨_,rfl⟩
   rw[←hx9]at hr;clear hshe hrs;obtain⟨dn,dsel,dbuy,dcar,diss,dhou,dins,dfrm,dto,dcur,damt,dbx,dterm,dlat,dexp,dten,dduty⟩:=d;dsimp only at hnum hbl hsz;subst hnum;have z3:(ByteArray.mk (Array.mk [98,108,45])).size=3:=rfl;cbv;repeat'((first|refine .e ?_|refine .y fun h=>?_|refine .mk (fun h=>?_) fun h=>?_|refine .u fun u hu hul=>?_|fail)<;>cbv)
   ·rw[aF ⟨by assumption,by assumption⟩]at hr
    (refine ZO hsh (⟨⟨S,free,⟨c,L⟩,H,D⟩,(⟨dn,dsel,dbuy,dcar,diss,dhou,dins,dfrm,dto,dcur,damt,dbx,dterm,dlat,dexp,dten,dduty⟩:jM),i,name,day⟩:Qd) hshp ?_;try dsimp only)
    rw[←hx9];obtain⟨S9,free9,⟨c9,L9⟩,H9,D9⟩:=x9;subst hr;cbv
    (refine .q9 ?_;cbv;exact .inl (.g9 hK))
   all_goals
    rw[aE (fun h=>by first|exact absurd h.1 (by assumption)|exact absurd h.2 (by assumption))]at hr;subst hr
    (refine .q9 ?_;cbv;exact .inl (.g9 hK))
theorem zB (P:bI) (hde:bK P 13 nC) (hpa:bK P 17 mA):bM P Rl (N1 (fun z=>z=19)):=by
 intro args H0 K hc;obtain⟨⟨s,name,x,l,day⟩,rfl,rfl,⟨hkind,hs,hx,hnz,hfz,hdz,hpz⟩,hK⟩:=hc;refine⟨cK,?_⟩;dsimp only at hkind hs hx hnz hfz hdz hpz hK⊢;obtain⟨r,hr⟩:∃r,r=eX fL s.su name x l day:=⟨_,rfl⟩
 rw[←hr]at hK;have hdl:=hs.de;have hpl:=hs.pa;obtain⟨o,ho⟩:∃o,o=dD s.su name l.deal:=⟨_,rfl⟩
 obtain⟨b,hb⟩:∃b,b=kC s.su.parties l.frm:=⟨_,rfl⟩
 have hat:∀i,o=some i→∃d st fr,s.deals[i]?=some d∧x.S[i]?=some st∧x.free[i]?=some fr∧Gz d∧d.number=l.deal:=fun i hi=>by
  rw[ho]at hi;obtain⟨d,h1,h2,h3⟩:=pD hi;have hil:=(aA.1 h1).1;exact⟨d,_,_,h1,aB (by rw[hx.S];exact hil),aB (by rw[hx.F];exact hil),hs.ok d (aC h1),h3⟩
 have hrn:o=none→r=(x,[]):=fun h=>by rw[hr];exact jG (ho.symm.trans h)
 have hro:b=false→r=(x,[]):=fun h=>by rw[hr];exact kM (hb.symm.trans h)
 have hra:∀i d st fr,o=some i→b=true→s.deals[i]?=some d→x.S[i]?=some st→x.free[i]?=some fr→r=nG fL s.su name x l day i d.de st fr:=fun i d st fr h1 h2 h3 h4 h5=>by
  rw[hr];exact mE (ho.symm.trans h1) (hb.symm.trans h2) (by show (s.deals.map jM.de)[i]?=_;rw[aD,h3];rfl) h4 h5
 clear hr;obtain⟨parties,deals,funds,rest,holidays⟩:=s;obtain⟨S,free,⟨c,L⟩,H,D⟩:=x;obtain⟨frm,to,number,kind,ack,deal,text,party,index,day0,cur,amt,docs,boxes⟩:=l;dsimp only at hkind hfz hdz hpz hdl hpl ho hb hat hra;subst hkind;cbv
 (refine ZO hde ((⟨parties,deals,funds,rest,holidays⟩,name,deal):gZ×bH×bH) hdl ?_;try dsimp only)
 rw[←ho];cases o with
 |none=>
  have hr:=hrn rfl;subst hr;cbv;repeat'((first|refine .y fun h=>?_|fail)<;>cbv)
  (refine .q9 ?_;cbv;exact .inl (.g9 hK))
 |some i=>
  obtain⟨d,st,fr,hd,hst,hfr,hokd,hnum⟩:=hat i rfl;cbv;repeat'((first|refine .n fun h=>?_|fail)<;>cbv)
  (refine ZO hpa ((⟨parties,deals,funds,rest,holidays⟩,frm):gZ×bH) hpl ?_;try dsimp only)
  rw[←hb];cases b with
  |false=>
   have hr:=hro rfl;subst hr;cbv
   (refine .q9 ?_;cbv;exact .inl (.g9 hK))
  |true=>
   have hr:=hra i d st fr rfl rfl hd hst hfr;clear hra hro hrn hat
   unfold nG at hr;dsimp only at hr;rw[aE (by decide),aF rfl]at hr;have hml:=gH hokd;have hbl:=hokd.bx;have hsz:=hokd.sz;have hfl:free.length≤8:=by have:=hx.F;dsimp only at this;omega
   obtain⟨F2,hF2⟩:∃F,F=free.set i true:=⟨_,rfl⟩
   rw[←hF2]at hr;obtain⟨dn,dsel,dbuy,dcar,diss,dhou,dins,dfrm,dto,dcur,damt,dbx,dterm,dlat,dexp,dten,dduty⟩:=d;dsimp only at hnum hbl hsz;subst hnum;have z3:(ByteArray.mk (Array.mk [98,108,45])).size=3:=rfl;cbv;repeat'((first|refine .e ?_|refine .n fun h=>?_|refine .y fun h=>?_|refine .mk (fun h=>?_) fun h=>?_|refine .o ?_|refine .u fun u hu hul=>?_|refine .z fun zs hzs=>?_|fail)<;>cbv)
   all_goals first
   |(rw[aE (fun h=>by first|exact absurd h.2 (by assumption)|exact h.1 (by assumption))]at hr
     subst hr
     (refine .q9 ?_;cbv;exact .inl (.g9 hK)))
   |(rw[aF ⟨fun h=>absurd h (by assumption),by assumption⟩]at hr
     subst hr;obtain rfl:zs=bJ sX F2:=by rw[hF2,ZY sX (free.set i true),List.map_set,←ZY];assumption
     refine cZ (Gh.plain 6 rfl) ?_;cbv
     (refine .q9 ?_;cbv;exact .inl (.g9 hK)))
def GN (nm:Int→bH) (s:Su) (name:bH) (x:Cs) (l:dE) (day:Int) (i:Nat) (d:De) (st:Int) (fr:Bool) (k:Int):Cs×List dE:=
 if (kI x.reg (fA k d l day)).2≠0∨(k=1∧(kC s.parties l.party=false∨l.party=l.frm)) then (x,cF l.deal day (eV nm l))
 else if k=2 then match iJ (cS name l.frm d.to day) x.H d.boxes with
  |none=>(x,cF l.deal day (eV nm l))
  |some H=>if st≠3∨fr=false then (x,cF l.deal day (eV nm l)) else
   (oU { x with D:=x.D++H.drop x.H.length,H:=H,reg:=(kI x.reg (fA k d l day)).1 } i 4,cF l.deal day [{ nJ with to:=l.frm,kind:=21,boxes:=d.boxes }])
 else ({ x with reg:=(kI x.reg (fA k d l day)).1 },cF l.deal day (if k=1 then [{ nJ with to:=l.party,kind:=9,index:=l.index,party:=l.party }] else if k=4 then [{ nJ with to:=l.frm,kind:=25,index:=l.index }] else []))
section
variable {nm:Int→bH}{s:Su}{name:bH}{x:Cs}{l:dE}{day:Int}{i:Nat}{d:De}{st:Int}{fr:Bool}{k:Int}{R9:Rg}{e9:Int}
theorem rY (h:l.kind=8∧k=1∨l.kind=20∧k=2∨l.kind=23∧k=3∨l.kind=24∧k=4):nG nm s name x l day i d st fr=GN nm s name x l day i d st fr k:=by
 have hk:(if l.kind=8 then (1:Int) else if l.kind=20 then 2 else if l.kind=23 then 3 else 4)=k:=by
  rcases h with ⟨h,rfl⟩|⟨h,rfl⟩|⟨h,rfl⟩|⟨h,rfl⟩<;>rw[h]<;>rfl
 unfold nG;rw[aE (by omega),aE (by omega),aF (by omega),←hk];rfl
theorem rD (hq:kI x.reg (fA k d l day)=(R9,e9)) (h:e9≠0∨(k=1∧(kC s.parties l.party=false∨l.party=l.frm))):GN nm s name x l day i d st fr k=(x,cF l.deal day (eV nm l)):=by
 unfold GN;rw[hq];exact aF h
theorem DI (hq:kI x.reg (fA k d l day)=(R9,e9)) (h0:e9=0) (h1:¬(k=1∧(kC s.parties l.party=false∨l.party=l.frm))) (h2:¬k=2):GN nm s name x l day i d st fr k =
  ({ x with reg:=R9 },cF l.deal day (if k=1 then [{ nJ with to:=l.party,kind:=9,index:=l.index,party:=l.party }] else if k=4 then [{ nJ with to:=l.frm,kind:=25,index:=l.index }] else [])):=by
 unfold GN;rw[hq,aE (fun h=>by rcases h with h|h;exact h h0;exact h1 h),aE h2]
theorem FS (hq:kI x.reg (fA 2 d l day)=(R9,e9)) (h0:e9=0):GN nm s name x l day i d st fr 2=match iJ (cS name l.frm d.to day) x.H d.boxes with
  |none=>(x,cF l.deal day (eV nm l))
  |some H=>if st≠3∨fr=false then (x,cF l.deal day (eV nm l)) else
   (oU { x with D:=x.D++H.drop x.H.length,H:=H,reg:=R9 } i 4,cF l.deal day [{ nJ with to:=l.frm,kind:=21,boxes:=d.boxes }]):=by
 unfold GN;rw[hq,aE (fun h=>by rcases h with h|h;exact h h0;exact absurd h.1 (by decide)),aF rfl]
end
theorem yT (P:bI) (hde:bK P 13 nC) (hpa:bK P 17 mA) (hdo:bK P 100 Hh) (hob:bK P 101 tO):bM P Rl (N1 (fun z=>z=8)):=by
 intro args H0 K hc;obtain⟨⟨s,name,x,l,day⟩,rfl,rfl,⟨hkind,hs,hx,hnz,hfz,hdz,hpz⟩,hK⟩:=hc;refine⟨cK,?_⟩;dsimp only at hkind hs hx hnz hfz hdz hpz hK⊢;obtain⟨r,hr⟩:∃r,r=eX fL s.su name x l day:=⟨_,rfl⟩
 rw[←hr]at hK;have hdl:=hs.de;have hpl:=hs.pa;obtain⟨o,ho⟩:∃o,o=dD s.su name l.deal:=⟨_,rfl⟩
 obtain⟨b,hb⟩:∃b,b=kC s.su.parties l.frm:=⟨_,rfl⟩
 have hat:∀i,o=some i→∃d st fr,s.deals[i]?=some d∧x.S[i]?=some st∧x.free[i]?=some fr∧Gz d∧d.number=l.deal:=fun i hi=>by
  rw[ho]at hi;obtain⟨d,h1,h2,h3⟩:=pD hi;have hil:=(aA.1 h1).1;exact⟨d,_,_,h1,aB (by rw[hx.S];exact hil),aB (by rw[hx.F];exact hil),hs.ok d (aC h1),h3⟩
 have hrn:o=none→r=(x,[]):=fun h=>by rw[hr];exact jG (ho.symm.trans h)
 have hro:b=false→r=(x,[]):=fun h=>by rw[hr];exact kM (hb.symm.trans h)
 have hra:∀i d st fr,o=some i→b=true→s.deals[i]?=some d→x.S[i]?=some st→x.free[i]?=some fr→r=nG fL s.su name x l day i d.de st fr:=fun i d st fr h1 h2 h3 h4 h5=>by
  rw[hr];exact mE (ho.symm.trans h1) (hb.symm.trans h2) (by show (s.deals.map jM.de)[i]?=_;rw[aD,h3];rfl) h4 h5
 clear hr;obtain⟨parties,deals,funds,rest,holidays⟩:=s;obtain⟨S,free,⟨c,L⟩,H,D⟩:=x;obtain⟨frm,to,number,kind,ack,deal,text,party,index,day0,cur,amt,docs,boxes⟩:=l;dsimp only at hkind hfz hdz hpz hdl hpl ho hb hat hra;subst hkind;cbv
 (refine ZO hde ((⟨parties,deals,funds,rest,holidays⟩,name,deal):gZ×bH×bH) hdl ?_;try dsimp only)
 rw[←ho];cases o with
 |none=>
  have hr:=hrn rfl;subst hr;cbv;repeat'((first|refine .y fun h=>?_|fail)<;>cbv)
  (refine .q9 ?_;cbv;exact .inl (.g9 hK))
 |some i=>
  obtain⟨d,st,fr,hd,hst,hfr,hokd,hnum⟩:=hat i rfl;cbv;repeat'((first|refine .n fun h=>?_|fail)<;>cbv)
  (refine ZO hpa ((⟨parties,deals,funds,rest,holidays⟩,frm):gZ×bH) hpl ?_;try dsimp only)
  rw[←hb];cases b with
  |false=>
   have hr:=hro rfl;subst hr;cbv
   (refine .q9 ?_;cbv;exact .inl (.g9 hK))
  |true=>
   have hr:=hra i d st fr rfl rfl hd hst hfr;clear hra hro hrn hat
   have hml:=gH hokd;have hbl:=hokd.bx;have hsz:=hokd.sz;have hxf:=hx.few;have hxa:=hx.all;obtain⟨bn,hbn⟩:∃b,b=gI d.number:=⟨_,rfl⟩
   have hRP:KI (⟨c,L⟩,⟨1,index,day,bn,frm,party,cI.noBl⟩):=⟨(show (0:Int)≤1∧(1:Int)≤5 by decide),hxf,hxa,nK,⟨aI _,aI _,aI _,aI _,fun s hs=>(by cases hs)⟩,by(show party.size≤maxLen);unfold maxLen;omega⟩
   obtain⟨⟨⟨c9,L9⟩,e9⟩,hq9⟩:∃q,q=kI ⟨c,L⟩ ⟨1,index,day,bn,frm,party,cI.noBl⟩:=⟨_,rfl⟩
   have hqq:kI (⟨S,free,⟨c,L⟩,H,D⟩:Cs).reg (fA 1 d.de ⟨frm,to,number,8,ack,deal,text,party,index,day0,cur,amt,docs,boxes⟩ day)=(⟨c9,L9⟩,e9):=by rw[hq9,hbn];rfl
   rw[rY (k:=1) (.inl ⟨rfl,rfl⟩)]at hr;obtain⟨b2,hb2⟩:∃b,b=kC (gZ.su ⟨parties,deals,funds,rest,holidays⟩).parties party:=⟨_,rfl⟩
   have hr1:(e9≠0∨((1:Int)=1∧(b2=false∨party=frm)))→r=(⟨S,free,⟨c,L⟩,H,D⟩,cF deal day (eV fL ⟨frm,to,number,8,ack,deal,text,party,index,day0,cur,amt,docs,boxes⟩)):=fun h=>by
    rw[hb2]at h;rw[hr];exact rD hqq h
   have hr2:e9=0→b2=true→¬party=frm→r=(⟨S,free,⟨c9,L9⟩,H,D⟩,[⟨eS,party,0,9,0,deal,eS,party,index,day,eS,0,[],[]⟩]):=fun h1 h2 h3=>by
    rw[hr];exact DI hqq h1 (fun h=>by rcases h.2 with h|h;(rw[←hb2,h2]at h;cases h);exact h3 h) (by decide)
   clear hr;obtain⟨dn,dsel,dbuy,dcar,diss,dhou,dins,dfrm,dto,dcur,damt,dbx,dterm,dlat,dexp,dten,dduty⟩:=d;dsimp only at hnum hbl hsz;subst hnum;have z3:(ByteArray.mk (Array.mk [98,108,45])).size=3:=rfl;cbv;repeat'((first|refine .e ?_|refine .n fun h=>?_|refine .y fun h=>?_|refine .u fun u hu hul=>?_|fail)<;>cbv)
   obtain rfl:u=bn:=by rw[hbn];assumption
   refine oL [KF ⟨c,L⟩,Pi ⟨1,index,day,u,frm,party,cI.noBl⟩] Bx ?_
   (refine ZO hdo ((⟨c,L⟩,⟨1,index,day,u,frm,party,cI.noBl⟩):Rg×At) hRP ?_;try dsimp only)
   rw[←hq9];cbv;repeat'((first|refine .y fun h=>?_|refine .mk (fun h=>?_) fun h=>?_|fail)<;>cbv)
   all_goals first
   |((refine ZO hob ((⟨frm,to,number,8,ack,dn,text,party,index,day0,cur,amt,docs,boxes⟩,day):dE×Int) (.inl rfl) ?_;try dsimp only)
     have hr:=hr1 (.inl (by assumption));subst hr;cbv
     (refine .q9 ?_;cbv;exact .inl (.g9 hK)))
   |((refine ZO hpa ((⟨parties,deals,funds,rest,holidays⟩,party):gZ×bH) hpl ?_;try dsimp only)
     rw[←hb2];cases b2 with
     |false=>
      have hr:=hr1 (.inr ⟨rfl,.inl rfl⟩);subst hr;cbv
      (refine ZO hob ((⟨frm,to,number,8,ack,dn,text,party,index,day0,cur,amt,docs,boxes⟩,day):dE×Int) (.inl rfl) ?_;try dsimp only)
      cbv
      (refine .q9 ?_;cbv;exact .inl (.g9 hK))
     |true=>
      cbv;repeat'((first|refine .n fun h=>?_|refine .y fun h=>?_|refine .mk (fun h=>?_) fun h=>?_|refine And.intro ?_ ?_|fail)<;>cbv)
      all_goals first
      |((refine ZO hob ((⟨frm,to,number,8,ack,dn,text,party,index,day0,cur,amt,docs,boxes⟩,day):dE×Int) (.inl rfl) ?_;try dsimp only)
        have hr:=hr1 (.inr ⟨rfl,.inr (by assumption)⟩);subst hr;cbv
        (refine .q9 ?_;cbv;exact .inl (.g9 hK)))
      |(have hr:=hr2 (by assumption) rfl (by assumption)
        subst hr;refine cZ (Gh.leAt 7 (.row 58 14 (bJ eD [⟨eS,party,0,9,0,dn,eS,party,index,day,eS,0,[],[]⟩])) rfl (tL Bx)) ?_;cbv;refine cZ (Gh.plain 7 rfl) ?_;cbv
        (refine .q9 ?_;cbv;exact .inl (.g9 hK)))
      |fail)
theorem xT (P:bI) (hde:bK P 13 nC) (hpa:bK P 17 mA) (hdo:bK P 100 Hh) (hob:bK P 101 tO):bM P Rl (N1 (fun z=>z=23)):=by
 intro args H0 K hc;obtain⟨⟨s,name,x,l,day⟩,rfl,rfl,⟨hkind,hs,hx,hnz,hfz,hdz,hpz⟩,hK⟩:=hc;refine⟨cK,?_⟩;dsimp only at hkind hs hx hnz hfz hdz hpz hK⊢;obtain⟨r,hr⟩:∃r,r=eX fL s.su name x l day:=⟨_,rfl⟩
 rw[←hr]at hK;have hdl:=hs.de;have hpl:=hs.pa;obtain⟨o,ho⟩:∃o,o=dD s.su name l.deal:=⟨_,rfl⟩
 obtain⟨b,hb⟩:∃b,b=kC s.su.parties l.frm:=⟨_,rfl⟩
 have hat:∀i,o=some i→∃d st fr,s.deals[i]?=some d∧x.S[i]?=some st∧x.free[i]?=some fr∧Gz d∧d.number=l.deal:=fun i hi=>by
  rw[ho]at hi;obtain⟨d,h1,h2,h3⟩:=pD hi;have hil:=(aA.1 h1).1;exact⟨d,_,_,h1,aB (by rw[hx.S];exact hil),aB (by rw[hx.F];exact hil),hs.ok d (aC h1),h3⟩
 have hrn:o=none→r=(x,[]):=fun h=>by rw[hr];exact jG (ho.symm.trans h)
 have hro:b=false→r=(x,[]):=fun h=>by rw[hr];exact kM (hb.symm.trans h)
 have hra:∀i d st fr,o=some i→b=true→s.deals[i]?=some d→x.S[i]?=some st→x.free[i]?=some fr→r=nG fL s.su name x l day i d.de st fr:=fun i d st fr h1 h2 h3 h4 h5=>by
  rw[hr];exact mE (ho.symm.trans h1) (hb.symm.trans h2) (by show (s.deals.map jM.de)[i]?=_;rw[aD,h3];rfl) h4 h5
 clear hr;obtain⟨parties,deals,funds,rest,holidays⟩:=s;obtain⟨S,free,⟨c,L⟩,H,D⟩:=x;obtain⟨frm,to,number,kind,ack,deal,text,party,index,day0,cur,amt,docs,boxes⟩:=l;dsimp only at hkind hfz hdz hpz hdl hpl ho hb hat hra;subst hkind;cbv
 (refine ZO hde ((⟨parties,deals,funds,rest,holidays⟩,name,deal):gZ×bH×bH) hdl ?_;try dsimp only)
 rw[←ho];cases o with
 |none=>
  have hr:=hrn rfl;subst hr;cbv;repeat'((first|refine .y fun h=>?_|fail)<;>cbv)
  (refine .q9 ?_;cbv;exact .inl (.g9 hK))
 |some i=>
  obtain⟨d,st,fr,hd,hst,hfr,hokd,hnum⟩:=hat i rfl;cbv;repeat'((first|refine .n fun h=>?_|fail)<;>cbv)
  (refine ZO hpa ((⟨parties,deals,funds,rest,holidays⟩,frm):gZ×bH) hpl ?_;try dsimp only)
  rw[←hb];cases b with
  |false=>
   have hr:=hro rfl;subst hr;cbv
   (refine .q9 ?_;cbv;exact .inl (.g9 hK))
  |true=>
   have hr:=hra i d st fr rfl rfl hd hst hfr;clear hra hro hrn hat
   have hml:=gH hokd;have hbl:=hokd.bx;have hsz:=hokd.sz;have hxf:=hx.few;have hxa:=hx.all;obtain⟨bn,hbn⟩:∃b,b=gI d.number:=⟨_,rfl⟩
   have hRP:KI (⟨c,L⟩,⟨3,index,day,bn,frm,party,cI.noBl⟩):=⟨(show (0:Int)≤3∧(3:Int)≤5 by decide),hxf,hxa,nK,⟨aI _,aI _,aI _,aI _,fun s hs=>(by cases hs)⟩,by(show party.size≤maxLen);unfold maxLen;omega⟩
   obtain⟨⟨⟨c9,L9⟩,e9⟩,hq9⟩:∃q,q=kI ⟨c,L⟩ ⟨3,index,day,bn,frm,party,cI.noBl⟩:=⟨_,rfl⟩
   have hqq:kI (⟨S,free,⟨c,L⟩,H,D⟩:Cs).reg (fA 3 d.de ⟨frm,to,number,23,ack,deal,text,party,index,day0,cur,amt,docs,boxes⟩ day)=(⟨c9,L9⟩,e9):=by rw[hq9,hbn];rfl
   rw[rY (k:=3) (.inr (.inr (.inl ⟨rfl,rfl⟩)))]at hr;have hr1:e9≠0→r=(⟨S,free,⟨c,L⟩,H,D⟩,cF deal day (eV fL ⟨frm,to,number,23,ack,deal,text,party,index,day0,cur,amt,docs,boxes⟩)):=fun h=>by
    rw[hr];exact rD hqq (.inl h)
   have hr2:e9=0→r=(⟨S,free,⟨c9,L9⟩,H,D⟩,[]):=fun h1=>by
    rw[hr];exact DI hqq h1 (fun h=>absurd h.1 (by decide)) (by decide)
   clear hr;obtain⟨dn,dsel,dbuy,dcar,diss,dhou,dins,dfrm,dto,dcur,damt,dbx,dterm,dlat,dexp,dten,dduty⟩:=d;dsimp only at hnum hbl hsz;subst hnum;have z3:(ByteArray.mk (Array.mk [98,108,45])).size=3:=rfl;cbv;repeat'((first|refine .e ?_|refine .n fun h=>?_|refine .y fun h=>?_|refine .u fun u hu hul=>?_|fail)<;>cbv)
   obtain rfl:u=bn:=by rw[hbn];assumption
   refine oL [KF ⟨c,L⟩,Pi ⟨3,index,day,u,frm,party,cI.noBl⟩] Bx ?_
   (refine ZO hdo ((⟨c,L⟩,⟨3,index,day,u,frm,party,cI.noBl⟩):Rg×At) hRP ?_;try dsimp only)
   rw[←hq9];cbv;repeat'((first|refine .n fun h=>?_|refine .mk (fun h=>?_) fun h=>?_|fail)<;>cbv)
   all_goals first
   |((refine ZO hob ((⟨frm,to,number,23,ack,dn,text,party,index,day0,cur,amt,docs,boxes⟩,day):dE×Int) (.inr (.inr (.inl rfl))) ?_;try dsimp only)
     have hr:=hr1 (by assumption);subst hr;cbv
     (refine .q9 ?_;cbv;exact .inl (.g9 hK)))
   |(have hr:=hr2 (by assumption)
     subst hr
     (refine .q9 ?_;cbv;exact .inl (.g9 hK)))
   |fail
theorem xC (P:bI) (hde:bK P 13 nC) (hpa:bK P 17 mA) (hdo:bK P 100 Hh) (hob:bK P 101 tO):bM P Rl (N1 (fun z=>z=24)):=by
 intro args H0 K hc;obtain⟨⟨s,name,x,l,day⟩,rfl,rfl,⟨hkind,hs,hx,hnz,hfz,hdz,hpz⟩,hK⟩:=hc;refine⟨cK,?_⟩;dsimp only at hkind hs hx hnz hfz hdz hpz hK⊢;obtain⟨r,hr⟩:∃r,r=eX fL s.su name x l day:=⟨_,rfl⟩
 rw[←hr]at hK;have hdl:=hs.de;have hpl:=hs.pa;obtain⟨o,ho⟩:∃o,o=dD s.su name l.deal:=⟨_,rfl⟩
 obtain⟨b,hb⟩:∃b,b=kC s.su.parties l.frm:=⟨_,rfl⟩
 have hat:∀i,o=some i→∃d st fr,s.deals[i]?=some d∧x.S[i]?=some st∧x.free[i]?=some fr∧Gz d∧d.number=l.deal:=fun i hi=>by
  rw[ho]at hi;obtain⟨d,h1,h2,h3⟩:=pD hi;have hil:=(aA.1 h1).1;exact⟨d,_,_,h1,aB (by rw[hx.S];exact hil),aB (by rw[hx.F];exact hil),hs.ok d (aC h1),h3⟩
 have hrn:o=none→r=(x,[]):=fun h=>by rw[hr];exact jG (ho.symm.trans h)
 have hro:b=false→r=(x,[]):=fun h=>by rw[hr];exact kM (hb.symm.trans h)
 have hra:∀i d st fr,o=some i→b=true→s.deals[i]?=some d→x.S[i]?=some st→x.free[i]?=some fr→r=nG fL s.su name x l day i d.de st fr:=fun i d st fr h1 h2 h3 h4 h5=>by
  rw[hr];exact mE (ho.symm.trans h1) (hb.symm.trans h2) (by show (s.deals.map jM.de)[i]?=_;rw[aD,h3];rfl) h4 h5
 clear hr;obtain⟨parties,deals,funds,rest,holidays⟩:=s;obtain⟨S,free,⟨c,L⟩,H,D⟩:=x;obtain⟨frm,to,number,kind,ack,deal,text,party,index,day0,cur,amt,docs,boxes⟩:=l;dsimp only at hkind hfz hdz hpz hdl hpl ho hb hat hra;subst hkind;cbv
 (refine ZO hde ((⟨parties,deals,funds,rest,holidays⟩,name,deal):gZ×bH×bH) hdl ?_;try dsimp only)
 rw[←ho];cases o with
 |none=>
  have hr:=hrn rfl;subst hr;cbv;repeat'((first|refine .y fun h=>?_|fail)<;>cbv)
  (refine .q9 ?_;cbv;exact .inl (.g9 hK))
 |some i=>
  obtain⟨d,st,fr,hd,hst,hfr,hokd,hnum⟩:=hat i rfl;cbv;repeat'((first|refine .n fun h=>?_|fail)<;>cbv)
  (refine ZO hpa ((⟨parties,deals,funds,rest,holidays⟩,frm):gZ×bH) hpl ?_;try dsimp only)
  rw[←hb];cases b with
  |false=>
   have hr:=hro rfl;subst hr;cbv
   (refine .q9 ?_;cbv;exact .inl (.g9 hK))
  |true=>
   have hr:=hra i d st fr rfl rfl hd hst hfr;clear hra hro hrn hat
   have hml:=gH hokd;have hbl:=hokd.bx;have hsz:=hokd.sz;have hxf:=hx.few;have hxa:=hx.all;obtain⟨bn,hbn⟩:∃b,b=gI d.number:=⟨_,rfl⟩
   have hRP:KI (⟨c,L⟩,⟨4,index,day,bn,frm,party,cI.noBl⟩):=⟨(show (0:Int)≤4∧(4:Int)≤5 by decide),hxf,hxa,nK,⟨aI _,aI _,aI _,aI _,fun s hs=>(by cases hs)⟩,by(show party.size≤maxLen);unfold maxLen;omega⟩
   obtain⟨⟨⟨c9,L9⟩,e9⟩,hq9⟩:∃q,q=kI ⟨c,L⟩ ⟨4,index,day,bn,frm,party,cI.noBl⟩:=⟨_,rfl⟩
   have hqq:kI (⟨S,free,⟨c,L⟩,H,D⟩:Cs).reg (fA 4 d.de ⟨frm,to,number,24,ack,deal,text,party,index,day0,cur,amt,docs,boxes⟩ day)=(⟨c9,L9⟩,e9):=by rw[hq9,hbn];rfl
   rw[rY (k:=4) (.inr (.inr (.inr ⟨rfl,rfl⟩)))]at hr;have hr1:e9≠0→r=(⟨S,free,⟨c,L⟩,H,D⟩,cF deal day (eV fL ⟨frm,to,number,24,ack,deal,text,party,index,day0,cur,amt,docs,boxes⟩)):=fun h=>by
    rw[hr];exact rD hqq (.inl h)
   have hr2:e9=0→r=(⟨S,free,⟨c9,L9⟩,H,D⟩,[⟨eS,frm,0,25,0,deal,eS,eS,index,day,eS,0,[],[]⟩]):=fun h1=>by
    rw[hr];exact DI hqq h1 (fun h=>absurd h.1 (by decide)) (by decide)
   clear hr;obtain⟨dn,dsel,dbuy,dcar,diss,dhou,dins,dfrm,dto,dcur,damt,dbx,dterm,dlat,dexp,dten,dduty⟩:=d;dsimp only at hnum hbl hsz;subst hnum;have z3:(ByteArray.mk (Array.mk [98,108,45])).size=3:=rfl;cbv;repeat'((first|refine .e ?_|refine .n fun h=>?_|refine .y fun h=>?_|refine .u fun u hu hul=>?_|fail)<;>cbv)
   obtain rfl:u=bn:=by rw[hbn];assumption
   refine oL [KF ⟨c,L⟩,Pi ⟨4,index,day,u,frm,party,cI.noBl⟩] Bx ?_
   (refine ZO hdo ((⟨c,L⟩,⟨4,index,day,u,frm,party,cI.noBl⟩):Rg×At) hRP ?_;try dsimp only)
   rw[←hq9];cbv;repeat'((first|refine .n fun h=>?_|refine .y fun h=>?_|refine .mk (fun h=>?_) fun h=>?_|refine And.intro ?_ ?_|fail)<;>cbv)
   all_goals first
   |((refine ZO hob ((⟨frm,to,number,24,ack,dn,text,party,index,day0,cur,amt,docs,boxes⟩,day):dE×Int) (.inr (.inr (.inr rfl))) ?_;try dsimp only)
     have hr:=hr1 (by assumption);subst hr;cbv
     (refine .q9 ?_;cbv;exact .inl (.g9 hK)))
   |(have hr:=hr2 (by assumption)
     subst hr;refine cZ (Gh.leAt 7 (.row 58 14 (bJ eD [⟨eS,frm,0,25,0,dn,eS,eS,index,day,eS,0,[],[]⟩])) rfl (tL Bx)) ?_;cbv;refine cZ (Gh.plain 7 rfl) ?_;cbv
     (refine .q9 ?_;cbv;exact .inl (.g9 hK)))
   |fail
theorem Bs (f:bH→eJ):∀(bs:List bH) (H:List eJ),∃T,(hU f H bs).1=H++T∧T.length≤bs.length
 |[],H=>⟨[],(List.append_nil H).symm,aN _⟩
 |b :: r,H=>by
  have g1:hU f H (b :: r)=if iG H (f b)≠0 then (H,false) else hU f (H++[f b]) r:=rfl
  rw[g1];by_cases h:iG H (f b)≠0
  ·rw[aF h];exact⟨[],(List.append_nil H).symm,aI _⟩
  ·rw[aE h];obtain⟨T,h1,h2⟩:=Bs f r (H++[f b]);exact⟨f b :: T,by rw[h1,bG];rfl,Nat.succ_le_succ h2⟩
theorem Bg {f:bH→eJ}{bs:List bH}{H H9:List eJ}{o9:Bool}{α:Type}{a:α}{g:List eJ→α}(h:(H9,o9)=hU f H bs):(match iJ f H bs with|none=>a|some K=>g K)=if o9=true then g H9 else a:=by
 rcases B8 f bs H with ⟨h1,h2⟩|⟨H',h1,h2⟩
 ·rw[h1];obtain rfl:o9=false:=by rw[←h]at h2;exact h2
  rfl
 ·rw[h1];rw[h2]at h;cases h;rfl
theorem yR (P:bI) (hde:bK P 13 nC) (hpa:bK P 17 mA) (hdo:bK P 100 Hh) (hob:bK P 101 tO) (hha:bK P 102 uL) (hsd:bK P 94 qP) (hmr:bK P 20 pT):bM P Rl (N1 (fun z=>z=20)):=by
 intro args H0 K hc;obtain⟨⟨s,name,x,l,day⟩,rfl,rfl,⟨hkind,hs,hx,hnz,hfz,hdz,hpz⟩,hK⟩:=hc;refine⟨cK,?_⟩;dsimp only at hkind hs hx hnz hfz hdz hpz hK⊢;obtain⟨r,hr⟩:∃r,r=eX fL s.su name x l day:=⟨_,rfl⟩
 rw[←hr]at hK;have hdl:=hs.de;have hpl:=hs.pa;obtain⟨o,ho⟩:∃o,o=dD s.su name l.deal:=⟨_,rfl⟩
 obtain⟨b,hb⟩:∃b,b=kC s.su.parties l.frm:=⟨_,rfl⟩
 have hat:∀i,o=some i→∃d st fr,s.deals[i]?=some d∧x.S[i]?=some st∧x.free[i]?=some fr∧Gz d∧d.number=l.deal:=fun i hi=>by
  rw[ho]at hi;obtain⟨d,h1,h2,h3⟩:=pD hi;have hil:=(aA.1 h1).1;exact⟨d,_,_,h1,aB (by rw[hx.S];exact hil),aB (by rw[hx.F];exact hil),hs.ok d (aC h1),h3⟩
 have hrn:o=none→r=(x,[]):=fun h=>by rw[hr];exact jG (ho.symm.trans h)
 have hro:b=false→r=(x,[]):=fun h=>by rw[hr];exact kM (hb.symm.trans h)
 have hra:∀i d st fr,o=some i→b=true→s.deals[i]?=some d→x.S[i]?=some st→x.free[i]?=some fr→r=nG fL s.su name x l day i d.de st fr:=fun i d st fr h1 h2 h3 h4 h5=>by
  rw[hr];exact mE (ho.symm.trans h1) (hb.symm.trans h2) (by show (s.deals.map jM.de)[i]?=_;rw[aD,h3];rfl) h4 h5
 clear hr;obtain⟨parties,deals,funds,rest,holidays⟩:=s;obtain⟨S,free,⟨c,L⟩,H,D⟩:=x;obtain⟨frm,to,number,kind,ack,deal,text,party,index,day0,cur,amt,docs,boxes⟩:=l;dsimp only at hkind hfz hdz hpz hdl hpl ho hb hat hra;subst hkind;cbv
 (refine ZO hde ((⟨parties,deals,funds,rest,holidays⟩,name,deal):gZ×bH×bH) hdl ?_;try dsimp only)
 rw[←ho];cases o with
 |none=>
  have hr:=hrn rfl;subst hr;cbv;repeat'((first|refine .y fun h=>?_|fail)<;>cbv)
  (refine .q9 ?_;cbv;exact .inl (.g9 hK))
 |some i=>
  obtain⟨d,st,fr,hd,hst,hfr,hokd,hnum⟩:=hat i rfl;cbv;repeat'((first|refine .n fun h=>?_|fail)<;>cbv)
  (refine ZO hpa ((⟨parties,deals,funds,rest,holidays⟩,frm):gZ×bH) hpl ?_;try dsimp only)
  rw[←hb];cases b with
  |false=>
   have hr:=hro rfl;subst hr;cbv
   (refine .q9 ?_;cbv;exact .inl (.g9 hK))
  |true=>
   have hr:=hra i d st fr rfl rfl hd hst hfr;clear hra hro hrn hat
   have hml:=gH hokd;have hbl:=hokd.bx;have hsz:=hokd.sz;have hxf:=hx.few;have hxa:=hx.all;obtain⟨bn,hbn⟩:∃b,b=gI d.number:=⟨_,rfl⟩
   have hRP:KI (⟨c,L⟩,⟨2,index,day,bn,frm,party,cI.noBl⟩):=⟨(show (0:Int)≤2∧(2:Int)≤5 by decide),hxf,hxa,nK,⟨aI _,aI _,aI _,aI _,fun s hs=>(by cases hs)⟩,by(show party.size≤maxLen);unfold maxLen;omega⟩
   obtain⟨⟨⟨c9,L9⟩,e9⟩,hq9⟩:∃q,q=kI ⟨c,L⟩ ⟨2,index,day,bn,frm,party,cI.noBl⟩:=⟨_,rfl⟩
   have hqq:kI (⟨S,free,⟨c,L⟩,H,D⟩:Cs).reg (fA 2 d.de ⟨frm,to,number,20,ack,deal,text,party,index,day0,cur,amt,docs,boxes⟩ day)=(⟨c9,L9⟩,e9):=by rw[hq9,hbn];rfl
   rw[rY (k:=2) (.inr (.inl ⟨rfl,rfl⟩))]at hr;have hms:=kN hokd;obtain⟨mk,hmk⟩:∃m,m=d.marks:=⟨_,rfl⟩
   have hmk2:d.de.boxes=mk:=hmk.symm;obtain⟨⟨H9,o9⟩,hq5⟩:∃q,q=hU (cS name frm d.to day) H mk:=⟨_,rfl⟩
   have hq6:(H9,o9)=hU (cS name frm d.to day) H d.marks:=by rw[hq5,hmk]
   obtain⟨T9,hT1,hT2⟩:=Bs (cS name frm d.to day) mk H;rw[←hq5]at hT1;replace hT1:H9=H++T9:=hT1;obtain⟨D9,hD9⟩:∃D9,D9=D++T9:=⟨_,rfl⟩
   have hT3:H9.length=H.length+T9.length:=by rw[hT1,aM]
   have hT4:D9.length=D.length+T9.length:=by rw[hD9,aM]
   have hH5:H.length≤40000:=hx.H;have hD5:D.length≤40000:=hx.D;have hS5:S.length≤8:=by have:=hx.S;dsimp only at this;omega
   have hiS:i < S.length:=(aA.1 hst).1;have hr1:e9≠0∨o9=false∨¬st=3∨fr=false→r=(⟨S,free,⟨c,L⟩,H,D⟩,cF deal day (eV fL ⟨frm,to,number,20,ack,deal,text,party,index,day0,cur,amt,docs,boxes⟩)):=fun h=>by
    rw[hr];rcases h with h|h
    ·exact rD hqq (.inl h)
    by_cases h0:e9=0
    rotate_left
    ·exact rD hqq (.inl h0)
    rw[FS hqq h0];refine(Bg hq6).trans ?_;rcases h with rfl|h
    ·rfl
    cases o9 with
    |false=>rfl
    |true=>exact(aF rfl).trans (aF h)
   obtain⟨S2,hS2⟩:∃S2,S2=S.set i 4:=⟨_,rfl⟩
   have eS2:oU ⟨S,free,⟨c9,L9⟩,H9,D9⟩ i 4=⟨S2,free,⟨c9,L9⟩,H9,D9⟩:=by rw[hS2];rfl
   have hr2:e9=0→o9=true→st=3→fr=true→r=(⟨S2,free,⟨c9,L9⟩,H9,D9⟩,[⟨eS,frm,0,21,0,deal,eS,eS,0,day,eS,0,[],mk⟩]):=fun h1 h2 h3 h4=>by
    rw[hr];rw[FS hqq h1];refine(Bg hq6).trans ?_;rw[aF h2];rw[aE (fun h=>h.elim (fun h=>h h3) (fun h=>by rw[h4]at h;cases h))];rw[←eS2,hmk2];show (oU ⟨S,free,⟨c9,L9⟩,H9,D++H9.drop H.length⟩ i 4,_)=_;rw[show H9.drop H.length=T9 from by rw[hT1];exact List.drop_left ..,←hD9];rfl
   have hHP:Rt ⟨H,d,name,frm,d.to,day⟩:=⟨by dsimp only;omega,hokd,by dsimp only;omega,by dsimp only;omega,by dsimp only;omega⟩
   rw[←hmk]at hml;clear hr hq6 hmk2;obtain⟨dn,dsel,dbuy,dcar,diss,dhou,dins,dfrm,dto,dcur,damt,dbx,dterm,dlat,dexp,dten,dduty⟩:=d;dsimp only at hnum hbl hsz;subst hnum;have z3:(ByteArray.mk (Array.mk [98,108,45])).size=3:=rfl;cbv;repeat'((first|refine .e ?_|refine .n fun h=>?_|refine .y fun h=>?_|refine .u fun u hu hul=>?_|fail)<;>cbv)
   obtain rfl:u=bn:=by rw[hbn];assumption
   refine oL [KF ⟨c,L⟩,Pi ⟨2,index,day,u,frm,party,cI.noBl⟩] Bx ?_
   (refine ZO hdo ((⟨c,L⟩,⟨2,index,day,u,frm,party,cI.noBl⟩):Rg×At) hRP ?_;try dsimp only)
   rw[←hq9];cbv;repeat'((first|refine .n fun h=>?_|refine .y fun h=>?_|refine .mk (fun h=>?_) fun h=>?_|fail)<;>cbv)
   all_goals first
   |((refine ZO hob ((⟨frm,to,number,20,ack,dn,text,party,index,day0,cur,amt,docs,boxes⟩,day):dE×Int) (.inr (.inl rfl)) ?_;try dsimp only)
     have hr:=hr1 (.inl (by assumption));subst hr;cbv
     (refine .q9 ?_;cbv;exact .inl (.g9 hK)))
   |((refine ZO hha (⟨H,(⟨dn,dsel,dbuy,dcar,diss,dhou,dins,dfrm,dto,dcur,damt,dbx,dterm,dlat,dexp,dten,dduty⟩:jM),name,frm,dto,day⟩:Tl) hHP ?_;try dsimp only)
     rw[←hmk,←hq5];cbv;repeat'((first|refine .e ?_|refine .mk (fun h=>?_) fun h=>?_|fail)<;>cbv)
     all_goals first
     |((refine ZO hob ((⟨frm,to,number,20,ack,dn,text,party,index,day0,cur,amt,docs,boxes⟩,day):dE×Int) (.inr (.inl rfl)) ?_;try dsimp only)
       have hr:=hr1 (.inr (.inr (.inl (by assumption))));subst hr;cbv
       (refine .q9 ?_;cbv;exact .inl (.g9 hK)))
     |skip
     cases fr with
     |false=>
      have hr:=hr1 (.inr (.inr (.inr rfl)));subst hr;cbv
      (refine ZO hob ((⟨frm,to,number,20,ack,dn,text,party,index,day0,cur,amt,docs,boxes⟩,day):dE×Int) (.inr (.inl rfl)) ?_;try dsimp only)
      cbv
      (refine .q9 ?_;cbv;exact .inl (.g9 hK))
     |true=>
      cases o9 with
      |false=>
       have hr:=hr1 (.inr (.inl rfl));subst hr;cbv
       (refine ZO hob ((⟨frm,to,number,20,ack,dn,text,party,index,day0,cur,amt,docs,boxes⟩,day):dE×Int) (.inr (.inl rfl)) ?_;try dsimp only)
       cbv
       (refine .q9 ?_;cbv;exact .inl (.g9 hK))
      |true=>
       have hr:=hr2 (by assumption) rfl (by assumption) rfl;subst hr;cbv;repeat'((first|refine .k fun z hz=>?_|refine .o ?_|refine .l fun ys hys hyl=>?_|fail)<;>cbv)
       have hzz:z.toNat=H.length:=by rw[hz,cC];rfl
       obtain rfl:ys=D9:=by
        rw[hys,hD9];congr 1;refine Eq.trans (b:=List.drop (Int.toNat ((some z).getD 0)) (List.take (Int.toNat (none.getD (((H9,true).fst.length:Nat):Int))) (H9,true).fst)) (by assumption) ?_;show List.drop z.toNat (List.take (Int.toNat (H9.length:Nat)) H9)=T9;rw[hzz,Int.toNat_natCast,List.take_length,hT1];exact List.drop_left ..
       refine eP 7 rfl ?_;cbv
       (refine ZO hsd ((⟨S,free,⟨c9,L9⟩,H9,ys⟩,i,4):Cs×Nat×Int) ⟨hS5,hiS⟩ ?_;try dsimp only)
       rw[eS2];cbv
       (refine ZO hmr ((⟨dn,dsel,dbuy,dcar,diss,dhou,dins,dfrm,dto,dcur,damt,dbx,dterm,dlat,dexp,dten,dduty⟩:jM)) hbl ?_;try dsimp only)
       rw[←hmk];cbv;repeat'((first|refine And.intro ?_ ?_|fail)<;>cbv)
       all_goals
        try(refine cZ (Gh.leAt 10 (.row 58 14 (bJ eD [⟨eS,frm,0,21,0,dn,eS,eS,0,day,eS,0,[],mk⟩])) rfl (tL Bx)) ?_)
        cbv;refine cZ (Gh.plain 10 rfl) ?_;cbv
        (refine .q9 ?_;cbv;exact .inl (.g9 hK))
       )
theorem wW (P:bI) (hde:bK P 13 nC) (hpa:bK P 17 mA):bM P Rl (N1 (fun z=>¬(z=4∨z=19∨z=8∨z=20∨z=23∨z=24))):=by
 intro args H0 K hc;obtain⟨⟨s,name,x,l,day⟩,rfl,rfl,⟨hkind,hs,hx,hnz,hfz,hdz,hpz⟩,hK⟩:=hc;refine⟨cK,?_⟩;dsimp only at hkind hs hx hnz hfz hdz hpz hK⊢;obtain⟨r,hr⟩:∃r,r=eX fL s.su name x l day:=⟨_,rfl⟩
 rw[←hr]at hK;have hdl:=hs.de;have hpl:=hs.pa;obtain⟨o,ho⟩:∃o,o=dD s.su name l.deal:=⟨_,rfl⟩
 obtain⟨b,hb⟩:∃b,b=kC s.su.parties l.frm:=⟨_,rfl⟩
 have hat:∀i,o=some i→∃d st fr,s.deals[i]?=some d∧x.S[i]?=some st∧x.free[i]?=some fr∧Gz d∧d.number=l.deal:=fun i hi=>by
  rw[ho]at hi;obtain⟨d,h1,h2,h3⟩:=pD hi;have hil:=(aA.1 h1).1;exact⟨d,_,_,h1,aB (by rw[hx.S];exact hil),aB (by rw[hx.F];exact hil),hs.ok d (aC h1),h3⟩
 have hrn:o=none→r=(x,[]):=fun h=>by rw[hr];exact jG (ho.symm.trans h)
 have hro:b=false→r=(x,[]):=fun h=>by rw[hr];exact kM (hb.symm.trans h)
 have hra:∀i d st fr,o=some i→b=true→s.deals[i]?=some d→x.S[i]?=some st→x.free[i]?=some fr→r=nG fL s.su name x l day i d.de st fr:=fun i d st fr h1 h2 h3 h4 h5=>by
  rw[hr];exact mE (ho.symm.trans h1) (hb.symm.trans h2) (by show (s.deals.map jM.de)[i]?=_;rw[aD,h3];rfl) h4 h5
 clear hr;obtain⟨parties,deals,funds,rest,holidays⟩:=s;obtain⟨S,free,⟨c,L⟩,H,D⟩:=x;obtain⟨frm,to,number,kind,ack,deal,text,party,index,day0,cur,amt,docs,boxes⟩:=l;dsimp only at hkind hfz hdz hpz hdl hpl ho hb hat hra;cbv
 (refine ZO hde ((⟨parties,deals,funds,rest,holidays⟩,name,deal):gZ×bH×bH) hdl ?_;try dsimp only)
 rw[←ho];cases o with
 |none=>
  have hr:=hrn rfl;subst hr;cbv;repeat'((first|refine .y fun h=>?_|fail)<;>cbv)
  (refine .q9 ?_;cbv;exact .inl (.g9 hK))
 |some i=>
  obtain⟨d,st,fr,hd,hst,hfr,hokd,hnum⟩:=hat i rfl;cbv;repeat'((first|refine .n fun h=>?_|fail)<;>cbv)
  (refine ZO hpa ((⟨parties,deals,funds,rest,holidays⟩,frm):gZ×bH) hpl ?_;try dsimp only)
  rw[←hb];cases b with
  |false=>
   have hr:=hro rfl;subst hr;cbv
   (refine .q9 ?_;cbv;exact .inl (.g9 hK))
  |true=>
   have hr:=hra i d st fr rfl rfl hd hst hfr;clear hra hro hrn hat
   unfold nG at hr;dsimp only at hr;rw[aE (fun h=>hkind (.inl h)),aE (fun h=>hkind (.inr (.inl h))),aE (fun h=>hkind (.inr (.inr h)))]at hr;subst hr;have hml:=gH hokd;have hbl:=hokd.bx;have hsz:=hokd.sz;obtain⟨dn,dsel,dbuy,dcar,diss,dhou,dins,dfrm,dto,dcur,damt,dbx,dterm,dlat,dexp,dten,dduty⟩:=d;dsimp only at hnum hbl hsz;subst hnum;have z3:(ByteArray.mk (Array.mk [98,108,45])).size=3:=rfl;cbv;repeat'((first|refine .e ?_|refine .n fun h=>?_|refine .u fun u hu hul=>?_|fail)<;>cbv)
   all_goals first
   |(exfalso;exact hkind (by omega))
   |((refine .q9 ?_;cbv;exact .inl (.g9 hK)))
   |fail
theorem HM {P:bI}(hde:bK P 13 nC) (hpa:bK P 17 mA) (hsh:bK P 99 zT) (hdo:bK P 100 Hh) (hob:bK P 101 tO) (hha:bK P 102 uL) (hsd:bK P 94 qP) (hmr:bK P 20 pT):bM P Rl (N1 fun _=>True):=by
 intro args H0 K hc;obtain⟨q,h1,h2,⟨-,h4⟩,h5⟩:=hc;by_cases k1:q.l.kind=4
 ·exact wZ P hde hpa hsh args H0 K ⟨q,h1,h2,⟨k1,h4⟩,h5⟩
 by_cases k2:q.l.kind=19
 ·exact zB P hde hpa args H0 K ⟨q,h1,h2,⟨k2,h4⟩,h5⟩
 by_cases k3:q.l.kind=8
 ·exact yT P hde hpa hdo hob args H0 K ⟨q,h1,h2,⟨k3,h4⟩,h5⟩
 by_cases k4:q.l.kind=20
 ·exact yR P hde hpa hdo hob hha hsd hmr args H0 K ⟨q,h1,h2,⟨k4,h4⟩,h5⟩
 by_cases k5:q.l.kind=23
 ·exact xT P hde hpa hdo hob args H0 K ⟨q,h1,h2,⟨k5,h4⟩,h5⟩
 by_cases k6:q.l.kind=24
 ·exact xC P hde hpa hdo hob args H0 K ⟨q,h1,h2,⟨k6,h4⟩,h5⟩
 exact wW P hde hpa args H0 K ⟨q,h1,h2,⟨fun h=>by rcases h with h|h|h|h|h|h<;>contradiction,h4⟩,h5⟩
def GE:dL:=spec (fun q:gZ×bH=>[F5 q.1,.str q.2]) (fun _=>[]) (fun q=>q.1.deals.length≤8) (fun q=>Fn (BM q.1.su q.2)) fun _=>[]
theorem Ig (P:bI):bM P Y7 GE:=by
 intro args H K hc;obtain⟨⟨⟨parties,deals,funds,rest,holidays⟩,name⟩,rfl,rfl,hp,hK⟩:=hc;refine⟨cK,?_⟩;dsimp only at hp hK⊢;obtain⟨n,hn⟩:∃n:Nat,n=deals.length:=⟨_,rfl⟩
 obtain⟨S,hS⟩:∃S,S=deals.map fun _=>(0:Int):=⟨_,rfl⟩
 obtain⟨F,hF⟩:∃F,F=deals.map fun d=>decide (d.house=eS):=⟨_,rfl⟩
 have eK:BM (gZ.su ⟨parties,deals,funds,rest,holidays⟩) name=⟨S,F,⟨name,[]⟩,[],[]⟩:=by
  unfold BM gZ.su;dsimp only;rw[List.map_map,List.map_map,hS,hF];rfl
 replace hK:K (Fn (BM (gZ.su ⟨parties,deals,funds,rest,holidays⟩) name)) []:=hK;rw[eK]at hK;clear eK;cbv;refine iL (Gh.adoptC 2 0 3 1 rfl rfl) ?_;cbv;refine iL (Gh.adoptC 2 1 4 1 rfl rfl) ?_;cbv;refine bU [3,4] (fun p:{ k:Nat // k≤deals.length }=>[(6,.i (nI p.1))]) (fun p=>[.blk 29 [.sl 3 (bJ mP parties),.sl 17 (bJ lD deals),.sl 3 (bJ mT funds),.sl 1 (bJ dZ rest),.sl 1 (bJ dZ holidays)],.blk 41 [.v (.slice none 0 0),.v (.slice none 0 0),.str ⟨#[]⟩,.v (.slice none 0 0),.v (.slice none 0 0),.v (.slice none 0 0)],.blk 41 [.hd 3,.hd 4,.str name,.v (.slice none 0 0),.v (.slice none 0 0),.v (.slice none 0 0)],.row 3 1 (bJ dZ (S.take p.1)),.row 4 1 (bJ sX (F.take p.1))]) (fun p=>fO n p.1) ⟨0,aI _⟩ ?_;rintro ⟨k,hk⟩;dsimp only at hk⊢;obtain⟨S1,hS1⟩:∃s,s=S.take k:=⟨_,rfl⟩
 obtain⟨F1,hF1⟩:∃s,s=F.take k:=⟨_,rfl⟩
 have hl1:S1.length≤8:=by rw[hS1,aS];omega
 have hl2:F1.length≤8:=by rw[hF1,aS];omega
 rw[←hS1,←hF1];rcases aL k deals.length with hks|hks
 rotate_left
 ·obtain rfl:k=n:=by omega
  have e1:S1=S:=by rw[hS1,bC (by rw[hS,aJ];omega)]
  have e2:F1=F:=by rw[hF1,bC (by rw[hF,aJ];omega)]
  subst e1 e2;cbv;repeat'((first|refine .n fun h=>?_|refine .k fun z hz=>?_|fail)<;>cbv)
  refine cZ (Gh.plain 3 rfl) ?_;cbv
  (refine .r9 (Gh.plain 4 rfl) ?_;cbv;exact .inl (.g9 hK))
 obtain⟨d,hx⟩:=cJ hks;have hs2:S.take (k+1)=S1++[0]:=by rw[hS1,dO (l:=0) (by rw[hS,aD,hx];rfl)]
 have hf2:F.take (k+1)=F1++[decide (d.house=eS)]:=by rw[hF1,dO (l:=decide (d.house=eS)) (by rw[hF,aD,hx];rfl)]
 clear hS hF hS1 hF1;obtain⟨dn,dsel,dbuy,dcar,diss,dhou,dins,dfrm,dto,dcur,damt,dbx,dterm,dlat,dexp,dten,dduty⟩:=d;dsimp only at hf2;unfold eS at hf2;cbv;repeat'((first|refine .e ?_|refine .y fun h=>?_|refine .mk (fun h=>?_) fun h=>?_|refine .k fun z hz=>?_|refine .zl fun zs hzs hzl=>?_|fail)<;>cbv)
 ·rename_i z0 hz0 h0 zs1 hzs1 hzl1;obtain rfl:z=nI (k+1):=bQ;rw[aH h]at hf2;obtain rfl:zs1=bJ dZ (S.take (k+1)):=by(rw[hs2,bW,cD];exact hzs1)
  obtain rfl:zs=bJ sX (F.take (k+1)):=by(rw[hf2,bW,cD];exact hzs)
  exact bN ⟨k+1,hks⟩ (bO (by omega))
 ·rename_i z0 hz0 h0 zs1 hzs1 hzl1;obtain rfl:z=nI (k+1):=bQ;rw[aG h]at hf2;obtain rfl:zs1=bJ dZ (S.take (k+1)):=by(rw[hs2,bW,cD];exact hzs1)
  obtain rfl:zs=bJ sX (F.take (k+1)):=by(rw[hf2,bW,cD];exact hzs)
  exact bN ⟨k+1,hks⟩ (bO (by omega))
structure U2 where
 kind:Int
 n:Int
 deal:bH
structure iB where
 kind:Int
 day:Int
 a:U2
 l:dE
def mG:iB→AV
 |⟨kind,day,⟨ak,an,adeal⟩,⟨frm,to,number,lkind,ack,deal,text,party,index,day0,cur,amt,docs,boxes⟩⟩=>.agg [.i kind,.i day,.i ak,.i an,.str adeal,.str frm,.str to,.i number,.i lkind,.i ack,.str deal,.str text,.str party,.i index,.i day0,.str cur,.i amt,.sl 4 (bJ tW docs),.sl 1 (bJ .str boxes)]
def fD (s:bH):Prop:=s.size≤140737488355328
structure QH (s:gZ):Prop where
 pa:s.parties.length≤maxLen
 de:s.deals.length≤maxLen
 pn:∀p∈s.parties,fD p.name
 ok:∀d∈s.deals,d.boxes.length≤maxLen∧(∀b∈d.boxes,fD b.mark)∧fD d.number∧fD d.seller∧fD d.buyer∧fD d.carrier∧fD d.house∧fD d.frm∧fD d.to
structure W6 (l:List iB):Prop where
 len:l.length≤maxLen
 sz:∀c∈l,fD c.a.deal∧fD c.l.frm∧fD c.l.deal∧fD c.l.party
structure Ya (l:List iB):Prop where
 len:l.length≤40
 sz:∀c∈l,c.a.deal.size≤300∧c.l.frm.size≤300∧c.l.deal.size≤300∧c.l.party.size≤300
structure zO (s:gZ) (name:bH) (l:List iB):Prop where
 s:nZ s
 n:name.size≤60
 l:Ya l
structure xH where
 s:gZ
 name:bH
 l:List iB
structure CU (q:xH):Prop where
 s:QH q.s
 n:fD q.name
 l:W6 q.l
def A5:dL:=sP (fun q:xH=>[F5 q.s,.str q.name,.sl 19 (bJ mG q.l)]) (fun _=>[]) CU (fun q b=>b=true→zO q.s q.name q.l) (fun _ b=>.bl b) fun _ _=>[]
def WO (l:List Gw) (k:Nat):Prop:=∀j y,j < k→l[j]?=some y→y.name.size≤60
def Uq (l:List jM) (k:Nat):Prop:=∀j y,j < k→l[j]?=some y→Gz y
def W5 (l:List IR) (k:Nat):Prop:=∀j y,j < k→l[j]?=some y→y.mark.size≤60
def Wi (l:List iB) (k:Nat):Prop:=∀j c,j < k→l[j]?=some c→c.a.deal.size≤300∧c.l.frm.size≤300∧c.l.deal.size≤300∧c.l.party.size≤300
theorem vL {α:Type}{l:List α}{p:α→Prop}(h:∀j y,j < l.length→l[j]?=some y→p y):∀x∈l,p x:=fun x hx=>by
 obtain⟨j,hj⟩:=aV hx;exact h j x (aA.1 hj).1 hj
theorem sD {α:Type}{l:List α}{p:α→Prop}:∀j y,j < 0→l[j]?=some y→p y:=fun j y h=>absurd h (Nat.not_lt_zero j)
theorem rJ {α:Type}{l:List α}{p:α→Prop}{k:Nat}{x:α}(h:∀j y,j < k→l[j]?=some y→p y) (hx:l[k]?=some x) (hp:p x):∀j y,j < k+1→l[j]?=some y→p y:=fun j y hj hy=>by
 rcases aL j k with h1|h1
 ·exact h j y h1 hy
 ·obtain rfl:j=k:=by omega
  rw[hx]at hy;cases hy;exact hp
theorem ME (P:bI):bM P ZL A5:=by
 intro args H K hc;obtain⟨⟨⟨parties,deals,funds,rest,holidays⟩,name,l⟩,rfl,rfl,hp,hK⟩:=hc;refine⟨cK,?_⟩;obtain⟨⟨hpa,hde,hpn,hok⟩,hnm,hll,hls⟩:=hp;dsimp only at hpa hde hpn hok hnm hll hls hK⊢;unfold fD at hpn hok hnm hls;have hno:K (.bl false) []:=hK false (fun h=>by cases h);have hyes:zO ⟨parties,deals,funds,rest,holidays⟩ name l→K (.bl true) []:=fun h=>hK true fun _=>h
 clear hK;obtain⟨np,hnp⟩:∃n:Nat,n=parties.length:=⟨_,rfl⟩
 obtain⟨nd,hnd⟩:∃n:Nat,n=deals.length:=⟨_,rfl⟩
 obtain⟨nl,hnl⟩:∃n:Nat,n=l.length:=⟨_,rfl⟩
 cbv;repeat'((first|refine .mk (fun h=>?_) fun h=>?_|refine .k fun z hz=>?_|fail)<;>cbv)
 ·(refine .q9 ?_;cbv;exact .inl (.f9 hno))
 ·(refine .q9 ?_;cbv;exact .inl (.f9 hno))
 ·(refine .q9 ?_;cbv;exact .inl (.f9 hno))
 ·(refine .q9 ?_;cbv;exact .inl (.f9 hno))
 have hP:parties.length≤20:=bQ;have hD:deals.length≤8:=bQ;have hN:name.size≤60:=bQ;have hL:l.length≤40:=bQ;refine bU [] (fun p:{ k:Nat // k≤parties.length∧WO parties k }=>[(7,.i (nI p.1))]) (fun _=>[.blk 29 [.sl 3 (bJ mP parties),.sl 17 (bJ lD deals),.sl 3 (bJ mT funds),.sl 1 (bJ dZ rest),.sl 1 (bJ dZ holidays)]]) (fun p=>fO np p.1) ⟨0,aI _,sD⟩ ?_;rintro ⟨k,hk,hf⟩;dsimp only at hk hf⊢;rcases aL k parties.length with hks|hks
 ·obtain⟨⟨pn,pb,pk⟩,hx⟩:=cJ hks;have hpz:=hpn _ (aC hx);dsimp only at hpz;cbv;repeat'((first|refine .e ?_|refine .y fun h=>?_|refine .mk (fun h=>?_) fun h=>?_|refine .k fun z hz=>?_|fail)<;>cbv)
  ·(refine .q9 ?_;cbv;exact .inl (.f9 hno))
  ·obtain rfl:z=nI (k+1):=bQ;exact bN ⟨k+1,hks,rJ hf hx (by dsimp only;((try simp only[vn]at *)<;>omega))⟩ (bO (by omega))
 obtain rfl:k=np:=by omega
 rw[hnp]at hf;have hPall:=vL hf;clear hf hpn;cbv;repeat'((first|refine .n fun h=>?_|refine .k fun z hz=>?_|fail)<;>cbv)
 refine bU [] (fun p:{ k:Nat // k≤deals.length∧Uq deals k }=>[(8,.i (nI p.1))]) (fun _=>[.blk 29 [.sl 3 (bJ mP parties),.sl 17 (bJ lD deals),.sl 3 (bJ mT funds),.sl 1 (bJ dZ rest),.sl 1 (bJ dZ holidays)]]) (fun p=>fO nd p.1) ⟨0,aI _,sD⟩ ?_;rintro ⟨k2,hk2,hf2⟩;dsimp only at hk2 hf2⊢;rcases aL k2 deals.length with hks2|hks2
 ·obtain⟨d,hx⟩:=cJ hks2;obtain⟨hdb,hdm,hd1,hd2,hd3,hd4,hd5,hd6,hd7⟩:=hok _ (aC hx);have hnx:Gz d→Uq deals (k2+1):=fun h=>rJ hf2 hx h
  obtain⟨dn,dsel,dbuy,dcar,diss,dhou,dins,dfrm,dto,dcur,damt,dbx,dterm,dlat,dexp,dten,dduty⟩:=d;dsimp only at hdb hdm hd1 hd2 hd3 hd4 hd5 hd6 hd7;clear hok;cbv;repeat'((first|refine .e ?_|refine .y fun h=>?_|refine .mk (fun h=>?_) fun h=>?_|refine .k fun z hz=>?_|fail)<;>cbv)
  ·(refine .q9 ?_;cbv;exact .inl (.f9 hno))
  ·(refine .q9 ?_;cbv;exact .inl (.f9 hno))
  have hbx:dbx.length≤70:=bQ;have hall:dn.size≤300∧dsel.size≤300∧dbuy.size≤300∧dcar.size≤300∧dhou.size≤300∧dfrm.size≤300∧dto.size≤300:=bQ;obtain⟨nb,hnb⟩:∃n:Nat,n=dbx.length:=⟨_,rfl⟩
  refine bU [] (fun p:{ k:Nat // k≤dbx.length∧W5 dbx k }=>[(10,.i (nI p.1))]) (fun _=>[.blk 29 [.sl 3 (bJ mP parties),.sl 17 (bJ lD deals),.sl 3 (bJ mT funds),.sl 1 (bJ dZ rest),.sl 1 (bJ dZ holidays)]]++[.blk 67 [.str dn,.str dsel,.str dbuy,.str dcar,.str diss,.str dhou,.str dins,.str dfrm,.str dto,.str dcur,.i damt,.sl 3 (bJ Gf dbx),.i dterm,.i dlat,.i dexp,.i dten,.i dduty]]) (fun p=>fO nb p.1) ⟨0,aI _,sD⟩ ?_;rintro ⟨k3,hk3,hf3⟩;dsimp only at hk3 hf3⊢;rcases aL k3 dbx.length with hks3|hks3
  ·obtain⟨⟨bm,bk,bl⟩,hx3⟩:=cJ hks3;have hbz:=hdm _ (aC hx3);dsimp only at hbz;cbv;repeat'((first|refine .e ?_|refine .y fun h=>?_|refine .mk (fun h=>?_) fun h=>?_|refine .k fun z hz=>?_|fail)<;>cbv)
   ·(refine .q9 ?_;cbv;exact .inl (.f9 hno))
   ·obtain rfl:z=nI (k3+1):=bQ;exact bN ⟨k3+1,hks3,rJ hf3 hx3 (by dsimp only;((try simp only[vn]at *)<;>omega))⟩ (bO (by omega))
  obtain rfl:k3=nb:=by omega
  rw[hnb]at hf3;have hBall:=vL hf3;cbv;repeat'((first|refine .n fun h=>?_|refine .k fun z hz=>?_|fail)<;>cbv)
  obtain rfl:z=nI (k2+1):=bQ;exact bN ⟨k2+1,hks2,hnx ⟨hbx,hBall,hall⟩⟩ (bO (by omega))
 obtain rfl:k2=nd:=by omega
 rw[hnd]at hf2;have hDall:=vL hf2;clear hf2 hok;cbv;repeat'((first|refine .n fun h=>?_|refine .k fun z hz=>?_|fail)<;>cbv)
 refine bU [] (fun p:{ k:Nat // k≤l.length∧Wi l k }=>[(11,.i (nI p.1))]) (fun _=>[.blk 29 [.sl 3 (bJ mP parties),.sl 17 (bJ lD deals),.sl 3 (bJ mT funds),.sl 1 (bJ dZ rest),.sl 1 (bJ dZ holidays)]]) (fun p=>fO nl p.1) ⟨0,aI _,sD⟩ ?_;rintro ⟨k4,hk4,hf4⟩;dsimp only at hk4 hf4⊢;rcases aL k4 l.length with hks4|hks4
 ·obtain⟨cx,hx⟩:=cJ hks4;obtain⟨hc1,hc2,hc3,hc4⟩:=hls _ (aC hx);have hnx:(cx.a.deal.size≤300∧cx.l.frm.size≤300∧cx.l.deal.size≤300∧cx.l.party.size≤300)→Wi l (k4+1):=fun h=>rJ hf4 hx h
  obtain⟨ckind,cday,⟨ak,an,adeal⟩,⟨frm,to,number,lkind,ack,deal,text,party,index,day0,cur,amt,docs,boxes⟩⟩:=cx;dsimp only at hc1 hc2 hc3 hc4 hnx;cbv;repeat'((first|refine .e ?_|refine .y fun h=>?_|refine .mk (fun h=>?_) fun h=>?_|refine .k fun z hz=>?_|fail)<;>cbv)
  ·(refine .q9 ?_;cbv;exact .inl (.f9 hno))
  ·obtain rfl:z=nI (k4+1):=bQ;exact bN ⟨k4+1,hks4,hnx bQ⟩ (bO (by omega))
 obtain rfl:k4=nl:=by omega
 rw[hnl]at hf4;have hCall:=vL hf4;cbv;repeat'((first|refine .n fun h=>?_|refine .k fun z hz=>?_|fail)<;>cbv)
 (refine .q9 ?_;cbv;exact .inl (.f9 (hyes ⟨⟨hP,hD,hPall,hDall⟩,hN,⟨hL,hCall⟩⟩)))
structure Sq where
 s:gZ
 name:bH
 x:Cs
 a:U2
 day:Int
structure Rc (q:Sq):Prop where
 s:nZ q.s
 x:Ug q.s q.x
 sz:q.name.size≤60∧q.a.deal.size≤300
 day:-9223372036854775808≤q.day∧q.day≤9223372036854775807
def Y0:Cs×List dE×Int→AV
 |(x,l,e)=>.tup [Fn x,.sl 14 (bJ eD l),.i e]
def Tz (κ:Int→Prop):dL:=spec (fun q:Sq=>[F5 q.s,.str q.name,Fn q.x,.agg [.i q.a.kind,.i q.a.n,.str q.a.deal],.i q.day]) (fun _=>[]) (fun q=>κ q.a.kind∧Rc q) (fun q=>Y0 (kJ eU q.s.su q.name q.x q.a.kind q.a.deal q.day)) fun _=>[]
def Lj (lad:Bl→Ln) (name:bH) (x:Cs) (kind:Int) (i:Nat) (d:De) (st:Int) (day:Int):Cs×List dE×Int:=
   if kind=6 then (if st≠2 then (x,[],9) else (oU x i 3,cF d.number day [{ nJ with to:=d.buyer,kind:=26,boxes:=d.boxes }],0))
   else if st≠1 then (x,[],9) else
    let b:Bl:=gT name (cL d st true) day
    if gR ⟨x.reg,b,d.seller⟩≠0 then (x,[],gR ⟨x.reg,b,d.seller⟩)
    else ({ oU x i 2 with reg:=kB ⟨x.reg,b,d.seller⟩ },cF d.number day [{ nJ with to:=d.seller,kind:=5,docs:=[lad b] }],0)
theorem Cy {lad:Bl→Ln}{s:Su}{name:bH}{x:Cs}{kind:Int}{deal:bH}{day:Int}(hk:kind=5∨kind=6) (h:dD s name deal=none):kJ lad s name x kind deal day=(x,[],4):=by
 unfold kJ;rw[aE (by omega),h]
theorem IK {lad:Bl→Ln}{s:Su}{name:bH}{x:Cs}{kind:Int}{deal:bH}{day:Int}{i:Nat}{d:De}{st:Int}(hk:kind=5∨kind=6) (h:dD s name deal=some i) (h1:s.deals[i]?=some d) (h2:x.S[i]?=some st) :
  kJ lad s name x kind deal day=Lj lad name x kind i d st day:=by
 unfold kJ Lj;rw[aE (by omega),h];dsimp only;rw[h1,h2]
theorem FB (P:bI):bM P Wm (Tz fun k=>¬(k=5∨k=6)):=by
 intro args H0 K hc;obtain⟨⟨s,name,x,⟨kind,an,deal⟩,day⟩,rfl,rfl,⟨hkind,hs,hx,⟨hnz,hdz⟩,hday⟩,hK⟩:=hc;refine⟨cK,?_⟩;dsimp only at hkind hs hx hnz hdz hday hK⊢;obtain⟨r,hr⟩:∃r,r=kJ eU s.su name x kind deal day:=⟨_,rfl⟩
 rw[←hr]at hK;unfold kJ at hr;rw[aF (by omega)]at hr;subst hr;obtain⟨parties,deals,funds,rest,holidays⟩:=s;obtain⟨S,free,⟨c,L⟩,H,D⟩:=x;cbv;repeat'((first|refine .n fun h=>?_|fail)<;>cbv)
 all_goals first
 |(exfalso;exact hkind (by omega))
 |((refine .q9 ?_;cbv;exact .inl (.g9 hK)))
theorem yX (P:bI) (hde:bK P 13 nC) (hsd:bK P 94 qP) (hmr:bK P 20 pT):bM P Wm (Tz fun k=>k=6):=by
 intro args H0 K hc;obtain⟨⟨s,name,x,⟨kind,an,deal⟩,day⟩,rfl,rfl,⟨hkind,hs,hx,⟨hnz,hdz⟩,hday⟩,hK⟩:=hc;refine⟨cK,?_⟩;dsimp only at hkind hs hx hnz hdz hday hK⊢;obtain⟨r,hr⟩:∃r,r=kJ eU s.su name x kind deal day:=⟨_,rfl⟩
 rw[←hr]at hK;have hdl:=hs.de;obtain⟨o,ho⟩:∃o,o=dD s.su name deal:=⟨_,rfl⟩
 have hat:∀i,o=some i→∃d st,s.deals[i]?=some d∧x.S[i]?=some st∧Gz d∧d.number=deal:=fun i hi=>by
  rw[ho]at hi;obtain⟨d,h1,h2,h3⟩:=pD hi;have hil:=(aA.1 h1).1;exact⟨d,_,h1,aB (by rw[hx.S];exact hil),hs.ok d (aC h1),h3⟩
 have hrn:o=none→r=(x,[],4):=fun h=>by rw[hr];exact Cy (by omega) (ho.symm.trans h)
 have hra:∀i d st,o=some i→s.deals[i]?=some d→x.S[i]?=some st→r=Lj eU name x kind i d.de st day:=fun i d st h1 h3 h4=>by
  rw[hr];exact IK (by omega) (ho.symm.trans h1) (by show (s.deals.map jM.de)[i]?=_;rw[aD,h3];rfl) h4
 clear hr;obtain⟨parties,deals,funds,rest,holidays⟩:=s;obtain⟨S,free,⟨c,L⟩,H,D⟩:=x;subst hkind;dsimp only at hdl ho hat hra;cbv;repeat'((first|refine .n fun h=>?_|refine .y fun h=>?_|fail)<;>cbv)
 (refine ZO hde ((⟨parties,deals,funds,rest,holidays⟩,name,deal):gZ×bH×bH) hdl ?_;try dsimp only)
 rw[←ho];cases o with
 |none=>
  have hr:=hrn rfl;subst hr;cbv;repeat'((first|refine .y fun h=>?_|fail)<;>cbv)
  (refine .q9 ?_;cbv;exact .inl (.g9 hK))
 |some i=>
  obtain⟨d,st,hd,hst,hokd,hnum⟩:=hat i rfl;have hr:=hra i d st rfl hd hst;clear hra hrn hat
  unfold Lj at hr;dsimp only at hr;have hml:=gH hokd;have hms:=kN hokd;have hbl:=hokd.bx;have hsz:=hokd.sz;obtain⟨mk,hmk⟩:∃m,m=d.marks:=⟨_,rfl⟩
  have hmk2:d.de.boxes=mk:=hmk.symm;rw[←hmk]at hml hms;have hS5:S.length≤8:=by have:=hx.S;dsimp only at this;omega
  have hiS:i < S.length:=(aA.1 hst).1;rw[aF rfl,hmk2]at hr;obtain⟨S2,hS2⟩:∃S2,S2=S.set i 3:=⟨_,rfl⟩
  have eS2:oU ⟨S,free,⟨c,L⟩,H,D⟩ i 3=⟨S2,free,⟨c,L⟩,H,D⟩:=by rw[hS2];rfl
  rw[eS2]at hr;obtain⟨dn,dsel,dbuy,dcar,diss,dhou,dins,dfrm,dto,dcur,damt,dbx,dterm,dlat,dexp,dten,dduty⟩:=d;dsimp only at hnum hbl hsz;subst hnum;cbv;repeat'((first|refine .e ?_|refine .n fun h=>?_|refine .y fun h=>?_|refine .mk (fun h=>?_) fun h=>?_|fail)<;>cbv)
  all_goals first
  |(rw[aF (by assumption)]at hr
    subst hr
    (refine .q9 ?_;cbv;exact .inl (.g9 hK)))
  |skip
  rw[aE (fun h=>h (by assumption))]at hr;replace hr:r=(⟨S2,free,⟨c,L⟩,H,D⟩,[⟨eS,dbuy,0,26,0,dn,eS,eS,0,day,eS,0,[],mk⟩],0):=hr;subst hr
  (refine ZO hsd ((⟨S,free,⟨c,L⟩,H,D⟩,i,3):Cs×Nat×Int) ⟨hS5,hiS⟩ ?_;try dsimp only)
  rw[eS2];cbv
  (refine ZO hmr (⟨dn,dsel,dbuy,dcar,diss,dhou,dins,dfrm,dto,dcur,damt,dbx,dterm,dlat,dexp,dten,dduty⟩:jM) hbl ?_;try dsimp only)
  rw[←hmk];cbv;repeat'((first|refine And.intro ?_ ?_|fail)<;>cbv)
  all_goals
   refine cZ (Gh.leAt 5 (.row 58 14 (bJ eD [⟨eS,dbuy,0,26,0,dn,eS,eS,0,day,eS,0,[],mk⟩])) rfl (tL Bx)) ?_;cbv;refine cZ (Gh.plain 5 rfl) ?_;cbv
   (refine .q9 ?_;cbv;exact .inl (.g9 hK))
theorem zD (P:bI) (hde:bK P 13 nC) (hsd:bK P 94 qP) (hbl5:bK P 95 zW) (his:bK P 96 uG) (hla:bK P 97 GC):bM P Wm (Tz fun k=>k=5):=by
 intro args H0 K hc;obtain⟨⟨s,name,x,⟨kind,an,deal⟩,day⟩,rfl,rfl,⟨hkind,hs,hx,⟨hnz,hdz⟩,hday⟩,hK⟩:=hc;refine⟨cK,?_⟩;dsimp only at hkind hs hx hnz hdz hday hK⊢;obtain⟨r,hr⟩:∃r,r=kJ eU s.su name x kind deal day:=⟨_,rfl⟩
 rw[←hr]at hK;have hdl:=hs.de;obtain⟨o,ho⟩:∃o,o=dD s.su name deal:=⟨_,rfl⟩
 have hat:∀i,o=some i→∃d st,s.deals[i]?=some d∧x.S[i]?=some st∧Gz d∧d.number=deal:=fun i hi=>by
  rw[ho]at hi;obtain⟨d,h1,h2,h3⟩:=pD hi;have hil:=(aA.1 h1).1;exact⟨d,_,h1,aB (by rw[hx.S];exact hil),hs.ok d (aC h1),h3⟩
 have hrn:o=none→r=(x,[],4):=fun h=>by rw[hr];exact Cy (by omega) (ho.symm.trans h)
 have hra:∀i d st,o=some i→s.deals[i]?=some d→x.S[i]?=some st→r=Lj eU name x kind i d.de st day:=fun i d st h1 h3 h4=>by
  rw[hr];exact IK (by omega) (ho.symm.trans h1) (by show (s.deals.map jM.de)[i]?=_;rw[aD,h3];rfl) h4
 clear hr;obtain⟨parties,deals,funds,rest,holidays⟩:=s;obtain⟨S,free,⟨c,L⟩,H,D⟩:=x;subst hkind;dsimp only at hdl ho hat hra;cbv;repeat'((first|refine .y fun h=>?_|fail)<;>cbv)
 (refine ZO hde ((⟨parties,deals,funds,rest,holidays⟩,name,deal):gZ×bH×bH) hdl ?_;try dsimp only)
 rw[←ho];cases o with
 |none=>
  have hr:=hrn rfl;subst hr;cbv;repeat'((first|refine .y fun h=>?_|fail)<;>cbv)
  (refine .q9 ?_;cbv;exact .inl (.g9 hK))
 |some i=>
  obtain⟨d,st,hd,hst,hokd,hnum⟩:=hat i rfl;have hr:=hra i d st rfl hd hst;clear hra hrn hat
  unfold Lj at hr;dsimp only at hr;have hml:=gH hokd;have hms:=kN hokd;have hbl:=hokd.bx;have hsz:=hokd.sz;obtain⟨mk,hmk⟩:∃m,m=d.marks:=⟨_,rfl⟩
  have hmk2:d.de.boxes=mk:=hmk.symm;rw[←hmk]at hml hms;have hS5:S.length≤8:=by have:=hx.S;dsimp only at this;omega
  have hiS:i < S.length:=(aA.1 hst).1;rw[aE (by decide)]at hr;have hxf:=hx.few;have hxa:=hx.all;obtain⟨b,hb⟩:∃b:Bl,b=gT name (cL d.de 0 true) day:=⟨_,rfl⟩
  have hbb:gT name (cL d.de st true) day=b:=by rw[hb];rfl
  have hbm:b=⟨Ph++d.number,name,d.seller,d.frm,d.to,mk,[],day,true⟩:=by rw[hb,hmk];rfl
  have hbz:b.number.size≤1000∧b.shipper.size≤1000∧b.frm.size≤1000∧b.to.size≤1000:=by
   rw[hbm];have h3:Ph.size=3:=rfl;have:=ByteArray.size_append (a:=Ph) (b:=d.number);exact⟨by dsimp only;omega,by dsimp only;omega,by dsimp only;omega,by dsimp only;omega⟩
  have hIP:MV ⟨⟨c,L⟩,b,d.seller⟩:=by
   refine⟨hxf,fun y hy=>(hxa y hy).2,?_,⟨by show b.number.size≤maxLen;unfold maxLen;omega,by show b.shipper.size≤maxLen;unfold maxLen;omega,by show b.frm.size≤maxLen;unfold maxLen;omega,by show b.to.size≤maxLen;unfold maxLen;omega,?_⟩,by show d.seller.size≤maxLen;unfold maxLen;omega⟩
   ·show b.boxes.length≤5000∧b.parents.length≤5000;rw[hbm];exact⟨by dsimp only;omega,aI _⟩
   ·rw[hbm];intro s hs;cases hs
  have hLP:RU b:=by
   rw[hbm];exact⟨⟨by dsimp only;omega,fun s hs=>by have:=hms s hs;omega⟩,⟨aI _,fun s hs=>by cases hs⟩,hday⟩
  rw[hbb]at hr;obtain⟨⟨dk,dn1,di,dfs⟩,hdc⟩:∃q,q=eU b:=⟨_,rfl⟩
  obtain⟨S2,hS2⟩:∃S2,S2=S.set i 2:=⟨_,rfl⟩
  have eS2:oU ⟨S,free,⟨c,L⟩,H,D⟩ i 2=⟨S2,free,⟨c,L⟩,H,D⟩:=by rw[hS2];rfl
  rw[eS2,←hdc]at hr;obtain⟨e9,he9⟩:∃e,e=gR ⟨⟨c,L⟩,b,d.seller⟩:=⟨_,rfl⟩
  obtain⟨⟨c9,L9⟩,hR9⟩:∃R,R=kB ⟨⟨c,L⟩,b,d.seller⟩:=⟨_,rfl⟩
  have hr1:st≠1→r=(⟨S,free,⟨c,L⟩,H,D⟩,[],9):=fun h=>by rw[hr,aF h]
  have hr2:st=1→e9≠0→r=(⟨S,free,⟨c,L⟩,H,D⟩,[],e9):=fun h h1=>by
   rw[hr,aE (fun h2=>h2 h)];show (if gR ⟨⟨c,L⟩,b,d.seller⟩≠0 then ((⟨S,free,⟨c,L⟩,H,D⟩:Cs),([]:List dE),gR ⟨⟨c,L⟩,b,d.seller⟩) else _)=_;rw[←he9,aF h1]
  have hr3:st=1→e9=0→r=(⟨S2,free,⟨c9,L9⟩,H,D⟩,[⟨eS,d.seller,0,5,0,d.number,eS,eS,0,day,eS,0,[⟨dk,dn1,di,dfs⟩],[]⟩],0):=fun h h1=>by
   rw[hr,aE (fun h2=>h2 h)];show (if gR ⟨⟨c,L⟩,b,d.seller⟩≠0 then _ else (({ (⟨S2,free,⟨c,L⟩,H,D⟩:Cs)with reg:=kB ⟨⟨c,L⟩,b,d.seller⟩ }:Cs),_))=_;rw[←he9,aE (fun h=>h h1),←hR9];rfl
  clear hr;obtain⟨dn,dsel,dbuy,dcar,diss,dhou,dins,dfrm,dto,dcur,damt,dbx,dterm,dlat,dexp,dten,dduty⟩:=d;dsimp only at hnum hbl hsz;subst hnum;cbv;repeat'((first|refine .e ?_|refine .n fun h=>?_|refine .mk (fun h=>?_) fun h=>?_|fail)<;>cbv)
  all_goals first
  |(have hr:=hr1 (by assumption)
    subst hr
    (refine .q9 ?_;cbv;exact .inl (.g9 hK)))
  |skip
  (refine ZO hbl5 (((⟨dn,dsel,dbuy,dcar,diss,dhou,dins,dfrm,dto,dcur,damt,dbx,dterm,dlat,dexp,dten,dduty⟩:jM),name,day):jM×bH×Int) ⟨hbl,hdz⟩ ?_;try dsimp only)
  rw[←hb];obtain⟨bnum,bcar,bshi,bfrm,bto,bboxes,bpar,biss,bcl⟩:=b;cbv
  (refine ZO his (⟨⟨c,L⟩,⟨bnum,bcar,bshi,bfrm,bto,bboxes,bpar,biss,bcl⟩,dsel⟩:oV) hIP ?_;try dsimp only)
  rw[←he9,←hR9];cbv;repeat'((first|refine .mk (fun h=>?_) fun h=>?_|fail)<;>cbv)
  all_goals first
  |(have hr:=hr2 (by assumption) (by assumption)
    subst hr
    (refine .q9 ?_;cbv;exact .inl (.g9 hK)))
  |skip
  have hr:=hr3 (by assumption) (by assumption);subst hr
  (refine ZO hsd ((⟨S,free,⟨c,L⟩,H,D⟩,i,2):Cs×Nat×Int) ⟨hS5,hiS⟩ ?_;try dsimp only)
  rw[eS2];cbv
  (refine ZO hla (⟨bnum,bcar,bshi,bfrm,bto,bboxes,bpar,biss,bcl⟩:Bl) hLP ?_;try dsimp only)
  rw[←hdc];cbv;repeat'((first|refine And.intro ?_ ?_|fail)<;>cbv)
  all_goals
   refine cZ (Gh.leAt 8 (.row 58 14 (bJ eD [⟨eS,dsel,0,5,0,dn,eS,eS,0,day,eS,0,[⟨dk,dn1,di,dfs⟩],[]⟩])) rfl (tL Bx)) ?_;cbv;refine cZ (Gh.plain 8 rfl) ?_;cbv
   (refine .q9 ?_;cbv;exact .inl (.g9 hK))
theorem JH {P:bI}(hde:bK P 13 nC) (hsd:bK P 94 qP) (hmr:bK P 20 pT) (hbl5:bK P 95 zW) (his:bK P 96 uG) (hla:bK P 97 GC):bM P Wm (Tz fun _=>True):=by
 intro args H0 K hc;obtain⟨q,h1,h2,⟨-,h4⟩,h5⟩:=hc;by_cases k1:q.a.kind=5
 ·exact zD P hde hsd hbl5 his hla args H0 K ⟨q,h1,h2,⟨k1,h4⟩,h5⟩
 by_cases k2:q.a.kind=6
 ·exact yX P hde hsd hmr args H0 K ⟨q,h1,h2,⟨k2,h4⟩,h5⟩
 exact FB P args H0 K ⟨q,h1,h2,⟨fun h=>by rcases h with h|h<;>contradiction,h4⟩,h5⟩
end Go.Proofs.YtigdiekbiphhmaaGreatDoor
end
