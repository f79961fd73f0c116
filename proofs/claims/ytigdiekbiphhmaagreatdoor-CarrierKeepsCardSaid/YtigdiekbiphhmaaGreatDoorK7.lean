/-
  Texts of this proof,joined: CWJ,SI3,SI1,SI2,SI5,SIZ,CWO,CWP,CWR,CWS,CWT,CWQ,CWU,CWK,CWL,CWM.
-/
import Derived.Test.YtigdiekbiphhmaaGreatDoorK6
set_option linter.unusedVariables false
set_option linter.unusedSimpArgs false
noncomputable section
namespace Go.Proofs.YtigdiekbiphhmaaGreatDoor
open Go.RowKit
set_option maxHeartbeats 8000000
set_option maxRecDepth 100000
structure ShI (name:bH) (d:De) (day:Int) (H:List eC) (bs:List bH) (p:Nat×List eC):Prop where
 le:p.1≤bs.length
 eq:kX name d day H bs=kX name d day p.2 (bs.drop p.1)
 len:p.2.length≤H.length+2 * p.1
structure QH where
 x:Cs
 d:jD
 i:Nat
 name:bH
 day:Int
structure Sn (q:QH):Prop where
 len:q.x.H.length≤50000
 ok:Gq q.d
 S:q.x.S.length≤8∧q.i < q.x.S.length
 sz:q.name.size≤1000
def Aw (q:QH):Cs:=match kX q.name q.d.de q.day q.x.H q.d.marks with
 |none=>q.x
 |some H=>oQ { q.x with H:=H } q.i 1
def zL:dA:=spec (fun q:QH=>[Fc q.x,jS q.d,.i (nI q.i),.str q.name,.i q.day]) (fun _=>[]) Sn (fun q=>Fc (Aw q)) fun _=>[]
theorem EA (P:bI) (hm:bK P 20 pP) (hb:bK P 140 CG) (hh:bK P 141 CY) (hs:bK P 94 qP):bM P x99 zL:=by
 intro args H K hc;obtain⟨⟨⟨S,free,⟨c,L⟩,H,D⟩,d,i,name,day⟩,rfl,rfl,hp,hK⟩:=hc;refine⟨cL,?_⟩;dsimp only at hp hK⊢;obtain⟨hl,hok,⟨hS8,hiS⟩,hnm⟩:=hp
 try dsimp only at hl hS8 hiS hnm
 have hml:=gD hok;have hms:=kJ hok;have hbl:=hok.bx;have hsz:=hok.sz;obtain⟨bs,hbs⟩:∃q,q=d.marks:=⟨_,rfl⟩
 obtain⟨q,hq⟩:∃q,q=kX name d.de day H bs:=⟨_,rfl⟩
 replace hK:K (Fc (Aw ⟨⟨S,free,⟨c,L⟩,H,D⟩,d,i,name,day⟩)) []:=hK;unfold Aw at hK;dsimp only at hK;rw[←hbs,←hq]at hK;rw[←hbs]at hml hms;obtain⟨n,hn⟩:∃n:Nat,n=bs.length:=⟨_,rfl⟩
 obtain⟨de,hde⟩:∃e,e=d.de:=⟨_,rfl⟩
 have hdS:de.seller=d.seller:=by rw[hde];rfl
 have hdF:de.frm=d.frm:=by rw[hde];rfl
 rw[←hde]at hq;clear hok;obtain⟨number,seller,buyer,carrier,issuer,house,insurer,frm,to,cur,amt,boxes,term,latest,expiry,tenor,duty⟩:=d
 try dsimp only at hbl hdS hdF hsz
 clear hde;cbv
 (refine bX hm (⟨number,seller,buyer,carrier,issuer,house,insurer,frm,to,cur,amt,boxes,term,latest,expiry,tenor,duty⟩:jD) hbl ?_;try dsimp only)
 rw[←hbs];cbv;refine bS [] (fun p:{ p:Nat×List eC // ShI name de day H bs p }=>[(11,.sl 5 (bJ dG p.1.2)),(13,.i (nI p.1.1))]) (fun _=>[.blk 41 [.sl 1 (bJ dO S),.sl 1 (bJ pZ free),.str c,.sl 11 (bJ iP L),.sl 5 (bJ dG H),.sl 5 (bJ dG D)],.blk 67 [.str number,.str seller,.str buyer,.str carrier,.str issuer,.str house,.str insurer,.str frm,.str to,.str cur,.i amt,.sl 3 (bJ F6 boxes),.i term,.i latest,.i expiry,.i tenor,.i duty],.blk 41 [.v (.slice none 0 0),.v (.slice none 0 0),.str ⟨#[]⟩,.v (.slice none 0 0),.v (.slice none 0 0),.v (.slice none 0 0)]]) (fun p=>eW n p.1.1) ⟨(0,H),⟨aI _,rfl,aN _⟩⟩ ?_;rintro ⟨⟨k,Hk⟩,⟨hk,heq,hlen⟩⟩;dsimp only at hk heq hlen⊢;rcases aL k bs.length with hks|hks
 rotate_left
 ·obtain rfl:k=n:=by omega
  rw[List.drop_of_length_le (by omega),←hq]at heq;have e1:q=some Hk:=heq;rw[e1]at hK;dsimp only at hK;cbv;repeat'((first|refine .n fun h=>?_|refine .k fun z hz=>?_|fail)<;>cbv)
  obtain⟨S2,hS2⟩:∃S2,S2=S.set i 1:=⟨_,rfl⟩
  have eS2:oQ ⟨S,free,⟨c,L⟩,Hk,D⟩ i 1=⟨S2,free,⟨c,L⟩,Hk,D⟩:=by rw[hS2];rfl
  (refine bX hs ((⟨S,free,⟨c,L⟩,Hk,D⟩,i,1):Cs×Nat×Int) ⟨hS8,hiS⟩ ?_;try dsimp only)
  rw[eS2]at hK⊢;cbv
  (refine .q9 ?_;cbv;exact .inl (.f9 hK))
 obtain⟨b,hx⟩:=cK hks;have hbz:=hms b (aC hx);have hdr:bs.drop k=b :: bs.drop (k+1):=by
  obtain⟨h1,rfl⟩:=aA.1 hx;exact List.drop_eq_getElem_cons h1
 have heq2:kX name de day H bs=if vL Hk ⟨b,eS,seller,frm,day⟩≠0 then none else if iD (Hk++[⟨b,eS,seller,frm,day⟩]) ⟨b,seller,name,frm,day⟩≠0 then none else kX name de day (Hk++[⟨b,eS,seller,frm,day⟩]++[⟨b,seller,name,frm,day⟩]) (bs.drop (k+1)):=by
  rw[heq,hdr,←hdS,←hdF];rfl
 clear heq hdr;obtain⟨e,he⟩:∃e,e=vL Hk ⟨b,eS,seller,frm,day⟩:=⟨_,rfl⟩
 obtain⟨H2,hH2⟩:∃H2,H2=Hk++[⟨b,eS,seller,frm,day⟩]:=⟨_,rfl⟩
 have hH2l:H2.length=Hk.length+1:=by rw[hH2];simp
 rw[←he,←hH2]at heq2;obtain⟨e2,he2⟩:∃e,e=iD H2 ⟨b,seller,name,frm,day⟩:=⟨_,rfl⟩
 rw[←he2]at heq2;have hlong:∀s:bH,s.size≤1000→s.size≤maxLen:=fun s h=>by unfold maxLen;omega
 cbv;repeat'((first|refine .e ?_|refine .y fun h=>?_|refine .k fun z hz=>?_|fail)<;>cbv)
 (refine bX hb ((Hk,⟨b,eS,seller,frm,day⟩):List eC×eC) ⟨by dsimp only;omega,hlong _ (by dsimp only;omega),hlong _ (by dsimp only;omega),hlong _ (by dsimp only;omega)⟩ ?_;try dsimp only)
 rw[←he];cbv;repeat'((first|refine .e ?_|refine .mk (fun h=>?_) fun h=>?_|refine .o ?_|refine .zl fun zs hzs hzl=>?_|refine And.intro ?_ ?_|fail)<;>cbv)
 all_goals first
  |(rw[aF (by assumption),←hq]at heq2
    rw[heq2]at hK
    (refine .q9 ?_;cbv;exact .inl (.f9 hK)))
  |skip
 all_goals
  rw[aE (fun h=>h (by assumption))]at heq2;obtain rfl:zs=bJ dG H2:=by(rw[hH2,cD,cF];first|exact hzs|(subst_vars;rfl))
  first
  |(refine fS 3 rfl ?_
    cbv
    (refine bX hh ((H2,⟨b,seller,name,frm,day⟩):List eC×eC) ⟨by dsimp only;omega,hlong _ (by dsimp only;omega),hlong _ (by dsimp only;omega),hlong _ (by dsimp only;omega),hlong _ (by dsimp only;omega)⟩ ?_;try dsimp only))
  |(refine fS 4 rfl ?_
    cbv
    (refine bX hh ((H2,⟨b,seller,name,frm,day⟩):List eC×eC) ⟨by dsimp only;omega,hlong _ (by dsimp only;omega),hlong _ (by dsimp only;omega),hlong _ (by dsimp only;omega),hlong _ (by dsimp only;omega)⟩ ?_;try dsimp only))
  |(refine fS 5 rfl ?_
    cbv
    (refine bX hh ((H2,⟨b,seller,name,frm,day⟩):List eC×eC) ⟨by dsimp only;omega,hlong _ (by dsimp only;omega),hlong _ (by dsimp only;omega),hlong _ (by dsimp only;omega),hlong _ (by dsimp only;omega)⟩ ?_;try dsimp only))
  |(refine fS 6 rfl ?_
    cbv
    (refine bX hh ((H2,⟨b,seller,name,frm,day⟩):List eC×eC) ⟨by dsimp only;omega,hlong _ (by dsimp only;omega),hlong _ (by dsimp only;omega),hlong _ (by dsimp only;omega),hlong _ (by dsimp only;omega)⟩ ?_;try dsimp only))
  rw[←he2];cbv;repeat'((first|refine .mk (fun h=>?_) fun h=>?_|refine .k fun z hz=>?_|refine .o ?_|refine .zl fun zs hzs hzl=>?_|refine And.intro ?_ ?_|fail)<;>cbv)
  all_goals first
   |(rw[aF (by assumption),←hq]at heq2
     rw[heq2]at hK
     (refine .q9 ?_;cbv;exact .inl (.f9 hK)))
   |(rw[aE (fun h=>h (by assumption))]at heq2
     obtain rfl:z=nI (k+1):=bQ;obtain rfl:zs=bJ dG (H2++[⟨b,seller,name,frm,day⟩]):=by(rw[cD,cF];first|exact hzs|(subst_vars;rfl))
     refine dK (Gh.plain 8 rfl) ?_;cbv;exact bN ⟨(k+1,H2++[⟨b,seller,name,frm,day⟩]),⟨hks,heq2,by(show (H2++[_]).length≤H.length+2 * (k+1);rw[aM,List.length_cons,List.length_nil];omega)⟩⟩ (bO (by omega)))
set_option maxHeartbeats 4000000
theorem jF {L a b:List Br}{y:Br}{i:Nat}{x:AV}{n:Int}{zs1 zs:List AV}(h4:zs=zs1++bJ iP b) (h2:b=List.drop ((some n).getD 0).toNat (List.take ((none:Option Int).getD (L.length:Int)).toNat L)) (h3:zs1=bJ iP a++[x]) (h1:a=List.drop ((none:Option Int).getD 0).toNat (List.take ((some (Int.ofNat i)).getD (L.length:Int)).toNat L)) (hx:x=iP y) (hn:n=Int.ofNat i+1) (hi:i < L.length):zs=bJ iP (L.set i y):=by
 have e1:a=L.take i:=by rw[h1];simp
 have e2:b=L.drop (i+1):=by
  rw[h2,hn];have:((some (Int.ofNat i+1)).getD 0).toNat=i+1:=by show ((i:Int)+1).toNat=i+1;omega
  rw[this];simp
 rw[h4,h3,e1,e2,hx,List.set_eq_take_append_cons_drop,aF hi,cD];have e:bJ iP (y :: L.drop (i+1))=iP y :: bJ iP (L.drop (i+1)):=rfl;rw[e,bG];rfl
theorem Ll (P:bI) (hw:bK P 142 mU) (hf:bK P 63 sJ) (hwh:bK P 143 oP):bM P Ky (qA 3):=by
 intro args H K hc;obtain⟨⟨⟨carrier,L⟩,a⟩,rfl,rfl,hp,hK⟩:=hc;refine⟨cL,?_⟩;dsimp only at hp hK⊢;obtain⟨hkind,_,hfew,hall,hok,hsz,hts⟩:=hp;dsimp only at hkind hfew hall hok hsz hts;have hd:kF ⟨carrier,L⟩ a=(⟨carrier,gB L (cX a) (mD a)⟩,eM L (cX a)):=by unfold kF;rw[aE (by omega)]
 rw[hd]at hK;clear hd;obtain⟨e,he⟩:∃e,e=eM L (cX a):=⟨_,rfl⟩
 obtain⟨L',hL'⟩:∃L',L'=gB L (cX a) (mD a):=⟨_,rfl⟩
 rw[←he,←hL']at hK;unfold gB at hL';rw[←he]at hL';obtain⟨kind,index,day,bill,by_,to,b⟩:=a;obtain rfl:kind=3:=hkind;obtain⟨nq2,cq2,sq2,frm2,to2,bq2,pq2,iq2,lq2⟩:=b;cbv;repeat'((first|refine .n fun h=>?_|fail)<;>cbv)
 (refine bX hw ((⟨carrier,L⟩:Rg),(⟨3,index,day,bill,by_,to,⟨nq2,cq2,sq2,frm2,to2,bq2,pq2,iq2,lq2⟩⟩:At)) ⟨⟨by show (1:Int)≤3;decide,by show (3:Int)≤5;decide⟩,hfew,fun b hb=>(hall b hb).1,hts⟩ ?_;try dsimp only)
 rw[←he];cbv;repeat'((first|refine .mk (fun h=>?_) fun h=>?_|fail)<;>cbv)
 ·rw[aF (by assumption:e=0)]at hL';have h0:e=0:=by assumption
  rw[h0]at hK;obtain⟨f,hf1⟩:∃f,f=pA (fun y:Br=>decide (y.b.number=bill)) L:=⟨_,rfl⟩
  (refine bX hf ((⟨carrier,L⟩:Rg),bill) (by dsimp only;omega) ?_;try dsimp only)
  rw[←hf1];cases hb:oL L bill with
  |none=>exact(jU (he.symm.trans (by assumption:e=0)) hb).elim
  |some i=>
   rw[lJ,hb]at hf1;dsimp only at hf1;subst hf1;obtain⟨x,hx,_⟩:=eA hb;have hii:=(aA.1 hx).1;have hz:=lD (he.symm.trans (by assumption:e=0)) hb hx;have hk:=mN hz;clear hz;have hL':L'=BD L bill (tL index (xU 3)):=hL';rw[gT _ hb hx]at hL';have hki:0≤index∧index < 3:=hk;have hk3:index=0∨index=1∨index=2:=by omega
   obtain⟨⟨nq1,cq1,sq1,frm1,to1,bq1,pq1,iq1,lq1⟩,st1,⟨sa1,ha1,ca1⟩,⟨sb1,hb1,cb1⟩,⟨sc1,hc1,cc1⟩⟩:=x;rcases hk3 with rfl|rfl|rfl
   ·obtain rfl:L'=L.set i ⟨⟨nq1,cq1,sq1,frm1,to1,bq1,pq1,iq1,lq1⟩,st1,⟨3,ha1,ca1⟩,⟨sb1,hb1,cb1⟩,⟨sc1,hc1,cc1⟩⟩:=hL';cbv;repeat'((first|refine .e ?_|refine .zl fun zs hzs hzl=>?_|fail)<;>cbv)
    obtain rfl:zs=[.agg [.i sa1,.str ha1,.sl 4 (bJ bV ca1)],.agg [.i sb1,.str hb1,.sl 4 (bJ bV cb1)],.agg [.i sc1,.str hc1,.sl 4 (bJ bV cc1)]]:=hzs
    (refine bX hwh (⟨3,0,day,bill,by_,to,⟨nq2,cq2,sq2,frm2,to2,bq2,pq2,iq2,lq2⟩⟩:At) trivial ?_;try dsimp only)
    rw[aE (by decide)];cbv;refine bS [4] (fun q:{ j:Nat // j≤1 }=>[(11,.i (nI q.1)),(9,fR q.1 (.hd 4) (.sl 3 [.agg [.i 3,.str ha1,.sl 4 (bJ bV ca1)],.agg [.i sb1,.str hb1,.sl 4 (bJ bV cb1)],.agg [.i sc1,.str hc1,.sl 4 (bJ bV cc1)]]) .any .any)]) (fun q=>[.blk 38 [.str carrier,.sl 11 (bJ iP L)],.blk 204 (yP ⟨3,0,day,bill,by_,to,⟨nq2,cq2,sq2,frm2,to2,bq2,pq2,iq2,lq2⟩⟩),.blk 38 [.str ⟨⟨[]⟩⟩,.v (.slice none 0 0)],.blk 104 (yD ⟨⟨nq1,cq1,sq1,frm1,to1,bq1,pq1,iq1,lq1⟩,st1,⟨sa1,ha1,ca1⟩,⟨sb1,hb1,cb1⟩,⟨sc1,hc1,cc1⟩⟩),fR q.1 (.row 107 3 [.agg [.i sa1,.str ha1,.sl 4 (bJ bV ca1)],.agg [.i sb1,.str hb1,.sl 4 (bJ bV cb1)],.agg [.i sc1,.str hc1,.sl 4 (bJ bV cc1)]]) (.tip 107 3 [.agg [.i 3,.str ha1,.sl 4 (bJ bV ca1)],.agg [.i sb1,.str hb1,.sl 4 (bJ bV cb1)],.agg [.i sc1,.str hc1,.sl 4 (bJ bV cc1)]]) .dead .dead]) (fun q=>eW 1 q.1) ⟨0,by decide⟩ ?_;rintro ⟨j,hj⟩;dsimp only at hj⊢;have hj2:j=0∨j=1:=by omega
    rcases hj2 with rfl|rfl
    ·cbv;repeat'((first|refine .n fun h=>?_|refine .y fun h=>?_|refine .k fun z hz=>?_|refine .z fun zs hzs=>?_|refine bW.i0 ?_|refine aaA.i0 ?_|fail)<;>cbv)
     obtain rfl:zs=[.agg [.i 3,.str ha1,.sl 4 (bJ bV ca1)],.agg [.i sb1,.str hb1,.sl 4 (bJ bV cb1)],.agg [.i sc1,.str hc1,.sl 4 (bJ bV cc1)]]:=hzs;obtain rfl:z=nI 1:=bQ;refine dK (Gh.plain 4 rfl) ?_;cbv;exact bN ⟨1,by decide⟩ (bO (by decide))
    ·cbv;repeat'((first|refine .n fun h=>?_|refine .k fun z hz=>?_|refine .o ?_|refine .l fun ys hys hyl=>?_|refine .zl fun zs hzs hzl=>?_|refine And.intro ?_ ?_|fail)<;>cbv)
     all_goals
      obtain rfl:zs=bJ iP (L.set i ⟨⟨nq1,cq1,sq1,frm1,to1,bq1,pq1,iq1,lq1⟩,st1,⟨3,ha1,ca1⟩,⟨sb1,hb1,cb1⟩,⟨sc1,hc1,cc1⟩⟩):=jF hzs hys (by assumption) (by assumption) rfl bQ hii
      (refine .r9 (Gh.plain 5 rfl) ?_;cbv;exact .inl (.g9 hK))
   ·obtain rfl:L'=L.set i ⟨⟨nq1,cq1,sq1,frm1,to1,bq1,pq1,iq1,lq1⟩,st1,⟨sa1,ha1,ca1⟩,⟨3,hb1,cb1⟩,⟨sc1,hc1,cc1⟩⟩:=hL';cbv;repeat'((first|refine .e ?_|refine .zl fun zs hzs hzl=>?_|fail)<;>cbv)
    obtain rfl:zs=[.agg [.i sa1,.str ha1,.sl 4 (bJ bV ca1)],.agg [.i sb1,.str hb1,.sl 4 (bJ bV cb1)],.agg [.i sc1,.str hc1,.sl 4 (bJ bV cc1)]]:=hzs
    (refine bX hwh (⟨3,1,day,bill,by_,to,⟨nq2,cq2,sq2,frm2,to2,bq2,pq2,iq2,lq2⟩⟩:At) trivial ?_;try dsimp only)
    rw[aE (by decide)];cbv;refine bS [4] (fun q:{ j:Nat // j≤1 }=>[(11,.i (nI q.1)),(9,fR q.1 (.hd 4) (.sl 3 [.agg [.i sa1,.str ha1,.sl 4 (bJ bV ca1)],.agg [.i 3,.str hb1,.sl 4 (bJ bV cb1)],.agg [.i sc1,.str hc1,.sl 4 (bJ bV cc1)]]) .any .any)]) (fun q=>[.blk 38 [.str carrier,.sl 11 (bJ iP L)],.blk 204 (yP ⟨3,1,day,bill,by_,to,⟨nq2,cq2,sq2,frm2,to2,bq2,pq2,iq2,lq2⟩⟩),.blk 38 [.str ⟨⟨[]⟩⟩,.v (.slice none 0 0)],.blk 104 (yD ⟨⟨nq1,cq1,sq1,frm1,to1,bq1,pq1,iq1,lq1⟩,st1,⟨sa1,ha1,ca1⟩,⟨sb1,hb1,cb1⟩,⟨sc1,hc1,cc1⟩⟩),fR q.1 (.row 107 3 [.agg [.i sa1,.str ha1,.sl 4 (bJ bV ca1)],.agg [.i sb1,.str hb1,.sl 4 (bJ bV cb1)],.agg [.i sc1,.str hc1,.sl 4 (bJ bV cc1)]]) (.tip 107 3 [.agg [.i sa1,.str ha1,.sl 4 (bJ bV ca1)],.agg [.i 3,.str hb1,.sl 4 (bJ bV cb1)],.agg [.i sc1,.str hc1,.sl 4 (bJ bV cc1)]]) .dead .dead]) (fun q=>eW 1 q.1) ⟨0,by decide⟩ ?_;rintro ⟨j,hj⟩;dsimp only at hj⊢;have hj2:j=0∨j=1:=by omega
    rcases hj2 with rfl|rfl
    ·cbv;repeat'((first|refine .n fun h=>?_|refine .y fun h=>?_|refine .k fun z hz=>?_|refine .z fun zs hzs=>?_|refine bW.i0 ?_|refine bW.i1 ?_|refine aaA.i1 ?_|fail)<;>cbv)
     obtain rfl:zs=[.agg [.i sa1,.str ha1,.sl 4 (bJ bV ca1)],.agg [.i 3,.str hb1,.sl 4 (bJ bV cb1)],.agg [.i sc1,.str hc1,.sl 4 (bJ bV cc1)]]:=hzs;obtain rfl:z=nI 1:=bQ;refine dK (Gh.plain 4 rfl) ?_;cbv;exact bN ⟨1,by decide⟩ (bO (by decide))
    ·cbv;repeat'((first|refine .n fun h=>?_|refine .k fun z hz=>?_|refine .o ?_|refine .l fun ys hys hyl=>?_|refine .zl fun zs hzs hzl=>?_|refine And.intro ?_ ?_|fail)<;>cbv)
     all_goals
      obtain rfl:zs=bJ iP (L.set i ⟨⟨nq1,cq1,sq1,frm1,to1,bq1,pq1,iq1,lq1⟩,st1,⟨sa1,ha1,ca1⟩,⟨3,hb1,cb1⟩,⟨sc1,hc1,cc1⟩⟩):=jF hzs hys (by assumption) (by assumption) rfl bQ hii
      (refine .r9 (Gh.plain 5 rfl) ?_;cbv;exact .inl (.g9 hK))
   ·obtain rfl:L'=L.set i ⟨⟨nq1,cq1,sq1,frm1,to1,bq1,pq1,iq1,lq1⟩,st1,⟨sa1,ha1,ca1⟩,⟨sb1,hb1,cb1⟩,⟨3,hc1,cc1⟩⟩:=hL';cbv;repeat'((first|refine .e ?_|refine .zl fun zs hzs hzl=>?_|fail)<;>cbv)
    obtain rfl:zs=[.agg [.i sa1,.str ha1,.sl 4 (bJ bV ca1)],.agg [.i sb1,.str hb1,.sl 4 (bJ bV cb1)],.agg [.i sc1,.str hc1,.sl 4 (bJ bV cc1)]]:=hzs
    (refine bX hwh (⟨3,2,day,bill,by_,to,⟨nq2,cq2,sq2,frm2,to2,bq2,pq2,iq2,lq2⟩⟩:At) trivial ?_;try dsimp only)
    rw[aE (by decide)];cbv;refine bS [4] (fun q:{ j:Nat // j≤1 }=>[(11,.i (nI q.1)),(9,fR q.1 (.hd 4) (.sl 3 [.agg [.i sa1,.str ha1,.sl 4 (bJ bV ca1)],.agg [.i sb1,.str hb1,.sl 4 (bJ bV cb1)],.agg [.i 3,.str hc1,.sl 4 (bJ bV cc1)]]) .any .any)]) (fun q=>[.blk 38 [.str carrier,.sl 11 (bJ iP L)],.blk 204 (yP ⟨3,2,day,bill,by_,to,⟨nq2,cq2,sq2,frm2,to2,bq2,pq2,iq2,lq2⟩⟩),.blk 38 [.str ⟨⟨[]⟩⟩,.v (.slice none 0 0)],.blk 104 (yD ⟨⟨nq1,cq1,sq1,frm1,to1,bq1,pq1,iq1,lq1⟩,st1,⟨sa1,ha1,ca1⟩,⟨sb1,hb1,cb1⟩,⟨sc1,hc1,cc1⟩⟩),fR q.1 (.row 107 3 [.agg [.i sa1,.str ha1,.sl 4 (bJ bV ca1)],.agg [.i sb1,.str hb1,.sl 4 (bJ bV cb1)],.agg [.i sc1,.str hc1,.sl 4 (bJ bV cc1)]]) (.tip 107 3 [.agg [.i sa1,.str ha1,.sl 4 (bJ bV ca1)],.agg [.i sb1,.str hb1,.sl 4 (bJ bV cb1)],.agg [.i 3,.str hc1,.sl 4 (bJ bV cc1)]]) .dead .dead]) (fun q=>eW 1 q.1) ⟨0,by decide⟩ ?_;rintro ⟨j,hj⟩;dsimp only at hj⊢;have hj2:j=0∨j=1:=by omega
    rcases hj2 with rfl|rfl
    ·cbv;repeat'((first|refine .n fun h=>?_|refine .y fun h=>?_|refine .k fun z hz=>?_|refine .z fun zs hzs=>?_|refine bW.i0 ?_|refine bW.i2 ?_|refine aaA.i2 ?_|fail)<;>cbv)
     obtain rfl:zs=[.agg [.i sa1,.str ha1,.sl 4 (bJ bV ca1)],.agg [.i sb1,.str hb1,.sl 4 (bJ bV cb1)],.agg [.i 3,.str hc1,.sl 4 (bJ bV cc1)]]:=hzs;obtain rfl:z=nI 1:=bQ;refine dK (Gh.plain 4 rfl) ?_;cbv;exact bN ⟨1,by decide⟩ (bO (by decide))
    ·cbv;repeat'((first|refine .n fun h=>?_|refine .k fun z hz=>?_|refine .o ?_|refine .l fun ys hys hyl=>?_|refine .zl fun zs hzs hzl=>?_|refine And.intro ?_ ?_|fail)<;>cbv)
     all_goals
      obtain rfl:zs=bJ iP (L.set i ⟨⟨nq1,cq1,sq1,frm1,to1,bq1,pq1,iq1,lq1⟩,st1,⟨sa1,ha1,ca1⟩,⟨sb1,hb1,cb1⟩,⟨3,hc1,cc1⟩⟩):=jF hzs hys (by assumption) (by assumption) rfl bQ hii
      (refine .r9 (Gh.plain 5 rfl) ?_;cbv;exact .inl (.g9 hK))
 ·rw[aE (by assumption:¬e=0)]at hL';subst hL'
  (refine .q9 ?_;cbv;exact .inl (.f9 hK))
theorem LU (P:bI) (hw:bK P 142 mU) (hf:bK P 63 sJ) (hwh:bK P 143 oP):bM P Ky (qA 4):=by
 intro args H K hc;obtain⟨⟨⟨carrier,L⟩,a⟩,rfl,rfl,hp,hK⟩:=hc;refine⟨cL,?_⟩;dsimp only at hp hK⊢;obtain⟨hkind,_,hfew,hall,hok,hsz,hts⟩:=hp;dsimp only at hkind hfew hall hok hsz hts;have hd:kF ⟨carrier,L⟩ a=(⟨carrier,gB L (cX a) (mD a)⟩,eM L (cX a)):=by unfold kF;rw[aE (by omega)]
 rw[hd]at hK;clear hd;obtain⟨e,he⟩:∃e,e=eM L (cX a):=⟨_,rfl⟩
 obtain⟨L',hL'⟩:∃L',L'=gB L (cX a) (mD a):=⟨_,rfl⟩
 rw[←he,←hL']at hK;unfold gB at hL';rw[←he]at hL';obtain⟨kind,index,day,bill,by_,to,b⟩:=a;obtain rfl:kind=4:=hkind;obtain⟨nq2,cq2,sq2,frm2,to2,bq2,pq2,iq2,lq2⟩:=b;cbv;repeat'((first|refine .n fun h=>?_|fail)<;>cbv)
 (refine bX hw ((⟨carrier,L⟩:Rg),(⟨4,index,day,bill,by_,to,⟨nq2,cq2,sq2,frm2,to2,bq2,pq2,iq2,lq2⟩⟩:At)) ⟨⟨by show (1:Int)≤4;decide,by show (4:Int)≤5;decide⟩,hfew,fun b hb=>(hall b hb).1,hts⟩ ?_;try dsimp only)
 rw[←he];cbv;repeat'((first|refine .mk (fun h=>?_) fun h=>?_|fail)<;>cbv)
 ·rw[aF (by assumption:e=0)]at hL';have h0:e=0:=by assumption
  rw[h0]at hK;obtain⟨f,hf1⟩:∃f,f=pA (fun y:Br=>decide (y.b.number=bill)) L:=⟨_,rfl⟩
  (refine bX hf ((⟨carrier,L⟩:Rg),bill) (by dsimp only;omega) ?_;try dsimp only)
  rw[←hf1];cases hb:oL L bill with
  |none=>exact(jU (he.symm.trans (by assumption:e=0)) hb).elim
  |some i=>
   rw[lJ,hb]at hf1;dsimp only at hf1;subst hf1;obtain⟨x,hx,_⟩:=eA hb;have hii:=(aA.1 hx).1;have hz:=lD (he.symm.trans (by assumption:e=0)) hb hx;have hk:=mN hz;clear hz;have hL':L'=BD L bill (tL index (xU 0)):=hL';rw[gT _ hb hx]at hL';have hki:0≤index∧index < 3:=hk;have hk3:index=0∨index=1∨index=2:=by omega
   obtain⟨⟨nq1,cq1,sq1,frm1,to1,bq1,pq1,iq1,lq1⟩,st1,⟨sa1,ha1,ca1⟩,⟨sb1,hb1,cb1⟩,⟨sc1,hc1,cc1⟩⟩:=x;rcases hk3 with rfl|rfl|rfl
   ·obtain rfl:L'=L.set i ⟨⟨nq1,cq1,sq1,frm1,to1,bq1,pq1,iq1,lq1⟩,st1,⟨0,ha1,ca1⟩,⟨sb1,hb1,cb1⟩,⟨sc1,hc1,cc1⟩⟩:=hL';cbv;repeat'((first|refine .e ?_|refine .zl fun zs hzs hzl=>?_|fail)<;>cbv)
    obtain rfl:zs=[.agg [.i sa1,.str ha1,.sl 4 (bJ bV ca1)],.agg [.i sb1,.str hb1,.sl 4 (bJ bV cb1)],.agg [.i sc1,.str hc1,.sl 4 (bJ bV cc1)]]:=hzs
    (refine bX hwh (⟨4,0,day,bill,by_,to,⟨nq2,cq2,sq2,frm2,to2,bq2,pq2,iq2,lq2⟩⟩:At) trivial ?_;try dsimp only)
    rw[aE (by decide)];cbv;refine bS [4] (fun q:{ j:Nat // j≤1 }=>[(11,.i (nI q.1)),(9,fR q.1 (.hd 4) (.sl 3 [.agg [.i 0,.str ha1,.sl 4 (bJ bV ca1)],.agg [.i sb1,.str hb1,.sl 4 (bJ bV cb1)],.agg [.i sc1,.str hc1,.sl 4 (bJ bV cc1)]]) .any .any)]) (fun q=>[.blk 38 [.str carrier,.sl 11 (bJ iP L)],.blk 204 (yP ⟨4,0,day,bill,by_,to,⟨nq2,cq2,sq2,frm2,to2,bq2,pq2,iq2,lq2⟩⟩),.blk 38 [.str ⟨⟨[]⟩⟩,.v (.slice none 0 0)],.blk 104 (yD ⟨⟨nq1,cq1,sq1,frm1,to1,bq1,pq1,iq1,lq1⟩,st1,⟨sa1,ha1,ca1⟩,⟨sb1,hb1,cb1⟩,⟨sc1,hc1,cc1⟩⟩),fR q.1 (.row 107 3 [.agg [.i sa1,.str ha1,.sl 4 (bJ bV ca1)],.agg [.i sb1,.str hb1,.sl 4 (bJ bV cb1)],.agg [.i sc1,.str hc1,.sl 4 (bJ bV cc1)]]) (.tip 107 3 [.agg [.i 0,.str ha1,.sl 4 (bJ bV ca1)],.agg [.i sb1,.str hb1,.sl 4 (bJ bV cb1)],.agg [.i sc1,.str hc1,.sl 4 (bJ bV cc1)]]) .dead .dead]) (fun q=>eW 1 q.1) ⟨0,by decide⟩ ?_;rintro ⟨j,hj⟩;dsimp only at hj⊢;have hj2:j=0∨j=1:=by omega
    rcases hj2 with rfl|rfl
    ·cbv;repeat'((first|refine .n fun h=>?_|refine .y fun h=>?_|refine .k fun z hz=>?_|refine .z fun zs hzs=>?_|refine bW.i0 ?_|refine aaA.i0 ?_|fail)<;>cbv)
     obtain rfl:zs=[.agg [.i 0,.str ha1,.sl 4 (bJ bV ca1)],.agg [.i sb1,.str hb1,.sl 4 (bJ bV cb1)],.agg [.i sc1,.str hc1,.sl 4 (bJ bV cc1)]]:=hzs;obtain rfl:z=nI 1:=bQ;refine dK (Gh.plain 4 rfl) ?_;cbv;exact bN ⟨1,by decide⟩ (bO (by decide))
    ·cbv;repeat'((first|refine .n fun h=>?_|refine .k fun z hz=>?_|refine .o ?_|refine .l fun ys hys hyl=>?_|refine .zl fun zs hzs hzl=>?_|refine And.intro ?_ ?_|fail)<;>cbv)
     all_goals
      obtain rfl:zs=bJ iP (L.set i ⟨⟨nq1,cq1,sq1,frm1,to1,bq1,pq1,iq1,lq1⟩,st1,⟨0,ha1,ca1⟩,⟨sb1,hb1,cb1⟩,⟨sc1,hc1,cc1⟩⟩):=jF hzs hys (by assumption) (by assumption) rfl bQ hii
      (refine .r9 (Gh.plain 5 rfl) ?_;cbv;exact .inl (.g9 hK))
   ·obtain rfl:L'=L.set i ⟨⟨nq1,cq1,sq1,frm1,to1,bq1,pq1,iq1,lq1⟩,st1,⟨sa1,ha1,ca1⟩,⟨0,hb1,cb1⟩,⟨sc1,hc1,cc1⟩⟩:=hL';cbv;repeat'((first|refine .e ?_|refine .zl fun zs hzs hzl=>?_|fail)<;>cbv)
    obtain rfl:zs=[.agg [.i sa1,.str ha1,.sl 4 (bJ bV ca1)],.agg [.i sb1,.str hb1,.sl 4 (bJ bV cb1)],.agg [.i sc1,.str hc1,.sl 4 (bJ bV cc1)]]:=hzs
    (refine bX hwh (⟨4,1,day,bill,by_,to,⟨nq2,cq2,sq2,frm2,to2,bq2,pq2,iq2,lq2⟩⟩:At) trivial ?_;try dsimp only)
    rw[aE (by decide)];cbv;refine bS [4] (fun q:{ j:Nat // j≤1 }=>[(11,.i (nI q.1)),(9,fR q.1 (.hd 4) (.sl 3 [.agg [.i sa1,.str ha1,.sl 4 (bJ bV ca1)],.agg [.i 0,.str hb1,.sl 4 (bJ bV cb1)],.agg [.i sc1,.str hc1,.sl 4 (bJ bV cc1)]]) .any .any)]) (fun q=>[.blk 38 [.str carrier,.sl 11 (bJ iP L)],.blk 204 (yP ⟨4,1,day,bill,by_,to,⟨nq2,cq2,sq2,frm2,to2,bq2,pq2,iq2,lq2⟩⟩),.blk 38 [.str ⟨⟨[]⟩⟩,.v (.slice none 0 0)],.blk 104 (yD ⟨⟨nq1,cq1,sq1,frm1,to1,bq1,pq1,iq1,lq1⟩,st1,⟨sa1,ha1,ca1⟩,⟨sb1,hb1,cb1⟩,⟨sc1,hc1,cc1⟩⟩),fR q.1 (.row 107 3 [.agg [.i sa1,.str ha1,.sl 4 (bJ bV ca1)],.agg [.i sb1,.str hb1,.sl 4 (bJ bV cb1)],.agg [.i sc1,.str hc1,.sl 4 (bJ bV cc1)]]) (.tip 107 3 [.agg [.i sa1,.str ha1,.sl 4 (bJ bV ca1)],.agg [.i 0,.str hb1,.sl 4 (bJ bV cb1)],.agg [.i sc1,.str hc1,.sl 4 (bJ bV cc1)]]) .dead .dead]) (fun q=>eW 1 q.1) ⟨0,by decide⟩ ?_;rintro ⟨j,hj⟩;dsimp only at hj⊢;have hj2:j=0∨j=1:=by omega
    rcases hj2 with rfl|rfl
    ·cbv;repeat'((first|refine .n fun h=>?_|refine .y fun h=>?_|refine .k fun z hz=>?_|refine .z fun zs hzs=>?_|refine bW.i0 ?_|refine bW.i1 ?_|refine aaA.i1 ?_|fail)<;>cbv)
     obtain rfl:zs=[.agg [.i sa1,.str ha1,.sl 4 (bJ bV ca1)],.agg [.i 0,.str hb1,.sl 4 (bJ bV cb1)],.agg [.i sc1,.str hc1,.sl 4 (bJ bV cc1)]]:=hzs;obtain rfl:z=nI 1:=bQ;refine dK (Gh.plain 4 rfl) ?_;cbv;exact bN ⟨1,by decide⟩ (bO (by decide))
    ·cbv;repeat'((first|refine .n fun h=>?_|refine .k fun z hz=>?_|refine .o ?_|refine .l fun ys hys hyl=>?_|refine .zl fun zs hzs hzl=>?_|refine And.intro ?_ ?_|fail)<;>cbv)
     all_goals
      obtain rfl:zs=bJ iP (L.set i ⟨⟨nq1,cq1,sq1,frm1,to1,bq1,pq1,iq1,lq1⟩,st1,⟨sa1,ha1,ca1⟩,⟨0,hb1,cb1⟩,⟨sc1,hc1,cc1⟩⟩):=jF hzs hys (by assumption) (by assumption) rfl bQ hii
      (refine .r9 (Gh.plain 5 rfl) ?_;cbv;exact .inl (.g9 hK))
   ·obtain rfl:L'=L.set i ⟨⟨nq1,cq1,sq1,frm1,to1,bq1,pq1,iq1,lq1⟩,st1,⟨sa1,ha1,ca1⟩,⟨sb1,hb1,cb1⟩,⟨0,hc1,cc1⟩⟩:=hL';cbv;repeat'((first|refine .e ?_|refine .zl fun zs hzs hzl=>?_|fail)<;>cbv)
    obtain rfl:zs=[.agg [.i sa1,.str ha1,.sl 4 (bJ bV ca1)],.agg [.i sb1,.str hb1,.sl 4 (bJ bV cb1)],.agg [.i sc1,.str hc1,.sl 4 (bJ bV cc1)]]:=hzs
    (refine bX hwh (⟨4,2,day,bill,by_,to,⟨nq2,cq2,sq2,frm2,to2,bq2,pq2,iq2,lq2⟩⟩:At) trivial ?_;try dsimp only)
    rw[aE (by decide)];cbv;refine bS [4] (fun q:{ j:Nat // j≤1 }=>[(11,.i (nI q.1)),(9,fR q.1 (.hd 4) (.sl 3 [.agg [.i sa1,.str ha1,.sl 4 (bJ bV ca1)],.agg [.i sb1,.str hb1,.sl 4 (bJ bV cb1)],.agg [.i 0,.str hc1,.sl 4 (bJ bV cc1)]]) .any .any)]) (fun q=>[.blk 38 [.str carrier,.sl 11 (bJ iP L)],.blk 204 (yP ⟨4,2,day,bill,by_,to,⟨nq2,cq2,sq2,frm2,to2,bq2,pq2,iq2,lq2⟩⟩),.blk 38 [.str ⟨⟨[]⟩⟩,.v (.slice none 0 0)],.blk 104 (yD ⟨⟨nq1,cq1,sq1,frm1,to1,bq1,pq1,iq1,lq1⟩,st1,⟨sa1,ha1,ca1⟩,⟨sb1,hb1,cb1⟩,⟨sc1,hc1,cc1⟩⟩),fR q.1 (.row 107 3 [.agg [.i sa1,.str ha1,.sl 4 (bJ bV ca1)],.agg [.i sb1,.str hb1,.sl 4 (bJ bV cb1)],.agg [.i sc1,.str hc1,.sl 4 (bJ bV cc1)]]) (.tip 107 3 [.agg [.i sa1,.str ha1,.sl 4 (bJ bV ca1)],.agg [.i sb1,.str hb1,.sl 4 (bJ bV cb1)],.agg [.i 0,.str hc1,.sl 4 (bJ bV cc1)]]) .dead .dead]) (fun q=>eW 1 q.1) ⟨0,by decide⟩ ?_;rintro ⟨j,hj⟩;dsimp only at hj⊢;have hj2:j=0∨j=1:=by omega
    rcases hj2 with rfl|rfl
    ·cbv;repeat'((first|refine .n fun h=>?_|refine .y fun h=>?_|refine .k fun z hz=>?_|refine .z fun zs hzs=>?_|refine bW.i0 ?_|refine bW.i2 ?_|refine aaA.i2 ?_|fail)<;>cbv)
     obtain rfl:zs=[.agg [.i sa1,.str ha1,.sl 4 (bJ bV ca1)],.agg [.i sb1,.str hb1,.sl 4 (bJ bV cb1)],.agg [.i 0,.str hc1,.sl 4 (bJ bV cc1)]]:=hzs;obtain rfl:z=nI 1:=bQ;refine dK (Gh.plain 4 rfl) ?_;cbv;exact bN ⟨1,by decide⟩ (bO (by decide))
    ·cbv;repeat'((first|refine .n fun h=>?_|refine .k fun z hz=>?_|refine .o ?_|refine .l fun ys hys hyl=>?_|refine .zl fun zs hzs hzl=>?_|refine And.intro ?_ ?_|fail)<;>cbv)
     all_goals
      obtain rfl:zs=bJ iP (L.set i ⟨⟨nq1,cq1,sq1,frm1,to1,bq1,pq1,iq1,lq1⟩,st1,⟨sa1,ha1,ca1⟩,⟨sb1,hb1,cb1⟩,⟨0,hc1,cc1⟩⟩):=jF hzs hys (by assumption) (by assumption) rfl bQ hii
      (refine .r9 (Gh.plain 5 rfl) ?_;cbv;exact .inl (.g9 hK))
 ·rw[aE (by assumption:¬e=0)]at hL';subst hL'
  (refine .q9 ?_;cbv;exact .inl (.f9 hK))
theorem JT (P:bI) (hw:bK P 142 mU) (hf:bK P 63 sJ) (hwh:bK P 143 oP):bM P Ky (qA 1):=by
 intro args H K hc;obtain⟨⟨⟨carrier,L⟩,a⟩,rfl,rfl,hp,hK⟩:=hc;refine⟨cL,?_⟩;dsimp only at hp hK⊢;obtain⟨hkind,_,hfew,hall,hok,hsz,hts⟩:=hp;dsimp only at hkind hfew hall hok hsz hts;have hd:kF ⟨carrier,L⟩ a=(⟨carrier,gB L (cX a) (mD a)⟩,eM L (cX a)):=by unfold kF;rw[aE (by omega)]
 rw[hd]at hK;clear hd;obtain⟨e,he⟩:∃e,e=eM L (cX a):=⟨_,rfl⟩
 obtain⟨L',hL'⟩:∃L',L'=gB L (cX a) (mD a):=⟨_,rfl⟩
 rw[←he,←hL']at hK;unfold gB at hL';rw[←he]at hL';obtain⟨kind,index,day,bill,by_,to,b⟩:=a;obtain rfl:kind=1:=hkind;obtain⟨nq2,cq2,sq2,frm2,to2,bq2,pq2,iq2,lq2⟩:=b;cbv;repeat'((first|refine .n fun h=>?_|fail)<;>cbv)
 (refine bX hw ((⟨carrier,L⟩:Rg),(⟨1,index,day,bill,by_,to,⟨nq2,cq2,sq2,frm2,to2,bq2,pq2,iq2,lq2⟩⟩:At)) ⟨⟨by show (1:Int)≤1;decide,by show (1:Int)≤5;decide⟩,hfew,fun b hb=>(hall b hb).1,hts⟩ ?_;try dsimp only)
 rw[←he];cbv;repeat'((first|refine .mk (fun h=>?_) fun h=>?_|fail)<;>cbv)
 ·rw[aF (by assumption:e=0)]at hL';have h0:e=0:=by assumption
  rw[h0]at hK;obtain⟨f,hf1⟩:∃f,f=pA (fun y:Br=>decide (y.b.number=bill)) L:=⟨_,rfl⟩
  (refine bX hf ((⟨carrier,L⟩:Rg),bill) (by dsimp only;omega) ?_;try dsimp only)
  rw[←hf1];cases hb:oL L bill with
  |none=>exact(jU (he.symm.trans (by assumption:e=0)) hb).elim
  |some i=>
   rw[lJ,hb]at hf1;dsimp only at hf1;subst hf1;obtain⟨x,hx,_⟩:=eA hb;have hii:=(aA.1 hx).1;have hz:=lD (he.symm.trans (by assumption:e=0)) hb hx;have hk:=mN hz;clear hz;have hL':L'=BD L bill (tL index (E3 by_ to day)):=hL';rw[gT _ hb hx]at hL';have hki:-1≤index∧index < 3:=hk;have hk3:index=0∨index=1∨index=2∨index=-1:=by omega
   have hch:=(hall x (aC hx)).1;obtain⟨⟨nq1,cq1,sq1,frm1,to1,bq1,pq1,iq1,lq1⟩,st1,⟨sa1,ha1,ca1⟩,⟨sb1,hb1,cb1⟩,⟨sc1,hc1,cc1⟩⟩:=x;unfold mJ at hch;dsimp only at hch;obtain⟨hch0,hch1,hch2⟩:=hch;obtain⟨da,hda⟩:∃d,d=ca1++[(⟨by_,to,0,day⟩:mI)]:=⟨_,rfl⟩
   obtain⟨db,hdb⟩:∃d,d=cb1++[(⟨by_,to,0,day⟩:mI)]:=⟨_,rfl⟩
   obtain⟨dc,hdc⟩:∃d,d=cc1++[(⟨by_,to,0,day⟩:mI)]:=⟨_,rfl⟩
   rcases hk3 with rfl|rfl|rfl|rfl
   ·obtain rfl:L'=L.set i ⟨⟨nq1,cq1,sq1,frm1,to1,bq1,pq1,iq1,lq1⟩,st1,⟨sa1,to,da⟩,⟨sb1,hb1,cb1⟩,⟨sc1,hc1,cc1⟩⟩:=by rw[hL',hda];rfl
    cbv;repeat'((first|refine .e ?_|refine .zl fun zs hzs hzl=>?_|fail)<;>cbv)
    obtain rfl:zs=[.agg [.i sa1,.str ha1,.sl 4 (bJ bV ca1)],.agg [.i sb1,.str hb1,.sl 4 (bJ bV cb1)],.agg [.i sc1,.str hc1,.sl 4 (bJ bV cc1)]]:=hzs
    (refine bX hwh (⟨1,0,day,bill,by_,to,⟨nq2,cq2,sq2,frm2,to2,bq2,pq2,iq2,lq2⟩⟩:At) trivial ?_;try dsimp only)
    rw[aE (by decide)];cbv;refine zN [4] (fun q:{ j:Nat // j≤1 }=>[(11,.i (nI q.1)),(9,fR q.1 (.hd 4) (.sl 3 [.agg [.i sa1,.str to,.sl 4 (bJ bV da)],.agg [.i sb1,.str hb1,.sl 4 (bJ bV cb1)],.agg [.i sc1,.str hc1,.sl 4 (bJ bV cc1)]]) .any .any)]) (fun q=>[.blk 38 [.str carrier,.sl 11 (bJ iP L)],.blk 204 (yP ⟨1,0,day,bill,by_,to,⟨nq2,cq2,sq2,frm2,to2,bq2,pq2,iq2,lq2⟩⟩),.blk 38 [.str ⟨⟨[]⟩⟩,.v (.slice none 0 0)],.blk 104 (yD ⟨⟨nq1,cq1,sq1,frm1,to1,bq1,pq1,iq1,lq1⟩,st1,⟨sa1,ha1,ca1⟩,⟨sb1,hb1,cb1⟩,⟨sc1,hc1,cc1⟩⟩),fR q.1 (.row 107 3 [.agg [.i sa1,.str ha1,.sl 4 (bJ bV ca1)],.agg [.i sb1,.str hb1,.sl 4 (bJ bV cb1)],.agg [.i sc1,.str hc1,.sl 4 (bJ bV cc1)]]) (.tip 107 3 [.agg [.i sa1,.str to,.sl 4 (bJ bV da)],.agg [.i sb1,.str hb1,.sl 4 (bJ bV cb1)],.agg [.i sc1,.str hc1,.sl 4 (bJ bV cc1)]]) .dead .dead]) (fun q=>eW 1 q.1) ⟨0,by decide⟩ ?_;rintro ⟨j,hj⟩;dsimp only at hj⊢;have hj2:j=0∨j=1:=by omega
    rcases hj2 with rfl|rfl
    ·refine dL.seq (.of ?_);cbv;repeat'((first|refine .y fun h=>?_|refine .k fun z hz=>?_|fail)<;>cbv)
     refine dL.seq (.block ?_);refine dL.seq (.of ?_);cbv;repeat'((first|refine bW.i0 ?_|refine aaA.i0 ?_|fail)<;>cbv)
     refine dL.seq (.of ?_);cbv;repeat'((first|refine .y fun h=>?_|refine .o ?_|refine .zl fun zs hzs hzl=>?_|refine And.intro ?_ ?_|fail)<;>cbv)
     all_goals
      obtain rfl:zs=bJ bV da:=by rw[hda,cD,cF];exact hzs
      refine dL.gh (Gh.plain 6 rfl) (.of ?_);cbv;repeat'((first|refine .z fun zs hzs=>?_|refine bW.i0 ?_|refine aaA.i0 ?_|fail)<;>cbv)
      obtain rfl:zs=[.agg [.i sa1,.str to,.sl 4 (bJ bV da)],.agg [.i sb1,.str hb1,.sl 4 (bJ bV cb1)],.agg [.i sc1,.str hc1,.sl 4 (bJ bV cc1)]]:=hzs;refine .of ?_;cbv;repeat'((first|refine .k fun z hz=>?_|fail)<;>cbv)
      obtain rfl:z=nI 1:=bQ;refine dK (Gh.plain 4 rfl) ?_;cbv;exact bN ⟨1,by decide⟩ (bO (by decide))
    ·refine dL.seq (.of ?_);cbv;repeat'((first|refine .n fun h=>?_|refine .k fun z hz=>?_|refine .o ?_|refine .l fun ys hys hyl=>?_|refine .zl fun zs hzs hzl=>?_|refine And.intro ?_ ?_|fail)<;>cbv)
     all_goals
      obtain rfl:zs=bJ iP (L.set i ⟨⟨nq1,cq1,sq1,frm1,to1,bq1,pq1,iq1,lq1⟩,st1,⟨sa1,to,da⟩,⟨sb1,hb1,cb1⟩,⟨sc1,hc1,cc1⟩⟩):=jF hzs hys (by assumption) (by assumption) rfl bQ hii
      (refine .r9 (Gh.plain 5 rfl) ?_;cbv;exact .inl (.g9 hK))
   ·obtain rfl:L'=L.set i ⟨⟨nq1,cq1,sq1,frm1,to1,bq1,pq1,iq1,lq1⟩,st1,⟨sa1,ha1,ca1⟩,⟨sb1,to,db⟩,⟨sc1,hc1,cc1⟩⟩:=by rw[hL',hdb];rfl
    cbv;repeat'((first|refine .e ?_|refine .zl fun zs hzs hzl=>?_|fail)<;>cbv)
    obtain rfl:zs=[.agg [.i sa1,.str ha1,.sl 4 (bJ bV ca1)],.agg [.i sb1,.str hb1,.sl 4 (bJ bV cb1)],.agg [.i sc1,.str hc1,.sl 4 (bJ bV cc1)]]:=hzs
    (refine bX hwh (⟨1,1,day,bill,by_,to,⟨nq2,cq2,sq2,frm2,to2,bq2,pq2,iq2,lq2⟩⟩:At) trivial ?_;try dsimp only)
    rw[aE (by decide)];cbv;refine zN [4] (fun q:{ j:Nat // j≤1 }=>[(11,.i (nI q.1)),(9,fR q.1 (.hd 4) (.sl 3 [.agg [.i sa1,.str ha1,.sl 4 (bJ bV ca1)],.agg [.i sb1,.str to,.sl 4 (bJ bV db)],.agg [.i sc1,.str hc1,.sl 4 (bJ bV cc1)]]) .any .any)]) (fun q=>[.blk 38 [.str carrier,.sl 11 (bJ iP L)],.blk 204 (yP ⟨1,1,day,bill,by_,to,⟨nq2,cq2,sq2,frm2,to2,bq2,pq2,iq2,lq2⟩⟩),.blk 38 [.str ⟨⟨[]⟩⟩,.v (.slice none 0 0)],.blk 104 (yD ⟨⟨nq1,cq1,sq1,frm1,to1,bq1,pq1,iq1,lq1⟩,st1,⟨sa1,ha1,ca1⟩,⟨sb1,hb1,cb1⟩,⟨sc1,hc1,cc1⟩⟩),fR q.1 (.row 107 3 [.agg [.i sa1,.str ha1,.sl 4 (bJ bV ca1)],.agg [.i sb1,.str hb1,.sl 4 (bJ bV cb1)],.agg [.i sc1,.str hc1,.sl 4 (bJ bV cc1)]]) (.tip 107 3 [.agg [.i sa1,.str ha1,.sl 4 (bJ bV ca1)],.agg [.i sb1,.str to,.sl 4 (bJ bV db)],.agg [.i sc1,.str hc1,.sl 4 (bJ bV cc1)]]) .dead .dead]) (fun q=>eW 1 q.1) ⟨0,by decide⟩ ?_;rintro ⟨j,hj⟩;dsimp only at hj⊢;have hj2:j=0∨j=1:=by omega
    rcases hj2 with rfl|rfl
    ·refine dL.seq (.of ?_);cbv;repeat'((first|refine .y fun h=>?_|refine .k fun z hz=>?_|fail)<;>cbv)
     refine dL.seq (.block ?_);refine dL.seq (.of ?_);cbv;repeat'((first|refine bW.i0 ?_|refine bW.i1 ?_|refine aaA.i1 ?_|fail)<;>cbv)
     refine dL.seq (.of ?_);cbv;repeat'((first|refine .y fun h=>?_|refine .o ?_|refine .zl fun zs hzs hzl=>?_|refine And.intro ?_ ?_|fail)<;>cbv)
     all_goals
      obtain rfl:zs=bJ bV db:=by rw[hdb,cD,cF];exact hzs
      refine dL.gh (Gh.plain 6 rfl) (.of ?_);cbv;repeat'((first|refine .z fun zs hzs=>?_|refine bW.i0 ?_|refine bW.i1 ?_|refine aaA.i1 ?_|fail)<;>cbv)
      obtain rfl:zs=[.agg [.i sa1,.str ha1,.sl 4 (bJ bV ca1)],.agg [.i sb1,.str to,.sl 4 (bJ bV db)],.agg [.i sc1,.str hc1,.sl 4 (bJ bV cc1)]]:=hzs;refine .of ?_;cbv;repeat'((first|refine .k fun z hz=>?_|fail)<;>cbv)
      obtain rfl:z=nI 1:=bQ;refine dK (Gh.plain 4 rfl) ?_;cbv;exact bN ⟨1,by decide⟩ (bO (by decide))
    ·refine dL.seq (.of ?_);cbv;repeat'((first|refine .n fun h=>?_|refine .k fun z hz=>?_|refine .o ?_|refine .l fun ys hys hyl=>?_|refine .zl fun zs hzs hzl=>?_|refine And.intro ?_ ?_|fail)<;>cbv)
     all_goals
      obtain rfl:zs=bJ iP (L.set i ⟨⟨nq1,cq1,sq1,frm1,to1,bq1,pq1,iq1,lq1⟩,st1,⟨sa1,ha1,ca1⟩,⟨sb1,to,db⟩,⟨sc1,hc1,cc1⟩⟩):=jF hzs hys (by assumption) (by assumption) rfl bQ hii
      (refine .r9 (Gh.plain 5 rfl) ?_;cbv;exact .inl (.g9 hK))
   ·obtain rfl:L'=L.set i ⟨⟨nq1,cq1,sq1,frm1,to1,bq1,pq1,iq1,lq1⟩,st1,⟨sa1,ha1,ca1⟩,⟨sb1,hb1,cb1⟩,⟨sc1,to,dc⟩⟩:=by rw[hL',hdc];rfl
    cbv;repeat'((first|refine .e ?_|refine .zl fun zs hzs hzl=>?_|fail)<;>cbv)
    obtain rfl:zs=[.agg [.i sa1,.str ha1,.sl 4 (bJ bV ca1)],.agg [.i sb1,.str hb1,.sl 4 (bJ bV cb1)],.agg [.i sc1,.str hc1,.sl 4 (bJ bV cc1)]]:=hzs
    (refine bX hwh (⟨1,2,day,bill,by_,to,⟨nq2,cq2,sq2,frm2,to2,bq2,pq2,iq2,lq2⟩⟩:At) trivial ?_;try dsimp only)
    rw[aE (by decide)];cbv;refine zN [4] (fun q:{ j:Nat // j≤1 }=>[(11,.i (nI q.1)),(9,fR q.1 (.hd 4) (.sl 3 [.agg [.i sa1,.str ha1,.sl 4 (bJ bV ca1)],.agg [.i sb1,.str hb1,.sl 4 (bJ bV cb1)],.agg [.i sc1,.str to,.sl 4 (bJ bV dc)]]) .any .any)]) (fun q=>[.blk 38 [.str carrier,.sl 11 (bJ iP L)],.blk 204 (yP ⟨1,2,day,bill,by_,to,⟨nq2,cq2,sq2,frm2,to2,bq2,pq2,iq2,lq2⟩⟩),.blk 38 [.str ⟨⟨[]⟩⟩,.v (.slice none 0 0)],.blk 104 (yD ⟨⟨nq1,cq1,sq1,frm1,to1,bq1,pq1,iq1,lq1⟩,st1,⟨sa1,ha1,ca1⟩,⟨sb1,hb1,cb1⟩,⟨sc1,hc1,cc1⟩⟩),fR q.1 (.row 107 3 [.agg [.i sa1,.str ha1,.sl 4 (bJ bV ca1)],.agg [.i sb1,.str hb1,.sl 4 (bJ bV cb1)],.agg [.i sc1,.str hc1,.sl 4 (bJ bV cc1)]]) (.tip 107 3 [.agg [.i sa1,.str ha1,.sl 4 (bJ bV ca1)],.agg [.i sb1,.str hb1,.sl 4 (bJ bV cb1)],.agg [.i sc1,.str to,.sl 4 (bJ bV dc)]]) .dead .dead]) (fun q=>eW 1 q.1) ⟨0,by decide⟩ ?_;rintro ⟨j,hj⟩;dsimp only at hj⊢;have hj2:j=0∨j=1:=by omega
    rcases hj2 with rfl|rfl
    ·refine dL.seq (.of ?_);cbv;repeat'((first|refine .y fun h=>?_|refine .k fun z hz=>?_|fail)<;>cbv)
     refine dL.seq (.block ?_);refine dL.seq (.of ?_);cbv;repeat'((first|refine bW.i0 ?_|refine bW.i2 ?_|refine aaA.i2 ?_|fail)<;>cbv)
     refine dL.seq (.of ?_);cbv;repeat'((first|refine .y fun h=>?_|refine .o ?_|refine .zl fun zs hzs hzl=>?_|refine And.intro ?_ ?_|fail)<;>cbv)
     all_goals
      obtain rfl:zs=bJ bV dc:=by rw[hdc,cD,cF];exact hzs
      refine dL.gh (Gh.plain 6 rfl) (.of ?_);cbv;repeat'((first|refine .z fun zs hzs=>?_|refine bW.i0 ?_|refine bW.i2 ?_|refine aaA.i2 ?_|fail)<;>cbv)
      obtain rfl:zs=[.agg [.i sa1,.str ha1,.sl 4 (bJ bV ca1)],.agg [.i sb1,.str hb1,.sl 4 (bJ bV cb1)],.agg [.i sc1,.str to,.sl 4 (bJ bV dc)]]:=hzs;refine .of ?_;cbv;repeat'((first|refine .k fun z hz=>?_|fail)<;>cbv)
      obtain rfl:z=nI 1:=bQ;refine dK (Gh.plain 4 rfl) ?_;cbv;exact bN ⟨1,by decide⟩ (bO (by decide))
    ·refine dL.seq (.of ?_);cbv;repeat'((first|refine .n fun h=>?_|refine .k fun z hz=>?_|refine .o ?_|refine .l fun ys hys hyl=>?_|refine .zl fun zs hzs hzl=>?_|refine And.intro ?_ ?_|fail)<;>cbv)
     all_goals
      obtain rfl:zs=bJ iP (L.set i ⟨⟨nq1,cq1,sq1,frm1,to1,bq1,pq1,iq1,lq1⟩,st1,⟨sa1,ha1,ca1⟩,⟨sb1,hb1,cb1⟩,⟨sc1,to,dc⟩⟩):=jF hzs hys (by assumption) (by assumption) rfl bQ hii
      (refine .r9 (Gh.plain 5 rfl) ?_;cbv;exact .inl (.g9 hK))
   ·obtain rfl:L'=L.set i ⟨⟨nq1,cq1,sq1,frm1,to1,bq1,pq1,iq1,lq1⟩,st1,⟨sa1,to,da⟩,⟨sb1,to,db⟩,⟨sc1,to,dc⟩⟩:=by rw[hL',hda,hdb,hdc];rfl
    cbv;repeat'((first|refine .e ?_|refine .zl fun zs hzs hzl=>?_|fail)<;>cbv)
    obtain rfl:zs=[.agg [.i sa1,.str ha1,.sl 4 (bJ bV ca1)],.agg [.i sb1,.str hb1,.sl 4 (bJ bV cb1)],.agg [.i sc1,.str hc1,.sl 4 (bJ bV cc1)]]:=hzs
    (refine bX hwh (⟨1,-1,day,bill,by_,to,⟨nq2,cq2,sq2,frm2,to2,bq2,pq2,iq2,lq2⟩⟩:At) trivial ?_;try dsimp only)
    rw[aF (.inr ⟨rfl,rfl⟩)];cbv;refine zN [4] (fun q:{ j:Nat // j≤3 }=>[(11,.i (nI q.1)),(9,fR q.1 (.hd 4) (.hd 4) (.hd 4) (.sl 3 [.agg [.i sa1,.str to,.sl 4 (bJ bV da)],.agg [.i sb1,.str to,.sl 4 (bJ bV db)],.agg [.i sc1,.str to,.sl 4 (bJ bV dc)]]))]) (fun q=>[.blk 38 [.str carrier,.sl 11 (bJ iP L)],.blk 204 (yP ⟨1,-1,day,bill,by_,to,⟨nq2,cq2,sq2,frm2,to2,bq2,pq2,iq2,lq2⟩⟩),.blk 38 [.str ⟨⟨[]⟩⟩,.v (.slice none 0 0)],.blk 104 (yD ⟨⟨nq1,cq1,sq1,frm1,to1,bq1,pq1,iq1,lq1⟩,st1,⟨sa1,ha1,ca1⟩,⟨sb1,hb1,cb1⟩,⟨sc1,hc1,cc1⟩⟩),fR q.1 (.row 107 3 [.agg [.i sa1,.str ha1,.sl 4 (bJ bV ca1)],.agg [.i sb1,.str hb1,.sl 4 (bJ bV cb1)],.agg [.i sc1,.str hc1,.sl 4 (bJ bV cc1)]]) (.row 107 3 [.agg [.i sa1,.str to,.sl 4 (bJ bV da)],.agg [.i sb1,.str hb1,.sl 4 (bJ bV cb1)],.agg [.i sc1,.str hc1,.sl 4 (bJ bV cc1)]]) (.row 107 3 [.agg [.i sa1,.str to,.sl 4 (bJ bV da)],.agg [.i sb1,.str to,.sl 4 (bJ bV db)],.agg [.i sc1,.str hc1,.sl 4 (bJ bV cc1)]]) (.tip 107 3 [.agg [.i sa1,.str to,.sl 4 (bJ bV da)],.agg [.i sb1,.str to,.sl 4 (bJ bV db)],.agg [.i sc1,.str to,.sl 4 (bJ bV dc)]])]) (fun q=>eW 3 q.1) ⟨0,by decide⟩ ?_;rintro ⟨j,hj⟩;dsimp only at hj⊢;have hj2:j=0∨j=1∨j=2∨j=3:=by omega
    rcases hj2 with rfl|rfl|rfl|rfl
    ·refine dL.seq (.of ?_);cbv;repeat'((first|refine .y fun h=>?_|refine .k fun z hz=>?_|fail)<;>cbv)
     refine dL.seq (.block ?_);refine dL.seq (.of ?_);cbv;repeat'((first|refine bW.i0 ?_|refine aaA.i0 ?_|fail)<;>cbv)
     refine dL.seq (.of ?_);cbv;repeat'((first|refine .y fun h=>?_|refine .o ?_|refine .zl fun zs hzs hzl=>?_|refine And.intro ?_ ?_|fail)<;>cbv)
     all_goals
      obtain rfl:zs=bJ bV da:=by rw[hda,cD,cF];exact hzs
      refine dL.gh (Gh.plain 6 rfl) (.of ?_);cbv;repeat'((first|refine .z fun zs hzs=>?_|refine bW.i0 ?_|refine aaA.i0 ?_|fail)<;>cbv)
      obtain rfl:zs=[.agg [.i sa1,.str to,.sl 4 (bJ bV da)],.agg [.i sb1,.str hb1,.sl 4 (bJ bV cb1)],.agg [.i sc1,.str hc1,.sl 4 (bJ bV cc1)]]:=hzs;refine .of ?_;cbv;repeat'((first|refine .k fun z hz=>?_|fail)<;>cbv)
      obtain rfl:z=nI 1:=bQ;exact bN ⟨1,by decide⟩ (bO (by decide))
    ·refine dL.seq (.of ?_);cbv;repeat'((first|refine .y fun h=>?_|refine .k fun z hz=>?_|fail)<;>cbv)
     refine dL.seq (.block ?_);refine dL.seq (.of ?_);cbv;repeat'((first|refine bW.i1 ?_|refine aaA.i1 ?_|fail)<;>cbv)
     refine dL.seq (.of ?_);cbv;repeat'((first|refine .y fun h=>?_|refine .o ?_|refine .zl fun zs hzs hzl=>?_|refine And.intro ?_ ?_|fail)<;>cbv)
     all_goals
      obtain rfl:zs=bJ bV db:=by rw[hdb,cD,cF];exact hzs
      refine dL.gh (Gh.plain 6 rfl) (.of ?_);cbv;repeat'((first|refine .z fun zs hzs=>?_|refine bW.i1 ?_|refine aaA.i1 ?_|fail)<;>cbv)
      obtain rfl:zs=[.agg [.i sa1,.str to,.sl 4 (bJ bV da)],.agg [.i sb1,.str to,.sl 4 (bJ bV db)],.agg [.i sc1,.str hc1,.sl 4 (bJ bV cc1)]]:=hzs;refine .of ?_;cbv;repeat'((first|refine .k fun z hz=>?_|fail)<;>cbv)
      obtain rfl:z=nI 2:=bQ;exact bN ⟨2,by decide⟩ (bO (by decide))
    ·refine dL.seq (.of ?_);cbv;repeat'((first|refine .y fun h=>?_|refine .k fun z hz=>?_|fail)<;>cbv)
     refine dL.seq (.block ?_);refine dL.seq (.of ?_);cbv;repeat'((first|refine bW.i2 ?_|refine aaA.i2 ?_|fail)<;>cbv)
     refine dL.seq (.of ?_);cbv;repeat'((first|refine .y fun h=>?_|refine .o ?_|refine .zl fun zs hzs hzl=>?_|refine And.intro ?_ ?_|fail)<;>cbv)
     all_goals
      obtain rfl:zs=bJ bV dc:=by rw[hdc,cD,cF];exact hzs
      refine dL.gh (Gh.plain 6 rfl) (.of ?_);cbv;repeat'((first|refine .z fun zs hzs=>?_|refine bW.i2 ?_|refine aaA.i2 ?_|fail)<;>cbv)
      obtain rfl:zs=[.agg [.i sa1,.str to,.sl 4 (bJ bV da)],.agg [.i sb1,.str to,.sl 4 (bJ bV db)],.agg [.i sc1,.str to,.sl 4 (bJ bV dc)]]:=hzs;refine .of ?_;cbv;repeat'((first|refine .k fun z hz=>?_|fail)<;>cbv)
      obtain rfl:z=nI 3:=bQ;refine dK (Gh.plain 4 rfl) ?_;cbv;exact bN ⟨3,by decide⟩ (bO (by decide))
    ·refine dL.seq (.of ?_);cbv;repeat'((first|refine .n fun h=>?_|refine .k fun z hz=>?_|refine .o ?_|refine .l fun ys hys hyl=>?_|refine .zl fun zs hzs hzl=>?_|refine And.intro ?_ ?_|fail)<;>cbv)
     all_goals
      obtain rfl:zs=bJ iP (L.set i ⟨⟨nq1,cq1,sq1,frm1,to1,bq1,pq1,iq1,lq1⟩,st1,⟨sa1,to,da⟩,⟨sb1,to,db⟩,⟨sc1,to,dc⟩⟩):=jF hzs hys (by assumption) (by assumption) rfl bQ hii
      (refine .r9 (Gh.plain 5 rfl) ?_;cbv;exact .inl (.g9 hK))
 ·rw[aE (by assumption:¬e=0)]at hL';subst hL'
  (refine .q9 ?_;cbv;exact .inl (.f9 hK))
theorem Kw (P:bI) (hw:bK P 142 mU) (hf:bK P 63 sJ) (hwh:bK P 143 oP):IY P Ky (qA 2):=by
 intro args H K hc;obtain⟨⟨⟨carrier,L⟩,a⟩,rfl,rfl,hp,hK⟩:=hc;refine⟨cL,?_⟩;dsimp only at hp hK⊢;obtain⟨hkind,_,hfew,hall,hok,hsz,hts⟩:=hp;dsimp only at hkind hfew hall hok hsz hts;have hd:kF ⟨carrier,L⟩ a=(⟨carrier,gB L (cX a) (mD a)⟩,eM L (cX a)):=by unfold kF;rw[aE (by omega)]
 rw[hd]at hK;clear hd;obtain⟨e,he⟩:∃e,e=eM L (cX a):=⟨_,rfl⟩
 obtain⟨L',hL'⟩:∃L',L'=gB L (cX a) (mD a):=⟨_,rfl⟩
 rw[←he,←hL']at hK;unfold gB at hL';rw[←he]at hL';obtain⟨kind,index,day,bill,by_,to,b⟩:=a;obtain rfl:kind=2:=hkind;obtain⟨nq2,cq2,sq2,frm2,to2,bq2,pq2,iq2,lq2⟩:=b;refine dL.seq (.of ?_);cbv;refine dL.seq (.of ?_);cbv;repeat'((first|refine .n fun h=>?_|fail)<;>cbv)
 refine dL.seq (.of ?_);cbv
 (refine bX hw ((⟨carrier,L⟩:Rg),(⟨2,index,day,bill,by_,to,⟨nq2,cq2,sq2,frm2,to2,bq2,pq2,iq2,lq2⟩⟩:At)) ⟨⟨by show (1:Int)≤2;decide,by show (2:Int)≤5;decide⟩,hfew,fun b hb=>(hall b hb).1,hts⟩ ?_;try dsimp only)
 rw[←he];cbv;repeat'((first|refine .mk (fun h=>?_) fun h=>?_|fail)<;>cbv)
 ·rw[aF (by assumption:e=0)]at hL';have h0:e=0:=by assumption
  rw[h0]at hK;obtain⟨f,hf1⟩:∃f,f=pA (fun y:Br=>decide (y.b.number=bill)) L:=⟨_,rfl⟩
  refine dL.seq (.of ?_);cbv
  (refine bX hf ((⟨carrier,L⟩:Rg),bill) (by dsimp only;omega) ?_;try dsimp only)
  rw[←hf1];cases hb:oL L bill with
  |none=>exact(jU (he.symm.trans (by assumption:e=0)) hb).elim
  |some i=>
   rw[lJ,hb]at hf1;dsimp only at hf1;subst hf1;obtain⟨x,hx,_⟩:=eA hb;have hii:=(aA.1 hx).1;have hz:=lD (he.symm.trans (by assumption:e=0)) hb hx;have hk:=mN hz;clear hz;have hL':L'=BD L bill (fun b=>tL index (xU 1) (Db 1 b)):=hL';rw[gT _ hb hx]at hL';have hki:0≤index∧index < 3:=hk;have hk3:index=0∨index=1∨index=2:=by omega
   obtain⟨⟨nq1,cq1,sq1,frm1,to1,bq1,pq1,iq1,lq1⟩,st1,⟨sa1,ha1,ca1⟩,⟨sb1,hb1,cb1⟩,⟨sc1,hc1,cc1⟩⟩:=x;cbv;rcases hk3 with rfl|rfl|rfl
   ·obtain rfl:L'=L.set i ⟨⟨nq1,cq1,sq1,frm1,to1,bq1,pq1,iq1,lq1⟩,1,⟨1,ha1,ca1⟩,⟨2,hb1,cb1⟩,⟨2,hc1,cc1⟩⟩:=hL';refine dL.seq (.of ?_);cbv;repeat'((first|refine .e ?_|fail)<;>cbv)
    refine dL.seq (.of ?_);cbv;repeat'((first|refine .zl fun zs hzs hzl=>?_|fail)<;>cbv)
    obtain rfl:zs=[.agg [.i sa1,.str ha1,.sl 4 (bJ bV ca1)],.agg [.i sb1,.str hb1,.sl 4 (bJ bV cb1)],.agg [.i sc1,.str hc1,.sl 4 (bJ bV cc1)]]:=hzs;refine dL.seq (.of ?_);cbv
    (refine bX hwh (⟨2,0,day,bill,by_,to,⟨nq2,cq2,sq2,frm2,to2,bq2,pq2,iq2,lq2⟩⟩:At) trivial ?_;try dsimp only)
    rw[aE (by decide)];cbv;refine dL.seq (.of ?_);cbv;refine bS [] (fun q:{ j:Nat // j≤1 }=>[(11,.i (nI q.1))]) (fun q=>[.blk 38 [.str carrier,.sl 11 (bJ iP L)],.blk 204 (yP ⟨2,0,day,bill,by_,to,⟨nq2,cq2,sq2,frm2,to2,bq2,pq2,iq2,lq2⟩⟩),.blk 38 [.str ⟨⟨[]⟩⟩,.v (.slice none 0 0)],.blk 104 (yD ⟨⟨nq1,cq1,sq1,frm1,to1,bq1,pq1,iq1,lq1⟩,st1,⟨sa1,ha1,ca1⟩,⟨sb1,hb1,cb1⟩,⟨sc1,hc1,cc1⟩⟩),.row 107 3 [.agg [.i sa1,.str ha1,.sl 4 (bJ bV ca1)],.agg [.i sb1,.str hb1,.sl 4 (bJ bV cb1)],.agg [.i sc1,.str hc1,.sl 4 (bJ bV cc1)]]]) (fun q=>eW 1 q.1) ⟨0,by decide⟩ ?_;rintro ⟨j,hj⟩;dsimp only at hj⊢;have hj2:j=0∨j=1:=by omega
    rcases hj2 with rfl|rfl
    ·cbv;repeat'((first|refine .n fun h=>?_|refine .y fun h=>?_|refine .k fun z hz=>?_|refine .z fun zs hzs=>?_|refine bW.i0 ?_|refine aaA.i0 ?_|fail)<;>cbv)
     obtain rfl:zs=[.agg [.i sa1,.str ha1,.sl 4 (bJ bV ca1)],.agg [.i sb1,.str hb1,.sl 4 (bJ bV cb1)],.agg [.i sc1,.str hc1,.sl 4 (bJ bV cc1)]]:=hzs;obtain rfl:z=nI 1:=bQ;exact bN ⟨1,by decide⟩ (bO (by decide))
    ·cbv;repeat'((first|refine .n fun h=>?_|refine .k fun z hz=>?_|fail)<;>cbv)
     refine dL.seq (.of ?_);cbv;repeat'((first|refine .y fun h=>?_|fail)<;>cbv)
     refine bS [] (fun q:{ j:Nat // j≤3 }=>[(13,.i (nI q.1))]) (fun q=>[.blk 38 [.str carrier,.sl 11 (bJ iP L)],.blk 204 (yP ⟨2,0,day,bill,by_,to,⟨nq2,cq2,sq2,frm2,to2,bq2,pq2,iq2,lq2⟩⟩),.blk 38 [.str ⟨⟨[]⟩⟩,.v (.slice none 0 0)],.blk 104 (yD ⟨⟨nq1,cq1,sq1,frm1,to1,bq1,pq1,iq1,lq1⟩,st1,⟨sa1,ha1,ca1⟩,⟨sb1,hb1,cb1⟩,⟨sc1,hc1,cc1⟩⟩),fR q.1 (.row 107 3 [.agg [.i sa1,.str ha1,.sl 4 (bJ bV ca1)],.agg [.i sb1,.str hb1,.sl 4 (bJ bV cb1)],.agg [.i sc1,.str hc1,.sl 4 (bJ bV cc1)]]) (.row 107 3 [.agg [.i 2,.str ha1,.sl 4 (bJ bV ca1)],.agg [.i sb1,.str hb1,.sl 4 (bJ bV cb1)],.agg [.i sc1,.str hc1,.sl 4 (bJ bV cc1)]]) (.row 107 3 [.agg [.i 2,.str ha1,.sl 4 (bJ bV ca1)],.agg [.i 2,.str hb1,.sl 4 (bJ bV cb1)],.agg [.i sc1,.str hc1,.sl 4 (bJ bV cc1)]]) (.row 107 3 [.agg [.i 2,.str ha1,.sl 4 (bJ bV ca1)],.agg [.i 2,.str hb1,.sl 4 (bJ bV cb1)],.agg [.i 2,.str hc1,.sl 4 (bJ bV cc1)]])]) (fun q=>eW 3 q.1) ⟨0,by decide⟩ ?_;rintro ⟨j,hj⟩;dsimp only at hj⊢;have hj2:j=0∨j=1∨j=2∨j=3:=by omega
     rcases hj2 with rfl|rfl|rfl|rfl
     ·cbv;repeat'((first|refine .y fun h=>?_|refine .k fun z hz=>?_|refine .z fun zs hzs=>?_|refine bW.i0 ?_|refine aaA.i0 ?_|fail)<;>cbv)
      obtain rfl:zs=[.agg [.i 2,.str ha1,.sl 4 (bJ bV ca1)],.agg [.i sb1,.str hb1,.sl 4 (bJ bV cb1)],.agg [.i sc1,.str hc1,.sl 4 (bJ bV cc1)]]:=hzs;obtain rfl:z=nI 1:=bQ;exact bN ⟨1,by decide⟩ (bO (by decide))
     ·cbv;repeat'((first|refine .y fun h=>?_|refine .k fun z hz=>?_|refine .z fun zs hzs=>?_|refine bW.i1 ?_|refine aaA.i1 ?_|fail)<;>cbv)
      obtain rfl:zs=[.agg [.i 2,.str ha1,.sl 4 (bJ bV ca1)],.agg [.i 2,.str hb1,.sl 4 (bJ bV cb1)],.agg [.i sc1,.str hc1,.sl 4 (bJ bV cc1)]]:=hzs;obtain rfl:z=nI 2:=bQ;exact bN ⟨2,by decide⟩ (bO (by decide))
     ·cbv;repeat'((first|refine .y fun h=>?_|refine .k fun z hz=>?_|refine .z fun zs hzs=>?_|refine bW.i2 ?_|refine aaA.i2 ?_|fail)<;>cbv)
      obtain rfl:zs=[.agg [.i 2,.str ha1,.sl 4 (bJ bV ca1)],.agg [.i 2,.str hb1,.sl 4 (bJ bV cb1)],.agg [.i 2,.str hc1,.sl 4 (bJ bV cc1)]]:=hzs;obtain rfl:z=nI 3:=bQ;exact bN ⟨3,by decide⟩ (bO (by decide))
     ·cbv;repeat'((first|refine .n fun h=>?_|fail)<;>cbv)
      refine dL.seq (.of ?_);cbv;repeat'((first|refine .y fun h=>?_|refine .z fun zs hzs=>?_|refine bW.i0 ?_|refine aaA.i0 ?_|fail)<;>cbv)
      obtain rfl:zs=[.agg [.i 1,.str ha1,.sl 4 (bJ bV ca1)],.agg [.i 2,.str hb1,.sl 4 (bJ bV cb1)],.agg [.i 2,.str hc1,.sl 4 (bJ bV cc1)]]:=hzs;refine dL.gh (Gh.plain 4 rfl) (.of ?_);cbv;repeat'((first|refine .k fun z hz=>?_|refine .o ?_|refine .l fun ys hys hyl=>?_|refine .zl fun zs hzs hzl=>?_|refine And.intro ?_ ?_|fail)<;>cbv)
      all_goals
       obtain rfl:zs=bJ iP (L.set i ⟨⟨nq1,cq1,sq1,frm1,to1,bq1,pq1,iq1,lq1⟩,1,⟨1,ha1,ca1⟩,⟨2,hb1,cb1⟩,⟨2,hc1,cc1⟩⟩):=jF hzs hys (by assumption) (by assumption) rfl bQ hii
       (refine .r9 (Gh.plain 5 rfl) ?_;cbv;exact .inl (.g9 hK))
   ·obtain rfl:L'=L.set i ⟨⟨nq1,cq1,sq1,frm1,to1,bq1,pq1,iq1,lq1⟩,1,⟨2,ha1,ca1⟩,⟨1,hb1,cb1⟩,⟨2,hc1,cc1⟩⟩:=hL';refine dL.seq (.of ?_);cbv;repeat'((first|refine .e ?_|fail)<;>cbv)
    refine dL.seq (.of ?_);cbv;repeat'((first|refine .zl fun zs hzs hzl=>?_|fail)<;>cbv)
    obtain rfl:zs=[.agg [.i sa1,.str ha1,.sl 4 (bJ bV ca1)],.agg [.i sb1,.str hb1,.sl 4 (bJ bV cb1)],.agg [.i sc1,.str hc1,.sl 4 (bJ bV cc1)]]:=hzs;refine dL.seq (.of ?_);cbv
    (refine bX hwh (⟨2,1,day,bill,by_,to,⟨nq2,cq2,sq2,frm2,to2,bq2,pq2,iq2,lq2⟩⟩:At) trivial ?_;try dsimp only)
    rw[aE (by decide)];cbv;refine dL.seq (.of ?_);cbv;refine bS [] (fun q:{ j:Nat // j≤1 }=>[(11,.i (nI q.1))]) (fun q=>[.blk 38 [.str carrier,.sl 11 (bJ iP L)],.blk 204 (yP ⟨2,1,day,bill,by_,to,⟨nq2,cq2,sq2,frm2,to2,bq2,pq2,iq2,lq2⟩⟩),.blk 38 [.str ⟨⟨[]⟩⟩,.v (.slice none 0 0)],.blk 104 (yD ⟨⟨nq1,cq1,sq1,frm1,to1,bq1,pq1,iq1,lq1⟩,st1,⟨sa1,ha1,ca1⟩,⟨sb1,hb1,cb1⟩,⟨sc1,hc1,cc1⟩⟩),.row 107 3 [.agg [.i sa1,.str ha1,.sl 4 (bJ bV ca1)],.agg [.i sb1,.str hb1,.sl 4 (bJ bV cb1)],.agg [.i sc1,.str hc1,.sl 4 (bJ bV cc1)]]]) (fun q=>eW 1 q.1) ⟨0,by decide⟩ ?_;rintro ⟨j,hj⟩;dsimp only at hj⊢;have hj2:j=0∨j=1:=by omega
    rcases hj2 with rfl|rfl
    ·cbv;repeat'((first|refine .n fun h=>?_|refine .y fun h=>?_|refine .k fun z hz=>?_|refine .z fun zs hzs=>?_|refine bW.i0 ?_|refine bW.i1 ?_|refine aaA.i1 ?_|fail)<;>cbv)
     obtain rfl:zs=[.agg [.i sa1,.str ha1,.sl 4 (bJ bV ca1)],.agg [.i sb1,.str hb1,.sl 4 (bJ bV cb1)],.agg [.i sc1,.str hc1,.sl 4 (bJ bV cc1)]]:=hzs;obtain rfl:z=nI 1:=bQ;exact bN ⟨1,by decide⟩ (bO (by decide))
    ·cbv;repeat'((first|refine .n fun h=>?_|refine .k fun z hz=>?_|fail)<;>cbv)
     refine dL.seq (.of ?_);cbv;repeat'((first|refine .y fun h=>?_|fail)<;>cbv)
     refine bS [] (fun q:{ j:Nat // j≤3 }=>[(13,.i (nI q.1))]) (fun q=>[.blk 38 [.str carrier,.sl 11 (bJ iP L)],.blk 204 (yP ⟨2,1,day,bill,by_,to,⟨nq2,cq2,sq2,frm2,to2,bq2,pq2,iq2,lq2⟩⟩),.blk 38 [.str ⟨⟨[]⟩⟩,.v (.slice none 0 0)],.blk 104 (yD ⟨⟨nq1,cq1,sq1,frm1,to1,bq1,pq1,iq1,lq1⟩,st1,⟨sa1,ha1,ca1⟩,⟨sb1,hb1,cb1⟩,⟨sc1,hc1,cc1⟩⟩),fR q.1 (.row 107 3 [.agg [.i sa1,.str ha1,.sl 4 (bJ bV ca1)],.agg [.i sb1,.str hb1,.sl 4 (bJ bV cb1)],.agg [.i sc1,.str hc1,.sl 4 (bJ bV cc1)]]) (.row 107 3 [.agg [.i 2,.str ha1,.sl 4 (bJ bV ca1)],.agg [.i sb1,.str hb1,.sl 4 (bJ bV cb1)],.agg [.i sc1,.str hc1,.sl 4 (bJ bV cc1)]]) (.row 107 3 [.agg [.i 2,.str ha1,.sl 4 (bJ bV ca1)],.agg [.i 2,.str hb1,.sl 4 (bJ bV cb1)],.agg [.i sc1,.str hc1,.sl 4 (bJ bV cc1)]]) (.row 107 3 [.agg [.i 2,.str ha1,.sl 4 (bJ bV ca1)],.agg [.i 2,.str hb1,.sl 4 (bJ bV cb1)],.agg [.i 2,.str hc1,.sl 4 (bJ bV cc1)]])]) (fun q=>eW 3 q.1) ⟨0,by decide⟩ ?_;rintro ⟨j,hj⟩;dsimp only at hj⊢;have hj2:j=0∨j=1∨j=2∨j=3:=by omega
     rcases hj2 with rfl|rfl|rfl|rfl
     ·cbv;repeat'((first|refine .y fun h=>?_|refine .k fun z hz=>?_|refine .z fun zs hzs=>?_|refine bW.i0 ?_|refine aaA.i0 ?_|fail)<;>cbv)
      obtain rfl:zs=[.agg [.i 2,.str ha1,.sl 4 (bJ bV ca1)],.agg [.i sb1,.str hb1,.sl 4 (bJ bV cb1)],.agg [.i sc1,.str hc1,.sl 4 (bJ bV cc1)]]:=hzs;obtain rfl:z=nI 1:=bQ;exact bN ⟨1,by decide⟩ (bO (by decide))
     ·cbv;repeat'((first|refine .y fun h=>?_|refine .k fun z hz=>?_|refine .z fun zs hzs=>?_|refine bW.i1 ?_|refine aaA.i1 ?_|fail)<;>cbv)
      obtain rfl:zs=[.agg [.i 2,.str ha1,.sl 4 (bJ bV ca1)],.agg [.i 2,.str hb1,.sl 4 (bJ bV cb1)],.agg [.i sc1,.str hc1,.sl 4 (bJ bV cc1)]]:=hzs;obtain rfl:z=nI 2:=bQ;exact bN ⟨2,by decide⟩ (bO (by decide))
     ·cbv;repeat'((first|refine .y fun h=>?_|refine .k fun z hz=>?_|refine .z fun zs hzs=>?_|refine bW.i2 ?_|refine aaA.i2 ?_|fail)<;>cbv)
      obtain rfl:zs=[.agg [.i 2,.str ha1,.sl 4 (bJ bV ca1)],.agg [.i 2,.str hb1,.sl 4 (bJ bV cb1)],.agg [.i 2,.str hc1,.sl 4 (bJ bV cc1)]]:=hzs;obtain rfl:z=nI 3:=bQ;exact bN ⟨3,by decide⟩ (bO (by decide))
     ·cbv;repeat'((first|refine .n fun h=>?_|fail)<;>cbv)
      refine dL.seq (.of ?_);cbv;repeat'((first|refine .y fun h=>?_|refine .z fun zs hzs=>?_|refine bW.i1 ?_|refine aaA.i1 ?_|fail)<;>cbv)
      obtain rfl:zs=[.agg [.i 2,.str ha1,.sl 4 (bJ bV ca1)],.agg [.i 1,.str hb1,.sl 4 (bJ bV cb1)],.agg [.i 2,.str hc1,.sl 4 (bJ bV cc1)]]:=hzs;refine dL.gh (Gh.plain 4 rfl) (.of ?_);cbv;repeat'((first|refine .k fun z hz=>?_|refine .o ?_|refine .l fun ys hys hyl=>?_|refine .zl fun zs hzs hzl=>?_|refine And.intro ?_ ?_|fail)<;>cbv)
      all_goals
       obtain rfl:zs=bJ iP (L.set i ⟨⟨nq1,cq1,sq1,frm1,to1,bq1,pq1,iq1,lq1⟩,1,⟨2,ha1,ca1⟩,⟨1,hb1,cb1⟩,⟨2,hc1,cc1⟩⟩):=jF hzs hys (by assumption) (by assumption) rfl bQ hii
       (refine .r9 (Gh.plain 5 rfl) ?_;cbv;exact .inl (.g9 hK))
   ·obtain rfl:L'=L.set i ⟨⟨nq1,cq1,sq1,frm1,to1,bq1,pq1,iq1,lq1⟩,1,⟨2,ha1,ca1⟩,⟨2,hb1,cb1⟩,⟨1,hc1,cc1⟩⟩:=hL';refine dL.seq (.of ?_);cbv;repeat'((first|refine .e ?_|fail)<;>cbv)
    refine dL.seq (.of ?_);cbv;repeat'((first|refine .zl fun zs hzs hzl=>?_|fail)<;>cbv)
    obtain rfl:zs=[.agg [.i sa1,.str ha1,.sl 4 (bJ bV ca1)],.agg [.i sb1,.str hb1,.sl 4 (bJ bV cb1)],.agg [.i sc1,.str hc1,.sl 4 (bJ bV cc1)]]:=hzs;refine dL.seq (.of ?_);cbv
    (refine bX hwh (⟨2,2,day,bill,by_,to,⟨nq2,cq2,sq2,frm2,to2,bq2,pq2,iq2,lq2⟩⟩:At) trivial ?_;try dsimp only)
    rw[aE (by decide)];cbv;refine dL.seq (.of ?_);cbv;refine bS [] (fun q:{ j:Nat // j≤1 }=>[(11,.i (nI q.1))]) (fun q=>[.blk 38 [.str carrier,.sl 11 (bJ iP L)],.blk 204 (yP ⟨2,2,day,bill,by_,to,⟨nq2,cq2,sq2,frm2,to2,bq2,pq2,iq2,lq2⟩⟩),.blk 38 [.str ⟨⟨[]⟩⟩,.v (.slice none 0 0)],.blk 104 (yD ⟨⟨nq1,cq1,sq1,frm1,to1,bq1,pq1,iq1,lq1⟩,st1,⟨sa1,ha1,ca1⟩,⟨sb1,hb1,cb1⟩,⟨sc1,hc1,cc1⟩⟩),.row 107 3 [.agg [.i sa1,.str ha1,.sl 4 (bJ bV ca1)],.agg [.i sb1,.str hb1,.sl 4 (bJ bV cb1)],.agg [.i sc1,.str hc1,.sl 4 (bJ bV cc1)]]]) (fun q=>eW 1 q.1) ⟨0,by decide⟩ ?_;rintro ⟨j,hj⟩;dsimp only at hj⊢;have hj2:j=0∨j=1:=by omega
    rcases hj2 with rfl|rfl
    ·cbv;repeat'((first|refine .n fun h=>?_|refine .y fun h=>?_|refine .k fun z hz=>?_|refine .z fun zs hzs=>?_|refine bW.i0 ?_|refine bW.i2 ?_|refine aaA.i2 ?_|fail)<;>cbv)
     obtain rfl:zs=[.agg [.i sa1,.str ha1,.sl 4 (bJ bV ca1)],.agg [.i sb1,.str hb1,.sl 4 (bJ bV cb1)],.agg [.i sc1,.str hc1,.sl 4 (bJ bV cc1)]]:=hzs;obtain rfl:z=nI 1:=bQ;exact bN ⟨1,by decide⟩ (bO (by decide))
    ·cbv;repeat'((first|refine .n fun h=>?_|refine .k fun z hz=>?_|fail)<;>cbv)
     refine dL.seq (.of ?_);cbv;repeat'((first|refine .y fun h=>?_|fail)<;>cbv)
     refine bS [] (fun q:{ j:Nat // j≤3 }=>[(13,.i (nI q.1))]) (fun q=>[.blk 38 [.str carrier,.sl 11 (bJ iP L)],.blk 204 (yP ⟨2,2,day,bill,by_,to,⟨nq2,cq2,sq2,frm2,to2,bq2,pq2,iq2,lq2⟩⟩),.blk 38 [.str ⟨⟨[]⟩⟩,.v (.slice none 0 0)],.blk 104 (yD ⟨⟨nq1,cq1,sq1,frm1,to1,bq1,pq1,iq1,lq1⟩,st1,⟨sa1,ha1,ca1⟩,⟨sb1,hb1,cb1⟩,⟨sc1,hc1,cc1⟩⟩),fR q.1 (.row 107 3 [.agg [.i sa1,.str ha1,.sl 4 (bJ bV ca1)],.agg [.i sb1,.str hb1,.sl 4 (bJ bV cb1)],.agg [.i sc1,.str hc1,.sl 4 (bJ bV cc1)]]) (.row 107 3 [.agg [.i 2,.str ha1,.sl 4 (bJ bV ca1)],.agg [.i sb1,.str hb1,.sl 4 (bJ bV cb1)],.agg [.i sc1,.str hc1,.sl 4 (bJ bV cc1)]]) (.row 107 3 [.agg [.i 2,.str ha1,.sl 4 (bJ bV ca1)],.agg [.i 2,.str hb1,.sl 4 (bJ bV cb1)],.agg [.i sc1,.str hc1,.sl 4 (bJ bV cc1)]]) (.row 107 3 [.agg [.i 2,.str ha1,.sl 4 (bJ bV ca1)],.agg [.i 2,.str hb1,.sl 4 (bJ bV cb1)],.agg [.i 2,.str hc1,.sl 4 (bJ bV cc1)]])]) (fun q=>eW 3 q.1) ⟨0,by decide⟩ ?_;rintro ⟨j,hj⟩;dsimp only at hj⊢;have hj2:j=0∨j=1∨j=2∨j=3:=by omega
     rcases hj2 with rfl|rfl|rfl|rfl
     ·cbv;repeat'((first|refine .y fun h=>?_|refine .k fun z hz=>?_|refine .z fun zs hzs=>?_|refine bW.i0 ?_|refine aaA.i0 ?_|fail)<;>cbv)
      obtain rfl:zs=[.agg [.i 2,.str ha1,.sl 4 (bJ bV ca1)],.agg [.i sb1,.str hb1,.sl 4 (bJ bV cb1)],.agg [.i sc1,.str hc1,.sl 4 (bJ bV cc1)]]:=hzs;obtain rfl:z=nI 1:=bQ;exact bN ⟨1,by decide⟩ (bO (by decide))
     ·cbv;repeat'((first|refine .y fun h=>?_|refine .k fun z hz=>?_|refine .z fun zs hzs=>?_|refine bW.i1 ?_|refine aaA.i1 ?_|fail)<;>cbv)
      obtain rfl:zs=[.agg [.i 2,.str ha1,.sl 4 (bJ bV ca1)],.agg [.i 2,.str hb1,.sl 4 (bJ bV cb1)],.agg [.i sc1,.str hc1,.sl 4 (bJ bV cc1)]]:=hzs;obtain rfl:z=nI 2:=bQ;exact bN ⟨2,by decide⟩ (bO (by decide))
     ·cbv;repeat'((first|refine .y fun h=>?_|refine .k fun z hz=>?_|refine .z fun zs hzs=>?_|refine bW.i2 ?_|refine aaA.i2 ?_|fail)<;>cbv)
      obtain rfl:zs=[.agg [.i 2,.str ha1,.sl 4 (bJ bV ca1)],.agg [.i 2,.str hb1,.sl 4 (bJ bV cb1)],.agg [.i 2,.str hc1,.sl 4 (bJ bV cc1)]]:=hzs;obtain rfl:z=nI 3:=bQ;exact bN ⟨3,by decide⟩ (bO (by decide))
     ·cbv;repeat'((first|refine .n fun h=>?_|fail)<;>cbv)
      refine dL.seq (.of ?_);cbv;repeat'((first|refine .y fun h=>?_|refine .z fun zs hzs=>?_|refine bW.i2 ?_|refine aaA.i2 ?_|fail)<;>cbv)
      obtain rfl:zs=[.agg [.i 2,.str ha1,.sl 4 (bJ bV ca1)],.agg [.i 2,.str hb1,.sl 4 (bJ bV cb1)],.agg [.i 1,.str hc1,.sl 4 (bJ bV cc1)]]:=hzs;refine dL.gh (Gh.plain 4 rfl) (.of ?_);cbv;repeat'((first|refine .k fun z hz=>?_|refine .o ?_|refine .l fun ys hys hyl=>?_|refine .zl fun zs hzs hzl=>?_|refine And.intro ?_ ?_|fail)<;>cbv)
      all_goals
       obtain rfl:zs=bJ iP (L.set i ⟨⟨nq1,cq1,sq1,frm1,to1,bq1,pq1,iq1,lq1⟩,1,⟨2,ha1,ca1⟩,⟨2,hb1,cb1⟩,⟨1,hc1,cc1⟩⟩):=jF hzs hys (by assumption) (by assumption) rfl bQ hii
       (refine .r9 (Gh.plain 5 rfl) ?_;cbv;exact .inl (.g9 hK))
 ·rw[aE (by assumption:¬e=0)]at hL';subst hL'
  (refine .q9 ?_;cbv;exact .inl (.f9 hK))
theorem J6 (P:bI) (hw:bK P 142 mU) (hf:bK P 63 sJ) (hwh:bK P 143 oP):bM P Ky (qA 5):=by
 intro args H K hc;obtain⟨⟨⟨carrier,L⟩,a⟩,rfl,rfl,hp,hK⟩:=hc;refine⟨cL,?_⟩;dsimp only at hp hK⊢;obtain⟨hkind,_,hfew,hall,hok,hsz,hts⟩:=hp;dsimp only at hkind hfew hall hok hsz hts;have hd:kF ⟨carrier,L⟩ a=(⟨carrier,gB L (cX a) (mD a)⟩,eM L (cX a)):=by unfold kF;rw[aE (by omega)]
 rw[hd]at hK;clear hd;obtain⟨e,he⟩:∃e,e=eM L (cX a):=⟨_,rfl⟩
 obtain⟨L',hL'⟩:∃L',L'=gB L (cX a) (mD a):=⟨_,rfl⟩
 rw[←he,←hL']at hK;unfold gB at hL';rw[←he]at hL';obtain⟨kind,index,day,bill,by_,to,b⟩:=a;obtain rfl:kind=5:=hkind;obtain⟨nq2,cq2,sq2,frm2,to2,bq2,pq2,iq2,lq2⟩:=b;cbv;repeat'((first|refine .n fun h=>?_|fail)<;>cbv)
 (refine bX hw ((⟨carrier,L⟩:Rg),(⟨5,index,day,bill,by_,to,⟨nq2,cq2,sq2,frm2,to2,bq2,pq2,iq2,lq2⟩⟩:At)) ⟨⟨by show (1:Int)≤5;decide,by show (5:Int)≤5;decide⟩,hfew,fun b hb=>(hall b hb).1,hts⟩ ?_;try dsimp only)
 rw[←he];cbv;repeat'((first|refine .mk (fun h=>?_) fun h=>?_|fail)<;>cbv)
 ·rw[aF (by assumption:e=0)]at hL';have h0:e=0:=by assumption
  rw[h0]at hK;obtain⟨f,hf1⟩:∃f,f=pA (fun y:Br=>decide (y.b.number=bill)) L:=⟨_,rfl⟩
  (refine bX hf ((⟨carrier,L⟩:Rg),bill) (by dsimp only;omega) ?_;try dsimp only)
  rw[←hf1];cases hb:oL L bill with
  |none=>exact(jU (he.symm.trans (by assumption:e=0)) hb).elim
  |some i=>
   rw[lJ,hb]at hf1;dsimp only at hf1;subst hf1;obtain⟨x,hx,_⟩:=eA hb;have hii:=(aA.1 hx).1;have hz:=lD (he.symm.trans (by assumption:e=0)) hb hx;have hL':L'=BD L bill (Db 4):=hL';rw[gT _ hb hx]at hL';clear hz;obtain⟨⟨nq1,cq1,sq1,frm1,to1,bq1,pq1,iq1,lq1⟩,st1,⟨sa1,ha1,ca1⟩,⟨sb1,hb1,cb1⟩,⟨sc1,hc1,cc1⟩⟩:=x;obtain rfl:L'=L.set i ⟨⟨nq1,cq1,sq1,frm1,to1,bq1,pq1,iq1,lq1⟩,4,⟨2,ha1,ca1⟩,⟨2,hb1,cb1⟩,⟨2,hc1,cc1⟩⟩:=hL';cbv;repeat'((first|refine .e ?_|refine .zl fun zs hzs hzl=>?_|fail)<;>cbv)
   obtain rfl:zs=[.agg [.i sa1,.str ha1,.sl 4 (bJ bV ca1)],.agg [.i sb1,.str hb1,.sl 4 (bJ bV cb1)],.agg [.i sc1,.str hc1,.sl 4 (bJ bV cc1)]]:=hzs
   (refine bX hwh (⟨5,index,day,bill,by_,to,⟨nq2,cq2,sq2,frm2,to2,bq2,pq2,iq2,lq2⟩⟩:At) trivial ?_;try dsimp only)
   rw[aF (.inl rfl)];cbv;refine bS [] (fun q:{ j:Nat // j≤3 }=>[(11,.i (nI q.1))]) (fun q=>[.blk 38 [.str carrier,.sl 11 (bJ iP L)],.blk 204 (yP ⟨5,index,day,bill,by_,to,⟨nq2,cq2,sq2,frm2,to2,bq2,pq2,iq2,lq2⟩⟩),.blk 38 [.str ⟨⟨[]⟩⟩,.v (.slice none 0 0)],.blk 104 (yD ⟨⟨nq1,cq1,sq1,frm1,to1,bq1,pq1,iq1,lq1⟩,st1,⟨sa1,ha1,ca1⟩,⟨sb1,hb1,cb1⟩,⟨sc1,hc1,cc1⟩⟩),.row 107 3 [.agg [.i sa1,.str ha1,.sl 4 (bJ bV ca1)],.agg [.i sb1,.str hb1,.sl 4 (bJ bV cb1)],.agg [.i sc1,.str hc1,.sl 4 (bJ bV cc1)]]]) (fun q=>eW 3 q.1) ⟨0,by decide⟩ ?_;rintro ⟨j,hj⟩;dsimp only at hj⊢;have hj2:j=0∨j=1∨j=2∨j=3:=by omega
   rcases hj2 with rfl|rfl|rfl|rfl
   ·cbv;repeat'((first|refine .n fun h=>?_|refine .y fun h=>?_|refine .k fun z hz=>?_|refine .z fun zs hzs=>?_|refine bW.i0 ?_|refine aaA.i0 ?_|fail)<;>cbv)
    obtain rfl:zs=[.agg [.i sa1,.str ha1,.sl 4 (bJ bV ca1)],.agg [.i sb1,.str hb1,.sl 4 (bJ bV cb1)],.agg [.i sc1,.str hc1,.sl 4 (bJ bV cc1)]]:=hzs;obtain rfl:z=nI 1:=bQ;exact bN ⟨1,by decide⟩ (bO (by decide))
   ·cbv;repeat'((first|refine .n fun h=>?_|refine .y fun h=>?_|refine .k fun z hz=>?_|refine .z fun zs hzs=>?_|refine bW.i1 ?_|refine aaA.i1 ?_|fail)<;>cbv)
    obtain rfl:zs=[.agg [.i sa1,.str ha1,.sl 4 (bJ bV ca1)],.agg [.i sb1,.str hb1,.sl 4 (bJ bV cb1)],.agg [.i sc1,.str hc1,.sl 4 (bJ bV cc1)]]:=hzs;obtain rfl:z=nI 2:=bQ;exact bN ⟨2,by decide⟩ (bO (by decide))
   ·cbv;repeat'((first|refine .n fun h=>?_|refine .y fun h=>?_|refine .k fun z hz=>?_|refine .z fun zs hzs=>?_|refine bW.i2 ?_|refine aaA.i2 ?_|fail)<;>cbv)
    obtain rfl:zs=[.agg [.i sa1,.str ha1,.sl 4 (bJ bV ca1)],.agg [.i sb1,.str hb1,.sl 4 (bJ bV cb1)],.agg [.i sc1,.str hc1,.sl 4 (bJ bV cc1)]]:=hzs;obtain rfl:z=nI 3:=bQ;exact bN ⟨3,by decide⟩ (bO (by decide))
   ·cbv;repeat'((first|refine .n fun h=>?_|refine .y fun h=>?_|refine .k fun z hz=>?_|fail)<;>cbv)
    refine bS [4] (fun q:{ j:Nat // j≤3 }=>[(13,.i (nI q.1)),(9,fR q.1 (.hd 4) (.hd 4) (.hd 4) (.sl 3 [.agg [.i 2,.str ha1,.sl 4 (bJ bV ca1)],.agg [.i 2,.str hb1,.sl 4 (bJ bV cb1)],.agg [.i 2,.str hc1,.sl 4 (bJ bV cc1)]]))]) (fun q=>[.blk 38 [.str carrier,.sl 11 (bJ iP L)],.blk 204 (yP ⟨5,index,day,bill,by_,to,⟨nq2,cq2,sq2,frm2,to2,bq2,pq2,iq2,lq2⟩⟩),.blk 38 [.str ⟨⟨[]⟩⟩,.v (.slice none 0 0)],.blk 104 (yD ⟨⟨nq1,cq1,sq1,frm1,to1,bq1,pq1,iq1,lq1⟩,st1,⟨sa1,ha1,ca1⟩,⟨sb1,hb1,cb1⟩,⟨sc1,hc1,cc1⟩⟩),fR q.1 (.row 107 3 [.agg [.i sa1,.str ha1,.sl 4 (bJ bV ca1)],.agg [.i sb1,.str hb1,.sl 4 (bJ bV cb1)],.agg [.i sc1,.str hc1,.sl 4 (bJ bV cc1)]]) (.row 107 3 [.agg [.i 2,.str ha1,.sl 4 (bJ bV ca1)],.agg [.i sb1,.str hb1,.sl 4 (bJ bV cb1)],.agg [.i sc1,.str hc1,.sl 4 (bJ bV cc1)]]) (.row 107 3 [.agg [.i 2,.str ha1,.sl 4 (bJ bV ca1)],.agg [.i 2,.str hb1,.sl 4 (bJ bV cb1)],.agg [.i sc1,.str hc1,.sl 4 (bJ bV cc1)]]) (.tip 107 3 [.agg [.i 2,.str ha1,.sl 4 (bJ bV ca1)],.agg [.i 2,.str hb1,.sl 4 (bJ bV cb1)],.agg [.i 2,.str hc1,.sl 4 (bJ bV cc1)]])]) (fun q=>eW 3 q.1) ⟨0,by decide⟩ ?_;rintro ⟨j,hj⟩;dsimp only at hj⊢;have hj2:j=0∨j=1∨j=2∨j=3:=by omega
    rcases hj2 with rfl|rfl|rfl|rfl
    ·cbv;repeat'((first|refine .y fun h=>?_|refine .k fun z hz=>?_|refine .z fun zs hzs=>?_|refine bW.i0 ?_|refine aaA.i0 ?_|fail)<;>cbv)
     obtain rfl:zs=[.agg [.i 2,.str ha1,.sl 4 (bJ bV ca1)],.agg [.i sb1,.str hb1,.sl 4 (bJ bV cb1)],.agg [.i sc1,.str hc1,.sl 4 (bJ bV cc1)]]:=hzs;obtain rfl:z=nI 1:=bQ;exact bN ⟨1,by decide⟩ (bO (by decide))
    ·cbv;repeat'((first|refine .y fun h=>?_|refine .k fun z hz=>?_|refine .z fun zs hzs=>?_|refine bW.i1 ?_|refine aaA.i1 ?_|fail)<;>cbv)
     obtain rfl:zs=[.agg [.i 2,.str ha1,.sl 4 (bJ bV ca1)],.agg [.i 2,.str hb1,.sl 4 (bJ bV cb1)],.agg [.i sc1,.str hc1,.sl 4 (bJ bV cc1)]]:=hzs;obtain rfl:z=nI 2:=bQ;exact bN ⟨2,by decide⟩ (bO (by decide))
    ·cbv;repeat'((first|refine .y fun h=>?_|refine .k fun z hz=>?_|refine .z fun zs hzs=>?_|refine bW.i2 ?_|refine aaA.i2 ?_|fail)<;>cbv)
     obtain rfl:zs=[.agg [.i 2,.str ha1,.sl 4 (bJ bV ca1)],.agg [.i 2,.str hb1,.sl 4 (bJ bV cb1)],.agg [.i 2,.str hc1,.sl 4 (bJ bV cc1)]]:=hzs;obtain rfl:z=nI 3:=bQ;refine dK (Gh.plain 4 rfl) ?_;cbv;exact bN ⟨3,by decide⟩ (bO (by decide))
    ·cbv;repeat'((first|refine .n fun h=>?_|refine .k fun z hz=>?_|refine .o ?_|refine .l fun ys hys hyl=>?_|refine .zl fun zs hzs hzl=>?_|refine And.intro ?_ ?_|fail)<;>cbv)
     all_goals
      obtain rfl:zs=bJ iP (L.set i ⟨⟨nq1,cq1,sq1,frm1,to1,bq1,pq1,iq1,lq1⟩,4,⟨2,ha1,ca1⟩,⟨2,hb1,cb1⟩,⟨2,hc1,cc1⟩⟩):=jF hzs hys (by assumption) (by assumption) rfl bQ hii
      (refine .r9 (Gh.plain 5 rfl) ?_;cbv;exact .inl (.g9 hK))
 ·rw[aE (by assumption:¬e=0)]at hL';subst hL'
  (refine .q9 ?_;cbv;exact .inl (.f9 hK))
def Hc:dA:=spec (fun i:Rg×At=>[I7 i.1,PK i.2]) (fun _=>[]) (fun i=>KT i) (fun i=>XQ (kF i.1 i.2)) fun _=>[]
theorem Um {P:bI}{f:Nat}(h0:bK P f (qA 0)) (h1:bK P f (qA 1)) (h2:bK P f (qA 2)) (h3:bK P f (qA 3)) (h4:bK P f (qA 4)) (h5:bK P f (qA 5)):bK P f Hc:=by
 intro args H K hc;obtain⟨i,rfl,rfl,hp,hK⟩:=hc;have hk:=hp.kind;have h:i.2.kind=0∨i.2.kind=1∨i.2.kind=2∨i.2.kind=3∨i.2.kind=4∨i.2.kind=5:=by omega
 rcases h with h|h|h|h|h|h
 ·exact h0 _ _ K ⟨i,rfl,rfl,⟨h,hp⟩,hK⟩
 ·exact h1 _ _ K ⟨i,rfl,rfl,⟨h,hp⟩,hK⟩
 ·exact h2 _ _ K ⟨i,rfl,rfl,⟨h,hp⟩,hK⟩
 ·exact h3 _ _ K ⟨i,rfl,rfl,⟨h,hp⟩,hK⟩
 ·exact h4 _ _ K ⟨i,rfl,rfl,⟨h,hp⟩,hK⟩
 ·exact h5 _ _ K ⟨i,rfl,rfl,⟨h,hp⟩,hK⟩
set_option maxHeartbeats 8000000
def U1:Dp→List AV
 |⟨number,seller,buyer,house,frm,to,boxes,state,rel⟩=>[.str number,.str seller,.str buyer,.str house,.str frm,.str to,.sl 1 (bJ .str boxes),.i state,.bl rel]
def gI:Dp→A3
 |⟨number,seller,buyer,house,frm,to,boxes,state,rel⟩=>(.str number,.ptr 0 0,[.blk 136 [.str number,.str seller,.str buyer,.str house,.str frm,.str to,.sl 1 (bJ .str boxes),.i state,.bl rel]])
def Yy (d:Dp):List cG:=[.blk 136 (U1 d)]
def Nc (C:Cr) (i:Nat) (d:Dp):List cG:=[.blk 118 [.str C.name,.hd 1,.ph 2,.ptr 3 0,.ptr 5 0,.hd 7],.map 70 (bJ iF C.parties),.pool 116 (bJ gI C.deals) [(i,.ptr 8 0)],.blk 122 [.str C.reg.carrier,.ph 4],.pool 120 (bJ aaI C.reg.bills) [],.blk 174 [.ph 6],.pool 172 (bJ eX C.cust) [],.tip 77 5 (bJ dG C.deliv),.blk 136 (U1 d)]
structure HQ where
 C:Cr
 i:Nat
 d:Dp
 l:dQ
 day:Int
structure Zb (q:HQ):Prop where
 num:q.d.number.size≤1000
 few:q.C.reg.bills.length≤256
 all:∀b∈q.C.reg.bills,inB b
def gJ (κ:Int→Prop) (f:HQ→Cr×Dp×List dQ):dA:=spec (fun q:HQ=>[.ptr 0 0,.ptr 8 0,eL q.l,.i q.day]) (fun q=>Nc q.C q.i q.d) (fun q=>κ q.l.kind∧Zb q) (fun _=>.hd 9) fun q=>Nc (f q).1 q.i (f q).2.1++[.row 58 14 (bJ eL (f q).2.2)]
def Cn:dA:=spec (fun _:Dp=>[.ptr 0 0]) Yy (fun d=>d.number.size≤1000) (fun d=>.str (gE d.number)) Yy
theorem HL (P:bI):bM P Vd Cn:=by
 intro args H K hc;obtain⟨⟨number,seller,buyer,house,frm,to,boxes,state,rel⟩,rfl,rfl,hp,hK⟩:=hc;refine⟨cL,?_⟩;dsimp only at hp hK⊢;have z3:(ByteArray.mk (Array.mk [98,108,45])).size=3:=rfl;obtain⟨bn,hbn⟩:∃b,b=PJ++number:=⟨_,rfl⟩
 replace hK:K (.str (PJ++number)) (Yy ⟨number,seller,buyer,house,frm,to,boxes,state,rel⟩):=hK;rw[←hbn]at hK;cbv;repeat'((first|refine .u fun u hu hul=>?_|fail)<;>cbv)
 obtain rfl:u=bn:=by rw[hbn];assumption
 (refine .q9 ?_;cbv;exact .inl (.f9 hK))
def BG (q:HQ):Cr×Dp×List dQ:=(q.C,if q.d.house≠eS∧q.l.frm=q.d.house then MI q.d else q.d,[])
theorem Bs (P:bI):bM P x82 (gJ (fun k=>k=19) BG):=by
 intro args H K hc;obtain⟨⟨⟨name,parties,deals,⟨rc,rL⟩,cust,deliv⟩,i,⟨number,seller,buyer,house,dfrm,dto,dboxes,state,rel⟩,⟨frm,to,lnumber,kind,ack,deal,text,party,index,day0,cur,amt,docs,boxes⟩,day⟩,rfl,rfl,hp,hK⟩:=hc;refine⟨cL,?_⟩;dsimp only at hp hK⊢;obtain⟨r,hr⟩:∃r,r=BG ⟨⟨name,parties,deals,⟨rc,rL⟩,cust,deliv⟩,i,⟨number,seller,buyer,house,dfrm,dto,dboxes,state,rel⟩,⟨frm,to,lnumber,kind,ack,deal,text,party,index,day0,cur,amt,docs,boxes⟩,day⟩:=⟨_,rfl⟩
 rw[←hr]at hK;unfold BG at hr;dsimp only at hr;cbv;repeat'((first|refine .mk (fun h=>?_) fun h=>?_|fail)<;>cbv)
 ·rw[aE (fun h=>h.1 (by assumption))]at hr;subst hr;refine cZ (Gh.adopt 8 58 14 rfl) ?_;cbv
  (refine .q9 ?_;cbv;exact .inl (eN.sel [0,1,2,3,4,5,6,7,8,10] _ _ (by rfl) (by rfl) (by decide) (by rfl) cL (by rfl) (by rfl) (Le.refl _) (jW.refl _) hK))
 ·rw[aF ⟨by assumption,by assumption⟩]at hr;subst hr;refine cZ (Gh.adopt 8 58 14 rfl) ?_;cbv
  (refine .q9 ?_;cbv;exact .inl (eN.sel [0,1,2,3,4,5,6,7,8,10] _ _ (by rfl) (by rfl) (by decide) (by rfl) cL (by rfl) (by rfl) (Le.refl _) (jW.refl _) hK))
 ·rw[aE (fun h=>absurd h.2 (by assumption))]at hr;subst hr;refine cZ (Gh.adopt 8 58 14 rfl) ?_;cbv
  (refine .q9 ?_;cbv;exact .inl (eN.sel [0,1,2,3,4,5,6,7,8,10] _ _ (by rfl) (by rfl) (by decide) (by rfl) cL (by rfl) (by rfl) (Le.refl _) (jW.refl _) hK))
def qK (q:HQ):Cr×Dp×List dQ:=let r:=sL fL q.C q.d q.l q.day;(r.1,q.d,r.2)
def qX (q:HQ):Cr×Dp×List dQ:=let r:=sF fL q.C q.d q.l q.day;(r.1,q.d,r.2)
def mT (q:HQ):Cr×Dp×List dQ:=let r:=AC fL q.C q.d q.l q.day;(r.1,q.d,r.2)
theorem Bc {q:HQ}(h:jN q.C.reg (cJ 3 q.d q.l q.day)≠0):qK q=(q.C,q.d,eR fL q.l):=by
 have:sL fL q.C q.d q.l q.day=(q.C,eR fL q.l):=aF h;unfold qK;rw[this]
theorem vG {q:HQ}(h:jN q.C.reg (cJ 3 q.d q.l q.day)=0):qK q=({ q.C with reg:=xW q.C.reg (cJ 3 q.d q.l q.day) },q.d,[]):=by
 have:sL fL q.C q.d q.l q.day=({ q.C with reg:=xW q.C.reg (cJ 3 q.d q.l q.day) },[]):=aE (fun h2=>h2 h);unfold qK;rw[this]
theorem AF {q:HQ}(h:jN q.C.reg (cJ 4 q.d q.l q.day)≠0):qX q=(q.C,q.d,eR fL q.l):=by
 have:sF fL q.C q.d q.l q.day=(q.C,eR fL q.l):=aF h;unfold qX;rw[this]
theorem wG {q:HQ}(h:jN q.C.reg (cJ 4 q.d q.l q.day)=0):qX q=({ q.C with reg:=xW q.C.reg (cJ 4 q.d q.l q.day) },q.d,[{ oN with to:=q.l.frm,kind:=25,index:=q.l.index }]):=by
 have:sF fL q.C q.d q.l q.day=({ q.C with reg:=xW q.C.reg (cJ 4 q.d q.l q.day) },[{ oN with to:=q.l.frm,kind:=25,index:=q.l.index }]):=aE (fun h2=>h2 h);unfold qX;rw[this]
theorem AB {q:HQ}(h:kY q.C.parties q.l.party=false∨q.l.party=q.l.frm∨jN q.C.reg (cJ 1 q.d q.l q.day)≠0):mT q=(q.C,q.d,eR fL q.l):=by
 have:AC fL q.C q.d q.l q.day=(q.C,eR fL q.l):=aF h;unfold mT;rw[this]
theorem Ma {q:HQ}(h0:kY q.C.parties q.l.party=true) (h1:¬q.l.party=q.l.frm) (h:jN q.C.reg (cJ 1 q.d q.l q.day)=0):mT q=({ q.C with reg:=xW q.C.reg (cJ 1 q.d q.l q.day) },q.d,[{ oN with to:=q.l.party,kind:=9,index:=q.l.index,party:=q.l.party }]):=by
 have:AC fL q.C q.d q.l q.day=({ q.C with reg:=xW q.C.reg (cJ 1 q.d q.l q.day) },[{ oN with to:=q.l.party,kind:=9,index:=q.l.index,party:=q.l.party }]):=aE (fun h2=>by
  rcases h2 with h2|h2|h2
  ·rw[h0]at h2;cases h2
  ·exact h1 h2
  ·exact h2 h)
 unfold mT;rw[this]
theorem CC {L:List bH}{s:bH}{i:Nat}(h:kA id L s=some i):kY L s=true:=by
 obtain⟨y,hy,he⟩:=eA h;exact List.any_eq_true.2 ⟨y,aC hy,by simpa using he⟩
theorem uY {L:List bH}{s:bH}(h:kA id L s=none):kY L s=false:=by
 unfold kY;rw[List.any_eq_false];intro y hy;unfold kA at h;rw[List.findIdx?_eq_none_iff]at h;have:=h y hy;simpa using this
theorem MK {R:Rg}{d:Dp}{l:dQ}{day:Int}:jN R (cJ 3 d l day)=eM R.bills ⟨gE d.number,l.index,0,l.frm,0,0,false,false⟩:=rfl
theorem Ve {R:Rg}{d:Dp}{l:dQ}{day:Int}:xW R (cJ 3 d l day)=⟨R.carrier,gB R.bills ⟨gE d.number,l.index,0,l.frm,0,0,false,false⟩ (rI ⟨gE d.number,l.index,0,l.frm,0,0,false,false⟩)⟩:=rfl
theorem Ng {R:Rg}{d:Dp}{l:dQ}{day:Int}:jN R (cJ 4 d l day)=eM R.bills ⟨gE d.number,l.index,0,l.frm,3,day,true,false⟩:=rfl
theorem Vw {R:Rg}{d:Dp}{l:dQ}{day:Int}:xW R (cJ 4 d l day)=⟨R.carrier,gB R.bills ⟨gE d.number,l.index,0,l.frm,3,day,true,false⟩ (Qa ⟨gE d.number,l.index,0,l.frm,3,day,true,false⟩)⟩:=rfl
theorem N6 {R:Rg}{d:Dp}{l:dQ}{day:Int}:jN R (cJ 1 d l day)=eM R.bills ⟨gE d.number,l.index,-1,l.frm,0,day,true,iC l.frm l.party⟩:=rfl
theorem Vg {R:Rg}{d:Dp}{l:dQ}{day:Int}:xW R (cJ 1 d l day)=⟨R.carrier,gB R.bills ⟨gE d.number,l.index,-1,l.frm,0,day,true,iC l.frm l.party⟩ (tL l.index (tJ l.frm l.party day))⟩:=rfl
theorem Ic (P:bI) (hb:bK P 120 Cn) (hlo:bK P 46 IX) (ho:bK P 121 KB):bM P ZE (gJ (fun k=>k=23) qK):=by
 intro args H K hc;obtain⟨⟨⟨name,parties,deals,⟨rc,rL⟩,cust,deliv⟩,i,⟨number,seller,buyer,house,dfrm,dto,dboxes,state,rel⟩,⟨frm,to,lnumber,kind,ack,deal,text,party,index,day0,cur,amt,docs,boxes⟩,day⟩,rfl,rfl,hp,hK⟩:=hc;refine⟨cL,?_⟩;dsimp only at hp hK⊢;obtain⟨hk,hnum,hfew,hall⟩:=hp;dsimp only at hk hnum hfew hall;subst hk;have hok:mG 23:=by unfold mG;decide
 obtain⟨r,hr⟩:∃r,r=qK ⟨⟨name,parties,deals,⟨rc,rL⟩,cust,deliv⟩,i,⟨number,seller,buyer,house,dfrm,dto,dboxes,state,rel⟩,⟨frm,to,lnumber,23,ack,deal,text,party,index,day0,cur,amt,docs,boxes⟩,day⟩:=⟨_,rfl⟩
 rw[←hr]at hK;obtain⟨bn,hbn⟩:∃b,b=gE number:=⟨_,rfl⟩
 obtain⟨e,he⟩:∃e,e=eM rL ⟨bn,index,0,frm,0,0,false,false⟩:=⟨_,rfl⟩
 obtain⟨M,hM⟩:∃M,M=gB rL ⟨bn,index,0,frm,0,0,false,false⟩ (rI ⟨bn,index,0,frm,0,0,false,false⟩):=⟨_,rfl⟩
 have hr1:e≠0→r=(⟨name,parties,deals,⟨rc,rL⟩,cust,deliv⟩,⟨number,seller,buyer,house,dfrm,dto,dboxes,state,rel⟩,eR fL ⟨frm,to,lnumber,23,ack,deal,text,party,index,day0,cur,amt,docs,boxes⟩):=fun h=>by
  rw[hr];refine Bc ?_;rw[MK];rw[he,hbn]at h;exact h
 have hr2:e=0→r=(⟨name,parties,deals,⟨rc,M⟩,cust,deliv⟩,⟨number,seller,buyer,house,dfrm,dto,dboxes,state,rel⟩,[]):=fun h=>by
  rw[hr,hM];refine(vG (by rw[MK];rw[he,hbn]at h;exact h)).trans ?_;rw[Ve,hbn]
 have hM0:e≠0→M=rL:=fun h=>by rw[hM];exact aE (he ▸ h)
 clear hr;cbv
 all_goals
  (refine fI hb (⟨number,seller,buyer,house,dfrm,dto,dboxes,state,rel⟩:Dp) [8] hnum ?_;try dsimp only)
  rw[←hbn];cbv
  (refine fI hlo ((⟨rc,rL⟩,⟨bn,index,0,frm,0,0,false,false⟩):Rg×Ak) [3,4] ⟨fun b hb=>(hall b hb).1,rfl,rfl,rfl,rfl,rfl⟩ ?_;try dsimp only)
  rw[←he,←hM];cbv;repeat'((first|refine .mk (fun h=>?_) fun h=>?_|fail)<;>cbv)
 all_goals first
 |(have hr:=hr2 (by assumption)
   subst hr;refine cZ (Gh.adopt 8 58 14 rfl) ?_;cbv
   (refine .q9 ?_;cbv;exact .inl (eN.sel [0,1,2,3,4,5,6,7,8,10] _ _ (by rfl) (by rfl) (by decide) (by rfl) cL (by rfl) (by rfl) (Le.refl _) (jW.refl _) hK)))
 |(obtain rfl:M=rL:=hM0 (by assumption)
   have hr:=hr1 (by assumption);subst hr
   (refine yV ho (⟨frm,to,lnumber,23,ack,deal,text,party,index,day0,cur,amt,docs,boxes⟩:dQ) hok ?_;try dsimp only)
   cbv
   (refine .q9 ?_;cbv;exact .inl (eN.sel [0,1,2,3,4,5,6,7,8,10] _ _ (by rfl) (by rfl) (by decide) (by rfl) cL (by rfl) (by rfl) (Le.refl _) (jW.refl _) hK)))
theorem Bv (P:bI) (hb:bK P 120 Cn) (hrp:bK P 123 AR) (ho:bK P 121 KB):bM P x84 (gJ (fun k=>k=24) qX):=by
 intro args H K hc;obtain⟨⟨⟨name,parties,deals,⟨rc,rL⟩,cust,deliv⟩,i,⟨number,seller,buyer,house,dfrm,dto,dboxes,state,rel⟩,⟨frm,to,lnumber,kind,ack,deal,text,party,index,day0,cur,amt,docs,boxes⟩,day⟩,rfl,rfl,hp,hK⟩:=hc;refine⟨cL,?_⟩;dsimp only at hp hK⊢;obtain⟨hk,hnum,hfew,hall⟩:=hp;dsimp only at hk hnum hfew hall;subst hk;have hok:mG 24:=by unfold mG;decide
 obtain⟨r,hr⟩:∃r,r=qX ⟨⟨name,parties,deals,⟨rc,rL⟩,cust,deliv⟩,i,⟨number,seller,buyer,house,dfrm,dto,dboxes,state,rel⟩,⟨frm,to,lnumber,24,ack,deal,text,party,index,day0,cur,amt,docs,boxes⟩,day⟩:=⟨_,rfl⟩
 rw[←hr]at hK;obtain⟨bn,hbn⟩:∃b,b=gE number:=⟨_,rfl⟩
 obtain⟨e,he⟩:∃e,e=eM rL ⟨bn,index,0,frm,3,day,true,false⟩:=⟨_,rfl⟩
 obtain⟨M,hM⟩:∃M,M=gB rL ⟨bn,index,0,frm,3,day,true,false⟩ (Qa ⟨bn,index,0,frm,3,day,true,false⟩):=⟨_,rfl⟩
 have hr1:e≠0→r=(⟨name,parties,deals,⟨rc,rL⟩,cust,deliv⟩,⟨number,seller,buyer,house,dfrm,dto,dboxes,state,rel⟩,eR fL ⟨frm,to,lnumber,24,ack,deal,text,party,index,day0,cur,amt,docs,boxes⟩):=fun h=>by
  rw[hr];refine AF ?_;rw[Ng];rw[he,hbn]at h;exact h
 have hr2:e=0→r=(⟨name,parties,deals,⟨rc,M⟩,cust,deliv⟩,⟨number,seller,buyer,house,dfrm,dto,dboxes,state,rel⟩,[⟨eS,frm,0,25,0,eS,eS,eS,index,0,eS,0,[],[]⟩]):=fun h=>by
  rw[hr,hM];refine(wG (by rw[Ng];rw[he,hbn]at h;exact h)).trans ?_;rw[Vw,hbn];rfl
 have hM0:e≠0→M=rL:=fun h=>by rw[hM];exact aE (he ▸ h)
 clear hr;cbv
 all_goals
  (refine fI hb (⟨number,seller,buyer,house,dfrm,dto,dboxes,state,rel⟩:Dp) [8] hnum ?_;try dsimp only)
  rw[←hbn];cbv
  (refine fI hrp ((⟨rc,rL⟩,⟨bn,index,0,frm,3,day,true,false⟩):Rg×Ak) [3,4] ⟨fun b hb=>(hall b hb).1,rfl,rfl,rfl,rfl⟩ ?_;try dsimp only)
  rw[←he,←hM];cbv;repeat'((first|refine .mk (fun h=>?_) fun h=>?_|fail)<;>cbv)
 all_goals first
 |(have hr:=hr2 (by assumption)
   subst hr;refine cZ (Gh.leAt 10 (.row 58 14 (bJ eL [⟨eS,frm,0,25,0,eS,eS,eS,index,0,eS,0,[],[]⟩])) rfl (sX Bh)) ?_;cbv
   (refine .q9 ?_;cbv;exact .inl (eN.sel [0,1,2,3,4,5,6,7,8,10] _ _ (by rfl) (by rfl) (by decide) (by rfl) cL (by rfl) (by rfl) (Le.refl _) (jW.refl _) hK)))
 |(obtain rfl:M=rL:=hM0 (by assumption)
   have hr:=hr1 (by assumption);subst hr
   (refine yV ho (⟨frm,to,lnumber,24,ack,deal,text,party,index,day0,cur,amt,docs,boxes⟩:dQ) hok ?_;try dsimp only)
   cbv
   (refine .q9 ?_;cbv;exact .inl (eN.sel [0,1,2,3,4,5,6,7,8,10] _ _ (by rfl) (by rfl) (by decide) (by rfl) cL (by rfl) (by rfl) (Le.refl _) (jW.refl _) hK)))
theorem BC (P:bI) (hb:bK P 120 Cn) (hen:bK P 119 Bb) (ho:bK P 121 KB):bM P Zr (gJ (fun k=>k=8) mT):=by
 intro args H K hc;obtain⟨⟨⟨name,parties,deals,⟨rc,rL⟩,cust,deliv⟩,i,⟨number,seller,buyer,house,dfrm,dto,dboxes,state,rel⟩,⟨frm,to,lnumber,kind,ack,deal,text,party,index,day0,cur,amt,docs,boxes⟩,day⟩,rfl,rfl,hp,hK⟩:=hc;refine⟨cL,?_⟩;dsimp only at hp hK⊢;obtain⟨hk,hnum,hfew,hall⟩:=hp;dsimp only at hk hnum hfew hall;subst hk;have hok:mG 8:=by unfold mG;decide
 obtain⟨r,hr⟩:∃r,r=mT ⟨⟨name,parties,deals,⟨rc,rL⟩,cust,deliv⟩,i,⟨number,seller,buyer,house,dfrm,dto,dboxes,state,rel⟩,⟨frm,to,lnumber,8,ack,deal,text,party,index,day0,cur,amt,docs,boxes⟩,day⟩:=⟨_,rfl⟩
 rw[←hr]at hK;obtain⟨bn,hbn⟩:∃b,b=gE number:=⟨_,rfl⟩
 obtain⟨e,he⟩:∃e,e=eM rL ⟨bn,index,-1,frm,0,day,true,iC frm party⟩:=⟨_,rfl⟩
 obtain⟨M,hM⟩:∃M,M=gB rL ⟨bn,index,-1,frm,0,day,true,iC frm party⟩ (tL index (tJ frm party day)):=⟨_,rfl⟩
 have hr1:kY parties party=false∨party=frm∨e≠0→r=(⟨name,parties,deals,⟨rc,rL⟩,cust,deliv⟩,⟨number,seller,buyer,house,dfrm,dto,dboxes,state,rel⟩,eR fL ⟨frm,to,lnumber,8,ack,deal,text,party,index,day0,cur,amt,docs,boxes⟩):=fun h=>by
  rw[hr];refine AB ?_;refine h.imp id (Or.imp id fun h=>?_);rw[N6];rw[he,hbn]at h;exact h
 have hr2:kY parties party=true→¬party=frm→e=0→r=(⟨name,parties,deals,⟨rc,M⟩,cust,deliv⟩,⟨number,seller,buyer,house,dfrm,dto,dboxes,state,rel⟩,[⟨eS,party,0,9,0,eS,eS,party,index,0,eS,0,[],[]⟩]):=fun h0 h1 h=>by
  rw[hr,hM];refine(Ma h0 h1 (by rw[N6];rw[he,hbn]at h;exact h)).trans ?_;rw[Vg,hbn];rfl
 have hM0:e≠0→M=rL:=fun h=>by rw[hM];exact aE (he ▸ h)
 clear hr;obtain⟨wr,hwr⟩:∃w,w=iC frm party:=⟨_,rfl⟩
 rw[←hwr]at he hM;cbv;refine oI (fun j hj=>?_) fun hn=>?_
 rotate_left
 ·have hr:=hr1 (.inl (uY hn));subst hr;cbv
  all_goals
    (refine yV ho (⟨frm,to,lnumber,8,ack,deal,text,party,index,day0,cur,amt,docs,boxes⟩:dQ) hok ?_;try dsimp only)
    cbv
    (refine .q9 ?_;cbv;exact .inl (eN.sel [0,1,2,3,4,5,6,7,8,10] _ _ (by rfl) (by rfl) (by decide) (by rfl) cL (by rfl) (by rfl) (Le.refl _) (jW.refl _) hK))
 ·have hin:=CC hj;clear hj;cbv;repeat'((first|refine .mk (fun h=>?_) fun h=>?_|fail)<;>cbv)
  all_goals first
  |(have hr:=hr1 (.inr (.inl (by assumption)))
    subst hr
    (refine yV ho (⟨frm,to,lnumber,8,ack,deal,text,party,index,day0,cur,amt,docs,boxes⟩:dQ) hok ?_;try dsimp only)
    cbv
    (refine .q9 ?_;cbv;exact .inl (eN.sel [0,1,2,3,4,5,6,7,8,10] _ _ (by rfl) (by rfl) (by decide) (by rfl) cL (by rfl) (by rfl) (Le.refl _) (jW.refl _) hK)))
  |((refine fI hb (⟨number,seller,buyer,house,dfrm,dto,dboxes,state,rel⟩:Dp) [8] hnum ?_;try dsimp only)
    rw[←hbn];cbv
    (refine fI hen ((⟨rc,rL⟩,⟨bn,index,-1,frm,0,day,true,wr⟩,party):Rg×Ak×bH) [3,4] ⟨fun b hb=>(hall b hb).1,rfl,rfl,rfl,hwr⟩ ?_;try dsimp only)
    rw[←he,←hM];cbv;repeat'((first|refine .mk (fun h=>?_) fun h=>?_|fail)<;>cbv))
  all_goals first
  |(have hr:=hr2 hin (by assumption) (by assumption)
    subst hr;refine cZ (Gh.leAt 10 (.row 58 14 (bJ eL [⟨eS,party,0,9,0,eS,eS,party,index,0,eS,0,[],[]⟩])) rfl (sX Bh)) ?_;cbv
    (refine .q9 ?_;cbv;exact .inl (eN.sel [0,1,2,3,4,5,6,7,8,10] _ _ (by rfl) (by rfl) (by decide) (by rfl) cL (by rfl) (by rfl) (Le.refl _) (jW.refl _) hK)))
  |(obtain rfl:M=rL:=hM0 (by assumption)
    have hr:=hr1 (.inr (.inr (by assumption)));subst hr
    (refine yV ho (⟨frm,to,lnumber,8,ack,deal,text,party,index,day0,cur,amt,docs,boxes⟩:dQ) hok ?_;try dsimp only)
    cbv
    (refine .q9 ?_;cbv;exact .inl (eN.sel [0,1,2,3,4,5,6,7,8,10] _ _ (by rfl) (by rfl) (by decide) (by rfl) cL (by rfl) (by rfl) (Le.refl _) (jW.refl _) hK)))
def Qn (n:bH) (day:Int) (l:dQ):dQ:={ l with deal:=n,day:=day }
def lZ (n:bH) (day:Int) (l:List dQ) (k:Nat):List dQ:=cI n day (l.take k)++l.drop k
def qT:dA:=spec (fun q:List dQ×Dp×Int=>[.hd 0,.ptr 1 0,.i q.2.2]) (fun q=>[.row 58 14 (bJ eL q.1),.blk 136 (U1 q.2.1)]) (fun q=>q.1.length≤1000) (fun _=>.hd 0) fun q=>[.row 58 14 (bJ eL (cI q.2.1.number q.2.2 q.1)),.blk 136 (U1 q.2.1)]
theorem Cu {α:Type}(f:α→AV) (L:List α) (k:Nat) (x:α):(bJ f L).set k (f x)=bJ f (L.set k x):=by rw[dV,dV,List.map_set]
theorem Rb {α:Type}{L:List α}{k:Nat}{y:α}(x:α) (h:L[k]?=some y):(L.set k x)[k]?=some x:=by
 obtain⟨hl,_⟩:=aA.1 h;rw[aQ hl]
theorem EN {n:bH}{day:Int}{l:List dQ}{k:Nat}{x:dQ}(h:l[k]?=some x):lZ n day l (k+1)=(lZ n day l k).set k (Qn n day x):=by
 obtain⟨hl,rfl⟩:=aA.1 h;unfold lZ;rw[List.set_append_right _ _ (by unfold cI;rw[aJ,aS];omega)];have e:k - (cI n day (l.take k)).length=0:=by unfold cI;rw[aJ,aS];omega
 rw[e,List.drop_eq_getElem_cons hl,List.set_cons_zero,dC h];unfold cI;rw[List.map_append,bG];rfl
theorem He (n:bH) (day:Int) (l:List dQ) {k:Nat}(h:l.length≤k):lZ n day l k=cI n day l:=by
 unfold lZ;rw[bC h,List.drop_of_length_le h,List.append_nil]
theorem HF (P:bI):bM P ZB qT:=by
 intro args H K hc;obtain⟨⟨ls,⟨number,seller,buyer,house,dfrm,dto,dboxes,state,rel⟩,day⟩,rfl,rfl,hp,hK⟩:=hc;refine⟨cL,?_⟩;dsimp only at hp hK⊢;obtain⟨n,hn⟩:∃n:Nat,n=ls.length:=⟨_,rfl⟩
 cbv;repeat'((first|refine .k fun z hz=>?_|fail)<;>cbv)
 refine bS [] (fun p:{ k:Nat // k≤ls.length }=>[(10,.i (nI p.1))]) (fun p=>[.row 58 14 (bJ eL (lZ number day ls p.1)),.blk 136 [.str number,.str seller,.str buyer,.str house,.str dfrm,.str dto,.sl 1 (bJ .str dboxes),.i state,.bl rel]]) (fun p=>eW n p.1) ⟨0,aI _⟩ ?_;rintro ⟨k,hk⟩;dsimp only at hk⊢;obtain⟨L1,hL1⟩:∃l,l=lZ number day ls k:=⟨_,rfl⟩
 rw[←hL1];rcases aL k ls.length with hks|hks
 rotate_left
 ·have e:L1=cI number day ls:=by rw[hL1];exact He _ _ _ hks
  subst e;cbv;repeat'((first|refine .n fun h=>?_|fail)<;>cbv)
  (refine .q9 ?_;cbv;exact .inl (.f9 hK))
 obtain⟨l,hx⟩:=cK hks;have hx1:L1[k]?=some l:=by
  rw[hL1];unfold lZ cI;rw[List.getElem?_append_right (by rw[aJ,aS];omega),aJ,aS,Nat.min_eq_left (by omega),Nat.sub_self,List.getElem?_drop,Nat.add_zero,hx]
 have hsn:=EN (n:=number) (day:=day) hx;rw[←hL1]at hsn;obtain⟨frm,to,lnumber,kind,ack,deal,text,party,index,day0,cur,amt,docs,boxes⟩:=l;replace hsn:lZ number day ls (k+1)=L1.set k ⟨frm,to,lnumber,kind,ack,number,text,party,index,day,cur,amt,docs,boxes⟩:=hsn;have hx2:=Rb ⟨frm,to,lnumber,kind,ack,number,text,party,index,day0,cur,amt,docs,boxes⟩ hx1;obtain⟨L2,hL2⟩:∃l,l=L1.set k ⟨frm,to,lnumber,kind,ack,number,text,party,index,day0,cur,amt,docs,boxes⟩:=⟨_,rfl⟩
 rw[←hL2]at hx2;have hsn2:lZ number day ls (k+1)=L2.set k ⟨frm,to,lnumber,kind,ack,number,text,party,index,day,cur,amt,docs,boxes⟩:=by rw[hL2,List.set_set];exact hsn
 clear hL1 hx hsn;cbv;repeat'((first|refine .e ?_|refine .y fun h=>?_|refine .z fun zs hzs=>?_|fail)<;>cbv)
 obtain rfl:zs=bJ eL L2:=by rw[hL2];exact hzs.trans (Cu eL L1 k ⟨frm,to,lnumber,kind,ack,number,text,party,index,day0,cur,amt,docs,boxes⟩)
 clear hL2 hx1 hzs;cbv;repeat'((first|refine .e ?_|refine .k fun z hz=>?_|refine .z fun zs hzs=>?_|fail)<;>cbv)
 obtain rfl:z=nI (k+1):=bQ;obtain rfl:zs=bJ eL (lZ number day ls (k+1)):=by rw[hsn2];exact hzs.trans (Cu eL L2 k ⟨frm,to,lnumber,kind,ack,number,text,party,index,day,cur,amt,docs,boxes⟩)
 exact bN ⟨k+1,hks⟩ (bO (by omega))
def GE:dA:=spec (fun d:Dp=>[.rp (U1 d) 0]) (fun _=>[]) (fun d=>d.number.size≤1000) (fun d=>.str (gE d.number)) fun _=>[]
theorem Ht (P:bI):bM P Vd GE:=by
 intro args H K hc;obtain⟨⟨number,seller,buyer,house,frm,to,boxes,state,rel⟩,rfl,rfl,hp,hK⟩:=hc;refine⟨cL,?_⟩;dsimp only at hp hK⊢;have z3:(ByteArray.mk (Array.mk [98,108,45])).size=3:=rfl;obtain⟨bn,hbn⟩:∃b,b=PJ++number:=⟨_,rfl⟩
 replace hK:K (.str (PJ++number)) []:=hK;rw[←hbn]at hK;cbv;repeat'((first|refine .u fun u hu hul=>?_|fail)<;>cbv)
 obtain rfl:u=bn:=by rw[hbn];assumption
 (refine .q9 ?_;cbv;exact .inl (.f9 hK))
structure AQ where
 C:Cr
 i:Nat
 d:Dp
 day:Int
structure AOk (q:AQ):Prop where
 num:q.d.number.size≤1000
 few:q.C.reg.bills.length≤256
 all:∀b∈q.C.reg.bills,inB b
 bx:q.d.boxes.length≤70
 bz:∀b∈q.d.boxes,b.size≤1000
 day:-9223372036854775808≤q.day∧q.day≤9223372036854775807
def qL (f:AQ→Cr×Dp×List dQ×Int):dA:=spec (fun q:AQ=>[.ptr 0 0,.ptr 8 0,.i q.day]) (fun q=>Nc q.C q.i q.d) AOk (fun q=>.tup [.hd 9,.i (f q).2.2.2]) fun q=>Nc (f q).1 q.i (f q).2.1++[.row 58 14 (bJ eL (f q).2.2.1)]
def F4 (q:AQ):Cr×Dp×List dQ×Int:=(q.C,wW 3 q.d,[{ oN with to:=q.d.buyer,kind:=26,boxes:=q.d.boxes }],0)
def sC (q:AQ):Cr×Dp×List dQ×Int:=if gP ⟨q.C.reg,gQ q.C.name q.d q.day,q.d.seller⟩≠0 then (q.C,q.d,[],gP ⟨q.C.reg,gQ q.C.name q.d q.day,q.d.seller⟩)
 else ({ q.C with reg:=jY ⟨q.C.reg,gQ q.C.name q.d q.day,q.d.seller⟩ },wW 2 q.d,[{ oN with to:=q.d.seller,kind:=5,docs:=[eV (gQ q.C.name q.d q.day)] }],0)
theorem GJ (P:bI) (hc1:bK P 87 (jR 1 16)):bM P Z2 (qL F4):=by
 intro args H K hc;obtain⟨⟨⟨name,parties,deals,⟨rc,rL⟩,cust,deliv⟩,i,⟨number,seller,buyer,house,dfrm,dto,dboxes,state,rel⟩,day⟩,rfl,rfl,hp,hK⟩:=hc;refine⟨cL,?_⟩;dsimp only at hp hK⊢;obtain⟨hnum,hfew,hall,hbx,hmk,hday⟩:=hp;dsimp only at hnum hfew hall hbx hmk hday;obtain⟨r,hr⟩:∃r,r=F4 ⟨⟨name,parties,deals,⟨rc,rL⟩,cust,deliv⟩,i,⟨number,seller,buyer,house,dfrm,dto,dboxes,state,rel⟩,day⟩:=⟨_,rfl⟩
 rw[←hr]at hK;replace hr:r=(⟨name,parties,deals,⟨rc,rL⟩,cust,deliv⟩,⟨number,seller,buyer,house,dfrm,dto,dboxes,3,rel⟩,[⟨eS,buyer,0,26,0,eS,eS,eS,0,0,eS,0,[],dboxes⟩],0):=hr;cbv
 all_goals
  (refine bX hc1 _ ⟨by rw[bY];unfold maxLen;omega,by rw[bY];omega⟩ ?_;try dsimp only)
  cbv
 all_goals
  subst hr;refine cZ (Gh.leAt 9 (.row 58 14 (bJ eL [⟨eS,buyer,0,26,0,eS,eS,eS,0,0,eS,0,[],dboxes⟩])) rfl (sX Bh)) ?_;cbv
  (refine .q9 ?_;cbv;exact .inl (.f9 hK))
theorem G4 (P:bI) (hb:bK P 120 GE) (hc1:bK P 87 (jR 1 16)) (his:bK P 124 Hy) (hla:bK P 125 Gu):bM P ZQ (qL sC):=by
 intro args H K hc;obtain⟨⟨⟨name,parties,deals,⟨rc,rL⟩,cust,deliv⟩,i,⟨number,seller,buyer,house,dfrm,dto,dboxes,state,rel⟩,day⟩,rfl,rfl,hp,hK⟩:=hc;refine⟨cL,?_⟩;dsimp only at hp hK⊢;obtain⟨hnum,hfew,hall,hbx,hmk,hday⟩:=hp;dsimp only at hnum hfew hall hbx hmk hday;obtain⟨r,hr⟩:∃r,r=sC ⟨⟨name,parties,deals,⟨rc,rL⟩,cust,deliv⟩,i,⟨number,seller,buyer,house,dfrm,dto,dboxes,state,rel⟩,day⟩:=⟨_,rfl⟩
 rw[←hr]at hK;obtain⟨bn,hbn⟩:∃b,b=gE number:=⟨_,rfl⟩
 obtain⟨e,he⟩:∃e,e=gP ⟨⟨rc,rL⟩,⟨bn,name,seller,dfrm,dto,dboxes,[],day,true⟩,seller⟩:=⟨_,rfl⟩
 obtain⟨⟨rc2,M⟩,hM⟩:∃R,R=jY ⟨⟨rc,rL⟩,⟨bn,name,seller,dfrm,dto,dboxes,[],day,true⟩,seller⟩:=⟨_,rfl⟩
 obtain⟨⟨dk,dn1,di,dfs⟩,hdc⟩:∃q,q=eV ⟨bn,name,seller,dfrm,dto,dboxes,[],day,true⟩:=⟨_,rfl⟩
 have hr1:e≠0→r=(⟨name,parties,deals,⟨rc,rL⟩,cust,deliv⟩,⟨number,seller,buyer,house,dfrm,dto,dboxes,state,rel⟩,[],e):=fun h=>by
  rw[hr];rw[he,hbn]at h;refine(aF h).trans ?_;rw[he,hbn];rfl
 have hr2:e=0→r=(⟨name,parties,deals,⟨rc2,M⟩,cust,deliv⟩,⟨number,seller,buyer,house,dfrm,dto,dboxes,2,rel⟩,[⟨eS,seller,0,5,0,eS,eS,eS,0,0,eS,0,[⟨dk,dn1,di,dfs⟩],[]⟩],0):=fun h=>by
  rw[hr];rw[he,hbn]at h;refine(aE (fun h2=>h2 h)).trans ?_;rw[hM,hdc,hbn];rfl
 have hM0:e≠0→(⟨rc2,M⟩:Rg)=⟨rc,rL⟩:=fun h=>by rw[hM];exact aE (he ▸ h)
 clear hr;have hIP:C8 ⟨⟨rc,rL⟩,⟨bn,name,seller,dfrm,dto,dboxes,[],day,true⟩,seller⟩:=⟨hfew,hall,⟨by dsimp only;omega,aI _⟩⟩
 have hLP:SJ ⟨bn,name,seller,dfrm,dto,dboxes,[],day,true⟩:=⟨⟨by dsimp only;omega,hmk⟩,⟨aI _,fun s hs=>by cases hs⟩,hday⟩
 cbv;repeat'((first|refine And.intro ?_ ?_|fail)<;>cbv)
 all_goals
  (refine Et hb 8 (rest:=[]) (fun _=>(⟨number,seller,buyer,house,dfrm,dto,dboxes,state,rel⟩:Dp)) rfl rfl rfl rfl (fun _=>rfl) (fun x hx=>⟨rfl,hnum,?_⟩);try dsimp only)
  rw[←hbn];cbv;repeat'((first|refine And.intro ?_ ?_|fail)<;>cbv)
 all_goals
  repeat'(first
   |((refine Et hb 8 (rest:=[]) (fun _=>(⟨number,seller,buyer,house,dfrm,dto,dboxes,state,rel⟩:Dp)) rfl rfl rfl rfl (fun _=>rfl) (fun x hx=>⟨rfl,hnum,?_⟩);try dsimp only)
     rw[←hbn];cbv)
   |((refine bX hc1 _ ⟨by rw[bY];unfold maxLen;omega,by rw[bY];omega⟩ ?_;try dsimp only)
     cbv))
 all_goals
  refine aaJ [.ptr 3 0,Kd ⟨bn,name,seller,dfrm,dto,dboxes,[],day,true⟩,.str seller] Bh ?_
  (refine fI his (⟨⟨rc,rL⟩,⟨bn,name,seller,dfrm,dto,dboxes,[],day,true⟩,seller⟩:oR) [3,4] hIP ?_;try dsimp only)
  rw[←he,←hM];cbv;repeat'((first|refine .mk (fun h=>?_) fun h=>?_|fail)<;>cbv)
 all_goals first
 |(obtain⟨rfl,rfl⟩:rc2=rc∧M=rL:=by have:=hM0 (by assumption);cases this;exact⟨rfl,rfl⟩
   have hr:=hr1 (by assumption);subst hr;refine cZ (Gh.adopt 6 58 14 rfl) ?_;cbv
   (refine .q9 ?_;cbv;exact .inl (eN.sel [0,1,2,3,4,5,6,7,8,10] _ _ (by rfl) (by rfl) (by decide) (by rfl) cL (by rfl) (by rfl) (Le.refl _) (jW.refl _) hK)))
 |(have hr:=hr2 (by assumption)
   subst hr;refine aaJ [Kd ⟨bn,name,seller,dfrm,dto,dboxes,[],day,true⟩] Bh ?_
   (refine bX hla (⟨bn,name,seller,dfrm,dto,dboxes,[],day,true⟩:Bl) hLP ?_;try dsimp only)
   rw[←hdc];cbv)
 all_goals
  refine cZ (Gh.leAt 11 (.row 58 14 (bJ eL [⟨eS,seller,0,5,0,eS,eS,eS,0,0,eS,0,[⟨dk,dn1,di,dfs⟩],[]⟩])) rfl (sX Bh)) ?_;cbv
  (refine .q9 ?_;cbv;exact .inl (eN.sel [0,1,2,3,4,5,6,7,8,11] _ _ (by rfl) (by rfl) (by decide) (by rfl) cL (by rfl) (by rfl) (Le.refl _) (jW.refl _) hK))
def Vx:List (AV×AV):=[(.i 5,.agg [.i 1,.clo 85 []]),(.i 6,.agg [.i 2,.clo 86 []])]
def AL:List (AV×AV):=[(.i 4,.clo 79 []),(.i 8,.clo 80 []),(.i 20,.clo 81 []),(.i 19,.clo 82 []),(.i 23,.clo 83 []),(.i 24,.clo 84 [])]
def Cc:dA:=spec (fun _:Unit=>[]) (fun _=>[]) (fun _=>True) (fun _=>.hd 0) fun _=>[.map 142 Vx]
def rD:dA:=spec (fun _:Unit=>[]) (fun _=>[]) (fun _=>True) (fun _=>.hd 0) fun _=>[.map 131 AL]
theorem KA (P:bI):bM P x53 Cc:=by
 intro args H K hc;obtain⟨u,rfl,rfl,hp,hK⟩:=hc;refine⟨cL,?_⟩;dsimp only at hp hK⊢;cbv
 repeat'(first
  |(refine qN.mk (.inr ⟨by rfl,?_⟩);cbv)
  |(refine OJ.mk fun z hz=>?_;subst hz;cbv)
  |((first|fail)<;>cbv))
 (refine .q9 ?_;cbv;exact .inl (.f9 hK))
theorem Du (P:bI):bM P ZG rD:=by
 intro args H K hc;obtain⟨u,rfl,rfl,hp,hK⟩:=hc;refine⟨cL,?_⟩;dsimp only at hp hK⊢;cbv
 repeat'(first
  |(refine qN.mk (.inr ⟨by rfl,?_⟩);cbv)
  |(refine OJ.mk fun z hz=>?_;subst hz;cbv)
  |((first|fail)<;>cbv))
 (refine .q9 ?_;cbv;exact .inl (.f9 hK))
def uQ (C:Cr):List cG:=[.blk 118 [.str C.name,.hd 1,.ph 2,.ptr 3 0,.ptr 5 0,.hd 7],.map 70 (bJ iF C.parties),.pool 116 (bJ gI C.deals) [],.blk 122 [.str C.reg.carrier,.ph 4],.pool 120 (bJ aaI C.reg.bills) [],.blk 174 [.ph 6],.pool 172 (bJ eX C.cust) [],.tip 77 5 (bJ dG C.deliv)]
structure Uf (C:Cr):Prop where
 nd:(C.deals.map Dp.number).Nodup
 few:C.reg.bills.length≤256
 all:∀b∈C.reg.bills,inB b
 num:∀d∈C.deals,d.number.size≤1000
 bx:∀d∈C.deals,d.boxes.length≤70
 bz:∀d∈C.deals,∀b∈d.boxes,b.size≤60
structure CQ where
 C:Cr
 kind:Int
 n:Int
 deal:bH
 day:Int
structure Vy (q:CQ):Prop where
 c:Uf q.C
 day:-9223372036854775808≤q.day∧q.day≤9223372036854775807
def xO (κ:Int→Prop):dA:=spec (fun q:CQ=>[.ptr 0 0,.agg [.i q.kind,.i q.n,.str q.deal],.i q.day]) (fun q=>uQ q.C) (fun q=>κ q.kind∧Vy q) (fun q=>.tup [.sl 14 (bJ eL (lH eV q.C q.kind q.deal q.day).2.1),.i (lH eV q.C q.kind q.deal q.day).2.2]) fun q=>uQ (lH eV q.C q.kind q.deal q.day).1
theorem jA {z k:Int}{v:AV}{es:List (AV×AV)}{i:Nat}(h:¬z=k):oK (.i z) ((.i k,v) :: es) i=oK (.i z) es (i+1):=by
 have e:mP (.i z) (.i k)=some false:=by
  show (if IntKind.i64=IntKind.i64 then some (z == k) else none)=_;rw[aF rfl];simpa using h
 show (match mP (.i z) (.i k) with|some true=>_|some false=>oK (.i z) es (i+1)|none=>_)=_;rw[e]
theorem GX (P:bI) (hac:bK P 53 Cc):bM P W9 (xO fun k=>¬(k=5∨k=6)):=by
 intro args H K hc;obtain⟨⟨⟨name,parties,deals,⟨rc,rL⟩,cust,deliv⟩,kind,n,deal,day⟩,rfl,rfl,hp,hK⟩:=hc;refine⟨cL,?_⟩;dsimp only at hp hK⊢;obtain⟨hk,⟨hnd,hfew,hall,hnum,hbx,hbz⟩,hday⟩:=hp;dsimp only at hk hnd hfew hall hnum hbx hbz hday;obtain⟨r,hr⟩:∃r,r=lH eV ⟨name,parties,deals,⟨rc,rL⟩,cust,deliv⟩ kind deal day:=⟨_,rfl⟩
 rw[←hr]at hK;have hr:r=(⟨name,parties,deals,⟨rc,rL⟩,cust,deliv⟩,[],1):=hr.trans (aF (by omega));subst hr;cbv;repeat'((first|refine And.intro ?_ ?_|fail)<;>cbv)
 all_goals
  (refine yV hac () trivial ?_;try dsimp only)
  cbv;repeat'((first|refine And.intro ?_ ?_|fail)<;>cbv)
 all_goals
  refine qN.mk (.inr ⟨by rw[jA (by omega),jA (by omega)];rfl,?_⟩);cbv
 all_goals
  refine cZ (Gh.adopt 6 58 14 rfl) ?_;cbv;refine cZ (Gh.plain 11 rfl) ?_;cbv
  (refine .q9 ?_;cbv;exact .inl (.f9 hK))
theorem Mj {C:Cr}{i:Nat}{d:Dp}{day:Int}(hnd:(C.deals.map Dp.number).Nodup) (hi:kA Dp.number C.deals d.number=some i) (hd:C.deals[i]?=some d):JB C d day=({ C with deals:=C.deals.set i (wW 3 d) },cI d.number day [{ oN with to:=d.buyer,kind:=26,boxes:=d.boxes }],0):=by
 unfold JB qC;rw[nN hnd (wW 3) hi hd]
theorem PF {C:Cr}{i:Nat}{d:Dp}{day:Int}(hnd:(C.deals.map Dp.number).Nodup) (hi:kA Dp.number C.deals d.number=some i) (hd:C.deals[i]?=some d):uR eV C d day=(let r:=sC ⟨C,i,d,day⟩;({ r.1 with deals:=C.deals.set i r.2.1 },cI d.number day r.2.2.1,r.2.2.2)):=by
 unfold uR sC;dsimp only;by_cases h:gP ⟨C.reg,gQ C.name d day,d.seller⟩≠0
 ·rw[aF h,aF h];dsimp only;have e:C.deals.set i d=C.deals:=by
   obtain⟨hl,rfl⟩:=aA.1 hd;exact List.set_getElem_self hl
  rw[e];rfl
 ·rw[aE h,aE h];unfold qC;dsimp only;rw[nN hnd (wW 2) hi hd]
theorem Cb {C:Cr}{kind:Int}{deal:bH}{day:Int}(hk:kind=5∨kind=6) (h:kA Dp.number C.deals deal=none):lH eV C kind deal day=(C,[],4):=by
 unfold lH;rw[aE (by omega),qM h]
theorem Jx {C:Cr}{kind:Int}{deal:bH}{day:Int}{i:Nat}{d:Dp}(hk:kind=5∨kind=6) (h:kA Dp.number C.deals deal=some i) (hd:C.deals[i]?=some d):lH eV C kind deal day=if d.state≠(if kind=5 then 1 else 2) then (C,[],9) else if kind=5 then uR eV C d day else JB C d day:=by
 unfold lH;rw[aE (by omega),mB h hd]
theorem KX (P:bI) (hac:bK P 53 Cc) (hmc:dB P 86) (hla:bK P 86 (qL F4)) (hst:bK P 49 qT):bM P W9 (xO fun k=>k=6):=by
 intro args H K hc;obtain⟨⟨⟨name,parties,deals,⟨rc,rL⟩,cust,deliv⟩,kind,n,deal,day⟩,rfl,rfl,hp,hK⟩:=hc;refine⟨cL,?_⟩;dsimp only at hp hK⊢;obtain⟨hk,⟨hnd,hfew,hall,hnum,hbx,hbz⟩,hday⟩:=hp;dsimp only at hk hnd hfew hall hnum hbx hbz hday;subst hk;obtain⟨r,hr⟩:∃r,r=lH eV ⟨name,parties,deals,⟨rc,rL⟩,cust,deliv⟩ 6 deal day:=⟨_,rfl⟩
 rw[←hr]at hK;cbv;repeat'((first|refine And.intro ?_ ?_|fail)<;>cbv)
 all_goals
  (refine yV hac () trivial ?_;try dsimp only)
  cbv;repeat'((first|refine And.intro ?_ ?_|fail)<;>cbv)
 all_goals
  refine qN.mk (.inl ⟨1,_,_,by rfl,by rfl,?_⟩);cbv
 all_goals
  refine eE Dp.number (fun _=>rfl) (fun i y hai hy hky=>?_) (fun hai=>?_)<;>try dsimp only at *
  rotate_left
  ·have hr:=hr.trans (Cb (.inr rfl) hai);subst hr;cbv
   all_goals
    refine cZ (Gh.adopt 6 58 14 rfl) ?_;cbv;refine cZ (Gh.plain 11 rfl) ?_;cbv
    (refine .q9 ?_;cbv;exact .inl (.f9 hK))
  ·have hmem:=aC hy;have hn1:=hnum y hmem;have hb1:=hbx y hmem;have hb2:=hbz y hmem;have hr:=hr.trans (Jx (.inr rfl) hai hy);rw[←hky]at hai;have hla2:=Mj (C:=⟨name,parties,deals,⟨rc,rL⟩,cust,deliv⟩) (day:=day) hnd hai hy;rw[hla2]at hr;clear hla2;have hr1:y.state≠2→r=(⟨name,parties,deals,⟨rc,rL⟩,cust,deliv⟩,[],9):=fun h=>hr.trans (aF h)
   have hr2:y.state=2→r=(⟨name,parties,deals.set i (wW 3 y),⟨rc,rL⟩,cust,deliv⟩,[⟨eS,y.buyer,0,26,0,y.number,eS,eS,0,day,eS,0,[],y.boxes⟩],0):=fun h=>hr.trans (aE (fun h2=>h2 h))
   clear hr;obtain⟨number,seller,buyer,house,dfrm,dto,dboxes,state,rel⟩:=y;dsimp only at hky hn1 hb1 hb2 hai hr1 hr2;subst hky;cbv;repeat'((first|refine .mk (fun h=>?_) fun h=>?_|refine And.intro ?_ ?_|fail)<;>cbv)
   ·exact hmc
   ·have hr:=hr2 (by assumption);clear hr1 hr2;subst hr
    (refine fI hla (⟨⟨name,parties,deals,⟨rc,rL⟩,cust,deliv⟩,i,⟨number,seller,buyer,house,dfrm,dto,dboxes,state,rel⟩,day⟩:AQ) [0,1,2,3,4,5,6,7,11] ⟨hn1,hfew,hall,hb1,fun b hb=>by have:=hb2 b hb;omega,hday⟩ ?_;try dsimp only)
    cbv;repeat'((first|refine .y fun h=>?_|fail)<;>cbv)
    (refine fI hst (([⟨eS,buyer,0,26,0,eS,eS,eS,0,0,eS,0,[],dboxes⟩],⟨number,seller,buyer,house,dfrm,dto,dboxes,3,rel⟩,day):List dQ×Dp×Int) [12,11] (show (1:Nat)≤1000 by decide) ?_;try dsimp only)
    cbv;refine cZ (Gh.back 2 [11] gI ⟨number,seller,buyer,house,dfrm,dto,dboxes,3,rel⟩ rfl hy) ?_;cbv;refine cZ (Gh.plain 12 rfl) ?_;cbv
    (refine .q9 ?_;cbv;exact .inl (.f9 hK))
   ·have hr:=hr1 (by assumption);clear hr1 hr2;subst hr;refine cZ (Gh.back0 2 [11] gI rfl hy) ?_;cbv;refine cZ (Gh.adopt 6 58 14 rfl) ?_;cbv;refine cZ (Gh.plain 12 rfl) ?_;cbv
    (refine .q9 ?_;cbv;exact .inl (.f9 hK))
theorem Ok (q:AQ):(∃e,e≠0∧sC q=(q.C,q.d,[],e))∨∃R D,sC q=({ q.C with reg:=R },wW 2 q.d,[⟨eS,q.d.seller,0,5,0,eS,eS,eS,0,0,eS,0,[D],[]⟩],0):=by
 by_cases h:gP ⟨q.C.reg,gQ q.C.name q.d q.day,q.d.seller⟩≠0
 ·exact .inl ⟨_,h,aF h⟩
 ·exact .inr ⟨_,_,aE h⟩
theorem LE (P:bI) (hac:bK P 53 Cc) (hmc:dB P 85) (hsa:bK P 85 (qL sC)) (hst:bK P 49 qT):bM P W9 (xO fun k=>k=5):=by
 intro args H K hc;obtain⟨⟨⟨name,parties,deals,⟨rc,rL⟩,cust,deliv⟩,kind,n,deal,day⟩,rfl,rfl,hp,hK⟩:=hc;refine⟨cL,?_⟩;dsimp only at hp hK⊢;obtain⟨hk,⟨hnd,hfew,hall,hnum,hbx,hbz⟩,hday⟩:=hp;dsimp only at hk hnd hfew hall hnum hbx hbz hday;subst hk;obtain⟨r,hr⟩:∃r,r=lH eV ⟨name,parties,deals,⟨rc,rL⟩,cust,deliv⟩ 5 deal day:=⟨_,rfl⟩
 rw[←hr]at hK;cbv;repeat'((first|refine And.intro ?_ ?_|fail)<;>cbv)
 all_goals
  (refine yV hac () trivial ?_;try dsimp only)
  cbv;repeat'((first|refine And.intro ?_ ?_|fail)<;>cbv)
 all_goals
  refine qN.mk (.inl ⟨0,_,_,by rfl,by rfl,?_⟩);cbv
 all_goals
  refine eE Dp.number (fun _=>rfl) (fun i y hai hy hky=>?_) (fun hai=>?_)<;>try dsimp only at *
  rotate_left
  ·have hr:=hr.trans (Cb (.inl rfl) hai);subst hr;cbv
   all_goals
    refine cZ (Gh.adopt 6 58 14 rfl) ?_;cbv;refine cZ (Gh.plain 11 rfl) ?_;cbv
    (refine .q9 ?_;cbv;exact .inl (.f9 hK))
  ·have hmem:=aC hy;have hn1:=hnum y hmem;have hb1:=hbx y hmem;have hb2:=hbz y hmem;have hr:=hr.trans (Jx (.inl rfl) hai hy);rw[←hky]at hai;have hla2:=PF (C:=⟨name,parties,deals,⟨rc,rL⟩,cust,deliv⟩) (day:=day) hnd hai hy;rw[hla2]at hr;clear hla2;have hr1:y.state≠1→r=(⟨name,parties,deals,⟨rc,rL⟩,cust,deliv⟩,[],9):=fun h=>hr.trans (aF h)
   obtain⟨q9,hq9⟩:∃q,q=sC ⟨⟨name,parties,deals,⟨rc,rL⟩,cust,deliv⟩,i,y,day⟩:=⟨_,rfl⟩
   have hr2:y.state=1→r=({ q9.1 with deals:=deals.set i q9.2.1 },cI y.number day q9.2.2.1,q9.2.2.2):=fun h=>by rw[hq9];exact hr.trans (aE (fun h2=>h2 h))
   have hor:(∃e,e≠0∧q9=(⟨name,parties,deals,⟨rc,rL⟩,cust,deliv⟩,y,[],e))∨∃R D,q9=(⟨name,parties,deals,R,cust,deliv⟩,wW 2 y,[⟨eS,y.seller,0,5,0,eS,eS,eS,0,0,eS,0,[D],[]⟩],0):=by
    have:=Ok ⟨⟨name,parties,deals,⟨rc,rL⟩,cust,deliv⟩,i,y,day⟩;rw[←hq9]at this;exact this
   clear hr;obtain⟨number,seller,buyer,house,dfrm,dto,dboxes,state,rel⟩:=y;dsimp only at hky hn1 hb1 hb2 hai hr1 hr2 hor;subst hky;cbv;repeat'((first|refine .mk (fun h=>?_) fun h=>?_|refine And.intro ?_ ?_|fail)<;>cbv)
   ·exact hmc
   ·have hr:=hr2 (by assumption);clear hr1 hr2;rcases hor with ⟨e,he,rfl⟩|⟨⟨rc2,M⟩,⟨dk,dn1,di,dfs⟩,rfl⟩
    ·subst hr
     (refine fI hsa (⟨⟨name,parties,deals,⟨rc,rL⟩,cust,deliv⟩,i,⟨number,seller,buyer,house,dfrm,dto,dboxes,state,rel⟩,day⟩:AQ) [0,1,2,3,4,5,6,7,11] ⟨hn1,hfew,hall,hb1,fun b hb=>by have:=hb2 b hb;omega,hday⟩ ?_;try dsimp only)
     rw[←hq9];cbv;repeat'((first|refine .n fun h=>?_|fail)<;>cbv)
     refine cZ (Gh.back 2 [11] gI ⟨number,seller,buyer,house,dfrm,dto,dboxes,state,rel⟩ rfl hy) ?_;cbv;refine cZ (Gh.adopt 6 58 14 rfl) ?_;cbv;refine cZ (Gh.plain 13 rfl) ?_;cbv
     (refine .q9 ?_;cbv;exact .inl (.f9 hK))
    ·replace hr:r=(⟨name,parties,deals.set i (wW 2 ⟨number,seller,buyer,house,dfrm,dto,dboxes,state,rel⟩),⟨rc2,M⟩,cust,deliv⟩,[⟨eS,seller,0,5,0,number,eS,eS,0,day,eS,0,[⟨dk,dn1,di,dfs⟩],[]⟩],0):=hr;subst hr
     (refine fI hsa (⟨⟨name,parties,deals,⟨rc,rL⟩,cust,deliv⟩,i,⟨number,seller,buyer,house,dfrm,dto,dboxes,state,rel⟩,day⟩:AQ) [0,1,2,3,4,5,6,7,11] ⟨hn1,hfew,hall,hb1,fun b hb=>by have:=hb2 b hb;omega,hday⟩ ?_;try dsimp only)
     rw[←hq9];cbv;repeat'((first|refine .y fun h=>?_|fail)<;>cbv)
     (refine fI hst (([⟨eS,seller,0,5,0,eS,eS,eS,0,0,eS,0,[⟨dk,dn1,di,dfs⟩],[]⟩],⟨number,seller,buyer,house,dfrm,dto,dboxes,2,rel⟩,day):List dQ×Dp×Int) [12,11] (show (1:Nat)≤1000 by decide) ?_;try dsimp only)
     cbv;refine cZ (Gh.back 2 [11] gI ⟨number,seller,buyer,house,dfrm,dto,dboxes,2,rel⟩ rfl hy) ?_;cbv;refine cZ (Gh.plain 12 rfl) ?_;cbv
     (refine .q9 ?_;cbv;exact .inl (.f9 hK))
   ·have hr:=hr1 (by assumption);clear hr1 hr2;subst hr;refine cZ (Gh.back0 2 [11] gI rfl hy) ?_;cbv;refine cZ (Gh.adopt 6 58 14 rfl) ?_;cbv;refine cZ (Gh.plain 12 rfl) ?_;cbv
    (refine .q9 ?_;cbv;exact .inl (.f9 hK))
theorem Ni {P:bI}(hac:bK P 53 Cc) (hm1:dB P 85) (hsa:bK P 85 (qL sC)) (hm2:dB P 86) (hla:bK P 86 (qL F4)) (hst:bK P 49 qT):bM P W9 (xO fun _=>True):=by
 intro args H0 K hc;obtain⟨q,h1,h2,⟨-,h4⟩,h5⟩:=hc;by_cases k1:q.kind=5
 ·exact LE P hac hm1 hsa hst args H0 K ⟨q,h1,h2,⟨k1,h4⟩,h5⟩
 by_cases k2:q.kind=6
 ·exact KX P hac hm2 hla hst args H0 K ⟨q,h1,h2,⟨k2,h4⟩,h5⟩
 exact GX P hac args H0 K ⟨q,h1,h2,⟨fun h=>by rcases h with h|h<;>contradiction,h4⟩,h5⟩
theorem jK {s:bH}(h:bT s=true):s.size≤16:=by
 rcases aL 16 s.size with h1|h1
 ·rw[fT (.inr h1)]at h;cases h
 ·exact h1
theorem iJ.beg {L:List cP}(h:iJ L) {x:eC}(h0:rY L x=0):iJ (L++[⟨x.box,[x]⟩]):=by
 unfold rY at h0
 split at h0
 ·cases h0
 rename_i g1
 split at h0
 ·cases h0
 rename_i g2
 split at h0
 ·cases h0
 rename_i g3
 split at h0
 ·cases h0
 rename_i g4;simp only[Bool.or_eq_true,Bool.not_eq_true',not_or,Bool.not_eq_false]at g1;obtain⟨⟨n1,n2⟩,n3⟩:=g1;have hd:x.day≤1048576:=by
  have:gK x.day=true:=by cases hh:gK x.day with|true=>rfl|false=>rw[hh]at g2;exact absurd rfl g2
  unfold gK at this;simp only[aO,decide_eq_true_eq]at this;exact this.2
 have hno:gL cP.box L x.box=none:=by cases hh:gL cP.box L x.box with|none=>rfl|some _=>rw[hh]at g3;exact absurd rfl g3
 refine⟨by rw[aM,List.length_cons,List.length_nil];omega,?_,fun b hb=>?_,fun b hb=>?_,fun b hb=>?_⟩
 ·rw[List.map_append,List.nodup_append];refine⟨h.nd,List.nodup_cons.2 ⟨by simp,.nil⟩,fun a ha b hb=>?_⟩;obtain rfl:b=x.box:=by simpa using hb
  rintro rfl;obtain⟨y,hy,he⟩:=aX.1 ha;exact absurd he (jH hno hy)
 all_goals
  rcases List.mem_append.1 hb with hb|hb
 ·exact h.ne b hb
 ·obtain rfl:b=⟨x.box,[x]⟩:=by simpa using hb
  exact⟨by simp,by simp⟩
 ·exact h.day b hb
 ·obtain rfl:b=⟨x.box,[x]⟩:=by simpa using hb
  intro y hy;obtain rfl:y=x:=by simpa using hy
  exact hd
 ·exact h.sz b hb
 ·obtain rfl:b=⟨x.box,[x]⟩:=by simpa using hb
  refine⟨jK n1,fun y hy=>?_⟩;obtain rfl:y=x:=by simpa using hy
  exact⟨jK n2,jK n3⟩
theorem iJ.hand {L:List cP}(h:iJ L) {x:eC}(h0:gZ L x=0):iJ (iT cP.box L x.box (hC x)):=by
 unfold gZ wM at h0
 split at h0
 ·cases h0
 rename_i g1
 split at h0
 ·cases h0
 rename_i g2;simp only[Bool.or_eq_true,Bool.not_eq_true',not_or,Bool.not_eq_false]at g1;obtain⟨⟨⟨⟨n1,n2⟩,n3⟩,n4⟩,n5⟩:=g1;have hd:x.day≤1048576:=by
  have:gK x.day=true:=by cases hh:gK x.day with|true=>rfl|false=>rw[hh]at g2;exact absurd rfl g2
  unfold gK at this;simp only[aO,decide_eq_true_eq]at this;exact this.2
 split at h0
 ·cases h0
 rename_i b0 hb0;have hlen:b0.hist.length+1≤4096:=by
  unfold BZ at h0
  split at h0
  ·cases h0
  split at h0
  ·cases h0
  split at h0
  ·cases h0
  split at h0
  ·cases h0
  omega
 have hcase:∀b,b∈iT cP.box L x.box (hC x)→b∈L∨b=hC x b0:=fun b hb=>by
  unfold iT at hb;obtain⟨y,hy,he⟩:=aX.1 hb;by_cases hk:y.box=x.box
  ·rw[aF hk]at he;right;have:y=b0:=by
    have h1:=sR h.nd hy hk;rw[h1]at hb0;cases hb0;rfl
   rw[←he,this]
  ·rw[aE hk]at he;exact .inl (he ▸ hy)
 have hb0m:b0∈L:=(lQ hb0).1;refine⟨by unfold iT;rw[aJ];exact h.few,by rw[wJ _ _ (nS x)];exact h.nd,fun b hb=>?_,fun b hb=>?_,fun b hb=>?_⟩
 all_goals
  rcases hcase b hb with hb|rfl
 ·exact h.ne b hb
 ·exact⟨by unfold hC;simp,by unfold hC;rw[aM];exact hlen⟩
 ·exact h.day b hb
 ·intro y hy;rcases List.mem_append.1 hy with hy|hy
  ·exact h.day b0 hb0m y hy
  ·obtain rfl:y=x:=by simpa using hy
   exact hd
 ·exact h.sz b hb
 ·refine⟨(h.sz b0 hb0m).1,fun y hy=>?_⟩;rcases List.mem_append.1 hy with hy|hy
  ·exact(h.sz b0 hb0m).2 y hy
  ·obtain rfl:y=x:=by simpa using hy
   exact⟨jK n3,jK n4⟩
theorem iJ.perm {L M:List cP}(h:iJ L) (p:L.Perm M):iJ M:=⟨by rw[←p.length_eq];exact h.few,(p.map cP.box).nodup_iff.1 h.nd,fun b hb=>h.ne b (p.mem_iff.2 hb),fun b hb=>h.day b (p.mem_iff.2 hb),fun b hb=>h.sz b (p.mem_iff.2 hb)⟩
structure Ww (q:HQ):Prop where
 h:Zb q
 cu:iJ q.C.cust
 bx:q.d.boxes.length≤70
def Y6 (C:Cr) (old:List cP) (i:Nat) (d:Dp) (ls:List dQ):List cG:=[.blk 118 [.str C.name,.hd 1,.ph 2,.ptr 3 0,.ptr 10 0,.hd 7],.map 70 (bJ iF C.parties),.pool 116 (bJ gI C.deals) [(i,.ptr 8 0)],.blk 122 [.str C.reg.carrier,.ph 4],.pool 120 (bJ aaI C.reg.bills) [],.blk 174 [.ph 6],.pool 172 (bJ eX old) [],.tip 77 5 (bJ dG C.deliv),.blk 136 (U1 d),.row 58 14 (bJ eL ls),.blk 174 [.ph 11],.pool 172 (bJ eX C.cust) []]
def Oj (b:Bool) (C:Cr) (old:List cP) (i:Nat) (d:Dp) (ls:List dQ):List cG:=bif b then Y6 C old i d ls else Nc C i d++[.row 58 14 (bJ eL ls)]
def uB (κ:Int→Prop) (f:HQ→List cP→Bool×Cr×Dp×List dQ):dA:=oA (fun q:HQ=>[.ptr 0 0,.ptr 8 0,eL q.l,.i q.day]) (fun q=>Nc q.C q.i q.d) (fun q=>κ q.l.kind∧Ww q) (fun q (L0:List cP)=>L0.Perm q.C.cust) (fun _ _=>.hd 9) fun q L0=>Oj (f q L0).1 (f q L0).2.1 q.C.cust q.i (f q L0).2.2.1 (f q L0).2.2.2
def aaK (q:HQ) (L0:List cP):Bool×Cr×Dp×List dQ:=if q.l.frm≠q.d.seller∨q.d.state≠0 then (false,q.C,q.d,[]) else match fC q.C.name q.d q.day L0 q.d.boxes with
 |none=>(false,q.C,q.d,[])
 |some L=>(true,{ q.C with cust:=L },wW 1 q.d,[])
structure Zp (name:bH) (d:Dp) (day:Int) (L:List cP) (bs:List bH) (p:Nat×List cP):Prop where
 le:p.1≤bs.length
 eq:fC name d day L bs=fC name d day p.2 (bs.drop p.1)
 ok:iJ p.2
theorem GW (P:bI) (hcp:bK P 68 A9) (hbg:bK P 118 HA) (hhn:bK P 43 E1):bM P ZY (uB (fun k=>k=4) aaK):=by
 intro args H K hc;obtain⟨⟨⟨name,parties,deals,⟨rc,rL⟩,cust,deliv⟩,i,⟨number,seller,buyer,house,dfrm,dto,dboxes,state,rel⟩,⟨frm,to,lnumber,kind,ack,deal,text,party,index,day0,cur,amt,docs,boxes⟩,day⟩,rfl,rfl,hp,hK⟩:=hc;refine⟨cL,?_⟩;dsimp only at hp hK⊢;obtain⟨hk,⟨hnum,hfew,hall⟩,hcu,hbx⟩:=hp;dsimp only at hk hnum hfew hall hcu hbx;subst hk;obtain⟨d0,hd0⟩:∃d:Dp,d=⟨number,seller,buyer,house,dfrm,dto,dboxes,state,rel⟩:=⟨_,rfl⟩
 have hK0:frm≠seller∨state≠0→K (.hd 9) (Nc ⟨name,parties,deals,⟨rc,rL⟩,cust,deliv⟩ i ⟨number,seller,buyer,house,dfrm,dto,dboxes,state,rel⟩++[.row 58 14 (bJ eL [])]):=fun h=>by
  have h1:=hK cust (.refl _);have e:aaK ⟨⟨name,parties,deals,⟨rc,rL⟩,cust,deliv⟩,i,⟨number,seller,buyer,house,dfrm,dto,dboxes,state,rel⟩,⟨frm,to,lnumber,4,ack,deal,text,party,index,day0,cur,amt,docs,boxes⟩,day⟩ cust=(false,⟨name,parties,deals,⟨rc,rL⟩,cust,deliv⟩,⟨number,seller,buyer,house,dfrm,dto,dboxes,state,rel⟩,[]):=aF h;rw[e]at h1;exact h1
 have hKn:frm=seller→state=0→∀L0,L0.Perm cust→fC name d0 day L0 dboxes=none→K (.hd 9) (Nc ⟨name,parties,deals,⟨rc,rL⟩,cust,deliv⟩ i ⟨number,seller,buyer,house,dfrm,dto,dboxes,state,rel⟩++[.row 58 14 (bJ eL [])]):=fun h0 h1 L0 hp h2=>by
  have h3:=hK L0 hp;have e:aaK ⟨⟨name,parties,deals,⟨rc,rL⟩,cust,deliv⟩,i,⟨number,seller,buyer,house,dfrm,dto,dboxes,state,rel⟩,⟨frm,to,lnumber,4,ack,deal,text,party,index,day0,cur,amt,docs,boxes⟩,day⟩ L0=(false,⟨name,parties,deals,⟨rc,rL⟩,cust,deliv⟩,⟨number,seller,buyer,house,dfrm,dto,dboxes,state,rel⟩,[]):=by
   refine(aE (fun h=>h.elim (fun h=>h h0) fun h=>h h1)).trans ?_;show (match fC name ⟨number,seller,buyer,house,dfrm,dto,dboxes,state,rel⟩ day L0 dboxes with|none=>_|some L=>_)=_;rw[←hd0,h2,hd0]
  rw[e]at h3;exact h3
 have hKy:frm=seller→state=0→∀L0,L0.Perm cust→∀L,fC name d0 day L0 dboxes=some L→K (.hd 9) (Y6 ⟨name,parties,deals,⟨rc,rL⟩,L,deliv⟩ cust i ⟨number,seller,buyer,house,dfrm,dto,dboxes,1,rel⟩ []):=fun h0 h1 L0 hp L h2=>by
  have h3:=hK L0 hp;have e:aaK ⟨⟨name,parties,deals,⟨rc,rL⟩,cust,deliv⟩,i,⟨number,seller,buyer,house,dfrm,dto,dboxes,state,rel⟩,⟨frm,to,lnumber,4,ack,deal,text,party,index,day0,cur,amt,docs,boxes⟩,day⟩ L0=(true,⟨name,parties,deals,⟨rc,rL⟩,L,deliv⟩,⟨number,seller,buyer,house,dfrm,dto,dboxes,1,rel⟩,[]):=by
   refine(aE (fun h=>h.elim (fun h=>h h0) fun h=>h h1)).trans ?_;show (match fC name ⟨number,seller,buyer,house,dfrm,dto,dboxes,state,rel⟩ day L0 dboxes with|none=>_|some L=>_)=_;rw[←hd0,h2,hd0];rfl
  rw[e]at h3;exact h3
 clear hK;cbv;repeat'((first|refine .mk (fun h=>?_) fun h=>?_|fail)<;>cbv)
 rotate_left
 ·have hK:=hK0 (.inr (by assumption));refine cZ (Gh.adopt 8 58 14 rfl) ?_;cbv
  (refine .q9 ?_;cbv;exact .inl (eN.sel [0,1,2,3,4,5,6,7,8,10] _ _ (by rfl) (by rfl) (by decide) (by rfl) cL (by rfl) (by rfl) (Le.refl _) (jW.refl _) hK))
 ·have hK:=hK0 (.inl (by assumption));refine cZ (Gh.adopt 8 58 14 rfl) ?_;cbv
  (refine .q9 ?_;cbv;exact .inl (eN.sel [0,1,2,3,4,5,6,7,8,10] _ _ (by rfl) (by rfl) (by decide) (by rfl) cL (by rfl) (by rfl) (Le.refl _) (jW.refl _) hK))
 refine eB hcp cust [5,6] hcu rfl rfl (by decide) rfl rfl rfl rfl rfl ?_;intro L1 hp1;have hKn:=hKn (by assumption) (by assumption) L1 hp1;have hKy:=hKy (by assumption) (by assumption) L1 hp1;obtain⟨n,hn⟩:∃n:Nat,n=dboxes.length:=⟨_,rfl⟩
 have hds:d0.seller=seller:=by rw[hd0]
 have hdf:d0.frm=dfrm:=by rw[hd0]
 clear hd0;cbv;repeat'((first|refine .k fun z hz=>?_|fail)<;>cbv)
 refine bS [] (fun p:{ p:Nat×List cP // Zp name d0 day L1 dboxes p }=>[(36,.i (nI p.1.1))]) (fun p=>[.blk 118 [.str name,.hd 1,.ph 2,.ptr 3 0,.ptr 5 0,.hd 7],.map 70 (bJ iF parties),.pool 116 (bJ gI deals) [(i,.ptr 8 0)],.blk 122 [.str rc,.ph 4],.pool 120 (bJ aaI rL) [],.blk 174 [.ph 6],.pool 172 (bJ eX cust) [],.tip 77 5 (bJ dG deliv),.blk 136 [.str number,.str seller,.str buyer,.str house,.str dfrm,.str dto,.sl 1 (bJ .str dboxes),.i state,.bl rel],.blk 58 [.str frm,.str to,.i lnumber,.i 4,.i ack,.str deal,.str text,.str party,.i index,.i day0,.str cur,.i amt,.sl 4 (bJ tG docs),.sl 1 (bJ .str boxes)],.blk 174 [.ph 11],.pool 172 (bJ eX p.1.2) []]) (fun p=>eW n p.1.1) ⟨(0,L1),⟨aI _,rfl,hcu.perm hp1.symm⟩⟩ ?_;rintro ⟨⟨k,Lk⟩,⟨hk,heq,hcuk⟩⟩;dsimp only at hk heq hcuk⊢;rcases aL k dboxes.length with hks|hks
 rotate_left
 ·rw[List.drop_of_length_le hks]at heq;have hK:=hKy Lk heq;cbv;repeat'((first|refine .n fun h=>?_|fail)<;>cbv)
  refine cZ (Gh.adopt 8 58 14 rfl) ?_;cbv
  (refine .q9 ?_;cbv;exact .inl (eN.sel [0,1,2,3,4,5,6,7,8,12,10,11] _ _ (by rfl) (by rfl) (by decide) (by rfl) cL (by rfl) (by rfl) (Le.refl _) (jW.refl _) hK))
 obtain⟨b,hx⟩:=cK hks;have hdr:dboxes.drop k=b :: dboxes.drop (k+1):=by
  obtain⟨h1,rfl⟩:=aA.1 hx;exact List.drop_eq_getElem_cons h1
 obtain⟨e1,he1⟩:∃e,e=rY Lk ⟨b,eS,seller,dfrm,day⟩:=⟨_,rfl⟩
 obtain⟨M1,hM1⟩:∃M,M=Qs Lk ⟨b,eS,seller,dfrm,day⟩:=⟨_,rfl⟩
 obtain⟨e2,he2⟩:∃e,e=gZ M1 ⟨b,seller,name,dfrm,day⟩:=⟨_,rfl⟩
 obtain⟨M2,hM2⟩:∃M,M=BF M1 ⟨b,seller,name,dfrm,day⟩:=⟨_,rfl⟩
 have hs1:e1≠0→fC name d0 day L1 dboxes=none:=fun h=>by
  rw[heq,hdr];refine aF ?_;show rY Lk ⟨b,eS,d0.seller,d0.frm,day⟩≠0;rw[hds,hdf,←he1];exact h
 have hc1:e1=0→M1=Lk++[⟨b,[⟨b,eS,seller,dfrm,day⟩]⟩]∧iJ M1:=fun h=>by
  have h1:M1=Lk++[⟨b,[⟨b,eS,seller,dfrm,day⟩]⟩]:=by rw[hM1];exact aF (he1.symm.trans h)
  exact⟨h1,by rw[h1];exact hcuk.beg (he1.symm.trans h)⟩
 have hs2:e1=0→fC name d0 day L1 dboxes=if e2≠0 then none else fC name d0 day (iT cP.box M1 b (hC ⟨b,seller,name,dfrm,day⟩)) (dboxes.drop (k+1)):=fun h=>by
  rw[heq,hdr];refine(aE (fun h2=>h2 ?_)).trans ?_
  rotate_left
  ·show rY Lk ⟨b,eS,d0.seller,d0.frm,day⟩=0;rw[hds,hdf,←he1];exact h
  ·rw[he2,(hc1 h).1];show (if gZ (Lk++[⟨b,[⟨b,eS,d0.seller,d0.frm,day⟩]⟩]) ⟨b,d0.seller,name,d0.frm,day⟩≠0 then none else fC name d0 day (iT cP.box (Lk++[⟨b,[⟨b,eS,d0.seller,d0.frm,day⟩]⟩]) b (hC ⟨b,d0.seller,name,d0.frm,day⟩)) (dboxes.drop (k+1)))=_;rw[hds,hdf]
 have hc2:e1=0→e2=0→M2=iT cP.box M1 b (hC ⟨b,seller,name,dfrm,day⟩)∧iJ M2:=fun h h'=>by
  have h1:M2=iT cP.box M1 b (hC ⟨b,seller,name,dfrm,day⟩):=by rw[hM2];exact aF (he2.symm.trans h')
  exact⟨h1,by rw[h1];exact(hc1 h).2.hand (x:=⟨b,seller,name,dfrm,day⟩) (he2.symm.trans h')⟩
 clear heq hdr;cbv;repeat'((first|refine .e ?_|refine .y fun h=>?_|fail)<;>cbv)
 (refine fI hbg ((Lk,⟨b,eS,seller,dfrm,day⟩):List cP×eC) [10,11] ⟨hcuk,rfl⟩ ?_;try dsimp only)
 rw[←he1,←hM1];cbv;repeat'((first|refine .mk (fun h=>?_) fun h=>?_|fail)<;>cbv)
 all_goals first
 |(have hK:=hKn (hs1 (by assumption))
   refine cZ (Gh.adopt 8 58 14 rfl) ?_;cbv
   (refine .q9 ?_;cbv;exact .inl (eN.sel [0,1,2,3,4,5,6,7,8,12] _ _ (by rfl) (by rfl) (by decide) (by rfl) cL (by rfl) (by rfl) (Le.refl _) (jW.refl _) hK)))
 |skip
 obtain⟨hm1,hcu1⟩:=hc1 (by assumption);have hs2:=hs2 (by assumption);have hc2:=hc2 (by assumption);clear hm1 hM1
 (refine fI hhn ((M1,⟨b,seller,name,dfrm,day⟩):List cP×eC) [10,11] hcu1 ?_;try dsimp only)
 rw[←he2,←hM2];cbv;repeat'((first|refine .mk (fun h=>?_) fun h=>?_|refine .k fun z hz=>?_|fail)<;>cbv)
 all_goals first
 |(rw[aF (by assumption)]at hs2
   have hK:=hKn hs2;refine cZ (Gh.adopt 8 58 14 rfl) ?_;cbv
   (refine .q9 ?_;cbv;exact .inl (eN.sel [0,1,2,3,4,5,6,7,8,12] _ _ (by rfl) (by rfl) (by decide) (by rfl) cL (by rfl) (by rfl) (Le.refl _) (jW.refl _) hK)))
 |skip
 obtain⟨hm2,hcu2⟩:=hc2 (by assumption);rw[aE (fun h=>h (by assumption)),←hm2]at hs2;clear hm2 hM2;obtain rfl:z=nI (k+1):=bQ;exact bN ⟨(k+1,M2),⟨hks,hs2,hcu2⟩⟩ (bO (by omega))
structure Ws (q:HQ):Prop where
 h:Ww q
 dl:q.C.deliv.length≤40000
def AK (κ:Int→Prop) (f:HQ→List cP→Bool×Cr×Dp×List dQ):dA:=oA (fun q:HQ=>[.ptr 0 0,.ptr 8 0,eL q.l,.i q.day]) (fun q=>Nc q.C q.i q.d) (fun q=>κ q.l.kind∧Ws q) (fun q (L0:List cP)=>L0.Perm q.C.cust) (fun _ _=>.hd 9) fun q L0=>Oj (f q L0).1 (f q L0).2.1 q.C.cust q.i (f q L0).2.2.1 (f q L0).2.2.2
def pR (q:HQ) (L0:List cP):Bool×Cr×Dp×List dQ:=if q.d.state≠3∨q.d.rel=false then (false,q.C,q.d,eR fL q.l) else match eU (cU q.C.name q.l.frm q.d.to q.day) L0 q.d.boxes with
 |none=>(false,q.C,q.d,eR fL q.l)
 |some L=>if jN q.C.reg (cJ 2 q.d q.l q.day)≠0 then (false,q.C,q.d,eR fL q.l) else (true,{ q.C with cust:=L,deliv:=q.C.deliv++q.d.boxes.map (cU q.C.name q.l.frm q.d.to q.day),reg:=xW q.C.reg (cJ 2 q.d q.l q.day) },wW 4 q.d,[{ oN with to:=q.l.frm,kind:=21,boxes:=q.d.boxes }])
theorem NN {R:Rg}{d:Dp}{l:dQ}{day:Int}:jN R (cJ 2 d l day)=eM R.bills ⟨gE d.number,l.index,0,l.frm,0,day,true,false⟩:=rfl
structure Zy (f:bH→eC) (L:List cP) (bs:List bH) (p:Nat×List cP):Prop where
 le:p.1≤bs.length
 eq:eU f L bs=eU f p.2 (bs.drop p.1)
 ok:iJ p.2
theorem yG (P:bI) (hcp:bK P 68 A9) (hhn:bK P 43 E1) (hb:bK P 120 Cn) (hsu:bK P 122 sM) (hc1:bK P 87 (jR 1 16)) (ho:bK P 121 KB):bM P x81 (AK (fun k=>k=20) pR):=by
 intro args H K hc;obtain⟨⟨⟨name,parties,deals,⟨rc,rL⟩,cust,deliv⟩,i,⟨number,seller,buyer,house,dfrm,dto,dboxes,state,rel⟩,⟨frm,to,lnumber,kind,ack,deal,text,party,index,day0,cur,amt,docs,boxes⟩,day⟩,rfl,rfl,hp,hK⟩:=hc;refine⟨cL,?_⟩;dsimp only at hp hK⊢;obtain⟨hk,⟨⟨hnum,hfew,hall⟩,hcu,hbx⟩,hdl⟩:=hp;dsimp only at hk hnum hfew hall hcu hbx hdl;subst hk;have hok:mG 20:=by unfold mG;decide
 obtain⟨bn,hbn⟩:∃b,b=gE number:=⟨_,rfl⟩
 obtain⟨e,he⟩:∃e,e=eM rL ⟨bn,index,0,frm,0,day,true,false⟩:=⟨_,rfl⟩
 obtain⟨M,hM⟩:∃M,M=gB rL ⟨bn,index,0,frm,0,day,true,false⟩ (TL ⟨bn,index,0,frm,0,day,true,false⟩):=⟨_,rfl⟩
 have hM0:e≠0→M=rL:=fun h=>by rw[hM];exact aE (he ▸ h)
 obtain⟨f,hf⟩:∃f,f=cU name frm dto day:=⟨_,rfl⟩
 obtain⟨T,hT⟩:∃T,T=dboxes.map f:=⟨_,rfl⟩
 have hKo:(state≠3∨rel=false)∨(∃L0,L0.Perm cust∧(eU f L0 dboxes=none∨e≠0))→K (.hd 9) (Nc ⟨name,parties,deals,⟨rc,rL⟩,cust,deliv⟩ i ⟨number,seller,buyer,house,dfrm,dto,dboxes,state,rel⟩++[.row 58 14 (bJ eL (eR fL ⟨frm,to,lnumber,20,ack,deal,text,party,index,day0,cur,amt,docs,boxes⟩))]):=fun h=>by
  have hg:∃L0,L0.Perm cust∧pR ⟨⟨name,parties,deals,⟨rc,rL⟩,cust,deliv⟩,i,⟨number,seller,buyer,house,dfrm,dto,dboxes,state,rel⟩,⟨frm,to,lnumber,20,ack,deal,text,party,index,day0,cur,amt,docs,boxes⟩,day⟩ L0=(false,⟨name,parties,deals,⟨rc,rL⟩,cust,deliv⟩,⟨number,seller,buyer,house,dfrm,dto,dboxes,state,rel⟩,eR fL ⟨frm,to,lnumber,20,ack,deal,text,party,index,day0,cur,amt,docs,boxes⟩):=by
   rcases h with h|⟨L0,hp,h⟩
   ·exact⟨cust,.refl _,aF h⟩
   ·refine⟨L0,hp,?_⟩;by_cases h1:state≠3∨rel=false
    ·exact aF h1
    ·refine(aE h1).trans ?_;show (match eU (cU name frm dto day) L0 dboxes with|none=>_|some L=>if _ then _ else _)=_;rw[←hf];cases hL:eU f L0 dboxes with
     |none=>rfl
     |some L=>
      refine aF ?_;rw[NN];show eM rL ⟨gE number,index,0,frm,0,day,true,false⟩≠0;rw[←hbn,←he];rcases h with h|h
      ·rw[hL]at h;cases h
      ·exact h
  obtain⟨L0,hp,h3⟩:=hg;have h4:=hK L0 hp;rw[h3]at h4;exact h4
 have hKy:state=3→rel=true→e=0→∀L0,L0.Perm cust→∀L,eU f L0 dboxes=some L→K (.hd 9) (Y6 ⟨name,parties,deals,⟨rc,M⟩,L,deliv++T⟩ cust i ⟨number,seller,buyer,house,dfrm,dto,dboxes,4,rel⟩ [⟨eS,frm,0,21,0,eS,eS,eS,0,0,eS,0,[],dboxes⟩]):=fun h1 h2 h3 L0 hp L h4=>by
  have h5:=hK L0 hp;have h6:pR ⟨⟨name,parties,deals,⟨rc,rL⟩,cust,deliv⟩,i,⟨number,seller,buyer,house,dfrm,dto,dboxes,state,rel⟩,⟨frm,to,lnumber,20,ack,deal,text,party,index,day0,cur,amt,docs,boxes⟩,day⟩ L0=(true,⟨name,parties,deals,⟨rc,M⟩,L,deliv++T⟩,⟨number,seller,buyer,house,dfrm,dto,dboxes,4,rel⟩,[⟨eS,frm,0,21,0,eS,eS,eS,0,0,eS,0,[],dboxes⟩]):=by
   refine(aE (fun h=>h.elim (fun h=>h h1) (fun h=>by rw[h2]at h;cases h))).trans ?_;show (match eU (cU name frm dto day) L0 dboxes with|none=>_|some L=>if _ then _ else _)=_;rw[←hf,h4];refine(aE (fun h=>h ?_)).trans ?_
   rotate_left
   ·rw[NN];show eM rL ⟨gE number,index,0,frm,0,day,true,false⟩=0;rw[←hbn,←he];exact h3
   ·rw[hM,hT,hbn,hf];rfl
  rw[h6]at h5;exact h5
 clear hK;obtain⟨DT,hDT⟩:∃D,D=deliv++T:=⟨_,rfl⟩
 rw[←hDT]at hKy;have hTl:T.length≤70:=by rw[hT,aJ];exact hbx
 obtain⟨n,hn⟩:∃n:Nat,n=dboxes.length:=⟨_,rfl⟩
 cases rel with
 |false=>
  have hK:=hKo (.inl (.inr rfl));cbv;repeat'((first|refine .mk (fun h=>?_) fun h=>?_|fail)<;>cbv)
  all_goals
    (refine yV ho (⟨frm,to,lnumber,20,ack,deal,text,party,index,day0,cur,amt,docs,boxes⟩:dQ) hok ?_;try dsimp only)
    cbv
    (refine .q9 ?_;cbv;exact .inl (eN.sel [0,1,2,3,4,5,6,7,8,10] _ _ (by rfl) (by rfl) (by decide) (by rfl) cL (by rfl) (by rfl) (Le.refl _) (jW.refl _) hK))
 |true=>
  cbv;repeat'((first|refine .mk (fun h=>?_) fun h=>?_|fail)<;>cbv)
  rotate_left
  ·have hK:=hKo (.inl (.inl (by assumption)))
   all_goals
    (refine yV ho (⟨frm,to,lnumber,20,ack,deal,text,party,index,day0,cur,amt,docs,boxes⟩:dQ) hok ?_;try dsimp only)
    cbv
    (refine .q9 ?_;cbv;exact .inl (eN.sel [0,1,2,3,4,5,6,7,8,10] _ _ (by rfl) (by rfl) (by decide) (by rfl) cL (by rfl) (by rfl) (Le.refl _) (jW.refl _) hK))
  refine eB hcp cust [5,6] hcu rfl rfl (by decide) rfl rfl rfl rfl rfl ?_;intro L1 hp1;have hKo:eU f L1 dboxes=none∨e≠0→_:=fun h=>hKo (.inr ⟨L1,hp1,h⟩)
  have hKy:=fun h=>hKy (by assumption) rfl h L1 hp1
  have hfb:∀b,f b=⟨b,name,frm,dto,day⟩:=fun b=>by rw[hf];rfl
  clear hf;cbv;repeat'((first|refine .k fun z hz=>?_|fail)<;>cbv)
  refine gH (Gh.adopt 10 77 5 rfl) ?_;cbv;refine bS [12] (fun p:{ p:Nat×List cP // Zy f L1 dboxes p }=>[(10,.hd 12),(40,.i (nI p.1.1))]) (fun p=>[.blk 118 [.str name,.hd 1,.ph 2,.ptr 3 0,.ptr 5 0,.hd 7],.map 70 (bJ iF parties),.pool 116 (bJ gI deals) [(i,.ptr 8 0)],.blk 122 [.str rc,.ph 4],.pool 120 (bJ aaI rL) [],.blk 174 [.ph 6],.pool 172 (bJ eX cust) [],.tip 77 5 (bJ dG deliv),.blk 136 [.str number,.str seller,.str buyer,.str house,.str dfrm,.str dto,.sl 1 (bJ .str dboxes),.i state,.bl true],.blk 58 [.str frm,.str to,.i lnumber,.i 20,.i ack,.str deal,.str text,.str party,.i index,.i day0,.str cur,.i amt,.sl 4 (bJ tG docs),.sl 1 (bJ .str boxes)],.blk 174 [.ph 11],.pool 172 (bJ eX p.1.2) [],.row 77 5 (bJ dG (T.take p.1.1))]) (fun p=>eW n p.1.1) ⟨(0,L1),⟨aI _,rfl,hcu.perm hp1.symm⟩⟩ ?_;rintro ⟨⟨k,Lk⟩,⟨hk,heq,hcuk⟩⟩;dsimp only at hk heq hcuk⊢;rcases aL k dboxes.length with hks|hks
  rotate_left
  ·rw[List.drop_of_length_le hks]at heq;have hKy:=fun h=>hKy h Lk heq
   have eT:T.take k=T:=bC (by rw[hT,aJ];exact hks);rw[eT];clear heq eT;cbv;repeat'((first|refine .n fun h=>?_|fail)<;>cbv)
   (refine fI hb (⟨number,seller,buyer,house,dfrm,dto,dboxes,state,true⟩:Dp) [8] hnum ?_;try dsimp only)
   rw[←hbn];cbv;obtain⟨bm,hbm⟩:∃b,b=QP rL ⟨bn,index,0,frm,0,day,true,false⟩:=⟨_,rfl⟩
   (refine fI hsu ((⟨rc,rL⟩,⟨bn,index,0,frm,0,day,true,false⟩):Rg×Ak) [3,4] ⟨hall,rfl,rfl,rfl,rfl⟩ ?_;try dsimp only)
   rw[←he,←hM,←hbm];clear hbm;cbv;repeat'((first|refine .mk (fun h=>?_) fun h=>?_|refine .l fun ys hys hyl=>?_|fail)<;>cbv)
   all_goals first
   |(have hK:=hKo (.inr (by assumption))
     obtain rfl:M=rL:=hM0 (by assumption)
     (refine yV ho (⟨frm,to,lnumber,20,ack,deal,text,party,index,day0,cur,amt,docs,boxes⟩:dQ) hok ?_;try dsimp only)
     cbv
     (refine .q9 ?_;cbv;exact .inl (eN.sel [0,1,2,3,4,5,6,7,8,13] _ _ (by rfl) (by rfl) (by decide) (by rfl) cL (by rfl) (by rfl) (Le.refl _) (jW.refl _) hK)))
   |skip
   all_goals
    have hK:=hKy (by assumption);obtain rfl:ys=DT:=by rw[hys,hDT]
    (refine bX hc1 _ ⟨by rw[bY];unfold maxLen;omega,by rw[bY];omega⟩ ?_;try dsimp only)
    cbv
   all_goals
    refine cZ (Gh.leAt 13 (.row 58 14 (bJ eL [⟨eS,frm,0,21,0,eS,eS,eS,0,0,eS,0,[],dboxes⟩])) rfl (sX Bh)) ?_;cbv
    (refine .q9 ?_;cbv;exact .inl (eN.sel [0,1,2,3,4,5,6,7,8,13,10,11] _ _ (by rfl) (by rfl) (by decide) (by rfl) cL (by rfl) (by rfl) (Le.refl _) (jW.refl _) hK))
  obtain⟨b,hx⟩:=cK hks;have hdr:dboxes.drop k=b :: dboxes.drop (k+1):=by
   obtain⟨h1,rfl⟩:=aA.1 hx;exact List.drop_eq_getElem_cons h1
  obtain⟨e2,he2⟩:∃e,e=gZ Lk ⟨b,name,frm,dto,day⟩:=⟨_,rfl⟩
  obtain⟨M2,hM2⟩:∃M,M=BF Lk ⟨b,name,frm,dto,day⟩:=⟨_,rfl⟩
  have hs2:eU f L1 dboxes=if e2≠0 then none else eU f (iT cP.box Lk b (hC ⟨b,name,frm,dto,day⟩)) (dboxes.drop (k+1)):=by
   rw[heq,hdr,he2];show (if gZ Lk (f b)≠0 then none else eU f (iT cP.box Lk (f b).box (hC (f b))) (dboxes.drop (k+1)))=_;rw[hfb]
  have hc2:e2=0→M2=iT cP.box Lk b (hC ⟨b,name,frm,dto,day⟩)∧iJ M2:=fun h=>by
   have h1:M2=iT cP.box Lk b (hC ⟨b,name,frm,dto,day⟩):=by rw[hM2];exact aF (he2.symm.trans h)
   exact⟨h1,by rw[h1];exact hcuk.hand (x:=⟨b,name,frm,dto,day⟩) (he2.symm.trans h)⟩
  have hT2:T.take (k+1)=T.take k++[⟨b,name,frm,dto,day⟩]:=by
   rw[hT,←List.map_take,←List.map_take,dC hx,List.map_append];simp[hfb]
  obtain⟨Tk,hTk⟩:∃t,t=T.take k:=⟨_,rfl⟩
  have hTkl:Tk.length≤70:=by rw[hTk,aS];omega
  rw[←hTk]at hT2⊢;clear heq hdr hTk;cbv;repeat'((first|refine .e ?_|refine .y fun h=>?_|fail)<;>cbv)
  (refine fI hhn ((Lk,⟨b,name,frm,dto,day⟩):List cP×eC) [10,11] hcuk ?_;try dsimp only)
  rw[←he2,←hM2];cbv;repeat'((first|refine .mk (fun h=>?_) fun h=>?_|refine .k fun z hz=>?_|refine .zl fun zs hzs hzl=>?_|fail)<;>cbv)
  all_goals first
  |(rw[aF (by assumption)]at hs2
    have hK:=hKo (.inl hs2)
    (refine yV ho (⟨frm,to,lnumber,20,ack,deal,text,party,index,day0,cur,amt,docs,boxes⟩:dQ) hok ?_;try dsimp only)
    cbv
    (refine .q9 ?_;cbv;exact .inl (eN.sel [0,1,2,3,4,5,6,7,8,14] _ _ (by rfl) (by rfl) (by decide) (by rfl) cL (by rfl) (by rfl) (Le.refl _) (jW.refl _) hK)))
  |skip
  obtain⟨hm2,hcu2⟩:=hc2 (by assumption);rw[aE (fun h=>h (by assumption)),←hm2]at hs2;clear hm2 hM2;obtain rfl:z=nI (k+1):=bQ;obtain rfl:zs=bJ dG (T.take (k+1)):=by(rw[hT2,cD,cF];exact hzs)
  exact bN ⟨(k+1,M2),⟨hks,hs2,hcu2⟩⟩ (bO (by omega))
def Yu (C:Cr) (old:List cP):List cG:=[.blk 118 [.str C.name,.hd 1,.ph 2,.ptr 3 0,.ptr 8 0,.hd 7],.map 70 (bJ iF C.parties),.pool 116 (bJ gI C.deals) [],.blk 122 [.str C.reg.carrier,.ph 4],.pool 120 (bJ aaI C.reg.bills) [],.blk 174 [.ph 6],.pool 172 (bJ eX old) [],.tip 77 5 (bJ dG C.deliv),.blk 174 [.ph 9],.pool 172 (bJ eX C.cust) []]
def Pb (b:Bool) (C:Cr) (old:List cP):List cG:=bif b then Yu C old else uQ C
def fZ (q:HQ) (L0:List cP):Bool×Cr×Dp×List dQ:=
 if q.l.kind=4 then aaK q L0 else if q.l.kind=8 then (false,mT q) else if q.l.kind=20 then pR q L0 else if q.l.kind=19 then (false,BG q) else if q.l.kind=23 then (false,qK q) else if q.l.kind=24 then (false,qX q) else (false,q.C,q.d,[])
def iB (C:Cr) (l:dQ) (day:Int) (L0:List cP):Bool×Cr×List dQ:=match kA Dp.number C.deals l.deal with
 |none=>(false,C,[])
 |some i=>match C.deals[i]? with
  |none=>(false,C,[])
  |some d=>if kY C.parties l.frm=false then (false,C,[]) else
   ((fZ ⟨C,i,d,l,day⟩ L0).1,{ (fZ ⟨C,i,d,l,day⟩ L0).2.1 with deals:=C.deals.set i (fZ ⟨C,i,d,l,day⟩ L0).2.2.1 },cI d.number day (fZ ⟨C,i,d,l,day⟩ L0).2.2.2)
structure TQ where
 C:Cr
 l:dQ
 day:Int
structure T3 (q:TQ):Prop where
 c:Uf q.C
 cu:iJ q.C.cust
 dl:q.C.deliv.length≤40000
def sS (κ:Int→Prop):dA:=oA (fun q:TQ=>[.ptr 0 0,eL q.l,.i q.day]) (fun q=>uQ q.C) (fun q=>κ q.l.kind∧T3 q) (fun q (L0:List cP)=>L0.Perm q.C.cust) (fun q L0=>.sl 14 (bJ eL (iB q.C q.l q.day L0).2.2)) fun q L0=>Pb (iB q.C q.l q.day L0).1 (iB q.C q.l q.day L0).2.1 q.C.cust
theorem sQ {C:Cr}{l:dQ}{day:Int}{L0:List cP}(h:kA Dp.number C.deals l.deal=none):iB C l day L0=(false,C,[]):=by unfold iB;rw[h]
theorem vH {C:Cr}{l:dQ}{day:Int}{L0:List cP}(h:kY C.parties l.frm=false):iB C l day L0=(false,C,[]):=by
 unfold iB
 split
 ·rfl
 ·split
  ·rfl
  ·rw[aF h]
theorem FP {C:Cr}{l:dQ}{day:Int}{L0:List cP}{i:Nat}{d:Dp}(h:kA Dp.number C.deals l.deal=some i) (hd:C.deals[i]?=some d) (hp:kY C.parties l.frm=true) {b:Bool}{R:Rg}{cu:List cP}{dl:List eC}{d2:Dp}{ls:List dQ}
  (hk:fZ ⟨C,i,d,l,day⟩ L0=(b,⟨C.name,C.parties,C.deals,R,cu,dl⟩,d2,ls)):iB C l day L0=(b,⟨C.name,C.parties,C.deals.set i d2,R,cu,dl⟩,cI d.number day ls):=by
 unfold iB;rw[h];dsimp only;rw[hd];dsimp only;rw[aE (by rw[hp];decide),hk]
def Ar (q:HQ) (r:Cr×Dp×List dQ):Prop:=∃R cu dl st rl ls,r=(⟨q.C.name,q.C.parties,q.C.deals,R,cu,dl⟩,⟨q.d.number,q.d.seller,q.d.buyer,q.d.house,q.d.frm,q.d.to,q.d.boxes,st,rl⟩,ls)∧ls.length≤1000
theorem Hp (q:HQ):Ar q (BG q):=by
 unfold BG
 split
 ·exact⟨_,_,_,_,_,_,rfl,aI _⟩
 ·exact⟨_,_,_,_,_,_,rfl,aI _⟩
theorem Ew (q:HQ):Ar q (qK q):=by
 by_cases h:jN q.C.reg (cJ 3 q.d q.l q.day)=0
 ·rw[vG h];exact⟨_,_,_,_,_,_,rfl,aI _⟩
 ·rw[Bc h];exact⟨_,_,_,_,_,_,rfl,(show (1:Nat)≤1000 by decide)⟩
theorem El (q:HQ):Ar q (qX q):=by
 by_cases h:jN q.C.reg (cJ 4 q.d q.l q.day)=0
 ·rw[wG h];exact⟨_,_,_,_,_,_,rfl,(show (1:Nat)≤1000 by decide)⟩
 ·rw[AF h];exact⟨_,_,_,_,_,_,rfl,(show (1:Nat)≤1000 by decide)⟩
theorem FU (q:HQ):Ar q (mT q):=by
 by_cases h:kY q.C.parties q.l.party=false∨q.l.party=q.l.frm∨jN q.C.reg (cJ 1 q.d q.l q.day)≠0
 ·rw[AB h];exact⟨_,_,_,_,_,_,rfl,(show (1:Nat)≤1000 by decide)⟩
 ·have e:mT q=(({ q.C with reg:=xW q.C.reg (cJ 1 q.d q.l q.day) },q.d,[{ oN with to:=q.l.party,kind:=9,index:=q.l.index,party:=q.l.party }])):=by
   have:AC fL q.C q.d q.l q.day=({ q.C with reg:=xW q.C.reg (cJ 1 q.d q.l q.day) },[{ oN with to:=q.l.party,kind:=9,index:=q.l.index,party:=q.l.party }]):=aE h;unfold mT;rw[this]
  rw[e];exact⟨_,_,_,_,_,_,rfl,(show (1:Nat)≤1000 by decide)⟩
theorem Fy (q:HQ) (L0:List cP):Ar q (aaK q L0).2:=by
 unfold aaK
 split
 ·exact⟨_,_,_,_,_,_,rfl,aI _⟩
 ·split
  ·exact⟨_,_,_,_,_,_,rfl,aI _⟩
  ·exact⟨_,_,_,_,_,_,rfl,aI _⟩
theorem Eh (q:HQ) (L0:List cP):Ar q (pR q L0).2:=by
 unfold pR
 split
 ·exact⟨_,_,_,_,_,_,rfl,(show (1:Nat)≤1000 by decide)⟩
 ·split
  ·exact⟨_,_,_,_,_,_,rfl,(show (1:Nat)≤1000 by decide)⟩
  ·split
   ·exact⟨_,_,_,_,_,_,rfl,(show (1:Nat)≤1000 by decide)⟩
   ·exact⟨_,_,_,_,_,_,rfl,(show (1:Nat)≤1000 by decide)⟩
theorem Hu (P:bI) (hle:bK P 48 rD) (hst:bK P 49 qT):bM P YI (sS fun k=>¬(k=4∨k=8∨k=20∨k=19∨k=23∨k=24)):=by
 intro args H K hc;obtain⟨⟨⟨name,parties,deals,⟨rc,rL⟩,cust,deliv⟩,⟨frm,to,lnumber,kind,ack,deal,text,party,index,day0,cur,amt,docs,boxes⟩,day⟩,rfl,rfl,hp,hK⟩:=hc;refine⟨cL,?_⟩;dsimp only at hp hK⊢;obtain⟨hk,⟨hnd,hfew,hall,hnum,hbx,hbz⟩,hcu,hdl⟩:=hp;dsimp only at hk hnd hfew hall hnum hbx hbz hcu hdl;have hKn:∀L0,L0.Perm cust→iB ⟨name,parties,deals,⟨rc,rL⟩,cust,deliv⟩ ⟨frm,to,lnumber,kind,ack,deal,text,party,index,day0,cur,amt,docs,boxes⟩ day L0=(false,⟨name,parties,deals,⟨rc,rL⟩,cust,deliv⟩,[])→K (.sl 14 []) (uQ ⟨name,parties,deals,⟨rc,rL⟩,cust,deliv⟩):=fun L0 hp h=>by
  have:=hK L0 hp;rw[h]at this;exact this
 cbv
 all_goals
  refine eE Dp.number (fun _=>rfl) (fun i y hai hy hky=>?_) (fun hai=>?_)<;>try dsimp only at *
  rotate_left
  ·have hK:=hKn cust (.refl _) (sQ hai);cbv
   all_goals
    refine cZ (Gh.adopt 6 58 14 rfl) ?_;cbv;refine cZ (Gh.plain 9 rfl) ?_;cbv
    (refine .q9 ?_;cbv;exact .inl (.f9 hK))
  have hn1:=hnum y (aC hy);have hb1:=hbx y (aC hy);have htx:kY parties frm=true→∀L0,L0.Perm cust→∀b R cu dl d2 ls,fZ ⟨⟨name,parties,deals,⟨rc,rL⟩,cust,deliv⟩,i,y,⟨frm,to,lnumber,kind,ack,deal,text,party,index,day0,cur,amt,docs,boxes⟩,day⟩ L0=(b,⟨name,parties,deals,R,cu,dl⟩,d2,ls)→K (.sl 14 (bJ eL (cI y.number day ls))) (Pb b ⟨name,parties,deals.set i d2,R,cu,dl⟩ cust):=fun hp L0 hpm b R cu dl d2 ls hkx=>by
   have h1:=hK L0 hpm;rw[FP hai hy hp hkx]at h1;exact h1
  have htn:kY parties frm=false→K (.sl 14 []) (uQ ⟨name,parties,deals,⟨rc,rL⟩,cust,deliv⟩):=fun h=>hKn cust (.refl _) (vH h)
  clear hK hKn;obtain⟨number,seller,buyer,house,dfrm,dto,dboxes,state,rel⟩:=y;dsimp only at hky hn1 hb1 htx;subst hky;cbv
  all_goals
   refine oI (fun j hj=>?_) fun hno=>?_
   rotate_left
   ·have hK:=htn (uY hno);cbv
    all_goals
     refine cZ (Gh.back0 2 [9] gI rfl hy) ?_;cbv;refine cZ (Gh.adopt 6 58 14 rfl) ?_;cbv;refine cZ (Gh.plain 10 rfl) ?_;cbv
     (refine .q9 ?_;cbv;exact .inl (.f9 hK))
   have htx:=htx (CC hj);clear hj htn;cbv
   all_goals
    (refine yV hle () trivial ?_;try dsimp only)
    cbv
   all_goals
    refine qN.mk (.inr ⟨by rw[jA (by omega),jA (by omega),jA (by omega),jA (by omega),jA (by omega),jA (by omega)];rfl,?_⟩);cbv
   all_goals
    have hK:=htx cust (.refl _) false ⟨rc,rL⟩ cust deliv ⟨number,seller,buyer,house,dfrm,dto,dboxes,state,rel⟩ [] (by
     unfold fZ;dsimp only;rw[aE (by omega),aE (by omega),aE (by omega),aE (by omega),aE (by omega),aE (by omega)])
    refine cZ (Gh.back 2 [9] gI ⟨number,seller,buyer,house,dfrm,dto,dboxes,state,rel⟩ rfl hy) ?_;cbv;refine cZ (Gh.adopt 6 58 14 rfl) ?_;cbv;refine cZ (Gh.plain 11 rfl) ?_;cbv
    (refine .q9 ?_;cbv;exact .inl (.f9 hK))
def N5 (κ:Int) (G:HQ→List cP→Bool×Cr×Dp×List dQ):dA:=oA (fun q:HQ=>[.ptr 0 0,.ptr 8 0,eL q.l,.i q.day]) (fun q=>Nc q.C q.i q.d) (fun q=>q.l.kind=κ∧Ws q) (fun q (L0:List cP)=>L0.Perm q.C.cust) (fun _ _=>.hd 9) fun q L0=>Oj (G q L0).1 (G q L0).2.1 q.C.cust q.i (G q L0).2.2.1 (G q L0).2.2.2
theorem zS {P:bI}{f:Nat}{κ:Int}{F:HQ→Cr×Dp×List dQ}(h:bK P f (gJ (fun k=>k=κ) F)):bK P f (N5 κ fun q _=>(false,F q)):=fun args H K ⟨q,h1,h2,⟨hk,hp⟩,hK⟩=>h args H K ⟨q,h1,h2,⟨hk,hp.1.1⟩,hK q.C.cust (.refl _)⟩
theorem PZ {P:bI}{f:Nat}{κ:Int}{G:HQ→List cP→Bool×Cr×Dp×List dQ}(h:bK P f (uB (fun k=>k=κ) G)):bK P f (N5 κ G):=fun args H K ⟨q,h1,h2,⟨hk,hp⟩,hK⟩=>h args H K ⟨q,h1,h2,⟨hk,hp.1⟩,hK⟩
theorem lU (P:bI) (hle:bK P 48 rD) (hst:bK P 49 qT) {κ:Int}{f n:Nat}{G:HQ→List cP→Bool×Cr×Dp×List dQ}(hmc:dB P f) (hh:bK P f (N5 κ G)) (hfi:oK (.i κ) AL 0=some (some n)) (hln:AL[n]?=some (.i κ,.clo f [])) (hsp:∀q L0,Ar q (G q L0).2) (hkx:∀q L0,q.l.kind=κ→fZ q L0=G q L0):bM P YI (sS fun k=>k=κ):=by
 intro args H K hc;obtain⟨⟨⟨name,parties,deals,⟨rc,rL⟩,cust,deliv⟩,⟨frm,to,lnumber,kind,ack,deal,text,party,index,day0,cur,amt,docs,boxes⟩,day⟩,rfl,rfl,hp,hK⟩:=hc;refine⟨cL,?_⟩;dsimp only at hp hK⊢;obtain⟨hk,⟨hnd,hfew,hall,hnum,hbx,hbz⟩,hcu,hdl⟩:=hp;dsimp only at hk hnd hfew hall hnum hbx hbz hcu hdl;subst hk;have hKn:∀L0,L0.Perm cust→iB ⟨name,parties,deals,⟨rc,rL⟩,cust,deliv⟩ ⟨frm,to,lnumber,kind,ack,deal,text,party,index,day0,cur,amt,docs,boxes⟩ day L0=(false,⟨name,parties,deals,⟨rc,rL⟩,cust,deliv⟩,[])→K (.sl 14 []) (uQ ⟨name,parties,deals,⟨rc,rL⟩,cust,deliv⟩):=fun L0 hp h=>by
  have:=hK L0 hp;rw[h]at this;exact this
 cbv
 all_goals
  refine eE Dp.number (fun _=>rfl) (fun i y hai hy hky=>?_) (fun hai=>?_)<;>try dsimp only at *
  rotate_left
  ·have hK:=hKn cust (.refl _) (sQ hai);cbv
   all_goals
    refine cZ (Gh.adopt 6 58 14 rfl) ?_;cbv;refine cZ (Gh.plain 9 rfl) ?_;cbv
    (refine .q9 ?_;cbv;exact .inl (.f9 hK))
  have hn1:=hnum y (aC hy);have hb1:=hbx y (aC hy);have htx:kY parties frm=true→∀L0,L0.Perm cust→∀b R cu dl d2 ls,fZ ⟨⟨name,parties,deals,⟨rc,rL⟩,cust,deliv⟩,i,y,⟨frm,to,lnumber,kind,ack,deal,text,party,index,day0,cur,amt,docs,boxes⟩,day⟩ L0=(b,⟨name,parties,deals,R,cu,dl⟩,d2,ls)→K (.sl 14 (bJ eL (cI y.number day ls))) (Pb b ⟨name,parties,deals.set i d2,R,cu,dl⟩ cust):=fun hp L0 hpm b R cu dl d2 ls hkx=>by
   have h1:=hK L0 hpm;rw[FP hai hy hp hkx]at h1;exact h1
  have htn:kY parties frm=false→K (.sl 14 []) (uQ ⟨name,parties,deals,⟨rc,rL⟩,cust,deliv⟩):=fun h=>hKn cust (.refl _) (vH h)
  clear hK hKn;obtain⟨number,seller,buyer,house,dfrm,dto,dboxes,state,rel⟩:=y;dsimp only at hky hn1 hb1 htx;subst hky;cbv
  all_goals
   refine oI (fun j hj=>?_) fun hno=>?_
   rotate_left
   ·have hK:=htn (uY hno);cbv
    all_goals
     refine cZ (Gh.back0 2 [9] gI rfl hy) ?_;cbv;refine cZ (Gh.adopt 6 58 14 rfl) ?_;cbv;refine cZ (Gh.plain 10 rfl) ?_;cbv
     (refine .q9 ?_;cbv;exact .inl (.f9 hK))
   have htx:=htx (CC hj);clear hj htn;cbv
   all_goals
    (refine yV hle () trivial ?_;try dsimp only)
    cbv
   all_goals
    refine qN.mk (.inl ⟨n,_,_,hfi,hln,?_⟩);cbv;repeat'((first|refine And.intro ?_ ?_|fail)<;>cbv)
   all_goals first
   |exact hmc
   |skip
   all_goals
    refine eB hh (⟨⟨name,parties,deals,⟨rc,rL⟩,cust,deliv⟩,i,⟨number,seller,buyer,house,dfrm,dto,dboxes,state,rel⟩,⟨frm,to,lnumber,kind,ack,number,text,party,index,day0,cur,amt,docs,boxes⟩,day⟩:HQ) [0,1,2,3,4,5,6,7,9] ⟨rfl,⟨⟨⟨hn1,hfew,hall⟩,hcu,hb1⟩,hdl⟩⟩ rfl rfl (by decide) rfl rfl rfl rfl rfl ?_;intro L0 hp0;obtain⟨⟨rc2,M⟩,cu,dl,st,rl,ls,hsh,hls⟩:=hsp (⟨⟨name,parties,deals,⟨rc,rL⟩,cust,deliv⟩,i,⟨number,seller,buyer,house,dfrm,dto,dboxes,state,rel⟩,⟨frm,to,lnumber,kind,ack,number,text,party,index,day0,cur,amt,docs,boxes⟩,day⟩:HQ) L0;obtain⟨mv,hmv⟩:∃b,b=(G (⟨⟨name,parties,deals,⟨rc,rL⟩,cust,deliv⟩,i,⟨number,seller,buyer,house,dfrm,dto,dboxes,state,rel⟩,⟨frm,to,lnumber,kind,ack,number,text,party,index,day0,cur,amt,docs,boxes⟩,day⟩:HQ) L0).1:=⟨_,rfl⟩
    have hsh2:G (⟨⟨name,parties,deals,⟨rc,rL⟩,cust,deliv⟩,i,⟨number,seller,buyer,house,dfrm,dto,dboxes,state,rel⟩,⟨frm,to,lnumber,kind,ack,number,text,party,index,day0,cur,amt,docs,boxes⟩,day⟩:HQ) L0=(mv,⟨name,parties,deals,⟨rc2,M⟩,cu,dl⟩,⟨number,seller,buyer,house,dfrm,dto,dboxes,st,rl⟩,ls):=Prod.ext hmv.symm hsh;have hK:=htx L0 hp0 mv ⟨rc2,M⟩ cu dl ⟨number,seller,buyer,house,dfrm,dto,dboxes,st,rl⟩ ls ((hkx _ _ rfl).trans hsh2);obtain⟨L9,hL9⟩:∃L,L=cI number day ls:=⟨_,rfl⟩
    try dsimp only at hK
    rw[←hL9]at hK;rw[hsh2];clear hmv hsh hsh2;cases mv with
    |false=>
     cbv
     (refine fI hst ((ls,⟨number,seller,buyer,house,dfrm,dto,dboxes,st,rl⟩,day):List dQ×Dp×Int) [11,9] hls ?_;try dsimp only)
     rw[←hL9];cbv;refine cZ (Gh.back 2 [9] gI ⟨number,seller,buyer,house,dfrm,dto,dboxes,st,rl⟩ rfl hy) ?_;cbv;refine cZ (Gh.plain 11 rfl) ?_;cbv
     (refine .q9 ?_;cbv;exact .inl (.f9 hK))
    |true=>
     cbv
     (refine fI hst ((ls,⟨number,seller,buyer,house,dfrm,dto,dboxes,st,rl⟩,day):List dQ×Dp×Int) [11,9] hls ?_;try dsimp only)
     rw[←hL9];cbv;refine cZ (Gh.back 2 [9] gI ⟨number,seller,buyer,house,dfrm,dto,dboxes,st,rl⟩ rfl hy) ?_;cbv;refine cZ (Gh.plain 11 rfl) ?_;cbv
     (refine .q9 ?_;cbv;exact .inl (eN.sel [0,1,2,3,4,5,6,7,12,13] _ _ (by rfl) (by rfl) (by decide) (by rfl) cL (by rfl) (by rfl) (Le.refl _) (jW.refl _) hK))
theorem QJ (q:HQ) (L0:List cP) (h:q.l.kind=4):fZ q L0=aaK q L0:=by unfold fZ;rw[aF h]
theorem Ts (q:HQ) (L0:List cP) (h:q.l.kind=8):fZ q L0=(false,mT q):=by unfold fZ;rw[h];rfl
theorem Ut (q:HQ) (L0:List cP) (h:q.l.kind=20):fZ q L0=pR q L0:=by unfold fZ;rw[h];rfl
theorem SW (q:HQ) (L0:List cP) (h:q.l.kind=19):fZ q L0=(false,BG q):=by unfold fZ;rw[h];rfl
theorem PR (q:HQ) (L0:List cP) (h:q.l.kind=23):fZ q L0=(false,qK q):=by unfold fZ;rw[h];rfl
theorem P8 (q:HQ) (L0:List cP) (h:q.l.kind=24):fZ q L0=(false,qX q):=by unfold fZ;rw[h];rfl
structure WP (P:bI):Prop where
 m1:dB P 79
 h1:bK P 79 (uB (fun k=>k=4) aaK)
 m2:dB P 80
 h2:bK P 80 (gJ (fun k=>k=8) mT)
 m3:dB P 81
 h3:bK P 81 (AK (fun k=>k=20) pR)
 m4:dB P 82
 h4:bK P 82 (gJ (fun k=>k=19) BG)
 m5:dB P 83
 h5:bK P 83 (gJ (fun k=>k=23) qK)
 m6:dB P 84
 h6:bK P 84 (gJ (fun k=>k=24) qX)
theorem JU {P:bI}(hle:bK P 48 rD) (hst:bK P 49 qT) (h:WP P):bM P YI (sS fun _=>True):=by
 intro args H0 K hc;obtain⟨q,h1,h2,⟨-,h4⟩,h5⟩:=hc;by_cases k1:q.l.kind=4
 ·exact lU P hle hst h.m1 (PZ h.h1) rfl rfl (Fy) QJ args H0 K ⟨q,h1,h2,⟨k1,h4⟩,h5⟩
 by_cases k2:q.l.kind=8
 ·exact lU P hle hst h.m2 (zS h.h2) rfl rfl (fun q _=>FU q) Ts args H0 K ⟨q,h1,h2,⟨k2,h4⟩,h5⟩
 by_cases k3:q.l.kind=20
 ·exact lU P hle hst h.m3 (h.h3) rfl rfl (Eh) Ut args H0 K ⟨q,h1,h2,⟨k3,h4⟩,h5⟩
 by_cases k4:q.l.kind=19
 ·exact lU P hle hst h.m4 (zS h.h4) rfl rfl (fun q _=>Hp q) SW args H0 K ⟨q,h1,h2,⟨k4,h4⟩,h5⟩
 by_cases k5:q.l.kind=23
 ·exact lU P hle hst h.m5 (zS h.h5) rfl rfl (fun q _=>Ew q) PR args H0 K ⟨q,h1,h2,⟨k5,h4⟩,h5⟩
 by_cases k6:q.l.kind=24
 ·exact lU P hle hst h.m6 (zS h.h6) rfl rfl (fun q _=>El q) P8 args H0 K ⟨q,h1,h2,⟨k6,h4⟩,h5⟩
 exact Hu P hle hst args H0 K ⟨q,h1,h2,⟨fun h=>by rcases h with h|h|h|h|h|h<;>contradiction,h4⟩,h5⟩
def HZ:dA:=spec (fun _:Cr=>[.ptr 0 0]) uQ (fun _=>True) (fun _=>.i 1) uQ
theorem HN (P:bI):bM P x30 HZ:=by
 intro args H K hc;obtain⟨⟨name,parties,deals,⟨rc,rL⟩,cust,deliv⟩,rfl,rfl,hp,hK⟩:=hc;refine⟨cL,?_⟩;dsimp only at hp hK⊢;cbv
 (refine .q9 ?_;cbv;exact .inl (.f9 hK))
def CI:dA:=spec (fun i:Cr×Int=>[.ptr 0 0,.i i.2]) (fun i=>uQ i.1) (fun _=>True) (fun _=>.v (.slice none 0 0)) fun i=>uQ i.1
theorem GK (P:bI):bM P Z4 CI:=by
 intro args H K hc;obtain⟨⟨⟨name,parties,deals,⟨rc,rL⟩,cust,deliv⟩,day⟩,rfl,rfl,hp,hK⟩:=hc;refine⟨cL,?_⟩;dsimp only at hp hK⊢;cbv
 (refine .q9 ?_;cbv;exact .inl (.f9 hK))
def Nz:dA:=spec (fun _:Cr=>[.ptr 0 0]) uQ (fun C=>C.deliv.length≤1000000) (fun C=>.sl 5 (bJ dG C.deliv)) uQ
theorem LD (P:bI) (hc:bK P 52 (jR 5 72)):bM P ZZ Nz:=by
 intro args H K hc;obtain⟨⟨name,parties,deals,⟨rc,rL⟩,cust,deliv⟩,rfl,rfl,hp,hK⟩:=hc;refine⟨cL,?_⟩;dsimp only at hp hK⊢
 try dsimp only at hp
 cbv
 (refine bX hc _ ⟨by rw[bY];show deliv.length≤maxLen;unfold maxLen;omega,by rw[bY];show deliv.length * 72≤140737488355328;omega⟩ ?_;try dsimp only)
 cbv
 (refine .q9 ?_;cbv;exact .inl (.f9 hK))
def Pk:dA:=oA (fun _:Cr=>[.ptr 0 0]) uQ (fun C=>iJ C.cust) (fun C L=>L.Perm C.cust) (fun _ _=>.ptr 8 0) fun C L=>uQ C++[.blk 174 [.ph 9],.pool 172 (bJ eX L) []]
theorem K6 (P:bI) (hcp:bK P 68 A9):bM P Zu Pk:=by
 intro args H K hc;obtain⟨⟨name,parties,deals,⟨rc,rL⟩,cust,deliv⟩,rfl,rfl,hp,hK⟩:=hc;refine⟨cL,?_⟩;dsimp only at hp hK⊢
 try dsimp only at hp
 cbv;refine eB hcp cust [5,6] hp rfl rfl (by decide) rfl rfl rfl rfl rfl ?_;intro L hL;cbv
 (refine .q9 ?_;cbv;exact .inl (.f9 (hK L hL)))
def OL:dA:=oA (fun _:Cr=>[.ptr 0 0]) uQ (fun C=>C.reg.bills.length≤256∧(∀b∈C.reg.bills,inB b)∧fW C.reg.bills) (fun C L=>L.Perm C.reg.bills) (fun _ _=>.ptr 8 0) fun C L=>uQ C++[.blk 122 [.str C.reg.carrier,.ph 9],.pool 120 (bJ aaI L) []]
theorem KC (P:bI) (hcp:bK P 47 MP):bM P Zv OL:=by
 intro args H K hc;obtain⟨⟨name,parties,deals,⟨rc,rL⟩,cust,deliv⟩,rfl,rfl,hp,hK⟩:=hc;refine⟨cL,?_⟩;dsimp only at hp hK⊢
 try dsimp only at hp
 cbv;refine eB hcp (⟨rc,rL⟩:Rg) [3,4] hp rfl rfl (by decide) rfl rfl rfl rfl rfl ?_;intro L hL;cbv
 (refine .q9 ?_;cbv;exact .inl (.f9 (hK L hL)))
def yZ:dA:=spec (fun q:bH×jC=>[.str q.1,Jq q.2]) (fun _=>[]) (fun q=>nP q.2) (fun _=>.ptr 0 0) fun q=>uQ (NT q.2.su q.1)
theorem Ka {l:List bH}{k:Nat}{x:bH}(h:l[k]?=some x):wN (l.take (k+1))=Oi (wN (l.take k)) x:=by
 unfold wN;rw[dC h,List.foldl_append];rfl
theorem Ko {name:bH}{l:List De}{k:Nat}{x:De}(h:l[k]?=some x):vV name (l.take (k+1))=FX name (vV name (l.take k)) x:=by
 unfold vV;rw[dC h,List.foldl_append];rfl
theorem LK {α β:Type}{f:α→β}{L:List α}{i:Nat}{x:α}(h:L[i]?=some x):(bJ f L).set i (f x)=bJ f L:=by
 obtain⟨hl,rfl⟩:=aA.1 h;rw[dV];refine List.ext_getElem (by simp) fun j h1 h2=>?_
 rw[List.getElem_set]
 split
 ·subst_vars;simp
 ·rfl
theorem F3 (P:bI) (hrn:bK P 50 Q0) (hcn:bK P 51 Jm):bM P x21 yZ:=by
 intro args H K hc;obtain⟨⟨name,⟨parties,deals,funds,rest,holidays⟩⟩,rfl,rfl,hp,hK⟩:=hc;refine⟨cL,?_⟩;dsimp only at hp hK⊢;obtain⟨hpa,hde,hpn,hok⟩:=hp;dsimp only at hpa hde hpn hok;obtain⟨np,hnp⟩:∃n:Nat,n=parties.length:=⟨_,rfl⟩
 obtain⟨nd,hnd⟩:∃n:Nat,n=deals.length:=⟨_,rfl⟩
 cbv
 (refine yV hrn name trivial ?_;try dsimp only)
 cbv
 (refine yV hcn () trivial ?_;try dsimp only)
 cbv;repeat'((first|refine .k fun z hz=>?_|fail)<;>cbv)
 obtain⟨nms,hnms⟩:∃l,l=parties.map Gn.name:=⟨_,rfl⟩
 obtain⟨ds,hds⟩:∃l,l=deals.map jD.de:=⟨_,rfl⟩
 have hdsl:ds.length=deals.length:=by rw[hds,aJ]
 replace hK:K (.ptr 0 0) (uQ ⟨name,wN nms,vV name ds,⟨name,[]⟩,[],[]⟩):=by rw[hnms,hds];exact hK
 have hnl:nms.length=parties.length:=by rw[hnms,aJ]
 refine bS [] (fun p:{ k:Nat // k≤parties.length }=>[(26,.i (nI p.1))]) (fun p=>[.blk 29 [.sl 3 (bJ lE parties),.sl 17 (bJ jS deals),.sl 3 (bJ lK funds),.sl 1 (bJ dO rest),.sl 1 (bJ dO holidays)],.map 70 (bJ iF (wN (nms.take p.1))),.pool 116 [] [],.blk 122 [.str name,.ph 4],.pool 120 [] [],.blk 174 [.ph 6],.pool 172 [] [],.blk 118 [.str name,.hd 1,.ph 2,.ptr 3 0,.ptr 5 0,.v (.slice none 0 0)]]) (fun p=>eW np p.1) ⟨0,aI _⟩ ?_;rintro ⟨k,hk⟩;dsimp only at hk⊢;obtain⟨L1,hL1⟩:∃l,l=wN (nms.take k):=⟨_,rfl⟩
 rw[←hL1];rcases aL k parties.length with hks|hks
 ·obtain⟨p,hx⟩:=cK hks;have hx2:nms[k]?=some p.name:=by rw[hnms,aD,hx];rfl
  have hsn:=Ka hx2;rw[←hL1]at hsn;obtain⟨L2,hL2⟩:∃l,l=wN (nms.take (k+1)):=⟨_,rfl⟩
  obtain⟨pname,pq,pr⟩:=p;dsimp only at hsn;cbv;repeat'((first|refine .e ?_|refine .y fun h=>?_|fail)<;>cbv)
  refine oI (fun j hj=>?_) fun hno=>?_
  ·have e:L2=L1:=by rw[hL2,hsn];exact aF (CC hj)
   obtain⟨y,hy,hyp⟩:=eA hj;obtain rfl:y=pname:=hyp;rw[←hL2,e]at hsn;clear hj;cbv;repeat'((first|refine .k fun z hz=>?_|refine .ms fun ms hms=>?_|fail)<;>cbv)
   obtain rfl:z=nI (k+1):=bQ;obtain rfl:ms=bJ iF (wN (nms.take (k+1))):=by rw[←hL2,e];exact hms.trans (LK (f:=iF) hy)
   exact bN ⟨k+1,hks⟩ (bO (by omega))
  ·have e:L2=L1++[pname]:=by rw[hL2,hsn];exact aE (by rw[uY hno];decide)
   clear hsn;cbv;repeat'((first|refine .k fun z hz=>?_|refine .ms fun ms hms=>?_|fail)<;>cbv)
   obtain rfl:z=nI (k+1):=bQ;obtain rfl:ms=bJ iF (wN (nms.take (k+1))):=by rw[←hL2,e,cD,cF];exact hms
   exact bN ⟨k+1,hks⟩ (bO (by omega))
 obtain rfl:k=np:=by omega
 have eT:L1=wN nms:=by rw[hL1,bC (by omega)]
 clear hL1;obtain⟨T,hT⟩:∃t,t=wN nms:=⟨_,rfl⟩
 rw[←hT]at eT;subst eT;cbv;repeat'((first|refine .n fun h=>?_|refine .k fun z hz=>?_|fail)<;>cbv)
 refine bS [] (fun p:{ k:Nat // k≤deals.length }=>[(40,.i (nI p.1))]) (fun p=>[.blk 29 [.sl 3 (bJ lE parties),.sl 17 (bJ jS deals),.sl 3 (bJ lK funds),.sl 1 (bJ dO rest),.sl 1 (bJ dO holidays)],.map 70 (bJ iF L1),.pool 116 (bJ gI (vV name (ds.take p.1))) [],.blk 122 [.str name,.ph 4],.pool 120 [] [],.blk 174 [.ph 6],.pool 172 [] [],.blk 118 [.str name,.hd 1,.ph 2,.ptr 3 0,.ptr 5 0,.v (.slice none 0 0)]]) (fun p=>eW nd p.1) ⟨0,aI _⟩ ?_;rintro ⟨j,hj⟩;dsimp only at hj⊢;obtain⟨D1,hD1⟩:∃l,l=vV name (ds.take j):=⟨_,rfl⟩
 rw[←hD1];rcases aL j deals.length with hjs|hjs
 rotate_left
 ·obtain rfl:D1=vV name ds:=by rw[hD1,bC (by omega)]
  obtain⟨D1,hD1⟩:∃d,d=vV name ds:=⟨_,rfl⟩
  rw[←hT,←hD1]at hK;rw[←hD1];cbv;repeat'((first|refine .n fun h=>?_|fail)<;>cbv)
  refine cZ (Gh.adoptC 7 5 77 5 rfl rfl) ?_;cbv;refine cZ (Gh.publish 8 rfl) ?_;cbv
  (refine .q9 ?_;cbv;exact .inl (eN.sel [7,1,2,3,4,5,6,8] _ _ (by rfl) (by rfl) (by decide) (by rfl) cL (by rfl) (by rfl) (Le.refl _) (jW.refl _) hK))
 obtain⟨d,hx⟩:=cK hjs;have hokd:=hok d (aC hx);have hx2:ds[j]?=some d.de:=by rw[hds,aD,hx];rfl
 have hsn:=Ko (name:=name) hx2;rw[←hD1]at hsn;have hbl:=hokd.bx;obtain⟨mk,hmk⟩:∃m,m=d.marks:=⟨_,rfl⟩
 have hF:FX name D1 d.de=if (gL Dp.number D1 d.number).isSome=true∨d.carrier≠name then D1 else D1++[⟨d.number,d.seller,d.buyer,d.house,d.frm,d.to,mk,0,decide (d.house=eS)⟩]:=by rw[hmk];rfl
 rw[hF]at hsn;clear hF;obtain⟨dn,dsel,dbuy,dcar,diss,dhou,dins,dfrm,dto,dcur,damt,dbx,dterm,dlat,dexp,dten,dduty⟩:=d;dsimp only at hsn hbl;cbv;repeat'((first|refine .e ?_|refine .y fun h=>?_|fail)<;>cbv)
 all_goals
  refine eE Dp.number (fun _=>rfl) (fun i y hai hy hky=>?_) (fun hai=>?_)<;>try dsimp only at *
  ·rw[aF (.inl (by rw[mB hai hy];rfl))]at hsn;obtain⟨number,seller,buyer,house,dfrm2,dto2,dboxes,state,rel⟩:=y;rw[←hsn]at hy⊢;cbv;repeat'((first|refine .k fun z hz=>?_|fail)<;>cbv)
   refine dK (Gh.back0 2 [9] gI rfl hy) ?_;cbv;obtain rfl:z=nI (j+1):=bQ;exact bN ⟨j+1,hjs⟩ (bO (by omega))
  ·have hno:(gL Dp.number D1 dn).isSome=false:=by rw[qM hai];rfl
   have hmk2:mk=dbx.map IP.mark:=by rw[hmk];rfl
   have hmkl:mk.length=dbx.length:=by rw[hmk2,aJ]
   obtain⟨nb,hnb⟩:∃n:Nat,n=dbx.length:=⟨_,rfl⟩
   clear hmk hokd hx hx2;cbv;repeat'((first|refine .mk (fun h=>?_) fun h=>?_|refine .k fun z hz=>?_|fail)<;>cbv)
   ·have hb:decide (dhou=eS)=true:=aH (by assumption);rw[aE (fun h=>h.elim (fun h=>by rw[hno]at h;cases h) fun h=>h (by assumption)),hb]at hsn;clear hb;refine gH (Gh.adoptC 9 6 9 1 rfl rfl) ?_;cbv;refine bS [10] (fun p:{ k:Nat // k≤dbx.length }=>[(81,.i (nI p.1))]) (fun p=>[.blk 29 [.sl 3 (bJ lE parties),.sl 17 (bJ jS deals),.sl 3 (bJ lK funds),.sl 1 (bJ dO rest),.sl 1 (bJ dO holidays)],.map 70 (bJ iF L1),.pool 116 (bJ gI D1) [],.blk 122 [.str name,.ph 4],.pool 120 [] [],.blk 174 [.ph 6],.pool 172 [] [],.blk 118 [.str name,.hd 1,.ph 2,.ptr 3 0,.ptr 5 0,.v (.slice none 0 0)],.blk 67 [.str dn,.str dsel,.str dbuy,.str dcar,.str diss,.str dhou,.str dins,.str dfrm,.str dto,.str dcur,.i damt,.sl 3 (bJ F6 dbx),.i dterm,.i dlat,.i dexp,.i dten,.i dduty],.blk 136 [.str dn,.str dsel,.str dbuy,.str dhou,.str dfrm,.str dto,.hd 10,.i 0,.bl true],.row 9 1 (bJ .str (mk.take p.1))]) (fun p=>eW nb p.1) ⟨0,aI _⟩ ?_;rintro ⟨m,hm⟩;dsimp only at hm⊢;obtain⟨M1,hM1⟩:∃l,l=mk.take m:=⟨_,rfl⟩
    have hM1l:M1.length≤70:=by rw[hM1,aS];omega
    rw[←hM1];rcases aL m dbx.length with hms|hms
    ·obtain⟨bx,hxb⟩:=cK hms;have hs3:mk.take (m+1)=M1++[bx.mark]:=by rw[hM1,dC (l:=bx.mark) (by rw[hmk2,aD,hxb];rfl)]
     clear hM1;obtain⟨bmk,bq,br⟩:=bx;dsimp only at hs3;cbv;repeat'((first|refine .e ?_|refine .y fun h=>?_|refine .k fun z hz=>?_|refine .zl fun zs hzs hzl=>?_|fail)<;>cbv)
     all_goals
      obtain rfl:z=nI (m+1):=bQ;obtain rfl:zs=bJ .str (mk.take (m+1)):=by(rw[hs3,cD,cF];exact hzs)
      exact bN ⟨m+1,hms⟩ (bO (by omega))
    ·obtain rfl:M1=mk:=by rw[hM1,bC (by omega)]
     clear hM1;cbv;repeat'((first|refine .n fun h=>?_|fail)<;>cbv)
     all_goals
      refine lS Dp.number (fun _=>rfl) hai (fun es n2 hes hn2=>?_);cbv;repeat'((first|refine .k fun z hz=>?_|fail)<;>cbv)
      refine dK (Gh.plain 10 rfl) ?_;cbv;refine dK (Gh.backN2 2 [9] gI ⟨dn,dsel,dbuy,dhou,dfrm,dto,M1,0,true⟩ hes hn2 hsn) ?_;cbv;obtain rfl:z=nI (j+1):=bQ;exact bN ⟨j+1,hjs⟩ (bO (by omega))
   ·have hb:decide (dhou=eS)=false:=aG (by assumption);rw[aE (fun h=>h.elim (fun h=>by rw[hno]at h;cases h) fun h=>h (by assumption)),hb]at hsn;clear hb;refine gH (Gh.adoptC 9 6 9 1 rfl rfl) ?_;cbv;refine bS [10] (fun p:{ k:Nat // k≤dbx.length }=>[(81,.i (nI p.1))]) (fun p=>[.blk 29 [.sl 3 (bJ lE parties),.sl 17 (bJ jS deals),.sl 3 (bJ lK funds),.sl 1 (bJ dO rest),.sl 1 (bJ dO holidays)],.map 70 (bJ iF L1),.pool 116 (bJ gI D1) [],.blk 122 [.str name,.ph 4],.pool 120 [] [],.blk 174 [.ph 6],.pool 172 [] [],.blk 118 [.str name,.hd 1,.ph 2,.ptr 3 0,.ptr 5 0,.v (.slice none 0 0)],.blk 67 [.str dn,.str dsel,.str dbuy,.str dcar,.str diss,.str dhou,.str dins,.str dfrm,.str dto,.str dcur,.i damt,.sl 3 (bJ F6 dbx),.i dterm,.i dlat,.i dexp,.i dten,.i dduty],.blk 136 [.str dn,.str dsel,.str dbuy,.str dhou,.str dfrm,.str dto,.hd 10,.i 0,.bl false],.row 9 1 (bJ .str (mk.take p.1))]) (fun p=>eW nb p.1) ⟨0,aI _⟩ ?_;rintro ⟨m,hm⟩;dsimp only at hm⊢;obtain⟨M1,hM1⟩:∃l,l=mk.take m:=⟨_,rfl⟩
    have hM1l:M1.length≤70:=by rw[hM1,aS];omega
    rw[←hM1];rcases aL m dbx.length with hms|hms
    ·obtain⟨bx,hxb⟩:=cK hms;have hs3:mk.take (m+1)=M1++[bx.mark]:=by rw[hM1,dC (l:=bx.mark) (by rw[hmk2,aD,hxb];rfl)]
     clear hM1;obtain⟨bmk,bq,br⟩:=bx;dsimp only at hs3;cbv;repeat'((first|refine .e ?_|refine .y fun h=>?_|refine .k fun z hz=>?_|refine .zl fun zs hzs hzl=>?_|fail)<;>cbv)
     all_goals
      obtain rfl:z=nI (m+1):=bQ;obtain rfl:zs=bJ .str (mk.take (m+1)):=by(rw[hs3,cD,cF];exact hzs)
      exact bN ⟨m+1,hms⟩ (bO (by omega))
    ·obtain rfl:M1=mk:=by rw[hM1,bC (by omega)]
     clear hM1;cbv;repeat'((first|refine .n fun h=>?_|fail)<;>cbv)
     all_goals
      refine lS Dp.number (fun _=>rfl) hai (fun es n2 hes hn2=>?_);cbv;repeat'((first|refine .k fun z hz=>?_|fail)<;>cbv)
      refine dK (Gh.plain 10 rfl) ?_;cbv;refine dK (Gh.backN2 2 [9] gI ⟨dn,dsel,dbuy,dhou,dfrm,dto,M1,0,false⟩ hes hn2 hsn) ?_;cbv;obtain rfl:z=nI (j+1):=bQ;exact bN ⟨j+1,hjs⟩ (bO (by omega))
   ·rw[aF (.inr (by assumption))]at hsn;obtain rfl:z=nI (j+1):=bQ;rw[←hsn];exact bN ⟨j+1,hjs⟩ (bO (by omega))
def sZ:dA:=spec (fun q:dQ×Int=>[eL q.1,.i q.2]) (fun _=>[]) (fun q=>mG q.1.kind) (fun q=>.sl 14 (bJ eL (cI q.1.deal q.2 (eR fL q.1)))) fun _=>[]
theorem rP {xs:List AV}{x:Int}{K:Nat→AV→Prop}(m:Nat) {u:AV}(hx:x=m) (hu:xs[m]?=some u) (k:K m u):bW xs x K:=⟨m,u,hx,hu,k⟩
theorem H6 (P:bI) (hn:bK P 33 DY):bM P XT sZ:=by
 intro args H K hc;obtain⟨⟨⟨frm,to,number,kind,ack,deal,text,party,index,day0,cur,amt,docs,boxes⟩,day⟩,rfl,rfl,hp,hK⟩:=hc;refine⟨cL,?_⟩;dsimp only at hp hK⊢
 try dsimp only at hp
 replace hK:K (.sl 14 (bJ eL [⟨eS,frm,0,22,0,deal,fL kind,party,index,day,eS,0,[],[]⟩])) []:=hK;rcases hp with rfl|rfl|rfl|rfl
 all_goals
  cbv
  (refine bX hn () trivial ?_;try dsimp only)
  cbv
  first
  |(refine rP 8 rfl rfl ?_
    cbv;refine cZ (Gh.leAt 1 (.row 58 14 (bJ eL [⟨eS,frm,0,22,0,deal,fL 8,party,index,day,eS,0,[],[]⟩])) rfl (sX Bh)) ?_;cbv
    (refine .r9 (Gh.plain 1 rfl) ?_;cbv;exact .inl (.g9 hK)))
  |(refine rP 20 rfl rfl ?_
    cbv;refine cZ (Gh.leAt 1 (.row 58 14 (bJ eL [⟨eS,frm,0,22,0,deal,fL 20,party,index,day,eS,0,[],[]⟩])) rfl (sX Bh)) ?_;cbv
    (refine .r9 (Gh.plain 1 rfl) ?_;cbv;exact .inl (.g9 hK)))
  |(refine rP 23 rfl rfl ?_
    cbv;refine cZ (Gh.leAt 1 (.row 58 14 (bJ eL [⟨eS,frm,0,22,0,deal,fL 23,party,index,day,eS,0,[],[]⟩])) rfl (sX Bh)) ?_;cbv
    (refine .r9 (Gh.plain 1 rfl) ?_;cbv;exact .inl (.g9 hK)))
  |(refine rP 24 rfl rfl ?_
    cbv;refine cZ (Gh.leAt 1 (.row 58 14 (bJ eL [⟨eS,frm,0,22,0,deal,fL 24,party,index,day,eS,0,[],[]⟩])) rfl (sX Bh)) ?_;cbv
    (refine .r9 (Gh.plain 1 rfl) ?_;cbv;exact .inl (.g9 hK)))
structure QI where
 s:jC
 name:bH
 x:Cs
 l:dQ
 day:Int
structure UZ (s:jC) (x:Cs):Prop where
 S:x.S.length=s.deals.length
 F:x.free.length=s.deals.length
 H:x.H.length≤40000
 D:x.D.length≤40000
 few:x.reg.bills.length≤256
 all:∀b∈x.reg.bills,inB b
structure Sl (q:QI):Prop where
 s:nP q.s
 x:UZ q.s q.x
 sz:q.name.size≤60∧q.l.frm.size≤300∧q.l.deal.size≤300∧q.l.party.size≤300
def Zs:Cs×List dQ→AV
 |(x,l)=>.tup [Fc x,.sl 14 (bJ eL l)]
def Om (κ:Int→Prop):dA:=spec (fun q:QI=>[Jq q.s,.str q.name,Fc q.x,eL q.l,.i q.day]) (fun _=>[]) (fun q=>κ q.l.kind∧Sl q) (fun q=>Zs (fA fL q.s.su q.name q.x q.l q.day)) fun _=>[]
theorem iY {nm:Int→bH}{s:Su}{name:bH}{x:Cs}{l:dQ}{day:Int}(h:dP s name l.deal=none):fA nm s name x l day=(x,[]):=by unfold fA;rw[h]
theorem kI {nm:Int→bH}{s:Su}{name:bH}{x:Cs}{l:dQ}{day:Int}(h:kY s.parties l.frm=false):fA nm s name x l day=(x,[]):=by
 unfold fA;cases dP s name l.deal with
 |none=>rfl
 |some i=>dsimp only;rw[aF h]
def mX (nm:Int→bH) (s:Su) (name:bH) (x:Cs) (l:dQ) (day:Int) (i:Nat) (d:De) (st:Int) (fr:Bool):Cs×List dQ:=
   if l.kind=4 then (if l.frm=d.seller∧st=0 then (match kX name d day x.H d.boxes with
    |none=>x
    |some H=>oQ { x with H:=H } i 1) else x,[])
   else if l.kind=19 then (if d.house≠eS∧l.frm=d.house then { x with free:=x.free.set i true } else x,[])
   else if l.kind=8∨l.kind=20∨l.kind=23∨l.kind=24 then
    let k:Int:=if l.kind=8 then 1 else if l.kind=20 then 2 else if l.kind=23 then 3 else 4
    let a:=eY k d l day
    if (kF x.reg a).2≠0∨(k=1∧(kY s.parties l.party=false∨l.party=l.frm)) then (x,cI l.deal day (eR nm l))
    else if k=2 then match iE (cU name l.frm d.to day) x.H d.boxes with
     |none=>(x,cI l.deal day (eR nm l))
     |some H=>if st≠3∨fr=false then (x,cI l.deal day (eR nm l)) else
      (oQ { x with D:=x.D++H.drop x.H.length,H:=H,reg:=(kF x.reg a).1 } i 4,cI l.deal day [{ oN with to:=l.frm,kind:=21,boxes:=d.boxes }])
    else ({ x with reg:=(kF x.reg a).1 },cI l.deal day (if k=1 then [{ oN with to:=l.party,kind:=9,index:=l.index,party:=l.party }] else if k=4 then [{ oN with to:=l.frm,kind:=25,index:=l.index }] else []))
   else (x,[])
theorem mA {nm:Int→bH}{s:Su}{name:bH}{x:Cs}{l:dQ}{day:Int}{i:Nat}{d:De}{st:Int}{fr:Bool}(h:dP s name l.deal=some i) (hp:kY s.parties l.frm=true) (h1:s.deals[i]?=some d) (h2:x.S[i]?=some st) (h3:x.free[i]?=some fr) :
  fA nm s name x l day=mX nm s name x l day i d st fr:=by
 unfold fA mX;rw[h];dsimp only;rw[aE (by rw[hp];decide),h1,h2,h3];rfl
theorem oZ {l:List jD}{P:List bH}{name n:bH}{i:Nat}(h:dP ⟨P,l.map jD.de⟩ name n=some i):∃d,l[i]?=some d∧d.carrier=name∧d.number=n:=by
 obtain⟨e,he,h1,h2⟩:=nW h;have he:(l.map jD.de)[i]?=some e:=he;rw[aD]at he;cases hl:l[i]? with
 |none=>rw[hl]at he;cases he
 |some d=>rw[hl]at he;cases he;exact⟨d,rfl,h1,h2⟩
theorem vZ (P:bI) (hde:bK P 13 nV) (hpa:bK P 17 nD) (hsh:bK P 99 zL):bM P Sj (Om (fun z=>z=4)):=by
 intro args H0 K hc;obtain⟨⟨s,name,x,l,day⟩,rfl,rfl,⟨hkind,hs,hx,hnz,hfz,hdz,hpz⟩,hK⟩:=hc;refine⟨cL,?_⟩;dsimp only at hkind hs hx hnz hfz hdz hpz hK⊢;obtain⟨r,hr⟩:∃r,r=fA fL s.su name x l day:=⟨_,rfl⟩
 rw[←hr]at hK;have hdl:=hs.de;have hpl:=hs.pa;obtain⟨o,ho⟩:∃o,o=dP s.su name l.deal:=⟨_,rfl⟩
 obtain⟨b,hb⟩:∃b,b=kY s.su.parties l.frm:=⟨_,rfl⟩
 have hat:∀i,o=some i→∃d st fr,s.deals[i]?=some d∧x.S[i]?=some st∧x.free[i]?=some fr∧Gq d∧d.number=l.deal:=fun i hi=>by
  rw[ho]at hi;obtain⟨d,h1,h2,h3⟩:=oZ hi;have hil:=(aA.1 h1).1;exact⟨d,_,_,h1,aB (by rw[hx.S];exact hil),aB (by rw[hx.F];exact hil),hs.ok d (aC h1),h3⟩
 have hrn:o=none→r=(x,[]):=fun h=>by rw[hr];exact iY (ho.symm.trans h)
 have hro:b=false→r=(x,[]):=fun h=>by rw[hr];exact kI (hb.symm.trans h)
 have hra:∀i d st fr,o=some i→b=true→s.deals[i]?=some d→x.S[i]?=some st→x.free[i]?=some fr→r=mX fL s.su name x l day i d.de st fr:=fun i d st fr h1 h2 h3 h4 h5=>by
  rw[hr];exact mA (ho.symm.trans h1) (hb.symm.trans h2) (by show (s.deals.map jD.de)[i]?=_;rw[aD,h3];rfl) h4 h5
 clear hr;obtain⟨parties,deals,funds,rest,holidays⟩:=s;obtain⟨S,free,⟨c,L⟩,H,D⟩:=x;obtain⟨frm,to,number,kind,ack,deal,text,party,index,day0,cur,amt,docs,boxes⟩:=l;dsimp only at hkind hfz hdz hpz hdl hpl ho hb hat hra;subst hkind;cbv
 (refine bX hde ((⟨parties,deals,funds,rest,holidays⟩,name,deal):jC×bH×bH) hdl ?_;try dsimp only)
 rw[←ho];cases o with
 |none=>
  have hr:=hrn rfl;subst hr;cbv;repeat'((first|refine .y fun h=>?_|fail)<;>cbv)
  (refine .q9 ?_;cbv;exact .inl (.g9 hK))
 |some i=>
  obtain⟨d,st,fr,hd,hst,hfr,hokd,hnum⟩:=hat i rfl;cbv;repeat'((first|refine .n fun h=>?_|fail)<;>cbv)
  (refine bX hpa ((⟨parties,deals,funds,rest,holidays⟩,frm):jC×bH) hpl ?_;try dsimp only)
  rw[←hb];cases b with
  |false=>
   have hr:=hro rfl;subst hr;cbv
   (refine .q9 ?_;cbv;exact .inl (.g9 hK))
  |true=>
   have hr:=hra i d st fr rfl rfl hd hst hfr;clear hra hro hrn hat
   unfold mX at hr;dsimp only at hr;rw[aF rfl]at hr;have hml:=gD hokd;have hbl:=hokd.bx;have hsz:=hokd.sz;have hshe:∀nm,(Aw ⟨⟨S,free,⟨c,L⟩,H,D⟩,d,i,nm,day⟩)=(match kX nm d.de day H d.de.boxes with
    |none=>(⟨S,free,⟨c,L⟩,H,D⟩:Cs)
    |some H2=>oQ ⟨S,free,⟨c,L⟩,H2,D⟩ i 1):=fun nm=>rfl
   have hshp:Sn ⟨⟨S,free,⟨c,L⟩,H,D⟩,d,i,name,day⟩:=⟨by have:=hx.H;dsimp only at this⊢;omega,hokd,⟨by dsimp only;have:=hx.S;dsimp only at this;omega,(aA.1 hst).1⟩,by dsimp only;omega⟩
   rw[←hshe]at hr;have hrs:∀q:Prop,[Decidable q]→q→(if q then (Aw ⟨⟨S,free,⟨c,L⟩,H,D⟩,d,i,name,day⟩:Cs) else ⟨S,free,⟨c,L⟩,H,D⟩)=Aw ⟨⟨S,free,⟨c,L⟩,H,D⟩,d,i,name,day⟩:=fun q _ h=>aF h
   obtain⟨x9,hx9⟩:∃x9,x9=Aw ⟨⟨S,free,⟨c,L⟩,H,D⟩,d,i,name,day⟩:=⟨_,rfl⟩
   rw[←hx9]at hr;clear hshe hrs;obtain⟨dn,dsel,dbuy,dcar,diss,dhou,dins,dfrm,dto,dcur,damt,dbx,dterm,dlat,dexp,dten,dduty⟩:=d;dsimp only at hnum hbl hsz;subst hnum;have z3:(ByteArray.mk (Array.mk [98,108,45])).size=3:=rfl;cbv;repeat'((first|refine .e ?_|refine .y fun h=>?_|refine .mk (fun h=>?_) fun h=>?_|refine .u fun u hu hul=>?_|fail)<;>cbv)
   ·rw[aF ⟨by assumption,by assumption⟩]at hr
    (refine bX hsh (⟨⟨S,free,⟨c,L⟩,H,D⟩,(⟨dn,dsel,dbuy,dcar,diss,dhou,dins,dfrm,dto,dcur,damt,dbx,dterm,dlat,dexp,dten,dduty⟩:jD),i,name,day⟩:QH) hshp ?_;try dsimp only)
    rw[←hx9];obtain⟨S9,free9,⟨c9,L9⟩,H9,D9⟩:=x9;subst hr;cbv
    (refine .q9 ?_;cbv;exact .inl (.g9 hK))
   all_goals
    rw[aE (fun h=>by first|exact absurd h.1 (by assumption)|exact absurd h.2 (by assumption))]at hr;subst hr
    (refine .q9 ?_;cbv;exact .inl (.g9 hK))
theorem yR (P:bI) (hde:bK P 13 nV) (hpa:bK P 17 nD):bM P Sj (Om (fun z=>z=19)):=by
 intro args H0 K hc;obtain⟨⟨s,name,x,l,day⟩,rfl,rfl,⟨hkind,hs,hx,hnz,hfz,hdz,hpz⟩,hK⟩:=hc;refine⟨cL,?_⟩;dsimp only at hkind hs hx hnz hfz hdz hpz hK⊢;obtain⟨r,hr⟩:∃r,r=fA fL s.su name x l day:=⟨_,rfl⟩
 rw[←hr]at hK;have hdl:=hs.de;have hpl:=hs.pa;obtain⟨o,ho⟩:∃o,o=dP s.su name l.deal:=⟨_,rfl⟩
 obtain⟨b,hb⟩:∃b,b=kY s.su.parties l.frm:=⟨_,rfl⟩
 have hat:∀i,o=some i→∃d st fr,s.deals[i]?=some d∧x.S[i]?=some st∧x.free[i]?=some fr∧Gq d∧d.number=l.deal:=fun i hi=>by
  rw[ho]at hi;obtain⟨d,h1,h2,h3⟩:=oZ hi;have hil:=(aA.1 h1).1;exact⟨d,_,_,h1,aB (by rw[hx.S];exact hil),aB (by rw[hx.F];exact hil),hs.ok d (aC h1),h3⟩
 have hrn:o=none→r=(x,[]):=fun h=>by rw[hr];exact iY (ho.symm.trans h)
 have hro:b=false→r=(x,[]):=fun h=>by rw[hr];exact kI (hb.symm.trans h)
 have hra:∀i d st fr,o=some i→b=true→s.deals[i]?=some d→x.S[i]?=some st→x.free[i]?=some fr→r=mX fL s.su name x l day i d.de st fr:=fun i d st fr h1 h2 h3 h4 h5=>by
  rw[hr];exact mA (ho.symm.trans h1) (hb.symm.trans h2) (by show (s.deals.map jD.de)[i]?=_;rw[aD,h3];rfl) h4 h5
 clear hr;obtain⟨parties,deals,funds,rest,holidays⟩:=s;obtain⟨S,free,⟨c,L⟩,H,D⟩:=x;obtain⟨frm,to,number,kind,ack,deal,text,party,index,day0,cur,amt,docs,boxes⟩:=l;dsimp only at hkind hfz hdz hpz hdl hpl ho hb hat hra;subst hkind;cbv
 (refine bX hde ((⟨parties,deals,funds,rest,holidays⟩,name,deal):jC×bH×bH) hdl ?_;try dsimp only)
 rw[←ho];cases o with
 |none=>
  have hr:=hrn rfl;subst hr;cbv;repeat'((first|refine .y fun h=>?_|fail)<;>cbv)
  (refine .q9 ?_;cbv;exact .inl (.g9 hK))
 |some i=>
  obtain⟨d,st,fr,hd,hst,hfr,hokd,hnum⟩:=hat i rfl;cbv;repeat'((first|refine .n fun h=>?_|fail)<;>cbv)
  (refine bX hpa ((⟨parties,deals,funds,rest,holidays⟩,frm):jC×bH) hpl ?_;try dsimp only)
  rw[←hb];cases b with
  |false=>
   have hr:=hro rfl;subst hr;cbv
   (refine .q9 ?_;cbv;exact .inl (.g9 hK))
  |true=>
   have hr:=hra i d st fr rfl rfl hd hst hfr;clear hra hro hrn hat
   unfold mX at hr;dsimp only at hr;rw[aE (by decide),aF rfl]at hr;have hml:=gD hokd;have hbl:=hokd.bx;have hsz:=hokd.sz;have hfl:free.length≤8:=by have:=hx.F;dsimp only at this;omega
   obtain⟨F2,hF2⟩:∃F,F=free.set i true:=⟨_,rfl⟩
   rw[←hF2]at hr;obtain⟨dn,dsel,dbuy,dcar,diss,dhou,dins,dfrm,dto,dcur,damt,dbx,dterm,dlat,dexp,dten,dduty⟩:=d;dsimp only at hnum hbl hsz;subst hnum;have z3:(ByteArray.mk (Array.mk [98,108,45])).size=3:=rfl;cbv;repeat'((first|refine .e ?_|refine .n fun h=>?_|refine .y fun h=>?_|refine .mk (fun h=>?_) fun h=>?_|refine .o ?_|refine .u fun u hu hul=>?_|refine .z fun zs hzs=>?_|fail)<;>cbv)
   all_goals first
   |(rw[aE (fun h=>by first|exact absurd h.2 (by assumption)|exact h.1 (by assumption))]at hr
     subst hr
     (refine .q9 ?_;cbv;exact .inl (.g9 hK)))
   |(rw[aF ⟨fun h=>absurd h (by assumption),by assumption⟩]at hr
     subst hr;obtain rfl:zs=bJ pZ F2:=by rw[hF2,dV pZ (free.set i true),List.map_set,←dV];assumption
     refine cZ (Gh.plain 6 rfl) ?_;cbv
     (refine .q9 ?_;cbv;exact .inl (.g9 hK)))
def GH (nm:Int→bH) (s:Su) (name:bH) (x:Cs) (l:dQ) (day:Int) (i:Nat) (d:De) (st:Int) (fr:Bool) (k:Int):Cs×List dQ:=
 if (kF x.reg (eY k d l day)).2≠0∨(k=1∧(kY s.parties l.party=false∨l.party=l.frm)) then (x,cI l.deal day (eR nm l))
 else if k=2 then match iE (cU name l.frm d.to day) x.H d.boxes with
  |none=>(x,cI l.deal day (eR nm l))
  |some H=>if st≠3∨fr=false then (x,cI l.deal day (eR nm l)) else
   (oQ { x with D:=x.D++H.drop x.H.length,H:=H,reg:=(kF x.reg (eY k d l day)).1 } i 4,cI l.deal day [{ oN with to:=l.frm,kind:=21,boxes:=d.boxes }])
 else ({ x with reg:=(kF x.reg (eY k d l day)).1 },cI l.deal day (if k=1 then [{ oN with to:=l.party,kind:=9,index:=l.index,party:=l.party }] else if k=4 then [{ oN with to:=l.frm,kind:=25,index:=l.index }] else []))
section
variable {nm:Int→bH}{s:Su}{name:bH}{x:Cs}{l:dQ}{day:Int}{i:Nat}{d:De}{st:Int}{fr:Bool}{k:Int}{R9:Rg}{e9:Int}
theorem rS (h:l.kind=8∧k=1∨l.kind=20∧k=2∨l.kind=23∧k=3∨l.kind=24∧k=4):mX nm s name x l day i d st fr=GH nm s name x l day i d st fr k:=by
 have hk:(if l.kind=8 then (1:Int) else if l.kind=20 then 2 else if l.kind=23 then 3 else 4)=k:=by
  rcases h with ⟨h,rfl⟩|⟨h,rfl⟩|⟨h,rfl⟩|⟨h,rfl⟩<;>rw[h]<;>rfl
 unfold mX;rw[aE (by omega),aE (by omega),aF (by omega),←hk];rfl
theorem rC (hq:kF x.reg (eY k d l day)=(R9,e9)) (h:e9≠0∨(k=1∧(kY s.parties l.party=false∨l.party=l.frm))):GH nm s name x l day i d st fr k=(x,cI l.deal day (eR nm l)):=by
 unfold GH;rw[hq];exact aF h
theorem Dm (hq:kF x.reg (eY k d l day)=(R9,e9)) (h0:e9=0) (h1:¬(k=1∧(kY s.parties l.party=false∨l.party=l.frm))) (h2:¬k=2):GH nm s name x l day i d st fr k =
  ({ x with reg:=R9 },cI l.deal day (if k=1 then [{ oN with to:=l.party,kind:=9,index:=l.index,party:=l.party }] else if k=4 then [{ oN with to:=l.frm,kind:=25,index:=l.index }] else [])):=by
 unfold GH;rw[hq,aE (fun h=>by rcases h with h|h;exact h h0;exact h1 h),aE h2]
theorem FL (hq:kF x.reg (eY 2 d l day)=(R9,e9)) (h0:e9=0):GH nm s name x l day i d st fr 2=match iE (cU name l.frm d.to day) x.H d.boxes with
  |none=>(x,cI l.deal day (eR nm l))
  |some H=>if st≠3∨fr=false then (x,cI l.deal day (eR nm l)) else
   (oQ { x with D:=x.D++H.drop x.H.length,H:=H,reg:=R9 } i 4,cI l.deal day [{ oN with to:=l.frm,kind:=21,boxes:=d.boxes }]):=by
 unfold GH;rw[hq,aE (fun h=>by rcases h with h|h;exact h h0;exact absurd h.1 (by decide)),aF rfl]
end
theorem yJ (P:bI) (hde:bK P 13 nV) (hpa:bK P 17 nD) (hdo:bK P 100 Hc) (hob:bK P 101 sZ):bM P Sj (Om (fun z=>z=8)):=by
 intro args H0 K hc;obtain⟨⟨s,name,x,l,day⟩,rfl,rfl,⟨hkind,hs,hx,hnz,hfz,hdz,hpz⟩,hK⟩:=hc;refine⟨cL,?_⟩;dsimp only at hkind hs hx hnz hfz hdz hpz hK⊢;obtain⟨r,hr⟩:∃r,r=fA fL s.su name x l day:=⟨_,rfl⟩
 rw[←hr]at hK;have hdl:=hs.de;have hpl:=hs.pa;obtain⟨o,ho⟩:∃o,o=dP s.su name l.deal:=⟨_,rfl⟩
 obtain⟨b,hb⟩:∃b,b=kY s.su.parties l.frm:=⟨_,rfl⟩
 have hat:∀i,o=some i→∃d st fr,s.deals[i]?=some d∧x.S[i]?=some st∧x.free[i]?=some fr∧Gq d∧d.number=l.deal:=fun i hi=>by
  rw[ho]at hi;obtain⟨d,h1,h2,h3⟩:=oZ hi;have hil:=(aA.1 h1).1;exact⟨d,_,_,h1,aB (by rw[hx.S];exact hil),aB (by rw[hx.F];exact hil),hs.ok d (aC h1),h3⟩
 have hrn:o=none→r=(x,[]):=fun h=>by rw[hr];exact iY (ho.symm.trans h)
 have hro:b=false→r=(x,[]):=fun h=>by rw[hr];exact kI (hb.symm.trans h)
 have hra:∀i d st fr,o=some i→b=true→s.deals[i]?=some d→x.S[i]?=some st→x.free[i]?=some fr→r=mX fL s.su name x l day i d.de st fr:=fun i d st fr h1 h2 h3 h4 h5=>by
  rw[hr];exact mA (ho.symm.trans h1) (hb.symm.trans h2) (by show (s.deals.map jD.de)[i]?=_;rw[aD,h3];rfl) h4 h5
 clear hr;obtain⟨parties,deals,funds,rest,holidays⟩:=s;obtain⟨S,free,⟨c,L⟩,H,D⟩:=x;obtain⟨frm,to,number,kind,ack,deal,text,party,index,day0,cur,amt,docs,boxes⟩:=l;dsimp only at hkind hfz hdz hpz hdl hpl ho hb hat hra;subst hkind;cbv
 (refine bX hde ((⟨parties,deals,funds,rest,holidays⟩,name,deal):jC×bH×bH) hdl ?_;try dsimp only)
 rw[←ho];cases o with
 |none=>
  have hr:=hrn rfl;subst hr;cbv;repeat'((first|refine .y fun h=>?_|fail)<;>cbv)
  (refine .q9 ?_;cbv;exact .inl (.g9 hK))
 |some i=>
  obtain⟨d,st,fr,hd,hst,hfr,hokd,hnum⟩:=hat i rfl;cbv;repeat'((first|refine .n fun h=>?_|fail)<;>cbv)
  (refine bX hpa ((⟨parties,deals,funds,rest,holidays⟩,frm):jC×bH) hpl ?_;try dsimp only)
  rw[←hb];cases b with
  |false=>
   have hr:=hro rfl;subst hr;cbv
   (refine .q9 ?_;cbv;exact .inl (.g9 hK))
  |true=>
   have hr:=hra i d st fr rfl rfl hd hst hfr;clear hra hro hrn hat
   have hml:=gD hokd;have hbl:=hokd.bx;have hsz:=hokd.sz;have hxf:=hx.few;have hxa:=hx.all;obtain⟨bn,hbn⟩:∃b,b=gE d.number:=⟨_,rfl⟩
   have hRP:KT (⟨c,L⟩,⟨1,index,day,bn,frm,party,cJ.noBl⟩):=⟨(show (0:Int)≤1∧(1:Int)≤5 by decide),hxf,hxa,mZ,⟨aI _,aI _,aI _,aI _,fun s hs=>(by cases hs)⟩,by(show party.size≤maxLen);unfold maxLen;omega⟩
   obtain⟨⟨⟨c9,L9⟩,e9⟩,hq9⟩:∃q,q=kF ⟨c,L⟩ ⟨1,index,day,bn,frm,party,cJ.noBl⟩:=⟨_,rfl⟩
   have hqq:kF (⟨S,free,⟨c,L⟩,H,D⟩:Cs).reg (eY 1 d.de ⟨frm,to,number,8,ack,deal,text,party,index,day0,cur,amt,docs,boxes⟩ day)=(⟨c9,L9⟩,e9):=by rw[hq9,hbn];rfl
   rw[rS (k:=1) (.inl ⟨rfl,rfl⟩)]at hr;obtain⟨b2,hb2⟩:∃b,b=kY (jC.su ⟨parties,deals,funds,rest,holidays⟩).parties party:=⟨_,rfl⟩
   have hr1:(e9≠0∨((1:Int)=1∧(b2=false∨party=frm)))→r=(⟨S,free,⟨c,L⟩,H,D⟩,cI deal day (eR fL ⟨frm,to,number,8,ack,deal,text,party,index,day0,cur,amt,docs,boxes⟩)):=fun h=>by
    rw[hb2]at h;rw[hr];exact rC hqq h
   have hr2:e9=0→b2=true→¬party=frm→r=(⟨S,free,⟨c9,L9⟩,H,D⟩,[⟨eS,party,0,9,0,deal,eS,party,index,day,eS,0,[],[]⟩]):=fun h1 h2 h3=>by
    rw[hr];exact Dm hqq h1 (fun h=>by rcases h.2 with h|h;(rw[←hb2,h2]at h;cases h);exact h3 h) (by decide)
   clear hr;obtain⟨dn,dsel,dbuy,dcar,diss,dhou,dins,dfrm,dto,dcur,damt,dbx,dterm,dlat,dexp,dten,dduty⟩:=d;dsimp only at hnum hbl hsz;subst hnum;have z3:(ByteArray.mk (Array.mk [98,108,45])).size=3:=rfl;cbv;repeat'((first|refine .e ?_|refine .n fun h=>?_|refine .y fun h=>?_|refine .u fun u hu hul=>?_|fail)<;>cbv)
   obtain rfl:u=bn:=by rw[hbn];assumption
   refine aaJ [I7 ⟨c,L⟩,PK ⟨1,index,day,u,frm,party,cJ.noBl⟩] Bh ?_
   (refine bX hdo ((⟨c,L⟩,⟨1,index,day,u,frm,party,cJ.noBl⟩):Rg×At) hRP ?_;try dsimp only)
   rw[←hq9];cbv;repeat'((first|refine .y fun h=>?_|refine .mk (fun h=>?_) fun h=>?_|fail)<;>cbv)
   all_goals first
   |((refine bX hob ((⟨frm,to,number,8,ack,dn,text,party,index,day0,cur,amt,docs,boxes⟩,day):dQ×Int) (.inl rfl) ?_;try dsimp only)
     have hr:=hr1 (.inl (by assumption));subst hr;cbv
     (refine .q9 ?_;cbv;exact .inl (.g9 hK)))
   |((refine bX hpa ((⟨parties,deals,funds,rest,holidays⟩,party):jC×bH) hpl ?_;try dsimp only)
     rw[←hb2];cases b2 with
     |false=>
      have hr:=hr1 (.inr ⟨rfl,.inl rfl⟩);subst hr;cbv
      (refine bX hob ((⟨frm,to,number,8,ack,dn,text,party,index,day0,cur,amt,docs,boxes⟩,day):dQ×Int) (.inl rfl) ?_;try dsimp only)
      cbv
      (refine .q9 ?_;cbv;exact .inl (.g9 hK))
     |true=>
      cbv;repeat'((first|refine .n fun h=>?_|refine .y fun h=>?_|refine .mk (fun h=>?_) fun h=>?_|refine And.intro ?_ ?_|fail)<;>cbv)
      all_goals first
      |((refine bX hob ((⟨frm,to,number,8,ack,dn,text,party,index,day0,cur,amt,docs,boxes⟩,day):dQ×Int) (.inl rfl) ?_;try dsimp only)
        have hr:=hr1 (.inr ⟨rfl,.inr (by assumption)⟩);subst hr;cbv
        (refine .q9 ?_;cbv;exact .inl (.g9 hK)))
      |(have hr:=hr2 (by assumption) rfl (by assumption)
        subst hr;refine cZ (Gh.leAt 7 (.row 58 14 (bJ eL [⟨eS,party,0,9,0,dn,eS,party,index,day,eS,0,[],[]⟩])) rfl (sX Bh)) ?_;cbv;refine cZ (Gh.plain 7 rfl) ?_;cbv
        (refine .q9 ?_;cbv;exact .inl (.g9 hK)))
      |fail)
theorem xE (P:bI) (hde:bK P 13 nV) (hpa:bK P 17 nD) (hdo:bK P 100 Hc) (hob:bK P 101 sZ):bM P Sj (Om (fun z=>z=23)):=by
 intro args H0 K hc;obtain⟨⟨s,name,x,l,day⟩,rfl,rfl,⟨hkind,hs,hx,hnz,hfz,hdz,hpz⟩,hK⟩:=hc;refine⟨cL,?_⟩;dsimp only at hkind hs hx hnz hfz hdz hpz hK⊢;obtain⟨r,hr⟩:∃r,r=fA fL s.su name x l day:=⟨_,rfl⟩
 rw[←hr]at hK;have hdl:=hs.de;have hpl:=hs.pa;obtain⟨o,ho⟩:∃o,o=dP s.su name l.deal:=⟨_,rfl⟩
 obtain⟨b,hb⟩:∃b,b=kY s.su.parties l.frm:=⟨_,rfl⟩
 have hat:∀i,o=some i→∃d st fr,s.deals[i]?=some d∧x.S[i]?=some st∧x.free[i]?=some fr∧Gq d∧d.number=l.deal:=fun i hi=>by
  rw[ho]at hi;obtain⟨d,h1,h2,h3⟩:=oZ hi;have hil:=(aA.1 h1).1;exact⟨d,_,_,h1,aB (by rw[hx.S];exact hil),aB (by rw[hx.F];exact hil),hs.ok d (aC h1),h3⟩
 have hrn:o=none→r=(x,[]):=fun h=>by rw[hr];exact iY (ho.symm.trans h)
 have hro:b=false→r=(x,[]):=fun h=>by rw[hr];exact kI (hb.symm.trans h)
 have hra:∀i d st fr,o=some i→b=true→s.deals[i]?=some d→x.S[i]?=some st→x.free[i]?=some fr→r=mX fL s.su name x l day i d.de st fr:=fun i d st fr h1 h2 h3 h4 h5=>by
  rw[hr];exact mA (ho.symm.trans h1) (hb.symm.trans h2) (by show (s.deals.map jD.de)[i]?=_;rw[aD,h3];rfl) h4 h5
 clear hr;obtain⟨parties,deals,funds,rest,holidays⟩:=s;obtain⟨S,free,⟨c,L⟩,H,D⟩:=x;obtain⟨frm,to,number,kind,ack,deal,text,party,index,day0,cur,amt,docs,boxes⟩:=l;dsimp only at hkind hfz hdz hpz hdl hpl ho hb hat hra;subst hkind;cbv
 (refine bX hde ((⟨parties,deals,funds,rest,holidays⟩,name,deal):jC×bH×bH) hdl ?_;try dsimp only)
 rw[←ho];cases o with
 |none=>
  have hr:=hrn rfl;subst hr;cbv;repeat'((first|refine .y fun h=>?_|fail)<;>cbv)
  (refine .q9 ?_;cbv;exact .inl (.g9 hK))
 |some i=>
  obtain⟨d,st,fr,hd,hst,hfr,hokd,hnum⟩:=hat i rfl;cbv;repeat'((first|refine .n fun h=>?_|fail)<;>cbv)
  (refine bX hpa ((⟨parties,deals,funds,rest,holidays⟩,frm):jC×bH) hpl ?_;try dsimp only)
  rw[←hb];cases b with
  |false=>
   have hr:=hro rfl;subst hr;cbv
   (refine .q9 ?_;cbv;exact .inl (.g9 hK))
  |true=>
   have hr:=hra i d st fr rfl rfl hd hst hfr;clear hra hro hrn hat
   have hml:=gD hokd;have hbl:=hokd.bx;have hsz:=hokd.sz;have hxf:=hx.few;have hxa:=hx.all;obtain⟨bn,hbn⟩:∃b,b=gE d.number:=⟨_,rfl⟩
   have hRP:KT (⟨c,L⟩,⟨3,index,day,bn,frm,party,cJ.noBl⟩):=⟨(show (0:Int)≤3∧(3:Int)≤5 by decide),hxf,hxa,mZ,⟨aI _,aI _,aI _,aI _,fun s hs=>(by cases hs)⟩,by(show party.size≤maxLen);unfold maxLen;omega⟩
   obtain⟨⟨⟨c9,L9⟩,e9⟩,hq9⟩:∃q,q=kF ⟨c,L⟩ ⟨3,index,day,bn,frm,party,cJ.noBl⟩:=⟨_,rfl⟩
   have hqq:kF (⟨S,free,⟨c,L⟩,H,D⟩:Cs).reg (eY 3 d.de ⟨frm,to,number,23,ack,deal,text,party,index,day0,cur,amt,docs,boxes⟩ day)=(⟨c9,L9⟩,e9):=by rw[hq9,hbn];rfl
   rw[rS (k:=3) (.inr (.inr (.inl ⟨rfl,rfl⟩)))]at hr;have hr1:e9≠0→r=(⟨S,free,⟨c,L⟩,H,D⟩,cI deal day (eR fL ⟨frm,to,number,23,ack,deal,text,party,index,day0,cur,amt,docs,boxes⟩)):=fun h=>by
    rw[hr];exact rC hqq (.inl h)
   have hr2:e9=0→r=(⟨S,free,⟨c9,L9⟩,H,D⟩,[]):=fun h1=>by
    rw[hr];exact Dm hqq h1 (fun h=>absurd h.1 (by decide)) (by decide)
   clear hr;obtain⟨dn,dsel,dbuy,dcar,diss,dhou,dins,dfrm,dto,dcur,damt,dbx,dterm,dlat,dexp,dten,dduty⟩:=d;dsimp only at hnum hbl hsz;subst hnum;have z3:(ByteArray.mk (Array.mk [98,108,45])).size=3:=rfl;cbv;repeat'((first|refine .e ?_|refine .n fun h=>?_|refine .y fun h=>?_|refine .u fun u hu hul=>?_|fail)<;>cbv)
   obtain rfl:u=bn:=by rw[hbn];assumption
   refine aaJ [I7 ⟨c,L⟩,PK ⟨3,index,day,u,frm,party,cJ.noBl⟩] Bh ?_
   (refine bX hdo ((⟨c,L⟩,⟨3,index,day,u,frm,party,cJ.noBl⟩):Rg×At) hRP ?_;try dsimp only)
   rw[←hq9];cbv;repeat'((first|refine .n fun h=>?_|refine .mk (fun h=>?_) fun h=>?_|fail)<;>cbv)
   all_goals first
   |((refine bX hob ((⟨frm,to,number,23,ack,dn,text,party,index,day0,cur,amt,docs,boxes⟩,day):dQ×Int) (.inr (.inr (.inl rfl))) ?_;try dsimp only)
     have hr:=hr1 (by assumption);subst hr;cbv
     (refine .q9 ?_;cbv;exact .inl (.g9 hK)))
   |(have hr:=hr2 (by assumption)
     subst hr
     (refine .q9 ?_;cbv;exact .inl (.g9 hK)))
   |fail
theorem wH (P:bI) (hde:bK P 13 nV) (hpa:bK P 17 nD) (hdo:bK P 100 Hc) (hob:bK P 101 sZ):bM P Sj (Om (fun z=>z=24)):=by
 intro args H0 K hc;obtain⟨⟨s,name,x,l,day⟩,rfl,rfl,⟨hkind,hs,hx,hnz,hfz,hdz,hpz⟩,hK⟩:=hc;refine⟨cL,?_⟩;dsimp only at hkind hs hx hnz hfz hdz hpz hK⊢;obtain⟨r,hr⟩:∃r,r=fA fL s.su name x l day:=⟨_,rfl⟩
 rw[←hr]at hK;have hdl:=hs.de;have hpl:=hs.pa;obtain⟨o,ho⟩:∃o,o=dP s.su name l.deal:=⟨_,rfl⟩
 obtain⟨b,hb⟩:∃b,b=kY s.su.parties l.frm:=⟨_,rfl⟩
 have hat:∀i,o=some i→∃d st fr,s.deals[i]?=some d∧x.S[i]?=some st∧x.free[i]?=some fr∧Gq d∧d.number=l.deal:=fun i hi=>by
  rw[ho]at hi;obtain⟨d,h1,h2,h3⟩:=oZ hi;have hil:=(aA.1 h1).1;exact⟨d,_,_,h1,aB (by rw[hx.S];exact hil),aB (by rw[hx.F];exact hil),hs.ok d (aC h1),h3⟩
 have hrn:o=none→r=(x,[]):=fun h=>by rw[hr];exact iY (ho.symm.trans h)
 have hro:b=false→r=(x,[]):=fun h=>by rw[hr];exact kI (hb.symm.trans h)
 have hra:∀i d st fr,o=some i→b=true→s.deals[i]?=some d→x.S[i]?=some st→x.free[i]?=some fr→r=mX fL s.su name x l day i d.de st fr:=fun i d st fr h1 h2 h3 h4 h5=>by
  rw[hr];exact mA (ho.symm.trans h1) (hb.symm.trans h2) (by show (s.deals.map jD.de)[i]?=_;rw[aD,h3];rfl) h4 h5
 clear hr;obtain⟨parties,deals,funds,rest,holidays⟩:=s;obtain⟨S,free,⟨c,L⟩,H,D⟩:=x;obtain⟨frm,to,number,kind,ack,deal,text,party,index,day0,cur,amt,docs,boxes⟩:=l;dsimp only at hkind hfz hdz hpz hdl hpl ho hb hat hra;subst hkind;cbv
 (refine bX hde ((⟨parties,deals,funds,rest,holidays⟩,name,deal):jC×bH×bH) hdl ?_;try dsimp only)
 rw[←ho];cases o with
 |none=>
  have hr:=hrn rfl;subst hr;cbv;repeat'((first|refine .y fun h=>?_|fail)<;>cbv)
  (refine .q9 ?_;cbv;exact .inl (.g9 hK))
 |some i=>
  obtain⟨d,st,fr,hd,hst,hfr,hokd,hnum⟩:=hat i rfl;cbv;repeat'((first|refine .n fun h=>?_|fail)<;>cbv)
  (refine bX hpa ((⟨parties,deals,funds,rest,holidays⟩,frm):jC×bH) hpl ?_;try dsimp only)
  rw[←hb];cases b with
  |false=>
   have hr:=hro rfl;subst hr;cbv
   (refine .q9 ?_;cbv;exact .inl (.g9 hK))
  |true=>
   have hr:=hra i d st fr rfl rfl hd hst hfr;clear hra hro hrn hat
   have hml:=gD hokd;have hbl:=hokd.bx;have hsz:=hokd.sz;have hxf:=hx.few;have hxa:=hx.all;obtain⟨bn,hbn⟩:∃b,b=gE d.number:=⟨_,rfl⟩
   have hRP:KT (⟨c,L⟩,⟨4,index,day,bn,frm,party,cJ.noBl⟩):=⟨(show (0:Int)≤4∧(4:Int)≤5 by decide),hxf,hxa,mZ,⟨aI _,aI _,aI _,aI _,fun s hs=>(by cases hs)⟩,by(show party.size≤maxLen);unfold maxLen;omega⟩
   obtain⟨⟨⟨c9,L9⟩,e9⟩,hq9⟩:∃q,q=kF ⟨c,L⟩ ⟨4,index,day,bn,frm,party,cJ.noBl⟩:=⟨_,rfl⟩
   have hqq:kF (⟨S,free,⟨c,L⟩,H,D⟩:Cs).reg (eY 4 d.de ⟨frm,to,number,24,ack,deal,text,party,index,day0,cur,amt,docs,boxes⟩ day)=(⟨c9,L9⟩,e9):=by rw[hq9,hbn];rfl
   rw[rS (k:=4) (.inr (.inr (.inr ⟨rfl,rfl⟩)))]at hr;have hr1:e9≠0→r=(⟨S,free,⟨c,L⟩,H,D⟩,cI deal day (eR fL ⟨frm,to,number,24,ack,deal,text,party,index,day0,cur,amt,docs,boxes⟩)):=fun h=>by
    rw[hr];exact rC hqq (.inl h)
   have hr2:e9=0→r=(⟨S,free,⟨c9,L9⟩,H,D⟩,[⟨eS,frm,0,25,0,deal,eS,eS,index,day,eS,0,[],[]⟩]):=fun h1=>by
    rw[hr];exact Dm hqq h1 (fun h=>absurd h.1 (by decide)) (by decide)
   clear hr;obtain⟨dn,dsel,dbuy,dcar,diss,dhou,dins,dfrm,dto,dcur,damt,dbx,dterm,dlat,dexp,dten,dduty⟩:=d;dsimp only at hnum hbl hsz;subst hnum;have z3:(ByteArray.mk (Array.mk [98,108,45])).size=3:=rfl;cbv;repeat'((first|refine .e ?_|refine .n fun h=>?_|refine .y fun h=>?_|refine .u fun u hu hul=>?_|fail)<;>cbv)
   obtain rfl:u=bn:=by rw[hbn];assumption
   refine aaJ [I7 ⟨c,L⟩,PK ⟨4,index,day,u,frm,party,cJ.noBl⟩] Bh ?_
   (refine bX hdo ((⟨c,L⟩,⟨4,index,day,u,frm,party,cJ.noBl⟩):Rg×At) hRP ?_;try dsimp only)
   rw[←hq9];cbv;repeat'((first|refine .n fun h=>?_|refine .y fun h=>?_|refine .mk (fun h=>?_) fun h=>?_|refine And.intro ?_ ?_|fail)<;>cbv)
   all_goals first
   |((refine bX hob ((⟨frm,to,number,24,ack,dn,text,party,index,day0,cur,amt,docs,boxes⟩,day):dQ×Int) (.inr (.inr (.inr rfl))) ?_;try dsimp only)
     have hr:=hr1 (by assumption);subst hr;cbv
     (refine .q9 ?_;cbv;exact .inl (.g9 hK)))
   |(have hr:=hr2 (by assumption)
     subst hr;refine cZ (Gh.leAt 7 (.row 58 14 (bJ eL [⟨eS,frm,0,25,0,dn,eS,eS,index,day,eS,0,[],[]⟩])) rfl (sX Bh)) ?_;cbv;refine cZ (Gh.plain 7 rfl) ?_;cbv
     (refine .q9 ?_;cbv;exact .inl (.g9 hK)))
   |fail
theorem Bd (f:bH→eC):∀(bs:List bH) (H:List eC),∃T,(gX f H bs).1=H++T∧T.length≤bs.length
 |[],H=>⟨[],(List.append_nil H).symm,aN _⟩
 |b :: r,H=>by
  have g1:gX f H (b :: r)=if iD H (f b)≠0 then (H,false) else gX f (H++[f b]) r:=rfl
  rw[g1];by_cases h:iD H (f b)≠0
  ·rw[aF h];exact⟨[],(List.append_nil H).symm,aI _⟩
  ·rw[aE h];obtain⟨T,h1,h2⟩:=Bd f r (H++[f b]);exact⟨f b :: T,by rw[h1,bG];rfl,Nat.succ_le_succ h2⟩
theorem A4 {f:bH→eC}{bs:List bH}{H H9:List eC}{o9:Bool}{α:Type}{a:α}{g:List eC→α}(h:(H9,o9)=gX f H bs):(match iE f H bs with|none=>a|some K=>g K)=if o9=true then g H9 else a:=by
 rcases BR f bs H with ⟨h1,h2⟩|⟨H',h1,h2⟩
 ·rw[h1];obtain rfl:o9=false:=by rw[←h]at h2;exact h2
  rfl
 ·rw[h1];rw[h2]at h;cases h;rfl
theorem yI (P:bI) (hde:bK P 13 nV) (hpa:bK P 17 nD) (hdo:bK P 100 Hc) (hob:bK P 101 sZ) (hha:bK P 102 tY) (hsd:bK P 94 qP) (hmr:bK P 20 pP):bM P Sj (Om (fun z=>z=20)):=by
 intro args H0 K hc;obtain⟨⟨s,name,x,l,day⟩,rfl,rfl,⟨hkind,hs,hx,hnz,hfz,hdz,hpz⟩,hK⟩:=hc;refine⟨cL,?_⟩;dsimp only at hkind hs hx hnz hfz hdz hpz hK⊢;obtain⟨r,hr⟩:∃r,r=fA fL s.su name x l day:=⟨_,rfl⟩
 rw[←hr]at hK;have hdl:=hs.de;have hpl:=hs.pa;obtain⟨o,ho⟩:∃o,o=dP s.su name l.deal:=⟨_,rfl⟩
 obtain⟨b,hb⟩:∃b,b=kY s.su.parties l.frm:=⟨_,rfl⟩
 have hat:∀i,o=some i→∃d st fr,s.deals[i]?=some d∧x.S[i]?=some st∧x.free[i]?=some fr∧Gq d∧d.number=l.deal:=fun i hi=>by
  rw[ho]at hi;obtain⟨d,h1,h2,h3⟩:=oZ hi;have hil:=(aA.1 h1).1;exact⟨d,_,_,h1,aB (by rw[hx.S];exact hil),aB (by rw[hx.F];exact hil),hs.ok d (aC h1),h3⟩
 have hrn:o=none→r=(x,[]):=fun h=>by rw[hr];exact iY (ho.symm.trans h)
 have hro:b=false→r=(x,[]):=fun h=>by rw[hr];exact kI (hb.symm.trans h)
 have hra:∀i d st fr,o=some i→b=true→s.deals[i]?=some d→x.S[i]?=some st→x.free[i]?=some fr→r=mX fL s.su name x l day i d.de st fr:=fun i d st fr h1 h2 h3 h4 h5=>by
  rw[hr];exact mA (ho.symm.trans h1) (hb.symm.trans h2) (by show (s.deals.map jD.de)[i]?=_;rw[aD,h3];rfl) h4 h5
 clear hr;obtain⟨parties,deals,funds,rest,holidays⟩:=s;obtain⟨S,free,⟨c,L⟩,H,D⟩:=x;obtain⟨frm,to,number,kind,ack,deal,text,party,index,day0,cur,amt,docs,boxes⟩:=l;dsimp only at hkind hfz hdz hpz hdl hpl ho hb hat hra;subst hkind;cbv
 (refine bX hde ((⟨parties,deals,funds,rest,holidays⟩,name,deal):jC×bH×bH) hdl ?_;try dsimp only)
 rw[←ho];cases o with
 |none=>
  have hr:=hrn rfl;subst hr;cbv;repeat'((first|refine .y fun h=>?_|fail)<;>cbv)
  (refine .q9 ?_;cbv;exact .inl (.g9 hK))
 |some i=>
  obtain⟨d,st,fr,hd,hst,hfr,hokd,hnum⟩:=hat i rfl;cbv;repeat'((first|refine .n fun h=>?_|fail)<;>cbv)
  (refine bX hpa ((⟨parties,deals,funds,rest,holidays⟩,frm):jC×bH) hpl ?_;try dsimp only)
  rw[←hb];cases b with
  |false=>
   have hr:=hro rfl;subst hr;cbv
   (refine .q9 ?_;cbv;exact .inl (.g9 hK))
  |true=>
   have hr:=hra i d st fr rfl rfl hd hst hfr;clear hra hro hrn hat
   have hml:=gD hokd;have hbl:=hokd.bx;have hsz:=hokd.sz;have hxf:=hx.few;have hxa:=hx.all;obtain⟨bn,hbn⟩:∃b,b=gE d.number:=⟨_,rfl⟩
   have hRP:KT (⟨c,L⟩,⟨2,index,day,bn,frm,party,cJ.noBl⟩):=⟨(show (0:Int)≤2∧(2:Int)≤5 by decide),hxf,hxa,mZ,⟨aI _,aI _,aI _,aI _,fun s hs=>(by cases hs)⟩,by(show party.size≤maxLen);unfold maxLen;omega⟩
   obtain⟨⟨⟨c9,L9⟩,e9⟩,hq9⟩:∃q,q=kF ⟨c,L⟩ ⟨2,index,day,bn,frm,party,cJ.noBl⟩:=⟨_,rfl⟩
   have hqq:kF (⟨S,free,⟨c,L⟩,H,D⟩:Cs).reg (eY 2 d.de ⟨frm,to,number,20,ack,deal,text,party,index,day0,cur,amt,docs,boxes⟩ day)=(⟨c9,L9⟩,e9):=by rw[hq9,hbn];rfl
   rw[rS (k:=2) (.inr (.inl ⟨rfl,rfl⟩))]at hr;have hms:=kJ hokd;obtain⟨mk,hmk⟩:∃m,m=d.marks:=⟨_,rfl⟩
   have hmk2:d.de.boxes=mk:=hmk.symm;obtain⟨⟨H9,o9⟩,hq5⟩:∃q,q=gX (cU name frm d.to day) H mk:=⟨_,rfl⟩
   have hq6:(H9,o9)=gX (cU name frm d.to day) H d.marks:=by rw[hq5,hmk]
   obtain⟨T9,hT1,hT2⟩:=Bd (cU name frm d.to day) mk H;rw[←hq5]at hT1;replace hT1:H9=H++T9:=hT1;obtain⟨D9,hD9⟩:∃D9,D9=D++T9:=⟨_,rfl⟩
   have hT3:H9.length=H.length+T9.length:=by rw[hT1,aM]
   have hT4:D9.length=D.length+T9.length:=by rw[hD9,aM]
   have hH5:H.length≤40000:=hx.H;have hD5:D.length≤40000:=hx.D;have hS5:S.length≤8:=by have:=hx.S;dsimp only at this;omega
   have hiS:i < S.length:=(aA.1 hst).1;have hr1:e9≠0∨o9=false∨¬st=3∨fr=false→r=(⟨S,free,⟨c,L⟩,H,D⟩,cI deal day (eR fL ⟨frm,to,number,20,ack,deal,text,party,index,day0,cur,amt,docs,boxes⟩)):=fun h=>by
    rw[hr];rcases h with h|h
    ·exact rC hqq (.inl h)
    by_cases h0:e9=0
    rotate_left
    ·exact rC hqq (.inl h0)
    rw[FL hqq h0];refine(A4 hq6).trans ?_;rcases h with rfl|h
    ·rfl
    cases o9 with
    |false=>rfl
    |true=>exact(aF rfl).trans (aF h)
   obtain⟨S2,hS2⟩:∃S2,S2=S.set i 4:=⟨_,rfl⟩
   have eS2:oQ ⟨S,free,⟨c9,L9⟩,H9,D9⟩ i 4=⟨S2,free,⟨c9,L9⟩,H9,D9⟩:=by rw[hS2];rfl
   have hr2:e9=0→o9=true→st=3→fr=true→r=(⟨S2,free,⟨c9,L9⟩,H9,D9⟩,[⟨eS,frm,0,21,0,deal,eS,eS,0,day,eS,0,[],mk⟩]):=fun h1 h2 h3 h4=>by
    rw[hr];rw[FL hqq h1];refine(A4 hq6).trans ?_;rw[aF h2];rw[aE (fun h=>h.elim (fun h=>h h3) (fun h=>by rw[h4]at h;cases h))];rw[←eS2,hmk2];show (oQ ⟨S,free,⟨c9,L9⟩,H9,D++H9.drop H.length⟩ i 4,_)=_;rw[show H9.drop H.length=T9 from by rw[hT1];exact List.drop_left ..,←hD9];rfl
   have hHP:Sr ⟨H,d,name,frm,d.to,day⟩:=⟨by dsimp only;omega,hokd,by dsimp only;omega,by dsimp only;omega,by dsimp only;omega⟩
   rw[←hmk]at hml;clear hr hq6 hmk2;obtain⟨dn,dsel,dbuy,dcar,diss,dhou,dins,dfrm,dto,dcur,damt,dbx,dterm,dlat,dexp,dten,dduty⟩:=d;dsimp only at hnum hbl hsz;subst hnum;have z3:(ByteArray.mk (Array.mk [98,108,45])).size=3:=rfl;cbv;repeat'((first|refine .e ?_|refine .n fun h=>?_|refine .y fun h=>?_|refine .u fun u hu hul=>?_|fail)<;>cbv)
   obtain rfl:u=bn:=by rw[hbn];assumption
   refine aaJ [I7 ⟨c,L⟩,PK ⟨2,index,day,u,frm,party,cJ.noBl⟩] Bh ?_
   (refine bX hdo ((⟨c,L⟩,⟨2,index,day,u,frm,party,cJ.noBl⟩):Rg×At) hRP ?_;try dsimp only)
   rw[←hq9];cbv;repeat'((first|refine .n fun h=>?_|refine .y fun h=>?_|refine .mk (fun h=>?_) fun h=>?_|fail)<;>cbv)
   all_goals first
   |((refine bX hob ((⟨frm,to,number,20,ack,dn,text,party,index,day0,cur,amt,docs,boxes⟩,day):dQ×Int) (.inr (.inl rfl)) ?_;try dsimp only)
     have hr:=hr1 (.inl (by assumption));subst hr;cbv
     (refine .q9 ?_;cbv;exact .inl (.g9 hK)))
   |((refine bX hha (⟨H,(⟨dn,dsel,dbuy,dcar,diss,dhou,dins,dfrm,dto,dcur,damt,dbx,dterm,dlat,dexp,dten,dduty⟩:jD),name,frm,dto,day⟩:T1) hHP ?_;try dsimp only)
     rw[←hmk,←hq5];cbv;repeat'((first|refine .e ?_|refine .mk (fun h=>?_) fun h=>?_|fail)<;>cbv)
     all_goals first
     |((refine bX hob ((⟨frm,to,number,20,ack,dn,text,party,index,day0,cur,amt,docs,boxes⟩,day):dQ×Int) (.inr (.inl rfl)) ?_;try dsimp only)
       have hr:=hr1 (.inr (.inr (.inl (by assumption))));subst hr;cbv
       (refine .q9 ?_;cbv;exact .inl (.g9 hK)))
     |skip
     cases fr with
     |false=>
      have hr:=hr1 (.inr (.inr (.inr rfl)));subst hr;cbv
      (refine bX hob ((⟨frm,to,number,20,ack,dn,text,party,index,day0,cur,amt,docs,boxes⟩,day):dQ×Int) (.inr (.inl rfl)) ?_;try dsimp only)
      cbv
      (refine .q9 ?_;cbv;exact .inl (.g9 hK))
     |true=>
      cases o9 with
      |false=>
       have hr:=hr1 (.inr (.inl rfl));subst hr;cbv
       (refine bX hob ((⟨frm,to,number,20,ack,dn,text,party,index,day0,cur,amt,docs,boxes⟩,day):dQ×Int) (.inr (.inl rfl)) ?_;try dsimp only)
       cbv
       (refine .q9 ?_;cbv;exact .inl (.g9 hK))
      |true=>
       have hr:=hr2 (by assumption) rfl (by assumption) rfl;subst hr;cbv;repeat'((first|refine .k fun z hz=>?_|refine .o ?_|refine .l fun ys hys hyl=>?_|fail)<;>cbv)
       have hzz:z.toNat=H.length:=by rw[hz,bY];rfl
       obtain rfl:ys=D9:=by
        rw[hys,hD9];congr 1;refine Eq.trans (b:=List.drop (Int.toNat ((some z).getD 0)) (List.take (Int.toNat (none.getD (((H9,true).fst.length:Nat):Int))) (H9,true).fst)) (by assumption) ?_;show List.drop z.toNat (List.take (Int.toNat (H9.length:Nat)) H9)=T9;rw[hzz,Int.toNat_natCast,List.take_length,hT1];exact List.drop_left ..
       refine fS 7 rfl ?_;cbv
       (refine bX hsd ((⟨S,free,⟨c9,L9⟩,H9,ys⟩,i,4):Cs×Nat×Int) ⟨hS5,hiS⟩ ?_;try dsimp only)
       rw[eS2];cbv
       (refine bX hmr ((⟨dn,dsel,dbuy,dcar,diss,dhou,dins,dfrm,dto,dcur,damt,dbx,dterm,dlat,dexp,dten,dduty⟩:jD)) hbl ?_;try dsimp only)
       rw[←hmk];cbv;repeat'((first|refine And.intro ?_ ?_|fail)<;>cbv)
       all_goals
        try(refine cZ (Gh.leAt 10 (.row 58 14 (bJ eL [⟨eS,frm,0,21,0,dn,eS,eS,0,day,eS,0,[],mk⟩])) rfl (sX Bh)) ?_)
        cbv;refine cZ (Gh.plain 10 rfl) ?_;cbv
        (refine .q9 ?_;cbv;exact .inl (.g9 hK))
       )
theorem vY (P:bI) (hde:bK P 13 nV) (hpa:bK P 17 nD):bM P Sj (Om (fun z=>¬(z=4∨z=19∨z=8∨z=20∨z=23∨z=24))):=by
 intro args H0 K hc;obtain⟨⟨s,name,x,l,day⟩,rfl,rfl,⟨hkind,hs,hx,hnz,hfz,hdz,hpz⟩,hK⟩:=hc;refine⟨cL,?_⟩;dsimp only at hkind hs hx hnz hfz hdz hpz hK⊢;obtain⟨r,hr⟩:∃r,r=fA fL s.su name x l day:=⟨_,rfl⟩
 rw[←hr]at hK;have hdl:=hs.de;have hpl:=hs.pa;obtain⟨o,ho⟩:∃o,o=dP s.su name l.deal:=⟨_,rfl⟩
 obtain⟨b,hb⟩:∃b,b=kY s.su.parties l.frm:=⟨_,rfl⟩
 have hat:∀i,o=some i→∃d st fr,s.deals[i]?=some d∧x.S[i]?=some st∧x.free[i]?=some fr∧Gq d∧d.number=l.deal:=fun i hi=>by
  rw[ho]at hi;obtain⟨d,h1,h2,h3⟩:=oZ hi;have hil:=(aA.1 h1).1;exact⟨d,_,_,h1,aB (by rw[hx.S];exact hil),aB (by rw[hx.F];exact hil),hs.ok d (aC h1),h3⟩
 have hrn:o=none→r=(x,[]):=fun h=>by rw[hr];exact iY (ho.symm.trans h)
 have hro:b=false→r=(x,[]):=fun h=>by rw[hr];exact kI (hb.symm.trans h)
 have hra:∀i d st fr,o=some i→b=true→s.deals[i]?=some d→x.S[i]?=some st→x.free[i]?=some fr→r=mX fL s.su name x l day i d.de st fr:=fun i d st fr h1 h2 h3 h4 h5=>by
  rw[hr];exact mA (ho.symm.trans h1) (hb.symm.trans h2) (by show (s.deals.map jD.de)[i]?=_;rw[aD,h3];rfl) h4 h5
 clear hr;obtain⟨parties,deals,funds,rest,holidays⟩:=s;obtain⟨S,free,⟨c,L⟩,H,D⟩:=x;obtain⟨frm,to,number,kind,ack,deal,text,party,index,day0,cur,amt,docs,boxes⟩:=l;dsimp only at hkind hfz hdz hpz hdl hpl ho hb hat hra;cbv
 (refine bX hde ((⟨parties,deals,funds,rest,holidays⟩,name,deal):jC×bH×bH) hdl ?_;try dsimp only)
 rw[←ho];cases o with
 |none=>
  have hr:=hrn rfl;subst hr;cbv;repeat'((first|refine .y fun h=>?_|fail)<;>cbv)
  (refine .q9 ?_;cbv;exact .inl (.g9 hK))
 |some i=>
  obtain⟨d,st,fr,hd,hst,hfr,hokd,hnum⟩:=hat i rfl;cbv;repeat'((first|refine .n fun h=>?_|fail)<;>cbv)
  (refine bX hpa ((⟨parties,deals,funds,rest,holidays⟩,frm):jC×bH) hpl ?_;try dsimp only)
  rw[←hb];cases b with
  |false=>
   have hr:=hro rfl;subst hr;cbv
   (refine .q9 ?_;cbv;exact .inl (.g9 hK))
  |true=>
   have hr:=hra i d st fr rfl rfl hd hst hfr;clear hra hro hrn hat
   unfold mX at hr;dsimp only at hr;rw[aE (fun h=>hkind (.inl h)),aE (fun h=>hkind (.inr (.inl h))),aE (fun h=>hkind (.inr (.inr h)))]at hr;subst hr;have hml:=gD hokd;have hbl:=hokd.bx;have hsz:=hokd.sz;obtain⟨dn,dsel,dbuy,dcar,diss,dhou,dins,dfrm,dto,dcur,damt,dbx,dterm,dlat,dexp,dten,dduty⟩:=d;dsimp only at hnum hbl hsz;subst hnum;have z3:(ByteArray.mk (Array.mk [98,108,45])).size=3:=rfl;cbv;repeat'((first|refine .e ?_|refine .n fun h=>?_|refine .u fun u hu hul=>?_|fail)<;>cbv)
   all_goals first
   |(exfalso;exact hkind (by omega))
   |((refine .q9 ?_;cbv;exact .inl (.g9 hK)))
   |fail
theorem HK {P:bI}(hde:bK P 13 nV) (hpa:bK P 17 nD) (hsh:bK P 99 zL) (hdo:bK P 100 Hc) (hob:bK P 101 sZ) (hha:bK P 102 tY) (hsd:bK P 94 qP) (hmr:bK P 20 pP):bM P Sj (Om fun _=>True):=by
 intro args H0 K hc;obtain⟨q,h1,h2,⟨-,h4⟩,h5⟩:=hc;by_cases k1:q.l.kind=4
 ·exact vZ P hde hpa hsh args H0 K ⟨q,h1,h2,⟨k1,h4⟩,h5⟩
 by_cases k2:q.l.kind=19
 ·exact yR P hde hpa args H0 K ⟨q,h1,h2,⟨k2,h4⟩,h5⟩
 by_cases k3:q.l.kind=8
 ·exact yJ P hde hpa hdo hob args H0 K ⟨q,h1,h2,⟨k3,h4⟩,h5⟩
 by_cases k4:q.l.kind=20
 ·exact yI P hde hpa hdo hob hha hsd hmr args H0 K ⟨q,h1,h2,⟨k4,h4⟩,h5⟩
 by_cases k5:q.l.kind=23
 ·exact xE P hde hpa hdo hob args H0 K ⟨q,h1,h2,⟨k5,h4⟩,h5⟩
 by_cases k6:q.l.kind=24
 ·exact wH P hde hpa hdo hob args H0 K ⟨q,h1,h2,⟨k6,h4⟩,h5⟩
 exact vY P hde hpa args H0 K ⟨q,h1,h2,⟨fun h=>by rcases h with h|h|h|h|h|h<;>contradiction,h4⟩,h5⟩
def Gw:dA:=spec (fun q:jC×bH=>[Jq q.1,.str q.2]) (fun _=>[]) (fun q=>q.1.deals.length≤8) (fun q=>Fc (Dd q.1.su q.2)) fun _=>[]
theorem Ie (P:bI):bM P ZT Gw:=by
 intro args H K hc;obtain⟨⟨⟨parties,deals,funds,rest,holidays⟩,name⟩,rfl,rfl,hp,hK⟩:=hc;refine⟨cL,?_⟩;dsimp only at hp hK⊢;obtain⟨n,hn⟩:∃n:Nat,n=deals.length:=⟨_,rfl⟩
 obtain⟨S,hS⟩:∃S,S=deals.map fun _=>(0:Int):=⟨_,rfl⟩
 obtain⟨F,hF⟩:∃F,F=deals.map fun d=>decide (d.house=eS):=⟨_,rfl⟩
 have eK:Dd (jC.su ⟨parties,deals,funds,rest,holidays⟩) name=⟨S,F,⟨name,[]⟩,[],[]⟩:=by
  unfold Dd jC.su;dsimp only;rw[List.map_map,List.map_map,hS,hF];rfl
 replace hK:K (Fc (Dd (jC.su ⟨parties,deals,funds,rest,holidays⟩) name)) []:=hK;rw[eK]at hK;clear eK;cbv;refine gH (Gh.adoptC 2 0 3 1 rfl rfl) ?_;cbv;refine gH (Gh.adoptC 2 1 4 1 rfl rfl) ?_;cbv;refine bS [3,4] (fun p:{ k:Nat // k≤deals.length }=>[(6,.i (nI p.1))]) (fun p=>[.blk 29 [.sl 3 (bJ lE parties),.sl 17 (bJ jS deals),.sl 3 (bJ lK funds),.sl 1 (bJ dO rest),.sl 1 (bJ dO holidays)],.blk 41 [.v (.slice none 0 0),.v (.slice none 0 0),.str ⟨#[]⟩,.v (.slice none 0 0),.v (.slice none 0 0),.v (.slice none 0 0)],.blk 41 [.hd 3,.hd 4,.str name,.v (.slice none 0 0),.v (.slice none 0 0),.v (.slice none 0 0)],.row 3 1 (bJ dO (S.take p.1)),.row 4 1 (bJ pZ (F.take p.1))]) (fun p=>eW n p.1) ⟨0,aI _⟩ ?_;rintro ⟨k,hk⟩;dsimp only at hk⊢;obtain⟨S1,hS1⟩:∃s,s=S.take k:=⟨_,rfl⟩
 obtain⟨F1,hF1⟩:∃s,s=F.take k:=⟨_,rfl⟩
 have hl1:S1.length≤8:=by rw[hS1,aS];omega
 have hl2:F1.length≤8:=by rw[hF1,aS];omega
 rw[←hS1,←hF1];rcases aL k deals.length with hks|hks
 rotate_left
 ·obtain rfl:k=n:=by omega
  have e1:S1=S:=by rw[hS1,bC (by rw[hS,aJ];omega)]
  have e2:F1=F:=by rw[hF1,bC (by rw[hF,aJ];omega)]
  subst e1 e2;cbv;repeat'((first|refine .n fun h=>?_|refine .k fun z hz=>?_|fail)<;>cbv)
  refine cZ (Gh.plain 3 rfl) ?_;cbv
  (refine .r9 (Gh.plain 4 rfl) ?_;cbv;exact .inl (.g9 hK))
 obtain⟨d,hx⟩:=cK hks;have hs2:S.take (k+1)=S1++[0]:=by rw[hS1,dC (l:=0) (by rw[hS,aD,hx];rfl)]
 have hf2:F.take (k+1)=F1++[decide (d.house=eS)]:=by rw[hF1,dC (l:=decide (d.house=eS)) (by rw[hF,aD,hx];rfl)]
 clear hS hF hS1 hF1;obtain⟨dn,dsel,dbuy,dcar,diss,dhou,dins,dfrm,dto,dcur,damt,dbx,dterm,dlat,dexp,dten,dduty⟩:=d;dsimp only at hf2;unfold eS at hf2;cbv;repeat'((first|refine .e ?_|refine .y fun h=>?_|refine .mk (fun h=>?_) fun h=>?_|refine .k fun z hz=>?_|refine .zl fun zs hzs hzl=>?_|fail)<;>cbv)
 ·rename_i z0 hz0 h0 zs1 hzs1 hzl1;obtain rfl:z=nI (k+1):=bQ;rw[aH h]at hf2;obtain rfl:zs1=bJ dO (S.take (k+1)):=by(rw[hs2,cD,cF];exact hzs1)
  obtain rfl:zs=bJ pZ (F.take (k+1)):=by(rw[hf2,cD,cF];exact hzs)
  exact bN ⟨k+1,hks⟩ (bO (by omega))
 ·rename_i z0 hz0 h0 zs1 hzs1 hzl1;obtain rfl:z=nI (k+1):=bQ;rw[aG h]at hf2;obtain rfl:zs1=bJ dO (S.take (k+1)):=by(rw[hs2,cD,cF];exact hzs1)
  obtain rfl:zs=bJ pZ (F.take (k+1)):=by(rw[hf2,cD,cF];exact hzs)
  exact bN ⟨k+1,hks⟩ (bO (by omega))
structure Wh where
 kind:Int
 n:Int
 deal:bH
structure jZ where
 kind:Int
 day:Int
 a:Wh
 l:dQ
def sE:jZ→AV
 |⟨kind,day,⟨ak,an,adeal⟩,⟨frm,to,number,lkind,ack,deal,text,party,index,day0,cur,amt,docs,boxes⟩⟩=>.agg [.i kind,.i day,.i ak,.i an,.str adeal,.str frm,.str to,.i number,.i lkind,.i ack,.str deal,.str text,.str party,.i index,.i day0,.str cur,.i amt,.sl 4 (bJ tG docs),.sl 1 (bJ .str boxes)]
def eZ (s:bH):Prop:=s.size≤140737488355328
structure UI (s:jC):Prop where
 pa:s.parties.length≤maxLen
 de:s.deals.length≤maxLen
 pn:∀p∈s.parties,eZ p.name
 ok:∀d∈s.deals,d.boxes.length≤maxLen∧(∀b∈d.boxes,eZ b.mark)∧eZ d.number∧eZ d.seller∧eZ d.buyer∧eZ d.carrier∧eZ d.house∧eZ d.frm∧eZ d.to
structure XP (l:List jZ):Prop where
 len:l.length≤maxLen
 sz:∀c∈l,eZ c.a.deal∧eZ c.l.frm∧eZ c.l.deal∧eZ c.l.party
structure YR (l:List jZ):Prop where
 len:l.length≤40
 sz:∀c∈l,c.a.deal.size≤300∧c.l.frm.size≤300∧c.l.deal.size≤300∧c.l.party.size≤300
structure Do (s:jC) (name:bH) (l:List jZ):Prop where
 s:nP s
 n:name.size≤60
 l:YR l
structure AW where
 s:jC
 name:bH
 l:List jZ
structure Mk (q:AW):Prop where
 s:UI q.s
 n:eZ q.name
 l:XP q.l
def HO:dA:=oA (fun q:AW=>[Jq q.s,.str q.name,.sl 19 (bJ sE q.l)]) (fun _=>[]) Mk (fun q b=>b=true→Do q.s q.name q.l) (fun _ b=>.bl b) fun _ _=>[]
def Xw (l:List Gn) (k:Nat):Prop:=∀j y,j < k→l[j]?=some y→y.name.size≤60
def U7 (l:List jD) (k:Nat):Prop:=∀j y,j < k→l[j]?=some y→Gq y
def XO (l:List IP) (k:Nat):Prop:=∀j y,j < k→l[j]?=some y→y.mark.size≤60
def W2 (l:List jZ) (k:Nat):Prop:=∀j c,j < k→l[j]?=some c→c.a.deal.size≤300∧c.l.frm.size≤300∧c.l.deal.size≤300∧c.l.party.size≤300
theorem uV {α:Type}{l:List α}{p:α→Prop}(h:∀j y,j < l.length→l[j]?=some y→p y):∀x∈l,p x:=fun x hx=>by
 obtain⟨j,hj⟩:=aV hx;exact h j x (aA.1 hj).1 hj
theorem rW {α:Type}{l:List α}{p:α→Prop}:∀j y,j < 0→l[j]?=some y→p y:=fun j y h=>absurd h (Nat.not_lt_zero j)
theorem rJ {α:Type}{l:List α}{p:α→Prop}{k:Nat}{x:α}(h:∀j y,j < k→l[j]?=some y→p y) (hx:l[k]?=some x) (hp:p x):∀j y,j < k+1→l[j]?=some y→p y:=fun j y hj hy=>by
 rcases aL j k with h1|h1
 ·exact h j y h1 hy
 ·obtain rfl:j=k:=by omega
  rw[hx]at hy;cases hy;exact hp
theorem MW (P:bI):bM P x12 HO:=by
 intro args H K hc;obtain⟨⟨⟨parties,deals,funds,rest,holidays⟩,name,l⟩,rfl,rfl,hp,hK⟩:=hc;refine⟨cL,?_⟩;obtain⟨⟨hpa,hde,hpn,hok⟩,hnm,hll,hls⟩:=hp;dsimp only at hpa hde hpn hok hnm hll hls hK⊢;unfold eZ at hpn hok hnm hls;have hno:K (.bl false) []:=hK false (fun h=>by cases h);have hyes:Do ⟨parties,deals,funds,rest,holidays⟩ name l→K (.bl true) []:=fun h=>hK true fun _=>h
 clear hK;obtain⟨np,hnp⟩:∃n:Nat,n=parties.length:=⟨_,rfl⟩
 obtain⟨nd,hnd⟩:∃n:Nat,n=deals.length:=⟨_,rfl⟩
 obtain⟨nl,hnl⟩:∃n:Nat,n=l.length:=⟨_,rfl⟩
 cbv;repeat'((first|refine .mk (fun h=>?_) fun h=>?_|refine .k fun z hz=>?_|fail)<;>cbv)
 ·(refine .q9 ?_;cbv;exact .inl (.f9 hno))
 ·(refine .q9 ?_;cbv;exact .inl (.f9 hno))
 ·(refine .q9 ?_;cbv;exact .inl (.f9 hno))
 ·(refine .q9 ?_;cbv;exact .inl (.f9 hno))
 have hP:parties.length≤20:=bQ;have hD:deals.length≤8:=bQ;have hN:name.size≤60:=bQ;have hL:l.length≤40:=bQ;refine bS [] (fun p:{ k:Nat // k≤parties.length∧Xw parties k }=>[(7,.i (nI p.1))]) (fun _=>[.blk 29 [.sl 3 (bJ lE parties),.sl 17 (bJ jS deals),.sl 3 (bJ lK funds),.sl 1 (bJ dO rest),.sl 1 (bJ dO holidays)]]) (fun p=>eW np p.1) ⟨0,aI _,rW⟩ ?_;rintro ⟨k,hk,hf⟩;dsimp only at hk hf⊢;rcases aL k parties.length with hks|hks
 ·obtain⟨⟨pn,pb,pk⟩,hx⟩:=cK hks;have hpz:=hpn _ (aC hx);dsimp only at hpz;cbv;repeat'((first|refine .e ?_|refine .y fun h=>?_|refine .mk (fun h=>?_) fun h=>?_|refine .k fun z hz=>?_|fail)<;>cbv)
  ·(refine .q9 ?_;cbv;exact .inl (.f9 hno))
  ·obtain rfl:z=nI (k+1):=bQ;exact bN ⟨k+1,hks,rJ hf hx (by dsimp only;((try simp only[vn]at *)<;>omega))⟩ (bO (by omega))
 obtain rfl:k=np:=by omega
 rw[hnp]at hf;have hPall:=uV hf;clear hf hpn;cbv;repeat'((first|refine .n fun h=>?_|refine .k fun z hz=>?_|fail)<;>cbv)
 refine bS [] (fun p:{ k:Nat // k≤deals.length∧U7 deals k }=>[(8,.i (nI p.1))]) (fun _=>[.blk 29 [.sl 3 (bJ lE parties),.sl 17 (bJ jS deals),.sl 3 (bJ lK funds),.sl 1 (bJ dO rest),.sl 1 (bJ dO holidays)]]) (fun p=>eW nd p.1) ⟨0,aI _,rW⟩ ?_;rintro ⟨k2,hk2,hf2⟩;dsimp only at hk2 hf2⊢;rcases aL k2 deals.length with hks2|hks2
 ·obtain⟨d,hx⟩:=cK hks2;obtain⟨hdb,hdm,hd1,hd2,hd3,hd4,hd5,hd6,hd7⟩:=hok _ (aC hx);have hnx:Gq d→U7 deals (k2+1):=fun h=>rJ hf2 hx h
  obtain⟨dn,dsel,dbuy,dcar,diss,dhou,dins,dfrm,dto,dcur,damt,dbx,dterm,dlat,dexp,dten,dduty⟩:=d;dsimp only at hdb hdm hd1 hd2 hd3 hd4 hd5 hd6 hd7;clear hok;cbv;repeat'((first|refine .e ?_|refine .y fun h=>?_|refine .mk (fun h=>?_) fun h=>?_|refine .k fun z hz=>?_|fail)<;>cbv)
  ·(refine .q9 ?_;cbv;exact .inl (.f9 hno))
  ·(refine .q9 ?_;cbv;exact .inl (.f9 hno))
  have hbx:dbx.length≤70:=bQ;have hall:dn.size≤300∧dsel.size≤300∧dbuy.size≤300∧dcar.size≤300∧dhou.size≤300∧dfrm.size≤300∧dto.size≤300:=bQ;obtain⟨nb,hnb⟩:∃n:Nat,n=dbx.length:=⟨_,rfl⟩
  refine bS [] (fun p:{ k:Nat // k≤dbx.length∧XO dbx k }=>[(10,.i (nI p.1))]) (fun _=>[.blk 29 [.sl 3 (bJ lE parties),.sl 17 (bJ jS deals),.sl 3 (bJ lK funds),.sl 1 (bJ dO rest),.sl 1 (bJ dO holidays)]]++[.blk 67 [.str dn,.str dsel,.str dbuy,.str dcar,.str diss,.str dhou,.str dins,.str dfrm,.str dto,.str dcur,.i damt,.sl 3 (bJ F6 dbx),.i dterm,.i dlat,.i dexp,.i dten,.i dduty]]) (fun p=>eW nb p.1) ⟨0,aI _,rW⟩ ?_;rintro ⟨k3,hk3,hf3⟩;dsimp only at hk3 hf3⊢;rcases aL k3 dbx.length with hks3|hks3
  ·obtain⟨⟨bm,bk,bl⟩,hx3⟩:=cK hks3;have hbz:=hdm _ (aC hx3);dsimp only at hbz;cbv;repeat'((first|refine .e ?_|refine .y fun h=>?_|refine .mk (fun h=>?_) fun h=>?_|refine .k fun z hz=>?_|fail)<;>cbv)
   ·(refine .q9 ?_;cbv;exact .inl (.f9 hno))
   ·obtain rfl:z=nI (k3+1):=bQ;exact bN ⟨k3+1,hks3,rJ hf3 hx3 (by dsimp only;((try simp only[vn]at *)<;>omega))⟩ (bO (by omega))
  obtain rfl:k3=nb:=by omega
  rw[hnb]at hf3;have hBall:=uV hf3;cbv;repeat'((first|refine .n fun h=>?_|refine .k fun z hz=>?_|fail)<;>cbv)
  obtain rfl:z=nI (k2+1):=bQ;exact bN ⟨k2+1,hks2,hnx ⟨hbx,hBall,hall⟩⟩ (bO (by omega))
 obtain rfl:k2=nd:=by omega
 rw[hnd]at hf2;have hDall:=uV hf2;clear hf2 hok;cbv;repeat'((first|refine .n fun h=>?_|refine .k fun z hz=>?_|fail)<;>cbv)
 refine bS [] (fun p:{ k:Nat // k≤l.length∧W2 l k }=>[(11,.i (nI p.1))]) (fun _=>[.blk 29 [.sl 3 (bJ lE parties),.sl 17 (bJ jS deals),.sl 3 (bJ lK funds),.sl 1 (bJ dO rest),.sl 1 (bJ dO holidays)]]) (fun p=>eW nl p.1) ⟨0,aI _,rW⟩ ?_;rintro ⟨k4,hk4,hf4⟩;dsimp only at hk4 hf4⊢;rcases aL k4 l.length with hks4|hks4
 ·obtain⟨cx,hx⟩:=cK hks4;obtain⟨hc1,hc2,hc3,hc4⟩:=hls _ (aC hx);have hnx:(cx.a.deal.size≤300∧cx.l.frm.size≤300∧cx.l.deal.size≤300∧cx.l.party.size≤300)→W2 l (k4+1):=fun h=>rJ hf4 hx h
  obtain⟨ckind,cday,⟨ak,an,adeal⟩,⟨frm,to,number,lkind,ack,deal,text,party,index,day0,cur,amt,docs,boxes⟩⟩:=cx;dsimp only at hc1 hc2 hc3 hc4 hnx;cbv;repeat'((first|refine .e ?_|refine .y fun h=>?_|refine .mk (fun h=>?_) fun h=>?_|refine .k fun z hz=>?_|fail)<;>cbv)
  ·(refine .q9 ?_;cbv;exact .inl (.f9 hno))
  ·obtain rfl:z=nI (k4+1):=bQ;exact bN ⟨k4+1,hks4,hnx bQ⟩ (bO (by omega))
 obtain rfl:k4=nl:=by omega
 rw[hnl]at hf4;have hCall:=uV hf4;cbv;repeat'((first|refine .n fun h=>?_|refine .k fun z hz=>?_|fail)<;>cbv)
 (refine .q9 ?_;cbv;exact .inl (.f9 (hyes ⟨⟨hP,hD,hPall,hDall⟩,hN,⟨hL,hCall⟩⟩)))
structure Tl where
 s:jC
 name:bH
 x:Cs
 a:Wh
 day:Int
structure R8 (q:Tl):Prop where
 s:nP q.s
 x:UZ q.s q.x
 sz:q.name.size≤60∧q.a.deal.size≤300
 day:-9223372036854775808≤q.day∧q.day≤9223372036854775807
def ZJ:Cs×List dQ×Int→AV
 |(x,l,e)=>.tup [Fc x,.sl 14 (bJ eL l),.i e]
def Uj (κ:Int→Prop):dA:=spec (fun q:Tl=>[Jq q.s,.str q.name,Fc q.x,.agg [.i q.a.kind,.i q.a.n,.str q.a.deal],.i q.day]) (fun _=>[]) (fun q=>κ q.a.kind∧R8 q) (fun q=>ZJ (kZ eV q.s.su q.name q.x q.a.kind q.a.deal q.day)) fun _=>[]
def Lt (lad:Bl→Lw) (name:bH) (x:Cs) (kind:Int) (i:Nat) (d:De) (st:Int) (day:Int):Cs×List dQ×Int:=
   if kind=6 then (if st≠2 then (x,[],9) else (oQ x i 3,cI d.number day [{ oN with to:=d.buyer,kind:=26,boxes:=d.boxes }],0))
   else if st≠1 then (x,[],9) else
    let b:Bl:=gQ name (cN d st true) day
    if gP ⟨x.reg,b,d.seller⟩≠0 then (x,[],gP ⟨x.reg,b,d.seller⟩)
    else ({ oQ x i 2 with reg:=jY ⟨x.reg,b,d.seller⟩ },cI d.number day [{ oN with to:=d.seller,kind:=5,docs:=[lad b] }],0)
theorem Ce {lad:Bl→Lw}{s:Su}{name:bH}{x:Cs}{kind:Int}{deal:bH}{day:Int}(hk:kind=5∨kind=6) (h:dP s name deal=none):kZ lad s name x kind deal day=(x,[],4):=by
 unfold kZ;rw[aE (by omega),h]
theorem IJ {lad:Bl→Lw}{s:Su}{name:bH}{x:Cs}{kind:Int}{deal:bH}{day:Int}{i:Nat}{d:De}{st:Int}(hk:kind=5∨kind=6) (h:dP s name deal=some i) (h1:s.deals[i]?=some d) (h2:x.S[i]?=some st) :
  kZ lad s name x kind deal day=Lt lad name x kind i d st day:=by
 unfold kZ Lt;rw[aE (by omega),h];dsimp only;rw[h1,h2]
theorem Fs (P:bI):bM P W5 (Uj fun k=>¬(k=5∨k=6)):=by
 intro args H0 K hc;obtain⟨⟨s,name,x,⟨kind,an,deal⟩,day⟩,rfl,rfl,⟨hkind,hs,hx,⟨hnz,hdz⟩,hday⟩,hK⟩:=hc;refine⟨cL,?_⟩;dsimp only at hkind hs hx hnz hdz hday hK⊢;obtain⟨r,hr⟩:∃r,r=kZ eV s.su name x kind deal day:=⟨_,rfl⟩
 rw[←hr]at hK;unfold kZ at hr;rw[aF (by omega)]at hr;subst hr;obtain⟨parties,deals,funds,rest,holidays⟩:=s;obtain⟨S,free,⟨c,L⟩,H,D⟩:=x;cbv;repeat'((first|refine .n fun h=>?_|fail)<;>cbv)
 all_goals first
 |(exfalso;exact hkind (by omega))
 |((refine .q9 ?_;cbv;exact .inl (.g9 hK)))
theorem yO (P:bI) (hde:bK P 13 nV) (hsd:bK P 94 qP) (hmr:bK P 20 pP):bM P W5 (Uj fun k=>k=6):=by
 intro args H0 K hc;obtain⟨⟨s,name,x,⟨kind,an,deal⟩,day⟩,rfl,rfl,⟨hkind,hs,hx,⟨hnz,hdz⟩,hday⟩,hK⟩:=hc;refine⟨cL,?_⟩;dsimp only at hkind hs hx hnz hdz hday hK⊢;obtain⟨r,hr⟩:∃r,r=kZ eV s.su name x kind deal day:=⟨_,rfl⟩
 rw[←hr]at hK;have hdl:=hs.de;obtain⟨o,ho⟩:∃o,o=dP s.su name deal:=⟨_,rfl⟩
 have hat:∀i,o=some i→∃d st,s.deals[i]?=some d∧x.S[i]?=some st∧Gq d∧d.number=deal:=fun i hi=>by
  rw[ho]at hi;obtain⟨d,h1,h2,h3⟩:=oZ hi;have hil:=(aA.1 h1).1;exact⟨d,_,h1,aB (by rw[hx.S];exact hil),hs.ok d (aC h1),h3⟩
 have hrn:o=none→r=(x,[],4):=fun h=>by rw[hr];exact Ce (by omega) (ho.symm.trans h)
 have hra:∀i d st,o=some i→s.deals[i]?=some d→x.S[i]?=some st→r=Lt eV name x kind i d.de st day:=fun i d st h1 h3 h4=>by
  rw[hr];exact IJ (by omega) (ho.symm.trans h1) (by show (s.deals.map jD.de)[i]?=_;rw[aD,h3];rfl) h4
 clear hr;obtain⟨parties,deals,funds,rest,holidays⟩:=s;obtain⟨S,free,⟨c,L⟩,H,D⟩:=x;subst hkind;dsimp only at hdl ho hat hra;cbv;repeat'((first|refine .n fun h=>?_|refine .y fun h=>?_|fail)<;>cbv)
 (refine bX hde ((⟨parties,deals,funds,rest,holidays⟩,name,deal):jC×bH×bH) hdl ?_;try dsimp only)
 rw[←ho];cases o with
 |none=>
  have hr:=hrn rfl;subst hr;cbv;repeat'((first|refine .y fun h=>?_|fail)<;>cbv)
  (refine .q9 ?_;cbv;exact .inl (.g9 hK))
 |some i=>
  obtain⟨d,st,hd,hst,hokd,hnum⟩:=hat i rfl;have hr:=hra i d st rfl hd hst;clear hra hrn hat
  unfold Lt at hr;dsimp only at hr;have hml:=gD hokd;have hms:=kJ hokd;have hbl:=hokd.bx;have hsz:=hokd.sz;obtain⟨mk,hmk⟩:∃m,m=d.marks:=⟨_,rfl⟩
  have hmk2:d.de.boxes=mk:=hmk.symm;rw[←hmk]at hml hms;have hS5:S.length≤8:=by have:=hx.S;dsimp only at this;omega
  have hiS:i < S.length:=(aA.1 hst).1;rw[aF rfl,hmk2]at hr;obtain⟨S2,hS2⟩:∃S2,S2=S.set i 3:=⟨_,rfl⟩
  have eS2:oQ ⟨S,free,⟨c,L⟩,H,D⟩ i 3=⟨S2,free,⟨c,L⟩,H,D⟩:=by rw[hS2];rfl
  rw[eS2]at hr;obtain⟨dn,dsel,dbuy,dcar,diss,dhou,dins,dfrm,dto,dcur,damt,dbx,dterm,dlat,dexp,dten,dduty⟩:=d;dsimp only at hnum hbl hsz;subst hnum;cbv;repeat'((first|refine .e ?_|refine .n fun h=>?_|refine .y fun h=>?_|refine .mk (fun h=>?_) fun h=>?_|fail)<;>cbv)
  all_goals first
  |(rw[aF (by assumption)]at hr
    subst hr
    (refine .q9 ?_;cbv;exact .inl (.g9 hK)))
  |skip
  rw[aE (fun h=>h (by assumption))]at hr;replace hr:r=(⟨S2,free,⟨c,L⟩,H,D⟩,[⟨eS,dbuy,0,26,0,dn,eS,eS,0,day,eS,0,[],mk⟩],0):=hr;subst hr
  (refine bX hsd ((⟨S,free,⟨c,L⟩,H,D⟩,i,3):Cs×Nat×Int) ⟨hS5,hiS⟩ ?_;try dsimp only)
  rw[eS2];cbv
  (refine bX hmr (⟨dn,dsel,dbuy,dcar,diss,dhou,dins,dfrm,dto,dcur,damt,dbx,dterm,dlat,dexp,dten,dduty⟩:jD) hbl ?_;try dsimp only)
  rw[←hmk];cbv;repeat'((first|refine And.intro ?_ ?_|fail)<;>cbv)
  all_goals
   refine cZ (Gh.leAt 5 (.row 58 14 (bJ eL [⟨eS,dbuy,0,26,0,dn,eS,eS,0,day,eS,0,[],mk⟩])) rfl (sX Bh)) ?_;cbv;refine cZ (Gh.plain 5 rfl) ?_;cbv
   (refine .q9 ?_;cbv;exact .inl (.g9 hK))
theorem yT (P:bI) (hde:bK P 13 nV) (hsd:bK P 94 qP) (hbl5:bK P 95 zO) (his:bK P 96 tU) (hla:bK P 97 Gu):bM P W5 (Uj fun k=>k=5):=by
 intro args H0 K hc;obtain⟨⟨s,name,x,⟨kind,an,deal⟩,day⟩,rfl,rfl,⟨hkind,hs,hx,⟨hnz,hdz⟩,hday⟩,hK⟩:=hc;refine⟨cL,?_⟩;dsimp only at hkind hs hx hnz hdz hday hK⊢;obtain⟨r,hr⟩:∃r,r=kZ eV s.su name x kind deal day:=⟨_,rfl⟩
 rw[←hr]at hK;have hdl:=hs.de;obtain⟨o,ho⟩:∃o,o=dP s.su name deal:=⟨_,rfl⟩
 have hat:∀i,o=some i→∃d st,s.deals[i]?=some d∧x.S[i]?=some st∧Gq d∧d.number=deal:=fun i hi=>by
  rw[ho]at hi;obtain⟨d,h1,h2,h3⟩:=oZ hi;have hil:=(aA.1 h1).1;exact⟨d,_,h1,aB (by rw[hx.S];exact hil),hs.ok d (aC h1),h3⟩
 have hrn:o=none→r=(x,[],4):=fun h=>by rw[hr];exact Ce (by omega) (ho.symm.trans h)
 have hra:∀i d st,o=some i→s.deals[i]?=some d→x.S[i]?=some st→r=Lt eV name x kind i d.de st day:=fun i d st h1 h3 h4=>by
  rw[hr];exact IJ (by omega) (ho.symm.trans h1) (by show (s.deals.map jD.de)[i]?=_;rw[aD,h3];rfl) h4
 clear hr;obtain⟨parties,deals,funds,rest,holidays⟩:=s;obtain⟨S,free,⟨c,L⟩,H,D⟩:=x;subst hkind;dsimp only at hdl ho hat hra;cbv;repeat'((first|refine .y fun h=>?_|fail)<;>cbv)
 (refine bX hde ((⟨parties,deals,funds,rest,holidays⟩,name,deal):jC×bH×bH) hdl ?_;try dsimp only)
 rw[←ho];cases o with
 |none=>
  have hr:=hrn rfl;subst hr;cbv;repeat'((first|refine .y fun h=>?_|fail)<;>cbv)
  (refine .q9 ?_;cbv;exact .inl (.g9 hK))
 |some i=>
  obtain⟨d,st,hd,hst,hokd,hnum⟩:=hat i rfl;have hr:=hra i d st rfl hd hst;clear hra hrn hat
  unfold Lt at hr;dsimp only at hr;have hml:=gD hokd;have hms:=kJ hokd;have hbl:=hokd.bx;have hsz:=hokd.sz;obtain⟨mk,hmk⟩:∃m,m=d.marks:=⟨_,rfl⟩
  have hmk2:d.de.boxes=mk:=hmk.symm;rw[←hmk]at hml hms;have hS5:S.length≤8:=by have:=hx.S;dsimp only at this;omega
  have hiS:i < S.length:=(aA.1 hst).1;rw[aE (by decide)]at hr;have hxf:=hx.few;have hxa:=hx.all;obtain⟨b,hb⟩:∃b:Bl,b=gQ name (cN d.de 0 true) day:=⟨_,rfl⟩
  have hbb:gQ name (cN d.de st true) day=b:=by rw[hb];rfl
  have hbm:b=⟨PJ++d.number,name,d.seller,d.frm,d.to,mk,[],day,true⟩:=by rw[hb,hmk];rfl
  have hbz:b.number.size≤1000∧b.shipper.size≤1000∧b.frm.size≤1000∧b.to.size≤1000:=by
   rw[hbm];have h3:PJ.size=3:=rfl;have:=ByteArray.size_append (a:=PJ) (b:=d.number);exact⟨by dsimp only;omega,by dsimp only;omega,by dsimp only;omega,by dsimp only;omega⟩
  have hIP:Nh ⟨⟨c,L⟩,b,d.seller⟩:=by
   refine⟨hxf,fun y hy=>(hxa y hy).2,?_,⟨by show b.number.size≤maxLen;unfold maxLen;omega,by show b.shipper.size≤maxLen;unfold maxLen;omega,by show b.frm.size≤maxLen;unfold maxLen;omega,by show b.to.size≤maxLen;unfold maxLen;omega,?_⟩,by show d.seller.size≤maxLen;unfold maxLen;omega⟩
   ·show b.boxes.length≤5000∧b.parents.length≤5000;rw[hbm];exact⟨by dsimp only;omega,aI _⟩
   ·rw[hbm];intro s hs;cases hs
  have hLP:SJ b:=by
   rw[hbm];exact⟨⟨by dsimp only;omega,fun s hs=>by have:=hms s hs;omega⟩,⟨aI _,fun s hs=>by cases hs⟩,hday⟩
  rw[hbb]at hr;obtain⟨⟨dk,dn1,di,dfs⟩,hdc⟩:∃q,q=eV b:=⟨_,rfl⟩
  obtain⟨S2,hS2⟩:∃S2,S2=S.set i 2:=⟨_,rfl⟩
  have eS2:oQ ⟨S,free,⟨c,L⟩,H,D⟩ i 2=⟨S2,free,⟨c,L⟩,H,D⟩:=by rw[hS2];rfl
  rw[eS2,←hdc]at hr;obtain⟨e9,he9⟩:∃e,e=gP ⟨⟨c,L⟩,b,d.seller⟩:=⟨_,rfl⟩
  obtain⟨⟨c9,L9⟩,hR9⟩:∃R,R=jY ⟨⟨c,L⟩,b,d.seller⟩:=⟨_,rfl⟩
  have hr1:st≠1→r=(⟨S,free,⟨c,L⟩,H,D⟩,[],9):=fun h=>by rw[hr,aF h]
  have hr2:st=1→e9≠0→r=(⟨S,free,⟨c,L⟩,H,D⟩,[],e9):=fun h h1=>by
   rw[hr,aE (fun h2=>h2 h)];show (if gP ⟨⟨c,L⟩,b,d.seller⟩≠0 then ((⟨S,free,⟨c,L⟩,H,D⟩:Cs),([]:List dQ),gP ⟨⟨c,L⟩,b,d.seller⟩) else _)=_;rw[←he9,aF h1]
  have hr3:st=1→e9=0→r=(⟨S2,free,⟨c9,L9⟩,H,D⟩,[⟨eS,d.seller,0,5,0,d.number,eS,eS,0,day,eS,0,[⟨dk,dn1,di,dfs⟩],[]⟩],0):=fun h h1=>by
   rw[hr,aE (fun h2=>h2 h)];show (if gP ⟨⟨c,L⟩,b,d.seller⟩≠0 then _ else (({ (⟨S2,free,⟨c,L⟩,H,D⟩:Cs)with reg:=jY ⟨⟨c,L⟩,b,d.seller⟩ }:Cs),_))=_;rw[←he9,aE (fun h=>h h1),←hR9];rfl
  clear hr;obtain⟨dn,dsel,dbuy,dcar,diss,dhou,dins,dfrm,dto,dcur,damt,dbx,dterm,dlat,dexp,dten,dduty⟩:=d;dsimp only at hnum hbl hsz;subst hnum;cbv;repeat'((first|refine .e ?_|refine .n fun h=>?_|refine .mk (fun h=>?_) fun h=>?_|fail)<;>cbv)
  all_goals first
  |(have hr:=hr1 (by assumption)
    subst hr
    (refine .q9 ?_;cbv;exact .inl (.g9 hK)))
  |skip
  (refine bX hbl5 (((⟨dn,dsel,dbuy,dcar,diss,dhou,dins,dfrm,dto,dcur,damt,dbx,dterm,dlat,dexp,dten,dduty⟩:jD),name,day):jD×bH×Int) ⟨hbl,hdz⟩ ?_;try dsimp only)
  rw[←hb];obtain⟨bnum,bcar,bshi,bfrm,bto,bboxes,bpar,biss,bcl⟩:=b;cbv
  (refine bX his (⟨⟨c,L⟩,⟨bnum,bcar,bshi,bfrm,bto,bboxes,bpar,biss,bcl⟩,dsel⟩:oR) hIP ?_;try dsimp only)
  rw[←he9,←hR9];cbv;repeat'((first|refine .mk (fun h=>?_) fun h=>?_|fail)<;>cbv)
  all_goals first
  |(have hr:=hr2 (by assumption) (by assumption)
    subst hr
    (refine .q9 ?_;cbv;exact .inl (.g9 hK)))
  |skip
  have hr:=hr3 (by assumption) (by assumption);subst hr
  (refine bX hsd ((⟨S,free,⟨c,L⟩,H,D⟩,i,2):Cs×Nat×Int) ⟨hS5,hiS⟩ ?_;try dsimp only)
  rw[eS2];cbv
  (refine bX hla (⟨bnum,bcar,bshi,bfrm,bto,bboxes,bpar,biss,bcl⟩:Bl) hLP ?_;try dsimp only)
  rw[←hdc];cbv;repeat'((first|refine And.intro ?_ ?_|fail)<;>cbv)
  all_goals
   refine cZ (Gh.leAt 8 (.row 58 14 (bJ eL [⟨eS,dsel,0,5,0,dn,eS,eS,0,day,eS,0,[⟨dk,dn1,di,dfs⟩],[]⟩])) rfl (sX Bh)) ?_;cbv;refine cZ (Gh.plain 8 rfl) ?_;cbv
   (refine .q9 ?_;cbv;exact .inl (.g9 hK))
theorem JJ {P:bI}(hde:bK P 13 nV) (hsd:bK P 94 qP) (hmr:bK P 20 pP) (hbl5:bK P 95 zO) (his:bK P 96 tU) (hla:bK P 97 Gu):bM P W5 (Uj fun _=>True):=by
 intro args H0 K hc;obtain⟨q,h1,h2,⟨-,h4⟩,h5⟩:=hc;by_cases k1:q.a.kind=5
 ·exact yT P hde hsd hbl5 his hla args H0 K ⟨q,h1,h2,⟨k1,h4⟩,h5⟩
 by_cases k2:q.a.kind=6
 ·exact yO P hde hsd hmr args H0 K ⟨q,h1,h2,⟨k2,h4⟩,h5⟩
 exact Fs P args H0 K ⟨q,h1,h2,⟨fun h=>by rcases h with h|h<;>contradiction,h4⟩,h5⟩
end Go.Proofs.YtigdiekbiphhmaaGreatDoor
end
