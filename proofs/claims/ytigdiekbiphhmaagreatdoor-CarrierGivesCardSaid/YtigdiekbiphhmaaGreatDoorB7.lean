/-
  Texts of this proof,joined: CWJ,SI3,SI1,SI2,SI5,SIZ,CWO,CWP,CWR,CWS,CWT,CWQ,CWU,CWK,CWL,CWM.
-/
import Derived.Test.YtigdiekbiphhmaaGreatDoorB6
set_option linter.unusedVariables false
set_option linter.unusedSimpArgs false
noncomputable section
namespace Go.Proofs.YtigdiekbiphhmaaGreatDoor
open Go.RowKit
set_option maxHeartbeats 8000000
set_option maxRecDepth 100000
structure Xf (name:bG) (d:De) (day:Int) (H:List XL) (bs:List bG) (p:Nat×List XL):Prop where
 le:p.1≤bs.length
 eq:iG name d day H bs=iG name d day p.2 (bs.drop p.1)
 len:p.2.length≤H.length+2 * p.1
structure Oe where
 x:Cs
 d:iW
 i:Nat
 name:bG
 day:Int
structure Pr (q:Oe):Prop where
 len:q.x.H.length≤50000
 ok:Fd q.d
 S:q.x.S.length≤8∧q.i < q.x.S.length
 sz:q.name.size≤1000
def zF (q:Oe):Cs:=match iG q.name q.d.de q.day q.x.H q.d.marks with
 |none=>q.x
 |some H=>iQ { q.x with H:=H } q.i 1
def xZ:dN:=spec (fun q:Oe=>[D8 q.x,iJ q.d,.i (nI q.i),.str q.name,.i q.day]) (fun _=>[]) Pr (fun q=>D8 (zF q)) fun _=>[]
theorem DC (P:bH) (hm:bJ P 20 mV) (hb:bJ P 140 BX) (hh:bJ P 141 Cg) (hs:bJ P 94 pQ):bN P Xx xZ:=by
 intro args H K hc;obtain⟨⟨⟨S,free,⟨c,L⟩,H,D⟩,d,i,name,day⟩,rfl,rfl,hp,hK⟩:=hc;refine⟨cN,?_⟩;dsimp only at hp hK⊢;obtain⟨hl,hok,⟨hS8,hiS⟩,hnm⟩:=hp
 try dsimp only at hl hS8 hiS hnm
 have hml:=fV hok;have hms:=kB hok;have hbl:=hok.bx;have hsz:=hok.sz;obtain⟨bs,hbs⟩:∃q,q=d.marks:=⟨_,rfl⟩
 obtain⟨q,hq⟩:∃q,q=iG name d.de day H bs:=⟨_,rfl⟩
 replace hK:K (D8 (zF ⟨⟨S,free,⟨c,L⟩,H,D⟩,d,i,name,day⟩)) []:=hK;unfold zF at hK;dsimp only at hK;rw[←hbs,←hq]at hK;rw[←hbs]at hml hms;obtain⟨n,hn⟩:∃n:Nat,n=bs.length:=⟨_,rfl⟩
 obtain⟨de,hde⟩:∃e,e=d.de:=⟨_,rfl⟩
 have hdS:de.seller=d.seller:=by rw[hde];rfl
 have hdF:de.frm=d.frm:=by rw[hde];rfl
 rw[←hde]at hq;clear hok;obtain⟨number,seller,buyer,carrier,issuer,house,insurer,frm,to,cur,amt,boxes,term,latest,expiry,tenor,duty⟩:=d
 try dsimp only at hbl hdS hdF hsz
 clear hde;cbv
 (refine XG hm (⟨number,seller,buyer,carrier,issuer,house,insurer,frm,to,cur,amt,boxes,term,latest,expiry,tenor,duty⟩:iW) hbl ?_;try dsimp only)
 rw[←hbs];cbv;refine bV [] (fun p:{ p:Nat×List XL // Xf name de day H bs p }=>[(11,.sl 5 (bI dC p.1.2)),(13,.i (nI p.1.1))]) (fun _=>[.blk 41 [.sl 1 (bI cY S),.sl 1 (bI mR free),.str c,.sl 11 (bI iD L),.sl 5 (bI dC H),.sl 5 (bI dC D)],.blk 67 [.str number,.str seller,.str buyer,.str carrier,.str issuer,.str house,.str insurer,.str frm,.str to,.str cur,.i amt,.sl 3 (bI EW boxes),.i term,.i latest,.i expiry,.i tenor,.i duty],.blk 41 [.v (.slice none 0 0),.v (.slice none 0 0),.str ⟨#[]⟩,.v (.slice none 0 0),.v (.slice none 0 0),.v (.slice none 0 0)]]) (fun p=>fK n p.1.1) ⟨(0,H),⟨aI _,rfl,aN _⟩⟩ ?_;rintro ⟨⟨k,Hk⟩,⟨hk,heq,hlen⟩⟩;dsimp only at hk heq hlen⊢;rcases aL k bs.length with hks|hks
 rotate_left
 ·obtain rfl:k=n:=by omega
  rw[List.drop_of_length_le (by omega),←hq]at heq;have e1:q=some Hk:=heq;rw[e1]at hK;dsimp only at hK;cbv;repeat'((first|refine .n fun h=>?_|refine .k fun z hz=>?_|fail)<;>cbv)
  obtain⟨S2,hS2⟩:∃S2,S2=S.set i 1:=⟨_,rfl⟩
  have eS2:iQ ⟨S,free,⟨c,L⟩,Hk,D⟩ i 1=⟨S2,free,⟨c,L⟩,Hk,D⟩:=by rw[hS2];rfl
  (refine XG hs ((⟨S,free,⟨c,L⟩,Hk,D⟩,i,1):Cs×Nat×Int) ⟨hS8,hiS⟩ ?_;try dsimp only)
  rw[eS2]at hK⊢;cbv
  (refine .q9 ?_;cbv;exact .inl (.f9 hK))
 obtain⟨b,hx⟩:=cM hks;have hbz:=hms b (aC hx);have hdr:bs.drop k=b :: bs.drop (k+1):=by
  obtain⟨h1,rfl⟩:=aA.1 hx;exact List.drop_eq_getElem_cons h1
 have heq2:iG name de day H bs=if rE Hk ⟨b,eS,seller,frm,day⟩≠0 then none else if eW (Hk++[⟨b,eS,seller,frm,day⟩]) ⟨b,seller,name,frm,day⟩≠0 then none else iG name de day (Hk++[⟨b,eS,seller,frm,day⟩]++[⟨b,seller,name,frm,day⟩]) (bs.drop (k+1)):=by
  rw[heq,hdr,←hdS,←hdF];rfl
 clear heq hdr;obtain⟨e,he⟩:∃e,e=rE Hk ⟨b,eS,seller,frm,day⟩:=⟨_,rfl⟩
 obtain⟨H2,hH2⟩:∃H2,H2=Hk++[⟨b,eS,seller,frm,day⟩]:=⟨_,rfl⟩
 have hH2l:H2.length=Hk.length+1:=by rw[hH2];simp
 rw[←he,←hH2]at heq2;obtain⟨e2,he2⟩:∃e,e=eW H2 ⟨b,seller,name,frm,day⟩:=⟨_,rfl⟩
 rw[←he2]at heq2;have hlong:∀s:bG,s.size≤1000→s.size≤maxLen:=fun s h=>by unfold maxLen;omega
 cbv;repeat'((first|refine .e ?_|refine .y fun h=>?_|refine .k fun z hz=>?_|fail)<;>cbv)
 (refine XG hb ((Hk,⟨b,eS,seller,frm,day⟩):List XL×XL) ⟨by dsimp only;omega,hlong _ (by dsimp only;omega),hlong _ (by dsimp only;omega),hlong _ (by dsimp only;omega)⟩ ?_;try dsimp only)
 rw[←he];cbv;repeat'((first|refine .e ?_|refine .mk (fun h=>?_) fun h=>?_|refine .o ?_|refine .zl fun zs hzs hzl=>?_|refine And.intro ?_ ?_|fail)<;>cbv)
 all_goals first
  |(rw[aF (by assumption),←hq]at heq2
    rw[heq2]at hK
    (refine .q9 ?_;cbv;exact .inl (.f9 hK)))
  |skip
 all_goals
  rw[aE (fun h=>h (by assumption))]at heq2;obtain rfl:zs=bI dC H2:=by(rw[hH2,cB,cE];first|exact hzs|(subst_vars;rfl))
  first
  |(refine kN 3 rfl ?_
    cbv
    (refine XG hh ((H2,⟨b,seller,name,frm,day⟩):List XL×XL) ⟨by dsimp only;omega,hlong _ (by dsimp only;omega),hlong _ (by dsimp only;omega),hlong _ (by dsimp only;omega),hlong _ (by dsimp only;omega)⟩ ?_;try dsimp only))
  |(refine kN 4 rfl ?_
    cbv
    (refine XG hh ((H2,⟨b,seller,name,frm,day⟩):List XL×XL) ⟨by dsimp only;omega,hlong _ (by dsimp only;omega),hlong _ (by dsimp only;omega),hlong _ (by dsimp only;omega),hlong _ (by dsimp only;omega)⟩ ?_;try dsimp only))
  |(refine kN 5 rfl ?_
    cbv
    (refine XG hh ((H2,⟨b,seller,name,frm,day⟩):List XL×XL) ⟨by dsimp only;omega,hlong _ (by dsimp only;omega),hlong _ (by dsimp only;omega),hlong _ (by dsimp only;omega),hlong _ (by dsimp only;omega)⟩ ?_;try dsimp only))
  |(refine kN 6 rfl ?_
    cbv
    (refine XG hh ((H2,⟨b,seller,name,frm,day⟩):List XL×XL) ⟨by dsimp only;omega,hlong _ (by dsimp only;omega),hlong _ (by dsimp only;omega),hlong _ (by dsimp only;omega),hlong _ (by dsimp only;omega)⟩ ?_;try dsimp only))
  rw[←he2];cbv;repeat'((first|refine .mk (fun h=>?_) fun h=>?_|refine .k fun z hz=>?_|refine .o ?_|refine .zl fun zs hzs hzl=>?_|refine And.intro ?_ ?_|fail)<;>cbv)
  all_goals first
   |(rw[aF (by assumption),←hq]at heq2
     rw[heq2]at hK
     (refine .q9 ?_;cbv;exact .inl (.f9 hK)))
   |(rw[aE (fun h=>h (by assumption))]at heq2
     obtain rfl:z=nI (k+1):=bS;obtain rfl:zs=bI dC (H2++[⟨b,seller,name,frm,day⟩]):=by(rw[cB,cE];first|exact hzs|(subst_vars;rfl))
     refine dV (Gh.plain 8 rfl) ?_;cbv;exact bL ⟨(k+1,H2++[⟨b,seller,name,frm,day⟩]),⟨hks,heq2,by(show (H2++[_]).length≤H.length+2 * (k+1);rw[aM,List.length_cons,List.length_nil];omega)⟩⟩ (bM (by omega)))
set_option maxHeartbeats 4000000
theorem jD {L a b:List Br}{y:Br}{i:Nat}{x:AV}{n:Int}{zs1 zs:List AV}(h4:zs=zs1++bI iD b) (h2:b=List.drop ((some n).getD 0).toNat (List.take ((none:Option Int).getD (L.length:Int)).toNat L)) (h3:zs1=bI iD a++[x]) (h1:a=List.drop ((none:Option Int).getD 0).toNat (List.take ((some (Int.ofNat i)).getD (L.length:Int)).toNat L)) (hx:x=iD y) (hn:n=Int.ofNat i+1) (hi:i < L.length):zs=bI iD (L.set i y):=by
 have e1:a=L.take i:=by rw[h1];simp
 have e2:b=L.drop (i+1):=by
  rw[h2,hn];have:((some (Int.ofNat i+1)).getD 0).toNat=i+1:=by show ((i:Int)+1).toNat=i+1;omega
  rw[this];simp
 rw[h4,h3,e1,e2,hx,List.set_eq_take_append_cons_drop,aF hi,cB];have e:bI iD (y :: L.drop (i+1))=iD y :: bI iD (L.drop (i+1)):=rfl;rw[e,XI];rfl
theorem JI (P:bH) (hw:bJ P 142 mK) (hf:bJ P 63 rN) (hwh:bJ P 143 nV):bN P IW (pE 3):=by
 intro args H K hc;obtain⟨⟨⟨carrier,L⟩,a⟩,rfl,rfl,hp,hK⟩:=hc;refine⟨cN,?_⟩;dsimp only at hp hK⊢;obtain⟨hkind,_,hfew,hall,hok,hsz,hts⟩:=hp;dsimp only at hkind hfew hall hok hsz hts;have hd:iN ⟨carrier,L⟩ a=(⟨carrier,fY L (cR a) (jH a)⟩,eE L (cR a)):=by unfold iN;rw[aE (by omega)]
 rw[hd]at hK;clear hd;obtain⟨e,he⟩:∃e,e=eE L (cR a):=⟨_,rfl⟩
 obtain⟨L',hL'⟩:∃L',L'=fY L (cR a) (jH a):=⟨_,rfl⟩
 rw[←he,←hL']at hK;unfold fY at hL';rw[←he]at hL';obtain⟨kind,index,day,bill,by_,to,b⟩:=a;obtain rfl:kind=3:=hkind;obtain⟨nq2,cq2,sq2,frm2,to2,bq2,pq2,iq2,lq2⟩:=b;cbv;repeat'((first|refine .n fun h=>?_|fail)<;>cbv)
 (refine XG hw ((⟨carrier,L⟩:Rg),(⟨3,index,day,bill,by_,to,⟨nq2,cq2,sq2,frm2,to2,bq2,pq2,iq2,lq2⟩⟩:At)) ⟨⟨by show (1:Int)≤3;decide,by show (3:Int)≤5;decide⟩,hfew,fun b hb=>(hall b hb).1,hts⟩ ?_;try dsimp only)
 rw[←he];cbv;repeat'((first|refine .mk (fun h=>?_) fun h=>?_|fail)<;>cbv)
 ·rw[aF (by assumption:e=0)]at hL';have h0:e=0:=by assumption
  rw[h0]at hK;obtain⟨f,hf1⟩:∃f,f=oG (fun y:Br=>decide (y.b.number=bill)) L:=⟨_,rfl⟩
  (refine XG hf ((⟨carrier,L⟩:Rg),bill) (by dsimp only;omega) ?_;try dsimp only)
  rw[←hf1];cases hb:qQ L bill with
  |none=>exact(jP (he.symm.trans (by assumption:e=0)) hb).elim
  |some i=>
   rw[kY,hb]at hf1;dsimp only at hf1;subst hf1;obtain⟨x,hx,_⟩:=dY hb;have hii:=(aA.1 hx).1;have hz:=kQ (he.symm.trans (by assumption:e=0)) hb hx;have hk:=mB hz;clear hz;have hL':L'=AR L bill (sO index (Aa 3)):=hL';rw[gK _ hb hx]at hL';have hki:0≤index∧index < 3:=hk;have hk3:index=0∨index=1∨index=2:=by omega
   obtain⟨⟨nq1,cq1,sq1,frm1,to1,bq1,pq1,iq1,lq1⟩,st1,⟨sa1,ha1,ca1⟩,⟨sb1,hb1,cb1⟩,⟨sc1,hc1,cc1⟩⟩:=x;rcases hk3 with rfl|rfl|rfl
   ·obtain rfl:L'=L.set i ⟨⟨nq1,cq1,sq1,frm1,to1,bq1,pq1,iq1,lq1⟩,st1,⟨3,ha1,ca1⟩,⟨sb1,hb1,cb1⟩,⟨sc1,hc1,cc1⟩⟩:=hL';cbv;repeat'((first|refine .e ?_|refine .zl fun zs hzs hzl=>?_|fail)<;>cbv)
    obtain rfl:zs=[.agg [.i sa1,.str ha1,.sl 4 (bI bW ca1)],.agg [.i sb1,.str hb1,.sl 4 (bI bW cb1)],.agg [.i sc1,.str hc1,.sl 4 (bI bW cc1)]]:=hzs
    (refine XG hwh (⟨3,0,day,bill,by_,to,⟨nq2,cq2,sq2,frm2,to2,bq2,pq2,iq2,lq2⟩⟩:At) trivial ?_;try dsimp only)
    rw[aE (by decide)];cbv;refine bV [4] (fun q:{ j:Nat // j≤1 }=>[(11,.i (nI q.1)),(9,fP q.1 (.hd 4) (.sl 3 [.agg [.i 3,.str ha1,.sl 4 (bI bW ca1)],.agg [.i sb1,.str hb1,.sl 4 (bI bW cb1)],.agg [.i sc1,.str hc1,.sl 4 (bI bW cc1)]]) .any .any)]) (fun q=>[.blk 38 [.str carrier,.sl 11 (bI iD L)],.blk 204 (xD ⟨3,0,day,bill,by_,to,⟨nq2,cq2,sq2,frm2,to2,bq2,pq2,iq2,lq2⟩⟩),.blk 38 [.str ⟨⟨[]⟩⟩,.v (.slice none 0 0)],.blk 104 (xJ ⟨⟨nq1,cq1,sq1,frm1,to1,bq1,pq1,iq1,lq1⟩,st1,⟨sa1,ha1,ca1⟩,⟨sb1,hb1,cb1⟩,⟨sc1,hc1,cc1⟩⟩),fP q.1 (.row 107 3 [.agg [.i sa1,.str ha1,.sl 4 (bI bW ca1)],.agg [.i sb1,.str hb1,.sl 4 (bI bW cb1)],.agg [.i sc1,.str hc1,.sl 4 (bI bW cc1)]]) (.tip 107 3 [.agg [.i 3,.str ha1,.sl 4 (bI bW ca1)],.agg [.i sb1,.str hb1,.sl 4 (bI bW cb1)],.agg [.i sc1,.str hc1,.sl 4 (bI bW cc1)]]) .dead .dead]) (fun q=>fK 1 q.1) ⟨0,by decide⟩ ?_;rintro ⟨j,hj⟩;dsimp only at hj⊢;have hj2:j=0∨j=1:=by omega
    rcases hj2 with rfl|rfl
    ·cbv;repeat'((first|refine .n fun h=>?_|refine .y fun h=>?_|refine .k fun z hz=>?_|refine .z fun zs hzs=>?_|refine bP.i0 ?_|refine bO.i0 ?_|fail)<;>cbv)
     obtain rfl:zs=[.agg [.i 3,.str ha1,.sl 4 (bI bW ca1)],.agg [.i sb1,.str hb1,.sl 4 (bI bW cb1)],.agg [.i sc1,.str hc1,.sl 4 (bI bW cc1)]]:=hzs;obtain rfl:z=nI 1:=bS;refine dV (Gh.plain 4 rfl) ?_;cbv;exact bL ⟨1,by decide⟩ (bM (by decide))
    ·cbv;repeat'((first|refine .n fun h=>?_|refine .k fun z hz=>?_|refine .o ?_|refine .l fun ys hys hyl=>?_|refine .zl fun zs hzs hzl=>?_|refine And.intro ?_ ?_|fail)<;>cbv)
     all_goals
      obtain rfl:zs=bI iD (L.set i ⟨⟨nq1,cq1,sq1,frm1,to1,bq1,pq1,iq1,lq1⟩,st1,⟨3,ha1,ca1⟩,⟨sb1,hb1,cb1⟩,⟨sc1,hc1,cc1⟩⟩):=jD hzs hys (by assumption) (by assumption) rfl bS hii
      (refine .r9 (Gh.plain 5 rfl) ?_;cbv;exact .inl (.g9 hK))
   ·obtain rfl:L'=L.set i ⟨⟨nq1,cq1,sq1,frm1,to1,bq1,pq1,iq1,lq1⟩,st1,⟨sa1,ha1,ca1⟩,⟨3,hb1,cb1⟩,⟨sc1,hc1,cc1⟩⟩:=hL';cbv;repeat'((first|refine .e ?_|refine .zl fun zs hzs hzl=>?_|fail)<;>cbv)
    obtain rfl:zs=[.agg [.i sa1,.str ha1,.sl 4 (bI bW ca1)],.agg [.i sb1,.str hb1,.sl 4 (bI bW cb1)],.agg [.i sc1,.str hc1,.sl 4 (bI bW cc1)]]:=hzs
    (refine XG hwh (⟨3,1,day,bill,by_,to,⟨nq2,cq2,sq2,frm2,to2,bq2,pq2,iq2,lq2⟩⟩:At) trivial ?_;try dsimp only)
    rw[aE (by decide)];cbv;refine bV [4] (fun q:{ j:Nat // j≤1 }=>[(11,.i (nI q.1)),(9,fP q.1 (.hd 4) (.sl 3 [.agg [.i sa1,.str ha1,.sl 4 (bI bW ca1)],.agg [.i 3,.str hb1,.sl 4 (bI bW cb1)],.agg [.i sc1,.str hc1,.sl 4 (bI bW cc1)]]) .any .any)]) (fun q=>[.blk 38 [.str carrier,.sl 11 (bI iD L)],.blk 204 (xD ⟨3,1,day,bill,by_,to,⟨nq2,cq2,sq2,frm2,to2,bq2,pq2,iq2,lq2⟩⟩),.blk 38 [.str ⟨⟨[]⟩⟩,.v (.slice none 0 0)],.blk 104 (xJ ⟨⟨nq1,cq1,sq1,frm1,to1,bq1,pq1,iq1,lq1⟩,st1,⟨sa1,ha1,ca1⟩,⟨sb1,hb1,cb1⟩,⟨sc1,hc1,cc1⟩⟩),fP q.1 (.row 107 3 [.agg [.i sa1,.str ha1,.sl 4 (bI bW ca1)],.agg [.i sb1,.str hb1,.sl 4 (bI bW cb1)],.agg [.i sc1,.str hc1,.sl 4 (bI bW cc1)]]) (.tip 107 3 [.agg [.i sa1,.str ha1,.sl 4 (bI bW ca1)],.agg [.i 3,.str hb1,.sl 4 (bI bW cb1)],.agg [.i sc1,.str hc1,.sl 4 (bI bW cc1)]]) .dead .dead]) (fun q=>fK 1 q.1) ⟨0,by decide⟩ ?_;rintro ⟨j,hj⟩;dsimp only at hj⊢;have hj2:j=0∨j=1:=by omega
    rcases hj2 with rfl|rfl
    ·cbv;repeat'((first|refine .n fun h=>?_|refine .y fun h=>?_|refine .k fun z hz=>?_|refine .z fun zs hzs=>?_|refine bP.i0 ?_|refine bP.i1 ?_|refine bO.i1 ?_|fail)<;>cbv)
     obtain rfl:zs=[.agg [.i sa1,.str ha1,.sl 4 (bI bW ca1)],.agg [.i 3,.str hb1,.sl 4 (bI bW cb1)],.agg [.i sc1,.str hc1,.sl 4 (bI bW cc1)]]:=hzs;obtain rfl:z=nI 1:=bS;refine dV (Gh.plain 4 rfl) ?_;cbv;exact bL ⟨1,by decide⟩ (bM (by decide))
    ·cbv;repeat'((first|refine .n fun h=>?_|refine .k fun z hz=>?_|refine .o ?_|refine .l fun ys hys hyl=>?_|refine .zl fun zs hzs hzl=>?_|refine And.intro ?_ ?_|fail)<;>cbv)
     all_goals
      obtain rfl:zs=bI iD (L.set i ⟨⟨nq1,cq1,sq1,frm1,to1,bq1,pq1,iq1,lq1⟩,st1,⟨sa1,ha1,ca1⟩,⟨3,hb1,cb1⟩,⟨sc1,hc1,cc1⟩⟩):=jD hzs hys (by assumption) (by assumption) rfl bS hii
      (refine .r9 (Gh.plain 5 rfl) ?_;cbv;exact .inl (.g9 hK))
   ·obtain rfl:L'=L.set i ⟨⟨nq1,cq1,sq1,frm1,to1,bq1,pq1,iq1,lq1⟩,st1,⟨sa1,ha1,ca1⟩,⟨sb1,hb1,cb1⟩,⟨3,hc1,cc1⟩⟩:=hL';cbv;repeat'((first|refine .e ?_|refine .zl fun zs hzs hzl=>?_|fail)<;>cbv)
    obtain rfl:zs=[.agg [.i sa1,.str ha1,.sl 4 (bI bW ca1)],.agg [.i sb1,.str hb1,.sl 4 (bI bW cb1)],.agg [.i sc1,.str hc1,.sl 4 (bI bW cc1)]]:=hzs
    (refine XG hwh (⟨3,2,day,bill,by_,to,⟨nq2,cq2,sq2,frm2,to2,bq2,pq2,iq2,lq2⟩⟩:At) trivial ?_;try dsimp only)
    rw[aE (by decide)];cbv;refine bV [4] (fun q:{ j:Nat // j≤1 }=>[(11,.i (nI q.1)),(9,fP q.1 (.hd 4) (.sl 3 [.agg [.i sa1,.str ha1,.sl 4 (bI bW ca1)],.agg [.i sb1,.str hb1,.sl 4 (bI bW cb1)],.agg [.i 3,.str hc1,.sl 4 (bI bW cc1)]]) .any .any)]) (fun q=>[.blk 38 [.str carrier,.sl 11 (bI iD L)],.blk 204 (xD ⟨3,2,day,bill,by_,to,⟨nq2,cq2,sq2,frm2,to2,bq2,pq2,iq2,lq2⟩⟩),.blk 38 [.str ⟨⟨[]⟩⟩,.v (.slice none 0 0)],.blk 104 (xJ ⟨⟨nq1,cq1,sq1,frm1,to1,bq1,pq1,iq1,lq1⟩,st1,⟨sa1,ha1,ca1⟩,⟨sb1,hb1,cb1⟩,⟨sc1,hc1,cc1⟩⟩),fP q.1 (.row 107 3 [.agg [.i sa1,.str ha1,.sl 4 (bI bW ca1)],.agg [.i sb1,.str hb1,.sl 4 (bI bW cb1)],.agg [.i sc1,.str hc1,.sl 4 (bI bW cc1)]]) (.tip 107 3 [.agg [.i sa1,.str ha1,.sl 4 (bI bW ca1)],.agg [.i sb1,.str hb1,.sl 4 (bI bW cb1)],.agg [.i 3,.str hc1,.sl 4 (bI bW cc1)]]) .dead .dead]) (fun q=>fK 1 q.1) ⟨0,by decide⟩ ?_;rintro ⟨j,hj⟩;dsimp only at hj⊢;have hj2:j=0∨j=1:=by omega
    rcases hj2 with rfl|rfl
    ·cbv;repeat'((first|refine .n fun h=>?_|refine .y fun h=>?_|refine .k fun z hz=>?_|refine .z fun zs hzs=>?_|refine bP.i0 ?_|refine bP.i2 ?_|refine bO.i2 ?_|fail)<;>cbv)
     obtain rfl:zs=[.agg [.i sa1,.str ha1,.sl 4 (bI bW ca1)],.agg [.i sb1,.str hb1,.sl 4 (bI bW cb1)],.agg [.i 3,.str hc1,.sl 4 (bI bW cc1)]]:=hzs;obtain rfl:z=nI 1:=bS;refine dV (Gh.plain 4 rfl) ?_;cbv;exact bL ⟨1,by decide⟩ (bM (by decide))
    ·cbv;repeat'((first|refine .n fun h=>?_|refine .k fun z hz=>?_|refine .o ?_|refine .l fun ys hys hyl=>?_|refine .zl fun zs hzs hzl=>?_|refine And.intro ?_ ?_|fail)<;>cbv)
     all_goals
      obtain rfl:zs=bI iD (L.set i ⟨⟨nq1,cq1,sq1,frm1,to1,bq1,pq1,iq1,lq1⟩,st1,⟨sa1,ha1,ca1⟩,⟨sb1,hb1,cb1⟩,⟨3,hc1,cc1⟩⟩):=jD hzs hys (by assumption) (by assumption) rfl bS hii
      (refine .r9 (Gh.plain 5 rfl) ?_;cbv;exact .inl (.g9 hK))
 ·rw[aE (by assumption:¬e=0)]at hL';subst hL'
  (refine .q9 ?_;cbv;exact .inl (.f9 hK))
theorem Kg (P:bH) (hw:bJ P 142 mK) (hf:bJ P 63 rN) (hwh:bJ P 143 nV):bN P IW (pE 4):=by
 intro args H K hc;obtain⟨⟨⟨carrier,L⟩,a⟩,rfl,rfl,hp,hK⟩:=hc;refine⟨cN,?_⟩;dsimp only at hp hK⊢;obtain⟨hkind,_,hfew,hall,hok,hsz,hts⟩:=hp;dsimp only at hkind hfew hall hok hsz hts;have hd:iN ⟨carrier,L⟩ a=(⟨carrier,fY L (cR a) (jH a)⟩,eE L (cR a)):=by unfold iN;rw[aE (by omega)]
 rw[hd]at hK;clear hd;obtain⟨e,he⟩:∃e,e=eE L (cR a):=⟨_,rfl⟩
 obtain⟨L',hL'⟩:∃L',L'=fY L (cR a) (jH a):=⟨_,rfl⟩
 rw[←he,←hL']at hK;unfold fY at hL';rw[←he]at hL';obtain⟨kind,index,day,bill,by_,to,b⟩:=a;obtain rfl:kind=4:=hkind;obtain⟨nq2,cq2,sq2,frm2,to2,bq2,pq2,iq2,lq2⟩:=b;cbv;repeat'((first|refine .n fun h=>?_|fail)<;>cbv)
 (refine XG hw ((⟨carrier,L⟩:Rg),(⟨4,index,day,bill,by_,to,⟨nq2,cq2,sq2,frm2,to2,bq2,pq2,iq2,lq2⟩⟩:At)) ⟨⟨by show (1:Int)≤4;decide,by show (4:Int)≤5;decide⟩,hfew,fun b hb=>(hall b hb).1,hts⟩ ?_;try dsimp only)
 rw[←he];cbv;repeat'((first|refine .mk (fun h=>?_) fun h=>?_|fail)<;>cbv)
 ·rw[aF (by assumption:e=0)]at hL';have h0:e=0:=by assumption
  rw[h0]at hK;obtain⟨f,hf1⟩:∃f,f=oG (fun y:Br=>decide (y.b.number=bill)) L:=⟨_,rfl⟩
  (refine XG hf ((⟨carrier,L⟩:Rg),bill) (by dsimp only;omega) ?_;try dsimp only)
  rw[←hf1];cases hb:qQ L bill with
  |none=>exact(jP (he.symm.trans (by assumption:e=0)) hb).elim
  |some i=>
   rw[kY,hb]at hf1;dsimp only at hf1;subst hf1;obtain⟨x,hx,_⟩:=dY hb;have hii:=(aA.1 hx).1;have hz:=kQ (he.symm.trans (by assumption:e=0)) hb hx;have hk:=mB hz;clear hz;have hL':L'=AR L bill (sO index (Aa 0)):=hL';rw[gK _ hb hx]at hL';have hki:0≤index∧index < 3:=hk;have hk3:index=0∨index=1∨index=2:=by omega
   obtain⟨⟨nq1,cq1,sq1,frm1,to1,bq1,pq1,iq1,lq1⟩,st1,⟨sa1,ha1,ca1⟩,⟨sb1,hb1,cb1⟩,⟨sc1,hc1,cc1⟩⟩:=x;rcases hk3 with rfl|rfl|rfl
   ·obtain rfl:L'=L.set i ⟨⟨nq1,cq1,sq1,frm1,to1,bq1,pq1,iq1,lq1⟩,st1,⟨0,ha1,ca1⟩,⟨sb1,hb1,cb1⟩,⟨sc1,hc1,cc1⟩⟩:=hL';cbv;repeat'((first|refine .e ?_|refine .zl fun zs hzs hzl=>?_|fail)<;>cbv)
    obtain rfl:zs=[.agg [.i sa1,.str ha1,.sl 4 (bI bW ca1)],.agg [.i sb1,.str hb1,.sl 4 (bI bW cb1)],.agg [.i sc1,.str hc1,.sl 4 (bI bW cc1)]]:=hzs
    (refine XG hwh (⟨4,0,day,bill,by_,to,⟨nq2,cq2,sq2,frm2,to2,bq2,pq2,iq2,lq2⟩⟩:At) trivial ?_;try dsimp only)
    rw[aE (by decide)];cbv;refine bV [4] (fun q:{ j:Nat // j≤1 }=>[(11,.i (nI q.1)),(9,fP q.1 (.hd 4) (.sl 3 [.agg [.i 0,.str ha1,.sl 4 (bI bW ca1)],.agg [.i sb1,.str hb1,.sl 4 (bI bW cb1)],.agg [.i sc1,.str hc1,.sl 4 (bI bW cc1)]]) .any .any)]) (fun q=>[.blk 38 [.str carrier,.sl 11 (bI iD L)],.blk 204 (xD ⟨4,0,day,bill,by_,to,⟨nq2,cq2,sq2,frm2,to2,bq2,pq2,iq2,lq2⟩⟩),.blk 38 [.str ⟨⟨[]⟩⟩,.v (.slice none 0 0)],.blk 104 (xJ ⟨⟨nq1,cq1,sq1,frm1,to1,bq1,pq1,iq1,lq1⟩,st1,⟨sa1,ha1,ca1⟩,⟨sb1,hb1,cb1⟩,⟨sc1,hc1,cc1⟩⟩),fP q.1 (.row 107 3 [.agg [.i sa1,.str ha1,.sl 4 (bI bW ca1)],.agg [.i sb1,.str hb1,.sl 4 (bI bW cb1)],.agg [.i sc1,.str hc1,.sl 4 (bI bW cc1)]]) (.tip 107 3 [.agg [.i 0,.str ha1,.sl 4 (bI bW ca1)],.agg [.i sb1,.str hb1,.sl 4 (bI bW cb1)],.agg [.i sc1,.str hc1,.sl 4 (bI bW cc1)]]) .dead .dead]) (fun q=>fK 1 q.1) ⟨0,by decide⟩ ?_;rintro ⟨j,hj⟩;dsimp only at hj⊢;have hj2:j=0∨j=1:=by omega
    rcases hj2 with rfl|rfl
    ·cbv;repeat'((first|refine .n fun h=>?_|refine .y fun h=>?_|refine .k fun z hz=>?_|refine .z fun zs hzs=>?_|refine bP.i0 ?_|refine bO.i0 ?_|fail)<;>cbv)
     obtain rfl:zs=[.agg [.i 0,.str ha1,.sl 4 (bI bW ca1)],.agg [.i sb1,.str hb1,.sl 4 (bI bW cb1)],.agg [.i sc1,.str hc1,.sl 4 (bI bW cc1)]]:=hzs;obtain rfl:z=nI 1:=bS;refine dV (Gh.plain 4 rfl) ?_;cbv;exact bL ⟨1,by decide⟩ (bM (by decide))
    ·cbv;repeat'((first|refine .n fun h=>?_|refine .k fun z hz=>?_|refine .o ?_|refine .l fun ys hys hyl=>?_|refine .zl fun zs hzs hzl=>?_|refine And.intro ?_ ?_|fail)<;>cbv)
     all_goals
      obtain rfl:zs=bI iD (L.set i ⟨⟨nq1,cq1,sq1,frm1,to1,bq1,pq1,iq1,lq1⟩,st1,⟨0,ha1,ca1⟩,⟨sb1,hb1,cb1⟩,⟨sc1,hc1,cc1⟩⟩):=jD hzs hys (by assumption) (by assumption) rfl bS hii
      (refine .r9 (Gh.plain 5 rfl) ?_;cbv;exact .inl (.g9 hK))
   ·obtain rfl:L'=L.set i ⟨⟨nq1,cq1,sq1,frm1,to1,bq1,pq1,iq1,lq1⟩,st1,⟨sa1,ha1,ca1⟩,⟨0,hb1,cb1⟩,⟨sc1,hc1,cc1⟩⟩:=hL';cbv;repeat'((first|refine .e ?_|refine .zl fun zs hzs hzl=>?_|fail)<;>cbv)
    obtain rfl:zs=[.agg [.i sa1,.str ha1,.sl 4 (bI bW ca1)],.agg [.i sb1,.str hb1,.sl 4 (bI bW cb1)],.agg [.i sc1,.str hc1,.sl 4 (bI bW cc1)]]:=hzs
    (refine XG hwh (⟨4,1,day,bill,by_,to,⟨nq2,cq2,sq2,frm2,to2,bq2,pq2,iq2,lq2⟩⟩:At) trivial ?_;try dsimp only)
    rw[aE (by decide)];cbv;refine bV [4] (fun q:{ j:Nat // j≤1 }=>[(11,.i (nI q.1)),(9,fP q.1 (.hd 4) (.sl 3 [.agg [.i sa1,.str ha1,.sl 4 (bI bW ca1)],.agg [.i 0,.str hb1,.sl 4 (bI bW cb1)],.agg [.i sc1,.str hc1,.sl 4 (bI bW cc1)]]) .any .any)]) (fun q=>[.blk 38 [.str carrier,.sl 11 (bI iD L)],.blk 204 (xD ⟨4,1,day,bill,by_,to,⟨nq2,cq2,sq2,frm2,to2,bq2,pq2,iq2,lq2⟩⟩),.blk 38 [.str ⟨⟨[]⟩⟩,.v (.slice none 0 0)],.blk 104 (xJ ⟨⟨nq1,cq1,sq1,frm1,to1,bq1,pq1,iq1,lq1⟩,st1,⟨sa1,ha1,ca1⟩,⟨sb1,hb1,cb1⟩,⟨sc1,hc1,cc1⟩⟩),fP q.1 (.row 107 3 [.agg [.i sa1,.str ha1,.sl 4 (bI bW ca1)],.agg [.i sb1,.str hb1,.sl 4 (bI bW cb1)],.agg [.i sc1,.str hc1,.sl 4 (bI bW cc1)]]) (.tip 107 3 [.agg [.i sa1,.str ha1,.sl 4 (bI bW ca1)],.agg [.i 0,.str hb1,.sl 4 (bI bW cb1)],.agg [.i sc1,.str hc1,.sl 4 (bI bW cc1)]]) .dead .dead]) (fun q=>fK 1 q.1) ⟨0,by decide⟩ ?_;rintro ⟨j,hj⟩;dsimp only at hj⊢;have hj2:j=0∨j=1:=by omega
    rcases hj2 with rfl|rfl
    ·cbv;repeat'((first|refine .n fun h=>?_|refine .y fun h=>?_|refine .k fun z hz=>?_|refine .z fun zs hzs=>?_|refine bP.i0 ?_|refine bP.i1 ?_|refine bO.i1 ?_|fail)<;>cbv)
     obtain rfl:zs=[.agg [.i sa1,.str ha1,.sl 4 (bI bW ca1)],.agg [.i 0,.str hb1,.sl 4 (bI bW cb1)],.agg [.i sc1,.str hc1,.sl 4 (bI bW cc1)]]:=hzs;obtain rfl:z=nI 1:=bS;refine dV (Gh.plain 4 rfl) ?_;cbv;exact bL ⟨1,by decide⟩ (bM (by decide))
    ·cbv;repeat'((first|refine .n fun h=>?_|refine .k fun z hz=>?_|refine .o ?_|refine .l fun ys hys hyl=>?_|refine .zl fun zs hzs hzl=>?_|refine And.intro ?_ ?_|fail)<;>cbv)
     all_goals
      obtain rfl:zs=bI iD (L.set i ⟨⟨nq1,cq1,sq1,frm1,to1,bq1,pq1,iq1,lq1⟩,st1,⟨sa1,ha1,ca1⟩,⟨0,hb1,cb1⟩,⟨sc1,hc1,cc1⟩⟩):=jD hzs hys (by assumption) (by assumption) rfl bS hii
      (refine .r9 (Gh.plain 5 rfl) ?_;cbv;exact .inl (.g9 hK))
   ·obtain rfl:L'=L.set i ⟨⟨nq1,cq1,sq1,frm1,to1,bq1,pq1,iq1,lq1⟩,st1,⟨sa1,ha1,ca1⟩,⟨sb1,hb1,cb1⟩,⟨0,hc1,cc1⟩⟩:=hL';cbv;repeat'((first|refine .e ?_|refine .zl fun zs hzs hzl=>?_|fail)<;>cbv)
    obtain rfl:zs=[.agg [.i sa1,.str ha1,.sl 4 (bI bW ca1)],.agg [.i sb1,.str hb1,.sl 4 (bI bW cb1)],.agg [.i sc1,.str hc1,.sl 4 (bI bW cc1)]]:=hzs
    (refine XG hwh (⟨4,2,day,bill,by_,to,⟨nq2,cq2,sq2,frm2,to2,bq2,pq2,iq2,lq2⟩⟩:At) trivial ?_;try dsimp only)
    rw[aE (by decide)];cbv;refine bV [4] (fun q:{ j:Nat // j≤1 }=>[(11,.i (nI q.1)),(9,fP q.1 (.hd 4) (.sl 3 [.agg [.i sa1,.str ha1,.sl 4 (bI bW ca1)],.agg [.i sb1,.str hb1,.sl 4 (bI bW cb1)],.agg [.i 0,.str hc1,.sl 4 (bI bW cc1)]]) .any .any)]) (fun q=>[.blk 38 [.str carrier,.sl 11 (bI iD L)],.blk 204 (xD ⟨4,2,day,bill,by_,to,⟨nq2,cq2,sq2,frm2,to2,bq2,pq2,iq2,lq2⟩⟩),.blk 38 [.str ⟨⟨[]⟩⟩,.v (.slice none 0 0)],.blk 104 (xJ ⟨⟨nq1,cq1,sq1,frm1,to1,bq1,pq1,iq1,lq1⟩,st1,⟨sa1,ha1,ca1⟩,⟨sb1,hb1,cb1⟩,⟨sc1,hc1,cc1⟩⟩),fP q.1 (.row 107 3 [.agg [.i sa1,.str ha1,.sl 4 (bI bW ca1)],.agg [.i sb1,.str hb1,.sl 4 (bI bW cb1)],.agg [.i sc1,.str hc1,.sl 4 (bI bW cc1)]]) (.tip 107 3 [.agg [.i sa1,.str ha1,.sl 4 (bI bW ca1)],.agg [.i sb1,.str hb1,.sl 4 (bI bW cb1)],.agg [.i 0,.str hc1,.sl 4 (bI bW cc1)]]) .dead .dead]) (fun q=>fK 1 q.1) ⟨0,by decide⟩ ?_;rintro ⟨j,hj⟩;dsimp only at hj⊢;have hj2:j=0∨j=1:=by omega
    rcases hj2 with rfl|rfl
    ·cbv;repeat'((first|refine .n fun h=>?_|refine .y fun h=>?_|refine .k fun z hz=>?_|refine .z fun zs hzs=>?_|refine bP.i0 ?_|refine bP.i2 ?_|refine bO.i2 ?_|fail)<;>cbv)
     obtain rfl:zs=[.agg [.i sa1,.str ha1,.sl 4 (bI bW ca1)],.agg [.i sb1,.str hb1,.sl 4 (bI bW cb1)],.agg [.i 0,.str hc1,.sl 4 (bI bW cc1)]]:=hzs;obtain rfl:z=nI 1:=bS;refine dV (Gh.plain 4 rfl) ?_;cbv;exact bL ⟨1,by decide⟩ (bM (by decide))
    ·cbv;repeat'((first|refine .n fun h=>?_|refine .k fun z hz=>?_|refine .o ?_|refine .l fun ys hys hyl=>?_|refine .zl fun zs hzs hzl=>?_|refine And.intro ?_ ?_|fail)<;>cbv)
     all_goals
      obtain rfl:zs=bI iD (L.set i ⟨⟨nq1,cq1,sq1,frm1,to1,bq1,pq1,iq1,lq1⟩,st1,⟨sa1,ha1,ca1⟩,⟨sb1,hb1,cb1⟩,⟨0,hc1,cc1⟩⟩):=jD hzs hys (by assumption) (by assumption) rfl bS hii
      (refine .r9 (Gh.plain 5 rfl) ?_;cbv;exact .inl (.g9 hK))
 ·rw[aE (by assumption:¬e=0)]at hL';subst hL'
  (refine .q9 ?_;cbv;exact .inl (.f9 hK))
theorem Ii (P:bH) (hw:bJ P 142 mK) (hf:bJ P 63 rN) (hwh:bJ P 143 nV):bN P IW (pE 1):=by
 intro args H K hc;obtain⟨⟨⟨carrier,L⟩,a⟩,rfl,rfl,hp,hK⟩:=hc;refine⟨cN,?_⟩;dsimp only at hp hK⊢;obtain⟨hkind,_,hfew,hall,hok,hsz,hts⟩:=hp;dsimp only at hkind hfew hall hok hsz hts;have hd:iN ⟨carrier,L⟩ a=(⟨carrier,fY L (cR a) (jH a)⟩,eE L (cR a)):=by unfold iN;rw[aE (by omega)]
 rw[hd]at hK;clear hd;obtain⟨e,he⟩:∃e,e=eE L (cR a):=⟨_,rfl⟩
 obtain⟨L',hL'⟩:∃L',L'=fY L (cR a) (jH a):=⟨_,rfl⟩
 rw[←he,←hL']at hK;unfold fY at hL';rw[←he]at hL';obtain⟨kind,index,day,bill,by_,to,b⟩:=a;obtain rfl:kind=1:=hkind;obtain⟨nq2,cq2,sq2,frm2,to2,bq2,pq2,iq2,lq2⟩:=b;cbv;repeat'((first|refine .n fun h=>?_|fail)<;>cbv)
 (refine XG hw ((⟨carrier,L⟩:Rg),(⟨1,index,day,bill,by_,to,⟨nq2,cq2,sq2,frm2,to2,bq2,pq2,iq2,lq2⟩⟩:At)) ⟨⟨by show (1:Int)≤1;decide,by show (1:Int)≤5;decide⟩,hfew,fun b hb=>(hall b hb).1,hts⟩ ?_;try dsimp only)
 rw[←he];cbv;repeat'((first|refine .mk (fun h=>?_) fun h=>?_|fail)<;>cbv)
 ·rw[aF (by assumption:e=0)]at hL';have h0:e=0:=by assumption
  rw[h0]at hK;obtain⟨f,hf1⟩:∃f,f=oG (fun y:Br=>decide (y.b.number=bill)) L:=⟨_,rfl⟩
  (refine XG hf ((⟨carrier,L⟩:Rg),bill) (by dsimp only;omega) ?_;try dsimp only)
  rw[←hf1];cases hb:qQ L bill with
  |none=>exact(jP (he.symm.trans (by assumption:e=0)) hb).elim
  |some i=>
   rw[kY,hb]at hf1;dsimp only at hf1;subst hf1;obtain⟨x,hx,_⟩:=dY hb;have hii:=(aA.1 hx).1;have hz:=kQ (he.symm.trans (by assumption:e=0)) hb hx;have hk:=mB hz;clear hz;have hL':L'=AR L bill (sO index (DX by_ to day)):=hL';rw[gK _ hb hx]at hL';have hki:-1≤index∧index < 3:=hk;have hk3:index=0∨index=1∨index=2∨index=-1:=by omega
   have hch:=(hall x (aC hx)).1;obtain⟨⟨nq1,cq1,sq1,frm1,to1,bq1,pq1,iq1,lq1⟩,st1,⟨sa1,ha1,ca1⟩,⟨sb1,hb1,cb1⟩,⟨sc1,hc1,cc1⟩⟩:=x;unfold pG at hch;dsimp only at hch;obtain⟨hch0,hch1,hch2⟩:=hch;obtain⟨da,hda⟩:∃d,d=ca1++[(⟨by_,to,0,day⟩:oW)]:=⟨_,rfl⟩
   obtain⟨db,hdb⟩:∃d,d=cb1++[(⟨by_,to,0,day⟩:oW)]:=⟨_,rfl⟩
   obtain⟨dc,hdc⟩:∃d,d=cc1++[(⟨by_,to,0,day⟩:oW)]:=⟨_,rfl⟩
   rcases hk3 with rfl|rfl|rfl|rfl
   ·obtain rfl:L'=L.set i ⟨⟨nq1,cq1,sq1,frm1,to1,bq1,pq1,iq1,lq1⟩,st1,⟨sa1,to,da⟩,⟨sb1,hb1,cb1⟩,⟨sc1,hc1,cc1⟩⟩:=by rw[hL',hda];rfl
    cbv;repeat'((first|refine .e ?_|refine .zl fun zs hzs hzl=>?_|fail)<;>cbv)
    obtain rfl:zs=[.agg [.i sa1,.str ha1,.sl 4 (bI bW ca1)],.agg [.i sb1,.str hb1,.sl 4 (bI bW cb1)],.agg [.i sc1,.str hc1,.sl 4 (bI bW cc1)]]:=hzs
    (refine XG hwh (⟨1,0,day,bill,by_,to,⟨nq2,cq2,sq2,frm2,to2,bq2,pq2,iq2,lq2⟩⟩:At) trivial ?_;try dsimp only)
    rw[aE (by decide)];cbv;refine yB [4] (fun q:{ j:Nat // j≤1 }=>[(11,.i (nI q.1)),(9,fP q.1 (.hd 4) (.sl 3 [.agg [.i sa1,.str to,.sl 4 (bI bW da)],.agg [.i sb1,.str hb1,.sl 4 (bI bW cb1)],.agg [.i sc1,.str hc1,.sl 4 (bI bW cc1)]]) .any .any)]) (fun q=>[.blk 38 [.str carrier,.sl 11 (bI iD L)],.blk 204 (xD ⟨1,0,day,bill,by_,to,⟨nq2,cq2,sq2,frm2,to2,bq2,pq2,iq2,lq2⟩⟩),.blk 38 [.str ⟨⟨[]⟩⟩,.v (.slice none 0 0)],.blk 104 (xJ ⟨⟨nq1,cq1,sq1,frm1,to1,bq1,pq1,iq1,lq1⟩,st1,⟨sa1,ha1,ca1⟩,⟨sb1,hb1,cb1⟩,⟨sc1,hc1,cc1⟩⟩),fP q.1 (.row 107 3 [.agg [.i sa1,.str ha1,.sl 4 (bI bW ca1)],.agg [.i sb1,.str hb1,.sl 4 (bI bW cb1)],.agg [.i sc1,.str hc1,.sl 4 (bI bW cc1)]]) (.tip 107 3 [.agg [.i sa1,.str to,.sl 4 (bI bW da)],.agg [.i sb1,.str hb1,.sl 4 (bI bW cb1)],.agg [.i sc1,.str hc1,.sl 4 (bI bW cc1)]]) .dead .dead]) (fun q=>fK 1 q.1) ⟨0,by decide⟩ ?_;rintro ⟨j,hj⟩;dsimp only at hj⊢;have hj2:j=0∨j=1:=by omega
    rcases hj2 with rfl|rfl
    ·refine dG.seq (.of ?_);cbv;repeat'((first|refine .y fun h=>?_|refine .k fun z hz=>?_|fail)<;>cbv)
     refine dG.seq (.block ?_);refine dG.seq (.of ?_);cbv;repeat'((first|refine bP.i0 ?_|refine bO.i0 ?_|fail)<;>cbv)
     refine dG.seq (.of ?_);cbv;repeat'((first|refine .y fun h=>?_|refine .o ?_|refine .zl fun zs hzs hzl=>?_|refine And.intro ?_ ?_|fail)<;>cbv)
     all_goals
      obtain rfl:zs=bI bW da:=by rw[hda,cB,cE];exact hzs
      refine dG.gh (Gh.plain 6 rfl) (.of ?_);cbv;repeat'((first|refine .z fun zs hzs=>?_|refine bP.i0 ?_|refine bO.i0 ?_|fail)<;>cbv)
      obtain rfl:zs=[.agg [.i sa1,.str to,.sl 4 (bI bW da)],.agg [.i sb1,.str hb1,.sl 4 (bI bW cb1)],.agg [.i sc1,.str hc1,.sl 4 (bI bW cc1)]]:=hzs;refine .of ?_;cbv;repeat'((first|refine .k fun z hz=>?_|fail)<;>cbv)
      obtain rfl:z=nI 1:=bS;refine dV (Gh.plain 4 rfl) ?_;cbv;exact bL ⟨1,by decide⟩ (bM (by decide))
    ·refine dG.seq (.of ?_);cbv;repeat'((first|refine .n fun h=>?_|refine .k fun z hz=>?_|refine .o ?_|refine .l fun ys hys hyl=>?_|refine .zl fun zs hzs hzl=>?_|refine And.intro ?_ ?_|fail)<;>cbv)
     all_goals
      obtain rfl:zs=bI iD (L.set i ⟨⟨nq1,cq1,sq1,frm1,to1,bq1,pq1,iq1,lq1⟩,st1,⟨sa1,to,da⟩,⟨sb1,hb1,cb1⟩,⟨sc1,hc1,cc1⟩⟩):=jD hzs hys (by assumption) (by assumption) rfl bS hii
      (refine .r9 (Gh.plain 5 rfl) ?_;cbv;exact .inl (.g9 hK))
   ·obtain rfl:L'=L.set i ⟨⟨nq1,cq1,sq1,frm1,to1,bq1,pq1,iq1,lq1⟩,st1,⟨sa1,ha1,ca1⟩,⟨sb1,to,db⟩,⟨sc1,hc1,cc1⟩⟩:=by rw[hL',hdb];rfl
    cbv;repeat'((first|refine .e ?_|refine .zl fun zs hzs hzl=>?_|fail)<;>cbv)
    obtain rfl:zs=[.agg [.i sa1,.str ha1,.sl 4 (bI bW ca1)],.agg [.i sb1,.str hb1,.sl 4 (bI bW cb1)],.agg [.i sc1,.str hc1,.sl 4 (bI bW cc1)]]:=hzs
    (refine XG hwh (⟨1,1,day,bill,by_,to,⟨nq2,cq2,sq2,frm2,to2,bq2,pq2,iq2,lq2⟩⟩:At) trivial ?_;try dsimp only)
    rw[aE (by decide)];cbv;refine yB [4] (fun q:{ j:Nat // j≤1 }=>[(11,.i (nI q.1)),(9,fP q.1 (.hd 4) (.sl 3 [.agg [.i sa1,.str ha1,.sl 4 (bI bW ca1)],.agg [.i sb1,.str to,.sl 4 (bI bW db)],.agg [.i sc1,.str hc1,.sl 4 (bI bW cc1)]]) .any .any)]) (fun q=>[.blk 38 [.str carrier,.sl 11 (bI iD L)],.blk 204 (xD ⟨1,1,day,bill,by_,to,⟨nq2,cq2,sq2,frm2,to2,bq2,pq2,iq2,lq2⟩⟩),.blk 38 [.str ⟨⟨[]⟩⟩,.v (.slice none 0 0)],.blk 104 (xJ ⟨⟨nq1,cq1,sq1,frm1,to1,bq1,pq1,iq1,lq1⟩,st1,⟨sa1,ha1,ca1⟩,⟨sb1,hb1,cb1⟩,⟨sc1,hc1,cc1⟩⟩),fP q.1 (.row 107 3 [.agg [.i sa1,.str ha1,.sl 4 (bI bW ca1)],.agg [.i sb1,.str hb1,.sl 4 (bI bW cb1)],.agg [.i sc1,.str hc1,.sl 4 (bI bW cc1)]]) (.tip 107 3 [.agg [.i sa1,.str ha1,.sl 4 (bI bW ca1)],.agg [.i sb1,.str to,.sl 4 (bI bW db)],.agg [.i sc1,.str hc1,.sl 4 (bI bW cc1)]]) .dead .dead]) (fun q=>fK 1 q.1) ⟨0,by decide⟩ ?_;rintro ⟨j,hj⟩;dsimp only at hj⊢;have hj2:j=0∨j=1:=by omega
    rcases hj2 with rfl|rfl
    ·refine dG.seq (.of ?_);cbv;repeat'((first|refine .y fun h=>?_|refine .k fun z hz=>?_|fail)<;>cbv)
     refine dG.seq (.block ?_);refine dG.seq (.of ?_);cbv;repeat'((first|refine bP.i0 ?_|refine bP.i1 ?_|refine bO.i1 ?_|fail)<;>cbv)
     refine dG.seq (.of ?_);cbv;repeat'((first|refine .y fun h=>?_|refine .o ?_|refine .zl fun zs hzs hzl=>?_|refine And.intro ?_ ?_|fail)<;>cbv)
     all_goals
      obtain rfl:zs=bI bW db:=by rw[hdb,cB,cE];exact hzs
      refine dG.gh (Gh.plain 6 rfl) (.of ?_);cbv;repeat'((first|refine .z fun zs hzs=>?_|refine bP.i0 ?_|refine bP.i1 ?_|refine bO.i1 ?_|fail)<;>cbv)
      obtain rfl:zs=[.agg [.i sa1,.str ha1,.sl 4 (bI bW ca1)],.agg [.i sb1,.str to,.sl 4 (bI bW db)],.agg [.i sc1,.str hc1,.sl 4 (bI bW cc1)]]:=hzs;refine .of ?_;cbv;repeat'((first|refine .k fun z hz=>?_|fail)<;>cbv)
      obtain rfl:z=nI 1:=bS;refine dV (Gh.plain 4 rfl) ?_;cbv;exact bL ⟨1,by decide⟩ (bM (by decide))
    ·refine dG.seq (.of ?_);cbv;repeat'((first|refine .n fun h=>?_|refine .k fun z hz=>?_|refine .o ?_|refine .l fun ys hys hyl=>?_|refine .zl fun zs hzs hzl=>?_|refine And.intro ?_ ?_|fail)<;>cbv)
     all_goals
      obtain rfl:zs=bI iD (L.set i ⟨⟨nq1,cq1,sq1,frm1,to1,bq1,pq1,iq1,lq1⟩,st1,⟨sa1,ha1,ca1⟩,⟨sb1,to,db⟩,⟨sc1,hc1,cc1⟩⟩):=jD hzs hys (by assumption) (by assumption) rfl bS hii
      (refine .r9 (Gh.plain 5 rfl) ?_;cbv;exact .inl (.g9 hK))
   ·obtain rfl:L'=L.set i ⟨⟨nq1,cq1,sq1,frm1,to1,bq1,pq1,iq1,lq1⟩,st1,⟨sa1,ha1,ca1⟩,⟨sb1,hb1,cb1⟩,⟨sc1,to,dc⟩⟩:=by rw[hL',hdc];rfl
    cbv;repeat'((first|refine .e ?_|refine .zl fun zs hzs hzl=>?_|fail)<;>cbv)
    obtain rfl:zs=[.agg [.i sa1,.str ha1,.sl 4 (bI bW ca1)],.agg [.i sb1,.str hb1,.sl 4 (bI bW cb1)],.agg [.i sc1,.str hc1,.sl 4 (bI bW cc1)]]:=hzs
    (refine XG hwh (⟨1,2,day,bill,by_,to,⟨nq2,cq2,sq2,frm2,to2,bq2,pq2,iq2,lq2⟩⟩:At) trivial ?_;try dsimp only)
    rw[aE (by decide)];cbv;refine yB [4] (fun q:{ j:Nat // j≤1 }=>[(11,.i (nI q.1)),(9,fP q.1 (.hd 4) (.sl 3 [.agg [.i sa1,.str ha1,.sl 4 (bI bW ca1)],.agg [.i sb1,.str hb1,.sl 4 (bI bW cb1)],.agg [.i sc1,.str to,.sl 4 (bI bW dc)]]) .any .any)]) (fun q=>[.blk 38 [.str carrier,.sl 11 (bI iD L)],.blk 204 (xD ⟨1,2,day,bill,by_,to,⟨nq2,cq2,sq2,frm2,to2,bq2,pq2,iq2,lq2⟩⟩),.blk 38 [.str ⟨⟨[]⟩⟩,.v (.slice none 0 0)],.blk 104 (xJ ⟨⟨nq1,cq1,sq1,frm1,to1,bq1,pq1,iq1,lq1⟩,st1,⟨sa1,ha1,ca1⟩,⟨sb1,hb1,cb1⟩,⟨sc1,hc1,cc1⟩⟩),fP q.1 (.row 107 3 [.agg [.i sa1,.str ha1,.sl 4 (bI bW ca1)],.agg [.i sb1,.str hb1,.sl 4 (bI bW cb1)],.agg [.i sc1,.str hc1,.sl 4 (bI bW cc1)]]) (.tip 107 3 [.agg [.i sa1,.str ha1,.sl 4 (bI bW ca1)],.agg [.i sb1,.str hb1,.sl 4 (bI bW cb1)],.agg [.i sc1,.str to,.sl 4 (bI bW dc)]]) .dead .dead]) (fun q=>fK 1 q.1) ⟨0,by decide⟩ ?_;rintro ⟨j,hj⟩;dsimp only at hj⊢;have hj2:j=0∨j=1:=by omega
    rcases hj2 with rfl|rfl
    ·refine dG.seq (.of ?_);cbv;repeat'((first|refine .y fun h=>?_|refine .k fun z hz=>?_|fail)<;>cbv)
     refine dG.seq (.block ?_);refine dG.seq (.of ?_);cbv;repeat'((first|refine bP.i0 ?_|refine bP.i2 ?_|refine bO.i2 ?_|fail)<;>cbv)
     refine dG.seq (.of ?_);cbv;repeat'((first|refine .y fun h=>?_|refine .o ?_|refine .zl fun zs hzs hzl=>?_|refine And.intro ?_ ?_|fail)<;>cbv)
     all_goals
      obtain rfl:zs=bI bW dc:=by rw[hdc,cB,cE];exact hzs
      refine dG.gh (Gh.plain 6 rfl) (.of ?_);cbv;repeat'((first|refine .z fun zs hzs=>?_|refine bP.i0 ?_|refine bP.i2 ?_|refine bO.i2 ?_|fail)<;>cbv)
      obtain rfl:zs=[.agg [.i sa1,.str ha1,.sl 4 (bI bW ca1)],.agg [.i sb1,.str hb1,.sl 4 (bI bW cb1)],.agg [.i sc1,.str to,.sl 4 (bI bW dc)]]:=hzs;refine .of ?_;cbv;repeat'((first|refine .k fun z hz=>?_|fail)<;>cbv)
      obtain rfl:z=nI 1:=bS;refine dV (Gh.plain 4 rfl) ?_;cbv;exact bL ⟨1,by decide⟩ (bM (by decide))
    ·refine dG.seq (.of ?_);cbv;repeat'((first|refine .n fun h=>?_|refine .k fun z hz=>?_|refine .o ?_|refine .l fun ys hys hyl=>?_|refine .zl fun zs hzs hzl=>?_|refine And.intro ?_ ?_|fail)<;>cbv)
     all_goals
      obtain rfl:zs=bI iD (L.set i ⟨⟨nq1,cq1,sq1,frm1,to1,bq1,pq1,iq1,lq1⟩,st1,⟨sa1,ha1,ca1⟩,⟨sb1,hb1,cb1⟩,⟨sc1,to,dc⟩⟩):=jD hzs hys (by assumption) (by assumption) rfl bS hii
      (refine .r9 (Gh.plain 5 rfl) ?_;cbv;exact .inl (.g9 hK))
   ·obtain rfl:L'=L.set i ⟨⟨nq1,cq1,sq1,frm1,to1,bq1,pq1,iq1,lq1⟩,st1,⟨sa1,to,da⟩,⟨sb1,to,db⟩,⟨sc1,to,dc⟩⟩:=by rw[hL',hda,hdb,hdc];rfl
    cbv;repeat'((first|refine .e ?_|refine .zl fun zs hzs hzl=>?_|fail)<;>cbv)
    obtain rfl:zs=[.agg [.i sa1,.str ha1,.sl 4 (bI bW ca1)],.agg [.i sb1,.str hb1,.sl 4 (bI bW cb1)],.agg [.i sc1,.str hc1,.sl 4 (bI bW cc1)]]:=hzs
    (refine XG hwh (⟨1,-1,day,bill,by_,to,⟨nq2,cq2,sq2,frm2,to2,bq2,pq2,iq2,lq2⟩⟩:At) trivial ?_;try dsimp only)
    rw[aF (.inr ⟨rfl,rfl⟩)];cbv;refine yB [4] (fun q:{ j:Nat // j≤3 }=>[(11,.i (nI q.1)),(9,fP q.1 (.hd 4) (.hd 4) (.hd 4) (.sl 3 [.agg [.i sa1,.str to,.sl 4 (bI bW da)],.agg [.i sb1,.str to,.sl 4 (bI bW db)],.agg [.i sc1,.str to,.sl 4 (bI bW dc)]]))]) (fun q=>[.blk 38 [.str carrier,.sl 11 (bI iD L)],.blk 204 (xD ⟨1,-1,day,bill,by_,to,⟨nq2,cq2,sq2,frm2,to2,bq2,pq2,iq2,lq2⟩⟩),.blk 38 [.str ⟨⟨[]⟩⟩,.v (.slice none 0 0)],.blk 104 (xJ ⟨⟨nq1,cq1,sq1,frm1,to1,bq1,pq1,iq1,lq1⟩,st1,⟨sa1,ha1,ca1⟩,⟨sb1,hb1,cb1⟩,⟨sc1,hc1,cc1⟩⟩),fP q.1 (.row 107 3 [.agg [.i sa1,.str ha1,.sl 4 (bI bW ca1)],.agg [.i sb1,.str hb1,.sl 4 (bI bW cb1)],.agg [.i sc1,.str hc1,.sl 4 (bI bW cc1)]]) (.row 107 3 [.agg [.i sa1,.str to,.sl 4 (bI bW da)],.agg [.i sb1,.str hb1,.sl 4 (bI bW cb1)],.agg [.i sc1,.str hc1,.sl 4 (bI bW cc1)]]) (.row 107 3 [.agg [.i sa1,.str to,.sl 4 (bI bW da)],.agg [.i sb1,.str to,.sl 4 (bI bW db)],.agg [.i sc1,.str hc1,.sl 4 (bI bW cc1)]]) (.tip 107 3 [.agg [.i sa1,.str to,.sl 4 (bI bW da)],.agg [.i sb1,.str to,.sl 4 (bI bW db)],.agg [.i sc1,.str to,.sl 4 (bI bW dc)]])]) (fun q=>fK 3 q.1) ⟨0,by decide⟩ ?_;rintro ⟨j,hj⟩;dsimp only at hj⊢;have hj2:j=0∨j=1∨j=2∨j=3:=by omega
    rcases hj2 with rfl|rfl|rfl|rfl
    ·refine dG.seq (.of ?_);cbv;repeat'((first|refine .y fun h=>?_|refine .k fun z hz=>?_|fail)<;>cbv)
     refine dG.seq (.block ?_);refine dG.seq (.of ?_);cbv;repeat'((first|refine bP.i0 ?_|refine bO.i0 ?_|fail)<;>cbv)
     refine dG.seq (.of ?_);cbv;repeat'((first|refine .y fun h=>?_|refine .o ?_|refine .zl fun zs hzs hzl=>?_|refine And.intro ?_ ?_|fail)<;>cbv)
     all_goals
      obtain rfl:zs=bI bW da:=by rw[hda,cB,cE];exact hzs
      refine dG.gh (Gh.plain 6 rfl) (.of ?_);cbv;repeat'((first|refine .z fun zs hzs=>?_|refine bP.i0 ?_|refine bO.i0 ?_|fail)<;>cbv)
      obtain rfl:zs=[.agg [.i sa1,.str to,.sl 4 (bI bW da)],.agg [.i sb1,.str hb1,.sl 4 (bI bW cb1)],.agg [.i sc1,.str hc1,.sl 4 (bI bW cc1)]]:=hzs;refine .of ?_;cbv;repeat'((first|refine .k fun z hz=>?_|fail)<;>cbv)
      obtain rfl:z=nI 1:=bS;exact bL ⟨1,by decide⟩ (bM (by decide))
    ·refine dG.seq (.of ?_);cbv;repeat'((first|refine .y fun h=>?_|refine .k fun z hz=>?_|fail)<;>cbv)
     refine dG.seq (.block ?_);refine dG.seq (.of ?_);cbv;repeat'((first|refine bP.i1 ?_|refine bO.i1 ?_|fail)<;>cbv)
     refine dG.seq (.of ?_);cbv;repeat'((first|refine .y fun h=>?_|refine .o ?_|refine .zl fun zs hzs hzl=>?_|refine And.intro ?_ ?_|fail)<;>cbv)
     all_goals
      obtain rfl:zs=bI bW db:=by rw[hdb,cB,cE];exact hzs
      refine dG.gh (Gh.plain 6 rfl) (.of ?_);cbv;repeat'((first|refine .z fun zs hzs=>?_|refine bP.i1 ?_|refine bO.i1 ?_|fail)<;>cbv)
      obtain rfl:zs=[.agg [.i sa1,.str to,.sl 4 (bI bW da)],.agg [.i sb1,.str to,.sl 4 (bI bW db)],.agg [.i sc1,.str hc1,.sl 4 (bI bW cc1)]]:=hzs;refine .of ?_;cbv;repeat'((first|refine .k fun z hz=>?_|fail)<;>cbv)
      obtain rfl:z=nI 2:=bS;exact bL ⟨2,by decide⟩ (bM (by decide))
    ·refine dG.seq (.of ?_);cbv;repeat'((first|refine .y fun h=>?_|refine .k fun z hz=>?_|fail)<;>cbv)
     refine dG.seq (.block ?_);refine dG.seq (.of ?_);cbv;repeat'((first|refine bP.i2 ?_|refine bO.i2 ?_|fail)<;>cbv)
     refine dG.seq (.of ?_);cbv;repeat'((first|refine .y fun h=>?_|refine .o ?_|refine .zl fun zs hzs hzl=>?_|refine And.intro ?_ ?_|fail)<;>cbv)
     all_goals
      obtain rfl:zs=bI bW dc:=by rw[hdc,cB,cE];exact hzs
      refine dG.gh (Gh.plain 6 rfl) (.of ?_);cbv;repeat'((first|refine .z fun zs hzs=>?_|refine bP.i2 ?_|refine bO.i2 ?_|fail)<;>cbv)
      obtain rfl:zs=[.agg [.i sa1,.str to,.sl 4 (bI bW da)],.agg [.i sb1,.str to,.sl 4 (bI bW db)],.agg [.i sc1,.str to,.sl 4 (bI bW dc)]]:=hzs;refine .of ?_;cbv;repeat'((first|refine .k fun z hz=>?_|fail)<;>cbv)
      obtain rfl:z=nI 3:=bS;refine dV (Gh.plain 4 rfl) ?_;cbv;exact bL ⟨3,by decide⟩ (bM (by decide))
    ·refine dG.seq (.of ?_);cbv;repeat'((first|refine .n fun h=>?_|refine .k fun z hz=>?_|refine .o ?_|refine .l fun ys hys hyl=>?_|refine .zl fun zs hzs hzl=>?_|refine And.intro ?_ ?_|fail)<;>cbv)
     all_goals
      obtain rfl:zs=bI iD (L.set i ⟨⟨nq1,cq1,sq1,frm1,to1,bq1,pq1,iq1,lq1⟩,st1,⟨sa1,to,da⟩,⟨sb1,to,db⟩,⟨sc1,to,dc⟩⟩):=jD hzs hys (by assumption) (by assumption) rfl bS hii
      (refine .r9 (Gh.plain 5 rfl) ?_;cbv;exact .inl (.g9 hK))
 ·rw[aE (by assumption:¬e=0)]at hL';subst hL'
  (refine .q9 ?_;cbv;exact .inl (.f9 hK))
theorem IU (P:bH) (hw:bJ P 142 mK) (hf:bJ P 63 rN) (hwh:bJ P 143 nV):Hm P IW (pE 2):=by
 intro args H K hc;obtain⟨⟨⟨carrier,L⟩,a⟩,rfl,rfl,hp,hK⟩:=hc;refine⟨cN,?_⟩;dsimp only at hp hK⊢;obtain⟨hkind,_,hfew,hall,hok,hsz,hts⟩:=hp;dsimp only at hkind hfew hall hok hsz hts;have hd:iN ⟨carrier,L⟩ a=(⟨carrier,fY L (cR a) (jH a)⟩,eE L (cR a)):=by unfold iN;rw[aE (by omega)]
 rw[hd]at hK;clear hd;obtain⟨e,he⟩:∃e,e=eE L (cR a):=⟨_,rfl⟩
 obtain⟨L',hL'⟩:∃L',L'=fY L (cR a) (jH a):=⟨_,rfl⟩
 rw[←he,←hL']at hK;unfold fY at hL';rw[←he]at hL';obtain⟨kind,index,day,bill,by_,to,b⟩:=a;obtain rfl:kind=2:=hkind;obtain⟨nq2,cq2,sq2,frm2,to2,bq2,pq2,iq2,lq2⟩:=b;refine dG.seq (.of ?_);cbv;refine dG.seq (.of ?_);cbv;repeat'((first|refine .n fun h=>?_|fail)<;>cbv)
 refine dG.seq (.of ?_);cbv
 (refine XG hw ((⟨carrier,L⟩:Rg),(⟨2,index,day,bill,by_,to,⟨nq2,cq2,sq2,frm2,to2,bq2,pq2,iq2,lq2⟩⟩:At)) ⟨⟨by show (1:Int)≤2;decide,by show (2:Int)≤5;decide⟩,hfew,fun b hb=>(hall b hb).1,hts⟩ ?_;try dsimp only)
 rw[←he];cbv;repeat'((first|refine .mk (fun h=>?_) fun h=>?_|fail)<;>cbv)
 ·rw[aF (by assumption:e=0)]at hL';have h0:e=0:=by assumption
  rw[h0]at hK;obtain⟨f,hf1⟩:∃f,f=oG (fun y:Br=>decide (y.b.number=bill)) L:=⟨_,rfl⟩
  refine dG.seq (.of ?_);cbv
  (refine XG hf ((⟨carrier,L⟩:Rg),bill) (by dsimp only;omega) ?_;try dsimp only)
  rw[←hf1];cases hb:qQ L bill with
  |none=>exact(jP (he.symm.trans (by assumption:e=0)) hb).elim
  |some i=>
   rw[kY,hb]at hf1;dsimp only at hf1;subst hf1;obtain⟨x,hx,_⟩:=dY hb;have hii:=(aA.1 hx).1;have hz:=kQ (he.symm.trans (by assumption:e=0)) hb hx;have hk:=mB hz;clear hz;have hL':L'=AR L bill (fun b=>sO index (Aa 1) (AK 1 b)):=hL';rw[gK _ hb hx]at hL';have hki:0≤index∧index < 3:=hk;have hk3:index=0∨index=1∨index=2:=by omega
   obtain⟨⟨nq1,cq1,sq1,frm1,to1,bq1,pq1,iq1,lq1⟩,st1,⟨sa1,ha1,ca1⟩,⟨sb1,hb1,cb1⟩,⟨sc1,hc1,cc1⟩⟩:=x;cbv;rcases hk3 with rfl|rfl|rfl
   ·obtain rfl:L'=L.set i ⟨⟨nq1,cq1,sq1,frm1,to1,bq1,pq1,iq1,lq1⟩,1,⟨1,ha1,ca1⟩,⟨2,hb1,cb1⟩,⟨2,hc1,cc1⟩⟩:=hL';refine dG.seq (.of ?_);cbv;repeat'((first|refine .e ?_|fail)<;>cbv)
    refine dG.seq (.of ?_);cbv;repeat'((first|refine .zl fun zs hzs hzl=>?_|fail)<;>cbv)
    obtain rfl:zs=[.agg [.i sa1,.str ha1,.sl 4 (bI bW ca1)],.agg [.i sb1,.str hb1,.sl 4 (bI bW cb1)],.agg [.i sc1,.str hc1,.sl 4 (bI bW cc1)]]:=hzs;refine dG.seq (.of ?_);cbv
    (refine XG hwh (⟨2,0,day,bill,by_,to,⟨nq2,cq2,sq2,frm2,to2,bq2,pq2,iq2,lq2⟩⟩:At) trivial ?_;try dsimp only)
    rw[aE (by decide)];cbv;refine dG.seq (.of ?_);cbv;refine bV [] (fun q:{ j:Nat // j≤1 }=>[(11,.i (nI q.1))]) (fun q=>[.blk 38 [.str carrier,.sl 11 (bI iD L)],.blk 204 (xD ⟨2,0,day,bill,by_,to,⟨nq2,cq2,sq2,frm2,to2,bq2,pq2,iq2,lq2⟩⟩),.blk 38 [.str ⟨⟨[]⟩⟩,.v (.slice none 0 0)],.blk 104 (xJ ⟨⟨nq1,cq1,sq1,frm1,to1,bq1,pq1,iq1,lq1⟩,st1,⟨sa1,ha1,ca1⟩,⟨sb1,hb1,cb1⟩,⟨sc1,hc1,cc1⟩⟩),.row 107 3 [.agg [.i sa1,.str ha1,.sl 4 (bI bW ca1)],.agg [.i sb1,.str hb1,.sl 4 (bI bW cb1)],.agg [.i sc1,.str hc1,.sl 4 (bI bW cc1)]]]) (fun q=>fK 1 q.1) ⟨0,by decide⟩ ?_;rintro ⟨j,hj⟩;dsimp only at hj⊢;have hj2:j=0∨j=1:=by omega
    rcases hj2 with rfl|rfl
    ·cbv;repeat'((first|refine .n fun h=>?_|refine .y fun h=>?_|refine .k fun z hz=>?_|refine .z fun zs hzs=>?_|refine bP.i0 ?_|refine bO.i0 ?_|fail)<;>cbv)
     obtain rfl:zs=[.agg [.i sa1,.str ha1,.sl 4 (bI bW ca1)],.agg [.i sb1,.str hb1,.sl 4 (bI bW cb1)],.agg [.i sc1,.str hc1,.sl 4 (bI bW cc1)]]:=hzs;obtain rfl:z=nI 1:=bS;exact bL ⟨1,by decide⟩ (bM (by decide))
    ·cbv;repeat'((first|refine .n fun h=>?_|refine .k fun z hz=>?_|fail)<;>cbv)
     refine dG.seq (.of ?_);cbv;repeat'((first|refine .y fun h=>?_|fail)<;>cbv)
     refine bV [] (fun q:{ j:Nat // j≤3 }=>[(13,.i (nI q.1))]) (fun q=>[.blk 38 [.str carrier,.sl 11 (bI iD L)],.blk 204 (xD ⟨2,0,day,bill,by_,to,⟨nq2,cq2,sq2,frm2,to2,bq2,pq2,iq2,lq2⟩⟩),.blk 38 [.str ⟨⟨[]⟩⟩,.v (.slice none 0 0)],.blk 104 (xJ ⟨⟨nq1,cq1,sq1,frm1,to1,bq1,pq1,iq1,lq1⟩,st1,⟨sa1,ha1,ca1⟩,⟨sb1,hb1,cb1⟩,⟨sc1,hc1,cc1⟩⟩),fP q.1 (.row 107 3 [.agg [.i sa1,.str ha1,.sl 4 (bI bW ca1)],.agg [.i sb1,.str hb1,.sl 4 (bI bW cb1)],.agg [.i sc1,.str hc1,.sl 4 (bI bW cc1)]]) (.row 107 3 [.agg [.i 2,.str ha1,.sl 4 (bI bW ca1)],.agg [.i sb1,.str hb1,.sl 4 (bI bW cb1)],.agg [.i sc1,.str hc1,.sl 4 (bI bW cc1)]]) (.row 107 3 [.agg [.i 2,.str ha1,.sl 4 (bI bW ca1)],.agg [.i 2,.str hb1,.sl 4 (bI bW cb1)],.agg [.i sc1,.str hc1,.sl 4 (bI bW cc1)]]) (.row 107 3 [.agg [.i 2,.str ha1,.sl 4 (bI bW ca1)],.agg [.i 2,.str hb1,.sl 4 (bI bW cb1)],.agg [.i 2,.str hc1,.sl 4 (bI bW cc1)]])]) (fun q=>fK 3 q.1) ⟨0,by decide⟩ ?_;rintro ⟨j,hj⟩;dsimp only at hj⊢;have hj2:j=0∨j=1∨j=2∨j=3:=by omega
     rcases hj2 with rfl|rfl|rfl|rfl
     ·cbv;repeat'((first|refine .y fun h=>?_|refine .k fun z hz=>?_|refine .z fun zs hzs=>?_|refine bP.i0 ?_|refine bO.i0 ?_|fail)<;>cbv)
      obtain rfl:zs=[.agg [.i 2,.str ha1,.sl 4 (bI bW ca1)],.agg [.i sb1,.str hb1,.sl 4 (bI bW cb1)],.agg [.i sc1,.str hc1,.sl 4 (bI bW cc1)]]:=hzs;obtain rfl:z=nI 1:=bS;exact bL ⟨1,by decide⟩ (bM (by decide))
     ·cbv;repeat'((first|refine .y fun h=>?_|refine .k fun z hz=>?_|refine .z fun zs hzs=>?_|refine bP.i1 ?_|refine bO.i1 ?_|fail)<;>cbv)
      obtain rfl:zs=[.agg [.i 2,.str ha1,.sl 4 (bI bW ca1)],.agg [.i 2,.str hb1,.sl 4 (bI bW cb1)],.agg [.i sc1,.str hc1,.sl 4 (bI bW cc1)]]:=hzs;obtain rfl:z=nI 2:=bS;exact bL ⟨2,by decide⟩ (bM (by decide))
     ·cbv;repeat'((first|refine .y fun h=>?_|refine .k fun z hz=>?_|refine .z fun zs hzs=>?_|refine bP.i2 ?_|refine bO.i2 ?_|fail)<;>cbv)
      obtain rfl:zs=[.agg [.i 2,.str ha1,.sl 4 (bI bW ca1)],.agg [.i 2,.str hb1,.sl 4 (bI bW cb1)],.agg [.i 2,.str hc1,.sl 4 (bI bW cc1)]]:=hzs;obtain rfl:z=nI 3:=bS;exact bL ⟨3,by decide⟩ (bM (by decide))
     ·cbv;repeat'((first|refine .n fun h=>?_|fail)<;>cbv)
      refine dG.seq (.of ?_);cbv;repeat'((first|refine .y fun h=>?_|refine .z fun zs hzs=>?_|refine bP.i0 ?_|refine bO.i0 ?_|fail)<;>cbv)
      obtain rfl:zs=[.agg [.i 1,.str ha1,.sl 4 (bI bW ca1)],.agg [.i 2,.str hb1,.sl 4 (bI bW cb1)],.agg [.i 2,.str hc1,.sl 4 (bI bW cc1)]]:=hzs;refine dG.gh (Gh.plain 4 rfl) (.of ?_);cbv;repeat'((first|refine .k fun z hz=>?_|refine .o ?_|refine .l fun ys hys hyl=>?_|refine .zl fun zs hzs hzl=>?_|refine And.intro ?_ ?_|fail)<;>cbv)
      all_goals
       obtain rfl:zs=bI iD (L.set i ⟨⟨nq1,cq1,sq1,frm1,to1,bq1,pq1,iq1,lq1⟩,1,⟨1,ha1,ca1⟩,⟨2,hb1,cb1⟩,⟨2,hc1,cc1⟩⟩):=jD hzs hys (by assumption) (by assumption) rfl bS hii
       (refine .r9 (Gh.plain 5 rfl) ?_;cbv;exact .inl (.g9 hK))
   ·obtain rfl:L'=L.set i ⟨⟨nq1,cq1,sq1,frm1,to1,bq1,pq1,iq1,lq1⟩,1,⟨2,ha1,ca1⟩,⟨1,hb1,cb1⟩,⟨2,hc1,cc1⟩⟩:=hL';refine dG.seq (.of ?_);cbv;repeat'((first|refine .e ?_|fail)<;>cbv)
    refine dG.seq (.of ?_);cbv;repeat'((first|refine .zl fun zs hzs hzl=>?_|fail)<;>cbv)
    obtain rfl:zs=[.agg [.i sa1,.str ha1,.sl 4 (bI bW ca1)],.agg [.i sb1,.str hb1,.sl 4 (bI bW cb1)],.agg [.i sc1,.str hc1,.sl 4 (bI bW cc1)]]:=hzs;refine dG.seq (.of ?_);cbv
    (refine XG hwh (⟨2,1,day,bill,by_,to,⟨nq2,cq2,sq2,frm2,to2,bq2,pq2,iq2,lq2⟩⟩:At) trivial ?_;try dsimp only)
    rw[aE (by decide)];cbv;refine dG.seq (.of ?_);cbv;refine bV [] (fun q:{ j:Nat // j≤1 }=>[(11,.i (nI q.1))]) (fun q=>[.blk 38 [.str carrier,.sl 11 (bI iD L)],.blk 204 (xD ⟨2,1,day,bill,by_,to,⟨nq2,cq2,sq2,frm2,to2,bq2,pq2,iq2,lq2⟩⟩),.blk 38 [.str ⟨⟨[]⟩⟩,.v (.slice none 0 0)],.blk 104 (xJ ⟨⟨nq1,cq1,sq1,frm1,to1,bq1,pq1,iq1,lq1⟩,st1,⟨sa1,ha1,ca1⟩,⟨sb1,hb1,cb1⟩,⟨sc1,hc1,cc1⟩⟩),.row 107 3 [.agg [.i sa1,.str ha1,.sl 4 (bI bW ca1)],.agg [.i sb1,.str hb1,.sl 4 (bI bW cb1)],.agg [.i sc1,.str hc1,.sl 4 (bI bW cc1)]]]) (fun q=>fK 1 q.1) ⟨0,by decide⟩ ?_;rintro ⟨j,hj⟩;dsimp only at hj⊢;have hj2:j=0∨j=1:=by omega
    rcases hj2 with rfl|rfl
    ·cbv;repeat'((first|refine .n fun h=>?_|refine .y fun h=>?_|refine .k fun z hz=>?_|refine .z fun zs hzs=>?_|refine bP.i0 ?_|refine bP.i1 ?_|refine bO.i1 ?_|fail)<;>cbv)
     obtain rfl:zs=[.agg [.i sa1,.str ha1,.sl 4 (bI bW ca1)],.agg [.i sb1,.str hb1,.sl 4 (bI bW cb1)],.agg [.i sc1,.str hc1,.sl 4 (bI bW cc1)]]:=hzs;obtain rfl:z=nI 1:=bS;exact bL ⟨1,by decide⟩ (bM (by decide))
    ·cbv;repeat'((first|refine .n fun h=>?_|refine .k fun z hz=>?_|fail)<;>cbv)
     refine dG.seq (.of ?_);cbv;repeat'((first|refine .y fun h=>?_|fail)<;>cbv)
     refine bV [] (fun q:{ j:Nat // j≤3 }=>[(13,.i (nI q.1))]) (fun q=>[.blk 38 [.str carrier,.sl 11 (bI iD L)],.blk 204 (xD ⟨2,1,day,bill,by_,to,⟨nq2,cq2,sq2,frm2,to2,bq2,pq2,iq2,lq2⟩⟩),.blk 38 [.str ⟨⟨[]⟩⟩,.v (.slice none 0 0)],.blk 104 (xJ ⟨⟨nq1,cq1,sq1,frm1,to1,bq1,pq1,iq1,lq1⟩,st1,⟨sa1,ha1,ca1⟩,⟨sb1,hb1,cb1⟩,⟨sc1,hc1,cc1⟩⟩),fP q.1 (.row 107 3 [.agg [.i sa1,.str ha1,.sl 4 (bI bW ca1)],.agg [.i sb1,.str hb1,.sl 4 (bI bW cb1)],.agg [.i sc1,.str hc1,.sl 4 (bI bW cc1)]]) (.row 107 3 [.agg [.i 2,.str ha1,.sl 4 (bI bW ca1)],.agg [.i sb1,.str hb1,.sl 4 (bI bW cb1)],.agg [.i sc1,.str hc1,.sl 4 (bI bW cc1)]]) (.row 107 3 [.agg [.i 2,.str ha1,.sl 4 (bI bW ca1)],.agg [.i 2,.str hb1,.sl 4 (bI bW cb1)],.agg [.i sc1,.str hc1,.sl 4 (bI bW cc1)]]) (.row 107 3 [.agg [.i 2,.str ha1,.sl 4 (bI bW ca1)],.agg [.i 2,.str hb1,.sl 4 (bI bW cb1)],.agg [.i 2,.str hc1,.sl 4 (bI bW cc1)]])]) (fun q=>fK 3 q.1) ⟨0,by decide⟩ ?_;rintro ⟨j,hj⟩;dsimp only at hj⊢;have hj2:j=0∨j=1∨j=2∨j=3:=by omega
     rcases hj2 with rfl|rfl|rfl|rfl
     ·cbv;repeat'((first|refine .y fun h=>?_|refine .k fun z hz=>?_|refine .z fun zs hzs=>?_|refine bP.i0 ?_|refine bO.i0 ?_|fail)<;>cbv)
      obtain rfl:zs=[.agg [.i 2,.str ha1,.sl 4 (bI bW ca1)],.agg [.i sb1,.str hb1,.sl 4 (bI bW cb1)],.agg [.i sc1,.str hc1,.sl 4 (bI bW cc1)]]:=hzs;obtain rfl:z=nI 1:=bS;exact bL ⟨1,by decide⟩ (bM (by decide))
     ·cbv;repeat'((first|refine .y fun h=>?_|refine .k fun z hz=>?_|refine .z fun zs hzs=>?_|refine bP.i1 ?_|refine bO.i1 ?_|fail)<;>cbv)
      obtain rfl:zs=[.agg [.i 2,.str ha1,.sl 4 (bI bW ca1)],.agg [.i 2,.str hb1,.sl 4 (bI bW cb1)],.agg [.i sc1,.str hc1,.sl 4 (bI bW cc1)]]:=hzs;obtain rfl:z=nI 2:=bS;exact bL ⟨2,by decide⟩ (bM (by decide))
     ·cbv;repeat'((first|refine .y fun h=>?_|refine .k fun z hz=>?_|refine .z fun zs hzs=>?_|refine bP.i2 ?_|refine bO.i2 ?_|fail)<;>cbv)
      obtain rfl:zs=[.agg [.i 2,.str ha1,.sl 4 (bI bW ca1)],.agg [.i 2,.str hb1,.sl 4 (bI bW cb1)],.agg [.i 2,.str hc1,.sl 4 (bI bW cc1)]]:=hzs;obtain rfl:z=nI 3:=bS;exact bL ⟨3,by decide⟩ (bM (by decide))
     ·cbv;repeat'((first|refine .n fun h=>?_|fail)<;>cbv)
      refine dG.seq (.of ?_);cbv;repeat'((first|refine .y fun h=>?_|refine .z fun zs hzs=>?_|refine bP.i1 ?_|refine bO.i1 ?_|fail)<;>cbv)
      obtain rfl:zs=[.agg [.i 2,.str ha1,.sl 4 (bI bW ca1)],.agg [.i 1,.str hb1,.sl 4 (bI bW cb1)],.agg [.i 2,.str hc1,.sl 4 (bI bW cc1)]]:=hzs;refine dG.gh (Gh.plain 4 rfl) (.of ?_);cbv;repeat'((first|refine .k fun z hz=>?_|refine .o ?_|refine .l fun ys hys hyl=>?_|refine .zl fun zs hzs hzl=>?_|refine And.intro ?_ ?_|fail)<;>cbv)
      all_goals
       obtain rfl:zs=bI iD (L.set i ⟨⟨nq1,cq1,sq1,frm1,to1,bq1,pq1,iq1,lq1⟩,1,⟨2,ha1,ca1⟩,⟨1,hb1,cb1⟩,⟨2,hc1,cc1⟩⟩):=jD hzs hys (by assumption) (by assumption) rfl bS hii
       (refine .r9 (Gh.plain 5 rfl) ?_;cbv;exact .inl (.g9 hK))
   ·obtain rfl:L'=L.set i ⟨⟨nq1,cq1,sq1,frm1,to1,bq1,pq1,iq1,lq1⟩,1,⟨2,ha1,ca1⟩,⟨2,hb1,cb1⟩,⟨1,hc1,cc1⟩⟩:=hL';refine dG.seq (.of ?_);cbv;repeat'((first|refine .e ?_|fail)<;>cbv)
    refine dG.seq (.of ?_);cbv;repeat'((first|refine .zl fun zs hzs hzl=>?_|fail)<;>cbv)
    obtain rfl:zs=[.agg [.i sa1,.str ha1,.sl 4 (bI bW ca1)],.agg [.i sb1,.str hb1,.sl 4 (bI bW cb1)],.agg [.i sc1,.str hc1,.sl 4 (bI bW cc1)]]:=hzs;refine dG.seq (.of ?_);cbv
    (refine XG hwh (⟨2,2,day,bill,by_,to,⟨nq2,cq2,sq2,frm2,to2,bq2,pq2,iq2,lq2⟩⟩:At) trivial ?_;try dsimp only)
    rw[aE (by decide)];cbv;refine dG.seq (.of ?_);cbv;refine bV [] (fun q:{ j:Nat // j≤1 }=>[(11,.i (nI q.1))]) (fun q=>[.blk 38 [.str carrier,.sl 11 (bI iD L)],.blk 204 (xD ⟨2,2,day,bill,by_,to,⟨nq2,cq2,sq2,frm2,to2,bq2,pq2,iq2,lq2⟩⟩),.blk 38 [.str ⟨⟨[]⟩⟩,.v (.slice none 0 0)],.blk 104 (xJ ⟨⟨nq1,cq1,sq1,frm1,to1,bq1,pq1,iq1,lq1⟩,st1,⟨sa1,ha1,ca1⟩,⟨sb1,hb1,cb1⟩,⟨sc1,hc1,cc1⟩⟩),.row 107 3 [.agg [.i sa1,.str ha1,.sl 4 (bI bW ca1)],.agg [.i sb1,.str hb1,.sl 4 (bI bW cb1)],.agg [.i sc1,.str hc1,.sl 4 (bI bW cc1)]]]) (fun q=>fK 1 q.1) ⟨0,by decide⟩ ?_;rintro ⟨j,hj⟩;dsimp only at hj⊢;have hj2:j=0∨j=1:=by omega
    rcases hj2 with rfl|rfl
    ·cbv;repeat'((first|refine .n fun h=>?_|refine .y fun h=>?_|refine .k fun z hz=>?_|refine .z fun zs hzs=>?_|refine bP.i0 ?_|refine bP.i2 ?_|refine bO.i2 ?_|fail)<;>cbv)
     obtain rfl:zs=[.agg [.i sa1,.str ha1,.sl 4 (bI bW ca1)],.agg [.i sb1,.str hb1,.sl 4 (bI bW cb1)],.agg [.i sc1,.str hc1,.sl 4 (bI bW cc1)]]:=hzs;obtain rfl:z=nI 1:=bS;exact bL ⟨1,by decide⟩ (bM (by decide))
    ·cbv;repeat'((first|refine .n fun h=>?_|refine .k fun z hz=>?_|fail)<;>cbv)
     refine dG.seq (.of ?_);cbv;repeat'((first|refine .y fun h=>?_|fail)<;>cbv)
     refine bV [] (fun q:{ j:Nat // j≤3 }=>[(13,.i (nI q.1))]) (fun q=>[.blk 38 [.str carrier,.sl 11 (bI iD L)],.blk 204 (xD ⟨2,2,day,bill,by_,to,⟨nq2,cq2,sq2,frm2,to2,bq2,pq2,iq2,lq2⟩⟩),.blk 38 [.str ⟨⟨[]⟩⟩,.v (.slice none 0 0)],.blk 104 (xJ ⟨⟨nq1,cq1,sq1,frm1,to1,bq1,pq1,iq1,lq1⟩,st1,⟨sa1,ha1,ca1⟩,⟨sb1,hb1,cb1⟩,⟨sc1,hc1,cc1⟩⟩),fP q.1 (.row 107 3 [.agg [.i sa1,.str ha1,.sl 4 (bI bW ca1)],.agg [.i sb1,.str hb1,.sl 4 (bI bW cb1)],.agg [.i sc1,.str hc1,.sl 4 (bI bW cc1)]]) (.row 107 3 [.agg [.i 2,.str ha1,.sl 4 (bI bW ca1)],.agg [.i sb1,.str hb1,.sl 4 (bI bW cb1)],.agg [.i sc1,.str hc1,.sl 4 (bI bW cc1)]]) (.row 107 3 [.agg [.i 2,.str ha1,.sl 4 (bI bW ca1)],.agg [.i 2,.str hb1,.sl 4 (bI bW cb1)],.agg [.i sc1,.str hc1,.sl 4 (bI bW cc1)]]) (.row 107 3 [.agg [.i 2,.str ha1,.sl 4 (bI bW ca1)],.agg [.i 2,.str hb1,.sl 4 (bI bW cb1)],.agg [.i 2,.str hc1,.sl 4 (bI bW cc1)]])]) (fun q=>fK 3 q.1) ⟨0,by decide⟩ ?_;rintro ⟨j,hj⟩;dsimp only at hj⊢;have hj2:j=0∨j=1∨j=2∨j=3:=by omega
     rcases hj2 with rfl|rfl|rfl|rfl
     ·cbv;repeat'((first|refine .y fun h=>?_|refine .k fun z hz=>?_|refine .z fun zs hzs=>?_|refine bP.i0 ?_|refine bO.i0 ?_|fail)<;>cbv)
      obtain rfl:zs=[.agg [.i 2,.str ha1,.sl 4 (bI bW ca1)],.agg [.i sb1,.str hb1,.sl 4 (bI bW cb1)],.agg [.i sc1,.str hc1,.sl 4 (bI bW cc1)]]:=hzs;obtain rfl:z=nI 1:=bS;exact bL ⟨1,by decide⟩ (bM (by decide))
     ·cbv;repeat'((first|refine .y fun h=>?_|refine .k fun z hz=>?_|refine .z fun zs hzs=>?_|refine bP.i1 ?_|refine bO.i1 ?_|fail)<;>cbv)
      obtain rfl:zs=[.agg [.i 2,.str ha1,.sl 4 (bI bW ca1)],.agg [.i 2,.str hb1,.sl 4 (bI bW cb1)],.agg [.i sc1,.str hc1,.sl 4 (bI bW cc1)]]:=hzs;obtain rfl:z=nI 2:=bS;exact bL ⟨2,by decide⟩ (bM (by decide))
     ·cbv;repeat'((first|refine .y fun h=>?_|refine .k fun z hz=>?_|refine .z fun zs hzs=>?_|refine bP.i2 ?_|refine bO.i2 ?_|fail)<;>cbv)
      obtain rfl:zs=[.agg [.i 2,.str ha1,.sl 4 (bI bW ca1)],.agg [.i 2,.str hb1,.sl 4 (bI bW cb1)],.agg [.i 2,.str hc1,.sl 4 (bI bW cc1)]]:=hzs;obtain rfl:z=nI 3:=bS;exact bL ⟨3,by decide⟩ (bM (by decide))
     ·cbv;repeat'((first|refine .n fun h=>?_|fail)<;>cbv)
      refine dG.seq (.of ?_);cbv;repeat'((first|refine .y fun h=>?_|refine .z fun zs hzs=>?_|refine bP.i2 ?_|refine bO.i2 ?_|fail)<;>cbv)
      obtain rfl:zs=[.agg [.i 2,.str ha1,.sl 4 (bI bW ca1)],.agg [.i 2,.str hb1,.sl 4 (bI bW cb1)],.agg [.i 1,.str hc1,.sl 4 (bI bW cc1)]]:=hzs;refine dG.gh (Gh.plain 4 rfl) (.of ?_);cbv;repeat'((first|refine .k fun z hz=>?_|refine .o ?_|refine .l fun ys hys hyl=>?_|refine .zl fun zs hzs hzl=>?_|refine And.intro ?_ ?_|fail)<;>cbv)
      all_goals
       obtain rfl:zs=bI iD (L.set i ⟨⟨nq1,cq1,sq1,frm1,to1,bq1,pq1,iq1,lq1⟩,1,⟨2,ha1,ca1⟩,⟨2,hb1,cb1⟩,⟨1,hc1,cc1⟩⟩):=jD hzs hys (by assumption) (by assumption) rfl bS hii
       (refine .r9 (Gh.plain 5 rfl) ?_;cbv;exact .inl (.g9 hK))
 ·rw[aE (by assumption:¬e=0)]at hL';subst hL'
  (refine .q9 ?_;cbv;exact .inl (.f9 hK))
theorem It (P:bH) (hw:bJ P 142 mK) (hf:bJ P 63 rN) (hwh:bJ P 143 nV):bN P IW (pE 5):=by
 intro args H K hc;obtain⟨⟨⟨carrier,L⟩,a⟩,rfl,rfl,hp,hK⟩:=hc;refine⟨cN,?_⟩;dsimp only at hp hK⊢;obtain⟨hkind,_,hfew,hall,hok,hsz,hts⟩:=hp;dsimp only at hkind hfew hall hok hsz hts;have hd:iN ⟨carrier,L⟩ a=(⟨carrier,fY L (cR a) (jH a)⟩,eE L (cR a)):=by unfold iN;rw[aE (by omega)]
 rw[hd]at hK;clear hd;obtain⟨e,he⟩:∃e,e=eE L (cR a):=⟨_,rfl⟩
 obtain⟨L',hL'⟩:∃L',L'=fY L (cR a) (jH a):=⟨_,rfl⟩
 rw[←he,←hL']at hK;unfold fY at hL';rw[←he]at hL';obtain⟨kind,index,day,bill,by_,to,b⟩:=a;obtain rfl:kind=5:=hkind;obtain⟨nq2,cq2,sq2,frm2,to2,bq2,pq2,iq2,lq2⟩:=b;cbv;repeat'((first|refine .n fun h=>?_|fail)<;>cbv)
 (refine XG hw ((⟨carrier,L⟩:Rg),(⟨5,index,day,bill,by_,to,⟨nq2,cq2,sq2,frm2,to2,bq2,pq2,iq2,lq2⟩⟩:At)) ⟨⟨by show (1:Int)≤5;decide,by show (5:Int)≤5;decide⟩,hfew,fun b hb=>(hall b hb).1,hts⟩ ?_;try dsimp only)
 rw[←he];cbv;repeat'((first|refine .mk (fun h=>?_) fun h=>?_|fail)<;>cbv)
 ·rw[aF (by assumption:e=0)]at hL';have h0:e=0:=by assumption
  rw[h0]at hK;obtain⟨f,hf1⟩:∃f,f=oG (fun y:Br=>decide (y.b.number=bill)) L:=⟨_,rfl⟩
  (refine XG hf ((⟨carrier,L⟩:Rg),bill) (by dsimp only;omega) ?_;try dsimp only)
  rw[←hf1];cases hb:qQ L bill with
  |none=>exact(jP (he.symm.trans (by assumption:e=0)) hb).elim
  |some i=>
   rw[kY,hb]at hf1;dsimp only at hf1;subst hf1;obtain⟨x,hx,_⟩:=dY hb;have hii:=(aA.1 hx).1;have hz:=kQ (he.symm.trans (by assumption:e=0)) hb hx;have hL':L'=AR L bill (AK 4):=hL';rw[gK _ hb hx]at hL';clear hz;obtain⟨⟨nq1,cq1,sq1,frm1,to1,bq1,pq1,iq1,lq1⟩,st1,⟨sa1,ha1,ca1⟩,⟨sb1,hb1,cb1⟩,⟨sc1,hc1,cc1⟩⟩:=x;obtain rfl:L'=L.set i ⟨⟨nq1,cq1,sq1,frm1,to1,bq1,pq1,iq1,lq1⟩,4,⟨2,ha1,ca1⟩,⟨2,hb1,cb1⟩,⟨2,hc1,cc1⟩⟩:=hL';cbv;repeat'((first|refine .e ?_|refine .zl fun zs hzs hzl=>?_|fail)<;>cbv)
   obtain rfl:zs=[.agg [.i sa1,.str ha1,.sl 4 (bI bW ca1)],.agg [.i sb1,.str hb1,.sl 4 (bI bW cb1)],.agg [.i sc1,.str hc1,.sl 4 (bI bW cc1)]]:=hzs
   (refine XG hwh (⟨5,index,day,bill,by_,to,⟨nq2,cq2,sq2,frm2,to2,bq2,pq2,iq2,lq2⟩⟩:At) trivial ?_;try dsimp only)
   rw[aF (.inl rfl)];cbv;refine bV [] (fun q:{ j:Nat // j≤3 }=>[(11,.i (nI q.1))]) (fun q=>[.blk 38 [.str carrier,.sl 11 (bI iD L)],.blk 204 (xD ⟨5,index,day,bill,by_,to,⟨nq2,cq2,sq2,frm2,to2,bq2,pq2,iq2,lq2⟩⟩),.blk 38 [.str ⟨⟨[]⟩⟩,.v (.slice none 0 0)],.blk 104 (xJ ⟨⟨nq1,cq1,sq1,frm1,to1,bq1,pq1,iq1,lq1⟩,st1,⟨sa1,ha1,ca1⟩,⟨sb1,hb1,cb1⟩,⟨sc1,hc1,cc1⟩⟩),.row 107 3 [.agg [.i sa1,.str ha1,.sl 4 (bI bW ca1)],.agg [.i sb1,.str hb1,.sl 4 (bI bW cb1)],.agg [.i sc1,.str hc1,.sl 4 (bI bW cc1)]]]) (fun q=>fK 3 q.1) ⟨0,by decide⟩ ?_;rintro ⟨j,hj⟩;dsimp only at hj⊢;have hj2:j=0∨j=1∨j=2∨j=3:=by omega
   rcases hj2 with rfl|rfl|rfl|rfl
   ·cbv;repeat'((first|refine .n fun h=>?_|refine .y fun h=>?_|refine .k fun z hz=>?_|refine .z fun zs hzs=>?_|refine bP.i0 ?_|refine bO.i0 ?_|fail)<;>cbv)
    obtain rfl:zs=[.agg [.i sa1,.str ha1,.sl 4 (bI bW ca1)],.agg [.i sb1,.str hb1,.sl 4 (bI bW cb1)],.agg [.i sc1,.str hc1,.sl 4 (bI bW cc1)]]:=hzs;obtain rfl:z=nI 1:=bS;exact bL ⟨1,by decide⟩ (bM (by decide))
   ·cbv;repeat'((first|refine .n fun h=>?_|refine .y fun h=>?_|refine .k fun z hz=>?_|refine .z fun zs hzs=>?_|refine bP.i1 ?_|refine bO.i1 ?_|fail)<;>cbv)
    obtain rfl:zs=[.agg [.i sa1,.str ha1,.sl 4 (bI bW ca1)],.agg [.i sb1,.str hb1,.sl 4 (bI bW cb1)],.agg [.i sc1,.str hc1,.sl 4 (bI bW cc1)]]:=hzs;obtain rfl:z=nI 2:=bS;exact bL ⟨2,by decide⟩ (bM (by decide))
   ·cbv;repeat'((first|refine .n fun h=>?_|refine .y fun h=>?_|refine .k fun z hz=>?_|refine .z fun zs hzs=>?_|refine bP.i2 ?_|refine bO.i2 ?_|fail)<;>cbv)
    obtain rfl:zs=[.agg [.i sa1,.str ha1,.sl 4 (bI bW ca1)],.agg [.i sb1,.str hb1,.sl 4 (bI bW cb1)],.agg [.i sc1,.str hc1,.sl 4 (bI bW cc1)]]:=hzs;obtain rfl:z=nI 3:=bS;exact bL ⟨3,by decide⟩ (bM (by decide))
   ·cbv;repeat'((first|refine .n fun h=>?_|refine .y fun h=>?_|refine .k fun z hz=>?_|fail)<;>cbv)
    refine bV [4] (fun q:{ j:Nat // j≤3 }=>[(13,.i (nI q.1)),(9,fP q.1 (.hd 4) (.hd 4) (.hd 4) (.sl 3 [.agg [.i 2,.str ha1,.sl 4 (bI bW ca1)],.agg [.i 2,.str hb1,.sl 4 (bI bW cb1)],.agg [.i 2,.str hc1,.sl 4 (bI bW cc1)]]))]) (fun q=>[.blk 38 [.str carrier,.sl 11 (bI iD L)],.blk 204 (xD ⟨5,index,day,bill,by_,to,⟨nq2,cq2,sq2,frm2,to2,bq2,pq2,iq2,lq2⟩⟩),.blk 38 [.str ⟨⟨[]⟩⟩,.v (.slice none 0 0)],.blk 104 (xJ ⟨⟨nq1,cq1,sq1,frm1,to1,bq1,pq1,iq1,lq1⟩,st1,⟨sa1,ha1,ca1⟩,⟨sb1,hb1,cb1⟩,⟨sc1,hc1,cc1⟩⟩),fP q.1 (.row 107 3 [.agg [.i sa1,.str ha1,.sl 4 (bI bW ca1)],.agg [.i sb1,.str hb1,.sl 4 (bI bW cb1)],.agg [.i sc1,.str hc1,.sl 4 (bI bW cc1)]]) (.row 107 3 [.agg [.i 2,.str ha1,.sl 4 (bI bW ca1)],.agg [.i sb1,.str hb1,.sl 4 (bI bW cb1)],.agg [.i sc1,.str hc1,.sl 4 (bI bW cc1)]]) (.row 107 3 [.agg [.i 2,.str ha1,.sl 4 (bI bW ca1)],.agg [.i 2,.str hb1,.sl 4 (bI bW cb1)],.agg [.i sc1,.str hc1,.sl 4 (bI bW cc1)]]) (.tip 107 3 [.agg [.i 2,.str ha1,.sl 4 (bI bW ca1)],.agg [.i 2,.str hb1,.sl 4 (bI bW cb1)],.agg [.i 2,.str hc1,.sl 4 (bI bW cc1)]])]) (fun q=>fK 3 q.1) ⟨0,by decide⟩ ?_;rintro ⟨j,hj⟩;dsimp only at hj⊢;have hj2:j=0∨j=1∨j=2∨j=3:=by omega
    rcases hj2 with rfl|rfl|rfl|rfl
    ·cbv;repeat'((first|refine .y fun h=>?_|refine .k fun z hz=>?_|refine .z fun zs hzs=>?_|refine bP.i0 ?_|refine bO.i0 ?_|fail)<;>cbv)
     obtain rfl:zs=[.agg [.i 2,.str ha1,.sl 4 (bI bW ca1)],.agg [.i sb1,.str hb1,.sl 4 (bI bW cb1)],.agg [.i sc1,.str hc1,.sl 4 (bI bW cc1)]]:=hzs;obtain rfl:z=nI 1:=bS;exact bL ⟨1,by decide⟩ (bM (by decide))
    ·cbv;repeat'((first|refine .y fun h=>?_|refine .k fun z hz=>?_|refine .z fun zs hzs=>?_|refine bP.i1 ?_|refine bO.i1 ?_|fail)<;>cbv)
     obtain rfl:zs=[.agg [.i 2,.str ha1,.sl 4 (bI bW ca1)],.agg [.i 2,.str hb1,.sl 4 (bI bW cb1)],.agg [.i sc1,.str hc1,.sl 4 (bI bW cc1)]]:=hzs;obtain rfl:z=nI 2:=bS;exact bL ⟨2,by decide⟩ (bM (by decide))
    ·cbv;repeat'((first|refine .y fun h=>?_|refine .k fun z hz=>?_|refine .z fun zs hzs=>?_|refine bP.i2 ?_|refine bO.i2 ?_|fail)<;>cbv)
     obtain rfl:zs=[.agg [.i 2,.str ha1,.sl 4 (bI bW ca1)],.agg [.i 2,.str hb1,.sl 4 (bI bW cb1)],.agg [.i 2,.str hc1,.sl 4 (bI bW cc1)]]:=hzs;obtain rfl:z=nI 3:=bS;refine dV (Gh.plain 4 rfl) ?_;cbv;exact bL ⟨3,by decide⟩ (bM (by decide))
    ·cbv;repeat'((first|refine .n fun h=>?_|refine .k fun z hz=>?_|refine .o ?_|refine .l fun ys hys hyl=>?_|refine .zl fun zs hzs hzl=>?_|refine And.intro ?_ ?_|fail)<;>cbv)
     all_goals
      obtain rfl:zs=bI iD (L.set i ⟨⟨nq1,cq1,sq1,frm1,to1,bq1,pq1,iq1,lq1⟩,4,⟨2,ha1,ca1⟩,⟨2,hb1,cb1⟩,⟨2,hc1,cc1⟩⟩):=jD hzs hys (by assumption) (by assumption) rfl bS hii
      (refine .r9 (Gh.plain 5 rfl) ?_;cbv;exact .inl (.g9 hK))
 ·rw[aE (by assumption:¬e=0)]at hL';subst hL'
  (refine .q9 ?_;cbv;exact .inl (.f9 hK))
def FT:dN:=spec (fun i:Rg×At=>[Je i.1,Nn i.2]) (fun _=>[]) (fun i=>Jh i) (fun i=>UA (iN i.1 i.2)) fun _=>[]
theorem Q3 {P:bH}{f:Nat}(h0:bJ P f (pE 0)) (h1:bJ P f (pE 1)) (h2:bJ P f (pE 2)) (h3:bJ P f (pE 3)) (h4:bJ P f (pE 4)) (h5:bJ P f (pE 5)):bJ P f FT:=by
 intro args H K hc;obtain⟨i,rfl,rfl,hp,hK⟩:=hc;have hk:=hp.kind;have h:i.2.kind=0∨i.2.kind=1∨i.2.kind=2∨i.2.kind=3∨i.2.kind=4∨i.2.kind=5:=by omega
 rcases h with h|h|h|h|h|h
 ·exact h0 _ _ K ⟨i,rfl,rfl,⟨h,hp⟩,hK⟩
 ·exact h1 _ _ K ⟨i,rfl,rfl,⟨h,hp⟩,hK⟩
 ·exact h2 _ _ K ⟨i,rfl,rfl,⟨h,hp⟩,hK⟩
 ·exact h3 _ _ K ⟨i,rfl,rfl,⟨h,hp⟩,hK⟩
 ·exact h4 _ _ K ⟨i,rfl,rfl,⟨h,hp⟩,hK⟩
 ·exact h5 _ _ K ⟨i,rfl,rfl,⟨h,hp⟩,hK⟩
set_option maxHeartbeats 8000000
def R3:Dp→List AV
 |⟨number,seller,buyer,house,frm,to,boxes,state,rel⟩=>[.str number,.str seller,.str buyer,.str house,.str frm,.str to,.sl 1 (bI .str boxes),.i state,.bl rel]
def gZ:Dp→AU
 |⟨number,seller,buyer,house,frm,to,boxes,state,rel⟩=>(.str number,.ptr 0 0,[.blk 136 [.str number,.str seller,.str buyer,.str house,.str frm,.str to,.sl 1 (bI .str boxes),.i state,.bl rel]])
def Vj (d:Dp):List cH:=[.blk 136 (R3 d)]
def Ld (C:Cr) (i:Nat) (d:Dp):List cH:=[.blk 118 [.str C.name,.hd 1,.ph 2,.ptr 3 0,.ptr 5 0,.hd 7],.map 70 (bI iH C.parties),.pool 116 (bI gZ C.deals) [(i,.ptr 8 0)],.blk 122 [.str C.reg.carrier,.ph 4],.pool 120 (bI eD C.reg.bills) [],.blk 174 [.ph 6],.pool 172 (bI gE C.cust) [],.tip 77 5 (bI dC C.deliv),.blk 136 (R3 d)]
structure HQ where
 C:Cr
 i:Nat
 d:Dp
 l:dK
 day:Int
structure Wr (q:HQ):Prop where
 num:q.d.number.size≤1000
 few:q.C.reg.bills.length≤256
 all:∀b∈q.C.reg.bills,inB b
def gB (κ:Int→Prop) (f:HQ→Cr×Dp×List dK):dN:=spec (fun q:HQ=>[.ptr 0 0,.ptr 8 0,dP q.l,.i q.day]) (fun q=>Ld q.C q.i q.d) (fun q=>κ q.l.kind∧Wr q) (fun _=>.hd 9) fun q=>Ld (f q).1 q.i (f q).2.1++[.row 58 14 (bI dP (f q).2.2)]
def BI:dN:=spec (fun _:Dp=>[.ptr 0 0]) Vj (fun d=>d.number.size≤1000) (fun d=>.str (cW d.number)) Vj
theorem Gs (P:bH):bN P Se BI:=by
 intro args H K hc;obtain⟨⟨number,seller,buyer,house,frm,to,boxes,state,rel⟩,rfl,rfl,hp,hK⟩:=hc;refine⟨cN,?_⟩;dsimp only at hp hK⊢;have z3:(ByteArray.mk (Array.mk [98,108,45])).size=3:=rfl;obtain⟨bn,hbn⟩:∃b,b=Dj++number:=⟨_,rfl⟩
 replace hK:K (.str (Dj++number)) (Vj ⟨number,seller,buyer,house,frm,to,boxes,state,rel⟩):=hK;rw[←hbn]at hK;cbv;repeat'((first|refine .u fun u hu hul=>?_|fail)<;>cbv)
 obtain rfl:u=bn:=by rw[hbn];assumption
 (refine .q9 ?_;cbv;exact .inl (.f9 hK))
def AX (q:HQ):Cr×Dp×List dK:=(q.C,if q.d.house≠eS∧q.l.frm=q.d.house then KJ q.d else q.d,[])
theorem AD (P:bH):bN P Xr (gB (fun k=>k=19) AX):=by
 intro args H K hc;obtain⟨⟨⟨name,parties,deals,⟨rc,rL⟩,cust,deliv⟩,i,⟨number,seller,buyer,house,dfrm,dto,dboxes,state,rel⟩,⟨frm,to,lnumber,kind,ack,deal,text,party,index,day0,cur,amt,docs,boxes⟩,day⟩,rfl,rfl,hp,hK⟩:=hc;refine⟨cN,?_⟩;dsimp only at hp hK⊢;obtain⟨r,hr⟩:∃r,r=AX ⟨⟨name,parties,deals,⟨rc,rL⟩,cust,deliv⟩,i,⟨number,seller,buyer,house,dfrm,dto,dboxes,state,rel⟩,⟨frm,to,lnumber,kind,ack,deal,text,party,index,day0,cur,amt,docs,boxes⟩,day⟩:=⟨_,rfl⟩
 rw[←hr]at hK;unfold AX at hr;dsimp only at hr;cbv;repeat'((first|refine .mk (fun h=>?_) fun h=>?_|fail)<;>cbv)
 ·rw[aE (fun h=>h.1 (by assumption))]at hr;subst hr;refine cV (Gh.adopt 8 58 14 rfl) ?_;cbv
  (refine .q9 ?_;cbv;exact .inl (eU.sel [0,1,2,3,4,5,6,7,8,10] _ _ (by rfl) (by rfl) (by decide) (by rfl) cN (by rfl) (by rfl) (Le.refl _) (jS.refl _) hK))
 ·rw[aF ⟨by assumption,by assumption⟩]at hr;subst hr;refine cV (Gh.adopt 8 58 14 rfl) ?_;cbv
  (refine .q9 ?_;cbv;exact .inl (eU.sel [0,1,2,3,4,5,6,7,8,10] _ _ (by rfl) (by rfl) (by decide) (by rfl) cN (by rfl) (by rfl) (Le.refl _) (jS.refl _) hK))
 ·rw[aE (fun h=>absurd h.2 (by assumption))]at hr;subst hr;refine cV (Gh.adopt 8 58 14 rfl) ?_;cbv
  (refine .q9 ?_;cbv;exact .inl (eU.sel [0,1,2,3,4,5,6,7,8,10] _ _ (by rfl) (by rfl) (by decide) (by rfl) cN (by rfl) (by rfl) (Le.refl _) (jS.refl _) hK))
def pL (q:HQ):Cr×Dp×List dK:=let r:=rQ fB q.C q.d q.l q.day;(r.1,q.d,r.2)
def pZ (q:HQ):Cr×Dp×List dK:=let r:=rK fB q.C q.d q.l q.day;(r.1,q.d,r.2)
def mI (q:HQ):Cr×Dp×List dK:=let r:=zN fB q.C q.d q.l q.day;(r.1,q.d,r.2)
theorem As {q:HQ}(h:jI q.C.reg (cI 3 q.d q.l q.day)≠0):pL q=(q.C,q.d,eL fB q.l):=by
 have:rQ fB q.C q.d q.l q.day=(q.C,eL fB q.l):=aF h;unfold pL;rw[this]
theorem uH {q:HQ}(h:jI q.C.reg (cI 3 q.d q.l q.day)=0):pL q=({ q.C with reg:=wK q.C.reg (cI 3 q.d q.l q.day) },q.d,[]):=by
 have:rQ fB q.C q.d q.l q.day=({ q.C with reg:=wK q.C.reg (cI 3 q.d q.l q.day) },[]):=aE (fun h2=>h2 h);unfold pL;rw[this]
theorem zP {q:HQ}(h:jI q.C.reg (cI 4 q.d q.l q.day)≠0):pZ q=(q.C,q.d,eL fB q.l):=by
 have:rK fB q.C q.d q.l q.day=(q.C,eL fB q.l):=aF h;unfold pZ;rw[this]
theorem uY {q:HQ}(h:jI q.C.reg (cI 4 q.d q.l q.day)=0):pZ q=({ q.C with reg:=wK q.C.reg (cI 4 q.d q.l q.day) },q.d,[{ lX with to:=q.l.frm,kind:=25,index:=q.l.index }]):=by
 have:rK fB q.C q.d q.l q.day=({ q.C with reg:=wK q.C.reg (cI 4 q.d q.l q.day) },[{ lX with to:=q.l.frm,kind:=25,index:=q.l.index }]):=aE (fun h2=>h2 h);unfold pZ;rw[this]
theorem zK {q:HQ}(h:iS q.C.parties q.l.party=false∨q.l.party=q.l.frm∨jI q.C.reg (cI 1 q.d q.l q.day)≠0):mI q=(q.C,q.d,eL fB q.l):=by
 have:zN fB q.C q.d q.l q.day=(q.C,eL fB q.l):=aF h;unfold mI;rw[this]
theorem Kl {q:HQ}(h0:iS q.C.parties q.l.party=true) (h1:¬q.l.party=q.l.frm) (h:jI q.C.reg (cI 1 q.d q.l q.day)=0):mI q=({ q.C with reg:=wK q.C.reg (cI 1 q.d q.l q.day) },q.d,[{ lX with to:=q.l.party,kind:=9,index:=q.l.index,party:=q.l.party }]):=by
 have:zN fB q.C q.d q.l q.day=({ q.C with reg:=wK q.C.reg (cI 1 q.d q.l q.day) },[{ lX with to:=q.l.party,kind:=9,index:=q.l.index,party:=q.l.party }]):=aE (fun h2=>by
  rcases h2 with h2|h2|h2
  ·rw[h0]at h2;cases h2
  ·exact h1 h2
  ·exact h2 h)
 unfold mI;rw[this]
theorem BS {L:List bG}{s:bG}{i:Nat}(h:kK id L s=some i):iS L s=true:=by
 obtain⟨y,hy,he⟩:=dY h;exact List.any_eq_true.2 ⟨y,aC hy,by simpa using he⟩
theorem tW {L:List bG}{s:bG}(h:kK id L s=none):iS L s=false:=by
 unfold iS;rw[List.any_eq_false];intro y hy;unfold kK at h;rw[List.findIdx?_eq_none_iff]at h;have:=h y hy;simpa using this
theorem KL {R:Rg}{d:Dp}{l:dK}{day:Int}:jI R (cI 3 d l day)=eE R.bills ⟨cW d.number,l.index,0,l.frm,0,0,false,false⟩:=rfl
theorem Sf {R:Rg}{d:Dp}{l:dK}{day:Int}:wK R (cI 3 d l day)=⟨R.carrier,fY R.bills ⟨cW d.number,l.index,0,l.frm,0,0,false,false⟩ (H7 ⟨cW d.number,l.index,0,l.frm,0,0,false,false⟩)⟩:=rfl
theorem Lh {R:Rg}{d:Dp}{l:dK}{day:Int}:jI R (cI 4 d l day)=eE R.bills ⟨cW d.number,l.index,0,l.frm,3,day,true,false⟩:=rfl
theorem Sx {R:Rg}{d:Dp}{l:dK}{day:Int}:wK R (cI 4 d l day)=⟨R.carrier,fY R.bills ⟨cW d.number,l.index,0,l.frm,3,day,true,false⟩ (NK ⟨cW d.number,l.index,0,l.frm,3,day,true,false⟩)⟩:=rfl
theorem L5 {R:Rg}{d:Dp}{l:dK}{day:Int}:jI R (cI 1 d l day)=eE R.bills ⟨cW d.number,l.index,-1,l.frm,0,day,true,hU l.frm l.party⟩:=rfl
theorem Si {R:Rg}{d:Dp}{l:dK}{day:Int}:wK R (cI 1 d l day)=⟨R.carrier,fY R.bills ⟨cW d.number,l.index,-1,l.frm,0,day,true,hU l.frm l.party⟩ (sO l.index (sM l.frm l.party day))⟩:=rfl
theorem GL (P:bH) (hb:bJ P 120 BI) (hlo:bJ P 46 K6) (ho:bJ P 121 IZ):bN P WP (gB (fun k=>k=23) pL):=by
 intro args H K hc;obtain⟨⟨⟨name,parties,deals,⟨rc,rL⟩,cust,deliv⟩,i,⟨number,seller,buyer,house,dfrm,dto,dboxes,state,rel⟩,⟨frm,to,lnumber,kind,ack,deal,text,party,index,day0,cur,amt,docs,boxes⟩,day⟩,rfl,rfl,hp,hK⟩:=hc;refine⟨cN,?_⟩;dsimp only at hp hK⊢;obtain⟨hk,hnum,hfew,hall⟩:=hp;dsimp only at hk hnum hfew hall;subst hk;have hok:lU 23:=by unfold lU;decide
 obtain⟨r,hr⟩:∃r,r=pL ⟨⟨name,parties,deals,⟨rc,rL⟩,cust,deliv⟩,i,⟨number,seller,buyer,house,dfrm,dto,dboxes,state,rel⟩,⟨frm,to,lnumber,23,ack,deal,text,party,index,day0,cur,amt,docs,boxes⟩,day⟩:=⟨_,rfl⟩
 rw[←hr]at hK;obtain⟨bn,hbn⟩:∃b,b=cW number:=⟨_,rfl⟩
 obtain⟨e,he⟩:∃e,e=eE rL ⟨bn,index,0,frm,0,0,false,false⟩:=⟨_,rfl⟩
 obtain⟨M,hM⟩:∃M,M=fY rL ⟨bn,index,0,frm,0,0,false,false⟩ (H7 ⟨bn,index,0,frm,0,0,false,false⟩):=⟨_,rfl⟩
 have hr1:e≠0→r=(⟨name,parties,deals,⟨rc,rL⟩,cust,deliv⟩,⟨number,seller,buyer,house,dfrm,dto,dboxes,state,rel⟩,eL fB ⟨frm,to,lnumber,23,ack,deal,text,party,index,day0,cur,amt,docs,boxes⟩):=fun h=>by
  rw[hr];refine As ?_;rw[KL];rw[he,hbn]at h;exact h
 have hr2:e=0→r=(⟨name,parties,deals,⟨rc,M⟩,cust,deliv⟩,⟨number,seller,buyer,house,dfrm,dto,dboxes,state,rel⟩,[]):=fun h=>by
  rw[hr,hM];refine(uH (by rw[KL];rw[he,hbn]at h;exact h)).trans ?_;rw[Sf,hbn]
 have hM0:e≠0→M=rL:=fun h=>by rw[hM];exact aE (he ▸ h)
 clear hr;cbv
 all_goals
  (refine gT hb (⟨number,seller,buyer,house,dfrm,dto,dboxes,state,rel⟩:Dp) [8] hnum ?_;try dsimp only)
  rw[←hbn];cbv
  (refine gT hlo ((⟨rc,rL⟩,⟨bn,index,0,frm,0,0,false,false⟩):Rg×Ak) [3,4] ⟨fun b hb=>(hall b hb).1,rfl,rfl,rfl,rfl,rfl⟩ ?_;try dsimp only)
  rw[←he,←hM];cbv;repeat'((first|refine .mk (fun h=>?_) fun h=>?_|fail)<;>cbv)
 all_goals first
 |(have hr:=hr2 (by assumption)
   subst hr;refine cV (Gh.adopt 8 58 14 rfl) ?_;cbv
   (refine .q9 ?_;cbv;exact .inl (eU.sel [0,1,2,3,4,5,6,7,8,10] _ _ (by rfl) (by rfl) (by decide) (by rfl) cN (by rfl) (by rfl) (Le.refl _) (jS.refl _) hK)))
 |(obtain rfl:M=rL:=hM0 (by assumption)
   have hr:=hr1 (by assumption);subst hr
   (refine xK ho (⟨frm,to,lnumber,23,ack,deal,text,party,index,day0,cur,amt,docs,boxes⟩:dK) hok ?_;try dsimp only)
   cbv
   (refine .q9 ?_;cbv;exact .inl (eU.sel [0,1,2,3,4,5,6,7,8,10] _ _ (by rfl) (by rfl) (by decide) (by rfl) cN (by rfl) (by rfl) (Le.refl _) (jS.refl _) hK)))
theorem AJ (P:bH) (hb:bJ P 120 BI) (hrp:bJ P 123 Ad) (ho:bJ P 121 IZ):bN P Xs (gB (fun k=>k=24) pZ):=by
 intro args H K hc;obtain⟨⟨⟨name,parties,deals,⟨rc,rL⟩,cust,deliv⟩,i,⟨number,seller,buyer,house,dfrm,dto,dboxes,state,rel⟩,⟨frm,to,lnumber,kind,ack,deal,text,party,index,day0,cur,amt,docs,boxes⟩,day⟩,rfl,rfl,hp,hK⟩:=hc;refine⟨cN,?_⟩;dsimp only at hp hK⊢;obtain⟨hk,hnum,hfew,hall⟩:=hp;dsimp only at hk hnum hfew hall;subst hk;have hok:lU 24:=by unfold lU;decide
 obtain⟨r,hr⟩:∃r,r=pZ ⟨⟨name,parties,deals,⟨rc,rL⟩,cust,deliv⟩,i,⟨number,seller,buyer,house,dfrm,dto,dboxes,state,rel⟩,⟨frm,to,lnumber,24,ack,deal,text,party,index,day0,cur,amt,docs,boxes⟩,day⟩:=⟨_,rfl⟩
 rw[←hr]at hK;obtain⟨bn,hbn⟩:∃b,b=cW number:=⟨_,rfl⟩
 obtain⟨e,he⟩:∃e,e=eE rL ⟨bn,index,0,frm,3,day,true,false⟩:=⟨_,rfl⟩
 obtain⟨M,hM⟩:∃M,M=fY rL ⟨bn,index,0,frm,3,day,true,false⟩ (NK ⟨bn,index,0,frm,3,day,true,false⟩):=⟨_,rfl⟩
 have hr1:e≠0→r=(⟨name,parties,deals,⟨rc,rL⟩,cust,deliv⟩,⟨number,seller,buyer,house,dfrm,dto,dboxes,state,rel⟩,eL fB ⟨frm,to,lnumber,24,ack,deal,text,party,index,day0,cur,amt,docs,boxes⟩):=fun h=>by
  rw[hr];refine zP ?_;rw[Lh];rw[he,hbn]at h;exact h
 have hr2:e=0→r=(⟨name,parties,deals,⟨rc,M⟩,cust,deliv⟩,⟨number,seller,buyer,house,dfrm,dto,dboxes,state,rel⟩,[⟨eS,frm,0,25,0,eS,eS,eS,index,0,eS,0,[],[]⟩]):=fun h=>by
  rw[hr,hM];refine(uY (by rw[Lh];rw[he,hbn]at h;exact h)).trans ?_;rw[Sx,hbn];rfl
 have hM0:e≠0→M=rL:=fun h=>by rw[hM];exact aE (he ▸ h)
 clear hr;cbv
 all_goals
  (refine gT hb (⟨number,seller,buyer,house,dfrm,dto,dboxes,state,rel⟩:Dp) [8] hnum ?_;try dsimp only)
  rw[←hbn];cbv
  (refine gT hrp ((⟨rc,rL⟩,⟨bn,index,0,frm,3,day,true,false⟩):Rg×Ak) [3,4] ⟨fun b hb=>(hall b hb).1,rfl,rfl,rfl,rfl⟩ ?_;try dsimp only)
  rw[←he,←hM];cbv;repeat'((first|refine .mk (fun h=>?_) fun h=>?_|fail)<;>cbv)
 all_goals first
 |(have hr:=hr2 (by assumption)
   subst hr;refine cV (Gh.leAt 10 (.row 58 14 (bI dP [⟨eS,frm,0,25,0,eS,eS,eS,index,0,eS,0,[],[]⟩])) rfl (sA Aw)) ?_;cbv
   (refine .q9 ?_;cbv;exact .inl (eU.sel [0,1,2,3,4,5,6,7,8,10] _ _ (by rfl) (by rfl) (by decide) (by rfl) cN (by rfl) (by rfl) (Le.refl _) (jS.refl _) hK)))
 |(obtain rfl:M=rL:=hM0 (by assumption)
   have hr:=hr1 (by assumption);subst hr
   (refine xK ho (⟨frm,to,lnumber,24,ack,deal,text,party,index,day0,cur,amt,docs,boxes⟩:dK) hok ?_;try dsimp only)
   cbv
   (refine .q9 ?_;cbv;exact .inl (eU.sel [0,1,2,3,4,5,6,7,8,10] _ _ (by rfl) (by rfl) (by decide) (by rfl) cN (by rfl) (by rfl) (Le.refl _) (jS.refl _) hK)))
theorem AP (P:bH) (hb:bJ P 120 BI) (hen:bJ P 119 Ar) (ho:bJ P 121 IZ):bN P WF (gB (fun k=>k=8) mI):=by
 intro args H K hc;obtain⟨⟨⟨name,parties,deals,⟨rc,rL⟩,cust,deliv⟩,i,⟨number,seller,buyer,house,dfrm,dto,dboxes,state,rel⟩,⟨frm,to,lnumber,kind,ack,deal,text,party,index,day0,cur,amt,docs,boxes⟩,day⟩,rfl,rfl,hp,hK⟩:=hc;refine⟨cN,?_⟩;dsimp only at hp hK⊢;obtain⟨hk,hnum,hfew,hall⟩:=hp;dsimp only at hk hnum hfew hall;subst hk;have hok:lU 8:=by unfold lU;decide
 obtain⟨r,hr⟩:∃r,r=mI ⟨⟨name,parties,deals,⟨rc,rL⟩,cust,deliv⟩,i,⟨number,seller,buyer,house,dfrm,dto,dboxes,state,rel⟩,⟨frm,to,lnumber,8,ack,deal,text,party,index,day0,cur,amt,docs,boxes⟩,day⟩:=⟨_,rfl⟩
 rw[←hr]at hK;obtain⟨bn,hbn⟩:∃b,b=cW number:=⟨_,rfl⟩
 obtain⟨e,he⟩:∃e,e=eE rL ⟨bn,index,-1,frm,0,day,true,hU frm party⟩:=⟨_,rfl⟩
 obtain⟨M,hM⟩:∃M,M=fY rL ⟨bn,index,-1,frm,0,day,true,hU frm party⟩ (sO index (sM frm party day)):=⟨_,rfl⟩
 have hr1:iS parties party=false∨party=frm∨e≠0→r=(⟨name,parties,deals,⟨rc,rL⟩,cust,deliv⟩,⟨number,seller,buyer,house,dfrm,dto,dboxes,state,rel⟩,eL fB ⟨frm,to,lnumber,8,ack,deal,text,party,index,day0,cur,amt,docs,boxes⟩):=fun h=>by
  rw[hr];refine zK ?_;refine h.imp id (Or.imp id fun h=>?_);rw[L5];rw[he,hbn]at h;exact h
 have hr2:iS parties party=true→¬party=frm→e=0→r=(⟨name,parties,deals,⟨rc,M⟩,cust,deliv⟩,⟨number,seller,buyer,house,dfrm,dto,dboxes,state,rel⟩,[⟨eS,party,0,9,0,eS,eS,party,index,0,eS,0,[],[]⟩]):=fun h0 h1 h=>by
  rw[hr,hM];refine(Kl h0 h1 (by rw[L5];rw[he,hbn]at h;exact h)).trans ?_;rw[Si,hbn];rfl
 have hM0:e≠0→M=rL:=fun h=>by rw[hM];exact aE (he ▸ h)
 clear hr;obtain⟨wr,hwr⟩:∃w,w=hU frm party:=⟨_,rfl⟩
 rw[←hwr]at he hM;cbv;refine nP (fun j hj=>?_) fun hn=>?_
 rotate_left
 ·have hr:=hr1 (.inl (tW hn));subst hr;cbv
  all_goals
    (refine xK ho (⟨frm,to,lnumber,8,ack,deal,text,party,index,day0,cur,amt,docs,boxes⟩:dK) hok ?_;try dsimp only)
    cbv
    (refine .q9 ?_;cbv;exact .inl (eU.sel [0,1,2,3,4,5,6,7,8,10] _ _ (by rfl) (by rfl) (by decide) (by rfl) cN (by rfl) (by rfl) (Le.refl _) (jS.refl _) hK))
 ·have hin:=BS hj;clear hj;cbv;repeat'((first|refine .mk (fun h=>?_) fun h=>?_|fail)<;>cbv)
  all_goals first
  |(have hr:=hr1 (.inr (.inl (by assumption)))
    subst hr
    (refine xK ho (⟨frm,to,lnumber,8,ack,deal,text,party,index,day0,cur,amt,docs,boxes⟩:dK) hok ?_;try dsimp only)
    cbv
    (refine .q9 ?_;cbv;exact .inl (eU.sel [0,1,2,3,4,5,6,7,8,10] _ _ (by rfl) (by rfl) (by decide) (by rfl) cN (by rfl) (by rfl) (Le.refl _) (jS.refl _) hK)))
  |((refine gT hb (⟨number,seller,buyer,house,dfrm,dto,dboxes,state,rel⟩:Dp) [8] hnum ?_;try dsimp only)
    rw[←hbn];cbv
    (refine gT hen ((⟨rc,rL⟩,⟨bn,index,-1,frm,0,day,true,wr⟩,party):Rg×Ak×bG) [3,4] ⟨fun b hb=>(hall b hb).1,rfl,rfl,rfl,hwr⟩ ?_;try dsimp only)
    rw[←he,←hM];cbv;repeat'((first|refine .mk (fun h=>?_) fun h=>?_|fail)<;>cbv))
  all_goals first
  |(have hr:=hr2 hin (by assumption) (by assumption)
    subst hr;refine cV (Gh.leAt 10 (.row 58 14 (bI dP [⟨eS,party,0,9,0,eS,eS,party,index,0,eS,0,[],[]⟩])) rfl (sA Aw)) ?_;cbv
    (refine .q9 ?_;cbv;exact .inl (eU.sel [0,1,2,3,4,5,6,7,8,10] _ _ (by rfl) (by rfl) (by decide) (by rfl) cN (by rfl) (by rfl) (Le.refl _) (jS.refl _) hK)))
  |(obtain rfl:M=rL:=hM0 (by assumption)
    have hr:=hr1 (.inr (.inr (by assumption)));subst hr
    (refine xK ho (⟨frm,to,lnumber,8,ack,deal,text,party,index,day0,cur,amt,docs,boxes⟩:dK) hok ?_;try dsimp only)
    cbv
    (refine .q9 ?_;cbv;exact .inl (eU.sel [0,1,2,3,4,5,6,7,8,10] _ _ (by rfl) (by rfl) (by decide) (by rfl) cN (by rfl) (by rfl) (Le.refl _) (jS.refl _) hK)))
def NW (n:bG) (day:Int) (l:dK):dK:={ l with deal:=n,day:=day }
def lN (n:bG) (day:Int) (l:List dK) (k:Nat):List dK:=cC n day (l.take k)++l.drop k
def pV:dN:=spec (fun q:List dK×Dp×Int=>[.hd 0,.ptr 1 0,.i q.2.2]) (fun q=>[.row 58 14 (bI dP q.1),.blk 136 (R3 q.2.1)]) (fun q=>q.1.length≤1000) (fun _=>.hd 0) fun q=>[.row 58 14 (bI dP (cC q.2.1.number q.2.2 q.1)),.blk 136 (R3 q.2.1)]
theorem BK {α:Type}(f:α→AV) (L:List α) (k:Nat) (x:α):(bI f L).set k (f x)=bI f (L.set k x):=by rw[dZ,dZ,List.map_set]
theorem OH {α:Type}{L:List α}{k:Nat}{y:α}(x:α) (h:L[k]?=some y):(L.set k x)[k]?=some x:=by
 obtain⟨hl,_⟩:=aA.1 h;rw[aQ hl]
theorem DM {n:bG}{day:Int}{l:List dK}{k:Nat}{x:dK}(h:l[k]?=some x):lN n day l (k+1)=(lN n day l k).set k (NW n day x):=by
 obtain⟨hl,rfl⟩:=aA.1 h;unfold lN;rw[List.set_append_right _ _ (by unfold cC;rw[aJ,aS];omega)];have e:k - (cC n day (l.take k)).length=0:=by unfold cC;rw[aJ,aS];omega
 rw[e,List.drop_eq_getElem_cons hl,List.set_cons_zero,dX h];unfold cC;rw[List.map_append,XI];rfl
theorem FU (n:bG) (day:Int) (l:List dK) {k:Nat}(h:l.length≤k):lN n day l k=cC n day l:=by
 unfold lN;rw[bC h,List.drop_of_length_le h,List.append_nil]
theorem Gl (P:bH):bN P WM pV:=by
 intro args H K hc;obtain⟨⟨ls,⟨number,seller,buyer,house,dfrm,dto,dboxes,state,rel⟩,day⟩,rfl,rfl,hp,hK⟩:=hc;refine⟨cN,?_⟩;dsimp only at hp hK⊢;obtain⟨n,hn⟩:∃n:Nat,n=ls.length:=⟨_,rfl⟩
 cbv;repeat'((first|refine .k fun z hz=>?_|fail)<;>cbv)
 refine bV [] (fun p:{ k:Nat // k≤ls.length }=>[(10,.i (nI p.1))]) (fun p=>[.row 58 14 (bI dP (lN number day ls p.1)),.blk 136 [.str number,.str seller,.str buyer,.str house,.str dfrm,.str dto,.sl 1 (bI .str dboxes),.i state,.bl rel]]) (fun p=>fK n p.1) ⟨0,aI _⟩ ?_;rintro ⟨k,hk⟩;dsimp only at hk⊢;obtain⟨L1,hL1⟩:∃l,l=lN number day ls k:=⟨_,rfl⟩
 rw[←hL1];rcases aL k ls.length with hks|hks
 rotate_left
 ·have e:L1=cC number day ls:=by rw[hL1];exact FU _ _ _ hks
  subst e;cbv;repeat'((first|refine .n fun h=>?_|fail)<;>cbv)
  (refine .q9 ?_;cbv;exact .inl (.f9 hK))
 obtain⟨l,hx⟩:=cM hks;have hx1:L1[k]?=some l:=by
  rw[hL1];unfold lN cC;rw[List.getElem?_append_right (by rw[aJ,aS];omega),aJ,aS,Nat.min_eq_left (by omega),Nat.sub_self,List.getElem?_drop,Nat.add_zero,hx]
 have hsn:=DM (n:=number) (day:=day) hx;rw[←hL1]at hsn;obtain⟨frm,to,lnumber,kind,ack,deal,text,party,index,day0,cur,amt,docs,boxes⟩:=l;replace hsn:lN number day ls (k+1)=L1.set k ⟨frm,to,lnumber,kind,ack,number,text,party,index,day,cur,amt,docs,boxes⟩:=hsn;have hx2:=OH ⟨frm,to,lnumber,kind,ack,number,text,party,index,day0,cur,amt,docs,boxes⟩ hx1;obtain⟨L2,hL2⟩:∃l,l=L1.set k ⟨frm,to,lnumber,kind,ack,number,text,party,index,day0,cur,amt,docs,boxes⟩:=⟨_,rfl⟩
 rw[←hL2]at hx2;have hsn2:lN number day ls (k+1)=L2.set k ⟨frm,to,lnumber,kind,ack,number,text,party,index,day,cur,amt,docs,boxes⟩:=by rw[hL2,List.set_set];exact hsn
 clear hL1 hx hsn;cbv;repeat'((first|refine .e ?_|refine .y fun h=>?_|refine .z fun zs hzs=>?_|fail)<;>cbv)
 obtain rfl:zs=bI dP L2:=by rw[hL2];exact hzs.trans (BK dP L1 k ⟨frm,to,lnumber,kind,ack,number,text,party,index,day0,cur,amt,docs,boxes⟩)
 clear hL2 hx1 hzs;cbv;repeat'((first|refine .e ?_|refine .k fun z hz=>?_|refine .z fun zs hzs=>?_|fail)<;>cbv)
 obtain rfl:z=nI (k+1):=bS;obtain rfl:zs=bI dP (lN number day ls (k+1)):=by rw[hsn2];exact hzs.trans (BK dP L2 k ⟨frm,to,lnumber,kind,ack,number,text,party,index,day,cur,amt,docs,boxes⟩)
 exact bL ⟨k+1,hks⟩ (bM (by omega))
def Fq:dN:=spec (fun d:Dp=>[.rp (R3 d) 0]) (fun _=>[]) (fun d=>d.number.size≤1000) (fun d=>.str (cW d.number)) fun _=>[]
theorem Ga (P:bH):bN P Se Fq:=by
 intro args H K hc;obtain⟨⟨number,seller,buyer,house,frm,to,boxes,state,rel⟩,rfl,rfl,hp,hK⟩:=hc;refine⟨cN,?_⟩;dsimp only at hp hK⊢;have z3:(ByteArray.mk (Array.mk [98,108,45])).size=3:=rfl;obtain⟨bn,hbn⟩:∃b,b=Dj++number:=⟨_,rfl⟩
 replace hK:K (.str (Dj++number)) []:=hK;rw[←hbn]at hK;cbv;repeat'((first|refine .u fun u hu hul=>?_|fail)<;>cbv)
 obtain rfl:u=bn:=by rw[hbn];assumption
 (refine .q9 ?_;cbv;exact .inl (.f9 hK))
structure AQ where
 C:Cr
 i:Nat
 d:Dp
 day:Int
structure Xz (q:AQ):Prop where
 num:q.d.number.size≤1000
 few:q.C.reg.bills.length≤256
 all:∀b∈q.C.reg.bills,inB b
 bx:q.d.boxes.length≤70
 bz:∀b∈q.d.boxes,b.size≤1000
 day:-9223372036854775808≤q.day∧q.day≤9223372036854775807
def pM (f:AQ→Cr×Dp×List dK×Int):dN:=spec (fun q:AQ=>[.ptr 0 0,.ptr 8 0,.i q.day]) (fun q=>Ld q.C q.i q.d) Xz (fun q=>.tup [.hd 9,.i (f q).2.2.2]) fun q=>Ld (f q).1 q.i (f q).2.1++[.row 58 14 (bI dP (f q).2.2.1)]
def EU (q:AQ):Cr×Dp×List dK×Int:=(q.C,vJ 3 q.d,[{ lX with to:=q.d.buyer,kind:=26,boxes:=q.d.boxes }],0)
def rI (q:AQ):Cr×Dp×List dK×Int:=if fW ⟨q.C.reg,eQ q.C.name q.d q.day,q.d.seller⟩≠0 then (q.C,q.d,[],fW ⟨q.C.reg,eQ q.C.name q.d q.day,q.d.seller⟩)
 else ({ q.C with reg:=iY ⟨q.C.reg,eQ q.C.name q.d q.day,q.d.seller⟩ },vJ 2 q.d,[{ lX with to:=q.d.seller,kind:=5,docs:=[eV (eQ q.C.name q.d q.day)] }],0)
theorem Fv (P:bH) (hc1:bJ P 87 (lR 1 16)):bN P W6 (pM EU):=by
 intro args H K hc;obtain⟨⟨⟨name,parties,deals,⟨rc,rL⟩,cust,deliv⟩,i,⟨number,seller,buyer,house,dfrm,dto,dboxes,state,rel⟩,day⟩,rfl,rfl,hp,hK⟩:=hc;refine⟨cN,?_⟩;dsimp only at hp hK⊢;obtain⟨hnum,hfew,hall,hbx,hmk,hday⟩:=hp;dsimp only at hnum hfew hall hbx hmk hday;obtain⟨r,hr⟩:∃r,r=EU ⟨⟨name,parties,deals,⟨rc,rL⟩,cust,deliv⟩,i,⟨number,seller,buyer,house,dfrm,dto,dboxes,state,rel⟩,day⟩:=⟨_,rfl⟩
 rw[←hr]at hK;replace hr:r=(⟨name,parties,deals,⟨rc,rL⟩,cust,deliv⟩,⟨number,seller,buyer,house,dfrm,dto,dboxes,3,rel⟩,[⟨eS,buyer,0,26,0,eS,eS,eS,0,0,eS,0,[],dboxes⟩],0):=hr;cbv
 all_goals
  (refine XG hc1 _ ⟨by rw[bY];unfold maxLen;omega,by rw[bY];omega⟩ ?_;try dsimp only)
  cbv
 all_goals
  subst hr;refine cV (Gh.leAt 9 (.row 58 14 (bI dP [⟨eS,buyer,0,26,0,eS,eS,eS,0,0,eS,0,[],dboxes⟩])) rfl (sA Aw)) ?_;cbv
  (refine .q9 ?_;cbv;exact .inl (.f9 hK))
theorem FL (P:bH) (hb:bJ P 120 Fq) (hc1:bJ P 87 (lR 1 16)) (his:bJ P 124 Gf) (hla:bJ P 125 Fg):bN P WW (pM rI):=by
 intro args H K hc;obtain⟨⟨⟨name,parties,deals,⟨rc,rL⟩,cust,deliv⟩,i,⟨number,seller,buyer,house,dfrm,dto,dboxes,state,rel⟩,day⟩,rfl,rfl,hp,hK⟩:=hc;refine⟨cN,?_⟩;dsimp only at hp hK⊢;obtain⟨hnum,hfew,hall,hbx,hmk,hday⟩:=hp;dsimp only at hnum hfew hall hbx hmk hday;obtain⟨r,hr⟩:∃r,r=rI ⟨⟨name,parties,deals,⟨rc,rL⟩,cust,deliv⟩,i,⟨number,seller,buyer,house,dfrm,dto,dboxes,state,rel⟩,day⟩:=⟨_,rfl⟩
 rw[←hr]at hK;obtain⟨bn,hbn⟩:∃b,b=cW number:=⟨_,rfl⟩
 obtain⟨e,he⟩:∃e,e=fW ⟨⟨rc,rL⟩,⟨bn,name,seller,dfrm,dto,dboxes,[],day,true⟩,seller⟩:=⟨_,rfl⟩
 obtain⟨⟨rc2,M⟩,hM⟩:∃R,R=iY ⟨⟨rc,rL⟩,⟨bn,name,seller,dfrm,dto,dboxes,[],day,true⟩,seller⟩:=⟨_,rfl⟩
 obtain⟨⟨dk,dn1,di,dfs⟩,hdc⟩:∃q,q=eV ⟨bn,name,seller,dfrm,dto,dboxes,[],day,true⟩:=⟨_,rfl⟩
 have hr1:e≠0→r=(⟨name,parties,deals,⟨rc,rL⟩,cust,deliv⟩,⟨number,seller,buyer,house,dfrm,dto,dboxes,state,rel⟩,[],e):=fun h=>by
  rw[hr];rw[he,hbn]at h;refine(aF h).trans ?_;rw[he,hbn];rfl
 have hr2:e=0→r=(⟨name,parties,deals,⟨rc2,M⟩,cust,deliv⟩,⟨number,seller,buyer,house,dfrm,dto,dboxes,2,rel⟩,[⟨eS,seller,0,5,0,eS,eS,eS,0,0,eS,0,[⟨dk,dn1,di,dfs⟩],[]⟩],0):=fun h=>by
  rw[hr];rw[he,hbn]at h;refine(aE (fun h2=>h2 h)).trans ?_;rw[hM,hdc,hbn];rfl
 have hM0:e≠0→(⟨rc2,M⟩:Rg)=⟨rc,rL⟩:=fun h=>by rw[hM];exact aE (he ▸ h)
 clear hr;have hIP:Cn ⟨⟨rc,rL⟩,⟨bn,name,seller,dfrm,dto,dboxes,[],day,true⟩,seller⟩:=⟨hfew,hall,⟨by dsimp only;omega,aI _⟩⟩
 have hLP:PG ⟨bn,name,seller,dfrm,dto,dboxes,[],day,true⟩:=⟨⟨by dsimp only;omega,hmk⟩,⟨aI _,fun s hs=>by cases hs⟩,hday⟩
 cbv;repeat'((first|refine And.intro ?_ ?_|fail)<;>cbv)
 all_goals
  (refine Dw hb 8 (rest:=[]) (fun _=>(⟨number,seller,buyer,house,dfrm,dto,dboxes,state,rel⟩:Dp)) rfl rfl rfl rfl (fun _=>rfl) (fun x hx=>⟨rfl,hnum,?_⟩);try dsimp only)
  rw[←hbn];cbv;repeat'((first|refine And.intro ?_ ?_|fail)<;>cbv)
 all_goals
  repeat'(first
   |((refine Dw hb 8 (rest:=[]) (fun _=>(⟨number,seller,buyer,house,dfrm,dto,dboxes,state,rel⟩:Dp)) rfl rfl rfl rfl (fun _=>rfl) (fun x hx=>⟨rfl,hnum,?_⟩);try dsimp only)
     rw[←hbn];cbv)
   |((refine XG hc1 _ ⟨by rw[bY];unfold maxLen;omega,by rw[bY];omega⟩ ?_;try dsimp only)
     cbv))
 all_goals
  refine nN [.ptr 3 0,IA ⟨bn,name,seller,dfrm,dto,dboxes,[],day,true⟩,.str seller] Aw ?_
  (refine gT his (⟨⟨rc,rL⟩,⟨bn,name,seller,dfrm,dto,dboxes,[],day,true⟩,seller⟩:nX) [3,4] hIP ?_;try dsimp only)
  rw[←he,←hM];cbv;repeat'((first|refine .mk (fun h=>?_) fun h=>?_|fail)<;>cbv)
 all_goals first
 |(obtain⟨rfl,rfl⟩:rc2=rc∧M=rL:=by have:=hM0 (by assumption);cases this;exact⟨rfl,rfl⟩
   have hr:=hr1 (by assumption);subst hr;refine cV (Gh.adopt 6 58 14 rfl) ?_;cbv
   (refine .q9 ?_;cbv;exact .inl (eU.sel [0,1,2,3,4,5,6,7,8,10] _ _ (by rfl) (by rfl) (by decide) (by rfl) cN (by rfl) (by rfl) (Le.refl _) (jS.refl _) hK)))
 |(have hr:=hr2 (by assumption)
   subst hr;refine nN [IA ⟨bn,name,seller,dfrm,dto,dboxes,[],day,true⟩] Aw ?_
   (refine XG hla (⟨bn,name,seller,dfrm,dto,dboxes,[],day,true⟩:Bl) hLP ?_;try dsimp only)
   rw[←hdc];cbv)
 all_goals
  refine cV (Gh.leAt 11 (.row 58 14 (bI dP [⟨eS,seller,0,5,0,eS,eS,eS,0,0,eS,0,[⟨dk,dn1,di,dfs⟩],[]⟩])) rfl (sA Aw)) ?_;cbv
  (refine .q9 ?_;cbv;exact .inl (eU.sel [0,1,2,3,4,5,6,7,8,11] _ _ (by rfl) (by rfl) (by decide) (by rfl) cN (by rfl) (by rfl) (Le.refl _) (jS.refl _) hK))
def Sy:List (AV×AV):=[(.i 5,.agg [.i 1,.clo 85 []]),(.i 6,.agg [.i 2,.clo 86 []])]
def zW:List (AV×AV):=[(.i 4,.clo 79 []),(.i 8,.clo 80 []),(.i 20,.clo 81 []),(.i 19,.clo 82 []),(.i 23,.clo 83 []),(.i 24,.clo 84 [])]
def Bw:dN:=spec (fun _:Unit=>[]) (fun _=>[]) (fun _=>True) (fun _=>.hd 0) fun _=>[.map 142 Sy]
def qJ:dN:=spec (fun _:Unit=>[]) (fun _=>[]) (fun _=>True) (fun _=>.hd 0) fun _=>[.map 131 zW]
theorem IY (P:bH):bN P Xi Bw:=by
 intro args H K hc;obtain⟨u,rfl,rfl,hp,hK⟩:=hc;refine⟨cN,?_⟩;dsimp only at hp hK⊢;cbv
 repeat'(first
  |(refine pO.mk (.inr ⟨by rfl,?_⟩);cbv)
  |(refine MC.mk fun z hz=>?_;subst hz;cbv)
  |((first|fail)<;>cbv))
 (refine .q9 ?_;cbv;exact .inl (.f9 hK))
theorem CH (P:bH):bN P WQ qJ:=by
 intro args H K hc;obtain⟨u,rfl,rfl,hp,hK⟩:=hc;refine⟨cN,?_⟩;dsimp only at hp hK⊢;cbv
 repeat'(first
  |(refine pO.mk (.inr ⟨by rfl,?_⟩);cbv)
  |(refine MC.mk fun z hz=>?_;subst hz;cbv)
  |((first|fail)<;>cbv))
 (refine .q9 ?_;cbv;exact .inl (.f9 hK))
def xC (C:Cr):List cH:=[.blk 118 [.str C.name,.hd 1,.ph 2,.ptr 3 0,.ptr 5 0,.hd 7],.map 70 (bI iH C.parties),.pool 116 (bI gZ C.deals) [],.blk 122 [.str C.reg.carrier,.ph 4],.pool 120 (bI eD C.reg.bills) [],.blk 174 [.ph 6],.pool 172 (bI gE C.cust) [],.tip 77 5 (bI dC C.deliv)]
structure QW (C:Cr):Prop where
 nd:(C.deals.map Dp.number).Nodup
 few:C.reg.bills.length≤256
 all:∀b∈C.reg.bills,inB b
 num:∀d∈C.deals,d.number.size≤1000
 bx:∀d∈C.deals,d.boxes.length≤70
 bz:∀d∈C.deals,∀b∈d.boxes,b.size≤60
structure CQ where
 C:Cr
 kind:Int
 n:Int
 deal:bG
 day:Int
structure Sz (q:CQ):Prop where
 c:QW q.C
 day:-9223372036854775808≤q.day∧q.day≤9223372036854775807
def vX (κ:Int→Prop):dN:=spec (fun q:CQ=>[.ptr 0 0,.agg [.i q.kind,.i q.n,.str q.deal],.i q.day]) (fun q=>xC q.C) (fun q=>κ q.kind∧Sz q) (fun q=>.tup [.sl 14 (bI dP (kW eV q.C q.kind q.deal q.day).2.1),.i (kW eV q.C q.kind q.deal q.day).2.2]) fun q=>xC (kW eV q.C q.kind q.deal q.day).1
theorem jA {z k:Int}{v:AV}{es:List (AV×AV)}{i:Nat}(h:¬z=k):nR (.i z) ((.i k,v) :: es) i=nR (.i z) es (i+1):=by
 have e:mE (.i z) (.i k)=some false:=by
  show (if IntKind.i64=IntKind.i64 then some (z == k) else none)=_;rw[aF rfl];simpa using h
 show (match mE (.i z) (.i k) with|some true=>_|some false=>nR (.i z) es (i+1)|none=>_)=_;rw[e]
theorem FG (P:bH) (hac:bJ P 53 Bw):bN P TV (vX fun k=>¬(k=5∨k=6)):=by
 intro args H K hc;obtain⟨⟨⟨name,parties,deals,⟨rc,rL⟩,cust,deliv⟩,kind,n,deal,day⟩,rfl,rfl,hp,hK⟩:=hc;refine⟨cN,?_⟩;dsimp only at hp hK⊢;obtain⟨hk,⟨hnd,hfew,hall,hnum,hbx,hbz⟩,hday⟩:=hp;dsimp only at hk hnd hfew hall hnum hbx hbz hday;obtain⟨r,hr⟩:∃r,r=kW eV ⟨name,parties,deals,⟨rc,rL⟩,cust,deliv⟩ kind deal day:=⟨_,rfl⟩
 rw[←hr]at hK;have hr:r=(⟨name,parties,deals,⟨rc,rL⟩,cust,deliv⟩,[],1):=hr.trans (aF (by omega));subst hr;cbv;repeat'((first|refine And.intro ?_ ?_|fail)<;>cbv)
 all_goals
  (refine xK hac () trivial ?_;try dsimp only)
  cbv;repeat'((first|refine And.intro ?_ ?_|fail)<;>cbv)
 all_goals
  refine pO.mk (.inr ⟨by rw[jA (by omega),jA (by omega)];rfl,?_⟩);cbv
 all_goals
  refine cV (Gh.adopt 6 58 14 rfl) ?_;cbv;refine cV (Gh.plain 11 rfl) ?_;cbv
  (refine .q9 ?_;cbv;exact .inl (.f9 hK))
theorem Kq {C:Cr}{i:Nat}{d:Dp}{day:Int}(hnd:(C.deals.map Dp.number).Nodup) (hi:kK Dp.number C.deals d.number=some i) (hd:C.deals[i]?=some d):HW C d day=({ C with deals:=C.deals.set i (vJ 3 d) },cC d.number day [{ lX with to:=d.buyer,kind:=26,boxes:=d.boxes }],0):=by
 unfold HW pH;rw[nE hnd (vJ 3) hi hd]
theorem Nl {C:Cr}{i:Nat}{d:Dp}{day:Int}(hnd:(C.deals.map Dp.number).Nodup) (hi:kK Dp.number C.deals d.number=some i) (hd:C.deals[i]?=some d):tS eV C d day=(let r:=rI ⟨C,i,d,day⟩;({ r.1 with deals:=C.deals.set i r.2.1 },cC d.number day r.2.2.1,r.2.2.2)):=by
 unfold tS rI;dsimp only;by_cases h:fW ⟨C.reg,eQ C.name d day,d.seller⟩≠0
 ·rw[aF h,aF h];dsimp only;have e:C.deals.set i d=C.deals:=by
   obtain⟨hl,rfl⟩:=aA.1 hd;exact List.set_getElem_self hl
  rw[e];rfl
 ·rw[aE h,aE h];unfold pH;dsimp only;rw[nE hnd (vJ 2) hi hd]
theorem Bv {C:Cr}{kind:Int}{deal:bG}{day:Int}(hk:kind=5∨kind=6) (h:kK Dp.number C.deals deal=none):kW eV C kind deal day=(C,[],4):=by
 unfold kW;rw[aE (by omega),uE h]
theorem HS {C:Cr}{kind:Int}{deal:bG}{day:Int}{i:Nat}{d:Dp}(hk:kind=5∨kind=6) (h:kK Dp.number C.deals deal=some i) (hd:C.deals[i]?=some d):kW eV C kind deal day=if d.state≠(if kind=5 then 1 else 2) then (C,[],9) else if kind=5 then tS eV C d day else HW C d day:=by
 unfold kW;rw[aE (by omega),XN h hd]
theorem Jk (P:bH) (hac:bJ P 53 Bw) (hmc:dL P 86) (hla:bJ P 86 (pM EU)) (hst:bJ P 49 pV):bN P TV (vX fun k=>k=6):=by
 intro args H K hc;obtain⟨⟨⟨name,parties,deals,⟨rc,rL⟩,cust,deliv⟩,kind,n,deal,day⟩,rfl,rfl,hp,hK⟩:=hc;refine⟨cN,?_⟩;dsimp only at hp hK⊢;obtain⟨hk,⟨hnd,hfew,hall,hnum,hbx,hbz⟩,hday⟩:=hp;dsimp only at hk hnd hfew hall hnum hbx hbz hday;subst hk;obtain⟨r,hr⟩:∃r,r=kW eV ⟨name,parties,deals,⟨rc,rL⟩,cust,deliv⟩ 6 deal day:=⟨_,rfl⟩
 rw[←hr]at hK;cbv;repeat'((first|refine And.intro ?_ ?_|fail)<;>cbv)
 all_goals
  (refine xK hac () trivial ?_;try dsimp only)
  cbv;repeat'((first|refine And.intro ?_ ?_|fail)<;>cbv)
 all_goals
  refine pO.mk (.inl ⟨1,_,_,by rfl,by rfl,?_⟩);cbv
 all_goals
  refine fR Dp.number (fun _=>rfl) (fun i y hai hy hky=>?_) (fun hai=>?_)<;>try dsimp only at *
  rotate_left
  ·have hr:=hr.trans (Bv (.inr rfl) hai);subst hr;cbv
   all_goals
    refine cV (Gh.adopt 6 58 14 rfl) ?_;cbv;refine cV (Gh.plain 11 rfl) ?_;cbv
    (refine .q9 ?_;cbv;exact .inl (.f9 hK))
  ·have hmem:=aC hy;have hn1:=hnum y hmem;have hb1:=hbx y hmem;have hb2:=hbz y hmem;have hr:=hr.trans (HS (.inr rfl) hai hy);rw[←hky]at hai;have hla2:=Kq (C:=⟨name,parties,deals,⟨rc,rL⟩,cust,deliv⟩) (day:=day) hnd hai hy;rw[hla2]at hr;clear hla2;have hr1:y.state≠2→r=(⟨name,parties,deals,⟨rc,rL⟩,cust,deliv⟩,[],9):=fun h=>hr.trans (aF h)
   have hr2:y.state=2→r=(⟨name,parties,deals.set i (vJ 3 y),⟨rc,rL⟩,cust,deliv⟩,[⟨eS,y.buyer,0,26,0,y.number,eS,eS,0,day,eS,0,[],y.boxes⟩],0):=fun h=>hr.trans (aE (fun h2=>h2 h))
   clear hr;obtain⟨number,seller,buyer,house,dfrm,dto,dboxes,state,rel⟩:=y;dsimp only at hky hn1 hb1 hb2 hai hr1 hr2;subst hky;cbv;repeat'((first|refine .mk (fun h=>?_) fun h=>?_|refine And.intro ?_ ?_|fail)<;>cbv)
   ·exact hmc
   ·have hr:=hr2 (by assumption);clear hr1 hr2;subst hr
    (refine gT hla (⟨⟨name,parties,deals,⟨rc,rL⟩,cust,deliv⟩,i,⟨number,seller,buyer,house,dfrm,dto,dboxes,state,rel⟩,day⟩:AQ) [0,1,2,3,4,5,6,7,11] ⟨hn1,hfew,hall,hb1,fun b hb=>by have:=hb2 b hb;omega,hday⟩ ?_;try dsimp only)
    cbv;repeat'((first|refine .y fun h=>?_|fail)<;>cbv)
    (refine gT hst (([⟨eS,buyer,0,26,0,eS,eS,eS,0,0,eS,0,[],dboxes⟩],⟨number,seller,buyer,house,dfrm,dto,dboxes,3,rel⟩,day):List dK×Dp×Int) [12,11] (show (1:Nat)≤1000 by decide) ?_;try dsimp only)
    cbv;refine cV (Gh.back 2 [11] gZ ⟨number,seller,buyer,house,dfrm,dto,dboxes,3,rel⟩ rfl hy) ?_;cbv;refine cV (Gh.plain 12 rfl) ?_;cbv
    (refine .q9 ?_;cbv;exact .inl (.f9 hK))
   ·have hr:=hr1 (by assumption);clear hr1 hr2;subst hr;refine cV (Gh.back0 2 [11] gZ rfl hy) ?_;cbv;refine cV (Gh.adopt 6 58 14 rfl) ?_;cbv;refine cV (Gh.plain 12 rfl) ?_;cbv
    (refine .q9 ?_;cbv;exact .inl (.f9 hK))
theorem Mh (q:AQ):(∃e,e≠0∧rI q=(q.C,q.d,[],e))∨∃R D,rI q=({ q.C with reg:=R },vJ 2 q.d,[⟨eS,q.d.seller,0,5,0,eS,eS,eS,0,0,eS,0,[D],[]⟩],0):=by
 by_cases h:fW ⟨q.C.reg,eQ q.C.name q.d q.day,q.d.seller⟩≠0
 ·exact .inl ⟨_,h,aF h⟩
 ·exact .inr ⟨_,_,aE h⟩
theorem J0 (P:bH) (hac:bJ P 53 Bw) (hmc:dL P 85) (hsa:bJ P 85 (pM rI)) (hst:bJ P 49 pV):bN P TV (vX fun k=>k=5):=by
 intro args H K hc;obtain⟨⟨⟨name,parties,deals,⟨rc,rL⟩,cust,deliv⟩,kind,n,deal,day⟩,rfl,rfl,hp,hK⟩:=hc;refine⟨cN,?_⟩;dsimp only at hp hK⊢;obtain⟨hk,⟨hnd,hfew,hall,hnum,hbx,hbz⟩,hday⟩:=hp;dsimp only at hk hnd hfew hall hnum hbx hbz hday;subst hk;obtain⟨r,hr⟩:∃r,r=kW eV ⟨name,parties,deals,⟨rc,rL⟩,cust,deliv⟩ 5 deal day:=⟨_,rfl⟩
 rw[←hr]at hK;cbv;repeat'((first|refine And.intro ?_ ?_|fail)<;>cbv)
 all_goals
  (refine xK hac () trivial ?_;try dsimp only)
  cbv;repeat'((first|refine And.intro ?_ ?_|fail)<;>cbv)
 all_goals
  refine pO.mk (.inl ⟨0,_,_,by rfl,by rfl,?_⟩);cbv
 all_goals
  refine fR Dp.number (fun _=>rfl) (fun i y hai hy hky=>?_) (fun hai=>?_)<;>try dsimp only at *
  rotate_left
  ·have hr:=hr.trans (Bv (.inl rfl) hai);subst hr;cbv
   all_goals
    refine cV (Gh.adopt 6 58 14 rfl) ?_;cbv;refine cV (Gh.plain 11 rfl) ?_;cbv
    (refine .q9 ?_;cbv;exact .inl (.f9 hK))
  ·have hmem:=aC hy;have hn1:=hnum y hmem;have hb1:=hbx y hmem;have hb2:=hbz y hmem;have hr:=hr.trans (HS (.inl rfl) hai hy);rw[←hky]at hai;have hla2:=Nl (C:=⟨name,parties,deals,⟨rc,rL⟩,cust,deliv⟩) (day:=day) hnd hai hy;rw[hla2]at hr;clear hla2;have hr1:y.state≠1→r=(⟨name,parties,deals,⟨rc,rL⟩,cust,deliv⟩,[],9):=fun h=>hr.trans (aF h)
   obtain⟨q9,hq9⟩:∃q,q=rI ⟨⟨name,parties,deals,⟨rc,rL⟩,cust,deliv⟩,i,y,day⟩:=⟨_,rfl⟩
   have hr2:y.state=1→r=({ q9.1 with deals:=deals.set i q9.2.1 },cC y.number day q9.2.2.1,q9.2.2.2):=fun h=>by rw[hq9];exact hr.trans (aE (fun h2=>h2 h))
   have hor:(∃e,e≠0∧q9=(⟨name,parties,deals,⟨rc,rL⟩,cust,deliv⟩,y,[],e))∨∃R D,q9=(⟨name,parties,deals,R,cust,deliv⟩,vJ 2 y,[⟨eS,y.seller,0,5,0,eS,eS,eS,0,0,eS,0,[D],[]⟩],0):=by
    have:=Mh ⟨⟨name,parties,deals,⟨rc,rL⟩,cust,deliv⟩,i,y,day⟩;rw[←hq9]at this;exact this
   clear hr;obtain⟨number,seller,buyer,house,dfrm,dto,dboxes,state,rel⟩:=y;dsimp only at hky hn1 hb1 hb2 hai hr1 hr2 hor;subst hky;cbv;repeat'((first|refine .mk (fun h=>?_) fun h=>?_|refine And.intro ?_ ?_|fail)<;>cbv)
   ·exact hmc
   ·have hr:=hr2 (by assumption);clear hr1 hr2;rcases hor with ⟨e,he,rfl⟩|⟨⟨rc2,M⟩,⟨dk,dn1,di,dfs⟩,rfl⟩
    ·subst hr
     (refine gT hsa (⟨⟨name,parties,deals,⟨rc,rL⟩,cust,deliv⟩,i,⟨number,seller,buyer,house,dfrm,dto,dboxes,state,rel⟩,day⟩:AQ) [0,1,2,3,4,5,6,7,11] ⟨hn1,hfew,hall,hb1,fun b hb=>by have:=hb2 b hb;omega,hday⟩ ?_;try dsimp only)
     rw[←hq9];cbv;repeat'((first|refine .n fun h=>?_|fail)<;>cbv)
     refine cV (Gh.back 2 [11] gZ ⟨number,seller,buyer,house,dfrm,dto,dboxes,state,rel⟩ rfl hy) ?_;cbv;refine cV (Gh.adopt 6 58 14 rfl) ?_;cbv;refine cV (Gh.plain 13 rfl) ?_;cbv
     (refine .q9 ?_;cbv;exact .inl (.f9 hK))
    ·replace hr:r=(⟨name,parties,deals.set i (vJ 2 ⟨number,seller,buyer,house,dfrm,dto,dboxes,state,rel⟩),⟨rc2,M⟩,cust,deliv⟩,[⟨eS,seller,0,5,0,number,eS,eS,0,day,eS,0,[⟨dk,dn1,di,dfs⟩],[]⟩],0):=hr;subst hr
     (refine gT hsa (⟨⟨name,parties,deals,⟨rc,rL⟩,cust,deliv⟩,i,⟨number,seller,buyer,house,dfrm,dto,dboxes,state,rel⟩,day⟩:AQ) [0,1,2,3,4,5,6,7,11] ⟨hn1,hfew,hall,hb1,fun b hb=>by have:=hb2 b hb;omega,hday⟩ ?_;try dsimp only)
     rw[←hq9];cbv;repeat'((first|refine .y fun h=>?_|fail)<;>cbv)
     (refine gT hst (([⟨eS,seller,0,5,0,eS,eS,eS,0,0,eS,0,[⟨dk,dn1,di,dfs⟩],[]⟩],⟨number,seller,buyer,house,dfrm,dto,dboxes,2,rel⟩,day):List dK×Dp×Int) [12,11] (show (1:Nat)≤1000 by decide) ?_;try dsimp only)
     cbv;refine cV (Gh.back 2 [11] gZ ⟨number,seller,buyer,house,dfrm,dto,dboxes,2,rel⟩ rfl hy) ?_;cbv;refine cV (Gh.plain 12 rfl) ?_;cbv
     (refine .q9 ?_;cbv;exact .inl (.f9 hK))
   ·have hr:=hr1 (by assumption);clear hr1 hr2;subst hr;refine cV (Gh.back0 2 [11] gZ rfl hy) ?_;cbv;refine cV (Gh.adopt 6 58 14 rfl) ?_;cbv;refine cV (Gh.plain 12 rfl) ?_;cbv
    (refine .q9 ?_;cbv;exact .inl (.f9 hK))
theorem Lj {P:bH}(hac:bJ P 53 Bw) (hm1:dL P 85) (hsa:bJ P 85 (pM rI)) (hm2:dL P 86) (hla:bJ P 86 (pM EU)) (hst:bJ P 49 pV):bN P TV (vX fun _=>True):=by
 intro args H0 K hc;obtain⟨q,h1,h2,⟨-,h4⟩,h5⟩:=hc;by_cases k1:q.kind=5
 ·exact J0 P hac hm1 hsa hst args H0 K ⟨q,h1,h2,⟨k1,h4⟩,h5⟩
 by_cases k2:q.kind=6
 ·exact Jk P hac hm2 hla hst args H0 K ⟨q,h1,h2,⟨k2,h4⟩,h5⟩
 exact FG P hac args H0 K ⟨q,h1,h2,⟨fun h=>by rcases h with h|h<;>contradiction,h4⟩,h5⟩
theorem pS {s:bG}(h:bR s=true):s.size≤16:=by
 rcases aL 16 s.size with h1|h1
 ·rw[fQ (.inr h1)]at h;cases h
 ·exact h1
theorem lD.beg {L:List dB}(h:lD L) {x:XL}(h0:rD L x=0):lD (L++[⟨x.box,[x]⟩]):=by
 unfold rD at h0
 split at h0
 ·cases h0
 rename_i g1
 split at h0
 ·cases h0
 rename_i g2
 split at h0
 ·cases h0
 rename_i g3
 split at h0
 ·cases h0
 rename_i g4;simp only[Bool.or_eq_true,Bool.not_eq_true',not_or,Bool.not_eq_false]at g1;obtain⟨⟨n1,n2⟩,n3⟩:=g1;have hd:x.day≤1048576:=by
  have:eN x.day=true:=by cases hh:eN x.day with|true=>rfl|false=>rw[hh]at g2;exact absurd rfl g2
  unfold eN at this;simp only[aO,decide_eq_true_eq]at this;exact this.2
 have hno:iF dB.box L x.box=none:=by cases hh:iF dB.box L x.box with|none=>rfl|some _=>rw[hh]at g3;exact absurd rfl g3
 refine⟨by rw[aM,List.length_cons,List.length_nil];omega,?_,fun b hb=>?_,fun b hb=>?_,fun b hb=>?_⟩
 ·rw[List.map_append,List.nodup_append];refine⟨h.nd,List.nodup_cons.2 ⟨by simp,.nil⟩,fun a ha b hb=>?_⟩;obtain rfl:b=x.box:=by simpa using hb
  rintro rfl;obtain⟨y,hy,he⟩:=aX.1 ha;exact absurd he (nC hno hy)
 all_goals
  rcases List.mem_append.1 hb with hb|hb
 ·exact h.ne b hb
 ·obtain rfl:b=⟨x.box,[x]⟩:=by simpa using hb
  exact⟨by simp,by simp⟩
 ·exact h.day b hb
 ·obtain rfl:b=⟨x.box,[x]⟩:=by simpa using hb
  intro y hy;obtain rfl:y=x:=by simpa using hy
  exact hd
 ·exact h.sz b hb
 ·obtain rfl:b=⟨x.box,[x]⟩:=by simpa using hb
  refine⟨pS n1,fun y hy=>?_⟩;obtain rfl:y=x:=by simpa using hy
  exact⟨pS n2,pS n3⟩
theorem lD.hand {L:List dB}(h:lD L) {x:XL}(h0:hC L x=0):lD (iP dB.box L x.box (gU x)):=by
 unfold hC oR at h0
 split at h0
 ·cases h0
 rename_i g1
 split at h0
 ·cases h0
 rename_i g2;simp only[Bool.or_eq_true,Bool.not_eq_true',not_or,Bool.not_eq_false]at g1;obtain⟨⟨⟨⟨n1,n2⟩,n3⟩,n4⟩,n5⟩:=g1;have hd:x.day≤1048576:=by
  have:eN x.day=true:=by cases hh:eN x.day with|true=>rfl|false=>rw[hh]at g2;exact absurd rfl g2
  unfold eN at this;simp only[aO,decide_eq_true_eq]at this;exact this.2
 split at h0
 ·cases h0
 rename_i b0 hb0;have hlen:b0.hist.length+1≤4096:=by
  unfold vZ at h0
  split at h0
  ·cases h0
  split at h0
  ·cases h0
  split at h0
  ·cases h0
  split at h0
  ·cases h0
  omega
 have hcase:∀b,b∈iP dB.box L x.box (gU x)→b∈L∨b=gU x b0:=fun b hb=>by
  unfold iP at hb;obtain⟨y,hy,he⟩:=aX.1 hb;by_cases hk:y.box=x.box
  ·rw[aF hk]at he;right;have:y=b0:=by
    have h1:=FC h.nd hy hk;rw[h1]at hb0;cases hb0;rfl
   rw[←he,this]
  ·rw[aE hk]at he;exact .inl (he ▸ hy)
 have hb0m:b0∈L:=(mO hb0).1;refine⟨by unfold iP;rw[aJ];exact h.few,by rw[vA _ _ (qW x)];exact h.nd,fun b hb=>?_,fun b hb=>?_,fun b hb=>?_⟩
 all_goals
  rcases hcase b hb with hb|rfl
 ·exact h.ne b hb
 ·exact⟨by unfold gU;simp,by unfold gU;rw[aM];exact hlen⟩
 ·exact h.day b hb
 ·intro y hy;rcases List.mem_append.1 hy with hy|hy
  ·exact h.day b0 hb0m y hy
  ·obtain rfl:y=x:=by simpa using hy
   exact hd
 ·exact h.sz b hb
 ·refine⟨(h.sz b0 hb0m).1,fun y hy=>?_⟩;rcases List.mem_append.1 hy with hy|hy
  ·exact(h.sz b0 hb0m).2 y hy
  ·obtain rfl:y=x:=by simpa using hy
   exact⟨pS n3,pS n4⟩
theorem lD.perm {L M:List dB}(h:lD L) (p:L.Perm M):lD M:=⟨by rw[←p.length_eq];exact h.few,(p.map dB.box).nodup_iff.1 h.nd,fun b hb=>h.ne b (p.mem_iff.2 hb),fun b hb=>h.day b (p.mem_iff.2 hb),fun b hb=>h.sz b (p.mem_iff.2 hb)⟩
structure Tg (q:HQ):Prop where
 h:Wr q
 cu:lD q.C.cust
 bx:q.d.boxes.length≤70
def Wm (C:Cr) (old:List dB) (i:Nat) (d:Dp) (ls:List dK):List cH:=[.blk 118 [.str C.name,.hd 1,.ph 2,.ptr 3 0,.ptr 10 0,.hd 7],.map 70 (bI iH C.parties),.pool 116 (bI gZ C.deals) [(i,.ptr 8 0)],.blk 122 [.str C.reg.carrier,.ph 4],.pool 120 (bI eD C.reg.bills) [],.blk 174 [.ph 6],.pool 172 (bI gE old) [],.tip 77 5 (bI dC C.deliv),.blk 136 (R3 d),.row 58 14 (bI dP ls),.blk 174 [.ph 11],.pool 172 (bI gE C.cust) []]
def Mg (b:Bool) (C:Cr) (old:List dB) (i:Nat) (d:Dp) (ls:List dK):List cH:=bif b then Wm C old i d ls else Ld C i d++[.row 58 14 (bI dP ls)]
def tF (κ:Int→Prop) (f:HQ→List dB→Bool×Cr×Dp×List dK):dN:=pA (fun q:HQ=>[.ptr 0 0,.ptr 8 0,dP q.l,.i q.day]) (fun q=>Ld q.C q.i q.d) (fun q=>κ q.l.kind∧Tg q) (fun q (L0:List dB)=>L0.Perm q.C.cust) (fun _ _=>.hd 9) fun q L0=>Mg (f q L0).1 (f q L0).2.1 q.C.cust q.i (f q L0).2.2.1 (f q L0).2.2.2
def nM (q:HQ) (L0:List dB):Bool×Cr×Dp×List dK:=if q.l.frm≠q.d.seller∨q.d.state≠0 then (false,q.C,q.d,[]) else match fA q.C.name q.d q.day L0 q.d.boxes with
 |none=>(false,q.C,q.d,[])
 |some L=>(true,{ q.C with cust:=L },vJ 1 q.d,[])
structure WD (name:bG) (d:Dp) (day:Int) (L:List dB) (bs:List bG) (p:Nat×List dB):Prop where
 le:p.1≤bs.length
 eq:fA name d day L bs=fA name d day p.2 (bs.drop p.1)
 ok:lD p.2
theorem FF (P:bH) (hcp:bJ P 68 C5) (hbg:bJ P 118 Gg) (hhn:bJ P 43 Hs):bN P W2 (tF (fun k=>k=4) nM):=by
 intro args H K hc;obtain⟨⟨⟨name,parties,deals,⟨rc,rL⟩,cust,deliv⟩,i,⟨number,seller,buyer,house,dfrm,dto,dboxes,state,rel⟩,⟨frm,to,lnumber,kind,ack,deal,text,party,index,day0,cur,amt,docs,boxes⟩,day⟩,rfl,rfl,hp,hK⟩:=hc;refine⟨cN,?_⟩;dsimp only at hp hK⊢;obtain⟨hk,⟨hnum,hfew,hall⟩,hcu,hbx⟩:=hp;dsimp only at hk hnum hfew hall hcu hbx;subst hk;obtain⟨d0,hd0⟩:∃d:Dp,d=⟨number,seller,buyer,house,dfrm,dto,dboxes,state,rel⟩:=⟨_,rfl⟩
 have hK0:frm≠seller∨state≠0→K (.hd 9) (Ld ⟨name,parties,deals,⟨rc,rL⟩,cust,deliv⟩ i ⟨number,seller,buyer,house,dfrm,dto,dboxes,state,rel⟩++[.row 58 14 (bI dP [])]):=fun h=>by
  have h1:=hK cust (.refl _);have e:nM ⟨⟨name,parties,deals,⟨rc,rL⟩,cust,deliv⟩,i,⟨number,seller,buyer,house,dfrm,dto,dboxes,state,rel⟩,⟨frm,to,lnumber,4,ack,deal,text,party,index,day0,cur,amt,docs,boxes⟩,day⟩ cust=(false,⟨name,parties,deals,⟨rc,rL⟩,cust,deliv⟩,⟨number,seller,buyer,house,dfrm,dto,dboxes,state,rel⟩,[]):=aF h;rw[e]at h1;exact h1
 have hKn:frm=seller→state=0→∀L0,L0.Perm cust→fA name d0 day L0 dboxes=none→K (.hd 9) (Ld ⟨name,parties,deals,⟨rc,rL⟩,cust,deliv⟩ i ⟨number,seller,buyer,house,dfrm,dto,dboxes,state,rel⟩++[.row 58 14 (bI dP [])]):=fun h0 h1 L0 hp h2=>by
  have h3:=hK L0 hp;have e:nM ⟨⟨name,parties,deals,⟨rc,rL⟩,cust,deliv⟩,i,⟨number,seller,buyer,house,dfrm,dto,dboxes,state,rel⟩,⟨frm,to,lnumber,4,ack,deal,text,party,index,day0,cur,amt,docs,boxes⟩,day⟩ L0=(false,⟨name,parties,deals,⟨rc,rL⟩,cust,deliv⟩,⟨number,seller,buyer,house,dfrm,dto,dboxes,state,rel⟩,[]):=by
   refine(aE (fun h=>h.elim (fun h=>h h0) fun h=>h h1)).trans ?_;show (match fA name ⟨number,seller,buyer,house,dfrm,dto,dboxes,state,rel⟩ day L0 dboxes with|none=>_|some L=>_)=_;rw[←hd0,h2,hd0]
  rw[e]at h3;exact h3
 have hKy:frm=seller→state=0→∀L0,L0.Perm cust→∀L,fA name d0 day L0 dboxes=some L→K (.hd 9) (Wm ⟨name,parties,deals,⟨rc,rL⟩,L,deliv⟩ cust i ⟨number,seller,buyer,house,dfrm,dto,dboxes,1,rel⟩ []):=fun h0 h1 L0 hp L h2=>by
  have h3:=hK L0 hp;have e:nM ⟨⟨name,parties,deals,⟨rc,rL⟩,cust,deliv⟩,i,⟨number,seller,buyer,house,dfrm,dto,dboxes,state,rel⟩,⟨frm,to,lnumber,4,ack,deal,text,party,index,day0,cur,amt,docs,boxes⟩,day⟩ L0=(true,⟨name,parties,deals,⟨rc,rL⟩,L,deliv⟩,⟨number,seller,buyer,house,dfrm,dto,dboxes,1,rel⟩,[]):=by
   refine(aE (fun h=>h.elim (fun h=>h h0) fun h=>h h1)).trans ?_;show (match fA name ⟨number,seller,buyer,house,dfrm,dto,dboxes,state,rel⟩ day L0 dboxes with|none=>_|some L=>_)=_;rw[←hd0,h2,hd0];rfl
  rw[e]at h3;exact h3
 clear hK;cbv;repeat'((first|refine .mk (fun h=>?_) fun h=>?_|fail)<;>cbv)
 rotate_left
 ·have hK:=hK0 (.inr (by assumption));refine cV (Gh.adopt 8 58 14 rfl) ?_;cbv
  (refine .q9 ?_;cbv;exact .inl (eU.sel [0,1,2,3,4,5,6,7,8,10] _ _ (by rfl) (by rfl) (by decide) (by rfl) cN (by rfl) (by rfl) (Le.refl _) (jS.refl _) hK))
 ·have hK:=hK0 (.inl (by assumption));refine cV (Gh.adopt 8 58 14 rfl) ?_;cbv
  (refine .q9 ?_;cbv;exact .inl (eU.sel [0,1,2,3,4,5,6,7,8,10] _ _ (by rfl) (by rfl) (by decide) (by rfl) cN (by rfl) (by rfl) (Le.refl _) (jS.refl _) hK))
 refine cK hcp cust [5,6] hcu rfl rfl (by decide) rfl rfl rfl rfl rfl ?_;intro L1 hp1;have hKn:=hKn (by assumption) (by assumption) L1 hp1;have hKy:=hKy (by assumption) (by assumption) L1 hp1;obtain⟨n,hn⟩:∃n:Nat,n=dboxes.length:=⟨_,rfl⟩
 have hds:d0.seller=seller:=by rw[hd0]
 have hdf:d0.frm=dfrm:=by rw[hd0]
 clear hd0;cbv;repeat'((first|refine .k fun z hz=>?_|fail)<;>cbv)
 refine bV [] (fun p:{ p:Nat×List dB // WD name d0 day L1 dboxes p }=>[(36,.i (nI p.1.1))]) (fun p=>[.blk 118 [.str name,.hd 1,.ph 2,.ptr 3 0,.ptr 5 0,.hd 7],.map 70 (bI iH parties),.pool 116 (bI gZ deals) [(i,.ptr 8 0)],.blk 122 [.str rc,.ph 4],.pool 120 (bI eD rL) [],.blk 174 [.ph 6],.pool 172 (bI gE cust) [],.tip 77 5 (bI dC deliv),.blk 136 [.str number,.str seller,.str buyer,.str house,.str dfrm,.str dto,.sl 1 (bI .str dboxes),.i state,.bl rel],.blk 58 [.str frm,.str to,.i lnumber,.i 4,.i ack,.str deal,.str text,.str party,.i index,.i day0,.str cur,.i amt,.sl 4 (bI sJ docs),.sl 1 (bI .str boxes)],.blk 174 [.ph 11],.pool 172 (bI gE p.1.2) []]) (fun p=>fK n p.1.1) ⟨(0,L1),⟨aI _,rfl,hcu.perm hp1.symm⟩⟩ ?_;rintro ⟨⟨k,Lk⟩,⟨hk,heq,hcuk⟩⟩;dsimp only at hk heq hcuk⊢;rcases aL k dboxes.length with hks|hks
 rotate_left
 ·rw[List.drop_of_length_le hks]at heq;have hK:=hKy Lk heq;cbv;repeat'((first|refine .n fun h=>?_|fail)<;>cbv)
  refine cV (Gh.adopt 8 58 14 rfl) ?_;cbv
  (refine .q9 ?_;cbv;exact .inl (eU.sel [0,1,2,3,4,5,6,7,8,12,10,11] _ _ (by rfl) (by rfl) (by decide) (by rfl) cN (by rfl) (by rfl) (Le.refl _) (jS.refl _) hK))
 obtain⟨b,hx⟩:=cM hks;have hdr:dboxes.drop k=b :: dboxes.drop (k+1):=by
  obtain⟨h1,rfl⟩:=aA.1 hx;exact List.drop_eq_getElem_cons h1
 obtain⟨e1,he1⟩:∃e,e=rD Lk ⟨b,eS,seller,dfrm,day⟩:=⟨_,rfl⟩
 obtain⟨M1,hM1⟩:∃M,M=N0 Lk ⟨b,eS,seller,dfrm,day⟩:=⟨_,rfl⟩
 obtain⟨e2,he2⟩:∃e,e=hC M1 ⟨b,seller,name,dfrm,day⟩:=⟨_,rfl⟩
 obtain⟨M2,hM2⟩:∃M,M=MO M1 ⟨b,seller,name,dfrm,day⟩:=⟨_,rfl⟩
 have hs1:e1≠0→fA name d0 day L1 dboxes=none:=fun h=>by
  rw[heq,hdr];refine aF ?_;show rD Lk ⟨b,eS,d0.seller,d0.frm,day⟩≠0;rw[hds,hdf,←he1];exact h
 have hc1:e1=0→M1=Lk++[⟨b,[⟨b,eS,seller,dfrm,day⟩]⟩]∧lD M1:=fun h=>by
  have h1:M1=Lk++[⟨b,[⟨b,eS,seller,dfrm,day⟩]⟩]:=by rw[hM1];exact aF (he1.symm.trans h)
  exact⟨h1,by rw[h1];exact hcuk.beg (he1.symm.trans h)⟩
 have hs2:e1=0→fA name d0 day L1 dboxes=if e2≠0 then none else fA name d0 day (iP dB.box M1 b (gU ⟨b,seller,name,dfrm,day⟩)) (dboxes.drop (k+1)):=fun h=>by
  rw[heq,hdr];refine(aE (fun h2=>h2 ?_)).trans ?_
  rotate_left
  ·show rD Lk ⟨b,eS,d0.seller,d0.frm,day⟩=0;rw[hds,hdf,←he1];exact h
  ·rw[he2,(hc1 h).1];show (if hC (Lk++[⟨b,[⟨b,eS,d0.seller,d0.frm,day⟩]⟩]) ⟨b,d0.seller,name,d0.frm,day⟩≠0 then none else fA name d0 day (iP dB.box (Lk++[⟨b,[⟨b,eS,d0.seller,d0.frm,day⟩]⟩]) b (gU ⟨b,d0.seller,name,d0.frm,day⟩)) (dboxes.drop (k+1)))=_;rw[hds,hdf]
 have hc2:e1=0→e2=0→M2=iP dB.box M1 b (gU ⟨b,seller,name,dfrm,day⟩)∧lD M2:=fun h h'=>by
  have h1:M2=iP dB.box M1 b (gU ⟨b,seller,name,dfrm,day⟩):=by rw[hM2];exact aF (he2.symm.trans h')
  exact⟨h1,by rw[h1];exact(hc1 h).2.hand (x:=⟨b,seller,name,dfrm,day⟩) (he2.symm.trans h')⟩
 clear heq hdr;cbv;repeat'((first|refine .e ?_|refine .y fun h=>?_|fail)<;>cbv)
 (refine gT hbg ((Lk,⟨b,eS,seller,dfrm,day⟩):List dB×XL) [10,11] ⟨hcuk,rfl⟩ ?_;try dsimp only)
 rw[←he1,←hM1];cbv;repeat'((first|refine .mk (fun h=>?_) fun h=>?_|fail)<;>cbv)
 all_goals first
 |(have hK:=hKn (hs1 (by assumption))
   refine cV (Gh.adopt 8 58 14 rfl) ?_;cbv
   (refine .q9 ?_;cbv;exact .inl (eU.sel [0,1,2,3,4,5,6,7,8,12] _ _ (by rfl) (by rfl) (by decide) (by rfl) cN (by rfl) (by rfl) (Le.refl _) (jS.refl _) hK)))
 |skip
 obtain⟨hm1,hcu1⟩:=hc1 (by assumption);have hs2:=hs2 (by assumption);have hc2:=hc2 (by assumption);clear hm1 hM1
 (refine gT hhn ((M1,⟨b,seller,name,dfrm,day⟩):List dB×XL) [10,11] hcu1 ?_;try dsimp only)
 rw[←he2,←hM2];cbv;repeat'((first|refine .mk (fun h=>?_) fun h=>?_|refine .k fun z hz=>?_|fail)<;>cbv)
 all_goals first
 |(rw[aF (by assumption)]at hs2
   have hK:=hKn hs2;refine cV (Gh.adopt 8 58 14 rfl) ?_;cbv
   (refine .q9 ?_;cbv;exact .inl (eU.sel [0,1,2,3,4,5,6,7,8,12] _ _ (by rfl) (by rfl) (by decide) (by rfl) cN (by rfl) (by rfl) (Le.refl _) (jS.refl _) hK)))
 |skip
 obtain⟨hm2,hcu2⟩:=hc2 (by assumption);rw[aE (fun h=>h (by assumption)),←hm2]at hs2;clear hm2 hM2;obtain rfl:z=nI (k+1):=bS;exact bL ⟨(k+1,M2),⟨hks,hs2,hcu2⟩⟩ (bM (by omega))
structure Tc (q:HQ):Prop where
 h:Tg q
 dl:q.C.deliv.length≤40000
def zV (κ:Int→Prop) (f:HQ→List dB→Bool×Cr×Dp×List dK):dN:=pA (fun q:HQ=>[.ptr 0 0,.ptr 8 0,dP q.l,.i q.day]) (fun q=>Ld q.C q.i q.d) (fun q=>κ q.l.kind∧Tc q) (fun q (L0:List dB)=>L0.Perm q.C.cust) (fun _ _=>.hd 9) fun q L0=>Mg (f q L0).1 (f q L0).2.1 q.C.cust q.i (f q L0).2.2.1 (f q L0).2.2.2
def jC (q:HQ) (L0:List dB):Bool×Cr×Dp×List dK:=if q.d.state≠3∨q.d.rel=false then (false,q.C,q.d,eL fB q.l) else match eX (cF q.C.name q.l.frm q.d.to q.day) L0 q.d.boxes with
 |none=>(false,q.C,q.d,eL fB q.l)
 |some L=>if jI q.C.reg (cI 2 q.d q.l q.day)≠0 then (false,q.C,q.d,eL fB q.l) else (true,{ q.C with cust:=L,deliv:=q.C.deliv++q.d.boxes.map (cF q.C.name q.l.frm q.d.to q.day),reg:=wK q.C.reg (cI 2 q.d q.l q.day) },vJ 4 q.d,[{ lX with to:=q.l.frm,kind:=21,boxes:=q.d.boxes }])
theorem LK {R:Rg}{d:Dp}{l:dK}{day:Int}:jI R (cI 2 d l day)=eE R.bills ⟨cW d.number,l.index,0,l.frm,0,day,true,false⟩:=rfl
structure WJ (f:bG→XL) (L:List dB) (bs:List bG) (p:Nat×List dB):Prop where
 le:p.1≤bs.length
 eq:eX f L bs=eX f p.2 (bs.drop p.1)
 ok:lD p.2
theorem wQ (P:bH) (hcp:bJ P 68 C5) (hhn:bJ P 43 Hs) (hb:bJ P 120 BI) (hsu:bJ P 122 rR) (hc1:bJ P 87 (lR 1 16)) (ho:bJ P 121 IZ):bN P Xo (zV (fun k=>k=20) jC):=by
 intro args H K hc;obtain⟨⟨⟨name,parties,deals,⟨rc,rL⟩,cust,deliv⟩,i,⟨number,seller,buyer,house,dfrm,dto,dboxes,state,rel⟩,⟨frm,to,lnumber,kind,ack,deal,text,party,index,day0,cur,amt,docs,boxes⟩,day⟩,rfl,rfl,hp,hK⟩:=hc;refine⟨cN,?_⟩;dsimp only at hp hK⊢;obtain⟨hk,⟨⟨hnum,hfew,hall⟩,hcu,hbx⟩,hdl⟩:=hp;dsimp only at hk hnum hfew hall hcu hbx hdl;subst hk;have hok:lU 20:=by unfold lU;decide
 obtain⟨bn,hbn⟩:∃b,b=cW number:=⟨_,rfl⟩
 obtain⟨e,he⟩:∃e,e=eE rL ⟨bn,index,0,frm,0,day,true,false⟩:=⟨_,rfl⟩
 obtain⟨M,hM⟩:∃M,M=fY rL ⟨bn,index,0,frm,0,day,true,false⟩ (Qx ⟨bn,index,0,frm,0,day,true,false⟩):=⟨_,rfl⟩
 have hM0:e≠0→M=rL:=fun h=>by rw[hM];exact aE (he ▸ h)
 obtain⟨f,hf⟩:∃f,f=cF name frm dto day:=⟨_,rfl⟩
 obtain⟨T,hT⟩:∃T,T=dboxes.map f:=⟨_,rfl⟩
 have hKo:(state≠3∨rel=false)∨(∃L0,L0.Perm cust∧(eX f L0 dboxes=none∨e≠0))→K (.hd 9) (Ld ⟨name,parties,deals,⟨rc,rL⟩,cust,deliv⟩ i ⟨number,seller,buyer,house,dfrm,dto,dboxes,state,rel⟩++[.row 58 14 (bI dP (eL fB ⟨frm,to,lnumber,20,ack,deal,text,party,index,day0,cur,amt,docs,boxes⟩))]):=fun h=>by
  have hg:∃L0,L0.Perm cust∧jC ⟨⟨name,parties,deals,⟨rc,rL⟩,cust,deliv⟩,i,⟨number,seller,buyer,house,dfrm,dto,dboxes,state,rel⟩,⟨frm,to,lnumber,20,ack,deal,text,party,index,day0,cur,amt,docs,boxes⟩,day⟩ L0=(false,⟨name,parties,deals,⟨rc,rL⟩,cust,deliv⟩,⟨number,seller,buyer,house,dfrm,dto,dboxes,state,rel⟩,eL fB ⟨frm,to,lnumber,20,ack,deal,text,party,index,day0,cur,amt,docs,boxes⟩):=by
   rcases h with h|⟨L0,hp,h⟩
   ·exact⟨cust,.refl _,aF h⟩
   ·refine⟨L0,hp,?_⟩;by_cases h1:state≠3∨rel=false
    ·exact aF h1
    ·refine(aE h1).trans ?_;show (match eX (cF name frm dto day) L0 dboxes with|none=>_|some L=>if _ then _ else _)=_;rw[←hf];cases hL:eX f L0 dboxes with
     |none=>rfl
     |some L=>
      refine aF ?_;rw[LK];show eE rL ⟨cW number,index,0,frm,0,day,true,false⟩≠0;rw[←hbn,←he];rcases h with h|h
      ·rw[hL]at h;cases h
      ·exact h
  obtain⟨L0,hp,h3⟩:=hg;have h4:=hK L0 hp;rw[h3]at h4;exact h4
 have hKy:state=3→rel=true→e=0→∀L0,L0.Perm cust→∀L,eX f L0 dboxes=some L→K (.hd 9) (Wm ⟨name,parties,deals,⟨rc,M⟩,L,deliv++T⟩ cust i ⟨number,seller,buyer,house,dfrm,dto,dboxes,4,rel⟩ [⟨eS,frm,0,21,0,eS,eS,eS,0,0,eS,0,[],dboxes⟩]):=fun h1 h2 h3 L0 hp L h4=>by
  have h5:=hK L0 hp;have h6:jC ⟨⟨name,parties,deals,⟨rc,rL⟩,cust,deliv⟩,i,⟨number,seller,buyer,house,dfrm,dto,dboxes,state,rel⟩,⟨frm,to,lnumber,20,ack,deal,text,party,index,day0,cur,amt,docs,boxes⟩,day⟩ L0=(true,⟨name,parties,deals,⟨rc,M⟩,L,deliv++T⟩,⟨number,seller,buyer,house,dfrm,dto,dboxes,4,rel⟩,[⟨eS,frm,0,21,0,eS,eS,eS,0,0,eS,0,[],dboxes⟩]):=by
   refine(aE (fun h=>h.elim (fun h=>h h1) (fun h=>by rw[h2]at h;cases h))).trans ?_;show (match eX (cF name frm dto day) L0 dboxes with|none=>_|some L=>if _ then _ else _)=_;rw[←hf,h4];refine(aE (fun h=>h ?_)).trans ?_
   rotate_left
   ·rw[LK];show eE rL ⟨cW number,index,0,frm,0,day,true,false⟩=0;rw[←hbn,←he];exact h3
   ·rw[hM,hT,hbn,hf];rfl
  rw[h6]at h5;exact h5
 clear hK;obtain⟨DT,hDT⟩:∃D,D=deliv++T:=⟨_,rfl⟩
 rw[←hDT]at hKy;have hTl:T.length≤70:=by rw[hT,aJ];exact hbx
 obtain⟨n,hn⟩:∃n:Nat,n=dboxes.length:=⟨_,rfl⟩
 cases rel with
 |false=>
  have hK:=hKo (.inl (.inr rfl));cbv;repeat'((first|refine .mk (fun h=>?_) fun h=>?_|fail)<;>cbv)
  all_goals
    (refine xK ho (⟨frm,to,lnumber,20,ack,deal,text,party,index,day0,cur,amt,docs,boxes⟩:dK) hok ?_;try dsimp only)
    cbv
    (refine .q9 ?_;cbv;exact .inl (eU.sel [0,1,2,3,4,5,6,7,8,10] _ _ (by rfl) (by rfl) (by decide) (by rfl) cN (by rfl) (by rfl) (Le.refl _) (jS.refl _) hK))
 |true=>
  cbv;repeat'((first|refine .mk (fun h=>?_) fun h=>?_|fail)<;>cbv)
  rotate_left
  ·have hK:=hKo (.inl (.inl (by assumption)))
   all_goals
    (refine xK ho (⟨frm,to,lnumber,20,ack,deal,text,party,index,day0,cur,amt,docs,boxes⟩:dK) hok ?_;try dsimp only)
    cbv
    (refine .q9 ?_;cbv;exact .inl (eU.sel [0,1,2,3,4,5,6,7,8,10] _ _ (by rfl) (by rfl) (by decide) (by rfl) cN (by rfl) (by rfl) (Le.refl _) (jS.refl _) hK))
  refine cK hcp cust [5,6] hcu rfl rfl (by decide) rfl rfl rfl rfl rfl ?_;intro L1 hp1;have hKo:eX f L1 dboxes=none∨e≠0→_:=fun h=>hKo (.inr ⟨L1,hp1,h⟩)
  have hKy:=fun h=>hKy (by assumption) rfl h L1 hp1
  have hfb:∀b,f b=⟨b,name,frm,dto,day⟩:=fun b=>by rw[hf];rfl
  clear hf;cbv;repeat'((first|refine .k fun z hz=>?_|fail)<;>cbv)
  refine iI (Gh.adopt 10 77 5 rfl) ?_;cbv;refine bV [12] (fun p:{ p:Nat×List dB // WJ f L1 dboxes p }=>[(10,.hd 12),(40,.i (nI p.1.1))]) (fun p=>[.blk 118 [.str name,.hd 1,.ph 2,.ptr 3 0,.ptr 5 0,.hd 7],.map 70 (bI iH parties),.pool 116 (bI gZ deals) [(i,.ptr 8 0)],.blk 122 [.str rc,.ph 4],.pool 120 (bI eD rL) [],.blk 174 [.ph 6],.pool 172 (bI gE cust) [],.tip 77 5 (bI dC deliv),.blk 136 [.str number,.str seller,.str buyer,.str house,.str dfrm,.str dto,.sl 1 (bI .str dboxes),.i state,.bl true],.blk 58 [.str frm,.str to,.i lnumber,.i 20,.i ack,.str deal,.str text,.str party,.i index,.i day0,.str cur,.i amt,.sl 4 (bI sJ docs),.sl 1 (bI .str boxes)],.blk 174 [.ph 11],.pool 172 (bI gE p.1.2) [],.row 77 5 (bI dC (T.take p.1.1))]) (fun p=>fK n p.1.1) ⟨(0,L1),⟨aI _,rfl,hcu.perm hp1.symm⟩⟩ ?_;rintro ⟨⟨k,Lk⟩,⟨hk,heq,hcuk⟩⟩;dsimp only at hk heq hcuk⊢;rcases aL k dboxes.length with hks|hks
  rotate_left
  ·rw[List.drop_of_length_le hks]at heq;have hKy:=fun h=>hKy h Lk heq
   have eT:T.take k=T:=bC (by rw[hT,aJ];exact hks);rw[eT];clear heq eT;cbv;repeat'((first|refine .n fun h=>?_|fail)<;>cbv)
   (refine gT hb (⟨number,seller,buyer,house,dfrm,dto,dboxes,state,true⟩:Dp) [8] hnum ?_;try dsimp only)
   rw[←hbn];cbv;obtain⟨bm,hbm⟩:∃b,b=On rL ⟨bn,index,0,frm,0,day,true,false⟩:=⟨_,rfl⟩
   (refine gT hsu ((⟨rc,rL⟩,⟨bn,index,0,frm,0,day,true,false⟩):Rg×Ak) [3,4] ⟨hall,rfl,rfl,rfl,rfl⟩ ?_;try dsimp only)
   rw[←he,←hM,←hbm];clear hbm;cbv;repeat'((first|refine .mk (fun h=>?_) fun h=>?_|refine .l fun ys hys hyl=>?_|fail)<;>cbv)
   all_goals first
   |(have hK:=hKo (.inr (by assumption))
     obtain rfl:M=rL:=hM0 (by assumption)
     (refine xK ho (⟨frm,to,lnumber,20,ack,deal,text,party,index,day0,cur,amt,docs,boxes⟩:dK) hok ?_;try dsimp only)
     cbv
     (refine .q9 ?_;cbv;exact .inl (eU.sel [0,1,2,3,4,5,6,7,8,13] _ _ (by rfl) (by rfl) (by decide) (by rfl) cN (by rfl) (by rfl) (Le.refl _) (jS.refl _) hK)))
   |skip
   all_goals
    have hK:=hKy (by assumption);obtain rfl:ys=DT:=by rw[hys,hDT]
    (refine XG hc1 _ ⟨by rw[bY];unfold maxLen;omega,by rw[bY];omega⟩ ?_;try dsimp only)
    cbv
   all_goals
    refine cV (Gh.leAt 13 (.row 58 14 (bI dP [⟨eS,frm,0,21,0,eS,eS,eS,0,0,eS,0,[],dboxes⟩])) rfl (sA Aw)) ?_;cbv
    (refine .q9 ?_;cbv;exact .inl (eU.sel [0,1,2,3,4,5,6,7,8,13,10,11] _ _ (by rfl) (by rfl) (by decide) (by rfl) cN (by rfl) (by rfl) (Le.refl _) (jS.refl _) hK))
  obtain⟨b,hx⟩:=cM hks;have hdr:dboxes.drop k=b :: dboxes.drop (k+1):=by
   obtain⟨h1,rfl⟩:=aA.1 hx;exact List.drop_eq_getElem_cons h1
  obtain⟨e2,he2⟩:∃e,e=hC Lk ⟨b,name,frm,dto,day⟩:=⟨_,rfl⟩
  obtain⟨M2,hM2⟩:∃M,M=MO Lk ⟨b,name,frm,dto,day⟩:=⟨_,rfl⟩
  have hs2:eX f L1 dboxes=if e2≠0 then none else eX f (iP dB.box Lk b (gU ⟨b,name,frm,dto,day⟩)) (dboxes.drop (k+1)):=by
   rw[heq,hdr,he2];show (if hC Lk (f b)≠0 then none else eX f (iP dB.box Lk (f b).box (gU (f b))) (dboxes.drop (k+1)))=_;rw[hfb]
  have hc2:e2=0→M2=iP dB.box Lk b (gU ⟨b,name,frm,dto,day⟩)∧lD M2:=fun h=>by
   have h1:M2=iP dB.box Lk b (gU ⟨b,name,frm,dto,day⟩):=by rw[hM2];exact aF (he2.symm.trans h)
   exact⟨h1,by rw[h1];exact hcuk.hand (x:=⟨b,name,frm,dto,day⟩) (he2.symm.trans h)⟩
  have hT2:T.take (k+1)=T.take k++[⟨b,name,frm,dto,day⟩]:=by
   rw[hT,←List.map_take,←List.map_take,dX hx,List.map_append];simp[hfb]
  obtain⟨Tk,hTk⟩:∃t,t=T.take k:=⟨_,rfl⟩
  have hTkl:Tk.length≤70:=by rw[hTk,aS];omega
  rw[←hTk]at hT2⊢;clear heq hdr hTk;cbv;repeat'((first|refine .e ?_|refine .y fun h=>?_|fail)<;>cbv)
  (refine gT hhn ((Lk,⟨b,name,frm,dto,day⟩):List dB×XL) [10,11] hcuk ?_;try dsimp only)
  rw[←he2,←hM2];cbv;repeat'((first|refine .mk (fun h=>?_) fun h=>?_|refine .k fun z hz=>?_|refine .zl fun zs hzs hzl=>?_|fail)<;>cbv)
  all_goals first
  |(rw[aF (by assumption)]at hs2
    have hK:=hKo (.inl hs2)
    (refine xK ho (⟨frm,to,lnumber,20,ack,deal,text,party,index,day0,cur,amt,docs,boxes⟩:dK) hok ?_;try dsimp only)
    cbv
    (refine .q9 ?_;cbv;exact .inl (eU.sel [0,1,2,3,4,5,6,7,8,14] _ _ (by rfl) (by rfl) (by decide) (by rfl) cN (by rfl) (by rfl) (Le.refl _) (jS.refl _) hK)))
  |skip
  obtain⟨hm2,hcu2⟩:=hc2 (by assumption);rw[aE (fun h=>h (by assumption)),←hm2]at hs2;clear hm2 hM2;obtain rfl:z=nI (k+1):=bS;obtain rfl:zs=bI dC (T.take (k+1)):=by(rw[hT2,cB,cE];exact hzs)
  exact bL ⟨(k+1,M2),⟨hks,hs2,hcu2⟩⟩ (bM (by omega))
def Vf (C:Cr) (old:List dB):List cH:=[.blk 118 [.str C.name,.hd 1,.ph 2,.ptr 3 0,.ptr 8 0,.hd 7],.map 70 (bI iH C.parties),.pool 116 (bI gZ C.deals) [],.blk 122 [.str C.reg.carrier,.ph 4],.pool 120 (bI eD C.reg.bills) [],.blk 174 [.ph 6],.pool 172 (bI gE old) [],.tip 77 5 (bI dC C.deliv),.blk 174 [.ph 9],.pool 172 (bI gE C.cust) []]
def MY (b:Bool) (C:Cr) (old:List dB):List cH:=bif b then Vf C old else xC C
def fF (q:HQ) (L0:List dB):Bool×Cr×Dp×List dK:=
 if q.l.kind=4 then nM q L0 else if q.l.kind=8 then (false,mI q) else if q.l.kind=20 then jC q L0 else if q.l.kind=19 then (false,AX q) else if q.l.kind=23 then (false,pL q) else if q.l.kind=24 then (false,pZ q) else (false,q.C,q.d,[])
def eF (C:Cr) (l:dK) (day:Int) (L0:List dB):Bool×Cr×List dK:=match kK Dp.number C.deals l.deal with
 |none=>(false,C,[])
 |some i=>match C.deals[i]? with
  |none=>(false,C,[])
  |some d=>if iS C.parties l.frm=false then (false,C,[]) else
   ((fF ⟨C,i,d,l,day⟩ L0).1,{ (fF ⟨C,i,d,l,day⟩ L0).2.1 with deals:=C.deals.set i (fF ⟨C,i,d,l,day⟩ L0).2.2.1 },cC d.number day (fF ⟨C,i,d,l,day⟩ L0).2.2.2)
structure TQ where
 C:Cr
 l:dK
 day:Int
structure QN (q:TQ):Prop where
 c:QW q.C
 cu:lD q.C.cust
 dl:q.C.deliv.length≤40000
def pT (κ:Int→Prop):dN:=pA (fun q:TQ=>[.ptr 0 0,dP q.l,.i q.day]) (fun q=>xC q.C) (fun q=>κ q.l.kind∧QN q) (fun q (L0:List dB)=>L0.Perm q.C.cust) (fun q L0=>.sl 14 (bI dP (eF q.C q.l q.day L0).2.2)) fun q L0=>MY (eF q.C q.l q.day L0).1 (eF q.C q.l q.day L0).2.1 q.C.cust
theorem XP {C:Cr}{l:dK}{day:Int}{L0:List dB}(h:kK Dp.number C.deals l.deal=none):eF C l day L0=(false,C,[]):=by unfold eF;rw[h]
theorem mZ {C:Cr}{l:dK}{day:Int}{L0:List dB}(h:iS C.parties l.frm=false):eF C l day L0=(false,C,[]):=by
 unfold eF
 split
 ·rfl
 ·split
  ·rfl
  ·rw[aF h]
theorem Am {C:Cr}{l:dK}{day:Int}{L0:List dB}{i:Nat}{d:Dp}(h:kK Dp.number C.deals l.deal=some i) (hd:C.deals[i]?=some d) (hp:iS C.parties l.frm=true) {b:Bool}{R:Rg}{cu:List dB}{dl:List XL}{d2:Dp}{ls:List dK}
  (hk:fF ⟨C,i,d,l,day⟩ L0=(b,⟨C.name,C.parties,C.deals,R,cu,dl⟩,d2,ls)):eF C l day L0=(b,⟨C.name,C.parties,C.deals.set i d2,R,cu,dl⟩,cC d.number day ls):=by
 unfold eF;rw[h];dsimp only;rw[hd];dsimp only;rw[aE (by rw[hp];decide),hk]
def zA (q:HQ) (r:Cr×Dp×List dK):Prop:=∃R cu dl st rl ls,r=(⟨q.C.name,q.C.parties,q.C.deals,R,cu,dl⟩,⟨q.d.number,q.d.seller,q.d.buyer,q.d.house,q.d.frm,q.d.to,q.d.boxes,st,rl⟩,ls)∧ls.length≤1000
theorem F6 (q:HQ):zA q (AX q):=by
 unfold AX
 split
 ·exact⟨_,_,_,_,_,_,rfl,aI _⟩
 ·exact⟨_,_,_,_,_,_,rfl,aI _⟩
theorem Dz (q:HQ):zA q (pL q):=by
 by_cases h:jI q.C.reg (cI 3 q.d q.l q.day)=0
 ·rw[uH h];exact⟨_,_,_,_,_,_,rfl,aI _⟩
 ·rw[As h];exact⟨_,_,_,_,_,_,rfl,(show (1:Nat)≤1000 by decide)⟩
theorem Dq (q:HQ):zA q (pZ q):=by
 by_cases h:jI q.C.reg (cI 4 q.d q.l q.day)=0
 ·rw[uY h];exact⟨_,_,_,_,_,_,rfl,(show (1:Nat)≤1000 by decide)⟩
 ·rw[zP h];exact⟨_,_,_,_,_,_,rfl,(show (1:Nat)≤1000 by decide)⟩
theorem EN (q:HQ):zA q (mI q):=by
 by_cases h:iS q.C.parties q.l.party=false∨q.l.party=q.l.frm∨jI q.C.reg (cI 1 q.d q.l q.day)≠0
 ·rw[zK h];exact⟨_,_,_,_,_,_,rfl,(show (1:Nat)≤1000 by decide)⟩
 ·have e:mI q=(({ q.C with reg:=wK q.C.reg (cI 1 q.d q.l q.day) },q.d,[{ lX with to:=q.l.party,kind:=9,index:=q.l.index,party:=q.l.party }])):=by
   have:zN fB q.C q.d q.l q.day=({ q.C with reg:=wK q.C.reg (cI 1 q.d q.l q.day) },[{ lX with to:=q.l.party,kind:=9,index:=q.l.index,party:=q.l.party }]):=aE h;unfold mI;rw[this]
  rw[e];exact⟨_,_,_,_,_,_,rfl,(show (1:Nat)≤1000 by decide)⟩
theorem Eu (q:HQ) (L0:List dB):zA q (nM q L0).2:=by
 unfold nM
 split
 ·exact⟨_,_,_,_,_,_,rfl,aI _⟩
 ·split
  ·exact⟨_,_,_,_,_,_,rfl,aI _⟩
  ·exact⟨_,_,_,_,_,_,rfl,aI _⟩
theorem Dm (q:HQ) (L0:List dB):zA q (jC q L0).2:=by
 unfold jC
 split
 ·exact⟨_,_,_,_,_,_,rfl,(show (1:Nat)≤1000 by decide)⟩
 ·split
  ·exact⟨_,_,_,_,_,_,rfl,(show (1:Nat)≤1000 by decide)⟩
  ·split
   ·exact⟨_,_,_,_,_,_,rfl,(show (1:Nat)≤1000 by decide)⟩
   ·exact⟨_,_,_,_,_,_,rfl,(show (1:Nat)≤1000 by decide)⟩
theorem Gb (P:bH) (hle:bJ P 48 qJ) (hst:bJ P 49 pV):bN P Vu (pT fun k=>¬(k=4∨k=8∨k=20∨k=19∨k=23∨k=24)):=by
 intro args H K hc;obtain⟨⟨⟨name,parties,deals,⟨rc,rL⟩,cust,deliv⟩,⟨frm,to,lnumber,kind,ack,deal,text,party,index,day0,cur,amt,docs,boxes⟩,day⟩,rfl,rfl,hp,hK⟩:=hc;refine⟨cN,?_⟩;dsimp only at hp hK⊢;obtain⟨hk,⟨hnd,hfew,hall,hnum,hbx,hbz⟩,hcu,hdl⟩:=hp;dsimp only at hk hnd hfew hall hnum hbx hbz hcu hdl;have hKn:∀L0,L0.Perm cust→eF ⟨name,parties,deals,⟨rc,rL⟩,cust,deliv⟩ ⟨frm,to,lnumber,kind,ack,deal,text,party,index,day0,cur,amt,docs,boxes⟩ day L0=(false,⟨name,parties,deals,⟨rc,rL⟩,cust,deliv⟩,[])→K (.sl 14 []) (xC ⟨name,parties,deals,⟨rc,rL⟩,cust,deliv⟩):=fun L0 hp h=>by
  have:=hK L0 hp;rw[h]at this;exact this
 cbv
 all_goals
  refine fR Dp.number (fun _=>rfl) (fun i y hai hy hky=>?_) (fun hai=>?_)<;>try dsimp only at *
  rotate_left
  ·have hK:=hKn cust (.refl _) (XP hai);cbv
   all_goals
    refine cV (Gh.adopt 6 58 14 rfl) ?_;cbv;refine cV (Gh.plain 9 rfl) ?_;cbv
    (refine .q9 ?_;cbv;exact .inl (.f9 hK))
  have hn1:=hnum y (aC hy);have hb1:=hbx y (aC hy);have htx:iS parties frm=true→∀L0,L0.Perm cust→∀b R cu dl d2 ls,fF ⟨⟨name,parties,deals,⟨rc,rL⟩,cust,deliv⟩,i,y,⟨frm,to,lnumber,kind,ack,deal,text,party,index,day0,cur,amt,docs,boxes⟩,day⟩ L0=(b,⟨name,parties,deals,R,cu,dl⟩,d2,ls)→K (.sl 14 (bI dP (cC y.number day ls))) (MY b ⟨name,parties,deals.set i d2,R,cu,dl⟩ cust):=fun hp L0 hpm b R cu dl d2 ls hkx=>by
   have h1:=hK L0 hpm;rw[Am hai hy hp hkx]at h1;exact h1
  have htn:iS parties frm=false→K (.sl 14 []) (xC ⟨name,parties,deals,⟨rc,rL⟩,cust,deliv⟩):=fun h=>hKn cust (.refl _) (mZ h)
  clear hK hKn;obtain⟨number,seller,buyer,house,dfrm,dto,dboxes,state,rel⟩:=y;dsimp only at hky hn1 hb1 htx;subst hky;cbv
  all_goals
   refine nP (fun j hj=>?_) fun hno=>?_
   rotate_left
   ·have hK:=htn (tW hno);cbv
    all_goals
     refine cV (Gh.back0 2 [9] gZ rfl hy) ?_;cbv;refine cV (Gh.adopt 6 58 14 rfl) ?_;cbv;refine cV (Gh.plain 10 rfl) ?_;cbv
     (refine .q9 ?_;cbv;exact .inl (.f9 hK))
   have htx:=htx (BS hj);clear hj htn;cbv
   all_goals
    (refine xK hle () trivial ?_;try dsimp only)
    cbv
   all_goals
    refine pO.mk (.inr ⟨by rw[jA (by omega),jA (by omega),jA (by omega),jA (by omega),jA (by omega),jA (by omega)];rfl,?_⟩);cbv
   all_goals
    have hK:=htx cust (.refl _) false ⟨rc,rL⟩ cust deliv ⟨number,seller,buyer,house,dfrm,dto,dboxes,state,rel⟩ [] (by
     unfold fF;dsimp only;rw[aE (by omega),aE (by omega),aE (by omega),aE (by omega),aE (by omega),aE (by omega)])
    refine cV (Gh.back 2 [9] gZ ⟨number,seller,buyer,house,dfrm,dto,dboxes,state,rel⟩ rfl hy) ?_;cbv;refine cV (Gh.adopt 6 58 14 rfl) ?_;cbv;refine cV (Gh.plain 11 rfl) ?_;cbv
    (refine .q9 ?_;cbv;exact .inl (.f9 hK))
def L4 (κ:Int) (G:HQ→List dB→Bool×Cr×Dp×List dK):dN:=pA (fun q:HQ=>[.ptr 0 0,.ptr 8 0,dP q.l,.i q.day]) (fun q=>Ld q.C q.i q.d) (fun q=>q.l.kind=κ∧Tc q) (fun q (L0:List dB)=>L0.Perm q.C.cust) (fun _ _=>.hd 9) fun q L0=>Mg (G q L0).1 (G q L0).2.1 q.C.cust q.i (G q L0).2.2.1 (G q L0).2.2.2
theorem yF {P:bH}{f:Nat}{κ:Int}{F:HQ→Cr×Dp×List dK}(h:bJ P f (gB (fun k=>k=κ) F)):bJ P f (L4 κ fun q _=>(false,F q)):=fun args H K ⟨q,h1,h2,⟨hk,hp⟩,hK⟩=>h args H K ⟨q,h1,h2,⟨hk,hp.1.1⟩,hK q.C.cust (.refl _)⟩
theorem NC {P:bH}{f:Nat}{κ:Int}{G:HQ→List dB→Bool×Cr×Dp×List dK}(h:bJ P f (tF (fun k=>k=κ) G)):bJ P f (L4 κ G):=fun args H K ⟨q,h1,h2,⟨hk,hp⟩,hK⟩=>h args H K ⟨q,h1,h2,⟨hk,hp.1⟩,hK⟩
theorem lH (P:bH) (hle:bJ P 48 qJ) (hst:bJ P 49 pV) {κ:Int}{f n:Nat}{G:HQ→List dB→Bool×Cr×Dp×List dK}(hmc:dL P f) (hh:bJ P f (L4 κ G)) (hfi:nR (.i κ) zW 0=some (some n)) (hln:zW[n]?=some (.i κ,.clo f [])) (hsp:∀q L0,zA q (G q L0).2) (hkx:∀q L0,q.l.kind=κ→fF q L0=G q L0):bN P Vu (pT fun k=>k=κ):=by
 intro args H K hc;obtain⟨⟨⟨name,parties,deals,⟨rc,rL⟩,cust,deliv⟩,⟨frm,to,lnumber,kind,ack,deal,text,party,index,day0,cur,amt,docs,boxes⟩,day⟩,rfl,rfl,hp,hK⟩:=hc;refine⟨cN,?_⟩;dsimp only at hp hK⊢;obtain⟨hk,⟨hnd,hfew,hall,hnum,hbx,hbz⟩,hcu,hdl⟩:=hp;dsimp only at hk hnd hfew hall hnum hbx hbz hcu hdl;subst hk;have hKn:∀L0,L0.Perm cust→eF ⟨name,parties,deals,⟨rc,rL⟩,cust,deliv⟩ ⟨frm,to,lnumber,kind,ack,deal,text,party,index,day0,cur,amt,docs,boxes⟩ day L0=(false,⟨name,parties,deals,⟨rc,rL⟩,cust,deliv⟩,[])→K (.sl 14 []) (xC ⟨name,parties,deals,⟨rc,rL⟩,cust,deliv⟩):=fun L0 hp h=>by
  have:=hK L0 hp;rw[h]at this;exact this
 cbv
 all_goals
  refine fR Dp.number (fun _=>rfl) (fun i y hai hy hky=>?_) (fun hai=>?_)<;>try dsimp only at *
  rotate_left
  ·have hK:=hKn cust (.refl _) (XP hai);cbv
   all_goals
    refine cV (Gh.adopt 6 58 14 rfl) ?_;cbv;refine cV (Gh.plain 9 rfl) ?_;cbv
    (refine .q9 ?_;cbv;exact .inl (.f9 hK))
  have hn1:=hnum y (aC hy);have hb1:=hbx y (aC hy);have htx:iS parties frm=true→∀L0,L0.Perm cust→∀b R cu dl d2 ls,fF ⟨⟨name,parties,deals,⟨rc,rL⟩,cust,deliv⟩,i,y,⟨frm,to,lnumber,kind,ack,deal,text,party,index,day0,cur,amt,docs,boxes⟩,day⟩ L0=(b,⟨name,parties,deals,R,cu,dl⟩,d2,ls)→K (.sl 14 (bI dP (cC y.number day ls))) (MY b ⟨name,parties,deals.set i d2,R,cu,dl⟩ cust):=fun hp L0 hpm b R cu dl d2 ls hkx=>by
   have h1:=hK L0 hpm;rw[Am hai hy hp hkx]at h1;exact h1
  have htn:iS parties frm=false→K (.sl 14 []) (xC ⟨name,parties,deals,⟨rc,rL⟩,cust,deliv⟩):=fun h=>hKn cust (.refl _) (mZ h)
  clear hK hKn;obtain⟨number,seller,buyer,house,dfrm,dto,dboxes,state,rel⟩:=y;dsimp only at hky hn1 hb1 htx;subst hky;cbv
  all_goals
   refine nP (fun j hj=>?_) fun hno=>?_
   rotate_left
   ·have hK:=htn (tW hno);cbv
    all_goals
     refine cV (Gh.back0 2 [9] gZ rfl hy) ?_;cbv;refine cV (Gh.adopt 6 58 14 rfl) ?_;cbv;refine cV (Gh.plain 10 rfl) ?_;cbv
     (refine .q9 ?_;cbv;exact .inl (.f9 hK))
   have htx:=htx (BS hj);clear hj htn;cbv
   all_goals
    (refine xK hle () trivial ?_;try dsimp only)
    cbv
   all_goals
    refine pO.mk (.inl ⟨n,_,_,hfi,hln,?_⟩);cbv;repeat'((first|refine And.intro ?_ ?_|fail)<;>cbv)
   all_goals first
   |exact hmc
   |skip
   all_goals
    refine cK hh (⟨⟨name,parties,deals,⟨rc,rL⟩,cust,deliv⟩,i,⟨number,seller,buyer,house,dfrm,dto,dboxes,state,rel⟩,⟨frm,to,lnumber,kind,ack,number,text,party,index,day0,cur,amt,docs,boxes⟩,day⟩:HQ) [0,1,2,3,4,5,6,7,9] ⟨rfl,⟨⟨⟨hn1,hfew,hall⟩,hcu,hb1⟩,hdl⟩⟩ rfl rfl (by decide) rfl rfl rfl rfl rfl ?_;intro L0 hp0;obtain⟨⟨rc2,M⟩,cu,dl,st,rl,ls,hsh,hls⟩:=hsp (⟨⟨name,parties,deals,⟨rc,rL⟩,cust,deliv⟩,i,⟨number,seller,buyer,house,dfrm,dto,dboxes,state,rel⟩,⟨frm,to,lnumber,kind,ack,number,text,party,index,day0,cur,amt,docs,boxes⟩,day⟩:HQ) L0;obtain⟨mv,hmv⟩:∃b,b=(G (⟨⟨name,parties,deals,⟨rc,rL⟩,cust,deliv⟩,i,⟨number,seller,buyer,house,dfrm,dto,dboxes,state,rel⟩,⟨frm,to,lnumber,kind,ack,number,text,party,index,day0,cur,amt,docs,boxes⟩,day⟩:HQ) L0).1:=⟨_,rfl⟩
    have hsh2:G (⟨⟨name,parties,deals,⟨rc,rL⟩,cust,deliv⟩,i,⟨number,seller,buyer,house,dfrm,dto,dboxes,state,rel⟩,⟨frm,to,lnumber,kind,ack,number,text,party,index,day0,cur,amt,docs,boxes⟩,day⟩:HQ) L0=(mv,⟨name,parties,deals,⟨rc2,M⟩,cu,dl⟩,⟨number,seller,buyer,house,dfrm,dto,dboxes,st,rl⟩,ls):=Prod.ext hmv.symm hsh;have hK:=htx L0 hp0 mv ⟨rc2,M⟩ cu dl ⟨number,seller,buyer,house,dfrm,dto,dboxes,st,rl⟩ ls ((hkx _ _ rfl).trans hsh2);obtain⟨L9,hL9⟩:∃L,L=cC number day ls:=⟨_,rfl⟩
    try dsimp only at hK
    rw[←hL9]at hK;rw[hsh2];clear hmv hsh hsh2;cases mv with
    |false=>
     cbv
     (refine gT hst ((ls,⟨number,seller,buyer,house,dfrm,dto,dboxes,st,rl⟩,day):List dK×Dp×Int) [11,9] hls ?_;try dsimp only)
     rw[←hL9];cbv;refine cV (Gh.back 2 [9] gZ ⟨number,seller,buyer,house,dfrm,dto,dboxes,st,rl⟩ rfl hy) ?_;cbv;refine cV (Gh.plain 11 rfl) ?_;cbv
     (refine .q9 ?_;cbv;exact .inl (.f9 hK))
    |true=>
     cbv
     (refine gT hst ((ls,⟨number,seller,buyer,house,dfrm,dto,dboxes,st,rl⟩,day):List dK×Dp×Int) [11,9] hls ?_;try dsimp only)
     rw[←hL9];cbv;refine cV (Gh.back 2 [9] gZ ⟨number,seller,buyer,house,dfrm,dto,dboxes,st,rl⟩ rfl hy) ?_;cbv;refine cV (Gh.plain 11 rfl) ?_;cbv
     (refine .q9 ?_;cbv;exact .inl (eU.sel [0,1,2,3,4,5,6,7,12,13] _ _ (by rfl) (by rfl) (by decide) (by rfl) cN (by rfl) (by rfl) (Le.refl _) (jS.refl _) hK))
theorem Oh (q:HQ) (L0:List dB) (h:q.l.kind=4):fF q L0=nM q L0:=by unfold fF;rw[aF h]
theorem Qg (q:HQ) (L0:List dB) (h:q.l.kind=8):fF q L0=(false,mI q):=by unfold fF;rw[h];rfl
theorem Q9 (q:HQ) (L0:List dB) (h:q.l.kind=20):fF q L0=jC q L0:=by unfold fF;rw[h];rfl
theorem PP (q:HQ) (L0:List dB) (h:q.l.kind=19):fF q L0=(false,AX q):=by unfold fF;rw[h];rfl
theorem Nv (q:HQ) (L0:List dB) (h:q.l.kind=23):fF q L0=(false,pL q):=by unfold fF;rw[h];rfl
theorem NJ (q:HQ) (L0:List dB) (h:q.l.kind=24):fF q L0=(false,pZ q):=by unfold fF;rw[h];rfl
structure TB (P:bH):Prop where
 m1:dL P 79
 h1:bJ P 79 (tF (fun k=>k=4) nM)
 m2:dL P 80
 h2:bJ P 80 (gB (fun k=>k=8) mI)
 m3:dL P 81
 h3:bJ P 81 (zV (fun k=>k=20) jC)
 m4:dL P 82
 h4:bJ P 82 (gB (fun k=>k=19) AX)
 m5:dL P 83
 h5:bJ P 83 (gB (fun k=>k=23) pL)
 m6:dL P 84
 h6:bJ P 84 (gB (fun k=>k=24) pZ)
theorem Ij {P:bH}(hle:bJ P 48 qJ) (hst:bJ P 49 pV) (h:TB P):bN P Vu (pT fun _=>True):=by
 intro args H0 K hc;obtain⟨q,h1,h2,⟨-,h4⟩,h5⟩:=hc;by_cases k1:q.l.kind=4
 ·exact lH P hle hst h.m1 (NC h.h1) rfl rfl (Eu) Oh args H0 K ⟨q,h1,h2,⟨k1,h4⟩,h5⟩
 by_cases k2:q.l.kind=8
 ·exact lH P hle hst h.m2 (yF h.h2) rfl rfl (fun q _=>EN q) Qg args H0 K ⟨q,h1,h2,⟨k2,h4⟩,h5⟩
 by_cases k3:q.l.kind=20
 ·exact lH P hle hst h.m3 (h.h3) rfl rfl (Dm) Q9 args H0 K ⟨q,h1,h2,⟨k3,h4⟩,h5⟩
 by_cases k4:q.l.kind=19
 ·exact lH P hle hst h.m4 (yF h.h4) rfl rfl (fun q _=>F6 q) PP args H0 K ⟨q,h1,h2,⟨k4,h4⟩,h5⟩
 by_cases k5:q.l.kind=23
 ·exact lH P hle hst h.m5 (yF h.h5) rfl rfl (fun q _=>Dz q) Nv args H0 K ⟨q,h1,h2,⟨k5,h4⟩,h5⟩
 by_cases k6:q.l.kind=24
 ·exact lH P hle hst h.m6 (yF h.h6) rfl rfl (fun q _=>Dq q) NJ args H0 K ⟨q,h1,h2,⟨k6,h4⟩,h5⟩
 exact Gb P hle hst args H0 K ⟨q,h1,h2,⟨fun h=>by rcases h with h|h|h|h|h|h<;>contradiction,h4⟩,h5⟩
def GD:dN:=spec (fun _:Cr=>[.ptr 0 0]) xC (fun _=>True) (fun _=>.i 1) xC
theorem Gu (P:bH):bN P Xy GD:=by
 intro args H K hc;obtain⟨⟨name,parties,deals,⟨rc,rL⟩,cust,deliv⟩,rfl,rfl,hp,hK⟩:=hc;refine⟨cN,?_⟩;dsimp only at hp hK⊢;cbv
 (refine .q9 ?_;cbv;exact .inl (.f9 hK))
def BZ:dN:=spec (fun i:Cr×Int=>[.ptr 0 0,.i i.2]) (fun i=>xC i.1) (fun _=>True) (fun _=>.v (.slice none 0 0)) fun i=>xC i.1
theorem Fw (P:bH):bN P W8 BZ:=by
 intro args H K hc;obtain⟨⟨⟨name,parties,deals,⟨rc,rL⟩,cust,deliv⟩,day⟩,rfl,rfl,hp,hK⟩:=hc;refine⟨cN,?_⟩;dsimp only at hp hK⊢;cbv
 (refine .q9 ?_;cbv;exact .inl (.f9 hK))
def Ly:dN:=spec (fun _:Cr=>[.ptr 0 0]) xC (fun C=>C.deliv.length≤1000000) (fun C=>.sl 5 (bI dC C.deliv)) xC
theorem JZ (P:bH) (hc:bJ P 52 (lR 5 72)):bN P W4 Ly:=by
 intro args H K hc;obtain⟨⟨name,parties,deals,⟨rc,rL⟩,cust,deliv⟩,rfl,rfl,hp,hK⟩:=hc;refine⟨cN,?_⟩;dsimp only at hp hK⊢
 try dsimp only at hp
 cbv
 (refine XG hc _ ⟨by rw[bY];show deliv.length≤maxLen;unfold maxLen;omega,by rw[bY];show deliv.length * 72≤140737488355328;omega⟩ ?_;try dsimp only)
 cbv
 (refine .q9 ?_;cbv;exact .inl (.f9 hK))
def ME:dN:=pA (fun _:Cr=>[.ptr 0 0]) xC (fun C=>C.reg.bills.length≤256∧(∀b∈C.reg.bills,inB b)∧gS C.reg.bills) (fun C L=>L.Perm C.reg.bills) (fun _ _=>.ptr 8 0) fun C L=>xC C++[.blk 122 [.str C.reg.carrier,.ph 9],.pool 120 (bI eD L) []]
theorem I0 (P:bH) (hcp:bJ P 47 KQ):bN P WH ME:=by
 intro args H K hc;obtain⟨⟨name,parties,deals,⟨rc,rL⟩,cust,deliv⟩,rfl,rfl,hp,hK⟩:=hc;refine⟨cN,?_⟩;dsimp only at hp hK⊢
 try dsimp only at hp
 cbv;refine cK hcp (⟨rc,rL⟩:Rg) [3,4] hp rfl rfl (by decide) rfl rfl rfl rfl rfl ?_;intro L hL;cbv
 (refine .q9 ?_;cbv;exact .inl (.f9 (hK L hL)))
def xO:dN:=spec (fun q:bG×gW=>[.str q.1,HM q.2]) (fun _=>[]) (fun q=>lL q.2) (fun _=>.ptr 0 0) fun q=>xC (LP q.2.su q.1)
theorem Ix {l:List bG}{k:Nat}{x:bG}(h:l[k]?=some x):vE (l.take (k+1))=Mf (vE (l.take k)) x:=by
 unfold vE;rw[dX h,List.foldl_append];rfl
theorem IL {name:bG}{l:List De}{k:Nat}{x:De}(h:l[k]?=some x):uS name (l.take (k+1))=EQ name (uS name (l.take k)) x:=by
 unfold uS;rw[dX h,List.foldl_append];rfl
theorem J7 {α β:Type}{f:α→β}{L:List α}{i:Nat}{x:α}(h:L[i]?=some x):(bI f L).set i (f x)=bI f L:=by
 obtain⟨hl,rfl⟩:=aA.1 h;rw[dZ];refine List.ext_getElem (by simp) fun j h1 h2=>?_
 rw[List.getElem_set]
 split
 ·subst_vars;simp
 ·rfl
theorem ET (P:bH) (hrn:bJ P 50 Oy) (hcn:bJ P 51 HI):bN P Xh xO:=by
 intro args H K hc;obtain⟨⟨name,⟨parties,deals,funds,rest,holidays⟩⟩,rfl,rfl,hp,hK⟩:=hc;refine⟨cN,?_⟩;dsimp only at hp hK⊢;obtain⟨hpa,hde,hpn,hok⟩:=hp;dsimp only at hpa hde hpn hok;obtain⟨np,hnp⟩:∃n:Nat,n=parties.length:=⟨_,rfl⟩
 obtain⟨nd,hnd⟩:∃n:Nat,n=deals.length:=⟨_,rfl⟩
 cbv
 (refine xK hrn name trivial ?_;try dsimp only)
 cbv
 (refine xK hcn () trivial ?_;try dsimp only)
 cbv;repeat'((first|refine .k fun z hz=>?_|fail)<;>cbv)
 obtain⟨nms,hnms⟩:∃l,l=parties.map Fc.name:=⟨_,rfl⟩
 obtain⟨ds,hds⟩:∃l,l=deals.map iW.de:=⟨_,rfl⟩
 have hdsl:ds.length=deals.length:=by rw[hds,aJ]
 replace hK:K (.ptr 0 0) (xC ⟨name,vE nms,uS name ds,⟨name,[]⟩,[],[]⟩):=by rw[hnms,hds];exact hK
 have hnl:nms.length=parties.length:=by rw[hnms,aJ]
 refine bV [] (fun p:{ k:Nat // k≤parties.length }=>[(26,.i (nI p.1))]) (fun p=>[.blk 29 [.sl 3 (bI jQ parties),.sl 17 (bI iJ deals),.sl 3 (bI jT funds),.sl 1 (bI cY rest),.sl 1 (bI cY holidays)],.map 70 (bI iH (vE (nms.take p.1))),.pool 116 [] [],.blk 122 [.str name,.ph 4],.pool 120 [] [],.blk 174 [.ph 6],.pool 172 [] [],.blk 118 [.str name,.hd 1,.ph 2,.ptr 3 0,.ptr 5 0,.v (.slice none 0 0)]]) (fun p=>fK np p.1) ⟨0,aI _⟩ ?_;rintro ⟨k,hk⟩;dsimp only at hk⊢;obtain⟨L1,hL1⟩:∃l,l=vE (nms.take k):=⟨_,rfl⟩
 rw[←hL1];rcases aL k parties.length with hks|hks
 ·obtain⟨p,hx⟩:=cM hks;have hx2:nms[k]?=some p.name:=by rw[hnms,aD,hx];rfl
  have hsn:=Ix hx2;rw[←hL1]at hsn;obtain⟨L2,hL2⟩:∃l,l=vE (nms.take (k+1)):=⟨_,rfl⟩
  obtain⟨pname,pq,pr⟩:=p;dsimp only at hsn;cbv;repeat'((first|refine .e ?_|refine .y fun h=>?_|fail)<;>cbv)
  refine nP (fun j hj=>?_) fun hno=>?_
  ·have e:L2=L1:=by rw[hL2,hsn];exact aF (BS hj)
   obtain⟨y,hy,hyp⟩:=dY hj;obtain rfl:y=pname:=hyp;rw[←hL2,e]at hsn;clear hj;cbv;repeat'((first|refine .k fun z hz=>?_|refine .ms fun ms hms=>?_|fail)<;>cbv)
   obtain rfl:z=nI (k+1):=bS;obtain rfl:ms=bI iH (vE (nms.take (k+1))):=by rw[←hL2,e];exact hms.trans (J7 (f:=iH) hy)
   exact bL ⟨k+1,hks⟩ (bM (by omega))
  ·have e:L2=L1++[pname]:=by rw[hL2,hsn];exact aE (by rw[tW hno];decide)
   clear hsn;cbv;repeat'((first|refine .k fun z hz=>?_|refine .ms fun ms hms=>?_|fail)<;>cbv)
   obtain rfl:z=nI (k+1):=bS;obtain rfl:ms=bI iH (vE (nms.take (k+1))):=by rw[←hL2,e,cB,cE];exact hms
   exact bL ⟨k+1,hks⟩ (bM (by omega))
 obtain rfl:k=np:=by omega
 have eT:L1=vE nms:=by rw[hL1,bC (by omega)]
 clear hL1;obtain⟨T,hT⟩:∃t,t=vE nms:=⟨_,rfl⟩
 rw[←hT]at eT;subst eT;cbv;repeat'((first|refine .n fun h=>?_|refine .k fun z hz=>?_|fail)<;>cbv)
 refine bV [] (fun p:{ k:Nat // k≤deals.length }=>[(40,.i (nI p.1))]) (fun p=>[.blk 29 [.sl 3 (bI jQ parties),.sl 17 (bI iJ deals),.sl 3 (bI jT funds),.sl 1 (bI cY rest),.sl 1 (bI cY holidays)],.map 70 (bI iH L1),.pool 116 (bI gZ (uS name (ds.take p.1))) [],.blk 122 [.str name,.ph 4],.pool 120 [] [],.blk 174 [.ph 6],.pool 172 [] [],.blk 118 [.str name,.hd 1,.ph 2,.ptr 3 0,.ptr 5 0,.v (.slice none 0 0)]]) (fun p=>fK nd p.1) ⟨0,aI _⟩ ?_;rintro ⟨j,hj⟩;dsimp only at hj⊢;obtain⟨D1,hD1⟩:∃l,l=uS name (ds.take j):=⟨_,rfl⟩
 rw[←hD1];rcases aL j deals.length with hjs|hjs
 rotate_left
 ·obtain rfl:D1=uS name ds:=by rw[hD1,bC (by omega)]
  obtain⟨D1,hD1⟩:∃d,d=uS name ds:=⟨_,rfl⟩
  rw[←hT,←hD1]at hK;rw[←hD1];cbv;repeat'((first|refine .n fun h=>?_|fail)<;>cbv)
  refine cV (Gh.adoptC 7 5 77 5 rfl rfl) ?_;cbv;refine cV (Gh.publish 8 rfl) ?_;cbv
  (refine .q9 ?_;cbv;exact .inl (eU.sel [7,1,2,3,4,5,6,8] _ _ (by rfl) (by rfl) (by decide) (by rfl) cN (by rfl) (by rfl) (Le.refl _) (jS.refl _) hK))
 obtain⟨d,hx⟩:=cM hjs;have hokd:=hok d (aC hx);have hx2:ds[j]?=some d.de:=by rw[hds,aD,hx];rfl
 have hsn:=IL (name:=name) hx2;rw[←hD1]at hsn;have hbl:=hokd.bx;obtain⟨mk,hmk⟩:∃m,m=d.marks:=⟨_,rfl⟩
 have hF:EQ name D1 d.de=if (iF Dp.number D1 d.number).isSome=true∨d.carrier≠name then D1 else D1++[⟨d.number,d.seller,d.buyer,d.house,d.frm,d.to,mk,0,decide (d.house=eS)⟩]:=by rw[hmk];rfl
 rw[hF]at hsn;clear hF;obtain⟨dn,dsel,dbuy,dcar,diss,dhou,dins,dfrm,dto,dcur,damt,dbx,dterm,dlat,dexp,dten,dduty⟩:=d;dsimp only at hsn hbl;cbv;repeat'((first|refine .e ?_|refine .y fun h=>?_|fail)<;>cbv)
 all_goals
  refine fR Dp.number (fun _=>rfl) (fun i y hai hy hky=>?_) (fun hai=>?_)<;>try dsimp only at *
  ·rw[aF (.inl (by rw[XN hai hy];rfl))]at hsn;obtain⟨number,seller,buyer,house,dfrm2,dto2,dboxes,state,rel⟩:=y;rw[←hsn]at hy⊢;cbv;repeat'((first|refine .k fun z hz=>?_|fail)<;>cbv)
   refine dV (Gh.back0 2 [9] gZ rfl hy) ?_;cbv;obtain rfl:z=nI (j+1):=bS;exact bL ⟨j+1,hjs⟩ (bM (by omega))
  ·have hno:(iF Dp.number D1 dn).isSome=false:=by rw[uE hai];rfl
   have hmk2:mk=dbx.map Dx.mark:=by rw[hmk];rfl
   have hmkl:mk.length=dbx.length:=by rw[hmk2,aJ]
   obtain⟨nb,hnb⟩:∃n:Nat,n=dbx.length:=⟨_,rfl⟩
   clear hmk hokd hx hx2;cbv;repeat'((first|refine .mk (fun h=>?_) fun h=>?_|refine .k fun z hz=>?_|fail)<;>cbv)
   ·have hb:decide (dhou=eS)=true:=aH (by assumption);rw[aE (fun h=>h.elim (fun h=>by rw[hno]at h;cases h) fun h=>h (by assumption)),hb]at hsn;clear hb;refine iI (Gh.adoptC 9 6 9 1 rfl rfl) ?_;cbv;refine bV [10] (fun p:{ k:Nat // k≤dbx.length }=>[(81,.i (nI p.1))]) (fun p=>[.blk 29 [.sl 3 (bI jQ parties),.sl 17 (bI iJ deals),.sl 3 (bI jT funds),.sl 1 (bI cY rest),.sl 1 (bI cY holidays)],.map 70 (bI iH L1),.pool 116 (bI gZ D1) [],.blk 122 [.str name,.ph 4],.pool 120 [] [],.blk 174 [.ph 6],.pool 172 [] [],.blk 118 [.str name,.hd 1,.ph 2,.ptr 3 0,.ptr 5 0,.v (.slice none 0 0)],.blk 67 [.str dn,.str dsel,.str dbuy,.str dcar,.str diss,.str dhou,.str dins,.str dfrm,.str dto,.str dcur,.i damt,.sl 3 (bI EW dbx),.i dterm,.i dlat,.i dexp,.i dten,.i dduty],.blk 136 [.str dn,.str dsel,.str dbuy,.str dhou,.str dfrm,.str dto,.hd 10,.i 0,.bl true],.row 9 1 (bI .str (mk.take p.1))]) (fun p=>fK nb p.1) ⟨0,aI _⟩ ?_;rintro ⟨m,hm⟩;dsimp only at hm⊢;obtain⟨M1,hM1⟩:∃l,l=mk.take m:=⟨_,rfl⟩
    have hM1l:M1.length≤70:=by rw[hM1,aS];omega
    rw[←hM1];rcases aL m dbx.length with hms|hms
    ·obtain⟨bx,hxb⟩:=cM hms;have hs3:mk.take (m+1)=M1++[bx.mark]:=by rw[hM1,dX (l:=bx.mark) (by rw[hmk2,aD,hxb];rfl)]
     clear hM1;obtain⟨bmk,bq,br⟩:=bx;dsimp only at hs3;cbv;repeat'((first|refine .e ?_|refine .y fun h=>?_|refine .k fun z hz=>?_|refine .zl fun zs hzs hzl=>?_|fail)<;>cbv)
     all_goals
      obtain rfl:z=nI (m+1):=bS;obtain rfl:zs=bI .str (mk.take (m+1)):=by(rw[hs3,cB,cE];exact hzs)
      exact bL ⟨m+1,hms⟩ (bM (by omega))
    ·obtain rfl:M1=mk:=by rw[hM1,bC (by omega)]
     clear hM1;cbv;repeat'((first|refine .n fun h=>?_|fail)<;>cbv)
     all_goals
      refine lE Dp.number (fun _=>rfl) hai (fun es n2 hes hn2=>?_);cbv;repeat'((first|refine .k fun z hz=>?_|fail)<;>cbv)
      refine dV (Gh.plain 10 rfl) ?_;cbv;refine dV (Gh.backN2 2 [9] gZ ⟨dn,dsel,dbuy,dhou,dfrm,dto,M1,0,true⟩ hes hn2 hsn) ?_;cbv;obtain rfl:z=nI (j+1):=bS;exact bL ⟨j+1,hjs⟩ (bM (by omega))
   ·have hb:decide (dhou=eS)=false:=aG (by assumption);rw[aE (fun h=>h.elim (fun h=>by rw[hno]at h;cases h) fun h=>h (by assumption)),hb]at hsn;clear hb;refine iI (Gh.adoptC 9 6 9 1 rfl rfl) ?_;cbv;refine bV [10] (fun p:{ k:Nat // k≤dbx.length }=>[(81,.i (nI p.1))]) (fun p=>[.blk 29 [.sl 3 (bI jQ parties),.sl 17 (bI iJ deals),.sl 3 (bI jT funds),.sl 1 (bI cY rest),.sl 1 (bI cY holidays)],.map 70 (bI iH L1),.pool 116 (bI gZ D1) [],.blk 122 [.str name,.ph 4],.pool 120 [] [],.blk 174 [.ph 6],.pool 172 [] [],.blk 118 [.str name,.hd 1,.ph 2,.ptr 3 0,.ptr 5 0,.v (.slice none 0 0)],.blk 67 [.str dn,.str dsel,.str dbuy,.str dcar,.str diss,.str dhou,.str dins,.str dfrm,.str dto,.str dcur,.i damt,.sl 3 (bI EW dbx),.i dterm,.i dlat,.i dexp,.i dten,.i dduty],.blk 136 [.str dn,.str dsel,.str dbuy,.str dhou,.str dfrm,.str dto,.hd 10,.i 0,.bl false],.row 9 1 (bI .str (mk.take p.1))]) (fun p=>fK nb p.1) ⟨0,aI _⟩ ?_;rintro ⟨m,hm⟩;dsimp only at hm⊢;obtain⟨M1,hM1⟩:∃l,l=mk.take m:=⟨_,rfl⟩
    have hM1l:M1.length≤70:=by rw[hM1,aS];omega
    rw[←hM1];rcases aL m dbx.length with hms|hms
    ·obtain⟨bx,hxb⟩:=cM hms;have hs3:mk.take (m+1)=M1++[bx.mark]:=by rw[hM1,dX (l:=bx.mark) (by rw[hmk2,aD,hxb];rfl)]
     clear hM1;obtain⟨bmk,bq,br⟩:=bx;dsimp only at hs3;cbv;repeat'((first|refine .e ?_|refine .y fun h=>?_|refine .k fun z hz=>?_|refine .zl fun zs hzs hzl=>?_|fail)<;>cbv)
     all_goals
      obtain rfl:z=nI (m+1):=bS;obtain rfl:zs=bI .str (mk.take (m+1)):=by(rw[hs3,cB,cE];exact hzs)
      exact bL ⟨m+1,hms⟩ (bM (by omega))
    ·obtain rfl:M1=mk:=by rw[hM1,bC (by omega)]
     clear hM1;cbv;repeat'((first|refine .n fun h=>?_|fail)<;>cbv)
     all_goals
      refine lE Dp.number (fun _=>rfl) hai (fun es n2 hes hn2=>?_);cbv;repeat'((first|refine .k fun z hz=>?_|fail)<;>cbv)
      refine dV (Gh.plain 10 rfl) ?_;cbv;refine dV (Gh.backN2 2 [9] gZ ⟨dn,dsel,dbuy,dhou,dfrm,dto,M1,0,false⟩ hes hn2 hsn) ?_;cbv;obtain rfl:z=nI (j+1):=bS;exact bL ⟨j+1,hjs⟩ (bM (by omega))
   ·rw[aF (.inr (by assumption))]at hsn;obtain rfl:z=nI (j+1):=bS;rw[←hsn];exact bL ⟨j+1,hjs⟩ (bM (by omega))
def sC:dN:=spec (fun q:dK×Int=>[dP q.1,.i q.2]) (fun _=>[]) (fun q=>lU q.1.kind) (fun q=>.sl 14 (bI dP (cC q.1.deal q.2 (eL fB q.1)))) fun _=>[]
theorem qU {xs:List AV}{x:Int}{K:Nat→AV→Prop}(m:Nat) {u:AV}(hx:x=m) (hu:xs[m]?=some u) (k:K m u):bP xs x K:=⟨m,u,hx,hu,k⟩
theorem GG (P:bH) (hn:bJ P 33 Da):bN P UD sC:=by
 intro args H K hc;obtain⟨⟨⟨frm,to,number,kind,ack,deal,text,party,index,day0,cur,amt,docs,boxes⟩,day⟩,rfl,rfl,hp,hK⟩:=hc;refine⟨cN,?_⟩;dsimp only at hp hK⊢
 try dsimp only at hp
 replace hK:K (.sl 14 (bI dP [⟨eS,frm,0,22,0,deal,fB kind,party,index,day,eS,0,[],[]⟩])) []:=hK;rcases hp with rfl|rfl|rfl|rfl
 all_goals
  cbv
  (refine XG hn () trivial ?_;try dsimp only)
  cbv
  first
  |(refine qU 8 rfl rfl ?_
    cbv;refine cV (Gh.leAt 1 (.row 58 14 (bI dP [⟨eS,frm,0,22,0,deal,fB 8,party,index,day,eS,0,[],[]⟩])) rfl (sA Aw)) ?_;cbv
    (refine .r9 (Gh.plain 1 rfl) ?_;cbv;exact .inl (.g9 hK)))
  |(refine qU 20 rfl rfl ?_
    cbv;refine cV (Gh.leAt 1 (.row 58 14 (bI dP [⟨eS,frm,0,22,0,deal,fB 20,party,index,day,eS,0,[],[]⟩])) rfl (sA Aw)) ?_;cbv
    (refine .r9 (Gh.plain 1 rfl) ?_;cbv;exact .inl (.g9 hK)))
  |(refine qU 23 rfl rfl ?_
    cbv;refine cV (Gh.leAt 1 (.row 58 14 (bI dP [⟨eS,frm,0,22,0,deal,fB 23,party,index,day,eS,0,[],[]⟩])) rfl (sA Aw)) ?_;cbv
    (refine .r9 (Gh.plain 1 rfl) ?_;cbv;exact .inl (.g9 hK)))
  |(refine qU 24 rfl rfl ?_
    cbv;refine cV (Gh.leAt 1 (.row 58 14 (bI dP [⟨eS,frm,0,22,0,deal,fB 24,party,index,day,eS,0,[],[]⟩])) rfl (sA Aw)) ?_;cbv
    (refine .r9 (Gh.plain 1 rfl) ?_;cbv;exact .inl (.g9 hK)))
structure Of where
 s:gW
 name:bG
 x:Cs
 l:dK
 day:Int
structure RZ (s:gW) (x:Cs):Prop where
 S:x.S.length=s.deals.length
 F:x.free.length=s.deals.length
 H:x.H.length≤40000
 D:x.D.length≤40000
 few:x.reg.bills.length≤256
 all:∀b∈x.reg.bills,inB b
structure Pp (q:Of):Prop where
 s:lL q.s
 x:RZ q.s q.x
 sz:q.name.size≤60∧q.l.frm.size≤300∧q.l.deal.size≤300∧q.l.party.size≤300
def WG:Cs×List dK→AV
 |(x,l)=>.tup [D8 x,.sl 14 (bI dP l)]
def Mj (κ:Int→Prop):dN:=spec (fun q:Of=>[HM q.s,.str q.name,D8 q.x,dP q.l,.i q.day]) (fun _=>[]) (fun q=>κ q.l.kind∧Pp q) (fun q=>WG (eA fB q.s.su q.name q.x q.l q.day)) fun _=>[]
theorem iX {nm:Int→bG}{s:Su}{name:bG}{x:Cs}{l:dK}{day:Int}(h:cX s name l.deal=none):eA nm s name x l day=(x,[]):=by unfold eA;rw[h]
theorem kA {nm:Int→bG}{s:Su}{name:bG}{x:Cs}{l:dK}{day:Int}(h:iS s.parties l.frm=false):eA nm s name x l day=(x,[]):=by
 unfold eA;cases cX s name l.deal with
 |none=>rfl
 |some i=>dsimp only;rw[aF h]
def mN (nm:Int→bG) (s:Su) (name:bG) (x:Cs) (l:dK) (day:Int) (i:Nat) (d:De) (st:Int) (fr:Bool):Cs×List dK:=
   if l.kind=4 then (if l.frm=d.seller∧st=0 then (match iG name d day x.H d.boxes with
    |none=>x
    |some H=>iQ { x with H:=H } i 1) else x,[])
   else if l.kind=19 then (if d.house≠eS∧l.frm=d.house then { x with free:=x.free.set i true } else x,[])
   else if l.kind=8∨l.kind=20∨l.kind=23∨l.kind=24 then
    let k:Int:=if l.kind=8 then 1 else if l.kind=20 then 2 else if l.kind=23 then 3 else 4
    let a:=dM k d l day
    if (iN x.reg a).2≠0∨(k=1∧(iS s.parties l.party=false∨l.party=l.frm)) then (x,cC l.deal day (eL nm l))
    else if k=2 then match eP (cF name l.frm d.to day) x.H d.boxes with
     |none=>(x,cC l.deal day (eL nm l))
     |some H=>if st≠3∨fr=false then (x,cC l.deal day (eL nm l)) else
      (iQ { x with D:=x.D++H.drop x.H.length,H:=H,reg:=(iN x.reg a).1 } i 4,cC l.deal day [{ lX with to:=l.frm,kind:=21,boxes:=d.boxes }])
    else ({ x with reg:=(iN x.reg a).1 },cC l.deal day (if k=1 then [{ lX with to:=l.party,kind:=9,index:=l.index,party:=l.party }] else if k=4 then [{ lX with to:=l.frm,kind:=25,index:=l.index }] else []))
   else (x,[])
theorem lO {nm:Int→bG}{s:Su}{name:bG}{x:Cs}{l:dK}{day:Int}{i:Nat}{d:De}{st:Int}{fr:Bool}(h:cX s name l.deal=some i) (hp:iS s.parties l.frm=true) (h1:s.deals[i]?=some d) (h2:x.S[i]?=some st) (h3:x.free[i]?=some fr) :
  eA nm s name x l day=mN nm s name x l day i d st fr:=by
 unfold eA mN;rw[h];dsimp only;rw[aE (by rw[hp];decide),h1,h2,h3];rfl
theorem oF {l:List iW}{P:List bG}{name n:bG}{i:Nat}(h:cX ⟨P,l.map iW.de⟩ name n=some i):∃d,l[i]?=some d∧d.carrier=name∧d.number=n:=by
 obtain⟨e,he,h1,h2⟩:=jX h;have he:(l.map iW.de)[i]?=some e:=he;rw[aD]at he;cases hl:l[i]? with
 |none=>rw[hl]at he;cases he
 |some d=>rw[hl]at he;cases he;exact⟨d,rfl,h1,h2⟩
theorem uV (P:bH) (hde:bJ P 13 mJ) (hpa:bJ P 17 lK) (hsh:bJ P 99 xZ):bN P Pn (Mj (fun z=>z=4)):=by
 intro args H0 K hc;obtain⟨⟨s,name,x,l,day⟩,rfl,rfl,⟨hkind,hs,hx,hnz,hfz,hdz,hpz⟩,hK⟩:=hc;refine⟨cN,?_⟩;dsimp only at hkind hs hx hnz hfz hdz hpz hK⊢;obtain⟨r,hr⟩:∃r,r=eA fB s.su name x l day:=⟨_,rfl⟩
 rw[←hr]at hK;have hdl:=hs.de;have hpl:=hs.pa;obtain⟨o,ho⟩:∃o,o=cX s.su name l.deal:=⟨_,rfl⟩
 obtain⟨b,hb⟩:∃b,b=iS s.su.parties l.frm:=⟨_,rfl⟩
 have hat:∀i,o=some i→∃d st fr,s.deals[i]?=some d∧x.S[i]?=some st∧x.free[i]?=some fr∧Fd d∧d.number=l.deal:=fun i hi=>by
  rw[ho]at hi;obtain⟨d,h1,h2,h3⟩:=oF hi;have hil:=(aA.1 h1).1;exact⟨d,_,_,h1,aB (by rw[hx.S];exact hil),aB (by rw[hx.F];exact hil),hs.ok d (aC h1),h3⟩
 have hrn:o=none→r=(x,[]):=fun h=>by rw[hr];exact iX (ho.symm.trans h)
 have hro:b=false→r=(x,[]):=fun h=>by rw[hr];exact kA (hb.symm.trans h)
 have hra:∀i d st fr,o=some i→b=true→s.deals[i]?=some d→x.S[i]?=some st→x.free[i]?=some fr→r=mN fB s.su name x l day i d.de st fr:=fun i d st fr h1 h2 h3 h4 h5=>by
  rw[hr];exact lO (ho.symm.trans h1) (hb.symm.trans h2) (by show (s.deals.map iW.de)[i]?=_;rw[aD,h3];rfl) h4 h5
 clear hr;obtain⟨parties,deals,funds,rest,holidays⟩:=s;obtain⟨S,free,⟨c,L⟩,H,D⟩:=x;obtain⟨frm,to,number,kind,ack,deal,text,party,index,day0,cur,amt,docs,boxes⟩:=l;dsimp only at hkind hfz hdz hpz hdl hpl ho hb hat hra;subst hkind;cbv
 (refine XG hde ((⟨parties,deals,funds,rest,holidays⟩,name,deal):gW×bG×bG) hdl ?_;try dsimp only)
 rw[←ho];cases o with
 |none=>
  have hr:=hrn rfl;subst hr;cbv;repeat'((first|refine .y fun h=>?_|fail)<;>cbv)
  (refine .q9 ?_;cbv;exact .inl (.g9 hK))
 |some i=>
  obtain⟨d,st,fr,hd,hst,hfr,hokd,hnum⟩:=hat i rfl;cbv;repeat'((first|refine .n fun h=>?_|fail)<;>cbv)
  (refine XG hpa ((⟨parties,deals,funds,rest,holidays⟩,frm):gW×bG) hpl ?_;try dsimp only)
  rw[←hb];cases b with
  |false=>
   have hr:=hro rfl;subst hr;cbv
   (refine .q9 ?_;cbv;exact .inl (.g9 hK))
  |true=>
   have hr:=hra i d st fr rfl rfl hd hst hfr;clear hra hro hrn hat
   unfold mN at hr;dsimp only at hr;rw[aF rfl]at hr;have hml:=fV hokd;have hbl:=hokd.bx;have hsz:=hokd.sz;have hshe:∀nm,(zF ⟨⟨S,free,⟨c,L⟩,H,D⟩,d,i,nm,day⟩)=(match iG nm d.de day H d.de.boxes with
    |none=>(⟨S,free,⟨c,L⟩,H,D⟩:Cs)
    |some H2=>iQ ⟨S,free,⟨c,L⟩,H2,D⟩ i 1):=fun nm=>rfl
   have hshp:Pr ⟨⟨S,free,⟨c,L⟩,H,D⟩,d,i,name,day⟩:=⟨by have:=hx.H;dsimp only at this⊢;omega,hokd,⟨by dsimp only;have:=hx.S;dsimp only at this;omega,(aA.1 hst).1⟩,by dsimp only;omega⟩
   rw[←hshe]at hr;have hrs:∀q:Prop,[Decidable q]→q→(if q then (zF ⟨⟨S,free,⟨c,L⟩,H,D⟩,d,i,name,day⟩:Cs) else ⟨S,free,⟨c,L⟩,H,D⟩)=zF ⟨⟨S,free,⟨c,L⟩,H,D⟩,d,i,name,day⟩:=fun q _ h=>aF h
   obtain⟨x9,hx9⟩:∃x9,x9=zF ⟨⟨S,free,⟨c,L⟩,H,D⟩,d,i,name,day⟩:=⟨_,rfl⟩
   rw[←hx9]at hr;clear hshe hrs;obtain⟨dn,dsel,dbuy,dcar,diss,dhou,dins,dfrm,dto,dcur,damt,dbx,dterm,dlat,dexp,dten,dduty⟩:=d;dsimp only at hnum hbl hsz;subst hnum;have z3:(ByteArray.mk (Array.mk [98,108,45])).size=3:=rfl;cbv;repeat'((first|refine .e ?_|refine .y fun h=>?_|refine .mk (fun h=>?_) fun h=>?_|refine .u fun u hu hul=>?_|fail)<;>cbv)
   ·rw[aF ⟨by assumption,by assumption⟩]at hr
    (refine XG hsh (⟨⟨S,free,⟨c,L⟩,H,D⟩,(⟨dn,dsel,dbuy,dcar,diss,dhou,dins,dfrm,dto,dcur,damt,dbx,dterm,dlat,dexp,dten,dduty⟩:iW),i,name,day⟩:Oe) hshp ?_;try dsimp only)
    rw[←hx9];obtain⟨S9,free9,⟨c9,L9⟩,H9,D9⟩:=x9;subst hr;cbv
    (refine .q9 ?_;cbv;exact .inl (.g9 hK))
   all_goals
    rw[aE (fun h=>by first|exact absurd h.1 (by assumption)|exact absurd h.2 (by assumption))]at hr;subst hr
    (refine .q9 ?_;cbv;exact .inl (.g9 hK))
theorem xG (P:bH) (hde:bJ P 13 mJ) (hpa:bJ P 17 lK):bN P Pn (Mj (fun z=>z=19)):=by
 intro args H0 K hc;obtain⟨⟨s,name,x,l,day⟩,rfl,rfl,⟨hkind,hs,hx,hnz,hfz,hdz,hpz⟩,hK⟩:=hc;refine⟨cN,?_⟩;dsimp only at hkind hs hx hnz hfz hdz hpz hK⊢;obtain⟨r,hr⟩:∃r,r=eA fB s.su name x l day:=⟨_,rfl⟩
 rw[←hr]at hK;have hdl:=hs.de;have hpl:=hs.pa;obtain⟨o,ho⟩:∃o,o=cX s.su name l.deal:=⟨_,rfl⟩
 obtain⟨b,hb⟩:∃b,b=iS s.su.parties l.frm:=⟨_,rfl⟩
 have hat:∀i,o=some i→∃d st fr,s.deals[i]?=some d∧x.S[i]?=some st∧x.free[i]?=some fr∧Fd d∧d.number=l.deal:=fun i hi=>by
  rw[ho]at hi;obtain⟨d,h1,h2,h3⟩:=oF hi;have hil:=(aA.1 h1).1;exact⟨d,_,_,h1,aB (by rw[hx.S];exact hil),aB (by rw[hx.F];exact hil),hs.ok d (aC h1),h3⟩
 have hrn:o=none→r=(x,[]):=fun h=>by rw[hr];exact iX (ho.symm.trans h)
 have hro:b=false→r=(x,[]):=fun h=>by rw[hr];exact kA (hb.symm.trans h)
 have hra:∀i d st fr,o=some i→b=true→s.deals[i]?=some d→x.S[i]?=some st→x.free[i]?=some fr→r=mN fB s.su name x l day i d.de st fr:=fun i d st fr h1 h2 h3 h4 h5=>by
  rw[hr];exact lO (ho.symm.trans h1) (hb.symm.trans h2) (by show (s.deals.map iW.de)[i]?=_;rw[aD,h3];rfl) h4 h5
 clear hr;obtain⟨parties,deals,funds,rest,holidays⟩:=s;obtain⟨S,free,⟨c,L⟩,H,D⟩:=x;obtain⟨frm,to,number,kind,ack,deal,text,party,index,day0,cur,amt,docs,boxes⟩:=l;dsimp only at hkind hfz hdz hpz hdl hpl ho hb hat hra;subst hkind;cbv
 (refine XG hde ((⟨parties,deals,funds,rest,holidays⟩,name,deal):gW×bG×bG) hdl ?_;try dsimp only)
 rw[←ho];cases o with
 |none=>
  have hr:=hrn rfl;subst hr;cbv;repeat'((first|refine .y fun h=>?_|fail)<;>cbv)
  (refine .q9 ?_;cbv;exact .inl (.g9 hK))
 |some i=>
  obtain⟨d,st,fr,hd,hst,hfr,hokd,hnum⟩:=hat i rfl;cbv;repeat'((first|refine .n fun h=>?_|fail)<;>cbv)
  (refine XG hpa ((⟨parties,deals,funds,rest,holidays⟩,frm):gW×bG) hpl ?_;try dsimp only)
  rw[←hb];cases b with
  |false=>
   have hr:=hro rfl;subst hr;cbv
   (refine .q9 ?_;cbv;exact .inl (.g9 hK))
  |true=>
   have hr:=hra i d st fr rfl rfl hd hst hfr;clear hra hro hrn hat
   unfold mN at hr;dsimp only at hr;rw[aE (by decide),aF rfl]at hr;have hml:=fV hokd;have hbl:=hokd.bx;have hsz:=hokd.sz;have hfl:free.length≤8:=by have:=hx.F;dsimp only at this;omega
   obtain⟨F2,hF2⟩:∃F,F=free.set i true:=⟨_,rfl⟩
   rw[←hF2]at hr;obtain⟨dn,dsel,dbuy,dcar,diss,dhou,dins,dfrm,dto,dcur,damt,dbx,dterm,dlat,dexp,dten,dduty⟩:=d;dsimp only at hnum hbl hsz;subst hnum;have z3:(ByteArray.mk (Array.mk [98,108,45])).size=3:=rfl;cbv;repeat'((first|refine .e ?_|refine .n fun h=>?_|refine .y fun h=>?_|refine .mk (fun h=>?_) fun h=>?_|refine .o ?_|refine .u fun u hu hul=>?_|refine .z fun zs hzs=>?_|fail)<;>cbv)
   all_goals first
   |(rw[aE (fun h=>by first|exact absurd h.2 (by assumption)|exact h.1 (by assumption))]at hr
     subst hr
     (refine .q9 ?_;cbv;exact .inl (.g9 hK)))
   |(rw[aF ⟨fun h=>absurd h (by assumption),by assumption⟩]at hr
     subst hr;obtain rfl:zs=bI mR F2:=by rw[hF2,dZ mR (free.set i true),List.map_set,←dZ];assumption
     refine cV (Gh.plain 6 rfl) ?_;cbv
     (refine .q9 ?_;cbv;exact .inl (.g9 hK)))
def Ft (nm:Int→bG) (s:Su) (name:bG) (x:Cs) (l:dK) (day:Int) (i:Nat) (d:De) (st:Int) (fr:Bool) (k:Int):Cs×List dK:=
 if (iN x.reg (dM k d l day)).2≠0∨(k=1∧(iS s.parties l.party=false∨l.party=l.frm)) then (x,cC l.deal day (eL nm l))
 else if k=2 then match eP (cF name l.frm d.to day) x.H d.boxes with
  |none=>(x,cC l.deal day (eL nm l))
  |some H=>if st≠3∨fr=false then (x,cC l.deal day (eL nm l)) else
   (iQ { x with D:=x.D++H.drop x.H.length,H:=H,reg:=(iN x.reg (dM k d l day)).1 } i 4,cC l.deal day [{ lX with to:=l.frm,kind:=21,boxes:=d.boxes }])
 else ({ x with reg:=(iN x.reg (dM k d l day)).1 },cC l.deal day (if k=1 then [{ lX with to:=l.party,kind:=9,index:=l.index,party:=l.party }] else if k=4 then [{ lX with to:=l.frm,kind:=25,index:=l.index }] else []))
section
variable {nm:Int→bG}{s:Su}{name:bG}{x:Cs}{l:dK}{day:Int}{i:Nat}{d:De}{st:Int}{fr:Bool}{k:Int}{R9:Rg}{e9:Int}
theorem qY (h:l.kind=8∧k=1∨l.kind=20∧k=2∨l.kind=23∧k=3∨l.kind=24∧k=4):mN nm s name x l day i d st fr=Ft nm s name x l day i d st fr k:=by
 have hk:(if l.kind=8 then (1:Int) else if l.kind=20 then 2 else if l.kind=23 then 3 else 4)=k:=by
  rcases h with ⟨h,rfl⟩|⟨h,rfl⟩|⟨h,rfl⟩|⟨h,rfl⟩<;>rw[h]<;>rfl
 unfold mN;rw[aE (by omega),aE (by omega),aF (by omega),←hk];rfl
theorem qG (hq:iN x.reg (dM k d l day)=(R9,e9)) (h:e9≠0∨(k=1∧(iS s.parties l.party=false∨l.party=l.frm))):Ft nm s name x l day i d st fr k=(x,cC l.deal day (eL nm l)):=by
 unfold Ft;rw[hq];exact aF h
theorem CA (hq:iN x.reg (dM k d l day)=(R9,e9)) (h0:e9=0) (h1:¬(k=1∧(iS s.parties l.party=false∨l.party=l.frm))) (h2:¬k=2):Ft nm s name x l day i d st fr k =
  ({ x with reg:=R9 },cC l.deal day (if k=1 then [{ lX with to:=l.party,kind:=9,index:=l.index,party:=l.party }] else if k=4 then [{ lX with to:=l.frm,kind:=25,index:=l.index }] else [])):=by
 unfold Ft;rw[hq,aE (fun h=>by rcases h with h|h;exact h h0;exact h1 h),aE h2]
theorem EE (hq:iN x.reg (dM 2 d l day)=(R9,e9)) (h0:e9=0):Ft nm s name x l day i d st fr 2=match eP (cF name l.frm d.to day) x.H d.boxes with
  |none=>(x,cC l.deal day (eL nm l))
  |some H=>if st≠3∨fr=false then (x,cC l.deal day (eL nm l)) else
   (iQ { x with D:=x.D++H.drop x.H.length,H:=H,reg:=R9 } i 4,cC l.deal day [{ lX with to:=l.frm,kind:=21,boxes:=d.boxes }]):=by
 unfold Ft;rw[hq,aE (fun h=>by rcases h with h|h;exact h h0;exact absurd h.1 (by decide)),aF rfl]
end
theorem wV (P:bH) (hde:bJ P 13 mJ) (hpa:bJ P 17 lK) (hdo:bJ P 100 FT) (hob:bJ P 101 sC):bN P Pn (Mj (fun z=>z=8)):=by
 intro args H0 K hc;obtain⟨⟨s,name,x,l,day⟩,rfl,rfl,⟨hkind,hs,hx,hnz,hfz,hdz,hpz⟩,hK⟩:=hc;refine⟨cN,?_⟩;dsimp only at hkind hs hx hnz hfz hdz hpz hK⊢;obtain⟨r,hr⟩:∃r,r=eA fB s.su name x l day:=⟨_,rfl⟩
 rw[←hr]at hK;have hdl:=hs.de;have hpl:=hs.pa;obtain⟨o,ho⟩:∃o,o=cX s.su name l.deal:=⟨_,rfl⟩
 obtain⟨b,hb⟩:∃b,b=iS s.su.parties l.frm:=⟨_,rfl⟩
 have hat:∀i,o=some i→∃d st fr,s.deals[i]?=some d∧x.S[i]?=some st∧x.free[i]?=some fr∧Fd d∧d.number=l.deal:=fun i hi=>by
  rw[ho]at hi;obtain⟨d,h1,h2,h3⟩:=oF hi;have hil:=(aA.1 h1).1;exact⟨d,_,_,h1,aB (by rw[hx.S];exact hil),aB (by rw[hx.F];exact hil),hs.ok d (aC h1),h3⟩
 have hrn:o=none→r=(x,[]):=fun h=>by rw[hr];exact iX (ho.symm.trans h)
 have hro:b=false→r=(x,[]):=fun h=>by rw[hr];exact kA (hb.symm.trans h)
 have hra:∀i d st fr,o=some i→b=true→s.deals[i]?=some d→x.S[i]?=some st→x.free[i]?=some fr→r=mN fB s.su name x l day i d.de st fr:=fun i d st fr h1 h2 h3 h4 h5=>by
  rw[hr];exact lO (ho.symm.trans h1) (hb.symm.trans h2) (by show (s.deals.map iW.de)[i]?=_;rw[aD,h3];rfl) h4 h5
 clear hr;obtain⟨parties,deals,funds,rest,holidays⟩:=s;obtain⟨S,free,⟨c,L⟩,H,D⟩:=x;obtain⟨frm,to,number,kind,ack,deal,text,party,index,day0,cur,amt,docs,boxes⟩:=l;dsimp only at hkind hfz hdz hpz hdl hpl ho hb hat hra;subst hkind;cbv
 (refine XG hde ((⟨parties,deals,funds,rest,holidays⟩,name,deal):gW×bG×bG) hdl ?_;try dsimp only)
 rw[←ho];cases o with
 |none=>
  have hr:=hrn rfl;subst hr;cbv;repeat'((first|refine .y fun h=>?_|fail)<;>cbv)
  (refine .q9 ?_;cbv;exact .inl (.g9 hK))
 |some i=>
  obtain⟨d,st,fr,hd,hst,hfr,hokd,hnum⟩:=hat i rfl;cbv;repeat'((first|refine .n fun h=>?_|fail)<;>cbv)
  (refine XG hpa ((⟨parties,deals,funds,rest,holidays⟩,frm):gW×bG) hpl ?_;try dsimp only)
  rw[←hb];cases b with
  |false=>
   have hr:=hro rfl;subst hr;cbv
   (refine .q9 ?_;cbv;exact .inl (.g9 hK))
  |true=>
   have hr:=hra i d st fr rfl rfl hd hst hfr;clear hra hro hrn hat
   have hml:=fV hokd;have hbl:=hokd.bx;have hsz:=hokd.sz;have hxf:=hx.few;have hxa:=hx.all;obtain⟨bn,hbn⟩:∃b,b=cW d.number:=⟨_,rfl⟩
   have hRP:Jh (⟨c,L⟩,⟨1,index,day,bn,frm,party,cI.noBl⟩):=⟨(show (0:Int)≤1∧(1:Int)≤5 by decide),hxf,hxa,kJ,⟨aI _,aI _,aI _,aI _,fun s hs=>(by cases hs)⟩,by(show party.size≤maxLen);unfold maxLen;omega⟩
   obtain⟨⟨⟨c9,L9⟩,e9⟩,hq9⟩:∃q,q=iN ⟨c,L⟩ ⟨1,index,day,bn,frm,party,cI.noBl⟩:=⟨_,rfl⟩
   have hqq:iN (⟨S,free,⟨c,L⟩,H,D⟩:Cs).reg (dM 1 d.de ⟨frm,to,number,8,ack,deal,text,party,index,day0,cur,amt,docs,boxes⟩ day)=(⟨c9,L9⟩,e9):=by rw[hq9,hbn];rfl
   rw[qY (k:=1) (.inl ⟨rfl,rfl⟩)]at hr;obtain⟨b2,hb2⟩:∃b,b=iS (gW.su ⟨parties,deals,funds,rest,holidays⟩).parties party:=⟨_,rfl⟩
   have hr1:(e9≠0∨((1:Int)=1∧(b2=false∨party=frm)))→r=(⟨S,free,⟨c,L⟩,H,D⟩,cC deal day (eL fB ⟨frm,to,number,8,ack,deal,text,party,index,day0,cur,amt,docs,boxes⟩)):=fun h=>by
    rw[hb2]at h;rw[hr];exact qG hqq h
   have hr2:e9=0→b2=true→¬party=frm→r=(⟨S,free,⟨c9,L9⟩,H,D⟩,[⟨eS,party,0,9,0,deal,eS,party,index,day,eS,0,[],[]⟩]):=fun h1 h2 h3=>by
    rw[hr];exact CA hqq h1 (fun h=>by rcases h.2 with h|h;(rw[←hb2,h2]at h;cases h);exact h3 h) (by decide)
   clear hr;obtain⟨dn,dsel,dbuy,dcar,diss,dhou,dins,dfrm,dto,dcur,damt,dbx,dterm,dlat,dexp,dten,dduty⟩:=d;dsimp only at hnum hbl hsz;subst hnum;have z3:(ByteArray.mk (Array.mk [98,108,45])).size=3:=rfl;cbv;repeat'((first|refine .e ?_|refine .n fun h=>?_|refine .y fun h=>?_|refine .u fun u hu hul=>?_|fail)<;>cbv)
   obtain rfl:u=bn:=by rw[hbn];assumption
   refine nN [Je ⟨c,L⟩,Nn ⟨1,index,day,u,frm,party,cI.noBl⟩] Aw ?_
   (refine XG hdo ((⟨c,L⟩,⟨1,index,day,u,frm,party,cI.noBl⟩):Rg×At) hRP ?_;try dsimp only)
   rw[←hq9];cbv;repeat'((first|refine .y fun h=>?_|refine .mk (fun h=>?_) fun h=>?_|fail)<;>cbv)
   all_goals first
   |((refine XG hob ((⟨frm,to,number,8,ack,dn,text,party,index,day0,cur,amt,docs,boxes⟩,day):dK×Int) (.inl rfl) ?_;try dsimp only)
     have hr:=hr1 (.inl (by assumption));subst hr;cbv
     (refine .q9 ?_;cbv;exact .inl (.g9 hK)))
   |((refine XG hpa ((⟨parties,deals,funds,rest,holidays⟩,party):gW×bG) hpl ?_;try dsimp only)
     rw[←hb2];cases b2 with
     |false=>
      have hr:=hr1 (.inr ⟨rfl,.inl rfl⟩);subst hr;cbv
      (refine XG hob ((⟨frm,to,number,8,ack,dn,text,party,index,day0,cur,amt,docs,boxes⟩,day):dK×Int) (.inl rfl) ?_;try dsimp only)
      cbv
      (refine .q9 ?_;cbv;exact .inl (.g9 hK))
     |true=>
      cbv;repeat'((first|refine .n fun h=>?_|refine .y fun h=>?_|refine .mk (fun h=>?_) fun h=>?_|refine And.intro ?_ ?_|fail)<;>cbv)
      all_goals first
      |((refine XG hob ((⟨frm,to,number,8,ack,dn,text,party,index,day0,cur,amt,docs,boxes⟩,day):dK×Int) (.inl rfl) ?_;try dsimp only)
        have hr:=hr1 (.inr ⟨rfl,.inr (by assumption)⟩);subst hr;cbv
        (refine .q9 ?_;cbv;exact .inl (.g9 hK)))
      |(have hr:=hr2 (by assumption) rfl (by assumption)
        subst hr;refine cV (Gh.leAt 7 (.row 58 14 (bI dP [⟨eS,party,0,9,0,dn,eS,party,index,day,eS,0,[],[]⟩])) rfl (sA Aw)) ?_;cbv;refine cV (Gh.plain 7 rfl) ?_;cbv
        (refine .q9 ?_;cbv;exact .inl (.g9 hK)))
      |fail)
theorem vP (P:bH) (hde:bJ P 13 mJ) (hpa:bJ P 17 lK) (hdo:bJ P 100 FT) (hob:bJ P 101 sC):bN P Pn (Mj (fun z=>z=23)):=by
 intro args H0 K hc;obtain⟨⟨s,name,x,l,day⟩,rfl,rfl,⟨hkind,hs,hx,hnz,hfz,hdz,hpz⟩,hK⟩:=hc;refine⟨cN,?_⟩;dsimp only at hkind hs hx hnz hfz hdz hpz hK⊢;obtain⟨r,hr⟩:∃r,r=eA fB s.su name x l day:=⟨_,rfl⟩
 rw[←hr]at hK;have hdl:=hs.de;have hpl:=hs.pa;obtain⟨o,ho⟩:∃o,o=cX s.su name l.deal:=⟨_,rfl⟩
 obtain⟨b,hb⟩:∃b,b=iS s.su.parties l.frm:=⟨_,rfl⟩
 have hat:∀i,o=some i→∃d st fr,s.deals[i]?=some d∧x.S[i]?=some st∧x.free[i]?=some fr∧Fd d∧d.number=l.deal:=fun i hi=>by
  rw[ho]at hi;obtain⟨d,h1,h2,h3⟩:=oF hi;have hil:=(aA.1 h1).1;exact⟨d,_,_,h1,aB (by rw[hx.S];exact hil),aB (by rw[hx.F];exact hil),hs.ok d (aC h1),h3⟩
 have hrn:o=none→r=(x,[]):=fun h=>by rw[hr];exact iX (ho.symm.trans h)
 have hro:b=false→r=(x,[]):=fun h=>by rw[hr];exact kA (hb.symm.trans h)
 have hra:∀i d st fr,o=some i→b=true→s.deals[i]?=some d→x.S[i]?=some st→x.free[i]?=some fr→r=mN fB s.su name x l day i d.de st fr:=fun i d st fr h1 h2 h3 h4 h5=>by
  rw[hr];exact lO (ho.symm.trans h1) (hb.symm.trans h2) (by show (s.deals.map iW.de)[i]?=_;rw[aD,h3];rfl) h4 h5
 clear hr;obtain⟨parties,deals,funds,rest,holidays⟩:=s;obtain⟨S,free,⟨c,L⟩,H,D⟩:=x;obtain⟨frm,to,number,kind,ack,deal,text,party,index,day0,cur,amt,docs,boxes⟩:=l;dsimp only at hkind hfz hdz hpz hdl hpl ho hb hat hra;subst hkind;cbv
 (refine XG hde ((⟨parties,deals,funds,rest,holidays⟩,name,deal):gW×bG×bG) hdl ?_;try dsimp only)
 rw[←ho];cases o with
 |none=>
  have hr:=hrn rfl;subst hr;cbv;repeat'((first|refine .y fun h=>?_|fail)<;>cbv)
  (refine .q9 ?_;cbv;exact .inl (.g9 hK))
 |some i=>
  obtain⟨d,st,fr,hd,hst,hfr,hokd,hnum⟩:=hat i rfl;cbv;repeat'((first|refine .n fun h=>?_|fail)<;>cbv)
  (refine XG hpa ((⟨parties,deals,funds,rest,holidays⟩,frm):gW×bG) hpl ?_;try dsimp only)
  rw[←hb];cases b with
  |false=>
   have hr:=hro rfl;subst hr;cbv
   (refine .q9 ?_;cbv;exact .inl (.g9 hK))
  |true=>
   have hr:=hra i d st fr rfl rfl hd hst hfr;clear hra hro hrn hat
   have hml:=fV hokd;have hbl:=hokd.bx;have hsz:=hokd.sz;have hxf:=hx.few;have hxa:=hx.all;obtain⟨bn,hbn⟩:∃b,b=cW d.number:=⟨_,rfl⟩
   have hRP:Jh (⟨c,L⟩,⟨3,index,day,bn,frm,party,cI.noBl⟩):=⟨(show (0:Int)≤3∧(3:Int)≤5 by decide),hxf,hxa,kJ,⟨aI _,aI _,aI _,aI _,fun s hs=>(by cases hs)⟩,by(show party.size≤maxLen);unfold maxLen;omega⟩
   obtain⟨⟨⟨c9,L9⟩,e9⟩,hq9⟩:∃q,q=iN ⟨c,L⟩ ⟨3,index,day,bn,frm,party,cI.noBl⟩:=⟨_,rfl⟩
   have hqq:iN (⟨S,free,⟨c,L⟩,H,D⟩:Cs).reg (dM 3 d.de ⟨frm,to,number,23,ack,deal,text,party,index,day0,cur,amt,docs,boxes⟩ day)=(⟨c9,L9⟩,e9):=by rw[hq9,hbn];rfl
   rw[qY (k:=3) (.inr (.inr (.inl ⟨rfl,rfl⟩)))]at hr;have hr1:e9≠0→r=(⟨S,free,⟨c,L⟩,H,D⟩,cC deal day (eL fB ⟨frm,to,number,23,ack,deal,text,party,index,day0,cur,amt,docs,boxes⟩)):=fun h=>by
    rw[hr];exact qG hqq (.inl h)
   have hr2:e9=0→r=(⟨S,free,⟨c9,L9⟩,H,D⟩,[]):=fun h1=>by
    rw[hr];exact CA hqq h1 (fun h=>absurd h.1 (by decide)) (by decide)
   clear hr;obtain⟨dn,dsel,dbuy,dcar,diss,dhou,dins,dfrm,dto,dcur,damt,dbx,dterm,dlat,dexp,dten,dduty⟩:=d;dsimp only at hnum hbl hsz;subst hnum;have z3:(ByteArray.mk (Array.mk [98,108,45])).size=3:=rfl;cbv;repeat'((first|refine .e ?_|refine .n fun h=>?_|refine .y fun h=>?_|refine .u fun u hu hul=>?_|fail)<;>cbv)
   obtain rfl:u=bn:=by rw[hbn];assumption
   refine nN [Je ⟨c,L⟩,Nn ⟨3,index,day,u,frm,party,cI.noBl⟩] Aw ?_
   (refine XG hdo ((⟨c,L⟩,⟨3,index,day,u,frm,party,cI.noBl⟩):Rg×At) hRP ?_;try dsimp only)
   rw[←hq9];cbv;repeat'((first|refine .n fun h=>?_|refine .mk (fun h=>?_) fun h=>?_|fail)<;>cbv)
   all_goals first
   |((refine XG hob ((⟨frm,to,number,23,ack,dn,text,party,index,day0,cur,amt,docs,boxes⟩,day):dK×Int) (.inr (.inr (.inl rfl))) ?_;try dsimp only)
     have hr:=hr1 (by assumption);subst hr;cbv
     (refine .q9 ?_;cbv;exact .inl (.g9 hK)))
   |(have hr:=hr2 (by assumption)
     subst hr
     (refine .q9 ?_;cbv;exact .inl (.g9 hK)))
   |fail
theorem uZ (P:bH) (hde:bJ P 13 mJ) (hpa:bJ P 17 lK) (hdo:bJ P 100 FT) (hob:bJ P 101 sC):bN P Pn (Mj (fun z=>z=24)):=by
 intro args H0 K hc;obtain⟨⟨s,name,x,l,day⟩,rfl,rfl,⟨hkind,hs,hx,hnz,hfz,hdz,hpz⟩,hK⟩:=hc;refine⟨cN,?_⟩;dsimp only at hkind hs hx hnz hfz hdz hpz hK⊢;obtain⟨r,hr⟩:∃r,r=eA fB s.su name x l day:=⟨_,rfl⟩
 rw[←hr]at hK;have hdl:=hs.de;have hpl:=hs.pa;obtain⟨o,ho⟩:∃o,o=cX s.su name l.deal:=⟨_,rfl⟩
 obtain⟨b,hb⟩:∃b,b=iS s.su.parties l.frm:=⟨_,rfl⟩
 have hat:∀i,o=some i→∃d st fr,s.deals[i]?=some d∧x.S[i]?=some st∧x.free[i]?=some fr∧Fd d∧d.number=l.deal:=fun i hi=>by
  rw[ho]at hi;obtain⟨d,h1,h2,h3⟩:=oF hi;have hil:=(aA.1 h1).1;exact⟨d,_,_,h1,aB (by rw[hx.S];exact hil),aB (by rw[hx.F];exact hil),hs.ok d (aC h1),h3⟩
 have hrn:o=none→r=(x,[]):=fun h=>by rw[hr];exact iX (ho.symm.trans h)
 have hro:b=false→r=(x,[]):=fun h=>by rw[hr];exact kA (hb.symm.trans h)
 have hra:∀i d st fr,o=some i→b=true→s.deals[i]?=some d→x.S[i]?=some st→x.free[i]?=some fr→r=mN fB s.su name x l day i d.de st fr:=fun i d st fr h1 h2 h3 h4 h5=>by
  rw[hr];exact lO (ho.symm.trans h1) (hb.symm.trans h2) (by show (s.deals.map iW.de)[i]?=_;rw[aD,h3];rfl) h4 h5
 clear hr;obtain⟨parties,deals,funds,rest,holidays⟩:=s;obtain⟨S,free,⟨c,L⟩,H,D⟩:=x;obtain⟨frm,to,number,kind,ack,deal,text,party,index,day0,cur,amt,docs,boxes⟩:=l;dsimp only at hkind hfz hdz hpz hdl hpl ho hb hat hra;subst hkind;cbv
 (refine XG hde ((⟨parties,deals,funds,rest,holidays⟩,name,deal):gW×bG×bG) hdl ?_;try dsimp only)
 rw[←ho];cases o with
 |none=>
  have hr:=hrn rfl;subst hr;cbv;repeat'((first|refine .y fun h=>?_|fail)<;>cbv)
  (refine .q9 ?_;cbv;exact .inl (.g9 hK))
 |some i=>
  obtain⟨d,st,fr,hd,hst,hfr,hokd,hnum⟩:=hat i rfl;cbv;repeat'((first|refine .n fun h=>?_|fail)<;>cbv)
  (refine XG hpa ((⟨parties,deals,funds,rest,holidays⟩,frm):gW×bG) hpl ?_;try dsimp only)
  rw[←hb];cases b with
  |false=>
   have hr:=hro rfl;subst hr;cbv
   (refine .q9 ?_;cbv;exact .inl (.g9 hK))
  |true=>
   have hr:=hra i d st fr rfl rfl hd hst hfr;clear hra hro hrn hat
   have hml:=fV hokd;have hbl:=hokd.bx;have hsz:=hokd.sz;have hxf:=hx.few;have hxa:=hx.all;obtain⟨bn,hbn⟩:∃b,b=cW d.number:=⟨_,rfl⟩
   have hRP:Jh (⟨c,L⟩,⟨4,index,day,bn,frm,party,cI.noBl⟩):=⟨(show (0:Int)≤4∧(4:Int)≤5 by decide),hxf,hxa,kJ,⟨aI _,aI _,aI _,aI _,fun s hs=>(by cases hs)⟩,by(show party.size≤maxLen);unfold maxLen;omega⟩
   obtain⟨⟨⟨c9,L9⟩,e9⟩,hq9⟩:∃q,q=iN ⟨c,L⟩ ⟨4,index,day,bn,frm,party,cI.noBl⟩:=⟨_,rfl⟩
   have hqq:iN (⟨S,free,⟨c,L⟩,H,D⟩:Cs).reg (dM 4 d.de ⟨frm,to,number,24,ack,deal,text,party,index,day0,cur,amt,docs,boxes⟩ day)=(⟨c9,L9⟩,e9):=by rw[hq9,hbn];rfl
   rw[qY (k:=4) (.inr (.inr (.inr ⟨rfl,rfl⟩)))]at hr;have hr1:e9≠0→r=(⟨S,free,⟨c,L⟩,H,D⟩,cC deal day (eL fB ⟨frm,to,number,24,ack,deal,text,party,index,day0,cur,amt,docs,boxes⟩)):=fun h=>by
    rw[hr];exact qG hqq (.inl h)
   have hr2:e9=0→r=(⟨S,free,⟨c9,L9⟩,H,D⟩,[⟨eS,frm,0,25,0,deal,eS,eS,index,day,eS,0,[],[]⟩]):=fun h1=>by
    rw[hr];exact CA hqq h1 (fun h=>absurd h.1 (by decide)) (by decide)
   clear hr;obtain⟨dn,dsel,dbuy,dcar,diss,dhou,dins,dfrm,dto,dcur,damt,dbx,dterm,dlat,dexp,dten,dduty⟩:=d;dsimp only at hnum hbl hsz;subst hnum;have z3:(ByteArray.mk (Array.mk [98,108,45])).size=3:=rfl;cbv;repeat'((first|refine .e ?_|refine .n fun h=>?_|refine .y fun h=>?_|refine .u fun u hu hul=>?_|fail)<;>cbv)
   obtain rfl:u=bn:=by rw[hbn];assumption
   refine nN [Je ⟨c,L⟩,Nn ⟨4,index,day,u,frm,party,cI.noBl⟩] Aw ?_
   (refine XG hdo ((⟨c,L⟩,⟨4,index,day,u,frm,party,cI.noBl⟩):Rg×At) hRP ?_;try dsimp only)
   rw[←hq9];cbv;repeat'((first|refine .n fun h=>?_|refine .y fun h=>?_|refine .mk (fun h=>?_) fun h=>?_|refine And.intro ?_ ?_|fail)<;>cbv)
   all_goals first
   |((refine XG hob ((⟨frm,to,number,24,ack,dn,text,party,index,day0,cur,amt,docs,boxes⟩,day):dK×Int) (.inr (.inr (.inr rfl))) ?_;try dsimp only)
     have hr:=hr1 (by assumption);subst hr;cbv
     (refine .q9 ?_;cbv;exact .inl (.g9 hK)))
   |(have hr:=hr2 (by assumption)
     subst hr;refine cV (Gh.leAt 7 (.row 58 14 (bI dP [⟨eS,frm,0,25,0,dn,eS,eS,index,day,eS,0,[],[]⟩])) rfl (sA Aw)) ?_;cbv;refine cV (Gh.plain 7 rfl) ?_;cbv
     (refine .q9 ?_;cbv;exact .inl (.g9 hK)))
   |fail
theorem Au (f:bG→XL):∀(bs:List bG) (H:List XL),∃T,(gP f H bs).1=H++T∧T.length≤bs.length
 |[],H=>⟨[],(List.append_nil H).symm,aN _⟩
 |b :: r,H=>by
  have g1:gP f H (b :: r)=if eW H (f b)≠0 then (H,false) else gP f (H++[f b]) r:=rfl
  rw[g1];by_cases h:eW H (f b)≠0
  ·rw[aF h];exact⟨[],(List.append_nil H).symm,aI _⟩
  ·rw[aE h];obtain⟨T,h1,h2⟩:=Au f r (H++[f b]);exact⟨f b :: T,by rw[h1,XI];rfl,Nat.succ_le_succ h2⟩
theorem Al {f:bG→XL}{bs:List bG}{H H9:List XL}{o9:Bool}{α:Type}{a:α}{g:List XL→α}(h:(H9,o9)=gP f H bs):(match eP f H bs with|none=>a|some K=>g K)=if o9=true then g H9 else a:=by
 rcases A9 f bs H with ⟨h1,h2⟩|⟨H',h1,h2⟩
 ·rw[h1];obtain rfl:o9=false:=by rw[←h]at h2;exact h2
  rfl
 ·rw[h1];rw[h2]at h;cases h;rfl
theorem wU (P:bH) (hde:bJ P 13 mJ) (hpa:bJ P 17 lK) (hdo:bJ P 100 FT) (hob:bJ P 101 sC) (hha:bJ P 102 tC) (hsd:bJ P 94 pQ) (hmr:bJ P 20 mV):bN P Pn (Mj (fun z=>z=20)):=by
 intro args H0 K hc;obtain⟨⟨s,name,x,l,day⟩,rfl,rfl,⟨hkind,hs,hx,hnz,hfz,hdz,hpz⟩,hK⟩:=hc;refine⟨cN,?_⟩;dsimp only at hkind hs hx hnz hfz hdz hpz hK⊢;obtain⟨r,hr⟩:∃r,r=eA fB s.su name x l day:=⟨_,rfl⟩
 rw[←hr]at hK;have hdl:=hs.de;have hpl:=hs.pa;obtain⟨o,ho⟩:∃o,o=cX s.su name l.deal:=⟨_,rfl⟩
 obtain⟨b,hb⟩:∃b,b=iS s.su.parties l.frm:=⟨_,rfl⟩
 have hat:∀i,o=some i→∃d st fr,s.deals[i]?=some d∧x.S[i]?=some st∧x.free[i]?=some fr∧Fd d∧d.number=l.deal:=fun i hi=>by
  rw[ho]at hi;obtain⟨d,h1,h2,h3⟩:=oF hi;have hil:=(aA.1 h1).1;exact⟨d,_,_,h1,aB (by rw[hx.S];exact hil),aB (by rw[hx.F];exact hil),hs.ok d (aC h1),h3⟩
 have hrn:o=none→r=(x,[]):=fun h=>by rw[hr];exact iX (ho.symm.trans h)
 have hro:b=false→r=(x,[]):=fun h=>by rw[hr];exact kA (hb.symm.trans h)
 have hra:∀i d st fr,o=some i→b=true→s.deals[i]?=some d→x.S[i]?=some st→x.free[i]?=some fr→r=mN fB s.su name x l day i d.de st fr:=fun i d st fr h1 h2 h3 h4 h5=>by
  rw[hr];exact lO (ho.symm.trans h1) (hb.symm.trans h2) (by show (s.deals.map iW.de)[i]?=_;rw[aD,h3];rfl) h4 h5
 clear hr;obtain⟨parties,deals,funds,rest,holidays⟩:=s;obtain⟨S,free,⟨c,L⟩,H,D⟩:=x;obtain⟨frm,to,number,kind,ack,deal,text,party,index,day0,cur,amt,docs,boxes⟩:=l;dsimp only at hkind hfz hdz hpz hdl hpl ho hb hat hra;subst hkind;cbv
 (refine XG hde ((⟨parties,deals,funds,rest,holidays⟩,name,deal):gW×bG×bG) hdl ?_;try dsimp only)
 rw[←ho];cases o with
 |none=>
  have hr:=hrn rfl;subst hr;cbv;repeat'((first|refine .y fun h=>?_|fail)<;>cbv)
  (refine .q9 ?_;cbv;exact .inl (.g9 hK))
 |some i=>
  obtain⟨d,st,fr,hd,hst,hfr,hokd,hnum⟩:=hat i rfl;cbv;repeat'((first|refine .n fun h=>?_|fail)<;>cbv)
  (refine XG hpa ((⟨parties,deals,funds,rest,holidays⟩,frm):gW×bG) hpl ?_;try dsimp only)
  rw[←hb];cases b with
  |false=>
   have hr:=hro rfl;subst hr;cbv
   (refine .q9 ?_;cbv;exact .inl (.g9 hK))
  |true=>
   have hr:=hra i d st fr rfl rfl hd hst hfr;clear hra hro hrn hat
   have hml:=fV hokd;have hbl:=hokd.bx;have hsz:=hokd.sz;have hxf:=hx.few;have hxa:=hx.all;obtain⟨bn,hbn⟩:∃b,b=cW d.number:=⟨_,rfl⟩
   have hRP:Jh (⟨c,L⟩,⟨2,index,day,bn,frm,party,cI.noBl⟩):=⟨(show (0:Int)≤2∧(2:Int)≤5 by decide),hxf,hxa,kJ,⟨aI _,aI _,aI _,aI _,fun s hs=>(by cases hs)⟩,by(show party.size≤maxLen);unfold maxLen;omega⟩
   obtain⟨⟨⟨c9,L9⟩,e9⟩,hq9⟩:∃q,q=iN ⟨c,L⟩ ⟨2,index,day,bn,frm,party,cI.noBl⟩:=⟨_,rfl⟩
   have hqq:iN (⟨S,free,⟨c,L⟩,H,D⟩:Cs).reg (dM 2 d.de ⟨frm,to,number,20,ack,deal,text,party,index,day0,cur,amt,docs,boxes⟩ day)=(⟨c9,L9⟩,e9):=by rw[hq9,hbn];rfl
   rw[qY (k:=2) (.inr (.inl ⟨rfl,rfl⟩))]at hr;have hms:=kB hokd;obtain⟨mk,hmk⟩:∃m,m=d.marks:=⟨_,rfl⟩
   have hmk2:d.de.boxes=mk:=hmk.symm;obtain⟨⟨H9,o9⟩,hq5⟩:∃q,q=gP (cF name frm d.to day) H mk:=⟨_,rfl⟩
   have hq6:(H9,o9)=gP (cF name frm d.to day) H d.marks:=by rw[hq5,hmk]
   obtain⟨T9,hT1,hT2⟩:=Au (cF name frm d.to day) mk H;rw[←hq5]at hT1;replace hT1:H9=H++T9:=hT1;obtain⟨D9,hD9⟩:∃D9,D9=D++T9:=⟨_,rfl⟩
   have hT3:H9.length=H.length+T9.length:=by rw[hT1,aM]
   have hT4:D9.length=D.length+T9.length:=by rw[hD9,aM]
   have hH5:H.length≤40000:=hx.H;have hD5:D.length≤40000:=hx.D;have hS5:S.length≤8:=by have:=hx.S;dsimp only at this;omega
   have hiS:i < S.length:=(aA.1 hst).1;have hr1:e9≠0∨o9=false∨¬st=3∨fr=false→r=(⟨S,free,⟨c,L⟩,H,D⟩,cC deal day (eL fB ⟨frm,to,number,20,ack,deal,text,party,index,day0,cur,amt,docs,boxes⟩)):=fun h=>by
    rw[hr];rcases h with h|h
    ·exact qG hqq (.inl h)
    by_cases h0:e9=0
    rotate_left
    ·exact qG hqq (.inl h0)
    rw[EE hqq h0];refine(Al hq6).trans ?_;rcases h with rfl|h
    ·rfl
    cases o9 with
    |false=>rfl
    |true=>exact(aF rfl).trans (aF h)
   obtain⟨S2,hS2⟩:∃S2,S2=S.set i 4:=⟨_,rfl⟩
   have eS2:iQ ⟨S,free,⟨c9,L9⟩,H9,D9⟩ i 4=⟨S2,free,⟨c9,L9⟩,H9,D9⟩:=by rw[hS2];rfl
   have hr2:e9=0→o9=true→st=3→fr=true→r=(⟨S2,free,⟨c9,L9⟩,H9,D9⟩,[⟨eS,frm,0,21,0,deal,eS,eS,0,day,eS,0,[],mk⟩]):=fun h1 h2 h3 h4=>by
    rw[hr];rw[EE hqq h1];refine(Al hq6).trans ?_;rw[aF h2];rw[aE (fun h=>h.elim (fun h=>h h3) (fun h=>by rw[h4]at h;cases h))];rw[←eS2,hmk2];show (iQ ⟨S,free,⟨c9,L9⟩,H9,D++H9.drop H.length⟩ i 4,_)=_;rw[show H9.drop H.length=T9 from by rw[hT1];exact List.drop_left ..,←hD9];rfl
   have hHP:Pw ⟨H,d,name,frm,d.to,day⟩:=⟨by dsimp only;omega,hokd,by dsimp only;omega,by dsimp only;omega,by dsimp only;omega⟩
   rw[←hmk]at hml;clear hr hq6 hmk2;obtain⟨dn,dsel,dbuy,dcar,diss,dhou,dins,dfrm,dto,dcur,damt,dbx,dterm,dlat,dexp,dten,dduty⟩:=d;dsimp only at hnum hbl hsz;subst hnum;have z3:(ByteArray.mk (Array.mk [98,108,45])).size=3:=rfl;cbv;repeat'((first|refine .e ?_|refine .n fun h=>?_|refine .y fun h=>?_|refine .u fun u hu hul=>?_|fail)<;>cbv)
   obtain rfl:u=bn:=by rw[hbn];assumption
   refine nN [Je ⟨c,L⟩,Nn ⟨2,index,day,u,frm,party,cI.noBl⟩] Aw ?_
   (refine XG hdo ((⟨c,L⟩,⟨2,index,day,u,frm,party,cI.noBl⟩):Rg×At) hRP ?_;try dsimp only)
   rw[←hq9];cbv;repeat'((first|refine .n fun h=>?_|refine .y fun h=>?_|refine .mk (fun h=>?_) fun h=>?_|fail)<;>cbv)
   all_goals first
   |((refine XG hob ((⟨frm,to,number,20,ack,dn,text,party,index,day0,cur,amt,docs,boxes⟩,day):dK×Int) (.inr (.inl rfl)) ?_;try dsimp only)
     have hr:=hr1 (.inl (by assumption));subst hr;cbv
     (refine .q9 ?_;cbv;exact .inl (.g9 hK)))
   |((refine XG hha (⟨H,(⟨dn,dsel,dbuy,dcar,diss,dhou,dins,dfrm,dto,dcur,damt,dbx,dterm,dlat,dexp,dten,dduty⟩:iW),name,frm,dto,day⟩:QM) hHP ?_;try dsimp only)
     rw[←hmk,←hq5];cbv;repeat'((first|refine .e ?_|refine .mk (fun h=>?_) fun h=>?_|fail)<;>cbv)
     all_goals first
     |((refine XG hob ((⟨frm,to,number,20,ack,dn,text,party,index,day0,cur,amt,docs,boxes⟩,day):dK×Int) (.inr (.inl rfl)) ?_;try dsimp only)
       have hr:=hr1 (.inr (.inr (.inl (by assumption))));subst hr;cbv
       (refine .q9 ?_;cbv;exact .inl (.g9 hK)))
     |skip
     cases fr with
     |false=>
      have hr:=hr1 (.inr (.inr (.inr rfl)));subst hr;cbv
      (refine XG hob ((⟨frm,to,number,20,ack,dn,text,party,index,day0,cur,amt,docs,boxes⟩,day):dK×Int) (.inr (.inl rfl)) ?_;try dsimp only)
      cbv
      (refine .q9 ?_;cbv;exact .inl (.g9 hK))
     |true=>
      cases o9 with
      |false=>
       have hr:=hr1 (.inr (.inl rfl));subst hr;cbv
       (refine XG hob ((⟨frm,to,number,20,ack,dn,text,party,index,day0,cur,amt,docs,boxes⟩,day):dK×Int) (.inr (.inl rfl)) ?_;try dsimp only)
       cbv
       (refine .q9 ?_;cbv;exact .inl (.g9 hK))
      |true=>
       have hr:=hr2 (by assumption) rfl (by assumption) rfl;subst hr;cbv;repeat'((first|refine .k fun z hz=>?_|refine .o ?_|refine .l fun ys hys hyl=>?_|fail)<;>cbv)
       have hzz:z.toNat=H.length:=by rw[hz,bY];rfl
       obtain rfl:ys=D9:=by
        rw[hys,hD9];congr 1;refine Eq.trans (b:=List.drop (Int.toNat ((some z).getD 0)) (List.take (Int.toNat (none.getD (((H9,true).fst.length:Nat):Int))) (H9,true).fst)) (by assumption) ?_;show List.drop z.toNat (List.take (Int.toNat (H9.length:Nat)) H9)=T9;rw[hzz,Int.toNat_natCast,List.take_length,hT1];exact List.drop_left ..
       refine kN 7 rfl ?_;cbv
       (refine XG hsd ((⟨S,free,⟨c9,L9⟩,H9,ys⟩,i,4):Cs×Nat×Int) ⟨hS5,hiS⟩ ?_;try dsimp only)
       rw[eS2];cbv
       (refine XG hmr ((⟨dn,dsel,dbuy,dcar,diss,dhou,dins,dfrm,dto,dcur,damt,dbx,dterm,dlat,dexp,dten,dduty⟩:iW)) hbl ?_;try dsimp only)
       rw[←hmk];cbv;repeat'((first|refine And.intro ?_ ?_|fail)<;>cbv)
       all_goals
        try(refine cV (Gh.leAt 10 (.row 58 14 (bI dP [⟨eS,frm,0,21,0,dn,eS,eS,0,day,eS,0,[],mk⟩])) rfl (sA Aw)) ?_)
        cbv;refine cV (Gh.plain 10 rfl) ?_;cbv
        (refine .q9 ?_;cbv;exact .inl (.g9 hK))
       )
theorem uU (P:bH) (hde:bJ P 13 mJ) (hpa:bJ P 17 lK):bN P Pn (Mj (fun z=>¬(z=4∨z=19∨z=8∨z=20∨z=23∨z=24))):=by
 intro args H0 K hc;obtain⟨⟨s,name,x,l,day⟩,rfl,rfl,⟨hkind,hs,hx,hnz,hfz,hdz,hpz⟩,hK⟩:=hc;refine⟨cN,?_⟩;dsimp only at hkind hs hx hnz hfz hdz hpz hK⊢;obtain⟨r,hr⟩:∃r,r=eA fB s.su name x l day:=⟨_,rfl⟩
 rw[←hr]at hK;have hdl:=hs.de;have hpl:=hs.pa;obtain⟨o,ho⟩:∃o,o=cX s.su name l.deal:=⟨_,rfl⟩
 obtain⟨b,hb⟩:∃b,b=iS s.su.parties l.frm:=⟨_,rfl⟩
 have hat:∀i,o=some i→∃d st fr,s.deals[i]?=some d∧x.S[i]?=some st∧x.free[i]?=some fr∧Fd d∧d.number=l.deal:=fun i hi=>by
  rw[ho]at hi;obtain⟨d,h1,h2,h3⟩:=oF hi;have hil:=(aA.1 h1).1;exact⟨d,_,_,h1,aB (by rw[hx.S];exact hil),aB (by rw[hx.F];exact hil),hs.ok d (aC h1),h3⟩
 have hrn:o=none→r=(x,[]):=fun h=>by rw[hr];exact iX (ho.symm.trans h)
 have hro:b=false→r=(x,[]):=fun h=>by rw[hr];exact kA (hb.symm.trans h)
 have hra:∀i d st fr,o=some i→b=true→s.deals[i]?=some d→x.S[i]?=some st→x.free[i]?=some fr→r=mN fB s.su name x l day i d.de st fr:=fun i d st fr h1 h2 h3 h4 h5=>by
  rw[hr];exact lO (ho.symm.trans h1) (hb.symm.trans h2) (by show (s.deals.map iW.de)[i]?=_;rw[aD,h3];rfl) h4 h5
 clear hr;obtain⟨parties,deals,funds,rest,holidays⟩:=s;obtain⟨S,free,⟨c,L⟩,H,D⟩:=x;obtain⟨frm,to,number,kind,ack,deal,text,party,index,day0,cur,amt,docs,boxes⟩:=l;dsimp only at hkind hfz hdz hpz hdl hpl ho hb hat hra;cbv
 (refine XG hde ((⟨parties,deals,funds,rest,holidays⟩,name,deal):gW×bG×bG) hdl ?_;try dsimp only)
 rw[←ho];cases o with
 |none=>
  have hr:=hrn rfl;subst hr;cbv;repeat'((first|refine .y fun h=>?_|fail)<;>cbv)
  (refine .q9 ?_;cbv;exact .inl (.g9 hK))
 |some i=>
  obtain⟨d,st,fr,hd,hst,hfr,hokd,hnum⟩:=hat i rfl;cbv;repeat'((first|refine .n fun h=>?_|fail)<;>cbv)
  (refine XG hpa ((⟨parties,deals,funds,rest,holidays⟩,frm):gW×bG) hpl ?_;try dsimp only)
  rw[←hb];cases b with
  |false=>
   have hr:=hro rfl;subst hr;cbv
   (refine .q9 ?_;cbv;exact .inl (.g9 hK))
  |true=>
   have hr:=hra i d st fr rfl rfl hd hst hfr;clear hra hro hrn hat
   unfold mN at hr;dsimp only at hr;rw[aE (fun h=>hkind (.inl h)),aE (fun h=>hkind (.inr (.inl h))),aE (fun h=>hkind (.inr (.inr h)))]at hr;subst hr;have hml:=fV hokd;have hbl:=hokd.bx;have hsz:=hokd.sz;obtain⟨dn,dsel,dbuy,dcar,diss,dhou,dins,dfrm,dto,dcur,damt,dbx,dterm,dlat,dexp,dten,dduty⟩:=d;dsimp only at hnum hbl hsz;subst hnum;have z3:(ByteArray.mk (Array.mk [98,108,45])).size=3:=rfl;cbv;repeat'((first|refine .e ?_|refine .n fun h=>?_|refine .u fun u hu hul=>?_|fail)<;>cbv)
   all_goals first
   |(exfalso;exact hkind (by omega))
   |((refine .q9 ?_;cbv;exact .inl (.g9 hK)))
   |fail
theorem Gq {P:bH}(hde:bJ P 13 mJ) (hpa:bJ P 17 lK) (hsh:bJ P 99 xZ) (hdo:bJ P 100 FT) (hob:bJ P 101 sC) (hha:bJ P 102 tC) (hsd:bJ P 94 pQ) (hmr:bJ P 20 mV):bN P Pn (Mj fun _=>True):=by
 intro args H0 K hc;obtain⟨q,h1,h2,⟨-,h4⟩,h5⟩:=hc;by_cases k1:q.l.kind=4
 ·exact uV P hde hpa hsh args H0 K ⟨q,h1,h2,⟨k1,h4⟩,h5⟩
 by_cases k2:q.l.kind=19
 ·exact xG P hde hpa args H0 K ⟨q,h1,h2,⟨k2,h4⟩,h5⟩
 by_cases k3:q.l.kind=8
 ·exact wV P hde hpa hdo hob args H0 K ⟨q,h1,h2,⟨k3,h4⟩,h5⟩
 by_cases k4:q.l.kind=20
 ·exact wU P hde hpa hdo hob hha hsd hmr args H0 K ⟨q,h1,h2,⟨k4,h4⟩,h5⟩
 by_cases k5:q.l.kind=23
 ·exact vP P hde hpa hdo hob args H0 K ⟨q,h1,h2,⟨k5,h4⟩,h5⟩
 by_cases k6:q.l.kind=24
 ·exact uZ P hde hpa hdo hob args H0 K ⟨q,h1,h2,⟨k6,h4⟩,h5⟩
 exact uU P hde hpa args H0 K ⟨q,h1,h2,⟨fun h=>by rcases h with h|h|h|h|h|h<;>contradiction,h4⟩,h5⟩
def Fi:dN:=spec (fun q:gW×bG=>[HM q.1,.str q.2]) (fun _=>[]) (fun q=>q.1.deals.length≤8) (fun q=>D8 (zR q.1.su q.2)) fun _=>[]
theorem GO (P:bH):bN P WY Fi:=by
 intro args H K hc;obtain⟨⟨⟨parties,deals,funds,rest,holidays⟩,name⟩,rfl,rfl,hp,hK⟩:=hc;refine⟨cN,?_⟩;dsimp only at hp hK⊢;obtain⟨n,hn⟩:∃n:Nat,n=deals.length:=⟨_,rfl⟩
 obtain⟨S,hS⟩:∃S,S=deals.map fun _=>(0:Int):=⟨_,rfl⟩
 obtain⟨F,hF⟩:∃F,F=deals.map fun d=>decide (d.house=eS):=⟨_,rfl⟩
 have eK:zR (gW.su ⟨parties,deals,funds,rest,holidays⟩) name=⟨S,F,⟨name,[]⟩,[],[]⟩:=by
  unfold zR gW.su;dsimp only;rw[List.map_map,List.map_map,hS,hF];rfl
 replace hK:K (D8 (zR (gW.su ⟨parties,deals,funds,rest,holidays⟩) name)) []:=hK;rw[eK]at hK;clear eK;cbv;refine iI (Gh.adoptC 2 0 3 1 rfl rfl) ?_;cbv;refine iI (Gh.adoptC 2 1 4 1 rfl rfl) ?_;cbv;refine bV [3,4] (fun p:{ k:Nat // k≤deals.length }=>[(6,.i (nI p.1))]) (fun p=>[.blk 29 [.sl 3 (bI jQ parties),.sl 17 (bI iJ deals),.sl 3 (bI jT funds),.sl 1 (bI cY rest),.sl 1 (bI cY holidays)],.blk 41 [.v (.slice none 0 0),.v (.slice none 0 0),.str ⟨#[]⟩,.v (.slice none 0 0),.v (.slice none 0 0),.v (.slice none 0 0)],.blk 41 [.hd 3,.hd 4,.str name,.v (.slice none 0 0),.v (.slice none 0 0),.v (.slice none 0 0)],.row 3 1 (bI cY (S.take p.1)),.row 4 1 (bI mR (F.take p.1))]) (fun p=>fK n p.1) ⟨0,aI _⟩ ?_;rintro ⟨k,hk⟩;dsimp only at hk⊢;obtain⟨S1,hS1⟩:∃s,s=S.take k:=⟨_,rfl⟩
 obtain⟨F1,hF1⟩:∃s,s=F.take k:=⟨_,rfl⟩
 have hl1:S1.length≤8:=by rw[hS1,aS];omega
 have hl2:F1.length≤8:=by rw[hF1,aS];omega
 rw[←hS1,←hF1];rcases aL k deals.length with hks|hks
 rotate_left
 ·obtain rfl:k=n:=by omega
  have e1:S1=S:=by rw[hS1,bC (by rw[hS,aJ];omega)]
  have e2:F1=F:=by rw[hF1,bC (by rw[hF,aJ];omega)]
  subst e1 e2;cbv;repeat'((first|refine .n fun h=>?_|refine .k fun z hz=>?_|fail)<;>cbv)
  refine cV (Gh.plain 3 rfl) ?_;cbv
  (refine .r9 (Gh.plain 4 rfl) ?_;cbv;exact .inl (.g9 hK))
 obtain⟨d,hx⟩:=cM hks;have hs2:S.take (k+1)=S1++[0]:=by rw[hS1,dX (l:=0) (by rw[hS,aD,hx];rfl)]
 have hf2:F.take (k+1)=F1++[decide (d.house=eS)]:=by rw[hF1,dX (l:=decide (d.house=eS)) (by rw[hF,aD,hx];rfl)]
 clear hS hF hS1 hF1;obtain⟨dn,dsel,dbuy,dcar,diss,dhou,dins,dfrm,dto,dcur,damt,dbx,dterm,dlat,dexp,dten,dduty⟩:=d;dsimp only at hf2;unfold eS at hf2;cbv;repeat'((first|refine .e ?_|refine .y fun h=>?_|refine .mk (fun h=>?_) fun h=>?_|refine .k fun z hz=>?_|refine .zl fun zs hzs hzl=>?_|fail)<;>cbv)
 ·rename_i z0 hz0 h0 zs1 hzs1 hzl1;obtain rfl:z=nI (k+1):=bS;rw[aH h]at hf2;obtain rfl:zs1=bI cY (S.take (k+1)):=by(rw[hs2,cB,cE];exact hzs1)
  obtain rfl:zs=bI mR (F.take (k+1)):=by(rw[hf2,cB,cE];exact hzs)
  exact bL ⟨k+1,hks⟩ (bM (by omega))
 ·rename_i z0 hz0 h0 zs1 hzs1 hzl1;obtain rfl:z=nI (k+1):=bS;rw[aG h]at hf2;obtain rfl:zs1=bI cY (S.take (k+1)):=by(rw[hs2,cB,cE];exact hzs1)
  obtain rfl:zs=bI mR (F.take (k+1)):=by(rw[hf2,cB,cE];exact hzs)
  exact bL ⟨k+1,hks⟩ (bM (by omega))
structure SW where
 kind:Int
 n:Int
 deal:bG
structure fX where
 kind:Int
 day:Int
 a:SW
 l:dK
def nJ:fX→AV
 |⟨kind,day,⟨ak,an,adeal⟩,⟨frm,to,number,lkind,ack,deal,text,party,index,day0,cur,amt,docs,boxes⟩⟩=>.agg [.i kind,.i day,.i ak,.i an,.str adeal,.str frm,.str to,.i number,.i lkind,.i ack,.str deal,.str text,.str party,.i index,.i day0,.str cur,.i amt,.sl 4 (bI sJ docs),.sl 1 (bI .str boxes)]
def eR (s:bG):Prop:=s.size≤140737488355328
structure Rq (s:gW):Prop where
 pa:s.parties.length≤maxLen
 de:s.deals.length≤maxLen
 pn:∀p∈s.parties,eR p.name
 ok:∀d∈s.deals,d.boxes.length≤maxLen∧(∀b∈d.boxes,eR b.mark)∧eR d.number∧eR d.seller∧eR d.buyer∧eR d.carrier∧eR d.house∧eR d.frm∧eR d.to
structure Uz (l:List fX):Prop where
 len:l.length≤maxLen
 sz:∀c∈l,eR c.a.deal∧eR c.l.frm∧eR c.l.deal∧eR c.l.party
structure VV (l:List fX):Prop where
 len:l.length≤40
 sz:∀c∈l,c.a.deal.size≤300∧c.l.frm.size≤300∧c.l.deal.size≤300∧c.l.party.size≤300
structure CC (s:gW) (name:bG) (l:List fX):Prop where
 s:lL s
 n:name.size≤60
 l:VV l
structure CI where
 s:gW
 name:bG
 l:List fX
structure Fj (q:CI):Prop where
 s:Rq q.s
 n:eR q.name
 l:Uz q.l
def Gv:dN:=pA (fun q:CI=>[HM q.s,.str q.name,.sl 19 (bI nJ q.l)]) (fun _=>[]) Fj (fun q b=>b=true→CC q.s q.name q.l) (fun _ b=>.bl b) fun _ _=>[]
def Ui (l:List Fc) (k:Nat):Prop:=∀j y,j < k→l[j]?=some y→y.name.size≤60
def R7 (l:List iW) (k:Nat):Prop:=∀j y,j < k→l[j]?=some y→Fd y
def Uy (l:List Dx) (k:Nat):Prop:=∀j y,j < k→l[j]?=some y→y.mark.size≤60
def TO (l:List fX) (k:Nat):Prop:=∀j c,j < k→l[j]?=some c→c.a.deal.size≤300∧c.l.frm.size≤300∧c.l.deal.size≤300∧c.l.party.size≤300
theorem lV {α:Type}{l:List α}{p:α→Prop}(h:∀j y,j < l.length→l[j]?=some y→p y):∀x∈l,p x:=fun x hx=>by
 obtain⟨j,hj⟩:=aV hx;exact h j x (aA.1 hj).1 hj
theorem kF {α:Type}{l:List α}{p:α→Prop}:∀j y,j < 0→l[j]?=some y→p y:=fun j y h=>absurd h (Nat.not_lt_zero j)
theorem jU {α:Type}{l:List α}{p:α→Prop}{k:Nat}{x:α}(h:∀j y,j < k→l[j]?=some y→p y) (hx:l[k]?=some x) (hp:p x):∀j y,j < k+1→l[j]?=some y→p y:=fun j y hj hy=>by
 rcases aL j k with h1|h1
 ·exact h j y h1 hy
 ·obtain rfl:j=k:=by omega
  rw[hx]at hy;cases hy;exact hp
theorem KY (P:bH):bN P XC Gv:=by
 intro args H K hc;obtain⟨⟨⟨parties,deals,funds,rest,holidays⟩,name,l⟩,rfl,rfl,hp,hK⟩:=hc;refine⟨cN,?_⟩;obtain⟨⟨hpa,hde,hpn,hok⟩,hnm,hll,hls⟩:=hp;dsimp only at hpa hde hpn hok hnm hll hls hK⊢;unfold eR at hpn hok hnm hls;have hno:K (.bl false) []:=hK false (fun h=>by cases h);have hyes:CC ⟨parties,deals,funds,rest,holidays⟩ name l→K (.bl true) []:=fun h=>hK true fun _=>h
 clear hK;obtain⟨np,hnp⟩:∃n:Nat,n=parties.length:=⟨_,rfl⟩
 obtain⟨nd,hnd⟩:∃n:Nat,n=deals.length:=⟨_,rfl⟩
 obtain⟨nl,hnl⟩:∃n:Nat,n=l.length:=⟨_,rfl⟩
 cbv;repeat'((first|refine .mk (fun h=>?_) fun h=>?_|refine .k fun z hz=>?_|fail)<;>cbv)
 ·(refine .q9 ?_;cbv;exact .inl (.f9 hno))
 ·(refine .q9 ?_;cbv;exact .inl (.f9 hno))
 ·(refine .q9 ?_;cbv;exact .inl (.f9 hno))
 ·(refine .q9 ?_;cbv;exact .inl (.f9 hno))
 have hP:parties.length≤20:=bS;have hD:deals.length≤8:=bS;have hN:name.size≤60:=bS;have hL:l.length≤40:=bS;refine bV [] (fun p:{ k:Nat // k≤parties.length∧Ui parties k }=>[(7,.i (nI p.1))]) (fun _=>[.blk 29 [.sl 3 (bI jQ parties),.sl 17 (bI iJ deals),.sl 3 (bI jT funds),.sl 1 (bI cY rest),.sl 1 (bI cY holidays)]]) (fun p=>fK np p.1) ⟨0,aI _,kF⟩ ?_;rintro ⟨k,hk,hf⟩;dsimp only at hk hf⊢;rcases aL k parties.length with hks|hks
 ·obtain⟨⟨pn,pb,pk⟩,hx⟩:=cM hks;have hpz:=hpn _ (aC hx);dsimp only at hpz;cbv;repeat'((first|refine .e ?_|refine .y fun h=>?_|refine .mk (fun h=>?_) fun h=>?_|refine .k fun z hz=>?_|fail)<;>cbv)
  ·(refine .q9 ?_;cbv;exact .inl (.f9 hno))
  ·obtain rfl:z=nI (k+1):=bS;exact bL ⟨k+1,hks,jU hf hx (by dsimp only;((try simp only[vn]at *)<;>omega))⟩ (bM (by omega))
 obtain rfl:k=np:=by omega
 rw[hnp]at hf;have hPall:=lV hf;clear hf hpn;cbv;repeat'((first|refine .n fun h=>?_|refine .k fun z hz=>?_|fail)<;>cbv)
 refine bV [] (fun p:{ k:Nat // k≤deals.length∧R7 deals k }=>[(8,.i (nI p.1))]) (fun _=>[.blk 29 [.sl 3 (bI jQ parties),.sl 17 (bI iJ deals),.sl 3 (bI jT funds),.sl 1 (bI cY rest),.sl 1 (bI cY holidays)]]) (fun p=>fK nd p.1) ⟨0,aI _,kF⟩ ?_;rintro ⟨k2,hk2,hf2⟩;dsimp only at hk2 hf2⊢;rcases aL k2 deals.length with hks2|hks2
 ·obtain⟨d,hx⟩:=cM hks2;obtain⟨hdb,hdm,hd1,hd2,hd3,hd4,hd5,hd6,hd7⟩:=hok _ (aC hx);have hnx:Fd d→R7 deals (k2+1):=fun h=>jU hf2 hx h
  obtain⟨dn,dsel,dbuy,dcar,diss,dhou,dins,dfrm,dto,dcur,damt,dbx,dterm,dlat,dexp,dten,dduty⟩:=d;dsimp only at hdb hdm hd1 hd2 hd3 hd4 hd5 hd6 hd7;clear hok;cbv;repeat'((first|refine .e ?_|refine .y fun h=>?_|refine .mk (fun h=>?_) fun h=>?_|refine .k fun z hz=>?_|fail)<;>cbv)
  ·(refine .q9 ?_;cbv;exact .inl (.f9 hno))
  ·(refine .q9 ?_;cbv;exact .inl (.f9 hno))
  have hbx:dbx.length≤70:=bS;have hall:dn.size≤300∧dsel.size≤300∧dbuy.size≤300∧dcar.size≤300∧dhou.size≤300∧dfrm.size≤300∧dto.size≤300:=bS;obtain⟨nb,hnb⟩:∃n:Nat,n=dbx.length:=⟨_,rfl⟩
  refine bV [] (fun p:{ k:Nat // k≤dbx.length∧Uy dbx k }=>[(10,.i (nI p.1))]) (fun _=>[.blk 29 [.sl 3 (bI jQ parties),.sl 17 (bI iJ deals),.sl 3 (bI jT funds),.sl 1 (bI cY rest),.sl 1 (bI cY holidays)]]++[.blk 67 [.str dn,.str dsel,.str dbuy,.str dcar,.str diss,.str dhou,.str dins,.str dfrm,.str dto,.str dcur,.i damt,.sl 3 (bI EW dbx),.i dterm,.i dlat,.i dexp,.i dten,.i dduty]]) (fun p=>fK nb p.1) ⟨0,aI _,kF⟩ ?_;rintro ⟨k3,hk3,hf3⟩;dsimp only at hk3 hf3⊢;rcases aL k3 dbx.length with hks3|hks3
  ·obtain⟨⟨bm,bk,bl⟩,hx3⟩:=cM hks3;have hbz:=hdm _ (aC hx3);dsimp only at hbz;cbv;repeat'((first|refine .e ?_|refine .y fun h=>?_|refine .mk (fun h=>?_) fun h=>?_|refine .k fun z hz=>?_|fail)<;>cbv)
   ·(refine .q9 ?_;cbv;exact .inl (.f9 hno))
   ·obtain rfl:z=nI (k3+1):=bS;exact bL ⟨k3+1,hks3,jU hf3 hx3 (by dsimp only;((try simp only[vn]at *)<;>omega))⟩ (bM (by omega))
  obtain rfl:k3=nb:=by omega
  rw[hnb]at hf3;have hBall:=lV hf3;cbv;repeat'((first|refine .n fun h=>?_|refine .k fun z hz=>?_|fail)<;>cbv)
  obtain rfl:z=nI (k2+1):=bS;exact bL ⟨k2+1,hks2,hnx ⟨hbx,hBall,hall⟩⟩ (bM (by omega))
 obtain rfl:k2=nd:=by omega
 rw[hnd]at hf2;have hDall:=lV hf2;clear hf2 hok;cbv;repeat'((first|refine .n fun h=>?_|refine .k fun z hz=>?_|fail)<;>cbv)
 refine bV [] (fun p:{ k:Nat // k≤l.length∧TO l k }=>[(11,.i (nI p.1))]) (fun _=>[.blk 29 [.sl 3 (bI jQ parties),.sl 17 (bI iJ deals),.sl 3 (bI jT funds),.sl 1 (bI cY rest),.sl 1 (bI cY holidays)]]) (fun p=>fK nl p.1) ⟨0,aI _,kF⟩ ?_;rintro ⟨k4,hk4,hf4⟩;dsimp only at hk4 hf4⊢;rcases aL k4 l.length with hks4|hks4
 ·obtain⟨cx,hx⟩:=cM hks4;obtain⟨hc1,hc2,hc3,hc4⟩:=hls _ (aC hx);have hnx:(cx.a.deal.size≤300∧cx.l.frm.size≤300∧cx.l.deal.size≤300∧cx.l.party.size≤300)→TO l (k4+1):=fun h=>jU hf4 hx h
  obtain⟨ckind,cday,⟨ak,an,adeal⟩,⟨frm,to,number,lkind,ack,deal,text,party,index,day0,cur,amt,docs,boxes⟩⟩:=cx;dsimp only at hc1 hc2 hc3 hc4 hnx;cbv;repeat'((first|refine .e ?_|refine .y fun h=>?_|refine .mk (fun h=>?_) fun h=>?_|refine .k fun z hz=>?_|fail)<;>cbv)
  ·(refine .q9 ?_;cbv;exact .inl (.f9 hno))
  ·obtain rfl:z=nI (k4+1):=bS;exact bL ⟨k4+1,hks4,hnx bS⟩ (bM (by omega))
 obtain rfl:k4=nl:=by omega
 rw[hnl]at hf4;have hCall:=lV hf4;cbv;repeat'((first|refine .n fun h=>?_|refine .k fun z hz=>?_|fail)<;>cbv)
 (refine .q9 ?_;cbv;exact .inl (.f9 (hyes ⟨⟨hP,hD,hPall,hDall⟩,hN,⟨hL,hCall⟩⟩)))
structure P8 where
 s:gW
 name:bG
 x:Cs
 a:SW
 day:Int
structure Pg (q:P8):Prop where
 s:lL q.s
 x:RZ q.s q.x
 sz:q.name.size≤60∧q.a.deal.size≤300
 day:-9223372036854775808≤q.day∧q.day≤9223372036854775807
def WS:Cs×List dK×Int→AV
 |(x,l,e)=>.tup [D8 x,.sl 14 (bI dP l),.i e]
def Q0 (κ:Int→Prop):dN:=spec (fun q:P8=>[HM q.s,.str q.name,D8 q.x,.agg [.i q.a.kind,.i q.a.n,.str q.a.deal],.i q.day]) (fun _=>[]) (fun q=>κ q.a.kind∧Pg q) (fun q=>WS (jJ eV q.s.su q.name q.x q.a.kind q.a.deal q.day)) fun _=>[]
def JO (lad:Bl→HL) (name:bG) (x:Cs) (kind:Int) (i:Nat) (d:De) (st:Int) (day:Int):Cs×List dK×Int:=
   if kind=6 then (if st≠2 then (x,[],9) else (iQ x i 3,cC d.number day [{ lX with to:=d.buyer,kind:=26,boxes:=d.boxes }],0))
   else if st≠1 then (x,[],9) else
    let b:Bl:=eQ name (cG d st true) day
    if fW ⟨x.reg,b,d.seller⟩≠0 then (x,[],fW ⟨x.reg,b,d.seller⟩)
    else ({ iQ x i 2 with reg:=iY ⟨x.reg,b,d.seller⟩ },cC d.number day [{ lX with to:=d.seller,kind:=5,docs:=[lad b] }],0)
theorem Bz {lad:Bl→HL}{s:Su}{name:bG}{x:Cs}{kind:Int}{deal:bG}{day:Int}(hk:kind=5∨kind=6) (h:cX s name deal=none):jJ lad s name x kind deal day=(x,[],4):=by
 unfold jJ;rw[aE (by omega),h]
theorem He {lad:Bl→HL}{s:Su}{name:bG}{x:Cs}{kind:Int}{deal:bG}{day:Int}{i:Nat}{d:De}{st:Int}(hk:kind=5∨kind=6) (h:cX s name deal=some i) (h1:s.deals[i]?=some d) (h2:x.S[i]?=some st) :
  jJ lad s name x kind deal day=JO lad name x kind i d st day:=by
 unfold jJ JO;rw[aE (by omega),h];dsimp only;rw[h1,h2]
theorem Eo (P:bH):bN P TS (Q0 fun k=>¬(k=5∨k=6)):=by
 intro args H0 K hc;obtain⟨⟨s,name,x,⟨kind,an,deal⟩,day⟩,rfl,rfl,⟨hkind,hs,hx,⟨hnz,hdz⟩,hday⟩,hK⟩:=hc;refine⟨cN,?_⟩;dsimp only at hkind hs hx hnz hdz hday hK⊢;obtain⟨r,hr⟩:∃r,r=jJ eV s.su name x kind deal day:=⟨_,rfl⟩
 rw[←hr]at hK;unfold jJ at hr;rw[aF (by omega)]at hr;subst hr;obtain⟨parties,deals,funds,rest,holidays⟩:=s;obtain⟨S,free,⟨c,L⟩,H,D⟩:=x;cbv;repeat'((first|refine .n fun h=>?_|fail)<;>cbv)
 all_goals first
 |(exfalso;exact hkind (by omega))
 |((refine .q9 ?_;cbv;exact .inl (.g9 hK)))
theorem xB (P:bH) (hde:bJ P 13 mJ) (hsd:bJ P 94 pQ) (hmr:bJ P 20 mV):bN P TS (Q0 fun k=>k=6):=by
 intro args H0 K hc;obtain⟨⟨s,name,x,⟨kind,an,deal⟩,day⟩,rfl,rfl,⟨hkind,hs,hx,⟨hnz,hdz⟩,hday⟩,hK⟩:=hc;refine⟨cN,?_⟩;dsimp only at hkind hs hx hnz hdz hday hK⊢;obtain⟨r,hr⟩:∃r,r=jJ eV s.su name x kind deal day:=⟨_,rfl⟩
 rw[←hr]at hK;have hdl:=hs.de;obtain⟨o,ho⟩:∃o,o=cX s.su name deal:=⟨_,rfl⟩
 have hat:∀i,o=some i→∃d st,s.deals[i]?=some d∧x.S[i]?=some st∧Fd d∧d.number=deal:=fun i hi=>by
  rw[ho]at hi;obtain⟨d,h1,h2,h3⟩:=oF hi;have hil:=(aA.1 h1).1;exact⟨d,_,h1,aB (by rw[hx.S];exact hil),hs.ok d (aC h1),h3⟩
 have hrn:o=none→r=(x,[],4):=fun h=>by rw[hr];exact Bz (by omega) (ho.symm.trans h)
 have hra:∀i d st,o=some i→s.deals[i]?=some d→x.S[i]?=some st→r=JO eV name x kind i d.de st day:=fun i d st h1 h3 h4=>by
  rw[hr];exact He (by omega) (ho.symm.trans h1) (by show (s.deals.map iW.de)[i]?=_;rw[aD,h3];rfl) h4
 clear hr;obtain⟨parties,deals,funds,rest,holidays⟩:=s;obtain⟨S,free,⟨c,L⟩,H,D⟩:=x;subst hkind;dsimp only at hdl ho hat hra;cbv;repeat'((first|refine .n fun h=>?_|refine .y fun h=>?_|fail)<;>cbv)
 (refine XG hde ((⟨parties,deals,funds,rest,holidays⟩,name,deal):gW×bG×bG) hdl ?_;try dsimp only)
 rw[←ho];cases o with
 |none=>
  have hr:=hrn rfl;subst hr;cbv;repeat'((first|refine .y fun h=>?_|fail)<;>cbv)
  (refine .q9 ?_;cbv;exact .inl (.g9 hK))
 |some i=>
  obtain⟨d,st,hd,hst,hokd,hnum⟩:=hat i rfl;have hr:=hra i d st rfl hd hst;clear hra hrn hat
  unfold JO at hr;dsimp only at hr;have hml:=fV hokd;have hms:=kB hokd;have hbl:=hokd.bx;have hsz:=hokd.sz;obtain⟨mk,hmk⟩:∃m,m=d.marks:=⟨_,rfl⟩
  have hmk2:d.de.boxes=mk:=hmk.symm;rw[←hmk]at hml hms;have hS5:S.length≤8:=by have:=hx.S;dsimp only at this;omega
  have hiS:i < S.length:=(aA.1 hst).1;rw[aF rfl,hmk2]at hr;obtain⟨S2,hS2⟩:∃S2,S2=S.set i 3:=⟨_,rfl⟩
  have eS2:iQ ⟨S,free,⟨c,L⟩,H,D⟩ i 3=⟨S2,free,⟨c,L⟩,H,D⟩:=by rw[hS2];rfl
  rw[eS2]at hr;obtain⟨dn,dsel,dbuy,dcar,diss,dhou,dins,dfrm,dto,dcur,damt,dbx,dterm,dlat,dexp,dten,dduty⟩:=d;dsimp only at hnum hbl hsz;subst hnum;cbv;repeat'((first|refine .e ?_|refine .n fun h=>?_|refine .y fun h=>?_|refine .mk (fun h=>?_) fun h=>?_|fail)<;>cbv)
  all_goals first
  |(rw[aF (by assumption)]at hr
    subst hr
    (refine .q9 ?_;cbv;exact .inl (.g9 hK)))
  |skip
  rw[aE (fun h=>h (by assumption))]at hr;replace hr:r=(⟨S2,free,⟨c,L⟩,H,D⟩,[⟨eS,dbuy,0,26,0,dn,eS,eS,0,day,eS,0,[],mk⟩],0):=hr;subst hr
  (refine XG hsd ((⟨S,free,⟨c,L⟩,H,D⟩,i,3):Cs×Nat×Int) ⟨hS5,hiS⟩ ?_;try dsimp only)
  rw[eS2];cbv
  (refine XG hmr (⟨dn,dsel,dbuy,dcar,diss,dhou,dins,dfrm,dto,dcur,damt,dbx,dterm,dlat,dexp,dten,dduty⟩:iW) hbl ?_;try dsimp only)
  rw[←hmk];cbv;repeat'((first|refine And.intro ?_ ?_|fail)<;>cbv)
  all_goals
   refine cV (Gh.leAt 5 (.row 58 14 (bI dP [⟨eS,dbuy,0,26,0,dn,eS,eS,0,day,eS,0,[],mk⟩])) rfl (sA Aw)) ?_;cbv;refine cV (Gh.plain 5 rfl) ?_;cbv
   (refine .q9 ?_;cbv;exact .inl (.g9 hK))
theorem xI (P:bH) (hde:bJ P 13 mJ) (hsd:bJ P 94 pQ) (hbl5:bJ P 95 yC) (his:bJ P 96 sY) (hla:bJ P 97 Fg):bN P TS (Q0 fun k=>k=5):=by
 intro args H0 K hc;obtain⟨⟨s,name,x,⟨kind,an,deal⟩,day⟩,rfl,rfl,⟨hkind,hs,hx,⟨hnz,hdz⟩,hday⟩,hK⟩:=hc;refine⟨cN,?_⟩;dsimp only at hkind hs hx hnz hdz hday hK⊢;obtain⟨r,hr⟩:∃r,r=jJ eV s.su name x kind deal day:=⟨_,rfl⟩
 rw[←hr]at hK;have hdl:=hs.de;obtain⟨o,ho⟩:∃o,o=cX s.su name deal:=⟨_,rfl⟩
 have hat:∀i,o=some i→∃d st,s.deals[i]?=some d∧x.S[i]?=some st∧Fd d∧d.number=deal:=fun i hi=>by
  rw[ho]at hi;obtain⟨d,h1,h2,h3⟩:=oF hi;have hil:=(aA.1 h1).1;exact⟨d,_,h1,aB (by rw[hx.S];exact hil),hs.ok d (aC h1),h3⟩
 have hrn:o=none→r=(x,[],4):=fun h=>by rw[hr];exact Bz (by omega) (ho.symm.trans h)
 have hra:∀i d st,o=some i→s.deals[i]?=some d→x.S[i]?=some st→r=JO eV name x kind i d.de st day:=fun i d st h1 h3 h4=>by
  rw[hr];exact He (by omega) (ho.symm.trans h1) (by show (s.deals.map iW.de)[i]?=_;rw[aD,h3];rfl) h4
 clear hr;obtain⟨parties,deals,funds,rest,holidays⟩:=s;obtain⟨S,free,⟨c,L⟩,H,D⟩:=x;subst hkind;dsimp only at hdl ho hat hra;cbv;repeat'((first|refine .y fun h=>?_|fail)<;>cbv)
 (refine XG hde ((⟨parties,deals,funds,rest,holidays⟩,name,deal):gW×bG×bG) hdl ?_;try dsimp only)
 rw[←ho];cases o with
 |none=>
  have hr:=hrn rfl;subst hr;cbv;repeat'((first|refine .y fun h=>?_|fail)<;>cbv)
  (refine .q9 ?_;cbv;exact .inl (.g9 hK))
 |some i=>
  obtain⟨d,st,hd,hst,hokd,hnum⟩:=hat i rfl;have hr:=hra i d st rfl hd hst;clear hra hrn hat
  unfold JO at hr;dsimp only at hr;have hml:=fV hokd;have hms:=kB hokd;have hbl:=hokd.bx;have hsz:=hokd.sz;obtain⟨mk,hmk⟩:∃m,m=d.marks:=⟨_,rfl⟩
  have hmk2:d.de.boxes=mk:=hmk.symm;rw[←hmk]at hml hms;have hS5:S.length≤8:=by have:=hx.S;dsimp only at this;omega
  have hiS:i < S.length:=(aA.1 hst).1;rw[aE (by decide)]at hr;have hxf:=hx.few;have hxa:=hx.all;obtain⟨b,hb⟩:∃b:Bl,b=eQ name (cG d.de 0 true) day:=⟨_,rfl⟩
  have hbb:eQ name (cG d.de st true) day=b:=by rw[hb];rfl
  have hbm:b=⟨Dj++d.number,name,d.seller,d.frm,d.to,mk,[],day,true⟩:=by rw[hb,hmk];rfl
  have hbz:b.number.size≤1000∧b.shipper.size≤1000∧b.frm.size≤1000∧b.to.size≤1000:=by
   rw[hbm];have h3:Dj.size=3:=rfl;have:=ByteArray.size_append (a:=Dj) (b:=d.number);exact⟨by dsimp only;omega,by dsimp only;omega,by dsimp only;omega,by dsimp only;omega⟩
  have hIP:Li ⟨⟨c,L⟩,b,d.seller⟩:=by
   refine⟨hxf,fun y hy=>(hxa y hy).2,?_,⟨by show b.number.size≤maxLen;unfold maxLen;omega,by show b.shipper.size≤maxLen;unfold maxLen;omega,by show b.frm.size≤maxLen;unfold maxLen;omega,by show b.to.size≤maxLen;unfold maxLen;omega,?_⟩,by show d.seller.size≤maxLen;unfold maxLen;omega⟩
   ·show b.boxes.length≤5000∧b.parents.length≤5000;rw[hbm];exact⟨by dsimp only;omega,aI _⟩
   ·rw[hbm];intro s hs;cases hs
  have hLP:PG b:=by
   rw[hbm];exact⟨⟨by dsimp only;omega,fun s hs=>by have:=hms s hs;omega⟩,⟨aI _,fun s hs=>by cases hs⟩,hday⟩
  rw[hbb]at hr;obtain⟨⟨dk,dn1,di,dfs⟩,hdc⟩:∃q,q=eV b:=⟨_,rfl⟩
  obtain⟨S2,hS2⟩:∃S2,S2=S.set i 2:=⟨_,rfl⟩
  have eS2:iQ ⟨S,free,⟨c,L⟩,H,D⟩ i 2=⟨S2,free,⟨c,L⟩,H,D⟩:=by rw[hS2];rfl
  rw[eS2,←hdc]at hr;obtain⟨e9,he9⟩:∃e,e=fW ⟨⟨c,L⟩,b,d.seller⟩:=⟨_,rfl⟩
  obtain⟨⟨c9,L9⟩,hR9⟩:∃R,R=iY ⟨⟨c,L⟩,b,d.seller⟩:=⟨_,rfl⟩
  have hr1:st≠1→r=(⟨S,free,⟨c,L⟩,H,D⟩,[],9):=fun h=>by rw[hr,aF h]
  have hr2:st=1→e9≠0→r=(⟨S,free,⟨c,L⟩,H,D⟩,[],e9):=fun h h1=>by
   rw[hr,aE (fun h2=>h2 h)];show (if fW ⟨⟨c,L⟩,b,d.seller⟩≠0 then ((⟨S,free,⟨c,L⟩,H,D⟩:Cs),([]:List dK),fW ⟨⟨c,L⟩,b,d.seller⟩) else _)=_;rw[←he9,aF h1]
  have hr3:st=1→e9=0→r=(⟨S2,free,⟨c9,L9⟩,H,D⟩,[⟨eS,d.seller,0,5,0,d.number,eS,eS,0,day,eS,0,[⟨dk,dn1,di,dfs⟩],[]⟩],0):=fun h h1=>by
   rw[hr,aE (fun h2=>h2 h)];show (if fW ⟨⟨c,L⟩,b,d.seller⟩≠0 then _ else (({ (⟨S2,free,⟨c,L⟩,H,D⟩:Cs)with reg:=iY ⟨⟨c,L⟩,b,d.seller⟩ }:Cs),_))=_;rw[←he9,aE (fun h=>h h1),←hR9];rfl
  clear hr;obtain⟨dn,dsel,dbuy,dcar,diss,dhou,dins,dfrm,dto,dcur,damt,dbx,dterm,dlat,dexp,dten,dduty⟩:=d;dsimp only at hnum hbl hsz;subst hnum;cbv;repeat'((first|refine .e ?_|refine .n fun h=>?_|refine .mk (fun h=>?_) fun h=>?_|fail)<;>cbv)
  all_goals first
  |(have hr:=hr1 (by assumption)
    subst hr
    (refine .q9 ?_;cbv;exact .inl (.g9 hK)))
  |skip
  (refine XG hbl5 (((⟨dn,dsel,dbuy,dcar,diss,dhou,dins,dfrm,dto,dcur,damt,dbx,dterm,dlat,dexp,dten,dduty⟩:iW),name,day):iW×bG×Int) ⟨hbl,hdz⟩ ?_;try dsimp only)
  rw[←hb];obtain⟨bnum,bcar,bshi,bfrm,bto,bboxes,bpar,biss,bcl⟩:=b;cbv
  (refine XG his (⟨⟨c,L⟩,⟨bnum,bcar,bshi,bfrm,bto,bboxes,bpar,biss,bcl⟩,dsel⟩:nX) hIP ?_;try dsimp only)
  rw[←he9,←hR9];cbv;repeat'((first|refine .mk (fun h=>?_) fun h=>?_|fail)<;>cbv)
  all_goals first
  |(have hr:=hr2 (by assumption) (by assumption)
    subst hr
    (refine .q9 ?_;cbv;exact .inl (.g9 hK)))
  |skip
  have hr:=hr3 (by assumption) (by assumption);subst hr
  (refine XG hsd ((⟨S,free,⟨c,L⟩,H,D⟩,i,2):Cs×Nat×Int) ⟨hS5,hiS⟩ ?_;try dsimp only)
  rw[eS2];cbv
  (refine XG hla (⟨bnum,bcar,bshi,bfrm,bto,bboxes,bpar,biss,bcl⟩:Bl) hLP ?_;try dsimp only)
  rw[←hdc];cbv;repeat'((first|refine And.intro ?_ ?_|fail)<;>cbv)
  all_goals
   refine cV (Gh.leAt 8 (.row 58 14 (bI dP [⟨eS,dsel,0,5,0,dn,eS,eS,0,day,eS,0,[⟨dk,dn1,di,dfs⟩],[]⟩])) rfl (sA Aw)) ?_;cbv;refine cV (Gh.plain 8 rfl) ?_;cbv
   (refine .q9 ?_;cbv;exact .inl (.g9 hK))
theorem Ia {P:bH}(hde:bJ P 13 mJ) (hsd:bJ P 94 pQ) (hmr:bJ P 20 mV) (hbl5:bJ P 95 yC) (his:bJ P 96 sY) (hla:bJ P 97 Fg):bN P TS (Q0 fun _=>True):=by
 intro args H0 K hc;obtain⟨q,h1,h2,⟨-,h4⟩,h5⟩:=hc;by_cases k1:q.a.kind=5
 ·exact xI P hde hsd hbl5 his hla args H0 K ⟨q,h1,h2,⟨k1,h4⟩,h5⟩
 by_cases k2:q.a.kind=6
 ·exact xB P hde hsd hmr args H0 K ⟨q,h1,h2,⟨k2,h4⟩,h5⟩
 exact Eo P args H0 K ⟨q,h1,h2,⟨fun h=>by rcases h with h|h<;>contradiction,h4⟩,h5⟩
end Go.Proofs.YtigdiekbiphhmaaGreatDoor
end
