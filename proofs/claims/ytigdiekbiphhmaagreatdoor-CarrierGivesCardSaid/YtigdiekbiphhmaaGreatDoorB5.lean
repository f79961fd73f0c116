/-
  Texts of this proof,joined: RI,RJ,RK,RL,RM,RN,RO,RP,RQ,RR,RS,SA,SB,SC,SD,SE,SF,SG,SGZ,SH,SI,TA,CPA,CPB,CPC,CPD.
-/
import Derived.Test.YtigdiekbiphhmaaGreatDoorB4
import Derived.Shelf.Sort.Plain
import Derived.Shelf.Slices.In.SortNone
import Derived.Sort.OwnSorted
import Derived.Test.YtigdiekbiphhmaaGreatDoorChecked
set_option linter.unusedVariables false
set_option linter.unusedSimpArgs false
noncomputable section
namespace Go.Proofs.YtigdiekbiphhmaaGreatDoor
open Go.RowKit
set_option maxHeartbeats 2000000
set_option maxRecDepth 100000
def oU (l:List oW) (k:Int):Bool:=match l.getLast? with
 |some e=>decide (e.kind=k)
 |none=>false
def Fa (l:List oW) (d:Int):Bool:=match l.getLast? with
 |some e=>decide (d < e.day)
 |none=>false
theorem lJ {l:List oW}(h:l.length=0):l.getLast?=none:=by rw[aR h];rfl
theorem nU {l:List oW}{i:Nat}{e:oW}(h:i+1=l.length) (hl:l[i]?=some e):l.getLast?=some e:=by
 rw[List.getLast?_eq_getElem?,show l.length - 1=i by omega];exact hl
def Bd (k:Int):dN:=spec (fun l:List oW=>[.sl 4 (bI bW l)]) (fun _=>[]) (fun l=>l.length≤5000) (fun l=>.bl (oU l k)) fun _=>[]
theorem FE (P:bH):bN P Vg (Bd 1):=by
 intro args H K hc;obtain⟨c,rfl,rfl,hp,hK⟩:=hc;refine⟨cN,?_⟩;dsimp only at hp hK⊢;have hd:oU c 1=match c.getLast? with
  |some e=>decide (e.kind=1)
  |none=>false:=rfl
 obtain⟨q,hq⟩:∃x,x=(oU c 1):=⟨_,rfl⟩
 rw[←hq]at hK hd;cbv;repeat'((first|refine .mk (fun h=>?_) fun h=>?_|refine .k fun z hz=>?_|fail)<;>cbv)
 ·refine cP bS bS fun i l hi hl=>?_
  obtain⟨f,t,k,d⟩:=l;rw[nU bS hl]at hd;cbv;repeat'((first|refine .mk (fun h=>?_) fun h=>?_|fail)<;>cbv)
  exact XJ.mk ⟨_,Gh.refl _,.inl (.v9 (cD hK (by(rw[hd];simp[*]))))⟩;exact XJ.mk ⟨_,Gh.refl _,.inl (.v9 (cD hK (by(rw[hd];simp[*]))))⟩
 ·rw[lJ bS]at hd;exact XJ.mk ⟨_,Gh.refl _,.inl (.v9 (cD hK (by(rw[hd]))))⟩
theorem EI (P:bH):bN P UB (Bd 2):=by
 intro args H K hc;obtain⟨c,rfl,rfl,hp,hK⟩:=hc;refine⟨cN,?_⟩;dsimp only at hp hK⊢;have hd:oU c 2=match c.getLast? with
  |some e=>decide (e.kind=2)
  |none=>false:=rfl
 obtain⟨q,hq⟩:∃x,x=(oU c 2):=⟨_,rfl⟩
 rw[←hq]at hK hd;cbv;repeat'((first|refine .mk (fun h=>?_) fun h=>?_|refine .k fun z hz=>?_|fail)<;>cbv)
 ·refine cP bS bS fun i l hi hl=>?_
  obtain⟨f,t,k,d⟩:=l;rw[nU bS hl]at hd;cbv;repeat'((first|refine .mk (fun h=>?_) fun h=>?_|fail)<;>cbv)
  exact XJ.mk ⟨_,Gh.refl _,.inl (.v9 (cD hK (by(rw[hd];simp[*]))))⟩;exact XJ.mk ⟨_,Gh.refl _,.inl (.v9 (cD hK (by(rw[hd];simp[*]))))⟩
 ·rw[lJ bS]at hd;exact XJ.mk ⟨_,Gh.refl _,.inl (.v9 (cD hK (by(rw[hd]))))⟩
def wN:oW→Bool
 |⟨f,t,k,d⟩=>bR f && (decide (0≤d) && decide (d≤1048576)) && (if k=1 then decide (t=⟨⟨[]⟩⟩) else if k=0∨k=2 then bR t && !decide (t=f) else false)
def GI:dN:=spec (fun e:oW=>[bW e]) (fun _=>[]) (fun _=>True) (fun e=>.bl (wN e)) fun _=>[]
theorem FS (P:bH) (hn:bJ P 144 (iE (fun _=>True) bR)):bN P U7 GI:=by
 intro args H K hc;obtain⟨⟨f,t,k,d⟩,rfl,rfl,hp,hK⟩:=hc;refine⟨cN,?_⟩;dsimp only at hp hK⊢;have hd:wN ⟨f,t,k,d⟩=(bR f && (decide (0≤d) && decide (d≤1048576)) && (if k=1 then decide (t=⟨⟨[]⟩⟩) else if k=0∨k=2 then bR t && !decide (t=f) else false)):=rfl;obtain⟨q,hq⟩:∃x,x=(wN ⟨f,t,k,d⟩):=⟨_,rfl⟩
 obtain⟨n,hn1⟩:∃x,x=bR f:=⟨_,rfl⟩
 obtain⟨m,hm⟩:∃x,x=(bR t):=⟨_,rfl⟩
 rw[←hq]at hK hd;rw[←hn1,←hm]at hd;cbv
 (refine XG hn f trivial ?_;try dsimp only)
 rw[←hn1];cases n with
 |false=>
  cbv;exact XJ.mk ⟨_,Gh.refl _,.inl (.v9 (cD hK (by(rw[hd];rfl))))⟩
 |true=>
  cbv;repeat'((first|refine .mk (fun h=>?_) fun h=>?_|fail)<;>cbv)
  ·exact XJ.mk ⟨_,Gh.refl _,.inl (.v9 (cD hK (by(rw[hd];simp;omega))))⟩
  ·exact XJ.mk ⟨_,Gh.refl _,.inl (.v9 (cD hK (by(rw[hd];simp;omega))))⟩
  ·exact XJ.mk ⟨_,Gh.refl _,.inl (.v9 (cD hK (by(rw[hd];simp[*]))))⟩
  ·exact XJ.mk ⟨_,Gh.refl _,.inl (.v9 (cD hK (by(rw[hd];simp[*]))))⟩
  all_goals first|exact XJ.mk ⟨_,Gh.refl _,.inl (.v9 (cD hK (by(rw[hd];simp[*]))))⟩|skip
  all_goals
   (refine XG hn t trivial ?_;try dsimp only)
   rw[←hm];cases m with
   |false=>
    cbv;exact XJ.mk ⟨_,Gh.refl _,.inl (.v9 (cD hK (by(rw[hd];clear hn1 hm hq;simp[*]))))⟩
   |true=>
    cbv;repeat'((first|refine .mk (fun h=>?_) fun h=>?_|fail)<;>cbv)
    ·exact XJ.mk ⟨_,Gh.refl _,.inl (.v9 (cD hK (by(rw[hd];clear hn1 hm hq;simp[*]))))⟩
    ·exact XJ.mk ⟨_,Gh.refl _,.inl (.v9 (cD hK (by(rw[hd];clear hn1 hm hq;simp[*]))))⟩
def lQ (holder:bG) (c:List oW) (e:oW):Int:=if wN e=false then 2 else if oU c 2 then 9 else if oU c 1=false∧¬e.frm=holder then 8 else if Fa c e.day then 6 else 0
def Ha:dN:=spec (fun i:bG×List oW×oW=>[.str i.1,.sl 4 (bI bW i.2.1),bW i.2.2]) (fun _=>[]) (fun i=>i.2.1.length≤5000) (fun i=>.i (lQ i.1 i.2.1 i.2.2)) fun _=>[]
theorem FV (P:bH) (hm:bJ P 212 GI) (hb:bJ P 214 (Bd 1)) (hc:bJ P 213 (Bd 2)):bN P Wa Ha:=by
 intro args H K hc;obtain⟨⟨holder,c,⟨f,t,k,d⟩⟩,rfl,rfl,hp,hK⟩:=hc;refine⟨cN,?_⟩;dsimp only at hp hK⊢;have hd:lQ holder c ⟨f,t,k,d⟩=if wN ⟨f,t,k,d⟩=false then 2 else if oU c 2 then 9 else if oU c 1=false∧¬f=holder then 8 else if Fa c d then 6 else 0:=rfl
 have hl:Fa c d=match c.getLast? with
  |some e=>decide (d < e.day)
  |none=>false:=rfl
 obtain⟨q,hq⟩:∃q,q=lQ holder c ⟨f,t,k,d⟩:=⟨_,rfl⟩
 obtain⟨q1,hq1⟩:∃q,q=wN ⟨f,t,k,d⟩:=⟨_,rfl⟩
 obtain⟨q2,hq2⟩:∃q,q=oU c 2:=⟨_,rfl⟩
 obtain⟨q3,hq3⟩:∃q,q=oU c 1:=⟨_,rfl⟩
 obtain⟨q4,hq4⟩:∃q,q=Fa c d:=⟨_,rfl⟩
 rw[←hq]at hK hd;rw[←hq1,←hq2,←hq3,←hq4]at hd;rw[←hq4]at hl;cbv
 (refine XG hm (⟨f,t,k,d⟩:oW) trivial ?_;try dsimp only)
 rw[←hq1];cases q1 with
 |false=>
  cbv;exact XJ.mk ⟨_,Gh.refl _,.inl (.v9 (fS hK (by(rw[hd];rfl))))⟩
 |true=>
  cbv
  (refine XG hc c hp ?_;try dsimp only)
  rw[←hq2];cases q2 with
  |true=>
   cbv;exact XJ.mk ⟨_,Gh.refl _,.inl (.v9 (fS hK (by(rw[hd];rfl))))⟩
  |false=>
   cbv
   (refine XG hb c hp ?_;try dsimp only)
   rw[←hq3];cases q3 with
   |true=>
    cbv;repeat'((first|refine .mk (fun h=>?_) fun h=>?_|refine .k fun z hz=>?_|fail)<;>cbv)
    ·refine cP bS bS fun i l hi hli=>?_
     obtain⟨f',t',k',d'⟩:=l;rw[nU bS hli]at hl;dsimp only at hl;cbv;repeat'((first|refine .mk (fun h=>?_) fun h=>?_|fail)<;>cbv)
     ·rw[aH h]at hl;exact XJ.mk ⟨_,Gh.refl _,.inl (.v9 (fS hK (by(rw[hd,hl];clear hd hq hq1 hq2 hq3 hq4;simp[*]))))⟩
     ·rw[aG (by omega)]at hl;exact XJ.mk ⟨_,Gh.refl _,.inl (.v9 (fS hK (by(rw[hd,hl];clear hd hq hq1 hq2 hq3 hq4;simp[*]))))⟩
    ·rw[lJ bS]at hl;dsimp only at hl;exact XJ.mk ⟨_,Gh.refl _,.inl (.v9 (fS hK (by(rw[hd,hl];clear hd hq hq1 hq2 hq3 hq4;simp[*]))))⟩
   |false=>
    cbv;repeat'((first|refine .mk (fun h=>?_) fun h=>?_|refine .k fun z hz=>?_|fail)<;>cbv)
    ·refine cP bS bS fun i l hi hli=>?_
     obtain⟨f',t',k',d'⟩:=l;rw[nU bS hli]at hl;dsimp only at hl;cbv;repeat'((first|refine .mk (fun h=>?_) fun h=>?_|fail)<;>cbv)
     ·rw[aH h]at hl;exact XJ.mk ⟨_,Gh.refl _,.inl (.v9 (fS hK (by(rw[hd,hl];clear hd hq hq1 hq2 hq3 hq4;simp[*]))))⟩
     ·rw[aG (by omega)]at hl;exact XJ.mk ⟨_,Gh.refl _,.inl (.v9 (fS hK (by(rw[hd,hl];clear hd hq hq1 hq2 hq3 hq4;simp[*]))))⟩
    ·rw[lJ bS]at hl;dsimp only at hl;exact XJ.mk ⟨_,Gh.refl _,.inl (.v9 (fS hK (by(rw[hd,hl];clear hd hq hq1 hq2 hq3 hq4;simp[*]))))⟩
    ·exact XJ.mk ⟨_,Gh.refl _,.inl (.v9 (fS hK (by(rw[hd];clear hd hq hq1 hq2 hq3 hq4;simp[*]))))⟩
def hZ (h:bG) (ahead:List oW):List oW→bG×Int×Int
 |[]=>(h,Int.ofNat ahead.length,0)
 |e :: r=>if lQ h ahead e=0 then hZ e.to (ahead++[e]) r else (⟨⟨[]⟩⟩,Int.ofNat ahead.length,lQ h ahead e)
def lI (first:bG) (l:List oW):bG×Int×Int:=if bR first=false then (⟨⟨[]⟩⟩,0,1) else hZ first [] l
theorem FB {c:List oW}{h:bG}{k:Nat}{e:oW}(he:c[k]?=some e) (hw:lQ h (c.take k) e=0):hZ h (c.take k) (c.drop k)=hZ e.to (c.take (k+1)) (c.drop (k+1)):=by
 obtain⟨hk,rfl⟩:=aA.1 he;rw[List.drop_eq_getElem_cons hk,hZ,aF hw,List.take_succ_eq_append_getElem hk]
theorem D0 {c:List oW}{h:bG}{k:Nat}{e:oW}(he:c[k]?=some e) (hw:¬lQ h (c.take k) e=0):hZ h (c.take k) (c.drop k)=(⟨⟨[]⟩⟩,Int.ofNat k,lQ h (c.take k) e):=by
 obtain⟨hk,rfl⟩:=aA.1 he;rw[List.drop_eq_getElem_cons hk,hZ,aE hw,aS,Nat.min_eq_left (Nat.le_of_lt hk)]
theorem EG {c:List oW}{h:bG}{k:Nat}(hk:k=c.length):hZ h (c.take k) (c.drop k)=(h,Int.ofNat k,0):=by
 rw[List.drop_eq_nil_of_le (by omega),hZ,aS,hk,Nat.min_self]
def Uq:bG×Int×Int→AV
 |(s,i,e)=>.tup [.str s,.i i,.i e]
def FM:dN:=spec (fun i:bG×List oW=>[.str i.1,.sl 4 (bI bW i.2)]) (fun _=>[]) (fun i=>i.2.length≤5000) (fun i=>Uq (lI i.1 i.2)) fun _=>[]
theorem Gk (P:bH) (hn:bJ P 144 (iE (fun _=>True) bR)) (hw:bJ P 205 Ha):bN P UU FM:=by
 intro args H K hc;obtain⟨⟨first,c⟩,rfl,rfl,hp,hK⟩:=hc;refine⟨cN,?_⟩;dsimp only at hp hK⊢;have hd:lI first c=if bR first=false then (⟨⟨[]⟩⟩,0,1) else hZ first (c.take 0) (c.drop 0):=rfl
 obtain⟨q,hq⟩:∃q,q=lI first c:=⟨_,rfl⟩
 obtain⟨n,hn1⟩:∃q,q=bR first:=⟨_,rfl⟩
 rw[←hq]at hK hd;rw[←hn1]at hd;cbv;refine Rv (ι:=Empty) 0 (fun e=>nomatch e) (fun e=>nomatch e) rfl ?_ (fun e=>nomatch e);cbv
 (refine XG hn first trivial ?_;try dsimp only)
 rw[←hn1];cases n with
 |false=>
  rw[aF rfl]at hd;subst hd;cbv;exact XJ.mk ⟨_,Gh.refl _,.inl (.v9 hK)⟩
 |true=>
  rw[aE (by decide)]at hd;cbv;repeat'((first|refine .k fun z hz=>?_|fail)<;>cbv)
  refine bV [] (fun p:{ p:Nat×bG // p.1≤c.length∧q=hZ p.2 (c.take p.1) (c.drop p.1) }=>[(14,.i (nI p.1.1)),(4,.str p.1.2),(5,.i 0),(6,.i 0)]) (fun _=>[]) (fun p=>fK 5001 p.1.1) ⟨(0,first),aI _,hd⟩ ?_;rintro ⟨⟨k,hh⟩,hk,hd⟩;dsimp only at hk hd⊢;cbv;repeat'((first|refine .y fun h=>?_|refine .mk (fun h=>?_) fun h=>?_|refine .k fun z hz=>?_|refine .l fun ys hys hyl=>?_|fail)<;>cbv)
  ·obtain rfl:ys=c.take k:=by rw[hys];simp
   refine cP bS bS fun i l hi hl=>?_
   obtain rfl:k=i:=bS;obtain⟨f',t',k',d'⟩:=l;have e1:=FB (h:=hh) hl;have e2:=D0 (h:=hh) hl;cbv;obtain⟨w,hw1⟩:∃w,w=lQ hh (c.take k) ⟨f',t',k',d'⟩:=⟨_,rfl⟩
   rw[←hw1]at e1 e2
   (refine XG hw (hh,c.take k,(⟨f',t',k',d'⟩:oW)) (by dsimp only;rw[aS];omega) ?_;try dsimp only)
   rw[←hw1];cbv;repeat'((first|refine .e ?_|refine .n fun h=>?_|refine .mk (fun h=>?_) fun h=>?_|refine .k fun z hz=>?_|fail)<;>cbv)
   ·subst h;obtain rfl:z=nI (k+1):=bS;exact bL ⟨(k+1,t'),by exact bS,hd.trans (e1 rfl)⟩ (bM bS)
   ·obtain rfl:=hd.trans (e2 h);exact XJ.mk ⟨_,Gh.refl _,.inl (.v9 hK)⟩
  ·obtain rfl:k=c.length:=bS;obtain rfl:z=nI c.length:=bS;rw[EG rfl]at hd;subst hd;exact XJ.mk ⟨_,Gh.refl _,.inl (.v9 hK)⟩
def C6:dN:=spec (fun i:bG×List oW=>[.str i.1,.sl 4 (bI bW i.2)]) (fun _=>[]) (fun i=>i.2.length≤5000) (fun i=>.str (lI i.1 i.2).1) fun _=>[]
theorem CT (P:bH) (hc:bJ P 186 FM):bN P Up C6:=by
 intro args H K hc;obtain⟨⟨first,c⟩,rfl,rfl,hp,hK⟩:=hc;refine⟨cN,?_⟩;dsimp only at hp hK⊢;obtain⟨⟨h,i,e⟩,hq⟩:∃q,q=lI first c:=⟨_,rfl⟩
 rw[←hq]at hK;dsimp only at hK;cbv
 (refine XG hc (first,c) hp ?_;try dsimp only)
 rw[←hq];cbv;exact XJ.mk ⟨_,Gh.refl _,.inl (.v9 (M0 hK (by rfl)))⟩
def Aa (s:Int):Og→Og
 |⟨_,h,c⟩=>⟨s,h,c⟩
def sO (idx:Int) (f:Og→Og):Br→Br
 |⟨b,st,o0,o1,o2⟩=>⟨b,st,bif eY idx 0 then f o0 else o0,bif eY idx 1 then f o1 else o1,bif eY idx 2 then f o2 else o2⟩
def AK (st:Int):Br→Br
 |⟨b,_,o0,o1,o2⟩=>⟨b,st,Aa 2 o0,Aa 2 o1,Aa 2 o2⟩
def Ub (st:Int):Nat→Br→Br
 |0,⟨b,_,o0,o1,o2⟩=>⟨b,st,o0,o1,o2⟩
 |1,⟨b,_,o0,o1,o2⟩=>⟨b,st,Aa 2 o0,o1,o2⟩
 |2,⟨b,_,o0,o1,o2⟩=>⟨b,st,Aa 2 o0,Aa 2 o1,o2⟩
 |_,⟨b,_,o0,o1,o2⟩=>⟨b,st,Aa 2 o0,Aa 2 o1,Aa 2 o2⟩
def QY:dN:=spec (fun i:Br×Int=>[.ptr 0 0,.i i.2]) (fun i=>rF i.1) (fun _=>True) (fun _=>.tup []) fun i=>rF (AK i.2 i.1)
theorem Mx (P:bH):bN P VR QY:=by
 intro args H K hc;obtain⟨⟨y,st⟩,rfl,rfl,hp,hK⟩:=hc;refine⟨cN,?_⟩;dsimp only at hp hK⊢;obtain⟨⟨nq1,cq1,sq1,frm1,to1,bq1,pq1,iq1,lq1⟩,st1,⟨sa1,ha1,ca1⟩,⟨sb1,hb1,cb1⟩,⟨sc1,hc1,cc1⟩⟩:=y;cbv;refine bV [] (fun p:{ k:Nat // k≤3 }=>[(9,.i (nI p.1))]) (fun p=>rF (Ub st p.1 ⟨⟨nq1,cq1,sq1,frm1,to1,bq1,pq1,iq1,lq1⟩,st1,⟨sa1,ha1,ca1⟩,⟨sb1,hb1,cb1⟩,⟨sc1,hc1,cc1⟩⟩)) (fun p=>fK 3 p.1) ⟨0,by decide⟩ ?_;rintro ⟨k,hk⟩;dsimp only at hk⊢;have hk4:k=0∨k=1∨k=2∨k=3:=by omega
 rcases hk4 with rfl|rfl|rfl|rfl
 ·cbv;repeat'((first|refine .n fun h=>?_|refine .y fun h=>?_|refine .k fun z hz=>?_|refine .o ?_|fail)<;>cbv)
  obtain rfl:z=nI 1:=bS;exact bL ⟨1,by decide⟩ (bM (by decide))
 ·cbv;repeat'((first|refine .n fun h=>?_|refine .y fun h=>?_|refine .k fun z hz=>?_|refine .o ?_|fail)<;>cbv)
  obtain rfl:z=nI 2:=bS;exact bL ⟨2,by decide⟩ (bM (by decide))
 ·cbv;repeat'((first|refine .y fun h=>?_|refine .k fun z hz=>?_|refine .o ?_|fail)<;>cbv)
  obtain rfl:z=nI 3:=bS;exact bL ⟨3,by decide⟩ (bM (by decide))
 ·cbv;repeat'((first|refine .n fun h=>?_|fail)<;>cbv)
  (refine .q9 ?_;cbv;exact .inl (.f9 hK))
def AR (L:List Br) (s:bG) (f:Br→Br):List Br:=match qQ L s with
 |some i=>match L[i]? with
  |some b=>L.set i (f b)
  |none=>L
 |none=>L
theorem gK {L:List Br}{s:bG}{i:Nat}{b:Br}(f:Br→Br) (h:qQ L s=some i) (hb:L[i]?=some b):AR L s f=L.set i (f b):=by unfold AR;rw[h];dsimp only;rw[hb]
def fY (L:List Br) (a:Ak) (f:Br→Br):List Br:=if eE L a=0 then AR L a.bill f else L
theorem kQ {L:List Br}{a:Ak}{i:Nat}{b:Br}(h:eE L a=0) (hi:qQ L a.bill=some i) (hb:L[i]?=some b):lP b a=0:=by
 unfold eE at h;rw[hi]at h;dsimp only at h;rw[hb]at h;exact h
theorem jP {L:List Br}{a:Ak}(h:eE L a=0) (hi:qQ L a.bill=none):False:=by
 unfold eE at h;rw[hi]at h;exact absurd h (show ¬(4:Int)=0 by decide)
theorem mB {b:Br}{a:Ak}(h:lP b a=0):a.least≤a.index∧a.index < 3:=by
 unfold lP at h
 split at h
 ·exact absurd h (by decide)
 ·next hk=>unfold k1 at hk;simp at hk;omega
def Tq (args:Ak→List AV) (f:Ak→Br→Br) (p:Ak→Prop):dN:=spec (fun i:Rg×Ak=>args i.2) (fun i=>lY i.1) (fun i=>(∀b∈i.1.bills,pG b)∧p i.2) (fun i=>.i (eE i.1.bills i.2)) fun i=>lY ⟨i.1.carrier,fY i.1.bills i.2 (f i.2)⟩
def H7 (a:Ak):Br→Br:=sO a.index (Aa 3)
def K6:dN:=Tq (fun a=>[.ptr 0 0,.str a.bill,.i a.index,.str a.by_]) H7 fun a=>a.least=0∧a.state=0∧a.day=0∧a.dated=false∧a.wrong=false
theorem JQ (P:bH) (ha:bJ P 78 Jz):bN P WO K6:=by
 intro args H K hc;obtain⟨⟨⟨carrier,L⟩,⟨bill,index,least,by_,state,day,dated,wrong⟩⟩,rfl,rfl,hp,hK⟩:=hc;refine⟨cN,?_⟩;dsimp only at hp hK⊢;obtain⟨hp,rfl,rfl,rfl,rfl,rfl⟩:=hp;obtain⟨e,he⟩:∃e,e=eE L ⟨bill,index,0,by_,0,0,false,false⟩:=⟨_,rfl⟩
 obtain⟨L',hL'⟩:∃L',L'=fY L ⟨bill,index,0,by_,0,0,false,false⟩ (H7 ⟨bill,index,0,by_,0,0,false,false⟩):=⟨_,rfl⟩
 rw[←he,←hL']at hK;unfold fY at hL';dsimp only at hL';rw[←he]at hL';cbv
 (refine gT ha (⟨carrier,L⟩,⟨bill,index,0,by_,0,0,false,false⟩) [0,1] hp ?_;try dsimp only)
 rw[←he];cbv;repeat'((first|refine .mk (fun h=>?_) fun h=>?_|fail)<;>cbv)
 ·rw[aF h]at hL';refine fR (fun b:Br=>b.b.number) (fun _=>rfl) (fun i y hai hy hky=>?_) (fun hai=>?_)<;>dsimp only at *
  ·have hz:=kQ (he.symm.trans h) hai hy;have hk:=mB hz;clear hz;rw[gK _ hai hy]at hL';dsimp only at hk;have hk3:index=0∨index=1∨index=2:=by omega
   obtain⟨⟨nq1,cq1,sq1,frm1,to1,bq1,pq1,iq1,lq1⟩,st1,⟨sa1,ha1,ca1⟩,⟨sb1,hb1,cb1⟩,⟨sc1,hc1,cc1⟩⟩:=y;rcases hk3 with rfl|rfl|rfl
   ·obtain rfl:L'=L.set i ⟨⟨nq1,cq1,sq1,frm1,to1,bq1,pq1,iq1,lq1⟩,st1,⟨3,ha1,ca1⟩,⟨sb1,hb1,cb1⟩,⟨sc1,hc1,cc1⟩⟩:=hL';cbv;repeat'((first|refine .n fun h=>?_|refine .o ?_|fail)<;>cbv)
    (refine .r9 (Gh.back 1 ([2,3,4,5]) eD ⟨⟨nq1,cq1,sq1,frm1,to1,bq1,pq1,iq1,lq1⟩,st1,⟨3,ha1,ca1⟩,⟨sb1,hb1,cb1⟩,⟨sc1,hc1,cc1⟩⟩ rfl hy) ?_;cbv;exact .inl (.f9 hK))
   ·obtain rfl:L'=L.set i ⟨⟨nq1,cq1,sq1,frm1,to1,bq1,pq1,iq1,lq1⟩,st1,⟨sa1,ha1,ca1⟩,⟨3,hb1,cb1⟩,⟨sc1,hc1,cc1⟩⟩:=hL';cbv;repeat'((first|refine .n fun h=>?_|refine .y fun h=>?_|refine .o ?_|fail)<;>cbv)
    (refine .r9 (Gh.back 1 ([2,3,4,5]) eD ⟨⟨nq1,cq1,sq1,frm1,to1,bq1,pq1,iq1,lq1⟩,st1,⟨sa1,ha1,ca1⟩,⟨3,hb1,cb1⟩,⟨sc1,hc1,cc1⟩⟩ rfl hy) ?_;cbv;exact .inl (.f9 hK))
   ·obtain rfl:L'=L.set i ⟨⟨nq1,cq1,sq1,frm1,to1,bq1,pq1,iq1,lq1⟩,st1,⟨sa1,ha1,ca1⟩,⟨sb1,hb1,cb1⟩,⟨3,hc1,cc1⟩⟩:=hL';cbv;repeat'((first|refine .y fun h=>?_|refine .o ?_|fail)<;>cbv)
    (refine .r9 (Gh.back 1 ([2,3,4,5]) eD ⟨⟨nq1,cq1,sq1,frm1,to1,bq1,pq1,iq1,lq1⟩,st1,⟨sa1,ha1,ca1⟩,⟨sb1,hb1,cb1⟩,⟨3,hc1,cc1⟩⟩ rfl hy) ?_;cbv;exact .inl (.f9 hK))
  ·exact(jP (he.symm.trans h) hai).elim
 ·rw[aE h]at hL';subst hL'
  (refine .q9 ?_;cbv;exact .inl (.f9 hK))
def NK (a:Ak):Br→Br:=sO a.index (Aa 0)
def Ad:dN:=Tq (fun a=>[.ptr 0 0,.str a.bill,.i a.index,.str a.by_,.i a.day]) NK fun a=>a.least=0∧a.state=3∧a.dated=true∧a.wrong=false
theorem CV (P:bH) (ha:bJ P 78 Jz):bN P UR Ad:=by
 intro args H K hc;obtain⟨⟨⟨carrier,L⟩,⟨bill,index,least,by_,state,day,dated,wrong⟩⟩,rfl,rfl,hp,hK⟩:=hc;refine⟨cN,?_⟩;dsimp only at hp hK⊢;obtain⟨hp,rfl,rfl,rfl,rfl⟩:=hp;obtain⟨e,he⟩:∃e,e=eE L ⟨bill,index,0,by_,3,day,true,false⟩:=⟨_,rfl⟩
 obtain⟨L',hL'⟩:∃L',L'=fY L ⟨bill,index,0,by_,3,day,true,false⟩ (NK ⟨bill,index,0,by_,3,day,true,false⟩):=⟨_,rfl⟩
 rw[←he,←hL']at hK;unfold fY at hL';dsimp only at hL';rw[←he]at hL';cbv
 (refine gT ha (⟨carrier,L⟩,⟨bill,index,0,by_,3,day,true,false⟩) [0,1] hp ?_;try dsimp only)
 rw[←he];cbv;repeat'((first|refine .mk (fun h=>?_) fun h=>?_|fail)<;>cbv)
 ·rw[aF h]at hL';refine fR (fun b:Br=>b.b.number) (fun _=>rfl) (fun i y hai hy hky=>?_) (fun hai=>?_)<;>dsimp only at *
  ·have hz:=kQ (he.symm.trans h) hai hy;have hk:=mB hz;clear hz;rw[gK _ hai hy]at hL';dsimp only at hk;have hk3:index=0∨index=1∨index=2:=by omega
   obtain⟨⟨nq1,cq1,sq1,frm1,to1,bq1,pq1,iq1,lq1⟩,st1,⟨sa1,ha1,ca1⟩,⟨sb1,hb1,cb1⟩,⟨sc1,hc1,cc1⟩⟩:=y;rcases hk3 with rfl|rfl|rfl
   ·obtain rfl:L'=L.set i ⟨⟨nq1,cq1,sq1,frm1,to1,bq1,pq1,iq1,lq1⟩,st1,⟨0,ha1,ca1⟩,⟨sb1,hb1,cb1⟩,⟨sc1,hc1,cc1⟩⟩:=hL';cbv;repeat'((first|refine .n fun h=>?_|refine .o ?_|fail)<;>cbv)
    (refine .r9 (Gh.back 1 ([2,3,4,5]) eD ⟨⟨nq1,cq1,sq1,frm1,to1,bq1,pq1,iq1,lq1⟩,st1,⟨0,ha1,ca1⟩,⟨sb1,hb1,cb1⟩,⟨sc1,hc1,cc1⟩⟩ rfl hy) ?_;cbv;exact .inl (.f9 hK))
   ·obtain rfl:L'=L.set i ⟨⟨nq1,cq1,sq1,frm1,to1,bq1,pq1,iq1,lq1⟩,st1,⟨sa1,ha1,ca1⟩,⟨0,hb1,cb1⟩,⟨sc1,hc1,cc1⟩⟩:=hL';cbv;repeat'((first|refine .n fun h=>?_|refine .y fun h=>?_|refine .o ?_|fail)<;>cbv)
    (refine .r9 (Gh.back 1 ([2,3,4,5]) eD ⟨⟨nq1,cq1,sq1,frm1,to1,bq1,pq1,iq1,lq1⟩,st1,⟨sa1,ha1,ca1⟩,⟨0,hb1,cb1⟩,⟨sc1,hc1,cc1⟩⟩ rfl hy) ?_;cbv;exact .inl (.f9 hK))
   ·obtain rfl:L'=L.set i ⟨⟨nq1,cq1,sq1,frm1,to1,bq1,pq1,iq1,lq1⟩,st1,⟨sa1,ha1,ca1⟩,⟨sb1,hb1,cb1⟩,⟨0,hc1,cc1⟩⟩:=hL';cbv;repeat'((first|refine .y fun h=>?_|refine .o ?_|fail)<;>cbv)
    (refine .r9 (Gh.back 1 ([2,3,4,5]) eD ⟨⟨nq1,cq1,sq1,frm1,to1,bq1,pq1,iq1,lq1⟩,st1,⟨sa1,ha1,ca1⟩,⟨sb1,hb1,cb1⟩,⟨0,hc1,cc1⟩⟩ rfl hy) ?_;cbv;exact .inl (.f9 hK))
  ·exact(jP (he.symm.trans h) hai).elim
 ·rw[aE h]at hL';subst hL'
  (refine .q9 ?_;cbv;exact .inl (.f9 hK))
def Qx (a:Ak):Br→Br:=fun b=>sO a.index (Aa 1) (AK 1 b)
def On (L:List Br) (a:Ak):List bG:=if eE L a=0 then (PH L a.bill).1.boxes else []
def rR:dN:=spec (fun i:Rg×Ak=>[.ptr 0 0,.str i.2.bill,.i i.2.index,.str i.2.by_,.i i.2.day]) (fun i=>lY i.1) (fun i=>(∀b∈i.1.bills,pG b∧tY b.b)∧i.2.least=0∧i.2.state=0∧i.2.dated=true∧i.2.wrong=false) (fun i=>.tup [.sl 1 (bI .str (On i.1.bills i.2)),.i (eE i.1.bills i.2)]) fun i=>lY ⟨i.1.carrier,fY i.1.bills i.2 (Qx i.2)⟩
theorem zH (P:bH) (hend:bJ P 147 QY) (hcl:bJ P 87 (lR 1 16)) (ha:bJ P 78 Jz):bN P Uk rR:=by
 intro args H K hc;obtain⟨⟨⟨carrier,L⟩,⟨bill,index,least,by_,state,day,dated,wrong⟩⟩,rfl,rfl,hp,hK⟩:=hc;refine⟨cN,?_⟩;dsimp only at hp hK⊢;obtain⟨hp,rfl,rfl,rfl,rfl⟩:=hp;obtain⟨e,he⟩:∃e,e=eE L ⟨bill,index,0,by_,0,day,true,false⟩:=⟨_,rfl⟩
 obtain⟨L',hL'⟩:∃L',L'=fY L ⟨bill,index,0,by_,0,day,true,false⟩ (Qx ⟨bill,index,0,by_,0,day,true,false⟩):=⟨_,rfl⟩
 obtain⟨l,hl⟩:∃l,l=On L ⟨bill,index,0,by_,0,day,true,false⟩:=⟨_,rfl⟩
 rw[←he,←hL',←hl]at hK;unfold On at hl;dsimp only at hl;rw[←he]at hl;unfold fY at hL';dsimp only at hL';rw[←he]at hL';cbv
 (refine gT ha (⟨carrier,L⟩,⟨bill,index,0,by_,0,day,true,false⟩) [0,1] (fun b hb=>(hp b hb).1) ?_;try dsimp only)
 rw[←he];cbv;repeat'((first|refine .mk (fun h=>?_) fun h=>?_|fail)<;>cbv)
 ·rw[aF h]at hL' hl;rw[h]at hK;refine fR (fun b:Br=>b.b.number) (fun _=>rfl) (fun i y hai hy hky=>?_) (fun hai=>?_)<;>dsimp only at *
  ·have hz:=kQ (he.symm.trans h) hai hy;have hk:=mB hz;clear hz;rw[gK _ hai hy]at hL';dsimp only at hk;have hk3:index=0∨index=1∨index=2:=by omega
   rw[Iq hai hy]at hl;have hob:=(hp y (aC hy)).2;unfold tY at hob;obtain⟨⟨nq1,cq1,sq1,frm1,to1,bq1,pq1,iq1,lq1⟩,st1,⟨sa1,ha1,ca1⟩,⟨sb1,hb1,cb1⟩,⟨sc1,hc1,cc1⟩⟩:=y;dsimp only at hl hob;subst l;rcases hk3 with rfl|rfl|rfl
   ·obtain rfl:L'=L.set i ⟨⟨nq1,cq1,sq1,frm1,to1,bq1,pq1,iq1,lq1⟩,1,⟨1,ha1,ca1⟩,⟨2,hb1,cb1⟩,⟨2,hc1,cc1⟩⟩:=hL';cbv
    (refine gT hend (⟨⟨nq1,cq1,sq1,frm1,to1,bq1,pq1,iq1,lq1⟩,st1,⟨sa1,ha1,ca1⟩,⟨sb1,hb1,cb1⟩,⟨sc1,hc1,cc1⟩⟩,1) [2,3,4,5] trivial ?_;try dsimp only)
    cbv;repeat'((first|refine .n fun h=>?_|refine .o ?_|fail)<;>cbv)
    (refine XG hcl _ ⟨by rw[bY];unfold maxLen;omega,by rw[bY];omega⟩ ?_;try dsimp only)
    cbv
    (refine .r9 (Gh.back 1 ([2,3,4,5]) eD ⟨⟨nq1,cq1,sq1,frm1,to1,bq1,pq1,iq1,lq1⟩,1,⟨1,ha1,ca1⟩,⟨2,hb1,cb1⟩,⟨2,hc1,cc1⟩⟩ rfl hy) ?_;cbv;exact .inl (.f9 hK))
   ·obtain rfl:L'=L.set i ⟨⟨nq1,cq1,sq1,frm1,to1,bq1,pq1,iq1,lq1⟩,1,⟨2,ha1,ca1⟩,⟨1,hb1,cb1⟩,⟨2,hc1,cc1⟩⟩:=hL';cbv
    (refine gT hend (⟨⟨nq1,cq1,sq1,frm1,to1,bq1,pq1,iq1,lq1⟩,st1,⟨sa1,ha1,ca1⟩,⟨sb1,hb1,cb1⟩,⟨sc1,hc1,cc1⟩⟩,1) [2,3,4,5] trivial ?_;try dsimp only)
    cbv;repeat'((first|refine .n fun h=>?_|refine .y fun h=>?_|refine .o ?_|fail)<;>cbv)
    (refine XG hcl _ ⟨by rw[bY];unfold maxLen;omega,by rw[bY];omega⟩ ?_;try dsimp only)
    cbv
    (refine .r9 (Gh.back 1 ([2,3,4,5]) eD ⟨⟨nq1,cq1,sq1,frm1,to1,bq1,pq1,iq1,lq1⟩,1,⟨2,ha1,ca1⟩,⟨1,hb1,cb1⟩,⟨2,hc1,cc1⟩⟩ rfl hy) ?_;cbv;exact .inl (.f9 hK))
   ·obtain rfl:L'=L.set i ⟨⟨nq1,cq1,sq1,frm1,to1,bq1,pq1,iq1,lq1⟩,1,⟨2,ha1,ca1⟩,⟨2,hb1,cb1⟩,⟨1,hc1,cc1⟩⟩:=hL';cbv
    (refine gT hend (⟨⟨nq1,cq1,sq1,frm1,to1,bq1,pq1,iq1,lq1⟩,st1,⟨sa1,ha1,ca1⟩,⟨sb1,hb1,cb1⟩,⟨sc1,hc1,cc1⟩⟩,1) [2,3,4,5] trivial ?_;try dsimp only)
    cbv;repeat'((first|refine .y fun h=>?_|refine .o ?_|fail)<;>cbv)
    (refine XG hcl _ ⟨by rw[bY];unfold maxLen;omega,by rw[bY];omega⟩ ?_;try dsimp only)
    cbv
    (refine .r9 (Gh.back 1 ([2,3,4,5]) eD ⟨⟨nq1,cq1,sq1,frm1,to1,bq1,pq1,iq1,lq1⟩,1,⟨2,ha1,ca1⟩,⟨2,hb1,cb1⟩,⟨1,hc1,cc1⟩⟩ rfl hy) ?_;cbv;exact .inl (.f9 hK))
  ·exact(jP (he.symm.trans h) hai).elim
 ·rw[aE h]at hL' hl;subst hL';subst hl
  (refine .q9 ?_;cbv;exact .inl (.g9 hK))
def sM (f t:bG) (d:Int):Og→Og
 |⟨s,h,c⟩=>⟨s,(lI h [⟨f,t,0,d⟩]).1,c++[⟨f,t,0,d⟩]⟩
def hU (by_ to:bG):Bool:=!bR to || decide (to=by_)
def Ar:dN:=spec (fun i:Rg×Ak×bG=>[.ptr 0 0,.str i.2.1.bill,.i i.2.1.index,.str i.2.1.by_,.str i.2.2,.i i.2.1.day]) (fun i=>lY i.1) (fun i=>(∀b∈i.1.bills,pG b)∧i.2.1.least=-1∧i.2.1.state=0∧i.2.1.dated=true∧i.2.1.wrong=hU i.2.1.by_ i.2.2) (fun i=>.i (eE i.1.bills i.2.1)) fun i=>lY ⟨i.1.carrier,fY i.1.bills i.2.1 (sO i.2.1.index (sM i.2.1.by_ i.2.2 i.2.1.day))⟩
def fP {α:Type}:Nat→α→α→α→α→α
 |0,a,_,_,_=>a
 |1,_,b,_,_=>b
 |2,_,_,c,_=>c
 |_,_,_,_,d=>d
theorem lW {idx k:Int}(h:idx=-1∨idx=k):eY idx k=true:=by unfold eY;rcases h with h|h<;>rw[aH h]<;>simp
theorem Bg {L:List Br}{a:Ak}(hw:a.wrong=true):eE L a≠0:=by
 unfold eE
 split
 ·split
  ·unfold lP;have h2:k2 a=true:=by unfold k2;rw[hw];rfl
   rw[h2,aF rfl]
   split
   ·exact(by decide:(3:Int)≠0)
   ·exact(by decide:(1:Int)≠0)
  ·exact(by decide:(4:Int)≠0)
 ·exact(by decide:(4:Int)≠0)
theorem Ch (P:bH) (hn:bJ P 144 (iE (fun _=>True) bR)) (ha:bJ P 78 Jz) (hh:bJ P 145 C6):bN P Ue Ar:=by
 intro args H K hc;obtain⟨⟨⟨carrier,L⟩,⟨bill,index,least,by_,state,day,dated,wrong⟩,to⟩,rfl,rfl,hp,hK⟩:=hc;refine⟨cN,?_⟩;dsimp only at hp hK⊢;obtain⟨hp,rfl,rfl,rfl,hwr⟩:=hp;unfold hU at hwr;obtain⟨e,he⟩:∃e,e=eE L ⟨bill,index,-1,by_,0,day,true,wrong⟩:=⟨_,rfl⟩
 obtain⟨L',hL'⟩:∃L',L'=fY L ⟨bill,index,-1,by_,0,day,true,wrong⟩ (sO index (sM by_ to day)):=⟨_,rfl⟩
 obtain⟨n,hn1⟩:∃n,n=bR to:=⟨_,rfl⟩
 rw[←he,←hL']at hK;rw[←hn1]at hwr;unfold fY at hL';dsimp only at hL';rw[←he]at hL';cbv
 (refine XG hn to trivial ?_;try dsimp only)
 rw[←hn1];have hw3:(n=false∧wrong=true)∨(n=true∧to=by_∧wrong=true)∨(n=true∧¬to=by_∧wrong=false):=by
  rw[hwr];cases n<;>by_cases ht:to=by_<;>simp[ht]
 clear hwr;obtain⟨q0,hq0⟩:∃q,q=eY index 0:=⟨_,rfl⟩
 obtain⟨q1,hq1⟩:∃q,q=eY index 1:=⟨_,rfl⟩
 obtain⟨q2,hq2⟩:∃q,q=eY index 2:=⟨_,rfl⟩
 rcases hw3 with ⟨rfl,rfl⟩|⟨rfl,ht,rfl⟩|⟨rfl,ht,rfl⟩
 ·have hne:=Bg (L:=L) (a:=⟨bill,index,-1,by_,0,day,true,true⟩) rfl;rw[←he]at hne;rw[aE hne]at hL';rw[hL']at hK;cbv
  (refine gT ha (⟨carrier,L⟩,⟨bill,index,-1,by_,0,day,true,true⟩) [0,1] hp ?_;try dsimp only)
  rw[←he];cbv;repeat'((first|refine .n fun h=>?_|fail)<;>cbv)
  (refine .q9 ?_;cbv;exact .inl (.f9 hK))
 ·have hne:=Bg (L:=L) (a:=⟨bill,index,-1,by_,0,day,true,true⟩) rfl;rw[←he]at hne;rw[aE hne]at hL';rw[hL']at hK;cbv;repeat'((first|refine .mk (fun h=>?_) fun h=>?_|fail)<;>cbv)
  ·(refine gT ha (⟨carrier,L⟩,⟨bill,index,-1,by_,0,day,true,true⟩) [0,1] hp ?_;try dsimp only)
   rw[←he];cbv;repeat'((first|refine .n fun h=>?_|fail)<;>cbv)
   (refine .q9 ?_;cbv;exact .inl (.f9 hK))
  ·exact(h ht).elim
 ·cbv;repeat'((first|refine .mk (fun h=>?_) fun h=>?_|fail)<;>cbv)
  ·exact(ht h).elim
  ·(refine gT ha (⟨carrier,L⟩,⟨bill,index,-1,by_,0,day,true,false⟩) [0,1] hp ?_;try dsimp only)
   rw[←he];cbv;repeat'((first|refine .mk (fun h=>?_) fun h=>?_|fail)<;>cbv)
   ·rw[aF ‹e=0›]at hL';rw[‹e=0›]at hK;refine fR (fun b:Br=>b.b.number) (fun _=>rfl) (fun i y hai hy hky=>?_) (fun hai=>?_)<;>dsimp only at *
    ·rw[gK _ hai hy]at hL';have hch:=hp y (aC hy);obtain⟨⟨nq1,cq1,sq1,frm1,to1,bq1,pq1,iq1,lq1⟩,st1,⟨sa1,ha1,ca1⟩,⟨sb1,hb1,cb1⟩,⟨sc1,hc1,cc1⟩⟩:=y;unfold pG at hch;dsimp only at hch;obtain⟨hch0,hch1,hch2⟩:=hch;obtain⟨⟨ux,xh,xc⟩,hx⟩:∃o,o=bif q0 then sM by_ to day ⟨sa1,ha1,ca1⟩ else ⟨sa1,ha1,ca1⟩:=⟨_,rfl⟩
     obtain⟨⟨uy,yh,yc⟩,hyy⟩:∃o,o=bif q1 then sM by_ to day ⟨sb1,hb1,cb1⟩ else ⟨sb1,hb1,cb1⟩:=⟨_,rfl⟩
     obtain⟨⟨uz,zh,zc⟩,hzz⟩:∃o,o=bif q2 then sM by_ to day ⟨sc1,hc1,cc1⟩ else ⟨sc1,hc1,cc1⟩:=⟨_,rfl⟩
     obtain⟨⟨m0,mi0,me0⟩,hm0⟩:∃m,m=lI ha1 [⟨by_,to,0,day⟩]:=⟨_,rfl⟩
     obtain⟨⟨m1,mi1,me1⟩,hm1⟩:∃m,m=lI hb1 [⟨by_,to,0,day⟩]:=⟨_,rfl⟩
     obtain⟨⟨m2,mi2,me2⟩,hm2⟩:∃m,m=lI hc1 [⟨by_,to,0,day⟩]:=⟨_,rfl⟩
     unfold sO at hL';dsimp only at hL';rw[←hq0,←hq1,←hq2,←hx,←hyy,←hzz]at hL';subst hL';cbv;refine bV [] (fun p:{ k:Nat // k≤3 }=>[(42,.i (nI p.1))]) (fun p=>[.blk 122 [.str carrier,.ph 1],.pool 120 (bI eD L) [(i,.ptr 2 0)]]++gC [] 2 (rF (fP p.1 ⟨⟨nq1,cq1,sq1,frm1,to1,bq1,pq1,iq1,lq1⟩,st1,⟨sa1,ha1,ca1⟩,⟨sb1,hb1,cb1⟩,⟨sc1,hc1,cc1⟩⟩ ⟨⟨nq1,cq1,sq1,frm1,to1,bq1,pq1,iq1,lq1⟩,st1,⟨ux,xh,xc⟩,⟨sb1,hb1,cb1⟩,⟨sc1,hc1,cc1⟩⟩ ⟨⟨nq1,cq1,sq1,frm1,to1,bq1,pq1,iq1,lq1⟩,st1,⟨ux,xh,xc⟩,⟨uy,yh,yc⟩,⟨sc1,hc1,cc1⟩⟩ ⟨⟨nq1,cq1,sq1,frm1,to1,bq1,pq1,iq1,lq1⟩,st1,⟨ux,xh,xc⟩,⟨uy,yh,yc⟩,⟨uz,zh,zc⟩⟩))) (fun p=>fK 3 p.1) ⟨0,by decide⟩ ?_;rintro ⟨k,hk⟩;dsimp only at hk⊢;have hk4:k=0∨k=1∨k=2∨k=3:=by omega
     rcases hk4 with rfl|rfl|rfl|rfl
     ·cases q0 with
      |true=>
       obtain⟨rfl,rfl,rfl⟩:ux=sa1∧xh=m0∧xc=ca1++[⟨by_,to,0,day⟩]:=by
        unfold sM at hx;dsimp only at hx;rw[←hm0]at hx;injection hx with h1 h2 h3
        exact⟨h1,h2,h3⟩
       cbv;repeat'((first|refine .n fun h=>?_|refine .y fun h=>?_|refine .mk (fun h=>?_) fun h=>?_|refine .k fun z hz=>?_|refine .o ?_|refine .zl fun zs hzs hzl=>?_|fail)<;>cbv)
       ·refine fD 9 rfl ?_;cbv
        (refine XG hh (ha1,[⟨by_,to,0,day⟩]) (Nat.le_add_left 1 4999) ?_;try dsimp only)
        rw[←hm0];dsimp only;obtain rfl:zs=bI bW (ca1++[(⟨by_,to,0,day⟩:oW)]):=by(rw[cB,cE];first|exact hzs|(subst_vars;rfl))
        cbv;repeat'((first|refine .k fun z hz=>?_|fail)<;>cbv)
        obtain rfl:z=nI 1:=bS;exact bL ⟨1,by decide⟩ (bM (by decide))
       ·refine fD 9 rfl ?_;cbv
        (refine XG hh (ha1,[⟨by_,to,0,day⟩]) (Nat.le_add_left 1 4999) ?_;try dsimp only)
        rw[←hm0];dsimp only;obtain rfl:zs=bI bW (ca1++[(⟨by_,to,0,day⟩:oW)]):=by(rw[cB,cE];first|exact hzs|(subst_vars;rfl))
        cbv;repeat'((first|refine .k fun z hz=>?_|fail)<;>cbv)
        obtain rfl:z=nI 1:=bS;exact bL ⟨1,by decide⟩ (bM (by decide))
       ·exact absurd (hq0.trans (jN ‹¬index=-1› ‹¬index=Int.ofNat 0›)) (by decide)
      |false=>
       obtain⟨rfl,rfl,rfl⟩:ux=sa1∧xh=ha1∧xc=ca1:=by
        injection hx with h1 h2 h3
        exact⟨h1,h2,h3⟩
       cbv;repeat'((first|refine .n fun h=>?_|refine .y fun h=>?_|refine .mk (fun h=>?_) fun h=>?_|refine .k fun z hz=>?_|refine .o ?_|refine .zl fun zs hzs hzl=>?_|fail)<;>cbv)
       ·exact absurd (hq0.trans (lW (.inl ‹index=-1›))) (by decide)
       ·exact absurd (hq0.trans (lW (.inr ‹index=Int.ofNat 0›))) (by decide)
       ·obtain rfl:z=nI 1:=bS;exact bL ⟨1,by decide⟩ (bM (by decide))
     ·cases q1 with
      |true=>
       obtain⟨rfl,rfl,rfl⟩:uy=sb1∧yh=m1∧yc=cb1++[⟨by_,to,0,day⟩]:=by
        unfold sM at hyy;dsimp only at hyy;rw[←hm1]at hyy;injection hyy with h1 h2 h3
        exact⟨h1,h2,h3⟩
       cbv;repeat'((first|refine .n fun h=>?_|refine .y fun h=>?_|refine .mk (fun h=>?_) fun h=>?_|refine .k fun z hz=>?_|refine .o ?_|refine .zl fun zs hzs hzl=>?_|fail)<;>cbv)
       ·refine fD 9 rfl ?_;cbv
        (refine XG hh (hb1,[⟨by_,to,0,day⟩]) (Nat.le_add_left 1 4999) ?_;try dsimp only)
        rw[←hm1];dsimp only;obtain rfl:zs=bI bW (cb1++[(⟨by_,to,0,day⟩:oW)]):=by(rw[cB,cE];first|exact hzs|(subst_vars;rfl))
        cbv;repeat'((first|refine .k fun z hz=>?_|fail)<;>cbv)
        obtain rfl:z=nI 2:=bS;exact bL ⟨2,by decide⟩ (bM (by decide))
       ·refine fD 9 rfl ?_;cbv
        (refine XG hh (hb1,[⟨by_,to,0,day⟩]) (Nat.le_add_left 1 4999) ?_;try dsimp only)
        rw[←hm1];dsimp only;obtain rfl:zs=bI bW (cb1++[(⟨by_,to,0,day⟩:oW)]):=by(rw[cB,cE];first|exact hzs|(subst_vars;rfl))
        cbv;repeat'((first|refine .k fun z hz=>?_|fail)<;>cbv)
        obtain rfl:z=nI 2:=bS;exact bL ⟨2,by decide⟩ (bM (by decide))
       ·exact absurd (hq1.trans (jN ‹¬index=-1› ‹¬index=Int.ofNat 1›)) (by decide)
      |false=>
       obtain⟨rfl,rfl,rfl⟩:uy=sb1∧yh=hb1∧yc=cb1:=by
        injection hyy with h1 h2 h3
        exact⟨h1,h2,h3⟩
       cbv;repeat'((first|refine .n fun h=>?_|refine .y fun h=>?_|refine .mk (fun h=>?_) fun h=>?_|refine .k fun z hz=>?_|refine .o ?_|refine .zl fun zs hzs hzl=>?_|fail)<;>cbv)
       ·exact absurd (hq1.trans (lW (.inl ‹index=-1›))) (by decide)
       ·exact absurd (hq1.trans (lW (.inr ‹index=Int.ofNat 1›))) (by decide)
       ·obtain rfl:z=nI 2:=bS;exact bL ⟨2,by decide⟩ (bM (by decide))
     ·cases q2 with
      |true=>
       obtain⟨rfl,rfl,rfl⟩:uz=sc1∧zh=m2∧zc=cc1++[⟨by_,to,0,day⟩]:=by
        unfold sM at hzz;dsimp only at hzz;rw[←hm2]at hzz;injection hzz with h1 h2 h3
        exact⟨h1,h2,h3⟩
       cbv;repeat'((first|refine .y fun h=>?_|refine .mk (fun h=>?_) fun h=>?_|refine .k fun z hz=>?_|refine .o ?_|refine .zl fun zs hzs hzl=>?_|fail)<;>cbv)
       ·refine fD 9 rfl ?_;cbv
        (refine XG hh (hc1,[⟨by_,to,0,day⟩]) (Nat.le_add_left 1 4999) ?_;try dsimp only)
        rw[←hm2];dsimp only;obtain rfl:zs=bI bW (cc1++[(⟨by_,to,0,day⟩:oW)]):=by(rw[cB,cE];first|exact hzs|(subst_vars;rfl))
        cbv;repeat'((first|refine .k fun z hz=>?_|fail)<;>cbv)
        obtain rfl:z=nI 3:=bS;exact bL ⟨3,by decide⟩ (bM (by decide))
       ·refine fD 9 rfl ?_;cbv
        (refine XG hh (hc1,[⟨by_,to,0,day⟩]) (Nat.le_add_left 1 4999) ?_;try dsimp only)
        rw[←hm2];dsimp only;obtain rfl:zs=bI bW (cc1++[(⟨by_,to,0,day⟩:oW)]):=by(rw[cB,cE];first|exact hzs|(subst_vars;rfl))
        cbv;repeat'((first|refine .k fun z hz=>?_|fail)<;>cbv)
        obtain rfl:z=nI 3:=bS;exact bL ⟨3,by decide⟩ (bM (by decide))
       ·exact absurd (hq2.trans (jN ‹¬index=-1› ‹¬index=Int.ofNat 2›)) (by decide)
      |false=>
       obtain⟨rfl,rfl,rfl⟩:uz=sc1∧zh=hc1∧zc=cc1:=by
        injection hzz with h1 h2 h3
        exact⟨h1,h2,h3⟩
       cbv;repeat'((first|refine .y fun h=>?_|refine .mk (fun h=>?_) fun h=>?_|refine .k fun z hz=>?_|refine .o ?_|refine .zl fun zs hzs hzl=>?_|fail)<;>cbv)
       ·exact absurd (hq2.trans (lW (.inl ‹index=-1›))) (by decide)
       ·exact absurd (hq2.trans (lW (.inr ‹index=Int.ofNat 2›))) (by decide)
       ·obtain rfl:z=nI 3:=bS;exact bL ⟨3,by decide⟩ (bM (by decide))
     ·cbv;repeat'((first|refine .n fun h=>?_|fail)<;>cbv)
      (refine .r9 (Gh.back 1 ([2,3,4,5]) eD ⟨⟨nq1,cq1,sq1,frm1,to1,bq1,pq1,iq1,lq1⟩,st1,⟨ux,xh,xc⟩,⟨uy,yh,yc⟩,⟨uz,zh,zc⟩⟩ rfl hy) ?_;cbv;exact .inl (.f9 hK))
    ·exact(jP (he.symm.trans ‹e=0›) hai).elim
   ·rw[aE h]at hL';subst hL'
    (refine .q9 ?_;cbv;exact .inl (.f9 hK))
def WX:bG×Bool→AV
 |(s,b)=>.tup [.str s,.bl b]
structure Vz where
 bill:bG
 index:Int
 state:Int
 holder:bG
def Uc:Vz→AV
 |⟨b,i,s,h⟩=>.agg [.str b,.i i,.i s,.str h]
def NH (s:bG):Br→List Vz
 |⟨_,_,⟨sa,ha,_⟩,⟨sb,hb,_⟩,⟨sc,hc,_⟩⟩=>[⟨s,0,sa,ha⟩,⟨s,1,sb,hb⟩,⟨s,2,sc,hc⟩]
def AO (L:List Br) (s:bG):List Vz:=match qQ L s with
 |some i=>match L[i]? with
  |some b=>NH s b
  |none=>[]
 |none=>[]
theorem Iv {L:List Br}{s:bG}{i:Nat}{y:Br}(h:qQ L s=some i) (hy:L[i]?=some y):AO L s=NH s y:=by unfold AO;rw[h];dsimp only;rw[hy]
theorem I9 {L:List Br}{s:bG}(h:qQ L s=none):AO L s=[]:=by unfold AO;rw[h]
def rV:dN:=spec (fun i:Rg×bG=>[.ptr 0 0,.str i.2]) (fun i=>lY i.1) (fun _=>True) (fun i=>.sl 4 (bI Uc (AO i.1.bills i.2))) fun i=>lY i.1
theorem yT (P:bH):bN P W9 rV:=by
 intro args H K hc;obtain⟨⟨⟨carrier,L⟩,s⟩,rfl,rfl,hp,hK⟩:=hc;refine⟨cN,?_⟩;dsimp only at hp hK⊢;obtain⟨q,hq⟩:∃q,q=AO L s:=⟨_,rfl⟩
 rw[←hq]at hK;cbv;refine fR (fun b:Br=>b.b.number) (fun _=>rfl) (fun i y hai hy hky=>?_) (fun hai=>?_)<;>dsimp only at *
 ·rw[Iv hai hy]at hq;obtain⟨⟨nq1,cq1,sq1,frm1,to1,bq1,pq1,iq1,lq1⟩,st1,⟨sa1,ha1,ca1⟩,⟨sb1,hb1,cb1⟩,⟨sc1,hc1,cc1⟩⟩:=y;obtain rfl:q=[⟨s,0,sa1,ha1⟩,⟨s,1,sb1,hb1⟩,⟨s,2,sc1,hc1⟩]:=hq;cbv;repeat'((first|refine .zl fun zs hzs hzl=>?_|fail)<;>cbv)
  obtain rfl:zs=[]:=hzs;refine iI Gh.viewT ?_;cbv;refine bV [6] (fun p:{ k:Nat // k≤3 }=>[(22,.i (nI p.1)),(6,.hd 6)]) (fun p=>[.blk 122 [.str carrier,.ph 1],.pool 120 (bI eD L) [(i,.ptr 2 0)]]++gC [] 2 (rF ⟨⟨nq1,cq1,sq1,frm1,to1,bq1,pq1,iq1,lq1⟩,st1,⟨sa1,ha1,ca1⟩,⟨sb1,hb1,cb1⟩,⟨sc1,hc1,cc1⟩⟩)++[.row 49 4 (fP p.1 [] [.agg [.str s,.i 0,.i sa1,.str ha1]] [.agg [.str s,.i 0,.i sa1,.str ha1],.agg [.str s,.i 1,.i sb1,.str hb1]] [.agg [.str s,.i 0,.i sa1,.str ha1],.agg [.str s,.i 1,.i sb1,.str hb1],.agg [.str s,.i 2,.i sc1,.str hc1]])]) (fun p=>fK 3 p.1) ⟨0,by decide⟩ ?_;rintro ⟨k,hk⟩;dsimp only at hk⊢;have hk4:k=0∨k=1∨k=2∨k=3:=by omega
  rcases hk4 with rfl|rfl|rfl|rfl
  ·cbv;repeat'((first|refine .n fun h=>?_|refine .y fun h=>?_|refine .k fun z hz=>?_|refine .o ?_|refine .zl fun zs hzs hzl=>?_|fail)<;>cbv)
   obtain rfl:zs=[.agg [.str s,.i 0,.i sa1,.str ha1]]:=hzs;obtain rfl:z=nI 1:=bS;exact bL ⟨1,by decide⟩ (bM (by decide))
  ·cbv;repeat'((first|refine .n fun h=>?_|refine .y fun h=>?_|refine .k fun z hz=>?_|refine .o ?_|refine .zl fun zs hzs hzl=>?_|fail)<;>cbv)
   obtain rfl:zs=[.agg [.str s,.i 0,.i sa1,.str ha1],.agg [.str s,.i 1,.i sb1,.str hb1]]:=hzs;obtain rfl:z=nI 2:=bS;exact bL ⟨2,by decide⟩ (bM (by decide))
  ·cbv;repeat'((first|refine .y fun h=>?_|refine .k fun z hz=>?_|refine .o ?_|refine .zl fun zs hzs hzl=>?_|fail)<;>cbv)
   obtain rfl:zs=[.agg [.str s,.i 0,.i sa1,.str ha1],.agg [.str s,.i 1,.i sb1,.str hb1],.agg [.str s,.i 2,.i sc1,.str hc1]]:=hzs;obtain rfl:z=nI 3:=bS;exact bL ⟨3,by decide⟩ (bM (by decide))
  ·cbv;repeat'((first|refine .n fun h=>?_|fail)<;>cbv)
   (refine .r9 ((Gh.plain 6 rfl).trans (Gh.back0 1 [2,3,4,5] eD rfl hy)) ?_;cbv;exact .inl (.g9 hK))
 ·rw[I9 hai]at hq;subst hq;cbv
  (refine .q9 ?_;cbv;exact .inl (.g9 hK))
def xE (p:bG→Bool) (l:List bG):Int:=match l.findIdx? p with
 |some i=>Int.ofNat i
 |none=>-1
def mS (p:bG→Bool) (l:List bG) (k:Nat):Prop:=∀j y,j < k→l[j]?=some y→p y=false
theorem mS.zero {p:bG→Bool}{l:List bG}:mS p l 0:=fun j y h=>absurd h (Nat.not_lt_zero j)
theorem mS.succ {p:bG→Bool}{l:List bG}{k:Nat}{x:bG}(h:mS p l k) (hx:l[k]?=some x) (hp:p x=false):mS p l (k+1):=fun j y hj hy=>by
 rcases aL j k with h1|h1
 ·exact h j y h1 hy
 ·obtain rfl:j=k:=by omega
  rw[hx]at hy;cases hy;exact hp
theorem Di {p:bG→Bool}{l:List bG}{k:Nat}{x:bG}(h:mS p l k) (hx:l[k]?=some x) (hp:p x=true):xE p l=Int.ofNat k:=by
 obtain⟨hk,rfl⟩:=aA.1 hx;have e:l.findIdx? p=some k:=List.findIdx?_eq_some_iff_getElem.2 ⟨hk,hp,fun j hj=>by rw[h j _ hj (aB (by omega))];decide⟩;unfold xE;rw[e]
theorem vC {p:bG→Bool}{l:List bG}(h:mS p l l.length):xE p l=-1:=by
 have e:l.findIdx? p=none:=List.findIdx?_eq_none_iff.2 fun x hx=>by
  obtain⟨j,hj,rfl⟩:=List.mem_iff_getElem.1 hx;exact h j _ hj (aB hj)
 unfold xE;rw[e]
theorem Aq (p:bG→Bool) (l:List bG):decide (0≤xE p l)=l.any p:=by
 unfold xE;cases e:l.findIdx? p with
 |none=>
  rw[List.findIdx?_eq_none_iff]at e;have:l.any p=false:=by
   rw[List.any_eq_false];intro x hx;rw[e x hx];decide
  rw[this];rfl
 |some i=>
  rw[List.findIdx?_eq_some_iff_getElem]at e;obtain⟨hi,h1,_⟩:=e;have:l.any p=true:=List.any_eq_true.2 ⟨_,List.getElem_mem hi,h1⟩;rw[this];exact aH (Int.natCast_nonneg i)
def Gw:dN:=spec (fun i:List bG×bG=>[.sl 1 (bI .str i.1),.str i.2]) (fun _=>[]) (fun i=>i.1.length≤5000) (fun i=>.i (xE (fun x=>decide (i.2=x)) i.1)) fun _=>[]
theorem G0 (P:bH):bN P UW Gw:=by
 intro args H K hc;obtain⟨⟨l,s⟩,rfl,rfl,hp,hK⟩:=hc;refine⟨cN,?_⟩;dsimp only at hp hK⊢;obtain⟨p,hpp⟩:∃p:bG→Bool,p=fun x=>decide (s=x):=⟨_,rfl⟩
 rw[←hpp]at hK;have hpx:∀x,p x=decide (s=x):=fun x=>by rw[hpp]
 clear hpp;cbv;repeat'((first|refine .k fun z hz=>?_|fail)<;>cbv)
 refine bV [] (fun q:{ k:Nat // k≤l.length∧mS p l k }=>[(8,.i (nI q.1))]) (fun _=>[]) (fun q=>fK 5001 q.1) ⟨0,aI _,.zero⟩ ?_;rintro ⟨k,hk,hn⟩;dsimp only at hk hn⊢;cbv;repeat'((first|refine .mk (fun h=>?_) fun h=>?_|fail)<;>cbv)
 ·refine cP bS bS fun i x hi hx=>?_
  obtain rfl:k=i:=bS;cbv;repeat'((first|refine .mk (fun h=>?_) fun h=>?_|refine .k fun z hz=>?_|fail)<;>cbv)
  ·exact XJ.mk ⟨_,Gh.refl _,.inl (.v9 (fS hK (by(rw[Di hn hx ((hpx x).trans (aH h))]))))⟩
  ·obtain rfl:z=nI (k+1):=bS;exact bL ⟨k+1,by exact bS,hn.succ hx ((hpx x).trans (aG h))⟩ (bM bS)
 ·obtain rfl:k=l.length:=bS;exact XJ.mk ⟨_,Gh.refl _,.inl (.v9 (fS hK (by(rw[vC hn]))))⟩
def vO:dN:=spec (fun i:List bG×bG=>[.sl 1 (bI .str i.1),.str i.2]) (fun _=>[]) (fun i=>i.1.length≤5000) (fun i=>.bl (i.1.any fun x=>decide (i.2=x))) fun _=>[]
theorem AA (P:bH) (hi:bJ P 208 Gw):bN P Uj vO:=by
 intro args H K hc;obtain⟨⟨l,s⟩,rfl,rfl,hp,hK⟩:=hc;refine⟨cN,?_⟩;dsimp only at hp hK⊢;obtain⟨p,hpp⟩:∃p:bG→Bool,p=fun x=>decide (s=x):=⟨_,rfl⟩
 rw[←hpp,←Aq]at hK;obtain⟨e,he⟩:∃e,e=xE p l:=⟨_,rfl⟩
 rw[←he]at hK;cbv
 (refine XG hi (l,s) hp ?_;try dsimp only)
 rw[←hpp,←he];cbv;repeat'((first|refine .mk (fun h=>?_) fun h=>?_|fail)<;>cbv)
 ·exact XJ.mk ⟨_,Gh.refl _,.inl (.v9 (cD hK (by(rw[aH h]))))⟩
 ·exact XJ.mk ⟨_,Gh.refl _,.inl (.v9 (cD hK (by(rw[aG (by omega)]))))⟩
def PL (p:bG→Bool):dN:=spec (fun s:bG=>[.str s]) (fun _=>[]) (fun _=>True) (fun s=>.bl (p s)) fun _=>[]
def MV (f:Nat) (p:bG→Bool):dN:=spec (fun l:List bG=>[.sl 1 (bI .str l),.clo f []]) (fun _=>[]) (fun l=>l.length≤5000) (fun l=>.i (xE p l)) fun _=>[]
theorem I7 (P:bH) (f:Nat) (p:bG→Bool) (hm:dL P f) (hf:bJ P f (PL p)):bN P SM (MV f p):=by
 intro args H K hc;obtain⟨l,rfl,rfl,hp,hK⟩:=hc;refine⟨cN,?_⟩;dsimp only at hp hK⊢;cbv;repeat'((first|refine .k fun z hz=>?_|fail)<;>cbv)
 refine bV [] (fun q:{ k:Nat // k≤l.length∧mS p l k }=>[(8,.i (nI q.1))]) (fun _=>[]) (fun q=>fK 5001 q.1) ⟨0,aI _,.zero⟩ ?_;rintro ⟨k,hk,hn⟩;dsimp only at hk hn⊢;cbv;repeat'((first|refine .mk (fun h=>?_) fun h=>?_|fail)<;>cbv)
 ·refine cP bS bS fun i x hi hx=>?_
  obtain rfl:k=i:=bS;cbv;repeat'((first|refine And.intro ?_ ?_|fail)<;>cbv)
  ·exact hm
  ·obtain⟨b,hb⟩:∃b,b=p x:=⟨_,rfl⟩
   (refine XG hf x trivial ?_;try dsimp only)
   rw[←hb];cases b with
   |true=>
    cbv;exact XJ.mk ⟨_,Gh.refl _,.inl (.v9 (fS hK (by(rw[Di hn hx hb.symm]))))⟩
   |false=>
    cbv;repeat'((first|refine .k fun z hz=>?_|fail)<;>cbv)
    obtain rfl:z=nI (k+1):=bS;exact bL ⟨k+1,by exact bS,hn.succ hx hb.symm⟩ (bM bS)
 ·obtain rfl:k=l.length:=bS;exact XJ.mk ⟨_,Gh.refl _,.inl (.v9 (fS hK (by(rw[vC hn]))))⟩
def LI (f:Nat) (p:bG→Bool):dN:=spec (fun l:List bG=>[.sl 1 (bI .str l),.clo f []]) (fun _=>[]) (fun l=>l.length≤5000) (fun l=>.bl (l.any p)) fun _=>[]
theorem Kj (P:bH) (f:Nat) (p:bG→Bool) (hi:bJ P 189 (MV f p)):bN P S8 (LI f p):=by
 intro args H K hc;obtain⟨l,rfl,rfl,hp,hK⟩:=hc;refine⟨cN,?_⟩;dsimp only at hp hK⊢;rw[←Aq]at hK;obtain⟨e,he⟩:∃e,e=xE p l:=⟨_,rfl⟩
 rw[←he]at hK;cbv
 (refine XG hi l hp ?_;try dsimp only)
 rw[←he];cbv;repeat'((first|refine .mk (fun h=>?_) fun h=>?_|fail)<;>cbv)
 ·exact XJ.mk ⟨_,Gh.refl _,.inl (.v9 (cD hK (by(rw[aH h]))))⟩
 ·exact XJ.mk ⟨_,Gh.refl _,.inl (.v9 (cD hK (by(rw[aG (by omega)]))))⟩
theorem Kc (P:bH) (hn:bJ P 144 (iE (fun _=>True) bR)):bN P U0 (PL fun s=>!bR s):=by
 intro args H K hc;obtain⟨s,rfl,rfl,hp,hK⟩:=hc;refine⟨cN,?_⟩;dsimp only at hp hK⊢;obtain⟨b,hb⟩:∃b,b=bR s:=⟨_,rfl⟩
 rw[←hb]at hK;cbv
 (refine XG hn s trivial ?_;try dsimp only)
 rw[←hb];cases b with
 |true=>
  cbv;exact XJ.mk ⟨_,Gh.refl _,.inl (.v9 (M0 hK (by rfl)))⟩
 |false=>
  cbv;exact XJ.mk ⟨_,Gh.refl _,.inl (.v9 (M0 hK (by rfl)))⟩
def EL:Go.Shelf.Ren:=⟨fun|190=>91|125=>130|258=>129|128=>168|129=>169|302=>159|303=>160|304=>161|305=>162|306=>163|307=>164|308=>165|309=>166|310=>167|333=>192|329=>193|330=>194|334=>195|335=>196|336=>197|344=>209|n=>n,fun|31=>56|9=>9|3=>3|46=>226|0=>0|51=>258|53=>260|4=>4|183=>250|182=>249|131=>255|5=>5|218=>274|222=>278|228=>286|229=>287|n=>n,fun|n=>n⟩
theorem HZ:Go.Proofs.Lays.n190 Tryz.prog EL:={
 mixed:=by kernel_rfl
 f125:=Tryz.func130.trans (congrArg some (by kernel_rfl))
 f128:=Tryz.func168.trans (congrArg some (by kernel_rfl))
 f129:=Tryz.func169.trans (congrArg some (by kernel_rfl))
 f190:=Tryz.func91.trans (congrArg some (by kernel_rfl))
 f258:=Tryz.func129.trans (congrArg some (by kernel_rfl))
 f302:=Tryz.func159.trans (congrArg some (by kernel_rfl))
 f303:=Tryz.func160.trans (congrArg some (by kernel_rfl))
 f304:=Tryz.func161.trans (congrArg some (by kernel_rfl))
 f305:=Tryz.func162.trans (congrArg some (by kernel_rfl))
 f306:=Tryz.func163.trans (congrArg some (by kernel_rfl))
 f307:=Tryz.func164.trans (congrArg some (by kernel_rfl))
 f308:=Tryz.func165.trans (congrArg some (by kernel_rfl))
 f309:=Tryz.func166.trans (congrArg some (by kernel_rfl))
 f310:=Tryz.func167.trans (congrArg some (by kernel_rfl))
 f329:=Tryz.func193.trans (congrArg some (by kernel_rfl))
 f330:=Tryz.func194.trans (congrArg some (by kernel_rfl))
 f333:=Tryz.func192.trans (congrArg some (by kernel_rfl))
 f334:=Tryz.func195.trans (congrArg some (by kernel_rfl))
 f335:=Tryz.func196.trans (congrArg some (by kernel_rfl))
 f336:=Tryz.func197.trans (congrArg some (by kernel_rfl))
 f344:=Tryz.func209.trans (congrArg some (by kernel_rfl))
 t0:=Tryz.underlying0
 a0:=Tryz.isAgg0
 z0:=Tryz.sizeOf0
 v0:=Tryz.zeroValue0
 t3:=Tryz.underlying3
 a3:=Tryz.isAgg3
 z3:=Tryz.sizeOf3
 v3:=Tryz.zeroValue3
 t4:=Tryz.underlying4
 a4:=Tryz.isAgg4
 z4:=Tryz.sizeOf4
 v4:=Tryz.zeroValue4
 t5:=Tryz.underlying5
 a5:=Tryz.isAgg5
 z5:=Tryz.sizeOf5
 v5:=Tryz.zeroValue5
 t9:=Tryz.underlying9
 a9:=Tryz.isAgg9
 z9:=Tryz.sizeOf9
 v9:=Tryz.zeroValue9
 t31:=Tryz.underlying56
 a31:=Tryz.isAgg56
 z31:=Tryz.sizeOf56
 v31:=Tryz.zeroValue56
 t46:=Tryz.underlying226
 a46:=Tryz.isAgg226
 z46:=Tryz.sizeOf226
 v46:=Tryz.zeroValue226
 t51:=Tryz.underlying258
 a51:=Tryz.isAgg258
 z51:=Tryz.sizeOf258
 v51:=Tryz.zeroValue258
 t53:=Tryz.underlying260
 a53:=Tryz.isAgg260
 z53:=Tryz.sizeOf260
 v53:=Tryz.zeroValue260
 t131:=Tryz.underlying255
 a131:=Tryz.isAgg255
 z131:=Tryz.sizeOf255
 v131:=Tryz.zeroValue255
 t182:=Tryz.underlying249
 a182:=Tryz.isAgg249
 z182:=Tryz.sizeOf249
 v182:=Tryz.zeroValue249
 t183:=Tryz.underlying250
 a183:=Tryz.isAgg250
 z183:=Tryz.sizeOf250
 v183:=Tryz.zeroValue250
 t218:=Tryz.underlying274
 a218:=Tryz.isAgg274
 z218:=Tryz.sizeOf274
 v218:=Tryz.zeroValue274
 t222:=Tryz.underlying278
 a222:=Tryz.isAgg278
 z222:=Tryz.sizeOf278
 v222:=Tryz.zeroValue278
 t228:=Tryz.underlying286
 a228:=Tryz.isAgg286
 z228:=Tryz.sizeOf286
 v228:=Tryz.zeroValue286
 t229:=Tryz.underlying287
 a229:=Tryz.isAgg287
 z229:=Tryz.sizeOf287
 v229:=Tryz.zeroValue287 }
def AH (s:bG):List UInt8:=s.data.toList
def Ns (l:List UInt8):bG:=⟨l.toArray⟩
def iK (L:List bG):List bG:=((L.map AH).mergeSort fun x y=>decide (x≤y)).map Ns
theorem mM (s:bG):Ns (AH s)=s:=by
 obtain⟨⟨l⟩⟩:=s;rfl
theorem LQ {pub:cZ}{w:World}{r:cT}:∀{L:List bG}{us:List Value},bT pub w r ((bI .str L).flatMap AV.cells) us→us=L.map .string
 |[],us,h=>h.nil_inv
 |s :: L,us,h=>by
  have h':bT pub w r (.str s :: (bI .str L).flatMap AV.cells) us:=h;obtain⟨us',rfl,h2⟩:=h'.str_inv;rw[LQ h2];rfl
theorem Lo {pub:cZ}{w:World}{r:cT}:∀(L:List bG),bT pub w r ((bI .str L).flatMap AV.cells) (L.map .string)
 |[]=>⟨rfl,fun i x u hx _=>by cases hx⟩
 |s :: L=>by
  have ih:=Lo (pub:=pub) (w:=w) (r:=r) L;show bT pub w r (.str s :: (bI .str L).flatMap AV.cells) (.string s :: L.map .string);refine⟨by rw[List.length_cons,List.length_cons,ih.len],fun i x u hx hu=>?_⟩;cases i with
  |zero=>cases hx;cases hu;exact .str s
  |succ i=>exact ih.at_ i x u hx hu
structure GM (P:bH) (f:Nat):Prop where
 out:∀(A:Option Addr) (L:List bG) (c:Nat) (w:World) (pub:cZ),L.length≤2000000→mX w 9 1 A L.length c (L.map .string)→(∀b∈wW A,pub b=0)→(∀b,w.heap.size≤b→pub b=0) →
  Calls P f #[.slice A L.length c] w fun e w'=>e=.returned (.tuple #[])∧Fr (fun b=>b∈wW A) pub w pub w'∧mX w' 9 1 A L.length c ((iK L).map .string)
theorem uF (L:List bG):(iK L).length=L.length:=by simp[iK]
theorem HX:GM Tryz.prog 91:=⟨fun A L c w pub hp ho hpb hfresh=>by
 rcases ho.cases_ with ⟨rfl,hl0,rfl,_⟩|⟨g,cur,rfl,hb,h1,h2,h3,h4⟩
 ·obtain rfl:L=[]:=aR hl0;refine(Any.slices_Sort_string_none HZ none 0 w).mono fun e w' h=>?_
  obtain⟨rfl,rfl⟩:=h;refine⟨rfl,.refl _ _ _,?_⟩;rw[show iK []=[] by simp[iK]];exact ho
 ·have hgp:pub g=0:=hpb g (by simp);have hss:cur.toList.take (L.map AH).length=(L.map AH).map encStr:=by
   rw[aJ,←Nat.mul_one L.length,h4,List.map_map];refine List.map_congr_left fun s _=>?_
   show Value.string s=Value.string (Ns (AH s));rw[mM]
  have hblk:g < w.heap.size:=hb.lt;have hlen:L.length=(L.map AH).length:=by rw[aJ]
  rw[hlen];refine(Any.slices_Sort_string HZ g 0 c (L.map AH) w (holds_of_block hb hss) hblk (by rw[aJ];omega)).mono fun e w' h=>?_
  obtain⟨rfl,n,os,rfl⟩:=h;obtain⟨ts,hts⟩:∃ts,ts=(L.map AH).mergeSort fun x y=>decide (x≤y):=⟨_,rfl⟩
  have htl:ts.length=(L.map AH).length:=by rw[hts];simp
  have hso:iK L=ts.map Ns:=by rw[hts];rfl
  rw[hso,←hts];have hgb:=grownBy_sorted (w:=w) (g:=g) (n:=n) (os:=os) ts.toArray;have hh:=heap_sorted (n:=n) (os:=os) ts.toArray hb;obtain⟨w',hw'⟩:∃w',w'=Sort.grow (Sort.putRow encStr (Sort.ahead w n) g 0 ts.toArray) os:=⟨_,rfl⟩
  rw[←hw']at hgb hh⊢;obtain⟨g1,g2,g3,g4,g5⟩:=hgb;have hkeep:∀b,b < w.heap.size→¬b=g→w'.heap[b]?=w.heap[b]?:=fun b hb hn=>g5 b hb fun e=>hn (Option.some.inj e)
  have hcell:∀b i v,i < pub b→w.cell? ⟨b,i,none⟩=some v→w'.cell? ⟨b,i,none⟩=some v:=fun b i v hi hv=>by
   have hbs:b < w.heap.size:=by
    rcases aL b w.heap.size with h|h
    ·exact h
    ·rw[hfresh b h]at hi;exact absurd hi (Nat.not_lt_zero _)
   have hbg:¬b=g:=fun e=>by
    subst e;rw[hgp]at hi;exact absurd hi (Nat.not_lt_zero _)
   have e:=hkeep b hbs hbg;unfold World.cell? at hv⊢;dsimp only at hv⊢;rw[e];exact hv
  refine⟨rfl,⟨g1,g2,g3,g4,fun b hb hn=>⟨hkeep b hb fun e=>hn (by subst e;simp),rfl⟩,fun _=>aN _,hcell,fun b n hp hn=>mC (hkeep b (qP hn) fun e=>by subst e;rw[hgp]at hp;exact absurd hp (Nat.lt_irrefl 0)) hn⟩,?_⟩;refine mX.of_blk (cur:=Sort.putCells encStr 0 ts.toArray cur) hh (by rw[←hlen];exact h1) h2 (by simp[Sort.putCells,h3]) ?_;rw[Nat.mul_one,←htl,take_putCells _ _ (by rw[htl,aJ,h3];omega),List.map_map];rfl⟩
theorem FK {P:bH}{f:Nat}(hs:GM P f) (k:Nat) (L:List bG) {keep:List Nat}{st:St}{K:AV→St→Prop}(hk:st.H[k]?=some (.row 9 1 (bI .str L))) (hl:L.length≤2000000) (hkeep:(keep.all fun j=>j != k)=true)
  (hK:K (.tup []) ⟨st.T,st.H.set k (.row 9 1 (bI .str (iK L)))⟩):gG P keep f [.hd k] st K:=by
 refine⟨fun C a w r pub vals h hv=>?_⟩;obtain⟨u,us',hvals,hu,hnil⟩:=hv.cons_inv;have hn0:=hnil.nil_inv;subst hn0;obtain rfl:vals=#[u]:=Array.toList_inj.1 (by simpa using hvals);have hr:r k=some u:=by cases hu with|hd h _=>exact h
 obtain⟨A,c,us,hrk,ho,hcs,hst,hpb⟩:=h.ent_row hk;rw[hr]at hrk;cases hrk;have hus:=LQ hcs;subst hus;rw[bY]at ho hr⊢;refine(hs.out A L c w pub hl ho hpb h.mod.fresh).mono fun e w' hw=>?_
 obtain⟨rfl,hf,ho'⟩:=hw;have hE:eJ pub w' r (some (.slice A (bI AV.str (iK L)).length c)) (.row 9 1 (bI .str (iK L))):=by
  refine .row (us:=(iK L).map .string) (by rw[bY,uF];exact ho') (Lo _) (fun x hx=>?_) hpb;rw[dZ]at hx;obtain⟨s,_,rfl⟩:=aX.1 hx;exact⟨rfl,rfl⟩
 rw[bY,uF]at hE;refine⟨_,_,_,r,pub,rfl,.tup rfl (fun i x v hx _=>by cases hx),hK,⟨h.mod.set hr hf (fun b hb=>hb) (fun b hb=>h.mod.fresh b (Nat.le_trans hf.size hb)) (fun b i hi=>?_) hE,h.own,h.fr.trans hf (fun b hb=>h.own k _ hr b hb),h.slots.ext hf.ext,h.defers,h.size,h.stab,⟨h.low.1,by simpa using h.low.2⟩⟩,hf.ext,fun j hj=>⟨rfl,fun y hy b hb=>?_⟩⟩
 ·obtain⟨v,hv⟩:=h.mod.there b i hi;exact⟨v,hf.ext.cell b i v hi hv⟩
 ·have hjk:j≠k:=by
   have:=aT.1 hkeep j hj;simpa using this
  exact(hf.keep b (h.mod.foot_lt hy b hb) fun hbA=>h.mod.disj j k y _ hjk hy hr b hb hbA).1
theorem G1 {l1 l2:List bG}(h:l1.Perm l2):iK l1=iK l2:=by
 unfold iK;congr 1;have ht:∀a b c:List UInt8,decide (a≤b)=true→decide (b≤c)=true→decide (a≤c)=true:=fun a b c h1 h2=>aH (List.le_trans (of_decide_eq_true h1) (of_decide_eq_true h2))
 have hs:∀a b:List UInt8,(decide (a≤b) || decide (b≤a))=true:=fun a b=>by
  rcases List.le_total a b with h|h
  ·rw[aH h];rfl
  ·rw[aH h];exact Bool.or_true _
 refine List.Perm.eq_of_pairwise (le:=fun a b=>decide (a≤b)=true) (fun a b _ _ h1 h2=>List.le_antisymm (of_decide_eq_true h1) (of_decide_eq_true h2)) (List.pairwise_mergeSort ht hs _) (List.pairwise_mergeSort ht hs _) ?_;exact(List.mergeSort_perm _ _).trans ((h.map AH).trans (List.mergeSort_perm _ _).symm)
def gN (p:Br→Bool) (b:Br):Option bG:=bif p b then some b.b.number else none
def rO (L:List Br) (p:Br→Bool):List bG:=iK (L.filterMap (gN p))
def qF (L:List Br) (p:Br→Bool) (seen:List Nat):List bG:=seen.filterMap fun i=>L[i]?.bind (gN p)
theorem sI {α β:Type}(g:α→Option β):∀L:List α,(List.range L.length).filterMap (fun i=>L[i]?.bind g)=L.filterMap g
 |[]=>rfl
 |x :: L=>by
  rw[List.length_cons,List.range_succ_eq_map,List.filterMap_cons,List.filterMap_map];have ih:=sI g L;have e:((fun i=>(x :: L)[i]?.bind g) ∘ Nat.succ)=fun i=>L[i]?.bind g:=by funext i;rfl
  rw[e,ih,List.filterMap_cons];rfl
structure lB (L:List Br) (seen:List Nat):Prop where
 nd:seen.Nodup
 lt:∀i∈seen,i < L.length
theorem lB.nil {L:List Br}:lB L []:=⟨.nil,fun i h=>by cases h⟩
theorem lB.snoc {L:List Br}{seen:List Nat}{i:Nat}{y:Br}(h:lB L seen) (hy:L[i]?=some y) (hn:i∉seen):lB L (seen++[i]):=by
 refine⟨List.nodup_append.2 ⟨h.nd,List.nodup_cons.2 ⟨by simp,.nil⟩,fun a ha b hb e=>?_⟩,fun j hj=>?_⟩
 ·obtain rfl:=List.mem_singleton.1 hb;subst e;exact hn ha
 ·rcases List.mem_append.1 hj with h1|h1
  ·exact h.lt j h1
  ·obtain rfl:=List.mem_singleton.1 h1;exact(aA.1 hy).1
theorem lB.len {L:List Br}{seen:List Nat}(h:lB L seen):seen.length≤L.length:=by
 have:=h.nd.length_le_of_subset (l₂:=List.range L.length) fun i hi=>List.mem_range.2 (h.lt i hi)
 rwa [List.length_range]at this
theorem Jn {L:List Br}{p:Br→Bool}{seen:List Nat}(h:lB L seen):(qF L p seen).length≤L.length:=Nat.le_trans (List.length_filterMap_le _ _) h.len
theorem Ic {L:List Br}{p:Br→Bool}{seen:List Nat}(h:lB L seen) (hall:∀i,i < L.length→i∈seen):iK (qF L p seen)=rO L p:=by
 have hp:seen.Perm (List.range L.length):=(List.perm_ext_iff_of_nodup h.nd List.nodup_range).2 fun i=>⟨fun hi=>List.mem_range.2 (h.lt i hi),fun hi=>hall i (List.mem_range.1 hi)⟩
 unfold rO;rw[←sI];exact G1 (hp.filterMap _)
theorem Kb {L:List Br}{p:Br→Bool}{seen:List Nat}{i:Nat}{y:Br}(hy:L[i]?=some y) (hp:p y=true):qF L p (seen++[i])=qF L p seen++[y.b.number]:=by
 unfold qF;rw[List.filterMap_append];congr 1;rw[List.filterMap_cons,hy];unfold gN;rw[Option.bind_some,hp];rfl
theorem KX {L:List Br}{p:Br→Bool}{seen:List Nat}{i:Nat}{y:Br}(hy:L[i]?=some y) (hp:p y=false):qF L p (seen++[i])=qF L p seen:=by
 unfold qF;rw[List.filterMap_append,List.filterMap_cons,hy];unfold gN;rw[Option.bind_some,hp];exact List.append_nil _
theorem Aj {α:Type}{f:α→AU}{L:List α}{since i:Nat}{seen s:List Nat}{x:AV}{y:α}{K:AV→AV→Prop}(e:s=seen++[i]) (hs:since=L.length) (hy:L[i]?=some y) (h:K (f y).1 x):OA (bI f L) [(i,x)] since s K:=by
 subst e;exact OU hs hy h
def inB (b:Br):Prop:=pG b∧tY b.b
def LC (p:bG→Br→Bool):dN:=spec (fun _:Br×bG=>[.ptr 0 0,.ptr 4 0]) (fun i=>rF i.1++[.blk 9 [.str i.2]]) (fun i=>inB i.1) (fun i=>.bl (p i.2 i.1)) fun i=>rF i.1++[.blk 9 [.str i.2]]
def Tz (i:Rg×bG):List cH:=lY i.1++[.blk 9 [.str i.2]]
def Rr (f:Nat) (p:bG→Br→Bool):dN:=spec (fun _:Rg×bG=>[.ptr 0 0,.clo f [.ptr 2 0]]) Tz (fun i=>i.1.bills.length≤256∧∀b∈i.1.bills,inB b) (fun i=>.sl 1 (bI .str (rO i.1.bills (p i.2)))) Tz
theorem Ay (P:bH) (f:Nat) (p:bG→Br→Bool) (hm:dL P f) (hf:bJ P f (LC p)) (hs:GM P 91):bN P Xn (Rr f p):=by
 intro args H K hc;obtain⟨⟨⟨carrier,L⟩,who⟩,rfl,rfl,hp,hK⟩:=hc;refine⟨cN,?_⟩;dsimp only at hp hK⊢;obtain⟨hp,hpb⟩:=hp;cbv;repeat'((first|refine .k fun z hz=>?_|fail)<;>cbv)
 obtain⟨n,hn⟩:∃n:Nat,n=L.length:=⟨_,rfl⟩
 obtain rfl:z=nI n:=bS;refine iI (Gh.adopt 5 9 1 rfl) ?_;cbv;refine bV [4] (fun q:{ q:List Nat×Nat // lB L q.1∧q.2=q.1.length }=>[(5,.hd 4)]) (fun q=>[.blk 122 [.str carrier,.ph 1],.pool 120 (bI eD L) [],.blk 9 [.str who],.iter (.ph 1) n q.1.1,.row 9 1 (bI .str (qF L (p who) q.1.1))]) (fun q=>fK 257 q.1.2) ⟨([],0),.nil,rfl⟩ ?_;rintro ⟨⟨seen,k⟩,hse,hk⟩;dsimp only at hse hk⊢;have hsl:=hse.len;obtain⟨rw_,hrw⟩:∃l,l=qF L (p who) seen:=⟨_,rfl⟩
 have hrl:rw_.length≤L.length:=by rw[hrw];exact Jn hse
 rw[←hrw];cbv;refine Cx hn (fun i y hy hni=>?_) (fun hall=>?_)<;>dsimp only at *
 ·have hin:=hpb y (aC hy);have hse2:=hse.snoc hy hni;obtain⟨s2,hs2⟩:∃s,s=seen++[i]:=⟨_,rfl⟩
  rw[←hs2]at hse2⊢;obtain⟨b,hb⟩:∃b,b=p who y:=⟨_,rfl⟩
  have hlt:k < 257:=by omega
  have hsk:s2.length=k+1:=by rw[hs2,hk];simp
  have hyes:=Kb (seen:=seen) hy (p:=p who);have hno:=KX (seen:=seen) hy (p:=p who);rw[←hs2,←hrw,←hb]at hyes hno;obtain⟨⟨nq1,cq1,sq1,frm1,to1,bq1,pq1,iq1,lq1⟩,st1,⟨sa1,ha1,ca1⟩,⟨sb1,hb1,cb1⟩,⟨sc1,hc1,cc1⟩⟩:=y;dsimp only at hyes hno;cbv;refine Aj hs2 hn hy ?_;cbv;repeat'((first|refine And.intro ?_ ?_|fail)<;>cbv)
  ·exact hm
  ·(refine gT hf (⟨⟨nq1,cq1,sq1,frm1,to1,bq1,pq1,iq1,lq1⟩,st1,⟨sa1,ha1,ca1⟩,⟨sb1,hb1,cb1⟩,⟨sc1,hc1,cc1⟩⟩,who) [5,6,7,8,2] hin ?_;try dsimp only)
   rw[←hb];cases b with
   |true=>
    have hyes:=hyes rfl;cbv;repeat'((first|refine .zl fun zs hzs hzl=>?_|fail)<;>cbv)
    obtain rfl:zs=bI .str (qF L (p who) s2):=by(rw[hyes,cB,cE];exact hzs)
    refine dV (Gh.back0 1 [5,6,7,8] eD rfl hy) ?_;cbv;exact bL ⟨(s2,k+1),hse2,hsk.symm⟩ (bM hlt)
   |false=>
    have hno:=hno rfl;rw[←hno];cbv;refine dV (Gh.back0 1 [5,6,7,8] eD rfl hy) ?_;cbv;exact bL ⟨(s2,k+1),hse2,hsk.symm⟩ (bM hlt)
 ·have hsort:=Ic (p:=p who) hse hall;rw[←hrw]at hsort;obtain⟨l,hl⟩:∃l,l=rO L (p who):=⟨_,rfl⟩
  rw[←hl]at hsort hK;cbv;refine FK hs 4 rw_ rfl (by omega) (by decide) ?_;rw[hsort];cbv
  (refine .r9 (Gh.plain 4 rfl) ?_;cbv;exact .inl (.g9 hK))
def kV (box:bG) (b:Br):Bool:=decide (b.st=0) && b.b.boxes.any fun x=>decide (box=x)
theorem JS (P:bH) (hc:bJ P 191 vO):bN P Wn (LC kV):=by
 intro args H K hc;obtain⟨⟨y,who⟩,rfl,rfl,hp,hK⟩:=hc;refine⟨cN,?_⟩;dsimp only at hp hK⊢;unfold inB at hp;obtain⟨hp,hob⟩:=hp;unfold tY at hob;unfold kV at hK;obtain⟨q3,hq3⟩:∃q,q=y.b.boxes.any fun x=>decide (who=x):=⟨_,rfl⟩
 rw[←hq3]at hK;obtain⟨⟨nq1,cq1,sq1,frm1,to1,bq1,pq1,iq1,lq1⟩,st1,⟨sa1,ha1,ca1⟩,⟨sb1,hb1,cb1⟩,⟨sc1,hc1,cc1⟩⟩:=y;dsimp only at hK hob hq3;cbv;repeat'((first|refine .mk (fun h=>?_) fun h=>?_|fail)<;>cbv)
 ·(refine XG hc (bq1,who) (by dsimp only;omega) ?_;try dsimp only)
  rw[←hq3];cbv
  (refine .q9 ?_;cbv;exact .inl (.f9 (cD hK (by rw[aH h];rfl))))
 ·(refine .q9 ?_;cbv;exact .inl (.f9 (cD hK (by rw[aG h];rfl))))
def Gn (L:List Br) (box:bG):bG×Bool:=match rO L (kV box) with
 |[]=>(⟨⟨[]⟩⟩,false)
 |n :: _=>(n,true)
def RX:dN:=spec (fun i:Rg×bG=>[.ptr 0 0,.str i.2]) (fun i=>lY i.1) (fun i=>i.1.bills.length≤256∧∀b∈i.1.bills,inB b) (fun i=>WX (Gn i.1.bills i.2)) fun i=>lY i.1
theorem Mw (P:bH) (hn:bJ P 69 (Rr 190 kV)):bN P U3 RX:=by
 intro args H K hc;obtain⟨⟨⟨carrier,L⟩,who⟩,rfl,rfl,hp,hK⟩:=hc;refine⟨cN,?_⟩;dsimp only at hp hK⊢;have hd:Gn L who=match rO L (kV who) with
  |[]=>(⟨⟨[]⟩⟩,false)
  |n :: _=>(n,true):=rfl
 obtain⟨d,hdd⟩:∃d,d=Gn L who:=⟨_,rfl⟩
 obtain⟨l,hl⟩:∃l,l=rO L (kV who):=⟨_,rfl⟩
 rw[←hdd]at hK hd;rw[←hl]at hd;cbv
 (refine gT hn ((⟨carrier,L⟩:Rg),who) [0,1,2] hp ?_;try dsimp only)
 rw[←hl];cases l with
 |nil=>
  cbv;repeat'((first|refine .y fun h=>?_|refine .k fun z hz=>?_|fail)<;>cbv)
  obtain rfl:=hd
  (refine .q9 ?_;cbv;exact .inl (.f9 hK))
 |cons x l=>
  dsimp only at hd;obtain rfl:=hd;cbv;repeat'((first|refine .n fun h=>?_|refine .k fun z hz=>?_|fail)<;>cbv)
  refine sE (f:=AV.str) (L:=x :: l) (i:=0) rfl ?_;cbv
  (refine .q9 ?_;cbv;exact .inl (.f9 hK))
def iH (s:bG):AV×AV:=(.str s,.bl true)
theorem BH (s:bG):∀(L:List bG) (i:Nat),nR (.str s) (bI iH L) i=some ((kK id L s).map (· + i))
 |[],i=>rfl
 |x :: L,i=>by
  have e:bI iH (x :: L)=(.str x,.bl true) :: bI iH L:=rfl;rw[e];unfold nR kK;rw[List.findIdx?_cons];by_cases h:x=s
  ·have h2:mE (.str s) (.str x)=some true:=congrArg some ((MapKept.bytes_beq _ _).2 h.symm);simp only[h2];simp[h]
  ·have h3:¬s=x:=fun e=>h e.symm
   have h2:mE (.str s) (.str x)=some false:=congrArg some (Bool.eq_false_iff.2 fun hb=>h3 ((MapKept.bytes_beq _ _).1 hb));simp only[h2,BH s L (i+1),h,id,decide_false,aZ,if_false,Option.map_map,kK];congr 1;cases (L.findIdx? fun a=>decide (a=s)) with
   |none=>rfl
   |some n=>simp;omega
theorem nP {s:bG}{L:List bG}{K:Option (Nat×AV)→Prop}(hs:∀i,kK id L s=some i→K (some (i,.bl true))) (hn:kK id L s=none→K none):pO (.str s) (bI iH L) K:=by
 refine⟨?_⟩;have hf:=BH s L 0;cases h:kK id L s with
 |some i=>
  obtain⟨y,hy,_⟩:=dY h;exact .inl ⟨i,_,_,by rw[hf,h];rfl,by rw[dZ,aD,hy];rfl,hs i h⟩
 |none=>exact .inr ⟨by rw[hf,h];rfl,hn h⟩
def Dg (L:List bG) (s:bG):Bool:=(kK id L s).isSome
def nB (ahead:List bG):List bG→Bool
 |[]=>true
 |b :: r=>(kP b && !Dg ahead b) && nB (ahead++[b]) r
theorem EC {c:List bG}{k:Nat}{b:bG}(hb:c[k]?=some b):nB (c.take k) (c.drop k)=((kP b && !Dg (c.take k) b) && nB (c.take (k+1)) (c.drop (k+1))):=by
 obtain⟨hk,rfl⟩:=aA.1 hb;rw[List.drop_eq_getElem_cons hk,nB,List.take_succ_eq_append_getElem hk]
theorem A5 {c:List bG}{k:Nat}(hk:k=c.length):nB (c.take k) (c.drop k)=true:=by
 rw[List.drop_eq_nil_of_le (by omega),nB]
def xA (carrier:bG):Bl→Bool
 |⟨number,car,shipper,frm,to,boxes,parents,issued,_⟩=>
  ((bR number && bR shipper) && (bR frm && bR to)) && ((decide (car=carrier) && eN issued) && ((decide (1≤boxes.length∧boxes.length≤64∧parents.length≤64)) && (nB [] boxes && !(parents.any fun s=>!bR s))))
def Qe:dN:=spec (fun i:Rg×Bl=>[.ptr 0 0,IA i.2]) (fun i=>lY i.1) (fun i=>tY i.2) (fun i=>.bl (xA i.1.carrier i.2)) fun i=>lY i.1
theorem Ku (P:bH) (hn:bJ P 144 (iE (fun _=>True) bR)) (hr:bJ P 187 (iE (fun _=>True) kP)) (hd:bJ P 109 Db) (hc:bJ P 152 (LI 188 fun s=>!bR s)):bN P UN Qe:=by
 intro args H K hc;obtain⟨⟨⟨carrier,L⟩,b⟩,rfl,rfl,hp,hK⟩:=hc;refine⟨cN,?_⟩;dsimp only at hp hK⊢;unfold tY at hp;obtain⟨nq1,cq1,sq1,frm1,to1,bq1,pq1,iq1,lq1⟩:=b;obtain⟨q,hq⟩:∃q,q=xA carrier ⟨nq1,cq1,sq1,frm1,to1,bq1,pq1,iq1,lq1⟩:=⟨_,rfl⟩
 rw[←hq]at hK;unfold xA at hq;dsimp only at hq hp;obtain⟨n1,hn1⟩:∃q,q=bR nq1:=⟨_,rfl⟩
 obtain⟨n2,hn2⟩:∃q,q=bR sq1:=⟨_,rfl⟩
 obtain⟨n3,hn3⟩:∃q,q=bR frm1:=⟨_,rfl⟩
 obtain⟨n4,hn4⟩:∃q,q=bR to1:=⟨_,rfl⟩
 obtain⟨n5,hn5⟩:∃q,q=eN iq1:=⟨_,rfl⟩
 obtain⟨n6,hn6⟩:∃q,q=(pq1.any fun s=>!bR s):=⟨_,rfl⟩
 obtain⟨n7,hn7⟩:∃q,q=nB (bq1.take 0) (bq1.drop 0):=⟨_,rfl⟩
 have hn7':nB [] bq1=n7:=hn7.symm;rw[←hn1,←hn2,←hn3,←hn4,←hn5,←hn6,hn7']at hq;clear hn7';cbv
 (refine XG hn nq1 trivial ?_;try dsimp only)
 rw[←hn1];cases n1 with
 |false=>
  cbv
  (refine .q9 ?_;cbv;exact .inl (.f9 (cD hK (by rw[hq];rfl))))
 |true=>
 cbv
 (refine XG hn sq1 trivial ?_;try dsimp only)
 rw[←hn2];cases n2 with
 |false=>
  cbv
  (refine .q9 ?_;cbv;exact .inl (.f9 (cD hK (by rw[hq];rfl))))
 |true=>
 cbv
 (refine XG hn frm1 trivial ?_;try dsimp only)
 rw[←hn3];cases n3 with
 |false=>
  cbv
  (refine .q9 ?_;cbv;exact .inl (.f9 (cD hK (by rw[hq];rfl))))
 |true=>
 cbv
 (refine XG hn to1 trivial ?_;try dsimp only)
 rw[←hn4];cases n4 with
 |false=>
  cbv
  (refine .q9 ?_;cbv;exact .inl (.f9 (cD hK (by rw[hq];rfl))))
 |true=>
 cbv;repeat'((first|refine .mk (fun h=>?_) fun h=>?_|fail)<;>cbv)
 rotate_left
 ·(refine .q9 ?_;cbv;exact .inl (.f9 (cD hK (by rw[hq,aG h];rfl))))
 ·rw[aH h]at hq
  (refine XG hd iq1 trivial ?_;try dsimp only)
  rw[←hn5];cases n5 with
  |false=>
   cbv
   (refine .q9 ?_;cbv;exact .inl (.f9 (cD hK (by rw[hq];rfl))))
  |true=>
  cbv;repeat'((first|refine .mk (fun h=>?_) fun h=>?_|refine .k fun z hz=>?_|fail)<;>cbv)
  ·(refine .q9 ?_;cbv;exact .inl (.f9 (cD hK (by rw[hq,aG bS];rfl))))
  ·(refine .q9 ?_;cbv;exact .inl (.f9 (cD hK (by rw[hq,aG bS];rfl))))
  ·(refine .q9 ?_;cbv;exact .inl (.f9 (cD hK (by rw[hq,aG bS];rfl))))
  ·rw[aH bS]at hq;refine bV [] (fun q:{ k:Nat // k≤bq1.length∧n7=nB (bq1.take k) (bq1.drop k) }=>[(66,.i (nI q.1))]) (fun q=>[.blk 122 [.str carrier,.ph 1],.pool 120 (bI eD L) [],.blk 79 [.str nq1,.str cq1,.str sq1,.str frm1,.str to1,.sl 1 (bI .str bq1),.sl 1 (bI .str pq1),.i iq1,.bl lq1],.map 70 (bI iH (bq1.take q.1))]) (fun q=>fK 5001 q.1) ⟨0,aI _,hn7⟩ ?_;rintro ⟨k,hk,hb7⟩;dsimp only at hk hb7⊢;cbv;repeat'((first|refine .mk (fun h=>?_) fun h=>?_|fail)<;>cbv)
   ·refine cP bS bS fun i x hi hx=>?_
    obtain rfl:k=i:=bS;have hg:=EC hx;obtain⟨m,hm⟩:∃m,m=kP x:=⟨_,rfl⟩
    rw[←hm]at hg;cbv
    (refine XG hr x trivial ?_;try dsimp only)
    rw[←hm];cases m with
    |false=>
     rw[hb7,hg]at hq;cbv
     (refine .q9 ?_;cbv;exact .inl (.f9 (cD hK (by rw[hq];rfl))))
    |true=>
     cbv;refine nP (fun j hj=>?_) (fun hj=>?_)
     ·have hh:Dg (bq1.take k) x=true:=by unfold Dg;rw[hj];rfl
      rw[hb7,hg,hh]at hq;cbv
      (refine .q9 ?_;cbv;exact .inl (.f9 (cD hK (by rw[hq];rfl))))
     ·have hh:Dg (bq1.take k) x=false:=by unfold Dg;rw[hj];rfl
      rw[hh]at hg;cbv;refine nP (fun j hj2=>?_) (fun _=>?_)
      ·rw[hj]at hj2;cases hj2
      cbv;repeat'((first|refine .k fun z hz=>?_|refine .ms fun ms hms=>?_|fail)<;>cbv)
      obtain rfl:ms=bI iH (bq1.take (k+1)):=by
       rw[dX hx,cB,cE];exact hms
      obtain rfl:z=nI (k+1):=bS;exact bL ⟨k+1,by exact bS,hb7.trans hg⟩ (bM bS)
   ·obtain rfl:k=bq1.length:=bS;rw[A5 rfl]at hb7;subst hb7
    (refine XG hc pq1 bS ?_;try dsimp only)
    rw[←hn6];cases n6 with
    |false=>
     cbv
     (refine .q9 ?_;cbv;exact .inl (.f9 (cD hK (by rw[hq];rfl))))
    |true=>
     cbv
     (refine .q9 ?_;cbv;exact .inl (.f9 (cD hK (by rw[hq];rfl))))
structure nX where
 R:Rg
 b:Bl
 holder:bG
def tK (i:nX):List cH:=lY i.R++[.blk 45 [.ptr 0 0],.blk 79 (Wq i.b),.blk 9 [.str i.holder]]
structure Cn (i:nX):Prop where
 few:i.R.bills.length≤256
 all:∀b∈i.R.bills,inB b
 ok:tY i.b
def wR (args:List AV) (p:nX→Bool):dN:=spec (fun _:nX=>args) tK Cn (fun i=>.bl (p i)) tK
def i1 (i:nX):Bool:=!xA i.R.carrier i.b || !bR i.holder
def i2 (i:nX):Bool:=(qQ i.R.bills i.b.number).isSome
def CO (i:nX) (box:bG):Bool:=(Gn i.R.bills box).2
def i3 (i:nX):Bool:=i.b.boxes.any (CO i)
def i4 (i:nX):Bool:=decide (256≤i.R.bills.length)
theorem J1 (P:bH) (hm:bJ P 149 Qe) (hn:bJ P 144 (iE (fun _=>True) bR)):bN P UM (wR [.ptr 2 0,.ptr 3 0,.ptr 4 0] i1):=by
 intro args H K hc;obtain⟨⟨⟨carrier,L⟩,b,holder⟩,rfl,rfl,hp,hK⟩:=hc;refine⟨cN,?_⟩;dsimp only at hp hK⊢;obtain⟨_,_,hok⟩:=hp;unfold i1 at hK;dsimp only at hK hok;obtain⟨n1,hn1⟩:∃q,q=xA carrier b:=⟨_,rfl⟩
 obtain⟨n2,hn2⟩:∃q,q=bR holder:=⟨_,rfl⟩
 rw[←hn1,←hn2]at hK;obtain⟨nq1,cq1,sq1,frm1,to1,bq1,pq1,iq1,lq1⟩:=b;cbv
 (refine gT hm ((⟨carrier,L⟩:Rg),⟨nq1,cq1,sq1,frm1,to1,bq1,pq1,iq1,lq1⟩) [0,1] hok ?_;try dsimp only)
 rw[←hn1];cases n1 with
 |false=>
  cbv
  (refine .q9 ?_;cbv;exact .inl (.f9 hK))
 |true=>
  cbv
  (refine XG hn holder trivial ?_;try dsimp only)
  rw[←hn2];cases n2 with
  |false=>
   cbv
   (refine .q9 ?_;cbv;exact .inl (.f9 hK))
  |true=>
   cbv
   (refine .q9 ?_;cbv;exact .inl (.f9 hK))
theorem JG (P:bH):bN P UY (wR [.ptr 2 0,.ptr 3 0] i2):=by
 intro args H K hc;obtain⟨⟨⟨carrier,L⟩,b,holder⟩,rfl,rfl,hp,hK⟩:=hc;refine⟨cN,?_⟩;dsimp only at hp hK⊢;unfold i2 at hK;dsimp only at hK;obtain⟨n1,hn1⟩:∃q,q=(qQ L b.number).isSome:=⟨_,rfl⟩
 rw[←hn1]at hK;obtain⟨nq1,cq1,sq1,frm1,to1,bq1,pq1,iq1,lq1⟩:=b;cbv;refine fR (fun b:Br=>b.b.number) (fun _=>rfl) (fun i y hai hy hky=>?_) (fun hai=>?_)<;>dsimp only at *
 ·have hn2:n1=true:=by rw[hn1];unfold qQ;rw[hai];rfl
  obtain⟨⟨nq2,cq2,sq2,frm2,to2,bq2,pq2,iq2,lq2⟩,st2,⟨sa2,ha2,ca2⟩,⟨sb2,hb2,cb2⟩,⟨sc2,hc2,cc2⟩⟩:=y;cbv
  (refine .r9 (Gh.back0 1 [5,6,7,8] eD rfl hy) ?_;cbv;exact .inl (.f9 (cD hK hn2.symm)))
 ·have hn2:n1=false:=by rw[hn1];unfold qQ;rw[hai];rfl
  cbv
  (refine .q9 ?_;cbv;exact .inl (.f9 (cD hK hn2.symm)))
theorem GC (P:bH) (hb:bJ P 154 RX):bN P Um (spec (fun i:nX×bG=>[.str i.2,.ptr 2 0]) (fun i=>tK i.1) (fun i=>Cn i.1) (fun i=>.bl (CO i.1 i.2)) fun i=>tK i.1):=by
 intro args H K hc;obtain⟨⟨⟨⟨carrier,L⟩,b,holder⟩,box⟩,rfl,rfl,hp,hK⟩:=hc;refine⟨cN,?_⟩;dsimp only at hp hK⊢;obtain⟨hfew,hall,hok⟩:=hp;dsimp only at hfew hall;unfold CO at hK;dsimp only at hK;obtain⟨⟨s,f⟩,hn1⟩:∃q,q=Gn L box:=⟨_,rfl⟩
 rw[←hn1]at hK;obtain⟨nq1,cq1,sq1,frm1,to1,bq1,pq1,iq1,lq1⟩:=b;cbv
 (refine gT hb ((⟨carrier,L⟩:Rg),box) [0,1] ⟨hfew,hall⟩ ?_;try dsimp only)
 rw[←hn1];cbv
 (refine .q9 ?_;cbv;exact .inl (.f9 hK))
theorem JH (P:bH):bN P T1 (wR [.ptr 2 0] i4):=by
 intro args H K hc;obtain⟨⟨⟨carrier,L⟩,b,holder⟩,rfl,rfl,hp,hK⟩:=hc;refine⟨cN,?_⟩;dsimp only at hp hK⊢;unfold i4 at hK;dsimp only at hK;obtain⟨n,hn⟩:∃n:Nat,n=L.length:=⟨_,rfl⟩
 rw[←hn]at hK;obtain⟨nq1,cq1,sq1,frm1,to1,bq1,pq1,iq1,lq1⟩:=b;cbv;repeat'((first|refine .mk (fun h=>?_) fun h=>?_|refine .k fun z hz=>?_|fail)<;>cbv)
 ·(refine .q9 ?_;cbv;exact .inl (.f9 (cD hK (aH bS).symm)))
 ·(refine .q9 ?_;cbv;exact .inl (.f9 (cD hK (aG bS).symm)))
def Ut:dN:=spec (fun i:nX×bG=>[.str i.2,.ptr 2 0]) (fun i=>tK i.1) (fun i=>Cn i.1) (fun i=>.bl (CO i.1 i.2)) fun i=>tK i.1
def Ng:dN:=spec (fun i:nX=>[.sl 1 (bI .str i.b.boxes),.clo 153 [.ptr 2 0]]) tK Cn (fun i=>.i (xE (CO i) i.b.boxes)) tK
theorem JJ (P:bH) (hm:dL P 153) (hf:bJ P 153 Ut):bN P SM Ng:=by
 intro args H K hc;obtain⟨i,rfl,rfl,hp,hK⟩:=hc;obtain⟨p,hpp⟩:∃p,p=CO i:=⟨_,rfl⟩
 have hok:=hp.ok;dsimp only at hK;rw[←hpp]at hK;obtain⟨⟨carrier,L⟩,b,holder⟩:=i;unfold tY at hok;obtain⟨nq1,cq1,sq1,frm1,to1,bq1,pq1,iq1,lq1⟩:=b;refine⟨cN,?_⟩;dsimp only at hok hK⊢;cbv;repeat'((first|refine .k fun z hz=>?_|fail)<;>cbv)
 refine bV [] (fun q:{ k:Nat // k≤bq1.length∧mS p bq1 k }=>[(8,.i (nI q.1))]) (fun _=>tK ⟨⟨carrier,L⟩,⟨nq1,cq1,sq1,frm1,to1,bq1,pq1,iq1,lq1⟩,holder⟩) (fun q=>fK 5001 q.1) ⟨0,aI _,.zero⟩ ?_;rintro ⟨k,hk,hn⟩;dsimp only at hk hn⊢;cbv;repeat'((first|refine .mk (fun h=>?_) fun h=>?_|fail)<;>cbv)
 ·refine cP bS bS fun j x hi hx=>?_
  obtain rfl:k=j:=bS;cbv;repeat'((first|refine And.intro ?_ ?_|fail)<;>cbv)
  ·exact hm
  ·obtain⟨b,hb⟩:∃b,b=p x:=⟨_,rfl⟩
   (refine gT hf ((⟨⟨carrier,L⟩,⟨nq1,cq1,sq1,frm1,to1,bq1,pq1,iq1,lq1⟩,holder⟩:nX),x) [0,1,2,3,4] hp ?_;try dsimp only)
   rw[←hpp,←hb];cases b with
   |true=>
    cbv
    (refine .q9 ?_;cbv;exact .inl (.f9 (fS hK (by rw[Di hn hx hb.symm]))))
   |false=>
    cbv;repeat'((first|refine .k fun z hz=>?_|fail)<;>cbv)
    obtain rfl:z=nI (k+1):=bS;exact bL ⟨k+1,by exact bS,hn.succ hx hb.symm⟩ (bM bS)
 ·obtain rfl:k=bq1.length:=bS
  (refine .q9 ?_;cbv;exact .inl (.f9 (fS hK (by rw[vC hn]))))
def MF:dN:=spec (fun i:nX=>[.sl 1 (bI .str i.b.boxes),.clo 153 [.ptr 2 0]]) tK Cn (fun i=>.bl (i3 i)) tK
theorem Ig (P:bH) (hi:bJ P 189 Ng):bN P S8 MF:=by
 intro args H K hc;obtain⟨i,rfl,rfl,hp,hK⟩:=hc;unfold i3 at hK;dsimp only at hK;rw[←Aq]at hK;obtain⟨e,he⟩:∃e,e=xE (CO i) i.b.boxes:=⟨_,rfl⟩
 rw[←he]at hK;obtain⟨⟨carrier,L⟩,b,holder⟩:=i;obtain⟨nq1,cq1,sq1,frm1,to1,bq1,pq1,iq1,lq1⟩:=b;refine⟨cN,?_⟩;dsimp only at hK⊢;cbv
 (refine gT hi (⟨⟨carrier,L⟩,⟨nq1,cq1,sq1,frm1,to1,bq1,pq1,iq1,lq1⟩,holder⟩:nX) [0,1,2,3,4] hp ?_;try dsimp only)
 rw[←he];cbv;repeat'((first|refine .mk (fun h=>?_) fun h=>?_|fail)<;>cbv)
 ·(refine .q9 ?_;cbv;exact .inl (.f9 (cD hK (by rw[aH h]))))
 ·(refine .q9 ?_;cbv;exact .inl (.f9 (cD hK (by rw[aG (by omega)]))))
theorem J8 (P:bH) (hc:bJ P 152 MF):bN P Vm (wR [.ptr 3 0,.ptr 2 0] i3):=by
 intro args H K hk;obtain⟨i,rfl,rfl,hp,hK⟩:=hk;obtain⟨q,hq⟩:∃q,q=i3 i:=⟨_,rfl⟩
 dsimp only at hK;rw[←hq]at hK;obtain⟨⟨carrier,L⟩,b,holder⟩:=i;obtain⟨nq1,cq1,sq1,frm1,to1,bq1,pq1,iq1,lq1⟩:=b;refine⟨cN,?_⟩;dsimp only at hK⊢;cbv
 (refine gT hc (⟨⟨carrier,L⟩,⟨nq1,cq1,sq1,frm1,to1,bq1,pq1,iq1,lq1⟩,holder⟩:nX) [0,1,2,3,4] hp ?_;try dsimp only)
 rw[←hq];cbv
 (refine .q9 ?_;cbv;exact .inl (.f9 hK))
def fW (i:nX):Int:=if i1 i then 1 else if i2 i then 5 else if i3 i then 9 else if i4 i then 7 else 0
def TM:List AV:=[.i 1,.clo 148 [.ptr 2 0,.ptr 3 0,.ptr 4 0],.i 5,.clo 150 [.ptr 2 0,.ptr 3 0],.i 9,.clo 151 [.ptr 3 0,.ptr 2 0],.i 7,.clo 155 [.ptr 2 0]]
def Lp (i:nX):List cH:=tK i++[.hrow 210 2 4 TM]
def Nk:dN:=spec (fun _:nX=>[.hd 5]) Lp Cn (fun i=>.i (fW i)) Lp
structure Vq (P:bH):Prop where
 m1:dL P 148
 m2:dL P 150
 m3:dL P 151
 m4:dL P 155
 f1:bJ P 148 (wR [.ptr 2 0,.ptr 3 0,.ptr 4 0] i1)
 f2:bJ P 150 (wR [.ptr 2 0,.ptr 3 0] i2)
 f3:bJ P 151 (wR [.ptr 3 0,.ptr 2 0] i3)
 f4:bJ P 155 (wR [.ptr 2 0] i4)
theorem Ey (P:bH) (F:Vq P):bN P QO Nk:=by
 intro args H K hc;obtain⟨i,rfl,rfl,hp,hK⟩:=hc;dsimp only at hK;have he:fW i=if i1 i then 1 else if i2 i then 5 else if i3 i then 9 else if i4 i then 7 else 0:=rfl
 obtain⟨e,hee⟩:∃e,e=fW i:=⟨_,rfl⟩
 rw[←hee]at hK he;obtain⟨q1,hq1⟩:∃q,q=i1 i:=⟨_,rfl⟩
 obtain⟨q2,hq2⟩:∃q,q=i2 i:=⟨_,rfl⟩
 obtain⟨q3,hq3⟩:∃q,q=i3 i:=⟨_,rfl⟩
 obtain⟨q4,hq4⟩:∃q,q=i4 i:=⟨_,rfl⟩
 rw[←hq1,←hq2,←hq3,←hq4]at he;obtain⟨⟨carrier,L⟩,b,holder⟩:=i;obtain⟨nq1,cq1,sq1,frm1,to1,bq1,pq1,iq1,lq1⟩:=b;refine⟨cN,?_⟩;dsimp only at hK⊢;cbv;refine bV [] (fun p:{ k:Nat // k≤4∧(1≤k→q1=false)∧(2≤k→q2=false)∧(3≤k→q3=false)∧(4≤k→q4=false) }=>[(7,.i (nI p.1))]) (fun _=>Lp ⟨⟨carrier,L⟩,⟨nq1,cq1,sq1,frm1,to1,bq1,pq1,iq1,lq1⟩,holder⟩) (fun p=>fK 4 p.1) ⟨0,by decide,fun h=>absurd h (by decide),fun h=>absurd h (by decide),fun h=>absurd h (by decide),fun h=>absurd h (by decide)⟩ ?_;rintro ⟨k,hk,g1,g2,g3,g4⟩;dsimp only at hk g1 g2 g3 g4⊢;have hk4:k=0∨k=1∨k=2∨k=3∨k=4:=by omega
 rcases hk4 with rfl|rfl|rfl|rfl|rfl
 ·cbv;repeat'((first|refine .y fun h=>?_|refine .o ?_|refine And.intro ?_ ?_|fail)<;>cbv)
  ·exact F.m1
  ·have e0:True:=trivial
   (refine gT F.f1 (⟨⟨carrier,L⟩,⟨nq1,cq1,sq1,frm1,to1,bq1,pq1,iq1,lq1⟩,holder⟩:nX) [0,1,2,3,4] hp ?_;try dsimp only)
   rw[←hq1];cases q1 with
   |true=>
    cbv
    (refine .q9 ?_;cbv;exact .inl (.f9 (fS hK (by rw[he];rfl))))
   |false=>
    cbv;repeat'((first|refine .k fun z hz=>?_|fail)<;>cbv)
    obtain rfl:z=nI 1:=bS;exact bL ⟨1,by decide,fun _=>rfl,fun h=>absurd h (by decide),fun h=>absurd h (by decide),fun h=>absurd h (by decide)⟩ (bM (by decide))
 ·cbv;repeat'((first|refine .y fun h=>?_|refine .o ?_|refine And.intro ?_ ?_|fail)<;>cbv)
  ·exact F.m2
  ·have e0:True:=trivial;have e1:=g1 (by decide)
   (refine gT F.f2 (⟨⟨carrier,L⟩,⟨nq1,cq1,sq1,frm1,to1,bq1,pq1,iq1,lq1⟩,holder⟩:nX) [0,1,2,3,4] hp ?_;try dsimp only)
   rw[←hq2];cases q2 with
   |true=>
    cbv
    (refine .q9 ?_;cbv;exact .inl (.f9 (fS hK (by rw[he,e1];rfl))))
   |false=>
    cbv;repeat'((first|refine .k fun z hz=>?_|fail)<;>cbv)
    obtain rfl:z=nI 2:=bS;exact bL ⟨2,by decide,fun _=>g1 (by decide),fun _=>rfl,fun h=>absurd h (by decide),fun h=>absurd h (by decide)⟩ (bM (by decide))
 ·cbv;repeat'((first|refine .y fun h=>?_|refine .o ?_|refine And.intro ?_ ?_|fail)<;>cbv)
  ·exact F.m3
  ·have e0:True:=trivial;have e1:=g1 (by decide);have e2:=g2 (by decide)
   (refine gT F.f3 (⟨⟨carrier,L⟩,⟨nq1,cq1,sq1,frm1,to1,bq1,pq1,iq1,lq1⟩,holder⟩:nX) [0,1,2,3,4] hp ?_;try dsimp only)
   rw[←hq3];cases q3 with
   |true=>
    cbv
    (refine .q9 ?_;cbv;exact .inl (.f9 (fS hK (by rw[he,e1,e2];rfl))))
   |false=>
    cbv;repeat'((first|refine .k fun z hz=>?_|fail)<;>cbv)
    obtain rfl:z=nI 3:=bS;exact bL ⟨3,by decide,fun _=>g1 (by decide),fun _=>g2 (by decide),fun _=>rfl,fun h=>absurd h (by decide)⟩ (bM (by decide))
 ·cbv;repeat'((first|refine .y fun h=>?_|refine .o ?_|refine And.intro ?_ ?_|fail)<;>cbv)
  ·exact F.m4
  ·have e0:True:=trivial;have e1:=g1 (by decide);have e2:=g2 (by decide);have e3:=g3 (by decide)
   (refine gT F.f4 (⟨⟨carrier,L⟩,⟨nq1,cq1,sq1,frm1,to1,bq1,pq1,iq1,lq1⟩,holder⟩:nX) [0,1,2,3,4] hp ?_;try dsimp only)
   rw[←hq4];cases q4 with
   |true=>
    cbv
    (refine .q9 ?_;cbv;exact .inl (.f9 (fS hK (by rw[he,e1,e2,e3];rfl))))
   |false=>
    cbv;repeat'((first|refine .k fun z hz=>?_|fail)<;>cbv)
    obtain rfl:z=nI 4:=bS;exact bL ⟨4,by decide,fun _=>g1 (by decide),fun _=>g2 (by decide),fun _=>g3 (by decide),fun _=>rfl⟩ (bM (by decide))
 ·have e1:=g1 (by decide);have e2:=g2 (by decide);have e3:=g3 (by decide);have e4:=g4 (by decide);cbv;repeat'((first|refine .n fun h=>?_|fail)<;>cbv)
  (refine .q9 ?_;cbv;exact .inl (.f9 (fS hK (by rw[he,e1,e2,e3,e4];rfl))))
theorem cV {M:Nat}{res:List B2}{K:AV→List cH→Prop}{st st1:St}(hg:Gh M st st1) (h:XJ M res K st1):XJ M res K st:=by
 obtain⟨st',h1,h2⟩:=h;exact⟨⟨st',hg.trans h1,h2⟩⟩
theorem lE {α:Type}{f:α→AU}{L:List α}(key:α→bG) (hf:∀a,(f a).1=.str (key a)) {s:bG}{outs:List (Nat×AV)}{v:AV}{K:List AU→List (Nat×AV)→Prop}(ha:kK key L s=none) (h:∀es n,es=bI f L++[(.str s,.any,[])]→n=L.length→K es ((n,v) :: outs)):Ou (.str s) (bI f L) outs v K:=
 LO key hf ha (h _ _ rfl rfl)
theorem Gh.backN2 {α:Type}{M:Nat}{st:St}(k:Nat) (sel:List Nat) (f:α→AU) {L L':List α}(y:α) {es:List AU}{n:Nat}{t:TypeId}{x:AV}(hes:es=bI f L++[((f y).1,.any,[])]) (hn:n=L.length) (hL':L'=L++[y]) (hk:st.H[k]?=some (.pool t es [(n,x)]):=by rfl)
  (hx:x=(f y).2.1.ren sel 0:=by rfl) (hH:sel.map (fun q=>st.H[q]?)=(gC sel 0 (f y).2.2).map some:=by rfl) (hnd:sel.Nodup:=by decide) (hsel:sel.all (fun q=>Nat.ble M q && q != k)=true:=by decide) (hb:(f y).2.1.bnd sel.length=true:=by rfl) (hbH:jR sel.length (f y).2.2=true:=by rfl) (hpl:(f y).2.2.all uP=true:=by rfl) :
  Gh M st ⟨iV st.T sel,AF (gQ (st.H.set k (.pool t (bI f L') [])) sel) sel⟩:=by
 subst hes hn hL';exact Gh.backN k sel f y hk rfl hx hH hnd hsel hb hbH hpl
def DF (b:Bl) (holder:bG):Br:=⟨b,0,⟨0,holder,[]⟩,⟨0,holder,[]⟩,⟨0,holder,[]⟩⟩
def iY (i:nX):Rg:=if fW i=0 then ⟨i.R.carrier,i.R.bills++[DF i.b i.holder]⟩ else i.R
def Gf:dN:=spec (fun i:nX=>[.ptr 0 0,IA i.b,.str i.holder]) (fun i=>lY i.R) Cn (fun i=>.i (fW i)) fun i=>lY (iY i)
theorem G7 (P:bH) (hf:bJ P 105 Nk) (hcp:bJ P 54 Cd):bN P Vw Gf:=by
 intro args H K hc;obtain⟨i,rfl,rfl,hp,hK⟩:=hc;dsimp only at hK;have hok:=hp.ok;obtain⟨e,he⟩:∃e,e=fW i:=⟨_,rfl⟩
 obtain⟨R',hR'⟩:∃R',R'=iY i:=⟨_,rfl⟩
 rw[←he,←hR']at hK;unfold iY at hR';rw[←he]at hR';have hi2:e=0→i2 i=false:=fun h=>by
  rw[h]at he;unfold fW at he;cases h2:i2 i with
  |false=>rfl
  |true=>
   rw[h2]at he;cases h1:i1 i with
   |false=>rw[h1]at he;simp at he
   |true=>rw[h1]at he;simp at he
 obtain⟨⟨carrier,L⟩,b,holder⟩:=i;dsimp only at hR' hok;obtain⟨nq1,cq1,sq1,frm1,to1,bq1,pq1,iq1,lq1⟩:=b;refine⟨cN,?_⟩;dsimp only at hK⊢;cbv
 (refine gT hf (⟨⟨carrier,L⟩,⟨nq1,cq1,sq1,frm1,to1,bq1,pq1,iq1,lq1⟩,holder⟩:nX) [0,1,2,3,4,5] hp ?_;try dsimp only)
 rw[←he];cbv;repeat'((first|refine .mk (fun h=>?_) fun h=>?_|fail)<;>cbv)
 ·rw[aF h]at hR';rw[h]at hK;have hn2:=hi2 h;unfold i2 at hn2;dsimp only at hn2
  (refine XG hcp ⟨nq1,cq1,sq1,frm1,to1,bq1,pq1,iq1,lq1⟩ hok ?_;try dsimp only)
  cbv;refine bV [] (fun p:{ k:Nat // k≤3 }=>[(27,.i (nI p.1))]) (fun p=>[.blk 122 [.str carrier,.ph 1],.pool 120 (bI eD L) [],.blk 45 [.ptr 0 0],.blk 79 [.str nq1,.str cq1,.str sq1,.str frm1,.str to1,.sl 1 (bI .str bq1),.sl 1 (bI .str pq1),.i iq1,.bl lq1],.blk 9 [.str holder],.hrow 210 2 4 TM,.blk 127 (fP p.1 [.str nq1,.str cq1,.str sq1,.str frm1,.str to1,.sl 1 (bI .str bq1),.sl 1 (bI .str pq1),.i iq1,.bl lq1,.i 0,.i 0,.str ⟨⟨[]⟩⟩,.v (.slice none 0 0),.i 0,.str ⟨⟨[]⟩⟩,.v (.slice none 0 0),.i 0,.str ⟨⟨[]⟩⟩,.v (.slice none 0 0)] [.str nq1,.str cq1,.str sq1,.str frm1,.str to1,.sl 1 (bI .str bq1),.sl 1 (bI .str pq1),.i iq1,.bl lq1,.i 0,.i 0,.str holder,.v (.slice none 0 0),.i 0,.str ⟨⟨[]⟩⟩,.v (.slice none 0 0),.i 0,.str ⟨⟨[]⟩⟩,.v (.slice none 0 0)] [.str nq1,.str cq1,.str sq1,.str frm1,.str to1,.sl 1 (bI .str bq1),.sl 1 (bI .str pq1),.i iq1,.bl lq1,.i 0,.i 0,.str holder,.v (.slice none 0 0),.i 0,.str holder,.v (.slice none 0 0),.i 0,.str ⟨⟨[]⟩⟩,.v (.slice none 0 0)] [.str nq1,.str cq1,.str sq1,.str frm1,.str to1,.sl 1 (bI .str bq1),.sl 1 (bI .str pq1),.i iq1,.bl lq1,.i 0,.i 0,.str holder,.v (.slice none 0 0),.i 0,.str holder,.v (.slice none 0 0),.i 0,.str holder,.v (.slice none 0 0)])]) (fun p=>fK 3 p.1) ⟨0,by decide⟩ ?_;rintro ⟨k,hk⟩;dsimp only at hk⊢;have hk4:k=0∨k=1∨k=2∨k=3:=by omega
  rcases hk4 with rfl|rfl|rfl|rfl
  ·cbv;repeat'((first|refine .n fun h=>?_|refine .y fun h=>?_|refine .k fun z hz=>?_|refine .o ?_|fail)<;>cbv)
   obtain rfl:z=nI 1:=bS;exact bL ⟨1,by decide⟩ (bM (by decide))
  ·cbv;repeat'((first|refine .n fun h=>?_|refine .y fun h=>?_|refine .k fun z hz=>?_|refine .o ?_|fail)<;>cbv)
   obtain rfl:z=nI 2:=bS;exact bL ⟨2,by decide⟩ (bM (by decide))
  ·cbv;repeat'((first|refine .y fun h=>?_|refine .k fun z hz=>?_|refine .o ?_|fail)<;>cbv)
   obtain rfl:z=nI 3:=bS;exact bL ⟨3,by decide⟩ (bM (by decide))
  ·cbv;repeat'((first|refine .n fun h=>?_|fail)<;>cbv)
   have hat:kK (fun b:Br=>b.b.number) L nq1=none:=by
    cases hx:kK (fun b:Br=>b.b.number) L nq1 with
    |none=>rfl
    |some j=>
     unfold qQ at hn2;rw[hx]at hn2;cases hn2
   refine lE (fun b:Br=>b.b.number) (fun _=>rfl) hat (fun es n hes hn=>?_);cbv;obtain⟨L',hL'⟩:∃L',L'=L++[(⟨⟨nq1,cq1,sq1,frm1,to1,bq1,pq1,iq1,lq1⟩,0,⟨0,holder,[]⟩,⟨0,holder,[]⟩,⟨0,holder,[]⟩⟩:Br)]:=⟨_,rfl⟩
   obtain rfl:R'=⟨carrier,L'⟩:=by rw[hR',hL'];rfl
   refine cV (Gh.adoptC 6 12 180 4 rfl rfl) ?_;cbv;refine cV (Gh.adoptC 6 15 180 4 rfl rfl) ?_;cbv;refine cV (Gh.adoptC 6 18 180 4 rfl rfl) ?_;cbv;refine cV (Gh.publish 7 rfl) ?_;cbv;refine cV (Gh.publish 8 rfl) ?_;cbv;refine cV (Gh.publish 9 rfl) ?_;cbv;refine cV (Gh.backN2 1 [6,7,8,9] eD ⟨⟨nq1,cq1,sq1,frm1,to1,bq1,pq1,iq1,lq1⟩,0,⟨0,holder,[]⟩,⟨0,holder,[]⟩,⟨0,holder,[]⟩⟩ hes hn hL') ?_;cbv
   (refine .q9 ?_;cbv;exact .inl (.f9 hK))
 ·rw[aE h]at hR';subst hR'
  (refine .q9 ?_;cbv;exact .inl (.f9 hK))
set_option maxHeartbeats 4000000
def pA {ι κ:Type}(a:ι→List AV) (h:ι→List cH) (p:ι→Prop) (q:ι→κ→Prop) (r:ι→κ→AV) (h':ι→κ→List cH):dN:=fun args H K=>∃i,args=a i∧H=h i∧p i∧∀k,q i k→K (r i k) (h' i k)
theorem cK {P:bH}{f:Nat}{ι κ:Type}{a:ι→List AV}{h:ι→List cH}{p:ι→Prop}{q:ι→κ→Prop}{r:ι→κ→AV}{h':ι→κ→List cH}(hf:bJ P f (pA a h p q r h')) (i:ι) (sel:List Nat) {keep:List Nat}{args:List AV}{st:St}{K:AV→St→Prop}
  (hp:p i) (ha:args=AV.renL sel st.H.length (a i)) (hlen:sel.length=(h i).length) (hnd:sel.Nodup) (hlt:(sel.all fun k=>Nat.blt k st.H.length)=true) (hH:sel.map (fun k=>st.H[k]?)=(gC sel st.H.length (h i)).map some)
  (hb:AV.bndL (h i).length (a i)=true) (hbH:jR (h i).length (h i)=true) (hkeep:(keep.all fun k=>!sel.contains k && Nat.blt k st.H.length)=true)
  (hK:∀k,q i k→K ((r i k).ren sel st.H.length) ⟨iV st.T (fT sel (h i)),rY (gQ st.H (fT sel (h i))) sel (gC sel st.H.length (h' i k))⟩):gG P keep f args st K:=
 tU hf sel ha hlen hnd (fun k hk=>by simpa [Nat.blt_eq]using aT.1 hlt k hk) hH hb hbH (fun k hk=>by
  have:=aT.1 hkeep k hk;simp only[aO,Bool.not_eq_true',Nat.blt_eq]at this;exact⟨fun h=>by rw[List.contains_eq_mem]at this;simp[h]at this,this.2⟩) ⟨i,rfl,rfl,hp,hK⟩
def gS (L:List Br):Prop:=(L.map fun b=>b.b.number).Nodup
def tD (L:List Br) (seen:List Nat):List Br:=seen.filterMap fun i=>L[i]?
theorem Fl {L:List Br}{seen:List Nat}{i:Nat}{y:Br}(hy:L[i]?=some y):tD L (seen++[i])=tD L seen++[y]:=by
 unfold tD;rw[List.filterMap_append,List.filterMap_cons,hy];rfl
theorem JX {L:List Br}{seen:List Nat}(h:lB L seen) (hall:∀i,i < L.length→i∈seen):(tD L seen).Perm L:=by
 have hp:seen.Perm (List.range L.length):=(List.perm_ext_iff_of_nodup h.nd List.nodup_range).2 fun i=>⟨fun hi=>List.mem_range.2 (h.lt i hi),fun hi=>hall i (List.mem_range.1 hi)⟩
 have e:=sI (some:Br→Option Br) L;have e2:(fun i:Nat=>L[i]?.bind (some:Br→Option Br))=fun i=>L[i]?:=by funext i;cases L[i]?<;>rfl
 rw[e2,List.filterMap_some]at e;have h2:=hp.filterMap fun i=>L[i]?
 rw[e]at h2;exact h2
theorem oA {α:Type}{l:List α}(h:l.Nodup) {i j:Nat}{hi:i < l.length}{hj:j < l.length}(e:l[i]=l[j]):i=j:=by
 rcases Nat.lt_trichotomy i j with h1|h1|h1
 ·exact absurd e (List.pairwise_iff_getElem.1 h i j hi hj h1)
 ·exact h1
 ·exact absurd e.symm (List.pairwise_iff_getElem.1 h j i hj hi h1)
theorem JY {L:List Br}{seen:List Nat}{i:Nat}{y:Br}(hn:gS L) (hy:L[i]?=some y) (hni:i∉seen):kK (fun b:Br=>b.b.number) (tD L seen) y.b.number=none:=by
 cases hx:kK (fun b:Br=>b.b.number) (tD L seen) y.b.number with
 |none=>rfl
 |some j=>
  obtain⟨z,hz,hk⟩:=dY hx;have hm:=aC hz;unfold tD at hm;obtain⟨n,hns,hnz⟩:=List.mem_filterMap.1 hm;exfalso;unfold gS at hn;obtain⟨hi,rfl⟩:=aA.1 hy;obtain⟨hj,rfl⟩:=aA.1 hnz;have e:=oA (l:=L.map fun b=>b.b.number) (i:=n) (j:=i) (hi:=by rw[aJ];exact hj) (hj:=by rw[aJ];exact hi) hn (by rw[List.getElem_map,List.getElem_map];exact hk);subst e;exact hni hns
def Tl (R:Rg) (L':List Br):List cH:=lY R++[.blk 122 [.str R.carrier,.ph 3],.pool 120 (bI eD L') []]
def KQ:dN:=pA (fun _:Rg=>[.ptr 0 0]) lY (fun R=>R.bills.length≤256∧(∀b∈R.bills,inB b)∧gS R.bills) (fun R L'=>L'.Perm R.bills) (fun _ _=>.ptr 2 0) Tl
theorem Iu (P:bH) (hnew:bJ P 50 Oy) (hcp:bJ P 54 Cd) (hcl:bJ P 77 (vG 180 4 48)):bN P Xm KQ:=by
 intro args H K hc;obtain⟨⟨carrier,L⟩,rfl,rfl,hp,hK⟩:=hc;refine⟨cN,?_⟩;dsimp only at hp hK⊢;obtain⟨hfew,hall,hnd⟩:=hp;cbv
 (refine xK hnew carrier trivial ?_;try dsimp only)
 cbv;repeat'((first|refine .k fun z hz=>?_|fail)<;>cbv)
 obtain⟨n,hn⟩:∃n:Nat,n=L.length:=⟨_,rfl⟩
 obtain rfl:z=nI n:=bS;refine bV [] (fun q:{ q:List Nat×Nat // lB L q.1∧q.2=q.1.length }=>[]) (fun q=>[.blk 122 [.str carrier,.ph 1],.pool 120 (bI eD L) [],.blk 122 [.str carrier,.ph 3],.pool 120 (bI eD (tD L q.1.1)) [],.iter (.ph 1) n q.1.1]) (fun q=>fK 257 q.1.2) ⟨([],0),.nil,rfl⟩ ?_;rintro ⟨⟨seen,k⟩,hse,hk⟩;dsimp only at hse hk⊢;have hsl:=hse.len;obtain⟨L1,hL1⟩:∃l,l=tD L seen:=⟨_,rfl⟩
 rw[←hL1];cbv;refine Cx hn (fun i y hy hni=>?_) (fun hall=>?_)<;>try dsimp only at *
 ·have hin:=hall y (aC hy);have hse2:=hse.snoc hy hni;have hnew1:=JY hnd hy hni;have hsn:=Fl (seen:=seen) hy;obtain⟨s2,hs2⟩:∃s,s=seen++[i]:=⟨_,rfl⟩
  rw[←hs2]at hse2 hsn⊢;rw[←hL1]at hnew1 hsn;have hlt:k < 257:=by omega
  have hsk:s2.length=k+1:=by rw[hs2,hk];simp
  unfold inB tY pG at hin;obtain⟨⟨nq1,cq1,sq1,frm1,to1,bq1,pq1,iq1,lq1⟩,st1,⟨sa1,ha1,ca1⟩,⟨sb1,hb1,cb1⟩,⟨sc1,hc1,cc1⟩⟩:=y;dsimp only at hin hnew1 hsn;obtain⟨⟨hl0,hl1,hl2⟩,hob⟩:=hin;cbv;refine Aj hs2 hn hy ?_;cbv
  (refine XG hcp ⟨nq1,cq1,sq1,frm1,to1,bq1,pq1,iq1,lq1⟩ hob ?_;try dsimp only)
  cbv;refine iI (Gh.viewE 9 rfl) ?_;cbv;refine bV [] (fun p:{ k:Nat // k≤3 }=>[(38,.i (nI p.1))]) (fun p=>[.blk 122 [.str carrier,.ph 1],.pool 120 (bI eD L) [(i,.ptr 5 0)],.blk 122 [.str carrier,.ph 3],.pool 120 (bI eD L1) [],.iter (.ph 1) n s2]++gC [] 5 (rF ⟨⟨nq1,cq1,sq1,frm1,to1,bq1,pq1,iq1,lq1⟩,st1,⟨sa1,ha1,ca1⟩,⟨sb1,hb1,cb1⟩,⟨sc1,hc1,cc1⟩⟩)++(fP p.1 [.blk 127 [.str nq1,.str cq1,.str sq1,.str frm1,.str to1,.sl 1 (bI .str bq1),.sl 1 (bI .str pq1),.i iq1,.bl lq1,.i st1,.i sa1,.str ha1,.sl 4 (bI bW ca1),.i sb1,.str hb1,.sl 4 (bI bW cb1),.i sc1,.str hc1,.sl 4 (bI bW cc1)]] [.blk 127 [.str nq1,.str cq1,.str sq1,.str frm1,.str to1,.sl 1 (bI .str bq1),.sl 1 (bI .str pq1),.i iq1,.bl lq1,.i st1,.i sa1,.str ha1,.hd 10,.i sb1,.str hb1,.sl 4 (bI bW cb1),.i sc1,.str hc1,.sl 4 (bI bW cc1)],.row 180 4 (bI bW ca1)] [.blk 127 [.str nq1,.str cq1,.str sq1,.str frm1,.str to1,.sl 1 (bI .str bq1),.sl 1 (bI .str pq1),.i iq1,.bl lq1,.i st1,.i sa1,.str ha1,.hd 10,.i sb1,.str hb1,.hd 11,.i sc1,.str hc1,.sl 4 (bI bW cc1)],.row 180 4 (bI bW ca1),.row 180 4 (bI bW cb1)] [.blk 127 [.str nq1,.str cq1,.str sq1,.str frm1,.str to1,.sl 1 (bI .str bq1),.sl 1 (bI .str pq1),.i iq1,.bl lq1,.i st1,.i sa1,.str ha1,.hd 10,.i sb1,.str hb1,.hd 11,.i sc1,.str hc1,.hd 12],.row 180 4 (bI bW ca1),.row 180 4 (bI bW cb1),.row 180 4 (bI bW cc1)])) (fun p=>fK 3 p.1) ⟨0,by decide⟩ ?_;rintro ⟨j,hj⟩;dsimp only at hj⊢;have hk4:j=0∨j=1∨j=2∨j=3:=by omega
  rcases hk4 with rfl|rfl|rfl|rfl
  ·cbv;repeat'((first|refine .n fun h=>?_|refine .y fun h=>?_|refine .o ?_|fail)<;>cbv)
   (refine xK hcl _ ⟨by rw[bY];unfold maxLen;omega,by rw[bY];omega⟩ ?_;try dsimp only)
   cbv;repeat'((first|refine .n fun h=>?_|refine .k fun z hz=>?_|refine .o ?_|fail)<;>cbv)
   obtain rfl:z=nI 1:=bS;exact bL ⟨1,by decide⟩ (bM (by decide))
  ·cbv;repeat'((first|refine .n fun h=>?_|refine .y fun h=>?_|refine .o ?_|fail)<;>cbv)
   (refine xK hcl _ ⟨by rw[bY];unfold maxLen;omega,by rw[bY];omega⟩ ?_;try dsimp only)
   cbv;repeat'((first|refine .n fun h=>?_|refine .y fun h=>?_|refine .k fun z hz=>?_|refine .o ?_|fail)<;>cbv)
   obtain rfl:z=nI 2:=bS;exact bL ⟨2,by decide⟩ (bM (by decide))
  ·cbv;repeat'((first|refine .y fun h=>?_|refine .o ?_|fail)<;>cbv)
   (refine xK hcl _ ⟨by rw[bY];unfold maxLen;omega,by rw[bY];omega⟩ ?_;try dsimp only)
   cbv;repeat'((first|refine .y fun h=>?_|refine .k fun z hz=>?_|refine .o ?_|fail)<;>cbv)
   obtain rfl:z=nI 3:=bS;exact bL ⟨3,by decide⟩ (bM (by decide))
  ·cbv;repeat'((first|refine .n fun h=>?_|fail)<;>cbv)
   refine lE (fun b:Br=>b.b.number) (fun _=>rfl) hnew1 (fun es n2 hes hn2=>?_);cbv;refine dV (Gh.publish 10 rfl) ?_;cbv;refine dV (Gh.publish 11 rfl) ?_;cbv;refine dV (Gh.publish 12 rfl) ?_;cbv;refine dV (Gh.back0 1 [5,6,7,8] eD rfl hy) ?_;cbv;refine dV (Gh.backN2 3 [9,10,11,12] eD ⟨⟨nq1,cq1,sq1,frm1,to1,bq1,pq1,iq1,lq1⟩,st1,⟨sa1,ha1,ca1⟩,⟨sb1,hb1,cb1⟩,⟨sc1,hc1,cc1⟩⟩ hes hn2 hsn) ?_;cbv;exact bL ⟨(s2,k+1),hse2,hsk.symm⟩ (bM hlt)
 ·have hperm:L1.Perm L:=by rw[hL1];exact JX hse ‹∀i,i < L.length→i∈seen›
  cbv
  (refine .q9 ?_;cbv;exact .inl (.f9 (hK L1 hperm)))
set_option maxHeartbeats 2000000
def xJ:Br→List AV
 |⟨⟨number,carrier,shipper,frm,to,boxes,parents,issued,clean⟩,st,⟨sa,ha,ca⟩,⟨sb,hb,cb⟩,⟨sc,hc,cc⟩⟩=>
  [.str number,.str carrier,.str shipper,.str frm,.str to,.sl 1 (bI .str boxes),.sl 1 (bI .str parents),.i issued,.bl clean,.i st,.sl 3 [.agg [.i sa,.str ha,.sl 4 (bI bW ca)],.agg [.i sb,.str hb,.sl 4 (bI bW cb)],.agg [.i sc,.str hc,.sl 4 (bI bW cc)]]]
def iD (b:Br):AV:=.agg (xJ b)
def Je:Rg→AV
 |⟨c,l⟩=>.agg [.str c,.sl 11 (bI iD l)]
structure At where
 kind:Int
 index:Int
 day:Int
 bill:bG
 by_:bG
 to:bG
 b:Bl
def xD:At→List AV
 |⟨kind,index,day,bill,by_,to,⟨number,carrier,shipper,frm,to2,boxes,parents,issued,clean⟩⟩=>[.i kind,.i index,.i day,.str bill,.str by_,.str to,.str number,.str carrier,.str shipper,.str frm,.str to2,.sl 1 (bI .str boxes),.sl 1 (bI .str parents),.i issued,.bl clean]
def Nn (a:At):AV:=.agg (xD a)
def oG {α:Type}(p:α→Bool) (l:List α):Int:=match l.findIdx? p with
 |some i=>Int.ofNat i
 |none=>-1
def jO {α:Type}(p:α→Bool) (l:List α) (k:Nat):Prop:=∀j y,j < k→l[j]?=some y→p y=false
theorem jO.zero {α:Type}{p:α→Bool}{l:List α}:jO p l 0:=fun j y h=>absurd h (Nat.not_lt_zero j)
theorem jO.succ {α:Type}{p:α→Bool}{l:List α}{k:Nat}{x:α}(h:jO p l k) (hx:l[k]?=some x) (hp:p x=false):jO p l (k+1):=fun j y hj hy=>by
 rcases aL j k with h1|h1
 ·exact h j y h1 hy
 ·obtain rfl:j=k:=by omega
  rw[hx]at hy;cases hy;exact hp
theorem HN {α:Type}{p:α→Bool}{l:List α}{k:Nat}{x:α}(h:jO p l k) (hx:l[k]?=some x) (hp:p x=true):oG p l=Int.ofNat k:=by
 obtain⟨hk,rfl⟩:=aA.1 hx;have e:l.findIdx? p=some k:=List.findIdx?_eq_some_iff_getElem.2 ⟨hk,hp,fun j hj=>by rw[h j _ hj (aB (by omega))];decide⟩;unfold oG;rw[e]
theorem BN {α:Type}{p:α→Bool}{l:List α}(h:jO p l l.length):oG p l=-1:=by
 have e:l.findIdx? p=none:=List.findIdx?_eq_none_iff.2 fun x hx=>by
  obtain⟨j,hj,rfl⟩:=List.mem_iff_getElem.1 hx;exact h j _ hj (aB hj)
 unfold oG;rw[e]
theorem iL {α:Type}{p:α→Bool}{l:List α}(h:jO p l l.length):l.any p=false:=by
 rw[List.any_eq_false];intro x hx;obtain⟨j,hj,rfl⟩:=List.mem_iff_getElem.1 hx;rw[h j _ hj (aB hj)];decide
theorem fZ {α:Type}{p:α→Bool}{l:List α}{k:Nat}{x:α}(hx:l[k]?=some x) (hp:p x=true):l.any p=true:=List.any_eq_true.2 ⟨x,aC hx,hp⟩
theorem IB (P:bH):bN P Va Db:=by
 intro args H K hc;obtain⟨z,rfl,rfl,hp,hK⟩:=hc;refine⟨cN,?_⟩;dsimp only at hp hK⊢;cbv;repeat'((first|refine .mk (fun h=>?_) fun h=>?_|fail)<;>cbv)
 all_goals exact XJ.mk ⟨_,Gh.refl _,.inl (.v9 (cD hK (by(unfold eN;simp;omega))))⟩
def TT:dN:=spec (fun i:List bG×bG=>[.sl 1 (bI .str i.1),.str i.2]) (fun _=>[]) (fun i=>i.1.length≤5000) (fun i=>.bl (i.1.any fun x=>decide (i.2=x))) fun _=>[]
theorem NG (P:bH):bN P T6 TT:=by
 intro args H K hc;obtain⟨⟨l,s⟩,rfl,rfl,hp,hK⟩:=hc;refine⟨cN,?_⟩;dsimp only at hp hK⊢;obtain⟨p,hpp⟩:∃p:bG→Bool,p=fun x=>decide (s=x):=⟨_,rfl⟩
 rw[←hpp]at hK;have hpx:∀x,p x=decide (s=x):=fun x=>by rw[hpp]
 clear hpp;cbv;refine bV [] (fun q:{ k:Nat // k≤l.length∧jO p l k }=>[(5,.i (nI q.1))]) (fun _=>[]) (fun q=>fK 5001 q.1) ⟨0,aI _,.zero⟩ ?_;rintro ⟨k,hk,hn⟩;dsimp only at hk hn⊢;cbv;repeat'((first|refine .mk (fun h=>?_) fun h=>?_|refine .k fun z hz=>?_|fail)<;>cbv)
 ·refine cP bS bS fun i x hi hx=>?_
  obtain rfl:k=i:=bS;cbv;repeat'((first|refine .mk (fun h=>?_) fun h=>?_|refine .k fun z hz=>?_|fail)<;>cbv)
  ·exact XJ.mk ⟨_,Gh.refl _,.inl (.v9 (cD hK (by(rw[fZ hx ((hpx x).trans (aH h.symm))]))))⟩
  ·obtain rfl:z=nI (k+1):=bS;exact bL ⟨k+1,by exact bS,hn.succ hx ((hpx x).trans (aG fun e=>h e.symm))⟩ (bM bS)
 ·obtain rfl:k=l.length:=bS;exact XJ.mk ⟨_,Gh.refl _,.inl (.v9 (cD hK (by(rw[iL hn]))))⟩
def FY:dN:=spec (fun l:List bG=>[.sl 1 (bI .str l)]) (fun _=>[]) (fun l=>l.length≤5000∧∀s∈l,s.size≤maxLen) (fun l=>.bl (!(l.any fun s=>!bR s))) fun _=>[]
theorem GQ (P:bH) (hnm:bJ P 133 (iE (fun s=>s.size≤maxLen) bR)):bN P Wl FY:=by
 intro args H K hc;obtain⟨l,rfl,rfl,hp,hK⟩:=hc;refine⟨cN,?_⟩;dsimp only at hp hK⊢;obtain⟨hp,hsz⟩:=hp;obtain⟨p,hpp⟩:∃p:bG→Bool,p=fun s=>!bR s:=⟨_,rfl⟩
 rw[←hpp]at hK;have hpx:∀x,p x=!bR x:=fun x=>by rw[hpp]
 clear hpp;cbv;refine bV [] (fun q:{ k:Nat // k≤l.length∧jO p l k }=>[(3,.i (nI q.1))]) (fun _=>[]) (fun q=>fK 5001 q.1) ⟨0,aI _,.zero⟩ ?_;rintro ⟨k,hk,hn⟩;dsimp only at hk hn⊢;cbv;repeat'((first|refine .mk (fun h=>?_) fun h=>?_|refine .k fun z hz=>?_|fail)<;>cbv)
 ·refine cP bS bS fun i x hi hx=>?_
  obtain rfl:k=i:=bS;have hx2:=hpx x;obtain⟨n,hn1⟩:∃n,n=bR x:=⟨_,rfl⟩
  rw[←hn1]at hx2;cbv
  (refine XG hnm x (hsz x (aC hx)) ?_;try dsimp only)
  rw[←hn1];cases n with
  |false=>
   cbv;exact XJ.mk ⟨_,Gh.refl _,.inl (.v9 (cD hK (by(rw[fZ hx hx2];rfl))))⟩
  |true=>
   cbv;repeat'((first|refine .k fun z hz=>?_|fail)<;>cbv)
   obtain rfl:z=nI (k+1):=bS;exact bL ⟨k+1,by exact bS,hn.succ hx hx2⟩ (bM bS)
 ·obtain rfl:k=l.length:=bS;exact XJ.mk ⟨_,Gh.refl _,.inl (.v9 (cD hK (by(rw[iL hn];rfl))))⟩
def rN:dN:=spec (fun i:Rg×bG=>[Je i.1,.str i.2]) (fun _=>[]) (fun i=>i.1.bills.length≤5000) (fun i=>.i (oG (fun b:Br=>decide (b.b.number=i.2)) i.1.bills)) fun _=>[]
theorem I2 (P:bH):bN P WL rN:=by
 intro args H K hc;obtain⟨⟨⟨carrier,L⟩,s⟩,rfl,rfl,hp,hK⟩:=hc;refine⟨cN,?_⟩;dsimp only at hp hK⊢;obtain⟨p,hpp⟩:∃p:Br→Bool,p=fun b=>decide (b.b.number=s):=⟨_,rfl⟩
 rw[←hpp]at hK;have hpx:∀x,p x=decide (x.b.number=s):=fun x=>by rw[hpp]
 clear hpp;cbv;refine bV [] (fun q:{ k:Nat // k≤L.length∧jO p L k }=>[(5,.i (nI q.1))]) (fun _=>[.blk 38 [.str carrier,.sl 11 (bI iD L)]]) (fun q=>fK 5001 q.1) ⟨0,aI _,.zero⟩ ?_;rintro ⟨k,hk,hn⟩;dsimp only at hk hn⊢;cbv;repeat'((first|refine .mk (fun h=>?_) fun h=>?_|refine .k fun z hz=>?_|fail)<;>cbv)
 ·refine cP bS bS fun i x hi hx=>?_
  obtain rfl:k=i:=bS;have hx2:=hpx x;obtain⟨⟨nq1,cq1,sq1,frm1,to1,bq1,pq1,iq1,lq1⟩,st1,⟨sa1,ha1,ca1⟩,⟨sb1,hb1,cb1⟩,⟨sc1,hc1,cc1⟩⟩:=x;dsimp only at hx2;cbv;repeat'((first|refine .mk (fun h=>?_) fun h=>?_|refine .k fun z hz=>?_|fail)<;>cbv)
  ·rw[aH h]at hx2;exact XJ.mk ⟨_,Gh.refl _,.inl (.v9 (fS hK (by(rw[HN hn hx hx2]))))⟩
  ·rw[aG h]at hx2;obtain rfl:z=nI (k+1):=bS;exact bL ⟨k+1,by exact bS,hn.succ hx hx2⟩ (bM bS)
 ·obtain rfl:k=L.length:=bS;exact XJ.mk ⟨_,Gh.refl _,.inl (.v9 (fS hK (by(rw[BN hn]))))⟩
def Lm:dN:=spec (fun i:Rg×bG=>[Je i.1,.str i.2]) (fun _=>[]) (fun i=>i.1.bills.length≤5000∧∀b∈i.1.bills,tY b.b) (fun i=>.i (oG (kV i.2) i.1.bills)) fun _=>[]
theorem J6 (P:bH) (hin:bJ P 177 TT):bN P UJ Lm:=by
 intro args H K hc;obtain⟨⟨⟨carrier,L⟩,s⟩,rfl,rfl,hp,hK⟩:=hc;refine⟨cN,?_⟩;dsimp only at hp hK⊢;obtain⟨hp,hob⟩:=hp;obtain⟨p,hpp⟩:∃p:Br→Bool,p=kV s:=⟨_,rfl⟩
 rw[←hpp]at hK;have hpx:∀x,p x=(decide (x.st=0) && x.b.boxes.any fun y=>decide (s=y)):=fun x=>by rw[hpp];rfl
 clear hpp;cbv;refine bV [] (fun q:{ k:Nat // k≤L.length∧jO p L k }=>[(5,.i (nI q.1))]) (fun _=>[.blk 38 [.str carrier,.sl 11 (bI iD L)]]) (fun q=>fK 5001 q.1) ⟨0,aI _,.zero⟩ ?_;rintro ⟨k,hk,hn⟩;dsimp only at hk hn⊢;cbv;repeat'((first|refine .mk (fun h=>?_) fun h=>?_|refine .k fun z hz=>?_|fail)<;>cbv)
 ·refine cP bS bS fun i x hi hx=>?_
  obtain rfl:k=i:=bS;have hx2:=hpx x;have ho:=hob x (aC hx);obtain⟨m,hm⟩:∃m,m=x.b.boxes.any fun y=>decide (s=y):=⟨_,rfl⟩
  rw[←hm]at hx2;unfold tY at ho;obtain⟨⟨nq1,cq1,sq1,frm1,to1,bq1,pq1,iq1,lq1⟩,st1,⟨sa1,ha1,ca1⟩,⟨sb1,hb1,cb1⟩,⟨sc1,hc1,cc1⟩⟩:=x;dsimp only at hx2 ho hm;cbv;repeat'((first|refine .e ?_|refine .mk (fun h=>?_) fun h=>?_|refine .k fun z hz=>?_|fail)<;>cbv)
  ·rw[aH h]at hx2
   (refine XG hin (bq1,s) (by dsimp only;omega) ?_;try dsimp only)
   rw[←hm];cases m with
   |true=>
    cbv;exact XJ.mk ⟨_,Gh.refl _,.inl (.v9 (fS hK (by(rw[HN hn hx hx2]))))⟩
   |false=>
    cbv;repeat'((first|refine .k fun z hz=>?_|fail)<;>cbv)
    obtain rfl:z=nI (k+1):=bS;exact bL ⟨k+1,by exact bS,hn.succ hx hx2⟩ (bM bS)
  ·rw[aG h]at hx2;obtain rfl:z=nI (k+1):=bS;exact bL ⟨k+1,by exact bS,hn.succ hx hx2⟩ (bM bS)
 ·obtain rfl:k=L.length:=bS;exact XJ.mk ⟨_,Gh.refl _,.inl (.v9 (fS hK (by(rw[BN hn]))))⟩
deriving instance DecidableEq for oW
deriving instance DecidableEq for Bl
theorem C9 {α:Type}{a b:List α}{k:Nat}{x:α}(h:a.take k=b.take k) (ha:a[k]?=some x) (hb:b[k]?=some x):a.take (k+1)=b.take (k+1):=by rw[dX ha,dX hb,h]
theorem EJ {α:Type}{a b:List α}{k:Nat}(h:a.take k=b.take k) (ha:a.length≤k) (hb:b.length≤k):a=b:=by rwa [bC ha,bC hb]at h
theorem Rw {α:Type}{a b:List α}{k:Nat}{x y:α}(ha:a[k]?=some x) (hb:b[k]?=some y) (hn:¬x=y):¬a=b:=fun e=>by
 subst e;rw[ha]at hb;cases hb;exact hn rfl
def KB:dN:=spec (fun i:List bG×List bG=>[.sl 1 (bI .str i.1),.sl 1 (bI .str i.2)]) (fun _=>[]) (fun i=>i.1.length≤5000∧i.2.length≤5000) (fun i=>.bl (decide (i.1=i.2))) fun _=>[]
theorem JC (P:bH):bN P XD KB:=by
 intro args H K hc;obtain⟨⟨a,b⟩,rfl,rfl,hp,hK⟩:=hc;refine⟨cN,?_⟩;dsimp only at hp hK⊢;obtain⟨hpa,hpb⟩:=hp;obtain⟨q,hq⟩:∃q,q=decide (a=b):=⟨_,rfl⟩
 rw[←hq]at hK;cbv;repeat'((first|refine .mk (fun h=>?_) fun h=>?_|refine .k fun z hz=>?_|fail)<;>cbv)
 ·have hl:a.length=b.length:=bS;refine bV [] (fun q:{ k:Nat // k≤a.length∧a.take k=b.take k }=>[(5,.i (nI q.1))]) (fun _=>[]) (fun q=>fK 5001 q.1) ⟨0,aI _,rfl⟩ ?_;rintro ⟨k,hk,hn⟩;dsimp only at hk hn⊢;cbv;repeat'((first|refine .mk (fun h=>?_) fun h=>?_|refine .k fun z hz=>?_|fail)<;>cbv)
  ·refine cP bS bS fun i x hi hx=>?_
   obtain rfl:k=i:=bS;cbv;refine cP bS bS fun j y hj hy=>?_
   obtain rfl:k=j:=bS;cbv;repeat'((first|refine .mk (fun h=>?_) fun h=>?_|refine .k fun z hz=>?_|fail)<;>cbv)
   ·subst h;obtain rfl:z=nI (k+1):=bS;exact bL ⟨k+1,by exact bS,C9 hn hx hy⟩ (bM bS)
   ·exact XJ.mk ⟨_,Gh.refl _,.inl (.v9 (cD hK (by(rw[hq,aG (Rw hx hy h)]))))⟩
  ·exact XJ.mk ⟨_,Gh.refl _,.inl (.v9 (cD hK (by(rw[hq,aH (EJ hn bS bS)]))))⟩
 ·exact XJ.mk ⟨_,Gh.refl _,.inl (.v9 (cD hK (by(rw[hq,aG (fun e=>by subst e;((try simp only[vn]at *)<;>omega))]))))⟩
def GJ:dN:=spec (fun b:Bl=>[IA b]) (fun _=>[]) tY (fun b=>IA b) fun _=>[]
theorem GY (P:bH):bN P Vd GJ:=by
 intro args H K hc;obtain⟨b,rfl,rfl,hp,hK⟩:=hc;refine⟨cN,?_⟩;dsimp only at hp hK⊢;obtain⟨h1,h2⟩:=hp;obtain⟨nq1,cq1,sq1,frm1,to1,bq1,pq1,iq1,lq1⟩:=b;dsimp only at h1 h2;cbv;repeat'((first|refine .o ?_|fail)<;>cbv)
 refine cV (Gh.plain 2 rfl) ?_;cbv;refine cV (Gh.plain 3 rfl) ?_;cbv
 (refine .q9 ?_;cbv;exact .inl (.f9 hK))
def Mn (k:Int):Br→Og
 |⟨_,_,o0,o1,o2⟩=>if k=0 then o0 else if k=1 then o1 else o2
def Cf:dN:=spec (fun i:Br×Int=>[iD i.1,.i i.2]) (fun _=>[]) (fun i=>(i.2=0∨i.2=1∨i.2=2)∧pG i.1) (fun i=>.i (gH (Mn i.2 i.1) i.1.b.issued)) fun _=>[]
theorem Hc (P:bH):bN P Uu Cf:=by
 intro args H K hc;obtain⟨⟨y,k⟩,rfl,rfl,hp,hK⟩:=hc;refine⟨cN,?_⟩;dsimp only at hp hK⊢;obtain⟨hk,hc⟩:=hp;obtain⟨⟨nq1,cq1,sq1,frm1,to1,bq1,pq1,iq1,lq1⟩,st1,⟨sa1,ha1,ca1⟩,⟨sb1,hb1,cb1⟩,⟨sc1,hc1,cc1⟩⟩:=y;unfold pG at hc;dsimp only at hc hk;obtain⟨hl0,hl1,hl2⟩:=hc;rcases hk with rfl|rfl|rfl
 ·have hd:gH ⟨sa1,ha1,ca1⟩ iq1=match ca1.getLast? with
   |some e=>e.day
   |none=>iq1:=rfl
  obtain⟨q,hq⟩:∃q,q=gH ⟨sa1,ha1,ca1⟩ iq1:=⟨_,rfl⟩
  have hK:K (.i q) []:=by rw[hq];exact hK
  rw[←hq]at hd;cbv;repeat'((first|refine .mk (fun h=>?_) fun h=>?_|refine .k fun z hz=>?_|refine bP.i0 ?_|fail)<;>cbv)
  ·refine cP bS bS fun i l hi hl=>?_
   obtain⟨f,t,k,d⟩:=l;rw[nU bS hl]at hd;cbv;exact XJ.mk ⟨_,Gh.refl _,.inl (.v9 (fS hK (by(rw[hd]))))⟩
  ·rw[lJ bS]at hd;exact XJ.mk ⟨_,Gh.refl _,.inl (.v9 (fS hK (by(rw[hd]))))⟩
 ·have hd:gH ⟨sb1,hb1,cb1⟩ iq1=match cb1.getLast? with
   |some e=>e.day
   |none=>iq1:=rfl
  obtain⟨q,hq⟩:∃q,q=gH ⟨sb1,hb1,cb1⟩ iq1:=⟨_,rfl⟩
  have hK:K (.i q) []:=by rw[hq];exact hK
  rw[←hq]at hd;cbv;repeat'((first|refine .mk (fun h=>?_) fun h=>?_|refine .k fun z hz=>?_|refine bP.i1 ?_|fail)<;>cbv)
  ·refine cP bS bS fun i l hi hl=>?_
   obtain⟨f,t,k,d⟩:=l;rw[nU bS hl]at hd;cbv;exact XJ.mk ⟨_,Gh.refl _,.inl (.v9 (fS hK (by(rw[hd]))))⟩
  ·rw[lJ bS]at hd;exact XJ.mk ⟨_,Gh.refl _,.inl (.v9 (fS hK (by(rw[hd]))))⟩
 ·have hd:gH ⟨sc1,hc1,cc1⟩ iq1=match cc1.getLast? with
   |some e=>e.day
   |none=>iq1:=rfl
  obtain⟨q,hq⟩:∃q,q=gH ⟨sc1,hc1,cc1⟩ iq1:=⟨_,rfl⟩
  have hK:K (.i q) []:=by rw[hq];exact hK
  rw[←hq]at hd;cbv;repeat'((first|refine .mk (fun h=>?_) fun h=>?_|refine .k fun z hz=>?_|refine bP.i2 ?_|fail)<;>cbv)
  ·refine cP bS bS fun i l hi hl=>?_
   obtain⟨f,t,k,d⟩:=l;rw[nU bS hl]at hd;cbv;exact XJ.mk ⟨_,Gh.refl _,.inl (.v9 (fS hK (by(rw[hd]))))⟩
  ·rw[lJ bS]at hd;exact XJ.mk ⟨_,Gh.refl _,.inl (.v9 (fS hK (by(rw[hd]))))⟩
def nV:dN:=spec (fun a:At=>[Nn a]) (fun _=>[]) (fun _=>True) (fun a=>.sl 1 (if a.kind=5∨(a.kind=1∧a.index=-1) then [.i 0,.i 1,.i 2] else [.i a.index])) fun _=>[]
theorem Gt (P:bH):bN P T7 nV:=by
 intro args H K hc;obtain⟨a,rfl,rfl,hp,hK⟩:=hc;refine⟨cN,?_⟩;dsimp only at hp hK⊢;obtain⟨kind,index,day,bill,by_,to,b⟩:=a;obtain⟨nq1,cq1,sq1,frm1,to1,bq1,pq1,iq1,lq1⟩:=b;dsimp only at hK;obtain⟨l,hl⟩:∃l:List AV,l=if kind=5∨(kind=1∧index=-1) then [.i 0,.i 1,.i 2] else [.i index]:=⟨_,rfl⟩
 rw[←hl]at hK;cbv;repeat'((first|refine .mk (fun h=>?_) fun h=>?_|fail)<;>cbv)
 ·obtain rfl:l=[.i 0,.i 1,.i 2]:=by rw[hl,aF (by omega)]
  (refine .r9 (Gh.plain 1 rfl) ?_;cbv;exact .inl (.g9 hK))
 ·obtain rfl:l=[.i 0,.i 1,.i 2]:=by rw[hl,aF (by omega)]
  (refine .r9 (Gh.plain 1 rfl) ?_;cbv;exact .inl (.g9 hK))
 ·obtain rfl:l=[.i index]:=by rw[hl,aE (by omega)]
  (refine .r9 (Gh.plain 1 rfl) ?_;cbv;exact .inl (.g9 hK))
 ·obtain rfl:l=[.i index]:=by rw[hl,aE (by omega)]
  (refine .r9 (Gh.plain 1 rfl) ?_;cbv;exact .inl (.g9 hK))
set_option maxHeartbeats 4000000
def lC (a b:bG):Bool:=decide (AH a < AH b)
theorem EM (a b:bG):Op.bytesLess a.toList b.toList=lC a b:=by rw[bytesLess_eq,Lib.toList_data,Lib.toList_data];rfl
theorem kY (L:List Br) (s:bG):oG (fun b:Br=>decide (b.b.number=s)) L=match qQ L s with
 |some i=>Int.ofNat i
 |none=>-1:=rfl
structure VZ (b:Bl):Prop where
 number:b.number.size≤maxLen
 shipper:b.shipper.size≤maxLen
 frm:b.frm.size≤maxLen
 to:b.to.size≤maxLen
 parents:∀s∈b.parents,s.size≤maxLen
theorem Mk (L:List bG) (s:bG):(L.any fun x=>decide (s=x))=Dg L s:=by
 unfold Dg kK;have h:(L.findIdx? fun a=>decide (id a=s)).isSome=L.any fun a=>decide (id a=s):=by rw[List.findIdx?_isSome]
 rw[h];congr 1;funext x;exact decide_eq_decide.2 ⟨fun h=>h.symm,fun h=>h.symm⟩
def Kz:dN:=spec (fun i:bG×Bl=>[.str i.1,IA i.2]) (fun _=>[]) (fun i=>tY i.2∧VZ i.2) (fun i=>.bl (xA i.1 i.2)) fun _=>[]
theorem Ip (P:bH) (hn:bJ P 174 FY) (hd:bJ P 175 Db) (hr:bJ P 176 (iE (fun _=>True) kP)) (hin:bJ P 177 TT):bN P Vt Kz:=by
 intro args H K hc;obtain⟨⟨carrier,b⟩,rfl,rfl,hp,hK⟩:=hc;refine⟨cN,?_⟩;dsimp only at hp hK⊢;obtain⟨hp,hsz⟩:=hp;unfold tY at hp;obtain⟨hs1,hs2,hs3,hs4,hs5⟩:=hsz;obtain⟨nq1,cq1,sq1,frm1,to1,bq1,pq1,iq1,lq1⟩:=b;dsimp only at hp hs1 hs2 hs3 hs4 hs5;obtain⟨q,hq⟩:∃q,q=xA carrier ⟨nq1,cq1,sq1,frm1,to1,bq1,pq1,iq1,lq1⟩:=⟨_,rfl⟩
 rw[←hq]at hK;unfold xA at hq;dsimp only at hq;obtain⟨n1,hn1⟩:∃q,q=!([nq1,sq1,frm1,to1].any fun s=>!bR s):=⟨_,rfl⟩
 have hn1':((bR nq1 && bR sq1) && (bR frm1 && bR to1))=n1:=by
  rw[hn1];simp only[List.any_cons,List.any_nil];cases bR nq1<;>cases bR sq1<;>cases bR frm1<;>cases bR to1<;>rfl
 obtain⟨n5,hn5⟩:∃q,q=eN iq1:=⟨_,rfl⟩
 obtain⟨n6,hn6⟩:∃q,q=!(pq1.any fun s=>!bR s):=⟨_,rfl⟩
 obtain⟨n7,hn7⟩:∃q,q=nB (bq1.take 0) (bq1.drop 0):=⟨_,rfl⟩
 have hn7':nB [] bq1=n7:=hn7.symm;rw[hn1',←hn5,←hn6,hn7']at hq;clear hn7' hn1';cbv;refine fD 1 rfl ?_;cbv
 (refine mP hn [nq1,sq1,frm1,to1] ⟨Nat.le_add_left 4 4996,fun s hs=>by
   rcases List.mem_cons.1 hs with rfl|hs
   ·exact hs1
   rcases List.mem_cons.1 hs with rfl|hs
   ·exact hs2
   rcases List.mem_cons.1 hs with rfl|hs
   ·exact hs3
   rcases List.mem_cons.1 hs with rfl|hs
   ·exact hs4
   cases hs⟩ rfl rfl rfl ?_;try dsimp only)
 rw[←hn1];cases n1 with
 |false=>
  cbv;exact XJ.mk ⟨_,Gh.refl _,.inl (.v9 (cD hK (by(rw[hq];rfl))))⟩
 |true=>
 cbv;repeat'((first|refine .mk (fun h=>?_) fun h=>?_|refine .k fun z hz=>?_|fail)<;>cbv)
 rotate_right
 ·exact XJ.mk ⟨_,Gh.refl _,.inl (.v9 (cD hK (by(rw[hq,aG (by assumption:¬cq1=carrier)];rfl))))⟩
 ·rw[aH (by assumption:cq1=carrier),aG bS]at hq;exact XJ.mk ⟨_,Gh.refl _,.inl (.v9 (cD hK (by(rw[hq];cases n5<;>rfl))))⟩
 ·rw[aH (by assumption:cq1=carrier),aG bS]at hq;exact XJ.mk ⟨_,Gh.refl _,.inl (.v9 (cD hK (by(rw[hq];cases n5<;>rfl))))⟩
 ·rw[aH (by assumption:cq1=carrier),aG bS]at hq;exact XJ.mk ⟨_,Gh.refl _,.inl (.v9 (cD hK (by(rw[hq];cases n5<;>rfl))))⟩
 ·rw[aH (by assumption:cq1=carrier),aH bS]at hq
  (refine XG hn pq1 ⟨by exact bS,hs5⟩ ?_;try dsimp only)
  rw[←hn6];cases n6 with
  |false=>
   cbv;exact XJ.mk ⟨_,Gh.refl _,.inl (.v9 (cD hK (by(rw[hq];cases n5<;>cases n7<;>rfl))))⟩
  |true=>
  cbv
  (refine XG hd iq1 trivial ?_;try dsimp only)
  rw[←hn5];cases n5 with
  |false=>
   cbv;exact XJ.mk ⟨_,Gh.refl _,.inl (.v9 (cD hK (by(rw[hq];rfl))))⟩
  |true=>
  cbv;refine bV [] (fun q:{ k:Nat // k≤bq1.length∧n7=nB (bq1.take k) (bq1.drop k) }=>[(5,.i (nI q.1))]) (fun q=>[.blk 79 [.str nq1,.str cq1,.str sq1,.str frm1,.str to1,.sl 1 (bI .str bq1),.sl 1 (bI .str pq1),.i iq1,.bl lq1],.tip 9 1 [.str nq1,.str sq1,.str frm1,.str to1]]) (fun q=>fK 5001 q.1) ⟨0,aI _,hn7⟩ ?_;rintro ⟨k,hk,hb7⟩;dsimp only at hk hb7⊢;cbv;repeat'((first|refine .mk (fun h=>?_) fun h=>?_|refine .k fun z hz=>?_|fail)<;>cbv)
  ·refine cP bS bS fun i x hi hx=>?_
   obtain rfl:k=i:=bS;have hg:=EC hx;obtain⟨m,hm⟩:∃m,m=kP x:=⟨_,rfl⟩
   obtain⟨m2,hm2⟩:∃m,m=Dg (bq1.take k) x:=⟨_,rfl⟩
   rw[←hm,←hm2]at hg;cbv
   (refine XG hr x trivial ?_;try dsimp only)
   rw[←hm];cases m with
   |false=>
    rw[hb7,hg]at hq;cbv;exact XJ.mk ⟨_,Gh.refl _,.inl (.v9 (cD hK (by(rw[hq];rfl))))⟩
   |true=>
    cbv;repeat'((first|refine .e ?_|refine .l fun ys hys hyl=>?_|fail)<;>cbv)
    obtain rfl:ys=bq1.take k:=by rw[hys];simp
    (refine XG hin (bq1.take k,x) (by dsimp only;rw[aS];omega) ?_;try dsimp only)
    rw[Mk,←hm2];cases m2 with
    |true=>
     rw[hb7,hg]at hq;cbv;exact XJ.mk ⟨_,Gh.refl _,.inl (.v9 (cD hK (by(rw[hq];rfl))))⟩
    |false=>
     cbv;repeat'((first|refine .k fun z hz=>?_|fail)<;>cbv)
     obtain rfl:z=nI (k+1):=bS;exact bL ⟨k+1,by exact bS,hb7.trans hg⟩ (bM bS)
  ·obtain rfl:k=bq1.length:=bS;rw[A5 rfl]at hb7;subst hb7;exact XJ.mk ⟨_,Gh.refl _,.inl (.v9 (cD hK (by(rw[hq];rfl))))⟩
theorem Im {P:bH}{f:Nat}{keep:List Nat}{args:List AV}{st:St}{K:AV→St→Prop}(H2:List cH) (hl:jS st.H H2) (h:gG P keep f args ⟨st.T,H2⟩ K):gG P keep f args st K:=
 ⟨fun C a w r pub vals hh hv=>h.out C a w r pub vals ⟨hh.mod.le hl,hh.own,hh.fr,hh.slots,hh.defers,hh.size,hh.stab,hh.low.1,by rw[hl.len];exact hh.low.2⟩ hv⟩
theorem Cw {P:bH}{f:Nat}{keep:List Nat}{args:List AV}{st:St}{K:AV→St→Prop}(k:Nat) {t sz:Nat}{xs:List AV}(hk:st.H[k]?=some (.tip t sz xs)) (h:gG P keep f args ⟨jE k (.sl sz xs) st.T,st.H.map (cH.kill k (.sl sz xs))⟩ K):gG P keep f args st K:=by
 refine⟨fun C a w r pub vals hh hv=>h.out C a w r pub vals ?_ hv⟩;have hy:∀z,r k=some z→bU pub w r (.sl sz xs) z:=fun z hz=>by
  obtain⟨A,d,c,x,us,hr,_⟩:=hh.ent_tip hk;rw[hr]at hz;cases hz;have h1:=hh.view1 (x:=.hd k) (.hd hr rfl);simp only[St.view1,hk]at h1;exact h1
 refine⟨⟨fun j e he=>?_,fun j hj=>hh.mod.none_ j (by simpa using hj),hh.mod.disj,hh.mod.fresh,hh.mod.there,hh.mod.glob⟩,hh.own,hh.fr,hh.slots.kill (fun _ _=>rfl) hy,hh.defers,hh.size,hh.stab,by simpa using hh.low⟩;rw[aD]at he;cases hj:st.H[j]? with
 |none=>rw[hj]at he;cases he
 |some e0=>
  rw[hj]at he;cases he;exact(hh.mod.ent j e0 hj).kill (Fr.refl (fun _=>False) _ _) (fun _ _ _ _ h=>h) (fun _ _=>rfl) hy
theorem KM {α:Type}(p:α→Bool) (l:List α):decide (0≤oG p l)=l.any p:=by
 unfold oG;cases e:l.findIdx? p with
 |none=>
  rw[List.findIdx?_eq_none_iff]at e;have:l.any p=false:=by
   rw[List.any_eq_false];intro x hx;rw[e x hx];decide
  rw[this];rfl
 |some i=>
  rw[List.findIdx?_eq_some_iff_getElem]at e;obtain⟨hi,h1,_⟩:=e;have:l.any p=true:=List.any_eq_true.2 ⟨_,List.getElem_mem hi,h1⟩;rw[this];exact aH (Int.natCast_nonneg i)
theorem DH (L:List Br) (box:bG):(Gn L box).2=L.any (kV box):=by
 have hl:(rO L (kV box)).length=(L.filterMap (gN (kV box))).length:=by unfold rO;rw[uF]
 have ha:∀L:List Br,((L.filterMap (gN (kV box))).length=0)↔L.any (kV box)=false:=by
  intro L
  induction L with
  |nil=>simp
  |cons x L ih=>
   rw[List.filterMap_cons,List.any_cons];unfold gN;cases hx:kV box x with
   |true=>simp
   |false=>
    unfold gN at ih;simpa using ih
 unfold Gn;cases hn:rO L (kV box) with
 |nil=>
  rw[hn]at hl;exact((ha L).1 hl.symm).symm
 |cons n l=>
  rw[hn]at hl;cases hb:L.any (kV box) with
  |true=>rfl
  |false=>
   rw[(ha L).2 hb]at hl;cases hl
def UA:Rg×Int→AV
 |(R,e)=>.tup [Je R,.i e]
structure Li (i:nX):Prop where
 few:i.R.bills.length≤256
 all:∀b∈i.R.bills,tY b.b
 ok:tY i.b
 sz:VZ i.b
 hsz:i.holder.size≤maxLen
def sY:dN:=spec (fun i:nX=>[Je i.R,IA i.b,.str i.holder]) (fun _=>[]) Li (fun i=>UA (iY i,fW i)) fun _=>[]
theorem DN (P:bH) (hm:bJ P 132 Kz) (hn:bJ P 133 (iE (fun s=>s.size≤maxLen) bR)) (hf:bJ P 63 rN) (hb:bJ P 134 Lm) (hcp:bJ P 135 GJ):bN P Xw sY:=by
 intro args H K hc;obtain⟨i,rfl,rfl,⟨hfew,hall,hok,hsz,hhs⟩,hK⟩:=hc;dsimp only at hK;obtain⟨e,he⟩:∃e,e=fW i:=⟨_,rfl⟩
 obtain⟨R',hR'⟩:∃R',R'=iY i:=⟨_,rfl⟩
 rw[←he,←hR']at hK;unfold iY at hR';rw[←he]at hR';unfold fW i1 i2 i3 i4 CO at he;simp only[DH]at he;obtain⟨⟨carrier,L⟩,b,holder⟩:=i;dsimp only at hR' hok he hfew hall hsz hhs;obtain⟨n1,hn1⟩:∃q,q=xA carrier b:=⟨_,rfl⟩
 obtain⟨n2,hn2⟩:∃q,q=bR holder:=⟨_,rfl⟩
 obtain⟨f,hf1⟩:∃q,q=oG (fun y:Br=>decide (y.b.number=b.number)) L:=⟨_,rfl⟩
 have hf2:(qQ L b.number).isSome=decide (0≤f):=by
  rw[hf1,kY];cases qQ L b.number with
  |none=>rfl
  |some j=>exact(aH (Int.natCast_nonneg j)).symm
 rw[←hn1,←hn2,hf2]at he;obtain⟨p3,hp3⟩:∃p:bG→Bool,p=fun box=>L.any (kV box):=⟨_,rfl⟩
 rw[←hp3]at he;have hpx:∀x,p3 x=decide (0≤oG (kV x) L):=fun x=>by rw[hp3,KM]
 have hob:=hok;unfold tY at hob;obtain⟨nq1,cq1,sq1,frm1,to1,bq1,pq1,iq1,lq1⟩:=b;dsimp only at hf1 hob;refine⟨cN,?_⟩;dsimp only at hK⊢;cbv
 (refine XG hm (carrier,⟨nq1,cq1,sq1,frm1,to1,bq1,pq1,iq1,lq1⟩) ⟨hok,hsz⟩ ?_;try dsimp only)
 rw[←hn1];cases n1 with
 |false=>
  obtain rfl:e=1:=he;obtain rfl:R'=⟨carrier,L⟩:=hR';cbv
  (refine .q9 ?_;cbv;exact .inl (.f9 hK))
 |true=>
 cbv
 (refine XG hn holder hhs ?_;try dsimp only)
 rw[←hn2];cases n2 with
 |false=>
  obtain rfl:e=1:=he;obtain rfl:R'=⟨carrier,L⟩:=hR';cbv
  (refine .q9 ?_;cbv;exact .inl (.f9 hK))
 |true=>
 cbv
 (refine XG hf ((⟨carrier,L⟩:Rg),nq1) (by dsimp only;omega) ?_;try dsimp only)
 rw[←hf1];cbv;repeat'((first|refine .mk (fun h=>?_) fun h=>?_|fail)<;>cbv)
 ·rw[aH (by assumption:0≤f)]at he;obtain rfl:e=5:=he;obtain rfl:R'=⟨carrier,L⟩:=hR'
  (refine .q9 ?_;cbv;exact .inl (.f9 hK))
 ·rw[aG (by omega)]at he;refine bV [] (fun q:{ k:Nat // k≤bq1.length∧jO p3 bq1 k }=>[(8,.i (nI q.1))]) (fun q=>[.blk 38 [.str carrier,.sl 11 (bI iD L)],.blk 79 [.str nq1,.str cq1,.str sq1,.str frm1,.str to1,.sl 1 (bI .str bq1),.sl 1 (bI .str pq1),.i iq1,.bl lq1],.blk 38 [.str ⟨⟨[]⟩⟩,.v (.slice none 0 0)]]) (fun q=>fK 5001 q.1) ⟨0,aI _,.zero⟩ ?_;rintro ⟨k,hk,hno⟩;dsimp only at hk hno⊢;cbv;repeat'((first|refine .mk (fun h=>?_) fun h=>?_|refine .k fun z hz=>?_|refine .o ?_|fail)<;>cbv)
  ·refine cP bS bS fun i x hi hx=>?_
   obtain rfl:k=i:=bS;have hx2:=hpx x;obtain⟨g,hg⟩:∃g,g=oG (kV x) L:=⟨_,rfl⟩
   rw[←hg]at hx2;cbv
   (refine XG hb ((⟨carrier,L⟩:Rg),x) ⟨by dsimp only;omega,hall⟩ ?_;try dsimp only)
   rw[←hg];cbv;repeat'((first|refine .mk (fun h=>?_) fun h=>?_|refine .k fun z hz=>?_|fail)<;>cbv)
   ·rw[aH (by assumption:0≤g)]at hx2;rw[fZ hx hx2]at he;obtain rfl:e=9:=he;obtain rfl:R'=⟨carrier,L⟩:=hR'
    (refine .q9 ?_;cbv;exact .inl (.f9 hK))
   ·rw[aG (by omega)]at hx2;obtain rfl:z=nI (k+1):=bS;exact bL ⟨k+1,by exact bS,hno.succ hx hx2⟩ (bM bS)
  ·obtain rfl:k=bq1.length:=bS;rw[iL hno]at he
   ·rw[aH bS]at he;obtain rfl:e=7:=he;obtain rfl:R'=⟨carrier,L⟩:=hR'
    (refine .q9 ?_;cbv;exact .inl (.f9 hK))
  ·obtain rfl:k=bq1.length:=bS;rw[iL hno,aG bS]at he;obtain rfl:e=0:=he;refine Im [.blk 38 [.str carrier,.sl 11 (bI iD L)],.blk 79 [.str nq1,.str cq1,.str sq1,.str frm1,.str to1,.sl 1 (bI .str bq1),.sl 1 (bI .str pq1),.i iq1,.bl lq1],.blk 38 [.str ⟨⟨[]⟩⟩,.v (.slice none 0 0)],.row 107 3 [.agg [.i 0,.str holder,.sl 4 []],.agg [.i 0,.str holder,.sl 4 []],.agg [.i 0,.str holder,.sl 4 []]],.row 104 11 (bI iD L),.dead,.dead,.dead] Aw ?_;refine fD 3 rfl ?_;cbv;refine Cw 3 rfl ?_;cbv
   (refine XG hcp ⟨nq1,cq1,sq1,frm1,to1,bq1,pq1,iq1,lq1⟩ hok ?_;try dsimp only)
   cbv;repeat'((first|refine .zl fun zs hzs hzl=>?_|fail)<;>cbv)
   obtain⟨L',hL'⟩:∃L',L'=L++[(⟨⟨nq1,cq1,sq1,frm1,to1,bq1,pq1,iq1,lq1⟩,0,⟨0,holder,[]⟩,⟨0,holder,[]⟩,⟨0,holder,[]⟩⟩:Br)]:=⟨_,rfl⟩
   obtain rfl:R'=⟨carrier,L'⟩:=by rw[hR',hL'];rfl
   obtain rfl:zs=bI iD L':=by(rw[hL',cB,cE];exact hzs)
   (refine .r9 (Gh.plain 4 rfl) ?_;cbv;exact .inl (.g9 hK))
def cR (a:At):Ak:=⟨a.bill,if a.kind=5 then -1 else a.index,if a.kind=1∨a.kind=5 then -1 else 0,a.by_,if a.kind=4 then 3 else 0,if a.kind=3 then 0 else a.day,!decide (a.kind=3),decide (a.kind=1) && hU a.by_ a.to⟩
def iT (a:At):List Int:=if a.kind=5∨(a.kind=1∧a.index=-1) then [0,1,2] else [a.index]
theorem Hl (a:At):k1 (cR a)=decide (¬a.kind=5∧(a.index < 0∨2 < a.index)∧¬(a.kind=1∧a.index=-1)):=by
 obtain⟨kind,index,day,bill,by_,to,b⟩:=a;unfold k1 cR;dsimp only;rw[←Bool.decide_or];refine decide_eq_decide.2 ?_;by_cases h5:kind=5
 ·rw[aF h5,aF (.inr h5)];omega
 ·rw[aE h5];by_cases h1:kind=1
  ·rw[aF (.inl h1)];omega
  ·rw[aE (by omega)];omega
theorem Px (a:At):k2 (cR a)=((!decide (a.kind=3) && !eN a.day) || (decide (a.kind=1) && hU a.by_ a.to)):=by
 obtain⟨kind,index,day,bill,by_,to,b⟩:=a;unfold k2 cR;dsimp only;by_cases h3:kind=3
 ·rw[aF h3,aH h3];cases (decide (kind=1) && hU by_ to)<;>rfl
 ·rw[aE h3,aG h3];cases (decide (kind=1) && hU by_ to)<;>cases eN day<;>rfl
theorem EH {a:At}(h:k1 (cR a)=false):∀k∈iT a,k=0∨k=1∨k=2:=by
 rw[Hl]at h;have h:=of_decide_eq_false h;unfold iT;intro k hk
 split at hk
 ·simpa using hk
 ·obtain rfl:=List.mem_singleton.1 hk;omega
theorem pR {a:At}(h:k1 (cR a)=false) (b:Br) (p:Og→Bool):jK (cR a).index b p=(iT a).any fun k=>p (Mn k b):=by
 rw[Hl]at h;have h:=of_decide_eq_false h;obtain⟨kind,index,day,bill,by_,to,bb⟩:=a;obtain⟨_,_,o0,o1,o2⟩:=b;unfold iT cR jK Mn;dsimp only at h⊢;by_cases h5:kind=5∨(kind=1∧index=-1)
 ·rw[aF h5];have hi:(if kind=5 then (-1:Int) else index)=-1:=by
   split
   ·rfl
   ·omega
  rw[hi];have hh:∀k,eY (-1) k=true:=fun k=>lW (.inl rfl)
  rw[hh,hh,hh];show _=(p o0 || (p o1 || (p o2 || false)))
  cases p o0<;>cases p o1<;>cases p o2<;>rfl
 ·rw[aE h5,aE (by omega)];have hi:index=0∨index=1∨index=2:=by omega
  rcases hi with rfl|rfl|rfl
  ·show _=(p o0 || false)
   cases p o0<;>rfl
  ·show _=(p o1 || false)
   cases p o1<;>rfl
  ·show _=(p o2 || false)
   cases p o2<;>rfl
theorem Lg {α:Type}(c:Bool) (p:α→Bool):∀{l:List α},l≠[]→(c || l.any p)=l.any fun k=>c || p k
 |[],h=>absurd rfl h
 |x :: l,_=>by
  cases c with
  |true=>rw[List.any_cons];rfl
  |false=>rfl
theorem I1 {α:Type}(c:Bool) (p:α→Bool) (l:List α):(c && l.any p)=l.any fun k=>c && p k:=by
 cases c with
 |true=>rfl
 |false=>
  have:(l.any fun k=>false && p k)=false:=by rw[List.any_eq_false];intro x _;simp
  rw[this];rfl
theorem KR (a:At):iT a≠[]:=by unfold iT;split<;>exact List.cons_ne_nil _ _
def Sj (x:Br) (sv:Int) (k:Int):Bool:=!decide (x.st=0) || !decide ((Mn k x).state=sv)
def Ss (x:Br) (by_:bG) (k:Int):Bool:=!decide ((Mn k x).holder=by_)
def R6 (x:Br) (kind day:Int) (k:Int):Bool:=!decide (kind=3) && decide (day < gH (Mn k x) x.b.issued)
theorem ER {a:At}(h:k1 (cR a)=false) (x:Br):k3 x (cR a)=(iT a).any (Sj x (if a.kind=4 then 3 else 0)):=by
 unfold k3;rw[pR h,Lg _ _ (KR a)];rfl
theorem DI {a:At}(h:k1 (cR a)=false) (x:Br):k4 x (cR a)=(iT a).any (Ss x a.by_):=by
 unfold k4;rw[pR h];rfl
theorem E3 {a:At}(h:k1 (cR a)=false) (x:Br):k5 x (cR a)=(iT a).any (R6 x a.kind a.day):=by
 unfold k5;rw[pR h,I1];congr 1;funext k;unfold R6 zY cR;dsimp only;by_cases h3:a.kind=3
 ·rw[aH h3];rfl
 ·rw[aE h3]
def iA:Int→AV:=fun k=>.int .i64 k
def mF (κ:Int):dN:=spec (fun i:Rg×At=>[Je i.1,Nn i.2]) (fun _=>[]) (fun i=>i.2.kind=κ∧i.1.bills.length≤256∧(∀b∈i.1.bills,pG b)∧i.2.to.size≤maxLen) (fun i=>.i (eE i.1.bills (cR i.2))) fun _=>[]
def mK:dN:=spec (fun i:Rg×At=>[Je i.1,Nn i.2]) (fun _=>[]) (fun i=>(1≤i.2.kind∧i.2.kind≤5)∧i.1.bills.length≤256∧(∀b∈i.1.bills,pG b)∧i.2.to.size≤maxLen) (fun i=>.i (eE i.1.bills (cR i.2))) fun _=>[]
theorem R5 {P:bH}{f:Nat}(h1:bJ P f (mF 1)) (h2:bJ P f (mF 2)) (h3:bJ P f (mF 3)) (h4:bJ P f (mF 4)) (h5:bJ P f (mF 5)):bJ P f mK:=by
 intro args H K hc;obtain⟨i,rfl,rfl,⟨hk,hp⟩,hK⟩:=hc;have h:i.2.kind=1∨i.2.kind=2∨i.2.kind=3∨i.2.kind=4∨i.2.kind=5:=by omega
 rcases h with h|h|h|h|h
 ·exact h1 _ _ K ⟨i,rfl,rfl,⟨h,hp⟩,hK⟩
 ·exact h2 _ _ K ⟨i,rfl,rfl,⟨h,hp⟩,hK⟩
 ·exact h3 _ _ K ⟨i,rfl,rfl,⟨h,hp⟩,hK⟩
 ·exact h4 _ _ K ⟨i,rfl,rfl,⟨h,hp⟩,hK⟩
 ·exact h5 _ _ K ⟨i,rfl,rfl,⟨h,hp⟩,hK⟩
open Classical in
open Classical in
open Classical in
def DX (f t:bG) (d:Int):Og→Og
 |⟨s,_,c⟩=>⟨s,t,c++[⟨f,t,0,d⟩]⟩
def jH (a:At):Br→Br:=fun b=>
 if a.kind=1 then sO a.index (DX a.by_ a.to a.day) b
 else if a.kind=2 then sO a.index (Aa 1) (AK 1 b)
 else if a.kind=3 then sO a.index (Aa 3) b
 else if a.kind=4 then sO a.index (Aa 0) b
 else AK 4 b
def oZ (R:Rg) (a:At):nX:=⟨R,a.b,a.to⟩
def iN (R:Rg) (a:At):Rg×Int:=
 if a.kind=0 then (iY (oZ R a),fW (oZ R a)) else (⟨R.carrier,fY R.bills (cR a) (jH a)⟩,eE R.bills (cR a))
structure Jh (i:Rg×At):Prop where
 kind:0≤i.2.kind∧i.2.kind≤5
 few:i.1.bills.length≤256
 all:∀b∈i.1.bills,pG b∧tY b.b
 ok:tY i.2.b
 sz:VZ i.2.b
 tsz:i.2.to.size≤maxLen
def pE (κ:Int):dN:=spec (fun i:Rg×At=>[Je i.1,Nn i.2]) (fun _=>[]) (fun i=>i.2.kind=κ∧Jh i) (fun i=>UA (iN i.1 i.2)) fun _=>[]
theorem IG (P:bH) (hi:bJ P 96 sY):bN P IW (pE 0):=by
 intro args H K hc;obtain⟨⟨⟨carrier,L⟩,a⟩,rfl,rfl,hp,hK⟩:=hc;refine⟨cN,?_⟩;dsimp only at hp hK⊢;obtain⟨hkind,_,hfew,hall,hok,hsz,hts⟩:=hp;have hp2:Li (oZ ⟨carrier,L⟩ a):=⟨hfew,fun b hb=>(hall b hb).2,hok,hsz,hts⟩
 have hd:iN ⟨carrier,L⟩ a=(iY (oZ ⟨carrier,L⟩ a),fW (oZ ⟨carrier,L⟩ a)):=by unfold iN;rw[aF hkind]
 rw[hd]at hK;clear hd;obtain⟨kind,index,day,bill,by_,to,b⟩:=a;obtain rfl:kind=0:=hkind;obtain⟨⟨c2,L2⟩,hR⟩:∃R,R=iY (oZ ⟨carrier,L⟩ ⟨0,index,day,bill,by_,to,b⟩):=⟨_,rfl⟩
 obtain⟨e,he⟩:∃e,e=fW (oZ ⟨carrier,L⟩ ⟨0,index,day,bill,by_,to,b⟩):=⟨_,rfl⟩
 rw[←hR,←he]at hK;unfold oZ at hR he hp2;dsimp only at hR he hp2;obtain⟨nq1,cq1,sq1,frm1,to1,bq1,pq1,iq1,lq1⟩:=b;cbv;repeat'((first|refine .y fun h=>?_|fail)<;>cbv)
 (refine XG hi (⟨⟨carrier,L⟩,⟨nq1,cq1,sq1,frm1,to1,bq1,pq1,iq1,lq1⟩,to⟩:nX) hp2 ?_;try dsimp only)
 rw[←hR,←he];cbv
 (refine .q9 ?_;cbv;exact .inl (.f9 hK))
set_option maxHeartbeats 1000000
def lT (L:List Br) (s:bG):Option Br:=L.find? fun b=>decide (b.b.number=s)
theorem Ry (L:List Br) (s:bG):lT L s=(qQ L s).bind fun i=>L[i]?:=by
 unfold lT qQ kK;exact List.find?_eq_bind_findIdx?_getElem?
theorem tR (L:List Br) (s:bG):(∃i y,qQ L s=some i∧L[i]?=some y∧lT L s=some y∧y.b.number=s)∨(qQ L s=none∧lT L s=none):=by
 have h:=Ry L s;cases hb:qQ L s with
 |none=>rw[hb]at h;exact .inr ⟨rfl,h⟩
 |some i=>
  obtain⟨y,hy,hk⟩:=dY hb;rw[hb]at h;exact .inl ⟨i,y,rfl,hy,h.trans hy,hk⟩
theorem jW {L:List Br}{s:bG}{y:Br}(h:lT L s=some y):y∈L∧y.b.number=s:=⟨List.mem_of_find?_eq_some h,by unfold lT at h;have h2:=List.find?_some h;simpa using h2⟩
theorem Ko {L:List Br}(h:gS L) {x y:Br}(hx:x∈L) (hy:y∈L) (e:x.b.number=y.b.number):x=y:=by
 obtain⟨i,hi,rfl⟩:=List.mem_iff_getElem.1 hx;obtain⟨j,hj,rfl⟩:=List.mem_iff_getElem.1 hy;unfold gS at h;have:=oA (l:=L.map fun b=>b.b.number) (i:=i) (j:=j) (hi:=by rw[aJ];exact hi) (hj:=by rw[aJ];exact hj) h (by rw[List.getElem_map,List.getElem_map];exact e);subst this;rfl
theorem Hn {L:List Br}(h:gS L) {y:Br}{s:bG}(hy:y∈L) (hs:y.b.number=s):lT L s=some y:=by
 cases hl:lT L s with
 |none=>
  unfold lT at hl;rw[List.find?_eq_none]at hl;exact absurd (aH hs) (hl y hy)
 |some x=>
  obtain⟨h1,h2⟩:=jW hl;rw[Ko h h1 hy (h2.trans hs.symm)]
theorem wJ {L L':List Br}(p:L.Perm L') (h:gS L):gS L':=(p.map _).nodup_iff.1 h
theorem OD {L L':List Br}(p:L.Perm L') (h:gS L) (s:bG):lT L s=lT L' s:=by
 cases hl:lT L' s with
 |none=>
  cases hk:lT L s with
  |none=>rfl
  |some y=>
   obtain⟨h1,h2⟩:=jW hk;rw[Hn (wJ p h) (p.mem_iff.1 h1) h2]at hl;cases hl
 |some y=>
  obtain⟨h1,h2⟩:=jW hl;exact Hn h (p.mem_iff.2 h1) h2
theorem B4 (L:List Br) (a:Ak):eE L a=match lT L a.bill with
  |some b=>lP b a
  |none=>4:=by
 unfold eE;rcases tR L a.bill with ⟨i,y,h1,h2,h3,_⟩|⟨h1,h3⟩
 ·rw[h1,h3];dsimp only;rw[h2]
 ·rw[h1,h3]
theorem Ol (L:List Br) (s:bG):AO L s=match lT L s with
  |some b=>NH s b
  |none=>[]:=by
 unfold AO;rcases tR L s with ⟨i,y,h1,h2,h3,_⟩|⟨h1,h3⟩
 ·rw[h1,h3];dsimp only;rw[h2]
 ·rw[h1,h3]
theorem MA {L:List Br}(hn:gS L) (s:bG) (f:Br→Br):AR L s f=L.map fun b=>if b.b.number=s then f b else b:=by
 rcases tR L s with ⟨i,y,h1,h2,h3,h4⟩|⟨h1,h3⟩
 ·rw[gK f h1 h2];refine List.ext_getElem? fun j=>?_
  rw[List.getElem?_set,aD];have hi:=(aA.1 h2).1;by_cases hij:i=j
  ·subst hij;rw[aF rfl,aF hi,h2,Option.map_some,aF h4]
  ·rw[aE hij];cases hj:L[j]? with
   |none=>rfl
   |some z=>
    rw[Option.map_some];have:¬z.b.number=s:=fun e=>by
     obtain⟨hj1,rfl⟩:=aA.1 hj;obtain⟨hi1,rfl⟩:=aA.1 h2;unfold gS at hn;exact hij (oA (l:=L.map fun b=>b.b.number) (i:=i) (j:=j) (hi:=by rw[aJ];exact hi1) (hj:=by rw[aJ];exact hj1) hn (by rw[List.getElem_map,List.getElem_map];exact h4.trans e.symm))
    rw[aE this]
 ·unfold AR;rw[h1];have hne:=LR h1;symm;have:(L.map fun b=>if b.b.number=s then f b else b)=L.map id:=List.map_congr_left fun b hb=>by rw[aE (hne b hb)];rfl
  dsimp only;rw[this,List.map_id]
structure yJ (n:Nat) (o:Og):Prop where
 name:bR o.holder=true
 len:o.chain.length≤n
 kinds:∀e∈o.chain,e.kind=0
def Bc (s:Int):Prop:=s=0∨s=3
def TL (st a b c:Int):Prop:=(st=0∧Bc a∧Bc b∧Bc c)∨(st=1∧((a=1∧b=2∧c=2)∨(a=2∧b=1∧c=2)∨(a=2∧b=2∧c=1)))∨(st=4∧a=2∧b=2∧c=2)
structure XR (n:Nat) (c:bG) (b:Br):Prop where
 may:xA c b.b=true
 ok:tY b.b
 h0:yJ n b.o0
 h1:yJ n b.o1
 h2:yJ n b.o2
 st:TL b.st b.o0.state b.o1.state b.o2.state
structure zD (n:Nat) (R:Rg):Prop where
 nd:gS R.bills
 few:R.bills.length≤256
 all:∀b∈R.bills,XR n R.carrier b
 dis:∀b1∈R.bills,∀b2∈R.bills,b1.st=0→b2.st=0→∀x∈b1.b.boxes,x∈b2.b.boxes→b1.b.number=b2.b.number
theorem yJ.mono {n m:Nat}{o:Og}(h:yJ n o) (hm:n≤m):yJ m o:=⟨h.name,Nat.le_trans h.len hm,h.kinds⟩
theorem XR.mono {n m:Nat}{c:bG}{b:Br}(h:XR n c b) (hm:n≤m):XR m c b:=⟨h.may,h.ok,h.h0.mono hm,h.h1.mono hm,h.h2.mono hm,h.st⟩
theorem zD.mono {n m:Nat}{R:Rg}(h:zD n R) (hm:n≤m):zD m R:=⟨h.nd,h.few,fun b hb=>(h.all b hb).mono hm,h.dis⟩
theorem zD.inB {n:Nat}{R:Rg}(h:zD n R) (hn:n≤4500):∀b∈R.bills,inB b:=fun b hb=>by
 have:=h.all b hb;exact⟨⟨Nat.le_trans this.h0.len hn,Nat.le_trans this.h1.len hn,Nat.le_trans this.h2.len hn⟩,this.ok⟩
theorem BP (n:Nat) (c:bG):zD n ⟨c,[]⟩:=⟨.nil,by simp,fun b hb=>(by cases hb),fun b hb=>(by cases hb)⟩
structure Un (b:Br) (a:Ak):Prop where
 ix:a.least≤a.index∧a.index < 3
 right:a.wrong=false
 day:a.dated=true→eN a.day=true
 live:b.st=0
 s3:jK a.index b (mT a)=false
 h3:jK a.index b (iM a)=false
 d3:a.dated=true→jK a.index b (zY b a)=false
theorem HR {b:Br}{a:Ak}(h:lP b a=0):Un b a:=by
 have hx:=mB h;unfold lP at h
 split at h
 ·exact absurd h (by decide)
 split at h
 ·exact absurd h (by decide)
 rename_i h2
 split at h
 ·exact absurd h (by decide)
 rename_i h3
 split at h
 ·exact absurd h (by decide)
 rename_i h4
 split at h
 ·exact absurd h (by decide)
 rename_i h5;unfold k2 at h2;unfold k3 at h3;unfold k4 at h4;unfold k5 at h5;simp only[Bool.or_eq_true,not_or,Bool.not_eq_true,aO,Bool.not_eq_true',decide_eq_false_iff_not,Decidable.not_not,not_and,Bool.not_eq_false]at h2 h3 h4 h5;exact⟨hx,h2.1,fun h=>by simpa using h2.2 h,by simpa using h3.1,h3.2,h4,fun h=>by simpa using h5 h⟩
theorem Kh {idx:Int}{b:Br}{p:Og→Bool}(h:jK idx b p=false):(eY idx 0=true→p b.o0=false)∧(eY idx 1=true→p b.o1=false)∧(eY idx 2=true→p b.o2=false):=by
 unfold jK at h;cases h0:eY idx 0<;>cases h1:eY idx 1<;>cases h2:eY idx 2<;>simp[h0,h1,h2]at h⊢<;>simp[h]
theorem sU (idx:Int) (f:Og→Og) (b:Br):(sO idx f b).b=b.b∧(sO idx f b).st=b.st:=by obtain⟨_,_,_,_,_⟩:=b;exact⟨rfl,rfl⟩
theorem zL (s:Int) (b:Br):(AK s b).b=b.b∧(AK s b).st=s:=by obtain⟨_,_,_,_,_⟩:=b;exact⟨rfl,rfl⟩
theorem uX (a:At) (b:Br):(jH a b).b=b.b:=by
 unfold jH
 split
 ·exact(sU _ _ _).1
 split
 ·rw[(sU _ _ _).1,(zL _ _).1]
 split
 ·exact(sU _ _ _).1
 split
 ·exact(sU _ _ _).1
 ·exact(zL _ _).1
theorem Ju (a:At) (b:Br) (h:(jH a b).st=0):b.st=0:=by
 unfold jH at h
 split at h
 ·rwa [(sU _ _ _).2]at h
 split at h
 ·rw[(sU _ _ _).2,(zL _ _).2]at h;cases h
 split at h
 ·rwa [(sU _ _ _).2]at h
 split at h
 ·rwa [(sU _ _ _).2]at h
 ·rw[(zL _ _).2]at h;cases h
theorem gO {n:Nat}{s:Int}{o:Og}(h:yJ n o):yJ (n+1) (Aa s o):=by
 obtain⟨a,b,c⟩:=o;exact⟨h.name,Nat.le_succ_of_le h.len,h.kinds⟩
theorem Cb {n:Nat}{f t:bG}{d:Int}{o:Og}(h:yJ n o) (ht:bR t=true):yJ (n+1) (DX f t d o):=by
 obtain⟨a,b,c⟩:=o;refine⟨ht,?_,fun e he=>?_⟩
 ·show (c++[_]).length≤n+1;have h1:c.length≤n:=h.len;rw[aM,List.length_singleton];omega
 ·rcases List.mem_append.1 he with h1|h1
  ·exact h.kinds e h1
  ·obtain rfl:=List.mem_singleton.1 h1;rfl
theorem A8 {f t:bG}(h:hU f t=false):bR t=true∧¬t=f:=by
 unfold hU at h;simp only[Bool.or_eq_false_iff,Bool.not_eq_false',decide_eq_false_iff_not]at h;exact h
theorem NO {n:Nat}{c:bG}{b:Br}{a:At}(h:XR n c b) (hk:1≤a.kind∧a.kind≤5) (he:lP b (cR a)=0):XR (n+1) c (jH a b):=by
 have hd:=HR he;obtain⟨kind,index,day,bill,by_,to,bb⟩:=a;obtain⟨b,st,⟨s0,y0,c0⟩,⟨s1,y1,c1⟩,⟨s2,y2,c2⟩⟩:=b;obtain⟨hmay,hok,h0,h1,h2,hst⟩:=h;obtain⟨hix,hright,hday,hlive,hs3,hh3,hd3⟩:=hd;unfold cR at *;dsimp only at *;subst hlive;have hst:Bc s0∧Bc s1∧Bc s2:=by
  rcases hst with ⟨_,h⟩|⟨h,_⟩|⟨h,_⟩
  ·exact h
  ·exact absurd h (by decide)
  ·exact absurd h (by decide)
 obtain⟨t0,t1,t2⟩:=hst;have g0:=h0.mono (Nat.le_succ n);have g1:=h1.mono (Nat.le_succ n);have g2:=h2.mono (Nat.le_succ n);have hk5:kind=1∨kind=2∨kind=3∨kind=4∨kind=5:=by omega
 rcases hk5 with rfl|rfl|rfl|rfl|rfl
 ·have hw:hU by_ to=false:=hright;have hto:=(A8 hw).1;show XR (n+1) c (sO index (DX by_ to day) ⟨b,0,⟨s0,y0,c0⟩,⟨s1,y1,c1⟩,⟨s2,y2,c2⟩⟩);unfold sO;dsimp only;cases eY index 0<;>cases eY index 1<;>cases eY index 2<;>exact⟨hmay,hok,by first|exact g0|exact Cb h0 hto,by first|exact g1|exact Cb h1 hto,by first|exact g2|exact Cb h2 hto,.inl ⟨rfl,t0,t1,t2⟩⟩
 ·have hix:(0:Int)≤index∧index < 3:=hix;show XR (n+1) c (sO index (Aa 1) (AK 1 ⟨b,0,⟨s0,y0,c0⟩,⟨s1,y1,c1⟩,⟨s2,y2,c2⟩⟩));have hi3:index=0∨index=1∨index=2:=by omega
  rcases hi3 with rfl|rfl|rfl
  ·exact⟨hmay,hok,gO (s:=1) h0,gO (s:=2) h1,gO (s:=2) h2,.inr (.inl ⟨rfl,.inl ⟨rfl,rfl,rfl⟩⟩)⟩
  ·exact⟨hmay,hok,gO (s:=2) h0,gO (s:=1) h1,gO (s:=2) h2,.inr (.inl ⟨rfl,.inr (.inl ⟨rfl,rfl,rfl⟩)⟩)⟩
  ·exact⟨hmay,hok,gO (s:=2) h0,gO (s:=2) h1,gO (s:=1) h2,.inr (.inl ⟨rfl,.inr (.inr ⟨rfl,rfl,rfl⟩)⟩)⟩
 ·show XR (n+1) c (sO index (Aa 3) ⟨b,0,⟨s0,y0,c0⟩,⟨s1,y1,c1⟩,⟨s2,y2,c2⟩⟩);unfold sO;dsimp only;cases eY index 0<;>cases eY index 1<;>cases eY index 2<;>exact⟨hmay,hok,by first|exact g0|exact gO (s:=3) h0,by first|exact g1|exact gO (s:=3) h1,by first|exact g2|exact gO (s:=3) h2,.inl ⟨rfl,by first|exact t0|exact .inr rfl,by first|exact t1|exact .inr rfl,by first|exact t2|exact .inr rfl⟩⟩
 ·show XR (n+1) c (sO index (Aa 0) ⟨b,0,⟨s0,y0,c0⟩,⟨s1,y1,c1⟩,⟨s2,y2,c2⟩⟩);unfold sO;dsimp only;cases eY index 0<;>cases eY index 1<;>cases eY index 2<;>exact⟨hmay,hok,by first|exact g0|exact gO (s:=0) h0,by first|exact g1|exact gO (s:=0) h1,by first|exact g2|exact gO (s:=0) h2,.inl ⟨rfl,by first|exact t0|exact .inl rfl,by first|exact t1|exact .inl rfl,by first|exact t2|exact .inl rfl⟩⟩
 ·exact⟨hmay,hok,gO (s:=2) h0,gO (s:=2) h1,gO (s:=2) h2,.inr (.inr ⟨rfl,rfl,rfl,rfl⟩)⟩
theorem Lq {L:List Br}(hn:gS L) {a:Ak}(h:eE L a=0) {b:Br}(hb:b∈L) (hs:b.b.number=a.bill):lP b a=0:=by
 rw[B4,Hn hn hb hs]at h;exact h
theorem qA {L:List Br}(hn:gS L) (a:Ak) (f:Br→Br) (h:eE L a=0):fY L a f=L.map fun b=>if b.b.number=a.bill then f b else b:=by
 unfold fY;rw[aF h,MA hn]
theorem yI {L:List Br}(a:Ak) (f:Br→Br) (h:¬eE L a=0):fY L a f=L:=by unfold fY;rw[aE h]
theorem Ot {n:Nat}{R:Rg}(h:zD n R) {a:At}(hk:1≤a.kind∧a.kind≤5):zD (n+1) ⟨R.carrier,fY R.bills (cR a) (jH a)⟩:=by
 by_cases h0:eE R.bills (cR a)=0
 ·rw[qA h.nd _ _ h0];have hnum:∀b:Br,(if b.b.number=(cR a).bill then jH a b else b).b=b.b:=fun b=>by
   split
   ·exact uX a b
   ·rfl
  have hlive:∀b:Br,(if b.b.number=(cR a).bill then jH a b else b).st=0→b.st=0:=fun b=>by
   split
   ·exact Ju a b
   ·exact id
  refine⟨?_,by rw[aJ];exact h.few,fun b hb=>?_,fun b1 h1 b2 h2 l1 l2 x hx1 hx2=>?_⟩
  ·unfold gS;rw[List.map_map];have e:((fun b:Br=>b.b.number) ∘ fun b=>if b.b.number=(cR a).bill then jH a b else b)=fun b=>b.b.number:=by funext b;show (ite _ _ _:Br).b.number=_;rw[hnum]
   rw[e];exact h.nd
  ·obtain⟨y,hy,rfl⟩:=aX.1 hb
   split
   ·rename_i hs;exact NO (h.all y hy) hk (Lq h.nd h0 hy hs)
   ·exact(h.all y hy).mono (Nat.le_succ n)
  ·obtain⟨y1,hy1,rfl⟩:=aX.1 h1;obtain⟨y2,hy2,rfl⟩:=aX.1 h2;rw[hnum]at hx1 hx2⊢;rw[hnum];exact h.dis y1 hy1 y2 hy2 (hlive y1 l1) (hlive y2 l2) x hx1 hx2
 ·rw[yI _ _ h0];exact(h.mono (Nat.le_succ n))
theorem PC (i:nX):i2 i=(lT i.R.bills i.b.number).isSome:=by
 unfold i2;rcases tR i.R.bills i.b.number with ⟨k,y,h1,h2,h3,_⟩|⟨h1,h3⟩
 ·rw[h1,h3];rfl
 ·rw[h1,h3];rfl
theorem Lz (i:nX):i3 i=i.b.boxes.any fun x=>i.R.bills.any (kV x):=by
 unfold i3;congr 1;funext x;exact DH _ _
theorem Bi {i:nX}(h:fW i=0):i1 i=false∧i2 i=false∧i3 i=false∧i4 i=false:=by
 unfold fW at h
 split at h
 ·exact absurd h (by decide)
 rename_i h1
 split at h
 ·exact absurd h (by decide)
 rename_i h2
 split at h
 ·exact absurd h (by decide)
 rename_i h3
 split at h
 ·exact absurd h (by decide)
 rename_i h4;simp only[Bool.not_eq_true]at h1 h2 h3 h4;exact⟨h1,h2,h3,h4⟩
theorem zM {i:nX}(h:fW i=0):iY i=⟨i.R.carrier,i.R.bills++[DF i.b i.holder]⟩:=by unfold iY;rw[aF h]
theorem N1 {i:nX}(h:¬fW i=0):iY i=i.R:=by unfold iY;rw[aE h]
theorem La (x:bG) (b:Br):kV x b=true↔b.st=0∧x∈b.b.boxes:=by
 unfold kV;simp only[aO,decide_eq_true_eq,List.any_eq_true];constructor
 ·rintro ⟨h1,y,hy,rfl⟩;exact⟨h1,hy⟩
 ·rintro ⟨h1,h2⟩;exact⟨h1,x,h2,rfl⟩
theorem yH {n:Nat}{i:nX}(h:zD n i.R) (hok:tY i.b):zD n (iY i):=by
 by_cases h0:fW i=0
 ·obtain⟨e1,e2,e3,e4⟩:=Bi h0;rw[zM h0];unfold i1 at e1;simp only[Bool.or_eq_false_iff,Bool.not_eq_false']at e1;rw[PC]at e2;have e2:lT i.R.bills i.b.number=none:=by simpa using e2
  rw[Lz]at e3;unfold i4 at e4;have e4:=of_decide_eq_false e4;have hbox:∀x∈i.b.boxes,∀b∈i.R.bills,b.st=0→¬x∈b.b.boxes:=fun x hx b hb hl hin=>by
   have h1:=List.any_eq_false.1 e3 x hx;exact h1 (List.any_eq_true.2 ⟨b,hb,(La x b).2 ⟨hl,hin⟩⟩)
  have og:yJ n ⟨0,i.holder,[]⟩:=⟨e1.2,aI _,fun e he=>(by cases he)⟩
  refine⟨?_,?_,fun b hb=>?_,fun b1 h1 b2 h2 l1 l2 x hx1 hx2=>?_⟩
  ·unfold gS;rw[List.map_append,List.nodup_append];refine⟨h.nd,List.nodup_cons.2 ⟨by simp,.nil⟩,fun s hs t ht e=>?_⟩;obtain rfl:=List.mem_singleton.1 ht;obtain⟨b,hb,hbs⟩:=aX.1 hs;have:=Hn h.nd hb (hbs.trans e);exact absurd (e2.symm.trans this) (by simp)
  ·show (i.R.bills++[_]).length≤256;rw[aM,List.length_singleton];omega
  ·rcases List.mem_append.1 hb with h1|h1
   ·exact h.all b h1
   ·obtain rfl:=List.mem_singleton.1 h1;exact⟨e1.1,hok,og,og,og,.inl ⟨rfl,.inl rfl,.inl rfl,.inl rfl⟩⟩
  ·rcases List.mem_append.1 h1 with g1|g1<;>rcases List.mem_append.1 h2 with g2|g2
   ·exact h.dis b1 g1 b2 g2 l1 l2 x hx1 hx2
   ·obtain rfl:=List.mem_singleton.1 g2;exact absurd hx1 (hbox x hx2 b1 g1 l1)
   ·obtain rfl:=List.mem_singleton.1 g1;exact absurd hx2 (hbox x hx1 b2 g2 l2)
   ·rw[List.mem_singleton.1 g1,List.mem_singleton.1 g2]
 ·rw[N1 h0];exact h
theorem HK {R:Rg}{a:At}(h:a.kind=0):iN R a=(iY (oZ R a),fW (oZ R a)):=by unfold iN;rw[aF h]
theorem oH {R:Rg}{a:At}(h:¬a.kind=0):iN R a=(⟨R.carrier,fY R.bills (cR a) (jH a)⟩,eE R.bills (cR a)):=by unfold iN;rw[aE h]
theorem GT {n:Nat}{R:Rg}(h:zD n R) {a:At}(hk:0≤a.kind∧a.kind≤5) (hok:tY a.b):zD (n+1) (iN R a).1:=by
 by_cases h0:a.kind=0
 ·rw[HK h0];exact(yH (i:=oZ R a) h hok).mono (Nat.le_succ n)
 ·rw[oH h0];exact Ot h (by omega)
def QG (a:At):Br→Br:=if a.kind=1 then sO a.index (sM a.by_ a.to a.day) else jH a
def wK (R:Rg) (a:At):Rg:=if a.kind=0 then iY (oZ R a) else ⟨R.carrier,fY R.bills (cR a) (QG a)⟩
theorem Jw {f t:bG}{d:Int}(hf:bR f=true) (ht:bR t=true) (hn:¬t=f) (hd:eN d=true):(lI f [⟨f,t,0,d⟩]).1=t:=by
 have hm:wN ⟨f,t,0,d⟩=true:=by
  unfold eN at hd;unfold wN;dsimp only;rw[hf,hd,ht,aG hn];rfl
 have hw:lQ f [] ⟨f,t,0,d⟩=0:=by
  unfold lQ;dsimp only;rw[hm];have k2:oU [] 2=false:=rfl;have k1:Fa [] d=false:=rfl;rw[k2,k1];simp
 unfold lI;rw[hf,aE (by decide),hZ,aF hw,hZ]
theorem Nw {h f t:bG}{d:Int}{s:Int}{c:List oW}(he:h=f) (hf:bR h=true) (ht:bR t=true) (hn:¬t=f) (hd:eN d=true):sM f t d ⟨s,h,c⟩=DX f t d ⟨s,h,c⟩:=by
 subst he;unfold sM DX;dsimp only;rw[Jw hf ht hn hd]
theorem NZ {n:Nat}{c:bG}{b:Br}{a:At}(h:XR n c b) (he:lP b (cR a)=0):QG a b=jH a b:=by
 unfold QG
 split
 ·rename_i hk;have hd:=HR he;obtain⟨kind,index,day,bill,by_,to,bb⟩:=a;obtain⟨b,st,⟨s0,y0,c0⟩,⟨s1,y1,c1⟩,⟨s2,y2,c2⟩⟩:=b;obtain⟨hmay,hok,h0,h1,h2,hst⟩:=h;obtain⟨hix,hright,hday,hlive,hs3,hh3,hd3⟩:=hd;obtain rfl:kind=1:=hk;have hw:hU by_ to=false:=hright;obtain⟨w1,w2⟩:=A8 hw;have hdy:eN day=true:=hday rfl;obtain⟨q0,q1,q2⟩:=Kh hh3;have hpick:∀(q:Bool) (s:Int) (y:bG) (c:List oW),(q=true→iM (cR ⟨1,index,day,bill,by_,to,bb⟩) ⟨s,y,c⟩=false)→bR y=true→(bif q then sM by_ to day ⟨s,y,c⟩ else ⟨s,y,c⟩)=(bif q then DX by_ to day ⟨s,y,c⟩ else ⟨s,y,c⟩):=fun q s y c hq hy=>by
   cases q with
   |false=>rfl
   |true=>
    have h1:=hq rfl;unfold iM at h1;simp only[Bool.not_eq_false',decide_eq_true_eq]at h1;exact Nw h1 hy w1 w2 hdy
  show sO index (sM by_ to day) ⟨b,st,⟨s0,y0,c0⟩,⟨s1,y1,c1⟩,⟨s2,y2,c2⟩⟩=sO index (DX by_ to day) ⟨b,st,⟨s0,y0,c0⟩,⟨s1,y1,c1⟩,⟨s2,y2,c2⟩⟩;have e0:=hpick (eY index 0) s0 y0 c0 q0 h0.name;have e1:=hpick (eY index 1) s1 y1 c1 q1 h1.name;have e2:=hpick (eY index 2) s2 y2 c2 q2 h2.name;unfold sO;dsimp only;rw[e0,e1,e2]
 ·rfl
theorem Qo {n:Nat}{R:Rg}(h:zD n R) (a:At):wK R a=(iN R a).1:=by
 unfold wK
 split
 ·rename_i hk;rw[HK hk]
 ·rename_i hk;rw[oH hk];by_cases h0:eE R.bills (cR a)=0
  ·rw[qA h.nd _ _ h0,qA h.nd _ _ h0];congr 1;refine List.map_congr_left fun b hb=>?_
   split
   ·rename_i hs;exact NZ (h.all b hb) (Lq h.nd h0 hb hs)
   ·rfl
  ·rw[yI _ _ h0,yI _ _ h0]
def Jr (a b:bG):Prop:=AH a≤AH b
theorem JD {a b c:bG}(h:Jr a b) (k:Jr b c):Jr a c:=List.le_trans h k
theorem Lu {a b:bG}(h:Jr a b) (k:Jr b a):a=b:=by
 have:=List.le_antisymm h k;rw[←mM a,←mM b,this]
theorem Jv {a b:bG}(h:lC a b=true):Jr a b:=List.le_of_lt (of_decide_eq_true h)
theorem zB {a b:bG}(h:lC a b=false):Jr b a:=List.not_lt.1 (of_decide_eq_false h)
theorem Cq (l:List bG):(iK l).Pairwise Jr:=by
 have ht:∀a b c:List UInt8,decide (a≤b)=true→decide (b≤c)=true→decide (a≤c)=true:=fun a b c h1 h2=>aH (List.le_trans (of_decide_eq_true h1) (of_decide_eq_true h2))
 have hs:∀a b:List UInt8,(decide (a≤b) || decide (b≤a))=true:=fun a b=>by
  rcases List.le_total a b with h|h
  ·rw[aH h];rfl
  ·rw[aH h];exact Bool.or_true _
 unfold iK;rw[List.pairwise_map];refine(List.pairwise_mergeSort ht hs (l.map AH)).imp fun {a b} h=>?_
 show AH (Ns a)≤AH (Ns b);exact of_decide_eq_true h
theorem BG (l:List bG):(iK l).Perm l:=by
 unfold iK;have h:=((List.mergeSort_perm (l.map AH) fun x y=>decide (x≤y)).map Ns)
 rw[List.map_map]at h;have e:(Ns ∘ AH)=id:=funext mM;rw[e,List.map_id]at h;exact h
theorem JW {l m:List bG}(hl:l.Pairwise Jr) (hm:m.Pairwise Jr) (h:l.Perm m):l=m:=List.Perm.eq_of_pairwise (le:=Jr) (fun a b _ _=>Lu) hl hm h
section
variable {α:Type}
def iF (key:α→bG) (L:List α) (s:bG):Option α:=L.find? fun b=>decide (key b=s)
theorem Hd (key:α→bG) (L:List α) (s:bG):iF key L s=(kK key L s).bind fun i=>L[i]?:=by
 unfold iF kK;rw[List.find?_eq_bind_findIdx?_getElem?]
theorem XN {key:α→bG}{L:List α}{s:bG}{i:Nat}{y:α}(h:kK key L s=some i) (hy:L[i]?=some y):iF key L s=some y:=by
 rw[Hd,h];exact hy
theorem uE {key:α→bG}{L:List α}{s:bG}(h:kK key L s=none):iF key L s=none:=by
 rw[Hd,h];rfl
theorem mO {key:α→bG}{L:List α}{s:bG}{y:α}(h:iF key L s=some y):y∈L∧key y=s:=⟨List.mem_of_find?_eq_some h,by unfold iF at h;have h2:=List.find?_some h;simpa using h2⟩
theorem nC {key:α→bG}{L:List α}{s:bG}(h:iF key L s=none) {y:α}(hy:y∈L):key y≠s:=by
 unfold iF at h;rw[List.find?_eq_none]at h;have:=h y hy;simpa using this
theorem FC {key:α→bG}{L:List α}(h:(L.map key).Nodup) {y:α}{s:bG}(hy:y∈L) (hs:key y=s):iF key L s=some y:=by
 cases hl:iF key L s with
 |none=>exact absurd hs (nC hl hy)
 |some x=>
  obtain⟨hx,hxs⟩:=mO hl;congr 1
  induction L with
  |nil=>cases hy
  |cons a L ih=>
   rw[List.map_cons,List.nodup_cons]at h;rcases List.mem_cons.1 hy with rfl|hy1
   ·rcases List.mem_cons.1 hx with rfl|hx1
    ·rfl
    ·exact absurd (aX.2 ⟨x,hx1,hxs.trans hs.symm⟩) h.1
   ·rcases List.mem_cons.1 hx with rfl|hx1
    ·exact absurd (aX.2 ⟨y,hy1,hs.trans hxs.symm⟩) h.1
    ·exact ih h.2 hy1 (by
      cases h3:iF key L s with
      |none=>exact absurd hs (nC h3 hy1)
      |some z=>
       have:key a≠s:=fun e=>h.1 (aX.2 ⟨y,hy1,hs.trans e.symm⟩)
       unfold iF at hl h3;rw[List.find?_cons_of_neg (by simpa using this)]at hl;rw[←h3,hl]) hx1
theorem DK {key:α→bG}{L L':List α}(p:L.Perm L') (h:(L.map key).Nodup) (s:bG):iF key L s=iF key L' s:=by
 have h':(L'.map key).Nodup:=(p.map key).nodup_iff.1 h;cases hl:iF key L' s with
 |some y=>
  obtain⟨hy,hs⟩:=mO hl;exact FC h (p.mem_iff.2 hy) hs
 |none=>
  cases hk:iF key L s with
  |none=>rfl
  |some y=>
   obtain⟨hy,hs⟩:=mO hk;exact absurd hs (nC hl (p.mem_iff.1 hy))
theorem xL (key:α→bG) (L M:List α) (s:bG):iF key (L++M) s=(iF key L s).or (iF key M s):=by
 unfold iF;rw[List.find?_append]
def iP (key:α→bG) (L:List α) (s:bG) (f:α→α):List α:=L.map fun b=>if key b=s then f b else b
theorem vA {key:α→bG}(L:List α) (s:bG) {f:α→α}(hf:∀b,key (f b)=key b):(iP key L s f).map key=L.map key:=by
 unfold iP;rw[List.map_map];refine List.map_congr_left fun b _=>?_
 show key (if key b=s then f b else b)=key b
 split
 ·exact hf b
 ·rfl
theorem xP {key:α→bG}(L:List α) (s t:bG) {f:α→α}(hf:∀b,key (f b)=key b):iF key (iP key L s f) t=if t=s then (iF key L t).map f else iF key L t:=by
 unfold iF iP;rw[List.find?_map];have e:((fun b=>decide (key b=t)) ∘ fun b=>if key b=s then f b else b)=fun b=>decide (key b=t):=by
  funext b;show decide (key (if key b=s then f b else b)=t)=_
  split
  ·rw[hf b]
  ·rfl
 rw[e];cases hx:L.find? fun b=>decide (key b=t) with
 |none=>split<;>rfl
 |some y=>
  have hy:key y=t:=by have:=List.find?_some hx;simpa using this
  rw[Option.map_some,hy];by_cases h:t=s
  ·rw[aF h,aF h];rfl
  ·rw[aE h,aE h]
theorem nE {key:α→bG}{L:List α}(h:(L.map key).Nodup) {s:bG}{i:Nat}{y:α}(f:α→α) (hi:kK key L s=some i) (hy:L[i]?=some y):iP key L s f=L.set i (f y):=by
 obtain⟨z,hz,hzs⟩:=dY hi;rw[hy]at hz;cases hz;obtain⟨hil,rfl⟩:=aA.1 hy;unfold iP;refine List.ext_getElem (by rw[aJ,bA]) fun j h1 h2=>?_
 rw[List.getElem_map,List.getElem_set];have hjl:j < L.length:=by rw[bA]at h2;exact h2
 by_cases e:i=j
 ·subst e;rw[aF rfl,aF hzs]
 ·rw[aE e,aE fun hk=>e ?_];have:=List.pairwise_iff_getElem.1 h;rcases Nat.lt_trichotomy i j with h3|h3|h3
  ·exact absurd (by rw[List.getElem_map,List.getElem_map,hzs,hk]) (this i j (by rw[aJ];exact hil) (by rw[aJ];exact hjl) h3)
  ·exact h3
  ·exact absurd (by rw[List.getElem_map,List.getElem_map,hzs,hk]) (this j i (by rw[aJ];exact hjl) (by rw[aJ];exact hil) h3)
end
structure XL where
 box:bG
 frm:bG
 to:bG
 place:bG
 day:Int
deriving instance DecidableEq for XL
structure dB where
 box:bG
 hist:List XL
def fH (H:List XL) (s:bG):List XL:=H.filter fun h=>decide (h.box=s)
theorem kC (H:List XL) (x:XL) (s:bG):fH (H++[x]) s=fH H s++if x.box=s then [x] else []:=by
 unfold fH;rw[List.filter_append];congr 1;by_cases h:x.box=s
 ·rw[aF h,List.filter_cons_of_pos (by simpa using h)];rfl
 ·rw[aE h,List.filter_cons_of_neg (by simpa using h)];rfl
structure Zr (L:List dB) (H:List XL):Prop where
 nd:(L.map dB.box).Nodup
 no:∀s,iF dB.box L s=none→fH H s=[]
 yes:∀s b,iF dB.box L s=some b→b.hist=fH H s∧fH H s≠[]
theorem Zr.nil:Zr [] []:=⟨.nil,fun _ _=>rfl,fun s b h=>by cases h⟩
theorem Zr.perm {L L':List dB}{H:List XL}(h:Zr L H) (p:L.Perm L'):Zr L' H:=
 ⟨(p.map _).nodup_iff.1 h.nd,fun s hs=>h.no s (by rw[DK p h.nd];exact hs),fun s b hs=>h.yes s b (by rw[DK p h.nd];exact hs)⟩
theorem Zr.begin {L:List dB}{H:List XL}(h:Zr L H) {x:XL}(hn:iF dB.box L x.box=none):Zr (L++[⟨x.box,[x]⟩]) (H++[x]):=by
 refine⟨?_,fun s hs=>?_,fun s b hs=>?_⟩
 ·rw[List.map_append,List.nodup_append];refine⟨h.nd,by simp,fun a ha b hb e=>?_⟩;subst e;obtain⟨y,hy,hya⟩:=aX.1 ha;simp only[List.map_cons,List.map_nil,List.mem_singleton]at hb;exact nC hn hy (hya.trans hb)
 ·rw[xL]at hs;cases h1:iF dB.box L s with
  |some y=>rw[h1]at hs;cases hs
  |none=>
   rw[h1]at hs;have hne:¬x.box=s:=fun e=>by
    have:iF dB.box [(⟨x.box,[x]⟩:dB)] s=some ⟨x.box,[x]⟩:=List.find?_cons_of_pos (by simpa using e);rw[this]at hs;cases hs
   rw[kC,aE hne,h.no s h1];rfl
 ·rw[xL]at hs;cases h1:iF dB.box L s with
  |some y=>
   rw[h1]at hs;cases hs;have hne:¬x.box=s:=fun e=>by rw[e,h1]at hn;cases hn
   rw[kC,aE hne,List.append_nil];exact h.yes s b h1
  |none=>
   rw[h1]at hs;by_cases e:x.box=s
   ·have:iF dB.box [(⟨x.box,[x]⟩:dB)] s=some ⟨x.box,[x]⟩:=List.find?_cons_of_pos (by simpa using e);rw[this]at hs;cases hs;rw[kC,aF e,h.no s h1];exact⟨rfl,by simp⟩
   ·have:iF dB.box [(⟨x.box,[x]⟩:dB)] s=none:=by
     unfold iF;rw[List.find?_cons_of_neg (by simpa using e)];rfl
    rw[this]at hs;cases hs
def gU (x:XL):dB→dB:=fun b=>⟨b.box,b.hist++[x]⟩
theorem qW (x:XL) (b:dB):(gU x b).box=b.box:=rfl
theorem Zr.hand {L:List dB}{H:List XL}(h:Zr L H) {x:XL}{b:dB}(hb:iF dB.box L x.box=some b):Zr (iP dB.box L x.box (gU x)) (H++[x]):=by
 refine⟨by rw[vA _ _ (qW x)];exact h.nd,fun s hs=>?_,fun s c hs=>?_⟩
 ·rw[xP _ _ _ (qW x)]at hs;by_cases e:s=x.box
  ·subst e;rw[aF rfl,hb]at hs;cases hs
  ·rw[aE e]at hs;rw[kC,aE (fun h=>e h.symm),h.no s hs];rfl
 ·rw[xP _ _ _ (qW x)]at hs;by_cases e:s=x.box
  ·subst e;rw[aF rfl,hb]at hs;cases hs;rw[kC,aF rfl];exact⟨by show b.hist++[x]=_;rw[(h.yes _ b hb).1],by simp⟩
  ·rw[aE e]at hs;rw[kC,aE (fun h=>e h.symm),List.append_nil];exact h.yes s c hs
def mH (s:bG):Bool→List bG→List bG
 |d,[]=>if d=true then [] else [s]
 |d,x :: r=>(if (!d && !lC x s)=true then [s] else [])++((if x=s then [] else [x])++mH s (d || !lC x s) r)
def tQ (l:List bG) (s:bG):List bG:=mH s false l
def Pb (a b:bG):Prop:=Jr a b∧a≠b
theorem XQ (s:bG):∀l,mH s true l=l.filter fun x=>!decide (x=s)
 |[]=>rfl
 |x :: r=>by
  unfold mH;rw[show (true || !lC x s)=true from rfl,XQ s r];by_cases h:x=s
  ·rw[aF h,List.filter_cons_of_neg (by simp[h])];rfl
  ·rw[aE h,List.filter_cons_of_pos (by simp[h])];rfl
theorem uQ (s y:bG):∀(l:List bG) (d:Bool),(d=true→s∈l∨True)→(y∈mH s d l↔(y∈l∧y≠s)∨(d=false∧y=s))
 |[],d,_=>by
  unfold mH;cases d<;>simp
 |x :: r,d,_=>by
  unfold mH;cases d with
  |true=>
   rw[show (true || !lC x s)=true from rfl,XQ];by_cases h:x=s
   ·subst h;simp;exact fun a b=>absurd b a
   ·simp[h];constructor
    ·rintro (rfl|⟨a,b⟩)
     ·exact⟨.inl rfl,h⟩
     ·exact⟨.inr a,b⟩
    ·rintro ⟨rfl|a,b⟩
     ·exact .inl rfl
     ·exact .inr ⟨a,b⟩
  |false=>
   cases hl:lC x s with
   |true=>
    rw[show (false || !true)=false from rfl,List.mem_append,List.mem_append,uQ s y r false (fun h=>by cases h)];have hne:x≠s:=fun e=>by
     subst e;unfold lC at hl;exact absurd (of_decide_eq_true hl) (List.lt_irrefl _)
    rw[aE (by simp),aE hne];simp;constructor
    ·rintro (rfl|⟨a,b⟩|rfl)
     ·exact .inl ⟨.inl rfl,hne⟩
     ·exact .inl ⟨.inr a,b⟩
     ·exact .inr rfl
    ·rintro (⟨rfl|a,b⟩|rfl)
     ·exact .inl rfl
     ·exact .inr (.inl ⟨a,b⟩)
     ·exact .inr (.inr rfl)
   |false=>
    rw[show (false || !false)=true from rfl,XQ,aF (by simp)];by_cases h:x=s
    ·subst h;simp;constructor
     ·rintro (rfl|⟨a,b⟩)
      ·exact .inr rfl
      ·exact .inl ⟨.inr a,b⟩
     ·rintro (⟨rfl|a,b⟩|rfl)
      ·exact .inl rfl
      ·exact .inr ⟨a,b⟩
      ·exact .inl rfl
    ·simp[h];constructor
     ·rintro (rfl|rfl|⟨a,b⟩)
      ·exact .inr rfl
      ·exact .inl ⟨.inl rfl,h⟩
      ·exact .inl ⟨.inr a,b⟩
     ·rintro (⟨rfl|a,b⟩|rfl)
      ·exact .inr (.inl rfl)
      ·exact .inr (.inr ⟨a,b⟩)
      ·exact .inl rfl
theorem KU {l:List bG}{s y:bG}:y∈tQ l s↔y∈l∨y=s:=by
 unfold tQ;rw[uQ s y l false (fun h=>by cases h)];constructor
 ·rintro (⟨a,_⟩|⟨_,a⟩)
  ·exact .inl a
  ·exact .inr a
 ·rintro (a|a)
  ·by_cases h:y=s
   ·exact .inr ⟨rfl,h⟩
   ·exact .inl ⟨a,h⟩
  ·exact .inr ⟨rfl,a⟩
theorem I5 {l:List bG}(s:bG) (h:l.Pairwise Pb):(tQ l s).Pairwise Pb:=by
 unfold tQ
 induction l with
 |nil=>unfold mH;simp
 |cons x r ih=>
  obtain⟨h1,h2⟩:=List.pairwise_cons.1 h;unfold mH;cases hl:lC x s with
  |true=>
   have hne:x≠s:=fun e=>by
    subst e;unfold lC at hl;exact absurd (of_decide_eq_true hl) (List.lt_irrefl _)
   rw[aE (by simp),aE hne,show (false || !true)=false from rfl,List.nil_append,List.singleton_append,List.pairwise_cons];refine⟨fun y hy=>?_,ih h2⟩;rcases(uQ s y r false (fun h=>by cases h)).1 hy with ⟨a,_⟩|⟨_,rfl⟩
   ·exact h1 y a
   ·exact⟨Jv hl,hne⟩
  |false=>
   rw[aF (by simp),show (false || !false)=true from rfl,XQ];have hsx:=zB hl;have h3:(r.filter fun y=>!decide (y=s)).Pairwise Pb:=h2.filter _;by_cases e:x=s
   ·subst e;rw[aF rfl,List.nil_append,List.singleton_append,List.pairwise_cons];exact⟨fun y hy=>h1 y ((List.mem_filter.1 hy).1),h3⟩
   ·rw[aE e,List.singleton_append,List.singleton_append,List.pairwise_cons,List.pairwise_cons];refine⟨fun y hy=>?_,fun y hy=>h1 y ((List.mem_filter.1 hy).1),h3⟩;rcases List.mem_cons.1 hy with rfl|hy
    ·exact⟨hsx,fun h=>e h.symm⟩
    ·have:=(List.mem_filter.1 hy).2;exact⟨JD hsx (h1 y ((List.mem_filter.1 hy).1)).1,fun h=>by subst h;simp at this⟩
theorem DA {l:List bG}(h:l.Pairwise Pb):l.Pairwise Jr:=h.imp And.left
theorem G2 {l:List bG}(h:l.Pairwise Pb):l.Nodup:=h.imp And.right
theorem O6 {l m:List bG}(hl:l.Pairwise Pb) (hm:m.Nodup) (h:∀x,x∈l↔x∈m):l=iK m:=by
 refine JW (DA hl) (Cq m) ?_;exact((List.perm_ext_iff_of_nodup (G2 hl) hm).2 h).trans (BG m).symm
def lA (H:List XL):List bG:=H.foldl (fun l h=>tQ l h.box) []
theorem BD:∀(H:List XL) (l:List bG),l.Pairwise Pb→(H.foldl (fun l h=>tQ l h.box) l).Pairwise Pb∧∀x,x∈H.foldl (fun l h=>tQ l h.box) l↔x∈l∨∃h∈H,h.box=x
 |[],l,hl=>⟨hl,fun x=>by simp⟩
 |h :: H,l,hl=>by
  obtain⟨h1,h2⟩:=BD H (tQ l h.box) (I5 h.box hl);refine⟨h1,fun x=>?_⟩;rw[List.foldl_cons,h2 x,KU];constructor
  ·rintro ((a|rfl)|⟨k,hk,e⟩)
   ·exact .inl a
   ·exact .inr ⟨h,bD ..,rfl⟩
   ·exact .inr ⟨k,aW _ hk,e⟩
  ·rintro (a|⟨k,hk,e⟩)
   ·exact .inl (.inl a)
   ·rcases List.mem_cons.1 hk with rfl|hk
    ·exact .inl (.inr e.symm)
    ·exact .inr ⟨k,hk,e⟩
theorem Zr.mem {L:List dB}{H:List XL}(h:Zr L H) (x:bG):x∈L.map dB.box↔ ∃k∈H,k.box=x:=by
 constructor
 ·intro hx;obtain⟨b,hb,rfl⟩:=aX.1 hx;obtain⟨_,h2⟩:=h.yes _ b (FC h.nd hb rfl);obtain⟨k,hk⟩:=List.exists_mem_of_ne_nil _ h2;unfold fH at hk;obtain⟨h3,h4⟩:=List.mem_filter.1 hk;exact⟨k,h3,by simpa using h4⟩
 ·rintro ⟨k,hk,rfl⟩;cases hl:iF dB.box L k.box with
  |none=>
   have h2:=h.no _ hl;have:k∈fH H k.box:=List.mem_filter.2 ⟨hk,by simp⟩;rw[h2]at this;cases this
  |some b=>
   obtain⟨h1,h2⟩:=mO hl;exact aX.2 ⟨b,h1,h2⟩
theorem Zr.boxes {L:List dB}{H:List XL}(h:Zr L H):lA H=iK (L.map dB.box):=by
 obtain⟨h1,h2⟩:=BD H [] .nil;refine O6 h1 h.nd fun x=>?_
 rw[h.mem x];refine(h2 x).trans ?_;simp
theorem Zr.len {L:List dB}{H:List XL}(h:Zr L H):(lA H).length=L.length:=by
 rw[h.boxes,(BG _).length_eq,aJ]
def rE (H:List XL) (x:XL):Int:=if (!bR x.box || !bR x.to || !bR x.place)=true then 1 else if (!eN x.day)=true then 3 else if fH H x.box≠[] then 5 else if 4096≤(lA H).length then 7 else 0
def rD (L:List dB) (x:XL):Int:=if (!bR x.box || !bR x.to || !bR x.place)=true then 1 else if (!eN x.day)=true then 3 else if (iF dB.box L x.box).isSome=true then 5 else if 4096≤L.length then 7 else 0
theorem Zr.begE {L:List dB}{H:List XL}(h:Zr L H) (x:XL):rD L x=rE H x:=by
 unfold rD rE;rw[h.len];cases hl:iF dB.box L x.box with
 |none=>rw[h.no _ hl];simp
 |some b=>simp[(h.yes _ b hl).2]
def oR (x:XL):Bool:=(!bR x.box || !bR x.frm || !bR x.to || !bR x.place) || decide (x.frm=x.to)
def vZ (own:List XL) (x:XL):Int:=match own.getLast? with
 |none=>4
 |some l=>if l.to≠x.frm then 8 else if x.day < l.day then 6 else if 4096≤own.length then 7 else 0
def eW (H:List XL) (x:XL):Int:=if oR x=true then 1 else if (!eN x.day)=true then 3 else vZ (fH H x.box) x
def hC (L:List dB) (x:XL):Int:=if oR x=true then 1 else if (!eN x.day)=true then 3 else match iF dB.box L x.box with
 |none=>4
 |some b=>vZ b.hist x
theorem Zr.handE {L:List dB}{H:List XL}(h:Zr L H) (x:XL):hC L x=eW H x:=by
 unfold hC eW;cases hl:iF dB.box L x.box with
 |none=>rw[h.no _ hl];rfl
 |some b=>dsimp only;rw[(h.yes _ b hl).1]
def eS:bG:=⟨#[]⟩
structure Ml where
 name:bG
 value:bG
structure HL where
 kind:Int
 number:bG
 issuer:bG
 fields:List Ml
structure dK where
 frm:bG
 to:bG
 number:Int
 kind:Int
 ack:Int
 deal:bG
 text:bG
 party:bG
 index:Int
 day:Int
 cur:bG
 amt:Int
 docs:List HL
 boxes:List bG
def lX:dK:=⟨eS,eS,0,0,0,eS,eS,eS,0,0,eS,0,[],[]⟩
structure De where
 number:bG
 seller:bG
 buyer:bG
 carrier:bG
 house:bG
 frm:bG
 to:bG
 boxes:List bG
structure Su where
 parties:List bG
 deals:List De
structure Dp where
 number:bG
 seller:bG
 buyer:bG
 house:bG
 frm:bG
 to:bG
 boxes:List bG
 state:Int
 rel:Bool
structure Cr where
 name:bG
 parties:List bG
 deals:List Dp
 reg:Rg
 cust:List dB
 deliv:List XL
structure Cs where
 S:List Int
 free:List Bool
 reg:Rg
 H:List XL
 D:List XL
def iS (l:List bG) (s:bG):Bool:=l.any fun q=>decide (q=s)
def Dj:bG:=⟨#[98,108,45]⟩
def cW (n:bG):bG:=Dj++n
def cG (d:De) (st:Int) (fr:Bool):Dp:=⟨d.number,d.seller,d.buyer,d.house,d.frm,d.to,d.boxes,st,fr⟩
def cX (s:Su) (name n:bG):Option Nat:=s.deals.findIdx? fun d=>decide (d.carrier=name) && decide (d.number=n)
def eQ (name:bG) (d:Dp) (day:Int):Bl:=⟨cW d.number,name,d.seller,d.frm,d.to,d.boxes,[],day,true⟩
def cF (frm to place:bG) (day:Int) (b:bG):XL:=⟨b,frm,to,place,day⟩
def cC (n:bG) (day:Int) (l:List dK):List dK:=l.map fun x=>{ x with deal:=n,day:=day }
def pH (C:Cr) (n:bG) (f:Dp→Dp):Cr:={ C with deals:=iP Dp.number C.deals n f }
def vJ (st:Int) (d:Dp):Dp:={ d with state:=st }
def KJ (d:Dp):Dp:={ d with rel:=true }
def fA (name:bG) (d:Dp) (day:Int):List dB→List bG→Option (List dB)
 |L,[]=>some L
 |L,b :: r=>if rD L (cF eS d.seller d.frm day b)≠0 then none else
  if hC (L++[⟨b,[cF eS d.seller d.frm day b]⟩]) (cF d.seller name d.frm day b)≠0 then none else
  fA name d day (iP dB.box (L++[⟨b,[cF eS d.seller d.frm day b]⟩]) b (gU (cF d.seller name d.frm day b))) r
def eX (f:bG→XL):List dB→List bG→Option (List dB)
 |L,[]=>some L
 |L,b :: r=>if hC L (f b)≠0 then none else eX f (iP dB.box L (f b).box (gU (f b))) r
def cI (kind:Int) (d:Dp) (l:dK) (day:Int):At:=⟨kind,l.index,day,cW d.number,l.frm,l.party,noBl⟩
where noBl:Bl:=⟨eS,eS,eS,eS,eS,[],[],0,false⟩
def eL (nm:Int→bG) (l:dK):List dK:=[{ lX with to:=l.frm,kind:=22,text:=nm l.kind,index:=l.index,party:=l.party }]
def rH (C:Cr) (d:Dp) (l:dK) (day:Int):Cr:=if l.frm≠d.seller∨d.state≠0 then C else match fA C.name d day C.cust d.boxes with
 |none=>C
 |some L=>pH { C with cust:=L } d.number (vJ 1)
def jI (R:Rg) (a:At):Int:=eE R.bills (cR a)
def zN (nm:Int→bG) (C:Cr) (d:Dp) (l:dK) (day:Int):Cr×List dK:=
 if iS C.parties l.party=false∨l.party=l.frm∨jI C.reg (cI 1 d l day)≠0 then (C,eL nm l)
 else ({ C with reg:=wK C.reg (cI 1 d l day) },[{ lX with to:=l.party,kind:=9,index:=l.index,party:=l.party }])
def Ef (nm:Int→bG) (C:Cr) (d:Dp) (l:dK) (day:Int):Cr×List dK:=
 if d.state≠3∨d.rel=false then (C,eL nm l) else match eX (cF C.name l.frm d.to day) C.cust d.boxes with
 |none=>(C,eL nm l)
 |some L=>if jI C.reg (cI 2 d l day)≠0 then (C,eL nm l) else
  (pH { C with cust:=L,deliv:=C.deliv++d.boxes.map (cF C.name l.frm d.to day),reg:=wK C.reg (cI 2 d l day) } d.number (vJ 4),[{ lX with to:=l.frm,kind:=21,boxes:=d.boxes }])
def Et (C:Cr) (d:Dp) (l:dK):Cr:=if d.house≠eS∧l.frm=d.house then pH C d.number KJ else C
def rQ (nm:Int→bG) (C:Cr) (d:Dp) (l:dK) (day:Int):Cr×List dK:=
 if jI C.reg (cI 3 d l day)≠0 then (C,eL nm l) else ({ C with reg:=wK C.reg (cI 3 d l day) },[])
def rK (nm:Int→bG) (C:Cr) (d:Dp) (l:dK) (day:Int):Cr×List dK:=
 if jI C.reg (cI 4 d l day)≠0 then (C,eL nm l) else ({ C with reg:=wK C.reg (cI 4 d l day) },[{ lX with to:=l.frm,kind:=25,index:=l.index }])
def qM (nm:Int→bG) (C:Cr) (d:Dp) (l:dK) (day:Int):Cr×List dK:=
 if l.kind=4 then (rH C d l day,[])
 else if l.kind=8 then zN nm C d l day
 else if l.kind=20 then Ef nm C d l day
 else if l.kind=19 then (Et C d l,[])
 else if l.kind=23 then rQ nm C d l day
 else if l.kind=24 then rK nm C d l day
 else (C,[])
def nF (nm:Int→bG) (C:Cr) (l:dK) (day:Int):Cr×List dK:=match iF Dp.number C.deals l.deal with
 |none=>(C,[])
 |some d=>if iS C.parties l.frm=false then (C,[]) else ((qM nm C d l day).1,cC d.number day (qM nm C d l day).2)
def tS (lad:Bl→HL) (C:Cr) (d:Dp) (day:Int):Cr×List dK×Int:=
 if fW ⟨C.reg,eQ C.name d day,d.seller⟩≠0 then (C,[],fW ⟨C.reg,eQ C.name d day,d.seller⟩)
 else (pH { C with reg:=iY ⟨C.reg,eQ C.name d day,d.seller⟩ } d.number (vJ 2),cC d.number day [{ lX with to:=d.seller,kind:=5,docs:=[lad (eQ C.name d day)] }],0)
def HW (C:Cr) (d:Dp) (day:Int):Cr×List dK×Int:=(pH C d.number (vJ 3),cC d.number day [{ lX with to:=d.buyer,kind:=26,boxes:=d.boxes }],0)
def kW (lad:Bl→HL) (C:Cr) (kind:Int) (deal:bG) (day:Int):Cr×List dK×Int:=
 if kind≠5∧kind≠6 then (C,[],1) else match iF Dp.number C.deals deal with
 |none=>(C,[],4)
 |some d=>if d.state≠(if kind=5 then 1 else 2) then (C,[],9) else if kind=5 then tS lad C d day else HW C d day
def iQ (x:Cs) (i:Nat) (st:Int):Cs:={ x with S:=x.S.set i st }
def iG (name:bG) (d:De) (day:Int):List XL→List bG→Option (List XL)
 |H,[]=>some H
 |H,b :: r=>if rE H (cF eS d.seller d.frm day b)≠0 then none else
  if eW (H++[cF eS d.seller d.frm day b]) (cF d.seller name d.frm day b)≠0 then none else
  iG name d day (H++[cF eS d.seller d.frm day b]++[cF d.seller name d.frm day b]) r
def eP (f:bG→XL):List XL→List bG→Option (List XL)
 |H,[]=>some H
 |H,b :: r=>if eW H (f b)≠0 then none else eP f (H++[f b]) r
def dM (kind:Int) (d:De) (l:dK) (day:Int):At:=⟨kind,l.index,day,cW d.number,l.frm,l.party,cI.noBl⟩
def eA (nm:Int→bG) (s:Su) (name:bG) (x:Cs) (l:dK) (day:Int):Cs×List dK:=match cX s name l.deal with
 |none=>(x,[])
 |some i=>if iS s.parties l.frm=false then (x,[]) else match s.deals[i]?,x.S[i]?,x.free[i]? with
  |some d,some st,some fr=>
   if l.kind=4 then (if l.frm=d.seller∧st=0 then (match iG name d day x.H d.boxes with
    |none=>x
    |some H=>iQ { x with H:=H } i 1) else x,[])
   else if l.kind=19 then (if d.house≠eS∧l.frm=d.house then { x with free:=x.free.set i true } else x,[])
   else if l.kind=8∨l.kind=20∨l.kind=23∨l.kind=24 then
    let k:Int:=if l.kind=8 then 1 else if l.kind=20 then 2 else if l.kind=23 then 3 else 4
    let a:=dM k d l day
    if (iN x.reg a).2≠0∨(k=1∧(iS s.parties l.party=false∨l.party=l.frm)) then (x,cC l.deal day (eL nm l))
    else if k=2 then match eP (cF name l.frm d.to day) x.H d.boxes with
     |none=>(x,cC l.deal day (eL nm l))
     |some H=>if st≠3∨fr=false then (x,cC l.deal day (eL nm l)) else
      (iQ { x with D:=x.D++H.drop x.H.length,H:=H,reg:=(iN x.reg a).1 } i 4,cC l.deal day [{ lX with to:=l.frm,kind:=21,boxes:=d.boxes }])
    else ({ x with reg:=(iN x.reg a).1 },cC l.deal day (if k=1 then [{ lX with to:=l.party,kind:=9,index:=l.index,party:=l.party }] else if k=4 then [{ lX with to:=l.frm,kind:=25,index:=l.index }] else []))
   else (x,[])
  |_,_,_=>(x,[])
def jJ (lad:Bl→HL) (s:Su) (name:bG) (x:Cs) (kind:Int) (deal:bG) (day:Int):Cs×List dK×Int:=
 if kind≠5∧kind≠6 then (x,[],1) else match cX s name deal with
 |none=>(x,[],4)
 |some i=>match s.deals[i]?,x.S[i]? with
  |some d,some st=>
   if kind=6 then (if st≠2 then (x,[],9) else (iQ x i 3,cC d.number day [{ lX with to:=d.buyer,kind:=26,boxes:=d.boxes }],0))
   else if st≠1 then (x,[],9) else
    let b:Bl:=eQ name (cG d st true) day
    if fW ⟨x.reg,b,d.seller⟩≠0 then (x,[],fW ⟨x.reg,b,d.seller⟩)
    else ({ iQ x i 2 with reg:=iY ⟨x.reg,b,d.seller⟩ },cC d.number day [{ lX with to:=d.seller,kind:=5,docs:=[lad b] }],0)
  |_,_=>(x,[],4)
structure fN (s:Su) (C:Cr) (x:Cs):Prop where
 par:∀p,iS C.parties p=iS s.parties p
 nd:(C.deals.map Dp.number).Nodup
 lenS:x.S.length=s.deals.length
 lenF:x.free.length=s.deals.length
 no:∀n,cX s C.name n=none→iF Dp.number C.deals n=none
 yes:∀n i d st fr,cX s C.name n=some i→s.deals[i]?=some d→x.S[i]?=some st→x.free[i]?=some fr→iF Dp.number C.deals n=some (cG d st fr)
 reg:C.reg=x.reg
 inv:∃n,zD n x.reg
 cust:Zr C.cust x.H
 del:C.deliv=x.D
theorem jX {s:Su}{name n:bG}{i:Nat}(h:cX s name n=some i):∃d,s.deals[i]?=some d∧d.carrier=name∧d.number=n:=by
 unfold cX at h;rw[List.findIdx?_eq_some_iff_getElem]at h;obtain⟨hi,h1,_⟩:=h;simp only[aO,decide_eq_true_eq]at h1;exact⟨_,aB hi,h1.1,h1.2⟩
theorem fN.at {s:Su}{C:Cr}{x:Cs}(h:fN s C x) {n:bG}{i:Nat}(hi:cX s C.name n=some i):∃d st fr,s.deals[i]?=some d∧x.S[i]?=some st∧x.free[i]?=some fr∧d.number=n∧iF Dp.number C.deals n=some (cG d st fr):=by
 obtain⟨d,hd,_,hn⟩:=jX hi;have hil:=(aA.1 hd).1;obtain⟨st,h1⟩:∃st,x.S[i]?=some st:=⟨_,aB (by rw[h.lenS];exact hil)⟩
 obtain⟨fr,h2⟩:∃fr,x.free[i]?=some fr:=⟨_,aB (by rw[h.lenF];exact hil)⟩
 exact⟨d,_,_,hd,h1,h2,hn,h.yes n i d _ _ hi hd h1 h2⟩
theorem fN.perm {s:Su}{C:Cr}{x:Cs}(h:fN s C x) {L:List dB}(p:C.cust.Perm L):fN s { C with cust:=L } x:=⟨h.par,h.nd,h.lenS,h.lenF,h.no,h.yes,h.reg,h.inv,h.cust.perm p,h.del⟩
theorem fN.upd {s:Su}{C:Cr}{x:Cs}(h:fN s C x) {n:bG}{i:Nat}(hi:cX s C.name n=some i) {f:Dp→Dp}(hf:∀b,(f b).number=b.number) {S:List Int}{F:List Bool}(hS:S.length=s.deals.length) (hF:F.length=s.deals.length)
  (ho:∀j,j≠i→S[j]?=x.S[j]?∧F[j]?=x.free[j]?)
  (he:∀d st fr st' fr',s.deals[i]?=some d→x.S[i]?=some st→x.free[i]?=some fr→S[i]?=some st'→F[i]?=some fr'→f (cG d st fr)=cG d st' fr'):fN s (pH C n f) { x with S:=S,free:=F }:=by
 refine⟨h.par,?_,hS,hF,fun m hm=>?_,fun m j d st fr hj hd hs hf2=>?_,h.reg,h.inv,h.cust,h.del⟩
 ·show ((iP Dp.number C.deals n f).map Dp.number).Nodup;rw[vA _ _ hf];exact h.nd
 ·show iF Dp.number (iP Dp.number C.deals n f) m=none;rw[xP _ _ _ hf,h.no m hm]
  split<;>rfl
 ·show iF Dp.number (iP Dp.number C.deals n f) m=some (cG d st fr);have hj2:cX s C.name m=some j:=hj;clear hj;rw[xP _ _ _ hf];by_cases e:m=n
  ·subst e;cases hi.symm.trans hj2;obtain⟨d0,st0,fr0,g1,g2,g3,g4,g5⟩:=h.at hi;rw[aF rfl,g5,Option.map_some];rw[hd]at g1;cases g1;rw[he d st0 fr0 st fr hd g2 g3 hs hf2]
  ·rw[aE e];have hji:j≠i:=fun e2=>by
    subst e2;obtain⟨_,g1,_,g2⟩:=jX hj2;obtain⟨_,g3,_,g4⟩:=jX hi;rw[g1]at g3;cases g3;exact e (g2.symm.trans g4)
   obtain⟨e1,e2⟩:=ho j hji;exact h.yes m j d st fr hj2 hd (by rw[←e1];exact hs) (by rw[←e2];exact hf2)
theorem zQ {α:Type}{l:List α}{i:Nat}{a b:α}(h:(l.set i a)[i]?=some b):b=a:=by
 rw[List.getElem?_set_self' ]at h;cases hl:l[i]? with
 |none=>rw[hl]at h;cases h
 |some y=>rw[hl]at h;cases h;rfl
theorem fN.state {s:Su}{C:Cr}{x:Cs}(h:fN s C x) {n:bG}{i:Nat}(hi:cX s C.name n=some i) (st:Int):fN s (pH C n (vJ st)) (iQ x i st):=by
 refine h.upd (f:=vJ st) hi (fun _=>rfl) (S:=x.S.set i st) (F:=x.free) (by rw[bA];exact h.lenS) h.lenF (fun j hj=>⟨aU (fun e=>hj e.symm),rfl⟩) fun d st0 fr st' fr' _ _ h3 h4 h5=>?_
 rw[zQ h4];rw[h3]at h5;cases h5;rfl
theorem fN.free {s:Su}{C:Cr}{x:Cs}(h:fN s C x) {n:bG}{i:Nat}(hi:cX s C.name n=some i):fN s (pH C n KJ) { x with free:=x.free.set i true }:=by
 refine h.upd (f:=KJ) hi (fun _=>rfl) (S:=x.S) (F:=x.free.set i true) h.lenS (by rw[bA];exact h.lenF) (fun j hj=>⟨rfl,aU (fun e=>hj e.symm)⟩) fun d st0 fr st' fr' _ h2 _ h4 h5=>?_
 rw[zQ h5];rw[h2]at h4;cases h4;rfl
theorem yE (name:bG) (d:De) (st:Int) (fr:Bool) (day:Int):∀(bs:List bG) (L:List dB) (H:List XL),Zr L H →
  (fA name (cG d st fr) day L bs=none∧iG name d day H bs=none)∨∃L' H',fA name (cG d st fr) day L bs=some L'∧iG name d day H bs=some H'∧Zr L' H'
 |[],L,H,h=>.inr ⟨L,H,rfl,rfl,h⟩
 |b :: r,L,H,h=>by
  obtain⟨x1,hx1⟩:∃x,x=cF eS d.seller d.frm day b:=⟨_,rfl⟩
  obtain⟨x2,hx2⟩:∃x,x=cF d.seller name d.frm day b:=⟨_,rfl⟩
  have b1:x1.box=b:=by rw[hx1];rfl
  have b2:x2.box=b:=by rw[hx2];rfl
  have g1:fA name (cG d st fr) day L (b :: r)=if rD L x1≠0 then none else if hC (L++[⟨b,[x1]⟩]) x2≠0 then none else fA name (cG d st fr) day (iP dB.box (L++[⟨b,[x1]⟩]) b (gU x2)) r:=by subst hx1 hx2;rfl
  have g2:iG name d day H (b :: r)=if rE H x1≠0 then none else if eW (H++[x1]) x2≠0 then none else iG name d day (H++[x1]++[x2]) r:=by subst hx1 hx2;rfl
  clear hx1 hx2;rw[g1,g2,h.begE x1];by_cases h1:rE H x1≠0
  ·rw[aF h1,aF h1];exact .inl ⟨rfl,rfl⟩
  ·rw[aE h1,aE h1];have hn:iF dB.box L x1.box=none:=by
    have h0:rE H x1=0:=Decidable.not_not.1 h1;unfold rE at h0;cases hl:iF dB.box L x1.box with
    |none=>rfl
    |some y=>
     exfalso;have h3:=(h.yes _ y hl).2;rw[aF h3]at h0
     split at h0
     ·cases h0
     split at h0<;>cases h0
   have hc:=h.begin (x:=x1) hn;rw[b1]at hc;rw[hc.handE x2];by_cases h2:eW (H++[x1]) x2≠0
   ·rw[aF h2,aF h2];exact .inl ⟨rfl,rfl⟩
   ·rw[aE h2,aE h2];have hl2:iF dB.box (L++[⟨b,[x1]⟩]) x2.box=some ⟨b,[x1]⟩:=by
     rw[xL,b2];rw[b1]at hn;rw[hn];show iF dB.box [(⟨b,[x1]⟩:dB)] b=_;unfold iF;exact List.find?_cons_of_pos (p:=fun c:dB=>decide (c.box=b)) (aH rfl)
    have hc2:=hc.hand (x:=x2) hl2;rw[b2]at hc2;exact yE name d st fr day r _ _ hc2
theorem Ji {L:List dB}{x:XL}(h:hC L x=0):∃b,iF dB.box L x.box=some b:=by
 unfold hC at h
 split at h
 ·cases h
 split at h
 ·cases h
 split at h
 ·cases h
 ·rename_i b hb;exact⟨b,hb⟩
theorem pI (f:bG→XL):∀(bs:List bG) (L:List dB) (H:List XL),Zr L H →
  (eX f L bs=none∧eP f H bs=none)∨∃L',eX f L bs=some L'∧eP f H bs=some (H++bs.map f)∧Zr L' (H++bs.map f)
 |[],L,H,h=>.inr ⟨L,rfl,by rw[List.map_nil,List.append_nil];rfl,by rw[List.map_nil,List.append_nil];exact h⟩
 |b :: r,L,H,h=>by
  have g1:eX f L (b :: r)=if hC L (f b)≠0 then none else eX f (iP dB.box L (f b).box (gU (f b))) r:=rfl
  have g2:eP f H (b :: r)=if eW H (f b)≠0 then none else eP f (H++[f b]) r:=rfl
  rw[g1,g2,h.handE (f b)];by_cases h1:eW H (f b)≠0
  ·rw[aF h1,aF h1];exact .inl ⟨rfl,rfl⟩
  ·rw[aE h1,aE h1];obtain⟨y,hy⟩:=Ji ((h.handE (f b)).trans (Decidable.not_not.1 h1));have:=pI f r _ _ (h.hand hy);rw[List.map_cons,show H++f b :: r.map f=H++[f b]++r.map f by simp];exact this
set_option maxHeartbeats 2000000
theorem fN.reg_act {s:Su}{C:Cr}{x:Cs}(h:fN s C x) (a:At) (hk:0≤a.kind∧a.kind≤5) (hb:tY a.b):fN s { C with reg:=wK C.reg a } { x with reg:=(iN x.reg a).1 }:=by
 obtain⟨n,hn⟩:=h.inv;refine⟨h.par,h.nd,h.lenS,h.lenF,h.no,h.yes,?_,⟨n+1,GT hn hk hb⟩,h.cust,h.del⟩;show wK C.reg a=(iN x.reg a).1;rw[h.reg,Qo hn]
theorem B8 {R:Rg}{a:At}(h:¬a.kind=0):jI R a=(iN R a).2:=by rw[oH h];rfl
theorem kJ:tY cI.noBl:=⟨aI _,aI _⟩
theorem fN.take {s:Su}{C:Cr}{x:Cs}(nm:Int→bG) (h:fN s C x) (l:dK) (day:Int) :
  fN s (nF nm C l day).1 (eA nm s C.name x l day).1∧(nF nm C l day).2=(eA nm s C.name x l day).2∧(nF nm C l day).1.name=C.name:=by
 unfold nF eA;cases hi:cX s C.name l.deal with
 |none=>
  rw[h.no _ hi];exact⟨h,rfl,rfl⟩
 |some i=>
  obtain⟨d,st,fr,h1,h2,h3,h4,h5⟩:=h.at hi;rw[h5];dsimp only;rw[h1,h2,h3,h.par];dsimp only;cases hp:iS s.parties l.frm with
  |false=>
   rw[aF rfl,aF rfl];exact⟨h,rfl,rfl⟩
  |true=>
  rw[aE (by decide),aE (by decide)];dsimp only;unfold qM;have hnum:(cG d st fr).number=l.deal:=h4;have hbn:cW d.number=cW l.deal:=by rw[h4]
  rw[hnum];by_cases k4:l.kind=4
  ·rw[aF k4,aF k4];refine⟨?_,rfl,?_⟩
   ·show fN s (rH C (cG d st fr) l day) _;unfold rH;by_cases hc:l.frm=d.seller∧st=0
    ·rw[aE (show ¬(l.frm≠(cG d st fr).seller∨(cG d st fr).state≠0) from fun k=>k.elim (fun k=>k hc.1) fun k=>k hc.2),aF hc];rcases yE C.name d st fr day d.boxes C.cust x.H h.cust with ⟨e1,e2⟩|⟨L,H,e1,e2,e3⟩
     ·rw[show fA C.name (cG d st fr) day C.cust (cG d st fr).boxes=none from e1,e2];exact h
     ·rw[show fA C.name (cG d st fr) day C.cust (cG d st fr).boxes=some L from e1,e2];have h9:fN s { C with cust:=L } { x with H:=H }:=⟨h.par,h.nd,h.lenS,h.lenF,h.no,h.yes,h.reg,h.inv,e3,h.del⟩
      rw[show (cG d st fr).number=l.deal from h4];exact h9.state hi 1
    ·rw[aF (show l.frm≠(cG d st fr).seller∨(cG d st fr).state≠0 from by
      by_cases k:l.frm=d.seller
      ·exact .inr fun k2=>hc ⟨k,k2⟩
      ·exact .inl k),aE hc]
     exact h
   ·show (rH C (cG d st fr) l day).name=C.name;unfold rH
    split
    ·rfl
    ·split<;>rfl
  rw[aE k4,aE k4];by_cases k8:l.kind=8
  ·rw[aF k8,aE (by omega),aF (.inl k8),aF k8];show fN s (zN nm C (cG d st fr) l day).1 _∧cC l.deal day (zN nm C (cG d st fr) l day).2=_∧_;unfold zN;have e0:cI 1 (cG d st fr) l day=dM 1 d l day:=rfl;have ea:jI C.reg (cI 1 (cG d st fr) l day)=(iN x.reg (dM 1 d l day)).2:=by rw[e0,h.reg];exact B8 (show ¬(1:Int)=0 by decide)
   rw[ea,h.par];by_cases hc:iS s.parties l.party=false∨l.party=l.frm∨(iN x.reg (dM 1 d l day)).2≠0
   ·rw[aF hc,aF (by
     rcases hc with hc|hc|hc
     ·exact .inr ⟨rfl,.inl hc⟩
     ·exact .inr ⟨rfl,.inr hc⟩
     ·exact .inl hc)]
    exact⟨h,rfl,rfl⟩
   ·rw[aE hc,aE (by
     rintro (k|⟨_,k|k⟩)
     ·exact hc (.inr (.inr k))
     ·exact hc (.inl k)
     ·exact hc (.inr (.inl k))),aE (by decide),aF rfl]
    exact⟨e0 ▸ h.reg_act (dM 1 d l day) ⟨show (0:Int)≤1 by decide,show (1:Int)≤5 by decide⟩ kJ,rfl,rfl⟩
  rw[aE k8];by_cases k20:l.kind=20
  ·rw[aF k20,aE (by omega),aF (.inr (.inl k20)),aE k8,aF k20];show fN s (Ef nm C (cG d st fr) l day).1 _∧cC l.deal day (Ef nm C (cG d st fr) l day).2=_∧_;unfold Ef;have e0:cI 2 (cG d st fr) l day=dM 2 d l day:=rfl;have ea:jI C.reg (cI 2 (cG d st fr) l day)=(iN x.reg (dM 2 d l day)).2:=by rw[e0,h.reg];exact B8 (show ¬(2:Int)=0 by decide)
   rw[ea];have hs:=pI (cF C.name l.frm d.to day) d.boxes C.cust x.H h.cust;have er:¬((2:Int)=1∧(iS s.parties l.party=false∨l.party=l.frm)):=fun k=>absurd k.1 (by decide)
   by_cases hst:st≠3∨fr=false
   ·rw[aF (show (cG d st fr).state≠3∨(cG d st fr).rel=false from hst)];by_cases hd:(iN x.reg (dM 2 d l day)).2≠0
    ·rw[aF (.inl hd)];exact⟨h,rfl,rfl⟩
    ·rw[aE (fun k=>k.elim hd er),aF rfl];rcases hs with ⟨_,e2⟩|⟨L,_,e2,_⟩
     ·rw[e2];exact⟨h,rfl,rfl⟩
     ·rw[e2];dsimp only;rw[aF hst];exact⟨h,rfl,rfl⟩
   ·rw[aE (show ¬((cG d st fr).state≠3∨(cG d st fr).rel=false) from hst)];rcases hs with ⟨e1,e2⟩|⟨L,e1,e2,e3⟩
    ·rw[show eX (cF C.name l.frm (cG d st fr).to day) C.cust (cG d st fr).boxes=none from e1];by_cases hd:(iN x.reg (dM 2 d l day)).2≠0
     ·rw[aF (.inl hd)];exact⟨h,rfl,rfl⟩
     ·rw[aE (fun k=>k.elim hd er),aF rfl,e2];exact⟨h,rfl,rfl⟩
    ·rw[show eX (cF C.name l.frm (cG d st fr).to day) C.cust (cG d st fr).boxes=some L from e1];dsimp only;by_cases hd:(iN x.reg (dM 2 d l day)).2≠0
     ·rw[aF hd,aF (.inl hd)];exact⟨h,rfl,rfl⟩
     ·rw[aE hd,aE (fun k=>k.elim hd er),aF rfl,e2];dsimp only;rw[aE hst];have hr:=h.reg_act (dM 2 d l day) ⟨show (0:Int)≤2 by decide,show (2:Int)≤5 by decide⟩ kJ;have h9:fN s { C with cust:=L,deliv:=C.deliv++d.boxes.map (cF C.name l.frm d.to day),reg:=wK C.reg (dM 2 d l day) } { x with D:=x.D++(x.H++d.boxes.map (cF C.name l.frm d.to day)).drop x.H.length,H:=x.H++d.boxes.map (cF C.name l.frm d.to day),reg:=(iN x.reg (dM 2 d l day)).1 }:=
       ⟨h.par,h.nd,h.lenS,h.lenF,h.no,h.yes,hr.reg,hr.inv,e3,by show C.deliv++_=_;rw[h.del,List.drop_left]⟩
      refine⟨?_,rfl,rfl⟩;rw[show (cG d st fr).number=l.deal from h4];exact h9.state hi 4
  rw[aE k20];by_cases k19:l.kind=19
  ·rw[aF k19,aF k19];refine⟨?_,rfl,?_⟩
   ·show fN s (Et C (cG d st fr) l) _;unfold Et;by_cases hc:d.house≠eS∧l.frm=d.house
    ·rw[aF (show (cG d st fr).house≠eS∧l.frm=(cG d st fr).house from hc),aF hc,show (cG d st fr).number=l.deal from h4];exact h.free hi
    ·rw[aE (show ¬((cG d st fr).house≠eS∧l.frm=(cG d st fr).house) from hc),aE hc];exact h
   ·show (Et C (cG d st fr) l).name=C.name;unfold Et
    split<;>rfl
  rw[aE k19,aE k19];by_cases k23:l.kind=23
  ·rw[aF k23,aF (.inr (.inr (.inl k23))),aE k8,aE k20,aF k23];show fN s (rQ nm C (cG d st fr) l day).1 _∧cC l.deal day (rQ nm C (cG d st fr) l day).2=_∧_;unfold rQ;have e0:cI 3 (cG d st fr) l day=dM 3 d l day:=rfl;have ea:jI C.reg (cI 3 (cG d st fr) l day)=(iN x.reg (dM 3 d l day)).2:=by rw[e0,h.reg];exact B8 (show ¬(3:Int)=0 by decide)
   rw[ea];by_cases hd:(iN x.reg (dM 3 d l day)).2≠0
   ·rw[aF hd,aF (.inl hd)];exact⟨h,rfl,rfl⟩
   ·rw[aE hd,aE (fun k=>k.elim hd fun k=>absurd k.1 (by decide)),aE (by decide),aE (by decide),aE (by decide)];exact⟨e0 ▸ h.reg_act (dM 3 d l day) ⟨show (0:Int)≤3 by decide,show (3:Int)≤5 by decide⟩ kJ,rfl,rfl⟩
  rw[aE k23];by_cases k24:l.kind=24
  ·rw[aF k24,aF (.inr (.inr (.inr k24))),aE k8,aE k20,aE k23];show fN s (rK nm C (cG d st fr) l day).1 _∧cC l.deal day (rK nm C (cG d st fr) l day).2=_∧_;unfold rK;have e0:cI 4 (cG d st fr) l day=dM 4 d l day:=rfl;have ea:jI C.reg (cI 4 (cG d st fr) l day)=(iN x.reg (dM 4 d l day)).2:=by rw[e0,h.reg];exact B8 (show ¬(4:Int)=0 by decide)
   rw[ea];by_cases hd:(iN x.reg (dM 4 d l day)).2≠0
   ·rw[aF hd,aF (.inl hd)];exact⟨h,rfl,rfl⟩
   ·rw[aE hd,aE (fun k=>k.elim hd fun k=>absurd k.1 (by decide)),aE (by decide),aE (by decide),aF rfl];exact⟨e0 ▸ h.reg_act (dM 4 d l day) ⟨show (0:Int)≤4 by decide,show (4:Int)≤5 by decide⟩ kJ,rfl,rfl⟩
  ·rw[aE k24,aE (fun k=>by rcases k with k|k|k|k<;>contradiction)];exact⟨h,rfl,rfl⟩
def J5 (d:De):Prop:=d.boxes.length≤70
theorem fN.car {s:Su}{C:Cr}{x:Cs}(lad:Bl→HL) (h:fN s C x) (hb:∀d∈s.deals,J5 d) (kind:Int) (deal:bG) (day:Int) :
  fN s (kW lad C kind deal day).1 (jJ lad s C.name x kind deal day).1∧(kW lad C kind deal day).2=(jJ lad s C.name x kind deal day).2∧(kW lad C kind deal day).1.name=C.name:=by
 unfold kW jJ;by_cases hk:kind≠5∧kind≠6
 ·rw[aF hk,aF hk];exact⟨h,rfl,rfl⟩
 rw[aE hk,aE hk];cases hi:cX s C.name deal with
 |none=>
  rw[h.no _ hi];exact⟨h,rfl,rfl⟩
 |some i=>
  obtain⟨d,st,fr,h1,h2,h3,h4,h5⟩:=h.at hi;have hbd:=hb d (aC h1);unfold J5 at hbd;rw[h5];dsimp only;rw[h1,h2];dsimp only;by_cases k6:kind=6
  ·subst k6;simp only[aE (show ¬(6:Int)=5 by decide),↓reduceIte];by_cases hs:st=2
   ·rw[aE (show ¬(cG d st fr).state≠2 from fun k=>k hs),aE (show ¬st≠2 from fun k=>k hs)];refine⟨?_,rfl,rfl⟩;show fN s (pH C (cG d st fr).number (vJ 3)) _;rw[show (cG d st fr).number=deal from h4];exact h.state hi 3
   ·rw[aF (show (cG d st fr).state≠2 from hs),aF hs];exact⟨h,rfl,rfl⟩
  ·have k5:kind=5:=by
    by_cases k:kind=5
    ·exact k
    ·exact absurd ⟨k,k6⟩ hk
   subst k5;simp only[aE (show ¬(5:Int)=6 by decide),↓reduceIte];by_cases hs:st=1
   ·rw[aE (show ¬(cG d st fr).state≠1 from fun k=>k hs),aE (show ¬st≠1 from fun k=>k hs)];unfold tS;have eb:eQ C.name (cG d st fr) day=eQ C.name (cG d st true) day:=rfl;rw[eb,h.reg];show fN s (ite _ _ _:Cr×List dK×Int).1 (ite (fW ⟨x.reg,eQ C.name (cG d st true) day,d.seller⟩≠0) _ _:Cs×List dK×Int).1∧_;have es:(cG d st fr).seller=d.seller:=rfl;rw[es];by_cases he:fW ⟨x.reg,eQ C.name (cG d st true) day,d.seller⟩=0
    ·rw[aE (fun k=>k he),aE (fun k=>k he)];refine⟨?_,rfl,rfl⟩;obtain⟨n,hn⟩:=h.inv;have hi2:zD n (iY ⟨x.reg,eQ C.name (cG d st true) day,d.seller⟩):=yH hn ⟨by show d.boxes.length≤5000;omega,by show ([]:List bG).length≤5000;exact aI _⟩;have h9:fN s { C with reg:=iY ⟨x.reg,eQ C.name (cG d st true) day,d.seller⟩ } { x with reg:=iY ⟨x.reg,eQ C.name (cG d st true) day,d.seller⟩ }:=⟨h.par,h.nd,h.lenS,h.lenF,h.no,h.yes,rfl,⟨n,hi2⟩,h.cust,h.del⟩
     rw[show (cG d st fr).number=deal from h4];exact h9.state hi 2
    ·rw[aF he,aF he];exact⟨h,rfl,rfl⟩
   ·rw[aF (show (cG d st fr).state≠1 from hs),aF hs];exact⟨h,rfl,rfl⟩
set_option maxHeartbeats 1000000
theorem Cp {a b:bG}(h:AH a=AH b):a=b:=by rw[←mM a,←mM b,h]
end Go.Proofs.YtigdiekbiphhmaaGreatDoor
end
