/-
  Texts of this proof,joined: RI,RJ,RK,RL,RM,RN,RO,RP,RQ,RR,RS,SA,SB,SC,SD,SE,SF,SG,SGZ,SH,SI,TA,CPA,CPB,CPC,CPD.
-/
import Derived.Test.YtigdiekbiphhmaaGreatDoorS4
import Derived.Shelf.Sort.Plain
import Derived.Shelf.Slices.In.SortNone
import Derived.Sort.OwnSorted
import Derived.Test.YtigdiekbiphhmaaGreatDoorChecked
set_option linter.unusedVariables false
set_option linter.unusedSimpArgs false
noncomputable section
namespace Go.Proofs.YtigdiekbiphhmaaGreatDoor
open Go.RowKit
set_option maxHeartbeats 2000000
set_option maxRecDepth 100000
def pU (l:List pY) (k:Int):Bool:=match l.getLast? with
 |some e=>decide (e.kind=k)
 |none=>false
def Gt (l:List pY) (d:Int):Bool:=match l.getLast? with
 |some e=>decide (d < e.day)
 |none=>false
theorem lZ {l:List pY}(h:l.length=0):l.getLast?=none:=by rw[aR h];rfl
theorem oS {l:List pY}{i:Nat}{e:pY}(h:i+1=l.length) (hl:l[i]?=some e):l.getLast?=some e:=by
 rw[List.getLast?_eq_getElem?,show l.length - 1=i by omega];exact hl
def Cc (k:Int):dL:=spec (fun l:List pY=>[.sl 4 (bJ bV l)]) (fun _=>[]) (fun l=>l.length≤5000) (fun l=>.bl (pU l k)) fun _=>[]
theorem GZ (P:bI):bM P XO (Cc 1):=by
 intro args H K hc;obtain⟨c,rfl,rfl,hp,hK⟩:=hc;refine⟨cK,?_⟩;dsimp only at hp hK⊢;have hd:pU c 1=match c.getLast? with
  |some e=>decide (e.kind=1)
  |none=>false:=rfl
 obtain⟨q,hq⟩:∃x,x=(pU c 1):=⟨_,rfl⟩
 rw[←hq]at hK hd;cbv;repeat'((first|refine .mk (fun h=>?_) fun h=>?_|refine .k fun z hz=>?_|fail)<;>cbv)
 ·refine cM bQ bQ fun i l hi hl=>?_
  obtain⟨f,t,k,d⟩:=l;rw[oS bQ hl]at hd;cbv;repeat'((first|refine .mk (fun h=>?_) fun h=>?_|fail)<;>cbv)
  exact bY.mk ⟨_,Gh.refl _,.inl (.v9 (cE hK (by(rw[hd];simp[*]))))⟩;exact bY.mk ⟨_,Gh.refl _,.inl (.v9 (cE hK (by(rw[hd];simp[*]))))⟩
 ·rw[lZ bQ]at hd;exact bY.mk ⟨_,Gh.refl _,.inl (.v9 (cE hK (by(rw[hd]))))⟩
theorem FX (P:bI):bM P W8 (Cc 2):=by
 intro args H K hc;obtain⟨c,rfl,rfl,hp,hK⟩:=hc;refine⟨cK,?_⟩;dsimp only at hp hK⊢;have hd:pU c 2=match c.getLast? with
  |some e=>decide (e.kind=2)
  |none=>false:=rfl
 obtain⟨q,hq⟩:∃x,x=(pU c 2):=⟨_,rfl⟩
 rw[←hq]at hK hd;cbv;repeat'((first|refine .mk (fun h=>?_) fun h=>?_|refine .k fun z hz=>?_|fail)<;>cbv)
 ·refine cM bQ bQ fun i l hi hl=>?_
  obtain⟨f,t,k,d⟩:=l;rw[oS bQ hl]at hd;cbv;repeat'((first|refine .mk (fun h=>?_) fun h=>?_|fail)<;>cbv)
  exact bY.mk ⟨_,Gh.refl _,.inl (.v9 (cE hK (by(rw[hd];simp[*]))))⟩;exact bY.mk ⟨_,Gh.refl _,.inl (.v9 (cE hK (by(rw[hd];simp[*]))))⟩
 ·rw[lZ bQ]at hd;exact bY.mk ⟨_,Gh.refl _,.inl (.v9 (cE hK (by(rw[hd]))))⟩
def yK:pY→Bool
 |⟨f,t,k,d⟩=>bS f && (decide (0≤d) && decide (d≤1048576)) && (if k=1 then decide (t=⟨⟨[]⟩⟩) else if k=0∨k=2 then bS t && !decide (t=f) else false)
def H8:dL:=spec (fun e:pY=>[bV e]) (fun _=>[]) (fun _=>True) (fun e=>.bl (yK e)) fun _=>[]
theorem Hg (P:bI) (hn:bK P 144 (iP (fun _=>True) bS)):bM P XE H8:=by
 intro args H K hc;obtain⟨⟨f,t,k,d⟩,rfl,rfl,hp,hK⟩:=hc;refine⟨cK,?_⟩;dsimp only at hp hK⊢;have hd:yK ⟨f,t,k,d⟩=(bS f && (decide (0≤d) && decide (d≤1048576)) && (if k=1 then decide (t=⟨⟨[]⟩⟩) else if k=0∨k=2 then bS t && !decide (t=f) else false)):=rfl;obtain⟨q,hq⟩:∃x,x=(yK ⟨f,t,k,d⟩):=⟨_,rfl⟩
 obtain⟨n,hn1⟩:∃x,x=bS f:=⟨_,rfl⟩
 obtain⟨m,hm⟩:∃x,x=(bS t):=⟨_,rfl⟩
 rw[←hq]at hK hd;rw[←hn1,←hm]at hd;cbv
 (refine ZO hn f trivial ?_;try dsimp only)
 rw[←hn1];cases n with
 |false=>
  cbv;exact bY.mk ⟨_,Gh.refl _,.inl (.v9 (cE hK (by(rw[hd];rfl))))⟩
 |true=>
  cbv;repeat'((first|refine .mk (fun h=>?_) fun h=>?_|fail)<;>cbv)
  ·exact bY.mk ⟨_,Gh.refl _,.inl (.v9 (cE hK (by(rw[hd];simp;omega))))⟩
  ·exact bY.mk ⟨_,Gh.refl _,.inl (.v9 (cE hK (by(rw[hd];simp;omega))))⟩
  ·exact bY.mk ⟨_,Gh.refl _,.inl (.v9 (cE hK (by(rw[hd];simp[*]))))⟩
  ·exact bY.mk ⟨_,Gh.refl _,.inl (.v9 (cE hK (by(rw[hd];simp[*]))))⟩
  all_goals first|exact bY.mk ⟨_,Gh.refl _,.inl (.v9 (cE hK (by(rw[hd];simp[*]))))⟩|skip
  all_goals
   (refine ZO hn t trivial ?_;try dsimp only)
   rw[←hm];cases m with
   |false=>
    cbv;exact bY.mk ⟨_,Gh.refl _,.inl (.v9 (cE hK (by(rw[hd];clear hn1 hm hq;simp[*]))))⟩
   |true=>
    cbv;repeat'((first|refine .mk (fun h=>?_) fun h=>?_|fail)<;>cbv)
    ·exact bY.mk ⟨_,Gh.refl _,.inl (.v9 (cE hK (by(rw[hd];clear hn1 hm hq;simp[*]))))⟩
    ·exact bY.mk ⟨_,Gh.refl _,.inl (.v9 (cE hK (by(rw[hd];clear hn1 hm hq;simp[*]))))⟩
def mI (holder:bH) (c:List pY) (e:pY):Int:=if yK e=false then 2 else if pU c 2 then 9 else if pU c 1=false∧¬e.frm=holder then 8 else if Gt c e.day then 6 else 0
def ID:dL:=spec (fun i:bH×List pY×pY=>[.str i.1,.sl 4 (bJ bV i.2.1),bV i.2.2]) (fun _=>[]) (fun i=>i.2.1.length≤5000) (fun i=>.i (mI i.1 i.2.1 i.2.2)) fun _=>[]
theorem Hl (P:bI) (hm:bK P 212 H8) (hb:bK P 214 (Cc 1)) (hc:bK P 213 (Cc 2)):bM P Yd ID:=by
 intro args H K hc;obtain⟨⟨holder,c,⟨f,t,k,d⟩⟩,rfl,rfl,hp,hK⟩:=hc;refine⟨cK,?_⟩;dsimp only at hp hK⊢;have hd:mI holder c ⟨f,t,k,d⟩=if yK ⟨f,t,k,d⟩=false then 2 else if pU c 2 then 9 else if pU c 1=false∧¬f=holder then 8 else if Gt c d then 6 else 0:=rfl
 have hl:Gt c d=match c.getLast? with
  |some e=>decide (d < e.day)
  |none=>false:=rfl
 obtain⟨q,hq⟩:∃q,q=mI holder c ⟨f,t,k,d⟩:=⟨_,rfl⟩
 obtain⟨q1,hq1⟩:∃q,q=yK ⟨f,t,k,d⟩:=⟨_,rfl⟩
 obtain⟨q2,hq2⟩:∃q,q=pU c 2:=⟨_,rfl⟩
 obtain⟨q3,hq3⟩:∃q,q=pU c 1:=⟨_,rfl⟩
 obtain⟨q4,hq4⟩:∃q,q=Gt c d:=⟨_,rfl⟩
 rw[←hq]at hK hd;rw[←hq1,←hq2,←hq3,←hq4]at hd;rw[←hq4]at hl;cbv
 (refine ZO hm (⟨f,t,k,d⟩:pY) trivial ?_;try dsimp only)
 rw[←hq1];cases q1 with
 |false=>
  cbv;exact bY.mk ⟨_,Gh.refl _,.inl (.v9 (fX hK (by(rw[hd];rfl))))⟩
 |true=>
  cbv
  (refine ZO hc c hp ?_;try dsimp only)
  rw[←hq2];cases q2 with
  |true=>
   cbv;exact bY.mk ⟨_,Gh.refl _,.inl (.v9 (fX hK (by(rw[hd];rfl))))⟩
  |false=>
   cbv
   (refine ZO hb c hp ?_;try dsimp only)
   rw[←hq3];cases q3 with
   |true=>
    cbv;repeat'((first|refine .mk (fun h=>?_) fun h=>?_|refine .k fun z hz=>?_|fail)<;>cbv)
    ·refine cM bQ bQ fun i l hi hli=>?_
     obtain⟨f',t',k',d'⟩:=l;rw[oS bQ hli]at hl;dsimp only at hl;cbv;repeat'((first|refine .mk (fun h=>?_) fun h=>?_|fail)<;>cbv)
     ·rw[aH h]at hl;exact bY.mk ⟨_,Gh.refl _,.inl (.v9 (fX hK (by(rw[hd,hl];clear hd hq hq1 hq2 hq3 hq4;simp[*]))))⟩
     ·rw[aG (by omega)]at hl;exact bY.mk ⟨_,Gh.refl _,.inl (.v9 (fX hK (by(rw[hd,hl];clear hd hq hq1 hq2 hq3 hq4;simp[*]))))⟩
    ·rw[lZ bQ]at hl;dsimp only at hl;exact bY.mk ⟨_,Gh.refl _,.inl (.v9 (fX hK (by(rw[hd,hl];clear hd hq hq1 hq2 hq3 hq4;simp[*]))))⟩
   |false=>
    cbv;repeat'((first|refine .mk (fun h=>?_) fun h=>?_|refine .k fun z hz=>?_|fail)<;>cbv)
    ·refine cM bQ bQ fun i l hi hli=>?_
     obtain⟨f',t',k',d'⟩:=l;rw[oS bQ hli]at hl;dsimp only at hl;cbv;repeat'((first|refine .mk (fun h=>?_) fun h=>?_|fail)<;>cbv)
     ·rw[aH h]at hl;exact bY.mk ⟨_,Gh.refl _,.inl (.v9 (fX hK (by(rw[hd,hl];clear hd hq hq1 hq2 hq3 hq4;simp[*]))))⟩
     ·rw[aG (by omega)]at hl;exact bY.mk ⟨_,Gh.refl _,.inl (.v9 (fX hK (by(rw[hd,hl];clear hd hq hq1 hq2 hq3 hq4;simp[*]))))⟩
    ·rw[lZ bQ]at hl;dsimp only at hl;exact bY.mk ⟨_,Gh.refl _,.inl (.v9 (fX hK (by(rw[hd,hl];clear hd hq hq1 hq2 hq3 hq4;simp[*]))))⟩
    ·exact bY.mk ⟨_,Gh.refl _,.inl (.v9 (fX hK (by(rw[hd];clear hd hq hq1 hq2 hq3 hq4;simp[*]))))⟩
def iM (h:bH) (ahead:List pY):List pY→bH×Int×Int
 |[]=>(h,Int.ofNat ahead.length,0)
 |e :: r=>if mI h ahead e=0 then iM e.to (ahead++[e]) r else (⟨⟨[]⟩⟩,Int.ofNat ahead.length,mI h ahead e)
def lY (first:bH) (l:List pY):bH×Int×Int:=if bS first=false then (⟨⟨[]⟩⟩,0,1) else iM first [] l
theorem GX {c:List pY}{h:bH}{k:Nat}{e:pY}(he:c[k]?=some e) (hw:mI h (c.take k) e=0):iM h (c.take k) (c.drop k)=iM e.to (c.take (k+1)) (c.drop (k+1)):=by
 obtain⟨hk,rfl⟩:=aA.1 he;rw[List.drop_eq_getElem_cons hk,iM,aF hw,List.take_succ_eq_append_getElem hk]
theorem Fj {c:List pY}{h:bH}{k:Nat}{e:pY}(he:c[k]?=some e) (hw:¬mI h (c.take k) e=0):iM h (c.take k) (c.drop k)=(⟨⟨[]⟩⟩,Int.ofNat k,mI h (c.take k) e):=by
 obtain⟨hk,rfl⟩:=aA.1 he;rw[List.drop_eq_getElem_cons hk,iM,aE hw,aS,Nat.min_eq_left (Nat.le_of_lt hk)]
theorem FU {c:List pY}{h:bH}{k:Nat}(hk:k=c.length):iM h (c.take k) (c.drop k)=(h,Int.ofNat k,0):=by
 rw[List.drop_eq_nil_of_le (by omega),iM,aS,hk,Nat.min_self]
def WW:bH×Int×Int→AV
 |(s,i,e)=>.tup [.str s,.i i,.i e]
def Ha:dL:=spec (fun i:bH×List pY=>[.str i.1,.sl 4 (bJ bV i.2)]) (fun _=>[]) (fun i=>i.2.length≤5000) (fun i=>WW (lY i.1 i.2)) fun _=>[]
theorem HG (P:bI) (hn:bK P 144 (iP (fun _=>True) bS)) (hw:bK P 205 ID):bM P Xq Ha:=by
 intro args H K hc;obtain⟨⟨first,c⟩,rfl,rfl,hp,hK⟩:=hc;refine⟨cK,?_⟩;dsimp only at hp hK⊢;have hd:lY first c=if bS first=false then (⟨⟨[]⟩⟩,0,1) else iM first (c.take 0) (c.drop 0):=rfl
 obtain⟨q,hq⟩:∃q,q=lY first c:=⟨_,rfl⟩
 obtain⟨n,hn1⟩:∃q,q=bS first:=⟨_,rfl⟩
 rw[←hq]at hK hd;rw[←hn1]at hd;cbv;refine T4 (ι:=Empty) 0 (fun e=>nomatch e) (fun e=>nomatch e) rfl ?_ (fun e=>nomatch e);cbv
 (refine ZO hn first trivial ?_;try dsimp only)
 rw[←hn1];cases n with
 |false=>
  rw[aF rfl]at hd;subst hd;cbv;exact bY.mk ⟨_,Gh.refl _,.inl (.v9 hK)⟩
 |true=>
  rw[aE (by decide)]at hd;cbv;repeat'((first|refine .k fun z hz=>?_|fail)<;>cbv)
  refine bU [] (fun p:{ p:Nat×bH // p.1≤c.length∧q=iM p.2 (c.take p.1) (c.drop p.1) }=>[(14,.i (nI p.1.1)),(4,.str p.1.2),(5,.i 0),(6,.i 0)]) (fun _=>[]) (fun p=>fO 5001 p.1.1) ⟨(0,first),aI _,hd⟩ ?_;rintro ⟨⟨k,hh⟩,hk,hd⟩;dsimp only at hk hd⊢;cbv;repeat'((first|refine .y fun h=>?_|refine .mk (fun h=>?_) fun h=>?_|refine .k fun z hz=>?_|refine .l fun ys hys hyl=>?_|fail)<;>cbv)
  ·obtain rfl:ys=c.take k:=by rw[hys];simp
   refine cM bQ bQ fun i l hi hl=>?_
   obtain rfl:k=i:=bQ;obtain⟨f',t',k',d'⟩:=l;have e1:=GX (h:=hh) hl;have e2:=Fj (h:=hh) hl;cbv;obtain⟨w,hw1⟩:∃w,w=mI hh (c.take k) ⟨f',t',k',d'⟩:=⟨_,rfl⟩
   rw[←hw1]at e1 e2
   (refine ZO hw (hh,c.take k,(⟨f',t',k',d'⟩:pY)) (by dsimp only;rw[aS];omega) ?_;try dsimp only)
   rw[←hw1];cbv;repeat'((first|refine .e ?_|refine .n fun h=>?_|refine .mk (fun h=>?_) fun h=>?_|refine .k fun z hz=>?_|fail)<;>cbv)
   ·subst h;obtain rfl:z=nI (k+1):=bQ;exact bN ⟨(k+1,t'),by exact bQ,hd.trans (e1 rfl)⟩ (bO bQ)
   ·obtain rfl:=hd.trans (e2 h);exact bY.mk ⟨_,Gh.refl _,.inl (.v9 hK)⟩
  ·obtain rfl:k=c.length:=bQ;obtain rfl:z=nI c.length:=bQ;rw[FU rfl]at hd;subst hd;exact bY.mk ⟨_,Gh.refl _,.inl (.v9 hK)⟩
def El:dL:=spec (fun i:bH×List pY=>[.str i.1,.sl 4 (bJ bV i.2)]) (fun _=>[]) (fun i=>i.2.length≤5000) (fun i=>.str (lY i.1 i.2).1) fun _=>[]
theorem D4 (P:bI) (hc:bK P 186 Ha):bM P WV El:=by
 intro args H K hc;obtain⟨⟨first,c⟩,rfl,rfl,hp,hK⟩:=hc;refine⟨cK,?_⟩;dsimp only at hp hK⊢;obtain⟨⟨h,i,e⟩,hq⟩:∃q,q=lY first c:=⟨_,rfl⟩
 rw[←hq]at hK;dsimp only at hK;cbv
 (refine ZO hc (first,c) hp ?_;try dsimp only)
 rw[←hq];cbv;exact bY.mk ⟨_,Gh.refl _,.inl (.v9 (OQ hK (by rfl)))⟩
def yG (s:Int):Og→Og
 |⟨_,h,c⟩=>⟨s,h,c⟩
def tG (idx:Int) (f:Og→Og):Br→Br
 |⟨b,st,o0,o1,o2⟩=>⟨b,st,bif fB idx 0 then f o0 else o0,bif fB idx 1 then f o1 else o1,bif fB idx 2 then f o2 else o2⟩
def Dw (st:Int):Br→Br
 |⟨b,_,o0,o1,o2⟩=>⟨b,st,yG 2 o0,yG 2 o1,yG 2 o2⟩
def WG (st:Int):Nat→Br→Br
 |0,⟨b,_,o0,o1,o2⟩=>⟨b,st,o0,o1,o2⟩
 |1,⟨b,_,o0,o1,o2⟩=>⟨b,st,yG 2 o0,o1,o2⟩
 |2,⟨b,_,o0,o1,o2⟩=>⟨b,st,yG 2 o0,yG 2 o1,o2⟩
 |_,⟨b,_,o0,o1,o2⟩=>⟨b,st,yG 2 o0,yG 2 o1,yG 2 o2⟩
def Tx:dL:=spec (fun i:Br×Int=>[.ptr 0 0,.i i.2]) (fun i=>rI i.1) (fun _=>True) (fun _=>.tup []) fun i=>rI (Dw i.2 i.1)
theorem Of (P:bI):bM P X8 Tx:=by
 intro args H K hc;obtain⟨⟨y,st⟩,rfl,rfl,hp,hK⟩:=hc;refine⟨cK,?_⟩;dsimp only at hp hK⊢;obtain⟨⟨nq1,cq1,sq1,frm1,to1,bq1,pq1,iq1,lq1⟩,st1,⟨sa1,ha1,ca1⟩,⟨sb1,hb1,cb1⟩,⟨sc1,hc1,cc1⟩⟩:=y;cbv;refine bU [] (fun p:{ k:Nat // k≤3 }=>[(9,.i (nI p.1))]) (fun p=>rI (WG st p.1 ⟨⟨nq1,cq1,sq1,frm1,to1,bq1,pq1,iq1,lq1⟩,st1,⟨sa1,ha1,ca1⟩,⟨sb1,hb1,cb1⟩,⟨sc1,hc1,cc1⟩⟩)) (fun p=>fO 3 p.1) ⟨0,by decide⟩ ?_;rintro ⟨k,hk⟩;dsimp only at hk⊢;have hk4:k=0∨k=1∨k=2∨k=3:=by omega
 rcases hk4 with rfl|rfl|rfl|rfl
 ·cbv;repeat'((first|refine .n fun h=>?_|refine .y fun h=>?_|refine .k fun z hz=>?_|refine .o ?_|fail)<;>cbv)
  obtain rfl:z=nI 1:=bQ;exact bN ⟨1,by decide⟩ (bO (by decide))
 ·cbv;repeat'((first|refine .n fun h=>?_|refine .y fun h=>?_|refine .k fun z hz=>?_|refine .o ?_|fail)<;>cbv)
  obtain rfl:z=nI 2:=bQ;exact bN ⟨2,by decide⟩ (bO (by decide))
 ·cbv;repeat'((first|refine .y fun h=>?_|refine .k fun z hz=>?_|refine .o ?_|fail)<;>cbv)
  obtain rfl:z=nI 3:=bQ;exact bN ⟨3,by decide⟩ (bO (by decide))
 ·cbv;repeat'((first|refine .n fun h=>?_|fail)<;>cbv)
  (refine .q9 ?_;cbv;exact .inl (.f9 hK))
def BU (L:List Br) (s:bH) (f:Br→Br):List Br:=match rN L s with
 |some i=>match L[i]? with
  |some b=>L.set i (f b)
  |none=>L
 |none=>L
theorem gW {L:List Br}{s:bH}{i:Nat}{b:Br}(f:Br→Br) (h:rN L s=some i) (hb:L[i]?=some b):BU L s f=L.set i (f b):=by unfold BU;rw[h];dsimp only;rw[hb]
def fZ (L:List Br) (a:Ak) (f:Br→Br):List Br:=if eI L a=0 then BU L a.bill f else L
theorem lG {L:List Br}{a:Ak}{i:Nat}{b:Br}(h:eI L a=0) (hi:rN L a.bill=some i) (hb:L[i]?=some b):mH b a=0:=by
 unfold eI at h;rw[hi]at h;dsimp only at h;rw[hb]at h;exact h
theorem jZ {L:List Br}{a:Ak}(h:eI L a=0) (hi:rN L a.bill=none):False:=by
 unfold eI at h;rw[hi]at h;exact absurd h (show ¬(4:Int)=0 by decide)
theorem mV {b:Br}{a:Ak}(h:mH b a=0):a.least≤a.index∧a.index < 3:=by
 unfold mH at h
 split at h
 ·exact absurd h (by decide)
 ·next hk=>unfold k1 at hk;simp at hk;omega
def Vq (args:Ak→List AV) (f:Ak→Br→Br) (p:Ak→Prop):dL:=spec (fun i:Rg×Ak=>args i.2) (fun i=>lR i.1) (fun i=>(∀b∈i.1.bills,qR b)∧p i.2) (fun i=>.i (eI i.1.bills i.2)) fun i=>lR ⟨i.1.carrier,fZ i.1.bills i.2 (f i.2)⟩
def JD (a:Ak):Br→Br:=tG a.index (yG 3)
def MK:dL:=Vq (fun a=>[.ptr 0 0,.str a.bill,.i a.index,.str a.by_]) JD fun a=>a.least=0∧a.state=0∧a.day=0∧a.dated=false∧a.wrong=false
theorem Lm (P:bI) (ha:bK P 78 K3):bM P YV MK:=by
 intro args H K hc;obtain⟨⟨⟨carrier,L⟩,⟨bill,index,least,by_,state,day,dated,wrong⟩⟩,rfl,rfl,hp,hK⟩:=hc;refine⟨cK,?_⟩;dsimp only at hp hK⊢;obtain⟨hp,rfl,rfl,rfl,rfl,rfl⟩:=hp;obtain⟨e,he⟩:∃e,e=eI L ⟨bill,index,0,by_,0,0,false,false⟩:=⟨_,rfl⟩
 obtain⟨L',hL'⟩:∃L',L'=fZ L ⟨bill,index,0,by_,0,0,false,false⟩ (JD ⟨bill,index,0,by_,0,0,false,false⟩):=⟨_,rfl⟩
 rw[←he,←hL']at hK;unfold fZ at hL';dsimp only at hL';rw[←he]at hL';cbv
 (refine eW ha (⟨carrier,L⟩,⟨bill,index,0,by_,0,0,false,false⟩) [0,1] hp ?_;try dsimp only)
 rw[←he];cbv;repeat'((first|refine .mk (fun h=>?_) fun h=>?_|fail)<;>cbv)
 ·rw[aF h]at hL';refine fC (fun b:Br=>b.b.number) (fun _=>rfl) (fun i y hai hy hky=>?_) (fun hai=>?_)<;>dsimp only at *
  ·have hz:=lG (he.symm.trans h) hai hy;have hk:=mV hz;clear hz;rw[gW _ hai hy]at hL';dsimp only at hk;have hk3:index=0∨index=1∨index=2:=by omega
   obtain⟨⟨nq1,cq1,sq1,frm1,to1,bq1,pq1,iq1,lq1⟩,st1,⟨sa1,ha1,ca1⟩,⟨sb1,hb1,cb1⟩,⟨sc1,hc1,cc1⟩⟩:=y;rcases hk3 with rfl|rfl|rfl
   ·obtain rfl:L'=L.set i ⟨⟨nq1,cq1,sq1,frm1,to1,bq1,pq1,iq1,lq1⟩,st1,⟨3,ha1,ca1⟩,⟨sb1,hb1,cb1⟩,⟨sc1,hc1,cc1⟩⟩:=hL';cbv;repeat'((first|refine .n fun h=>?_|refine .o ?_|fail)<;>cbv)
    (refine .r9 (Gh.back 1 ([2,3,4,5]) fM ⟨⟨nq1,cq1,sq1,frm1,to1,bq1,pq1,iq1,lq1⟩,st1,⟨3,ha1,ca1⟩,⟨sb1,hb1,cb1⟩,⟨sc1,hc1,cc1⟩⟩ rfl hy) ?_;cbv;exact .inl (.f9 hK))
   ·obtain rfl:L'=L.set i ⟨⟨nq1,cq1,sq1,frm1,to1,bq1,pq1,iq1,lq1⟩,st1,⟨sa1,ha1,ca1⟩,⟨3,hb1,cb1⟩,⟨sc1,hc1,cc1⟩⟩:=hL';cbv;repeat'((first|refine .n fun h=>?_|refine .y fun h=>?_|refine .o ?_|fail)<;>cbv)
    (refine .r9 (Gh.back 1 ([2,3,4,5]) fM ⟨⟨nq1,cq1,sq1,frm1,to1,bq1,pq1,iq1,lq1⟩,st1,⟨sa1,ha1,ca1⟩,⟨3,hb1,cb1⟩,⟨sc1,hc1,cc1⟩⟩ rfl hy) ?_;cbv;exact .inl (.f9 hK))
   ·obtain rfl:L'=L.set i ⟨⟨nq1,cq1,sq1,frm1,to1,bq1,pq1,iq1,lq1⟩,st1,⟨sa1,ha1,ca1⟩,⟨sb1,hb1,cb1⟩,⟨3,hc1,cc1⟩⟩:=hL';cbv;repeat'((first|refine .y fun h=>?_|refine .o ?_|fail)<;>cbv)
    (refine .r9 (Gh.back 1 ([2,3,4,5]) fM ⟨⟨nq1,cq1,sq1,frm1,to1,bq1,pq1,iq1,lq1⟩,st1,⟨sa1,ha1,ca1⟩,⟨sb1,hb1,cb1⟩,⟨3,hc1,cc1⟩⟩ rfl hy) ?_;cbv;exact .inl (.f9 hK))
  ·exact(jZ (he.symm.trans h) hai).elim
 ·rw[aE h]at hL';subst hL'
  (refine .q9 ?_;cbv;exact .inl (.f9 hK))
def PG (a:Ak):Br→Br:=tG a.index (yG 0)
def A4:dL:=Vq (fun a=>[.ptr 0 0,.str a.bill,.i a.index,.str a.by_,.i a.day]) PG fun a=>a.least=0∧a.state=3∧a.dated=true∧a.wrong=false
theorem D7 (P:bI) (ha:bK P 78 K3):bM P Xn A4:=by
 intro args H K hc;obtain⟨⟨⟨carrier,L⟩,⟨bill,index,least,by_,state,day,dated,wrong⟩⟩,rfl,rfl,hp,hK⟩:=hc;refine⟨cK,?_⟩;dsimp only at hp hK⊢;obtain⟨hp,rfl,rfl,rfl,rfl⟩:=hp;obtain⟨e,he⟩:∃e,e=eI L ⟨bill,index,0,by_,3,day,true,false⟩:=⟨_,rfl⟩
 obtain⟨L',hL'⟩:∃L',L'=fZ L ⟨bill,index,0,by_,3,day,true,false⟩ (PG ⟨bill,index,0,by_,3,day,true,false⟩):=⟨_,rfl⟩
 rw[←he,←hL']at hK;unfold fZ at hL';dsimp only at hL';rw[←he]at hL';cbv
 (refine eW ha (⟨carrier,L⟩,⟨bill,index,0,by_,3,day,true,false⟩) [0,1] hp ?_;try dsimp only)
 rw[←he];cbv;repeat'((first|refine .mk (fun h=>?_) fun h=>?_|fail)<;>cbv)
 ·rw[aF h]at hL';refine fC (fun b:Br=>b.b.number) (fun _=>rfl) (fun i y hai hy hky=>?_) (fun hai=>?_)<;>dsimp only at *
  ·have hz:=lG (he.symm.trans h) hai hy;have hk:=mV hz;clear hz;rw[gW _ hai hy]at hL';dsimp only at hk;have hk3:index=0∨index=1∨index=2:=by omega
   obtain⟨⟨nq1,cq1,sq1,frm1,to1,bq1,pq1,iq1,lq1⟩,st1,⟨sa1,ha1,ca1⟩,⟨sb1,hb1,cb1⟩,⟨sc1,hc1,cc1⟩⟩:=y;rcases hk3 with rfl|rfl|rfl
   ·obtain rfl:L'=L.set i ⟨⟨nq1,cq1,sq1,frm1,to1,bq1,pq1,iq1,lq1⟩,st1,⟨0,ha1,ca1⟩,⟨sb1,hb1,cb1⟩,⟨sc1,hc1,cc1⟩⟩:=hL';cbv;repeat'((first|refine .n fun h=>?_|refine .o ?_|fail)<;>cbv)
    (refine .r9 (Gh.back 1 ([2,3,4,5]) fM ⟨⟨nq1,cq1,sq1,frm1,to1,bq1,pq1,iq1,lq1⟩,st1,⟨0,ha1,ca1⟩,⟨sb1,hb1,cb1⟩,⟨sc1,hc1,cc1⟩⟩ rfl hy) ?_;cbv;exact .inl (.f9 hK))
   ·obtain rfl:L'=L.set i ⟨⟨nq1,cq1,sq1,frm1,to1,bq1,pq1,iq1,lq1⟩,st1,⟨sa1,ha1,ca1⟩,⟨0,hb1,cb1⟩,⟨sc1,hc1,cc1⟩⟩:=hL';cbv;repeat'((first|refine .n fun h=>?_|refine .y fun h=>?_|refine .o ?_|fail)<;>cbv)
    (refine .r9 (Gh.back 1 ([2,3,4,5]) fM ⟨⟨nq1,cq1,sq1,frm1,to1,bq1,pq1,iq1,lq1⟩,st1,⟨sa1,ha1,ca1⟩,⟨0,hb1,cb1⟩,⟨sc1,hc1,cc1⟩⟩ rfl hy) ?_;cbv;exact .inl (.f9 hK))
   ·obtain rfl:L'=L.set i ⟨⟨nq1,cq1,sq1,frm1,to1,bq1,pq1,iq1,lq1⟩,st1,⟨sa1,ha1,ca1⟩,⟨sb1,hb1,cb1⟩,⟨0,hc1,cc1⟩⟩:=hL';cbv;repeat'((first|refine .y fun h=>?_|refine .o ?_|fail)<;>cbv)
    (refine .r9 (Gh.back 1 ([2,3,4,5]) fM ⟨⟨nq1,cq1,sq1,frm1,to1,bq1,pq1,iq1,lq1⟩,st1,⟨sa1,ha1,ca1⟩,⟨sb1,hb1,cb1⟩,⟨0,hc1,cc1⟩⟩ rfl hy) ?_;cbv;exact .inl (.f9 hK))
  ·exact(jZ (he.symm.trans h) hai).elim
 ·rw[aE h]at hL';subst hL'
  (refine .q9 ?_;cbv;exact .inl (.f9 hK))
def S4 (a:Ak):Br→Br:=fun b=>tG a.index (yG 1) (Dw 1 b)
def Qm (L:List Br) (a:Ak):List bH:=if eI L a=0 then (RV L a.bill).1.boxes else []
def sU:dL:=spec (fun i:Rg×Ak=>[.ptr 0 0,.str i.2.bill,.i i.2.index,.str i.2.by_,.i i.2.day]) (fun i=>lR i.1) (fun i=>(∀b∈i.1.bills,qR b∧yS b.b)∧i.2.least=0∧i.2.state=0∧i.2.dated=true∧i.2.wrong=false) (fun i=>.tup [.sl 1 (bJ .str (Qm i.1.bills i.2)),.i (eI i.1.bills i.2)]) fun i=>lR ⟨i.1.carrier,fZ i.1.bills i.2 (S4 i.2)⟩
theorem AG (P:bI) (hend:bK P 147 Tx) (hcl:bK P 87 (mJ 1 16)) (ha:bK P 78 K3):bM P WQ sU:=by
 intro args H K hc;obtain⟨⟨⟨carrier,L⟩,⟨bill,index,least,by_,state,day,dated,wrong⟩⟩,rfl,rfl,hp,hK⟩:=hc;refine⟨cK,?_⟩;dsimp only at hp hK⊢;obtain⟨hp,rfl,rfl,rfl,rfl⟩:=hp;obtain⟨e,he⟩:∃e,e=eI L ⟨bill,index,0,by_,0,day,true,false⟩:=⟨_,rfl⟩
 obtain⟨L',hL'⟩:∃L',L'=fZ L ⟨bill,index,0,by_,0,day,true,false⟩ (S4 ⟨bill,index,0,by_,0,day,true,false⟩):=⟨_,rfl⟩
 obtain⟨l,hl⟩:∃l,l=Qm L ⟨bill,index,0,by_,0,day,true,false⟩:=⟨_,rfl⟩
 rw[←he,←hL',←hl]at hK;unfold Qm at hl;dsimp only at hl;rw[←he]at hl;unfold fZ at hL';dsimp only at hL';rw[←he]at hL';cbv
 (refine eW ha (⟨carrier,L⟩,⟨bill,index,0,by_,0,day,true,false⟩) [0,1] (fun b hb=>(hp b hb).1) ?_;try dsimp only)
 rw[←he];cbv;repeat'((first|refine .mk (fun h=>?_) fun h=>?_|fail)<;>cbv)
 ·rw[aF h]at hL' hl;rw[h]at hK;refine fC (fun b:Br=>b.b.number) (fun _=>rfl) (fun i y hai hy hky=>?_) (fun hai=>?_)<;>dsimp only at *
  ·have hz:=lG (he.symm.trans h) hai hy;have hk:=mV hz;clear hz;rw[gW _ hai hy]at hL';dsimp only at hk;have hk3:index=0∨index=1∨index=2:=by omega
   rw[JV hai hy]at hl;have hob:=(hp y (aC hy)).2;unfold yS at hob;obtain⟨⟨nq1,cq1,sq1,frm1,to1,bq1,pq1,iq1,lq1⟩,st1,⟨sa1,ha1,ca1⟩,⟨sb1,hb1,cb1⟩,⟨sc1,hc1,cc1⟩⟩:=y;dsimp only at hl hob;subst l;rcases hk3 with rfl|rfl|rfl
   ·obtain rfl:L'=L.set i ⟨⟨nq1,cq1,sq1,frm1,to1,bq1,pq1,iq1,lq1⟩,1,⟨1,ha1,ca1⟩,⟨2,hb1,cb1⟩,⟨2,hc1,cc1⟩⟩:=hL';cbv
    (refine eW hend (⟨⟨nq1,cq1,sq1,frm1,to1,bq1,pq1,iq1,lq1⟩,st1,⟨sa1,ha1,ca1⟩,⟨sb1,hb1,cb1⟩,⟨sc1,hc1,cc1⟩⟩,1) [2,3,4,5] trivial ?_;try dsimp only)
    cbv;repeat'((first|refine .n fun h=>?_|refine .o ?_|fail)<;>cbv)
    (refine ZO hcl _ ⟨by rw[cC];unfold maxLen;omega,by rw[cC];omega⟩ ?_;try dsimp only)
    cbv
    (refine .r9 (Gh.back 1 ([2,3,4,5]) fM ⟨⟨nq1,cq1,sq1,frm1,to1,bq1,pq1,iq1,lq1⟩,1,⟨1,ha1,ca1⟩,⟨2,hb1,cb1⟩,⟨2,hc1,cc1⟩⟩ rfl hy) ?_;cbv;exact .inl (.f9 hK))
   ·obtain rfl:L'=L.set i ⟨⟨nq1,cq1,sq1,frm1,to1,bq1,pq1,iq1,lq1⟩,1,⟨2,ha1,ca1⟩,⟨1,hb1,cb1⟩,⟨2,hc1,cc1⟩⟩:=hL';cbv
    (refine eW hend (⟨⟨nq1,cq1,sq1,frm1,to1,bq1,pq1,iq1,lq1⟩,st1,⟨sa1,ha1,ca1⟩,⟨sb1,hb1,cb1⟩,⟨sc1,hc1,cc1⟩⟩,1) [2,3,4,5] trivial ?_;try dsimp only)
    cbv;repeat'((first|refine .n fun h=>?_|refine .y fun h=>?_|refine .o ?_|fail)<;>cbv)
    (refine ZO hcl _ ⟨by rw[cC];unfold maxLen;omega,by rw[cC];omega⟩ ?_;try dsimp only)
    cbv
    (refine .r9 (Gh.back 1 ([2,3,4,5]) fM ⟨⟨nq1,cq1,sq1,frm1,to1,bq1,pq1,iq1,lq1⟩,1,⟨2,ha1,ca1⟩,⟨1,hb1,cb1⟩,⟨2,hc1,cc1⟩⟩ rfl hy) ?_;cbv;exact .inl (.f9 hK))
   ·obtain rfl:L'=L.set i ⟨⟨nq1,cq1,sq1,frm1,to1,bq1,pq1,iq1,lq1⟩,1,⟨2,ha1,ca1⟩,⟨2,hb1,cb1⟩,⟨1,hc1,cc1⟩⟩:=hL';cbv
    (refine eW hend (⟨⟨nq1,cq1,sq1,frm1,to1,bq1,pq1,iq1,lq1⟩,st1,⟨sa1,ha1,ca1⟩,⟨sb1,hb1,cb1⟩,⟨sc1,hc1,cc1⟩⟩,1) [2,3,4,5] trivial ?_;try dsimp only)
    cbv;repeat'((first|refine .y fun h=>?_|refine .o ?_|fail)<;>cbv)
    (refine ZO hcl _ ⟨by rw[cC];unfold maxLen;omega,by rw[cC];omega⟩ ?_;try dsimp only)
    cbv
    (refine .r9 (Gh.back 1 ([2,3,4,5]) fM ⟨⟨nq1,cq1,sq1,frm1,to1,bq1,pq1,iq1,lq1⟩,1,⟨2,ha1,ca1⟩,⟨2,hb1,cb1⟩,⟨1,hc1,cc1⟩⟩ rfl hy) ?_;cbv;exact .inl (.f9 hK))
  ·exact(jZ (he.symm.trans h) hai).elim
 ·rw[aE h]at hL' hl;subst hL';subst hl
  (refine .q9 ?_;cbv;exact .inl (.g9 hK))
def tY (f t:bH) (d:Int):Og→Og
 |⟨s,h,c⟩=>⟨s,(lY h [⟨f,t,0,d⟩]).1,c++[⟨f,t,0,d⟩]⟩
def hY (by_ to:bH):Bool:=!bS to || decide (to=by_)
def Bo:dL:=spec (fun i:Rg×Ak×bH=>[.ptr 0 0,.str i.2.1.bill,.i i.2.1.index,.str i.2.1.by_,.str i.2.2,.i i.2.1.day]) (fun i=>lR i.1) (fun i=>(∀b∈i.1.bills,qR b)∧i.2.1.least=-1∧i.2.1.state=0∧i.2.1.dated=true∧i.2.1.wrong=hY i.2.1.by_ i.2.2) (fun i=>.i (eI i.1.bills i.2.1)) fun i=>lR ⟨i.1.carrier,fZ i.1.bills i.2.1 (tG i.2.1.index (tY i.2.1.by_ i.2.2 i.2.1.day))⟩
def gB {α:Type}:Nat→α→α→α→α→α
 |0,a,_,_,_=>a
 |1,_,b,_,_=>b
 |2,_,_,c,_=>c
 |_,_,_,_,d=>d
theorem mN {idx k:Int}(h:idx=-1∨idx=k):fB idx k=true:=by unfold fB;rcases h with h|h<;>rw[aH h]<;>simp
theorem Cg {L:List Br}{a:Ak}(hw:a.wrong=true):eI L a≠0:=by
 unfold eI
 split
 ·split
  ·unfold mH;have h2:k2 a=true:=by unfold k2;rw[hw];rfl
   rw[h2,aF rfl]
   split
   ·exact(by decide:(3:Int)≠0)
   ·exact(by decide:(1:Int)≠0)
  ·exact(by decide:(4:Int)≠0)
 ·exact(by decide:(4:Int)≠0)
theorem Dk (P:bI) (hn:bK P 144 (iP (fun _=>True) bS)) (ha:bK P 78 K3) (hh:bK P 145 El):bM P WK Bo:=by
 intro args H K hc;obtain⟨⟨⟨carrier,L⟩,⟨bill,index,least,by_,state,day,dated,wrong⟩,to⟩,rfl,rfl,hp,hK⟩:=hc;refine⟨cK,?_⟩;dsimp only at hp hK⊢;obtain⟨hp,rfl,rfl,rfl,hwr⟩:=hp;unfold hY at hwr;obtain⟨e,he⟩:∃e,e=eI L ⟨bill,index,-1,by_,0,day,true,wrong⟩:=⟨_,rfl⟩
 obtain⟨L',hL'⟩:∃L',L'=fZ L ⟨bill,index,-1,by_,0,day,true,wrong⟩ (tG index (tY by_ to day)):=⟨_,rfl⟩
 obtain⟨n,hn1⟩:∃n,n=bS to:=⟨_,rfl⟩
 rw[←he,←hL']at hK;rw[←hn1]at hwr;unfold fZ at hL';dsimp only at hL';rw[←he]at hL';cbv
 (refine ZO hn to trivial ?_;try dsimp only)
 rw[←hn1];have hw3:(n=false∧wrong=true)∨(n=true∧to=by_∧wrong=true)∨(n=true∧¬to=by_∧wrong=false):=by
  rw[hwr];cases n<;>by_cases ht:to=by_<;>simp[ht]
 clear hwr;obtain⟨q0,hq0⟩:∃q,q=fB index 0:=⟨_,rfl⟩
 obtain⟨q1,hq1⟩:∃q,q=fB index 1:=⟨_,rfl⟩
 obtain⟨q2,hq2⟩:∃q,q=fB index 2:=⟨_,rfl⟩
 rcases hw3 with ⟨rfl,rfl⟩|⟨rfl,ht,rfl⟩|⟨rfl,ht,rfl⟩
 ·have hne:=Cg (L:=L) (a:=⟨bill,index,-1,by_,0,day,true,true⟩) rfl;rw[←he]at hne;rw[aE hne]at hL';rw[hL']at hK;cbv
  (refine eW ha (⟨carrier,L⟩,⟨bill,index,-1,by_,0,day,true,true⟩) [0,1] hp ?_;try dsimp only)
  rw[←he];cbv;repeat'((first|refine .n fun h=>?_|fail)<;>cbv)
  (refine .q9 ?_;cbv;exact .inl (.f9 hK))
 ·have hne:=Cg (L:=L) (a:=⟨bill,index,-1,by_,0,day,true,true⟩) rfl;rw[←he]at hne;rw[aE hne]at hL';rw[hL']at hK;cbv;repeat'((first|refine .mk (fun h=>?_) fun h=>?_|fail)<;>cbv)
  ·(refine eW ha (⟨carrier,L⟩,⟨bill,index,-1,by_,0,day,true,true⟩) [0,1] hp ?_;try dsimp only)
   rw[←he];cbv;repeat'((first|refine .n fun h=>?_|fail)<;>cbv)
   (refine .q9 ?_;cbv;exact .inl (.f9 hK))
  ·exact(h ht).elim
 ·cbv;repeat'((first|refine .mk (fun h=>?_) fun h=>?_|fail)<;>cbv)
  ·exact(ht h).elim
  ·(refine eW ha (⟨carrier,L⟩,⟨bill,index,-1,by_,0,day,true,false⟩) [0,1] hp ?_;try dsimp only)
   rw[←he];cbv;repeat'((first|refine .mk (fun h=>?_) fun h=>?_|fail)<;>cbv)
   ·rw[aF ‹e=0›]at hL';rw[‹e=0›]at hK;refine fC (fun b:Br=>b.b.number) (fun _=>rfl) (fun i y hai hy hky=>?_) (fun hai=>?_)<;>dsimp only at *
    ·rw[gW _ hai hy]at hL';have hch:=hp y (aC hy);obtain⟨⟨nq1,cq1,sq1,frm1,to1,bq1,pq1,iq1,lq1⟩,st1,⟨sa1,ha1,ca1⟩,⟨sb1,hb1,cb1⟩,⟨sc1,hc1,cc1⟩⟩:=y;unfold qR at hch;dsimp only at hch;obtain⟨hch0,hch1,hch2⟩:=hch;obtain⟨⟨ux,xh,xc⟩,hx⟩:∃o,o=bif q0 then tY by_ to day ⟨sa1,ha1,ca1⟩ else ⟨sa1,ha1,ca1⟩:=⟨_,rfl⟩
     obtain⟨⟨uy,yh,yc⟩,hyy⟩:∃o,o=bif q1 then tY by_ to day ⟨sb1,hb1,cb1⟩ else ⟨sb1,hb1,cb1⟩:=⟨_,rfl⟩
     obtain⟨⟨uz,zh,zc⟩,hzz⟩:∃o,o=bif q2 then tY by_ to day ⟨sc1,hc1,cc1⟩ else ⟨sc1,hc1,cc1⟩:=⟨_,rfl⟩
     obtain⟨⟨m0,mi0,me0⟩,hm0⟩:∃m,m=lY ha1 [⟨by_,to,0,day⟩]:=⟨_,rfl⟩
     obtain⟨⟨m1,mi1,me1⟩,hm1⟩:∃m,m=lY hb1 [⟨by_,to,0,day⟩]:=⟨_,rfl⟩
     obtain⟨⟨m2,mi2,me2⟩,hm2⟩:∃m,m=lY hc1 [⟨by_,to,0,day⟩]:=⟨_,rfl⟩
     unfold tG at hL';dsimp only at hL';rw[←hq0,←hq1,←hq2,←hx,←hyy,←hzz]at hL';subst hL';cbv;refine bU [] (fun p:{ k:Nat // k≤3 }=>[(42,.i (nI p.1))]) (fun p=>[.blk 122 [.str carrier,.ph 1],.pool 120 (bJ fM L) [(i,.ptr 2 0)]]++gJ [] 2 (rI (gB p.1 ⟨⟨nq1,cq1,sq1,frm1,to1,bq1,pq1,iq1,lq1⟩,st1,⟨sa1,ha1,ca1⟩,⟨sb1,hb1,cb1⟩,⟨sc1,hc1,cc1⟩⟩ ⟨⟨nq1,cq1,sq1,frm1,to1,bq1,pq1,iq1,lq1⟩,st1,⟨ux,xh,xc⟩,⟨sb1,hb1,cb1⟩,⟨sc1,hc1,cc1⟩⟩ ⟨⟨nq1,cq1,sq1,frm1,to1,bq1,pq1,iq1,lq1⟩,st1,⟨ux,xh,xc⟩,⟨uy,yh,yc⟩,⟨sc1,hc1,cc1⟩⟩ ⟨⟨nq1,cq1,sq1,frm1,to1,bq1,pq1,iq1,lq1⟩,st1,⟨ux,xh,xc⟩,⟨uy,yh,yc⟩,⟨uz,zh,zc⟩⟩))) (fun p=>fO 3 p.1) ⟨0,by decide⟩ ?_;rintro ⟨k,hk⟩;dsimp only at hk⊢;have hk4:k=0∨k=1∨k=2∨k=3:=by omega
     rcases hk4 with rfl|rfl|rfl|rfl
     ·cases q0 with
      |true=>
       obtain⟨rfl,rfl,rfl⟩:ux=sa1∧xh=m0∧xc=ca1++[⟨by_,to,0,day⟩]:=by
        unfold tY at hx;dsimp only at hx;rw[←hm0]at hx;injection hx with h1 h2 h3
        exact⟨h1,h2,h3⟩
       cbv;repeat'((first|refine .n fun h=>?_|refine .y fun h=>?_|refine .mk (fun h=>?_) fun h=>?_|refine .k fun z hz=>?_|refine .o ?_|refine .zl fun zs hzs hzl=>?_|fail)<;>cbv)
       ·refine fI 9 rfl ?_;cbv
        (refine ZO hh (ha1,[⟨by_,to,0,day⟩]) (Nat.le_add_left 1 4999) ?_;try dsimp only)
        rw[←hm0];dsimp only;obtain rfl:zs=bJ bV (ca1++[(⟨by_,to,0,day⟩:pY)]):=by(rw[bW,cD];first|exact hzs|(subst_vars;rfl))
        cbv;repeat'((first|refine .k fun z hz=>?_|fail)<;>cbv)
        obtain rfl:z=nI 1:=bQ;exact bN ⟨1,by decide⟩ (bO (by decide))
       ·refine fI 9 rfl ?_;cbv
        (refine ZO hh (ha1,[⟨by_,to,0,day⟩]) (Nat.le_add_left 1 4999) ?_;try dsimp only)
        rw[←hm0];dsimp only;obtain rfl:zs=bJ bV (ca1++[(⟨by_,to,0,day⟩:pY)]):=by(rw[bW,cD];first|exact hzs|(subst_vars;rfl))
        cbv;repeat'((first|refine .k fun z hz=>?_|fail)<;>cbv)
        obtain rfl:z=nI 1:=bQ;exact bN ⟨1,by decide⟩ (bO (by decide))
       ·exact absurd (hq0.trans (jX ‹¬index=-1› ‹¬index=Int.ofNat 0›)) (by decide)
      |false=>
       obtain⟨rfl,rfl,rfl⟩:ux=sa1∧xh=ha1∧xc=ca1:=by
        injection hx with h1 h2 h3
        exact⟨h1,h2,h3⟩
       cbv;repeat'((first|refine .n fun h=>?_|refine .y fun h=>?_|refine .mk (fun h=>?_) fun h=>?_|refine .k fun z hz=>?_|refine .o ?_|refine .zl fun zs hzs hzl=>?_|fail)<;>cbv)
       ·exact absurd (hq0.trans (mN (.inl ‹index=-1›))) (by decide)
       ·exact absurd (hq0.trans (mN (.inr ‹index=Int.ofNat 0›))) (by decide)
       ·obtain rfl:z=nI 1:=bQ;exact bN ⟨1,by decide⟩ (bO (by decide))
     ·cases q1 with
      |true=>
       obtain⟨rfl,rfl,rfl⟩:uy=sb1∧yh=m1∧yc=cb1++[⟨by_,to,0,day⟩]:=by
        unfold tY at hyy;dsimp only at hyy;rw[←hm1]at hyy;injection hyy with h1 h2 h3
        exact⟨h1,h2,h3⟩
       cbv;repeat'((first|refine .n fun h=>?_|refine .y fun h=>?_|refine .mk (fun h=>?_) fun h=>?_|refine .k fun z hz=>?_|refine .o ?_|refine .zl fun zs hzs hzl=>?_|fail)<;>cbv)
       ·refine fI 9 rfl ?_;cbv
        (refine ZO hh (hb1,[⟨by_,to,0,day⟩]) (Nat.le_add_left 1 4999) ?_;try dsimp only)
        rw[←hm1];dsimp only;obtain rfl:zs=bJ bV (cb1++[(⟨by_,to,0,day⟩:pY)]):=by(rw[bW,cD];first|exact hzs|(subst_vars;rfl))
        cbv;repeat'((first|refine .k fun z hz=>?_|fail)<;>cbv)
        obtain rfl:z=nI 2:=bQ;exact bN ⟨2,by decide⟩ (bO (by decide))
       ·refine fI 9 rfl ?_;cbv
        (refine ZO hh (hb1,[⟨by_,to,0,day⟩]) (Nat.le_add_left 1 4999) ?_;try dsimp only)
        rw[←hm1];dsimp only;obtain rfl:zs=bJ bV (cb1++[(⟨by_,to,0,day⟩:pY)]):=by(rw[bW,cD];first|exact hzs|(subst_vars;rfl))
        cbv;repeat'((first|refine .k fun z hz=>?_|fail)<;>cbv)
        obtain rfl:z=nI 2:=bQ;exact bN ⟨2,by decide⟩ (bO (by decide))
       ·exact absurd (hq1.trans (jX ‹¬index=-1› ‹¬index=Int.ofNat 1›)) (by decide)
      |false=>
       obtain⟨rfl,rfl,rfl⟩:uy=sb1∧yh=hb1∧yc=cb1:=by
        injection hyy with h1 h2 h3
        exact⟨h1,h2,h3⟩
       cbv;repeat'((first|refine .n fun h=>?_|refine .y fun h=>?_|refine .mk (fun h=>?_) fun h=>?_|refine .k fun z hz=>?_|refine .o ?_|refine .zl fun zs hzs hzl=>?_|fail)<;>cbv)
       ·exact absurd (hq1.trans (mN (.inl ‹index=-1›))) (by decide)
       ·exact absurd (hq1.trans (mN (.inr ‹index=Int.ofNat 1›))) (by decide)
       ·obtain rfl:z=nI 2:=bQ;exact bN ⟨2,by decide⟩ (bO (by decide))
     ·cases q2 with
      |true=>
       obtain⟨rfl,rfl,rfl⟩:uz=sc1∧zh=m2∧zc=cc1++[⟨by_,to,0,day⟩]:=by
        unfold tY at hzz;dsimp only at hzz;rw[←hm2]at hzz;injection hzz with h1 h2 h3
        exact⟨h1,h2,h3⟩
       cbv;repeat'((first|refine .y fun h=>?_|refine .mk (fun h=>?_) fun h=>?_|refine .k fun z hz=>?_|refine .o ?_|refine .zl fun zs hzs hzl=>?_|fail)<;>cbv)
       ·refine fI 9 rfl ?_;cbv
        (refine ZO hh (hc1,[⟨by_,to,0,day⟩]) (Nat.le_add_left 1 4999) ?_;try dsimp only)
        rw[←hm2];dsimp only;obtain rfl:zs=bJ bV (cc1++[(⟨by_,to,0,day⟩:pY)]):=by(rw[bW,cD];first|exact hzs|(subst_vars;rfl))
        cbv;repeat'((first|refine .k fun z hz=>?_|fail)<;>cbv)
        obtain rfl:z=nI 3:=bQ;exact bN ⟨3,by decide⟩ (bO (by decide))
       ·refine fI 9 rfl ?_;cbv
        (refine ZO hh (hc1,[⟨by_,to,0,day⟩]) (Nat.le_add_left 1 4999) ?_;try dsimp only)
        rw[←hm2];dsimp only;obtain rfl:zs=bJ bV (cc1++[(⟨by_,to,0,day⟩:pY)]):=by(rw[bW,cD];first|exact hzs|(subst_vars;rfl))
        cbv;repeat'((first|refine .k fun z hz=>?_|fail)<;>cbv)
        obtain rfl:z=nI 3:=bQ;exact bN ⟨3,by decide⟩ (bO (by decide))
       ·exact absurd (hq2.trans (jX ‹¬index=-1› ‹¬index=Int.ofNat 2›)) (by decide)
      |false=>
       obtain⟨rfl,rfl,rfl⟩:uz=sc1∧zh=hc1∧zc=cc1:=by
        injection hzz with h1 h2 h3
        exact⟨h1,h2,h3⟩
       cbv;repeat'((first|refine .y fun h=>?_|refine .mk (fun h=>?_) fun h=>?_|refine .k fun z hz=>?_|refine .o ?_|refine .zl fun zs hzs hzl=>?_|fail)<;>cbv)
       ·exact absurd (hq2.trans (mN (.inl ‹index=-1›))) (by decide)
       ·exact absurd (hq2.trans (mN (.inr ‹index=Int.ofNat 2›))) (by decide)
       ·obtain rfl:z=nI 3:=bQ;exact bN ⟨3,by decide⟩ (bO (by decide))
     ·cbv;repeat'((first|refine .n fun h=>?_|fail)<;>cbv)
      (refine .r9 (Gh.back 1 ([2,3,4,5]) fM ⟨⟨nq1,cq1,sq1,frm1,to1,bq1,pq1,iq1,lq1⟩,st1,⟨ux,xh,xc⟩,⟨uy,yh,yc⟩,⟨uz,zh,zc⟩⟩ rfl hy) ?_;cbv;exact .inl (.f9 hK))
    ·exact(jZ (he.symm.trans ‹e=0›) hai).elim
   ·rw[aE h]at hL';subst hL'
    (refine .q9 ?_;cbv;exact .inl (.f9 hK))
def Y6:bH×Bool→AV
 |(s,b)=>.tup [.str s,.bl b]
structure X7 where
 bill:bH
 index:Int
 state:Int
 holder:bH
def WH:X7→AV
 |⟨b,i,s,h⟩=>.agg [.str b,.i i,.i s,.str h]
def Mr (s:bH):Br→List X7
 |⟨_,_,⟨sa,ha,_⟩,⟨sb,hb,_⟩,⟨sc,hc,_⟩⟩=>[⟨s,0,sa,ha⟩,⟨s,1,sb,hb⟩,⟨s,2,sc,hc⟩]
def BS (L:List Br) (s:bH):List X7:=match rN L s with
 |some i=>match L[i]? with
  |some b=>Mr s b
  |none=>[]
 |none=>[]
theorem J0 {L:List Br}{s:bH}{i:Nat}{y:Br}(h:rN L s=some i) (hy:L[i]?=some y):BS L s=Mr s y:=by unfold BS;rw[h];dsimp only;rw[hy]
theorem KB {L:List Br}{s:bH}(h:rN L s=none):BS L s=[]:=by unfold BS;rw[h]
def tD:dL:=spec (fun i:Rg×bH=>[.ptr 0 0,.str i.2]) (fun i=>lR i.1) (fun _=>True) (fun i=>.sl 4 (bJ WH (BS i.1.bills i.2))) fun i=>lR i.1
theorem An (P:bI):bM P Zk tD:=by
 intro args H K hc;obtain⟨⟨⟨carrier,L⟩,s⟩,rfl,rfl,hp,hK⟩:=hc;refine⟨cK,?_⟩;dsimp only at hp hK⊢;obtain⟨q,hq⟩:∃q,q=BS L s:=⟨_,rfl⟩
 rw[←hq]at hK;cbv;refine fC (fun b:Br=>b.b.number) (fun _=>rfl) (fun i y hai hy hky=>?_) (fun hai=>?_)<;>dsimp only at *
 ·rw[J0 hai hy]at hq;obtain⟨⟨nq1,cq1,sq1,frm1,to1,bq1,pq1,iq1,lq1⟩,st1,⟨sa1,ha1,ca1⟩,⟨sb1,hb1,cb1⟩,⟨sc1,hc1,cc1⟩⟩:=y;obtain rfl:q=[⟨s,0,sa1,ha1⟩,⟨s,1,sb1,hb1⟩,⟨s,2,sc1,hc1⟩]:=hq;cbv;repeat'((first|refine .zl fun zs hzs hzl=>?_|fail)<;>cbv)
  obtain rfl:zs=[]:=hzs;refine iL Gh.viewT ?_;cbv;refine bU [6] (fun p:{ k:Nat // k≤3 }=>[(22,.i (nI p.1)),(6,.hd 6)]) (fun p=>[.blk 122 [.str carrier,.ph 1],.pool 120 (bJ fM L) [(i,.ptr 2 0)]]++gJ [] 2 (rI ⟨⟨nq1,cq1,sq1,frm1,to1,bq1,pq1,iq1,lq1⟩,st1,⟨sa1,ha1,ca1⟩,⟨sb1,hb1,cb1⟩,⟨sc1,hc1,cc1⟩⟩)++[.row 49 4 (gB p.1 [] [.agg [.str s,.i 0,.i sa1,.str ha1]] [.agg [.str s,.i 0,.i sa1,.str ha1],.agg [.str s,.i 1,.i sb1,.str hb1]] [.agg [.str s,.i 0,.i sa1,.str ha1],.agg [.str s,.i 1,.i sb1,.str hb1],.agg [.str s,.i 2,.i sc1,.str hc1]])]) (fun p=>fO 3 p.1) ⟨0,by decide⟩ ?_;rintro ⟨k,hk⟩;dsimp only at hk⊢;have hk4:k=0∨k=1∨k=2∨k=3:=by omega
  rcases hk4 with rfl|rfl|rfl|rfl
  ·cbv;repeat'((first|refine .n fun h=>?_|refine .y fun h=>?_|refine .k fun z hz=>?_|refine .o ?_|refine .zl fun zs hzs hzl=>?_|fail)<;>cbv)
   obtain rfl:zs=[.agg [.str s,.i 0,.i sa1,.str ha1]]:=hzs;obtain rfl:z=nI 1:=bQ;exact bN ⟨1,by decide⟩ (bO (by decide))
  ·cbv;repeat'((first|refine .n fun h=>?_|refine .y fun h=>?_|refine .k fun z hz=>?_|refine .o ?_|refine .zl fun zs hzs hzl=>?_|fail)<;>cbv)
   obtain rfl:zs=[.agg [.str s,.i 0,.i sa1,.str ha1],.agg [.str s,.i 1,.i sb1,.str hb1]]:=hzs;obtain rfl:z=nI 2:=bQ;exact bN ⟨2,by decide⟩ (bO (by decide))
  ·cbv;repeat'((first|refine .y fun h=>?_|refine .k fun z hz=>?_|refine .o ?_|refine .zl fun zs hzs hzl=>?_|fail)<;>cbv)
   obtain rfl:zs=[.agg [.str s,.i 0,.i sa1,.str ha1],.agg [.str s,.i 1,.i sb1,.str hb1],.agg [.str s,.i 2,.i sc1,.str hc1]]:=hzs;obtain rfl:z=nI 3:=bQ;exact bN ⟨3,by decide⟩ (bO (by decide))
  ·cbv;repeat'((first|refine .n fun h=>?_|fail)<;>cbv)
   (refine .r9 ((Gh.plain 6 rfl).trans (Gh.back0 1 [2,3,4,5] fM rfl hy)) ?_;cbv;exact .inl (.g9 hK))
 ·rw[KB hai]at hq;subst hq;cbv
  (refine .q9 ?_;cbv;exact .inl (.g9 hK))
def zA (p:bH→Bool) (l:List bH):Int:=match l.findIdx? p with
 |some i=>Int.ofNat i
 |none=>-1
def nO (p:bH→Bool) (l:List bH) (k:Nat):Prop:=∀j y,j < k→l[j]?=some y→p y=false
theorem nO.zero {p:bH→Bool}{l:List bH}:nO p l 0:=fun j y h=>absurd h (Nat.not_lt_zero j)
theorem nO.succ {p:bH→Bool}{l:List bH}{k:Nat}{x:bH}(h:nO p l k) (hx:l[k]?=some x) (hp:p x=false):nO p l (k+1):=fun j y hj hy=>by
 rcases aL j k with h1|h1
 ·exact h j y h1 hy
 ·obtain rfl:j=k:=by omega
  rw[hx]at hy;cases hy;exact hp
theorem Ey {p:bH→Bool}{l:List bH}{k:Nat}{x:bH}(h:nO p l k) (hx:l[k]?=some x) (hp:p x=true):zA p l=Int.ofNat k:=by
 obtain⟨hk,rfl⟩:=aA.1 hx;have e:l.findIdx? p=some k:=List.findIdx?_eq_some_iff_getElem.2 ⟨hk,hp,fun j hj=>by rw[h j _ hj (aB (by omega))];decide⟩;unfold zA;rw[e]
theorem xG {p:bH→Bool}{l:List bH}(h:nO p l l.length):zA p l=-1:=by
 have e:l.findIdx? p=none:=List.findIdx?_eq_none_iff.2 fun x hx=>by
  obtain⟨j,hj,rfl⟩:=List.mem_iff_getElem.1 hx;exact h j _ hj (aB hj)
 unfold zA;rw[e]
theorem Bm (p:bH→Bool) (l:List bH):decide (0≤zA p l)=l.any p:=by
 unfold zA;cases e:l.findIdx? p with
 |none=>
  rw[List.findIdx?_eq_none_iff]at e;have:l.any p=false:=by
   rw[List.any_eq_false];intro x hx;rw[e x hx];decide
  rw[this];rfl
 |some i=>
  rw[List.findIdx?_eq_some_iff_getElem]at e;obtain⟨hi,h1,_⟩:=e;have:l.any p=true:=List.any_eq_true.2 ⟨_,List.getElem_mem hi,h1⟩;rw[this];exact aH (Int.natCast_nonneg i)
def HR:dL:=spec (fun i:List bH×bH=>[.sl 1 (bJ .str i.1),.str i.2]) (fun _=>[]) (fun i=>i.1.length≤5000) (fun i=>.i (zA (fun x=>decide (i.2=x)) i.1)) fun _=>[]
theorem It (P:bI):bM P Xs HR:=by
 intro args H K hc;obtain⟨⟨l,s⟩,rfl,rfl,hp,hK⟩:=hc;refine⟨cK,?_⟩;dsimp only at hp hK⊢;obtain⟨p,hpp⟩:∃p:bH→Bool,p=fun x=>decide (s=x):=⟨_,rfl⟩
 rw[←hpp]at hK;have hpx:∀x,p x=decide (s=x):=fun x=>by rw[hpp]
 clear hpp;cbv;repeat'((first|refine .k fun z hz=>?_|fail)<;>cbv)
 refine bU [] (fun q:{ k:Nat // k≤l.length∧nO p l k }=>[(8,.i (nI q.1))]) (fun _=>[]) (fun q=>fO 5001 q.1) ⟨0,aI _,.zero⟩ ?_;rintro ⟨k,hk,hn⟩;dsimp only at hk hn⊢;cbv;repeat'((first|refine .mk (fun h=>?_) fun h=>?_|fail)<;>cbv)
 ·refine cM bQ bQ fun i x hi hx=>?_
  obtain rfl:k=i:=bQ;cbv;repeat'((first|refine .mk (fun h=>?_) fun h=>?_|refine .k fun z hz=>?_|fail)<;>cbv)
  ·exact bY.mk ⟨_,Gh.refl _,.inl (.v9 (fX hK (by(rw[Ey hn hx ((hpx x).trans (aH h))]))))⟩
  ·obtain rfl:z=nI (k+1):=bQ;exact bN ⟨k+1,by exact bQ,hn.succ hx ((hpx x).trans (aG h))⟩ (bO bQ)
 ·obtain rfl:k=l.length:=bQ;exact bY.mk ⟨_,Gh.refl _,.inl (.v9 (fX hK (by(rw[xG hn]))))⟩
def xS:dL:=spec (fun i:List bH×bH=>[.sl 1 (bJ .str i.1),.str i.2]) (fun _=>[]) (fun i=>i.1.length≤5000) (fun i=>.bl (i.1.any fun x=>decide (i.2=x))) fun _=>[]
theorem BE (P:bI) (hi:bK P 208 HR):bM P WP xS:=by
 intro args H K hc;obtain⟨⟨l,s⟩,rfl,rfl,hp,hK⟩:=hc;refine⟨cK,?_⟩;dsimp only at hp hK⊢;obtain⟨p,hpp⟩:∃p:bH→Bool,p=fun x=>decide (s=x):=⟨_,rfl⟩
 rw[←hpp,←Bm]at hK;obtain⟨e,he⟩:∃e,e=zA p l:=⟨_,rfl⟩
 rw[←he]at hK;cbv
 (refine ZO hi (l,s) hp ?_;try dsimp only)
 rw[←hpp,←he];cbv;repeat'((first|refine .mk (fun h=>?_) fun h=>?_|fail)<;>cbv)
 ·exact bY.mk ⟨_,Gh.refl _,.inl (.v9 (cE hK (by(rw[aH h]))))⟩
 ·exact bY.mk ⟨_,Gh.refl _,.inl (.v9 (cE hK (by(rw[aG (by omega)]))))⟩
def R0 (p:bH→Bool):dL:=spec (fun s:bH=>[.str s]) (fun _=>[]) (fun _=>True) (fun s=>.bl (p s)) fun _=>[]
def OL (f:Nat) (p:bH→Bool):dL:=spec (fun l:List bH=>[.sl 1 (bJ .str l),.clo f []]) (fun _=>[]) (fun l=>l.length≤5000) (fun l=>.i (zA p l)) fun _=>[]
theorem Kz (P:bI) (f:Nat) (p:bH→Bool) (hm:dB P f) (hf:bK P f (R0 p)):bM P UT (OL f p):=by
 intro args H K hc;obtain⟨l,rfl,rfl,hp,hK⟩:=hc;refine⟨cK,?_⟩;dsimp only at hp hK⊢;cbv;repeat'((first|refine .k fun z hz=>?_|fail)<;>cbv)
 refine bU [] (fun q:{ k:Nat // k≤l.length∧nO p l k }=>[(8,.i (nI q.1))]) (fun _=>[]) (fun q=>fO 5001 q.1) ⟨0,aI _,.zero⟩ ?_;rintro ⟨k,hk,hn⟩;dsimp only at hk hn⊢;cbv;repeat'((first|refine .mk (fun h=>?_) fun h=>?_|fail)<;>cbv)
 ·refine cM bQ bQ fun i x hi hx=>?_
  obtain rfl:k=i:=bQ;cbv;repeat'((first|refine And.intro ?_ ?_|fail)<;>cbv)
  ·exact hm
  ·obtain⟨b,hb⟩:∃b,b=p x:=⟨_,rfl⟩
   (refine ZO hf x trivial ?_;try dsimp only)
   rw[←hb];cases b with
   |true=>
    cbv;exact bY.mk ⟨_,Gh.refl _,.inl (.v9 (fX hK (by(rw[Ey hn hx hb.symm]))))⟩
   |false=>
    cbv;repeat'((first|refine .k fun z hz=>?_|fail)<;>cbv)
    obtain rfl:z=nI (k+1):=bQ;exact bN ⟨k+1,by exact bQ,hn.succ hx hb.symm⟩ (bO bQ)
 ·obtain rfl:k=l.length:=bQ;exact bY.mk ⟨_,Gh.refl _,.inl (.v9 (fX hK (by(rw[xG hn]))))⟩
def Np (f:Nat) (p:bH→Bool):dL:=spec (fun l:List bH=>[.sl 1 (bJ .str l),.clo f []]) (fun _=>[]) (fun l=>l.length≤5000) (fun l=>.bl (l.any p)) fun _=>[]
theorem LO (P:bI) (f:Nat) (p:bH→Bool) (hi:bK P 189 (OL f p)):bM P Vb (Np f p):=by
 intro args H K hc;obtain⟨l,rfl,rfl,hp,hK⟩:=hc;refine⟨cK,?_⟩;dsimp only at hp hK⊢;rw[←Bm]at hK;obtain⟨e,he⟩:∃e,e=zA p l:=⟨_,rfl⟩
 rw[←he]at hK;cbv
 (refine ZO hi l hp ?_;try dsimp only)
 rw[←he];cbv;repeat'((first|refine .mk (fun h=>?_) fun h=>?_|fail)<;>cbv)
 ·exact bY.mk ⟨_,Gh.refl _,.inl (.v9 (cE hK (by(rw[aH h]))))⟩
 ·exact bY.mk ⟨_,Gh.refl _,.inl (.v9 (cE hK (by(rw[aG (by omega)]))))⟩
theorem LG (P:bI) (hn:bK P 144 (iP (fun _=>True) bS)):bM P Xw (R0 fun s=>!bS s):=by
 intro args H K hc;obtain⟨s,rfl,rfl,hp,hK⟩:=hc;refine⟨cK,?_⟩;dsimp only at hp hK⊢;obtain⟨b,hb⟩:∃b,b=bS s:=⟨_,rfl⟩
 rw[←hb]at hK;cbv
 (refine ZO hn s trivial ?_;try dsimp only)
 rw[←hb];cases b with
 |true=>
  cbv;exact bY.mk ⟨_,Gh.refl _,.inl (.v9 (OQ hK (by rfl)))⟩
 |false=>
  cbv;exact bY.mk ⟨_,Gh.refl _,.inl (.v9 (OQ hK (by rfl)))⟩
def F0:Go.Shelf.Ren:=⟨fun|190=>91|125=>130|258=>129|128=>168|129=>169|302=>159|303=>160|304=>161|305=>162|306=>163|307=>164|308=>165|309=>166|310=>167|333=>192|329=>193|330=>194|334=>195|335=>196|336=>197|344=>209|n=>n,fun|31=>56|9=>9|3=>3|46=>226|0=>0|51=>258|53=>260|4=>4|183=>250|182=>249|131=>255|5=>5|218=>274|222=>278|228=>286|229=>287|n=>n,fun|n=>n⟩
theorem vQ:Go.Proofs.Lays.n190 Tryz.prog F0:={
 mixed:=by kernel_rfl
 f125:=Tryz.func130.trans (congrArg some (by kernel_rfl))
 f128:=Tryz.func168.trans (congrArg some (by kernel_rfl))
 f129:=Tryz.func169.trans (congrArg some (by kernel_rfl))
 f190:=Tryz.func91.trans (congrArg some (by kernel_rfl))
 f258:=Tryz.func129.trans (congrArg some (by kernel_rfl))
 f302:=Tryz.func159.trans (congrArg some (by kernel_rfl))
 f303:=Tryz.func160.trans (congrArg some (by kernel_rfl))
 f304:=Tryz.func161.trans (congrArg some (by kernel_rfl))
 f305:=Tryz.func162.trans (congrArg some (by kernel_rfl))
 f306:=Tryz.func163.trans (congrArg some (by kernel_rfl))
 f307:=Tryz.func164.trans (congrArg some (by kernel_rfl))
 f308:=Tryz.func165.trans (congrArg some (by kernel_rfl))
 f309:=Tryz.func166.trans (congrArg some (by kernel_rfl))
 f310:=Tryz.func167.trans (congrArg some (by kernel_rfl))
 f329:=Tryz.func193.trans (congrArg some (by kernel_rfl))
 f330:=Tryz.func194.trans (congrArg some (by kernel_rfl))
 f333:=Tryz.func192.trans (congrArg some (by kernel_rfl))
 f334:=Tryz.func195.trans (congrArg some (by kernel_rfl))
 f335:=Tryz.func196.trans (congrArg some (by kernel_rfl))
 f336:=Tryz.func197.trans (congrArg some (by kernel_rfl))
 f344:=Tryz.func209.trans (congrArg some (by kernel_rfl))
 t0:=Tryz.underlying0
 a0:=Tryz.isAgg0
 z0:=Tryz.sizeOf0
 v0:=Tryz.zeroValue0
 t3:=Tryz.underlying3
 a3:=Tryz.isAgg3
 z3:=Tryz.sizeOf3
 v3:=Tryz.zeroValue3
 t4:=Tryz.underlying4
 a4:=Tryz.isAgg4
 z4:=Tryz.sizeOf4
 v4:=Tryz.zeroValue4
 t5:=Tryz.underlying5
 a5:=Tryz.isAgg5
 z5:=Tryz.sizeOf5
 v5:=Tryz.zeroValue5
 t9:=Tryz.underlying9
 a9:=Tryz.isAgg9
 z9:=Tryz.sizeOf9
 v9:=Tryz.zeroValue9
 t31:=Tryz.underlying56
 a31:=Tryz.isAgg56
 z31:=Tryz.sizeOf56
 v31:=Tryz.zeroValue56
 t46:=Tryz.underlying226
 a46:=Tryz.isAgg226
 z46:=Tryz.sizeOf226
 v46:=Tryz.zeroValue226
 t51:=Tryz.underlying258
 a51:=Tryz.isAgg258
 z51:=Tryz.sizeOf258
 v51:=Tryz.zeroValue258
 t53:=Tryz.underlying260
 a53:=Tryz.isAgg260
 z53:=Tryz.sizeOf260
 v53:=Tryz.zeroValue260
 t131:=Tryz.underlying255
 a131:=Tryz.isAgg255
 z131:=Tryz.sizeOf255
 v131:=Tryz.zeroValue255
 t182:=Tryz.underlying249
 a182:=Tryz.isAgg249
 z182:=Tryz.sizeOf249
 v182:=Tryz.zeroValue249
 t183:=Tryz.underlying250
 a183:=Tryz.isAgg250
 z183:=Tryz.sizeOf250
 v183:=Tryz.zeroValue250
 t218:=Tryz.underlying274
 a218:=Tryz.isAgg274
 z218:=Tryz.sizeOf274
 v218:=Tryz.zeroValue274
 t222:=Tryz.underlying278
 a222:=Tryz.isAgg278
 z222:=Tryz.sizeOf278
 v222:=Tryz.zeroValue278
 t228:=Tryz.underlying286
 a228:=Tryz.isAgg286
 z228:=Tryz.sizeOf286
 v228:=Tryz.zeroValue286
 t229:=Tryz.underlying287
 a229:=Tryz.isAgg287
 z229:=Tryz.sizeOf287
 v229:=Tryz.zeroValue287 }
def jK (s:bH):List UInt8:=s.data.toList
def kU (l:List UInt8):bH:=⟨l.toArray⟩
def dN (L:List bH):List bH:=((L.map jK).mergeSort fun x y=>decide (x≤y)).map kU
theorem nF (s:bH):kU (jK s)=s:=by
 obtain⟨⟨l⟩⟩:=s;rfl
theorem NA {pub:cY}{w:World}{r:cT}:∀{L:List bH}{us:List Value},bR pub w r ((bJ .str L).flatMap AV.cells) us→us=L.map .string
 |[],us,h=>h.nil_inv
 |s :: L,us,h=>by
  have h':bR pub w r (.str s :: (bJ .str L).flatMap AV.cells) us:=h;obtain⟨us',rfl,h2⟩:=h'.str_inv;rw[NA h2];rfl
theorem Hi {pub:cY}{w:World}{r:cT}:∀(L:List bH),bR pub w r ((bJ .str L).flatMap AV.cells) (L.map .string)
 |[]=>⟨rfl,fun i x u hx _=>by cases hx⟩
 |s :: L=>by
  have ih:=Hi (pub:=pub) (w:=w) (r:=r) L;show bR pub w r (.str s :: (bJ .str L).flatMap AV.cells) (.string s :: L.map .string);refine⟨by rw[List.length_cons,List.length_cons,ih.len],fun i x u hx hu=>?_⟩;cases i with
  |zero=>cases hx;cases hu;exact .str s
  |succ i=>exact ih.at_ i x u hx hu
structure D6 (P:bI) (f:Nat):Prop where
 out:∀(A:Option Addr) (L:List bH) (c:Nat) (w:World) (pub:cY),L.length≤2000000→kA w 9 1 A L.length c (L.map .string)→(∀b∈lT A,pub b=0)→(∀b,w.heap.size≤b→pub b=0) →
  Calls P f #[.slice A L.length c] w fun e w'=>e=.returned (.tuple #[])∧Fr (fun b=>b∈lT A) pub w pub w'∧kA w' 9 1 A L.length c ((dN L).map .string)
theorem kE (L:List bH):(dN L).length=L.length:=by simp[dN]
theorem Jz:D6 Tryz.prog 91:=⟨fun A L c w pub hp ho hpb hfresh=>by
 rcases ho.cases_ with ⟨rfl,hl0,rfl,_⟩|⟨g,cur,rfl,hb,h1,h2,h3,h4⟩
 ·obtain rfl:L=[]:=aR hl0;refine(Any.slices_Sort_string_none vQ none 0 w).mono fun e w' h=>?_
  obtain⟨rfl,rfl⟩:=h;refine⟨rfl,.refl _ _ _,?_⟩;rw[show dN []=[] by simp[dN]];exact ho
 ·have hgp:pub g=0:=hpb g (by simp);have hss:cur.toList.take (L.map jK).length=(L.map jK).map encStr:=by
   rw[aJ,←Nat.mul_one L.length,h4,List.map_map];refine List.map_congr_left fun s _=>?_
   show Value.string s=Value.string (kU (jK s));rw[nF]
  have hblk:g < w.heap.size:=hb.lt;have hlen:L.length=(L.map jK).length:=by rw[aJ]
  rw[hlen];refine(Any.slices_Sort_string vQ g 0 c (L.map jK) w (holds_of_block hb hss) hblk (by rw[aJ];omega)).mono fun e w' h=>?_
  obtain⟨rfl,n,os,rfl⟩:=h;obtain⟨ts,hts⟩:∃ts,ts=(L.map jK).mergeSort fun x y=>decide (x≤y):=⟨_,rfl⟩
  have htl:ts.length=(L.map jK).length:=by rw[hts];simp
  have hso:dN L=ts.map kU:=by rw[hts];rfl
  rw[hso,←hts];have hgb:=grownBy_sorted (w:=w) (g:=g) (n:=n) (os:=os) ts.toArray;have hh:=heap_sorted (n:=n) (os:=os) ts.toArray hb;obtain⟨w',hw'⟩:∃w',w'=Sort.grow (Sort.putRow encStr (Sort.ahead w n) g 0 ts.toArray) os:=⟨_,rfl⟩
  rw[←hw']at hgb hh⊢;obtain⟨g1,g2,g3,g4,g5⟩:=hgb;have hkeep:∀b,b < w.heap.size→¬b=g→w'.heap[b]?=w.heap[b]?:=fun b hb hn=>g5 b hb fun e=>hn (Option.some.inj e)
  have hcell:∀b i v,i < pub b→w.cell? ⟨b,i,none⟩=some v→w'.cell? ⟨b,i,none⟩=some v:=fun b i v hi hv=>by
   have hbs:b < w.heap.size:=by
    rcases aL b w.heap.size with h|h
    ·exact h
    ·rw[hfresh b h]at hi;exact absurd hi (Nat.not_lt_zero _)
   have hbg:¬b=g:=fun e=>by
    subst e;rw[hgp]at hi;exact absurd hi (Nat.not_lt_zero _)
   have e:=hkeep b hbs hbg;unfold World.cell? at hv⊢;dsimp only at hv⊢;rw[e];exact hv
  refine⟨rfl,⟨g1,g2,g3,g4,fun b hb hn=>⟨hkeep b hb fun e=>hn (by subst e;simp),rfl⟩,fun _=>aN _,hcell,fun b n hp hn=>kV (hkeep b (mU hn) fun e=>by subst e;rw[hgp]at hp;exact absurd hp (Nat.lt_irrefl 0)) hn⟩,?_⟩;refine kA.of_blk (cur:=Sort.putCells encStr 0 ts.toArray cur) hh (by rw[←hlen];exact h1) h2 (by simp[Sort.putCells,h3]) ?_;rw[Nat.mul_one,←htl,take_putCells _ _ (by rw[htl,aJ,h3];omega),List.map_map];rfl⟩
theorem AC {P:bI}{f:Nat}(hs:D6 P f) (k:Nat) (L:List bH) {keep:List Nat}{st:St}{K:AV→St→Prop}(hk:st.H[k]?=some (.row 9 1 (bJ .str L))) (hl:L.length≤2000000) (hkeep:(keep.all fun j=>j != k)=true)
  (hK:K (.tup []) ⟨st.T,st.H.set k (.row 9 1 (bJ .str (dN L)))⟩):gC P keep f [.hd k] st K:=by
 refine⟨fun C a w r pub vals h hv=>?_⟩;obtain⟨u,us',hvals,hu,hnil⟩:=hv.cons_inv;have hn0:=hnil.nil_inv;subst hn0;obtain rfl:vals=#[u]:=Array.toList_inj.1 (by simpa using hvals);have hr:r k=some u:=by cases hu with|hd h _=>exact h
 obtain⟨A,c,us,hrk,ho,hcs,hst,hpb⟩:=h.ent_row hk;rw[hr]at hrk;cases hrk;have hus:=NA hcs;subst hus;rw[cC]at ho hr⊢;refine(hs.out A L c w pub hl ho hpb h.mod.fresh).mono fun e w' hw=>?_
 obtain⟨rfl,hf,ho'⟩:=hw;have hE:eE pub w' r (some (.slice A (bJ AV.str (dN L)).length c)) (.row 9 1 (bJ .str (dN L))):=by
  refine .row (us:=(dN L).map .string) (by rw[cC,kE];exact ho') (Hi _) (fun x hx=>?_) hpb;rw[ZY]at hx;obtain⟨s,_,rfl⟩:=aX.1 hx;exact⟨rfl,rfl⟩
 rw[cC,kE]at hE;refine⟨_,_,_,r,pub,rfl,.tup rfl (fun i x v hx _=>by cases hx),hK,⟨h.mod.set hr hf (fun b hb=>hb) (fun b hb=>h.mod.fresh b (Nat.le_trans hf.size hb)) (fun b i hi=>?_) hE,h.own,h.fr.trans hf (fun b hb=>h.own k _ hr b hb),h.slots.ext hf.ext,h.defers,h.size,h.stab,⟨h.low.1,by simpa using h.low.2⟩⟩,hf.ext,fun j hj=>⟨rfl,fun y hy b hb=>?_⟩⟩
 ·obtain⟨v,hv⟩:=h.mod.there b i hi;exact⟨v,hf.ext.cell b i v hi hv⟩
 ·have hjk:j≠k:=by
   have:=aT.1 hkeep j hj;simpa using this
  exact(hf.keep b (h.mod.foot_lt hy b hb) fun hbA=>h.mod.disj j k y _ hjk hy hr b hb hbA).1
theorem Bp {l1 l2:List bH}(h:l1.Perm l2):dN l1=dN l2:=by
 unfold dN;congr 1;have ht:∀a b c:List UInt8,decide (a≤b)=true→decide (b≤c)=true→decide (a≤c)=true:=fun a b c h1 h2=>aH (List.le_trans (of_decide_eq_true h1) (of_decide_eq_true h2))
 have hs:∀a b:List UInt8,(decide (a≤b) || decide (b≤a))=true:=fun a b=>by
  rcases List.le_total a b with h|h
  ·rw[aH h];rfl
  ·rw[aH h];exact Bool.or_true _
 refine List.Perm.eq_of_pairwise (le:=fun a b=>decide (a≤b)=true) (fun a b _ _ h1 h2=>List.le_antisymm (of_decide_eq_true h1) (of_decide_eq_true h2)) (List.pairwise_mergeSort ht hs _) (List.pairwise_mergeSort ht hs _) ?_;exact(List.mergeSort_perm _ _).trans ((h.map jK).trans (List.mergeSort_perm _ _).symm)
def gN (p:Br→Bool) (b:Br):Option bH:=bif p b then some b.b.number else none
def fW (L:List Br) (p:Br→Bool):List bH:=dN (L.filterMap (gN p))
def nH (L:List Br) (p:Br→Bool) (seen:List Nat):List bH:=seen.filterMap fun i=>L[i]?.bind (gN p)
theorem Bk {α β:Type}(g:α→Option β):∀L:List α,(List.range L.length).filterMap (fun i=>L[i]?.bind g)=L.filterMap g
 |[]=>rfl
 |x :: L=>by
  rw[List.length_cons,List.range_succ_eq_map,List.filterMap_cons,List.filterMap_map];have ih:=Bk g L;have e:((fun i=>(x :: L)[i]?.bind g) ∘ Nat.succ)=fun i=>L[i]?.bind g:=by funext i;rfl
  rw[e,ih,List.filterMap_cons];rfl
structure mO (L:List Br) (seen:List Nat):Prop where
 nd:seen.Nodup
 lt:∀i∈seen,i < L.length
theorem mO.nil {L:List Br}:mO L []:=⟨.nil,fun i h=>by cases h⟩
theorem mO.snoc {L:List Br}{seen:List Nat}{i:Nat}{y:Br}(h:mO L seen) (hy:L[i]?=some y) (hn:i∉seen):mO L (seen++[i]):=by
 refine⟨List.nodup_append.2 ⟨h.nd,List.nodup_cons.2 ⟨by simp,.nil⟩,fun a ha b hb e=>?_⟩,fun j hj=>?_⟩
 ·obtain rfl:=List.mem_singleton.1 hb;subst e;exact hn ha
 ·rcases List.mem_append.1 hj with h1|h1
  ·exact h.lt j h1
  ·obtain rfl:=List.mem_singleton.1 h1;exact(aA.1 hy).1
theorem mO.len {L:List Br}{seen:List Nat}(h:mO L seen):seen.length≤L.length:=by
 have:=h.nd.length_le_of_subset (l₂:=List.range L.length) fun i hi=>List.mem_range.2 (h.lt i hi)
 rwa [List.length_range]at this
theorem Ct {L:List Br}{p:Br→Bool}{seen:List Nat}(h:mO L seen):(nH L p seen).length≤L.length:=Nat.le_trans (List.length_filterMap_le _ _) h.len
theorem BZ {L:List Br}{p:Br→Bool}{seen:List Nat}(h:mO L seen) (hall:∀i,i < L.length→i∈seen):dN (nH L p seen)=fW L p:=by
 have hp:seen.Perm (List.range L.length):=(List.perm_ext_iff_of_nodup h.nd List.nodup_range).2 fun i=>⟨fun hi=>List.mem_range.2 (h.lt i hi),fun hi=>hall i (List.mem_range.1 hi)⟩
 unfold fW;rw[←Bk];exact Bp (hp.filterMap _)
theorem CS {L:List Br}{p:Br→Bool}{seen:List Nat}{i:Nat}{y:Br}(hy:L[i]?=some y) (hp:p y=true):nH L p (seen++[i])=nH L p seen++[y.b.number]:=by
 unfold nH;rw[List.filterMap_append];congr 1;rw[List.filterMap_cons,hy];unfold gN;rw[Option.bind_some,hp];rfl
theorem EU {L:List Br}{p:Br→Bool}{seen:List Nat}{i:Nat}{y:Br}(hy:L[i]?=some y) (hp:p y=false):nH L p (seen++[i])=nH L p seen:=by
 unfold nH;rw[List.filterMap_append,List.filterMap_cons,hy];unfold gN;rw[Option.bind_some,hp];exact List.append_nil _
theorem Be {α:Type}{f:α→Bd}{L:List α}{since i:Nat}{seen s:List Nat}{x:AV}{y:α}{K:AV→AV→Prop}(e:s=seen++[i]) (hs:since=L.length) (hy:L[i]?=some y) (h:K (f y).1 x):QA (bJ f L) [(i,x)] since s K:=by
 subst e;exact QR hs hy h
def inB (b:Br):Prop:=qR b∧yS b.b
def R8 (p:Br→Bool):dL:=spec (fun _:Br=>[.ptr 0 0]) rI inB (fun y=>.bl (p y)) rI
def R4 (f:Nat) (p:Br→Bool):dL:=spec (fun _:Rg=>[.ptr 0 0,.clo f []]) lR (fun R=>R.bills.length≤256∧∀b∈R.bills,inB b) (fun R=>.sl 1 (bJ .str (fW R.bills p))) lR
theorem Du (P:bI) (f:Nat) (p:Br→Bool) (hm:dB P f) (hf:bK P f (R8 p)) (hs:D6 P 91):bM P YH (R4 f p):=by
 intro args H K hc;obtain⟨⟨carrier,L⟩,rfl,rfl,hp,hK⟩:=hc;refine⟨cK,?_⟩;dsimp only at hp hK⊢;obtain⟨hp,hpb⟩:=hp;cbv;repeat'((first|refine .k fun z hz=>?_|fail)<;>cbv)
 obtain⟨n,hn⟩:∃n:Nat,n=L.length:=⟨_,rfl⟩
 obtain rfl:z=nI n:=bQ;refine iL (Gh.adopt 5 9 1 rfl) ?_;cbv;refine bU [3] (fun q:{ q:List Nat×Nat // mO L q.1∧q.2=q.1.length }=>[(5,.hd 3)]) (fun q=>[.blk 122 [.str carrier,.ph 1],.pool 120 (bJ fM L) [],.iter (.ph 1) n q.1.1,.row 9 1 (bJ .str (nH L p q.1.1))]) (fun q=>fO 257 q.1.2) ⟨([],0),.nil,rfl⟩ ?_;rintro ⟨⟨seen,k⟩,hse,hk⟩;dsimp only at hse hk⊢;have hsl:=hse.len;obtain⟨rw_,hrw⟩:∃l,l=nH L p seen:=⟨_,rfl⟩
 have hrl:rw_.length≤L.length:=by rw[hrw];exact Ct hse
 rw[←hrw];cbv;refine DE hn (fun i y hy hni=>?_) (fun hall=>?_)<;>dsimp only at *
 ·have hin:=hpb y (aC hy);have hse2:=hse.snoc hy hni;obtain⟨s2,hs2⟩:∃s,s=seen++[i]:=⟨_,rfl⟩
  rw[←hs2]at hse2⊢;obtain⟨b,hb⟩:∃b,b=p y:=⟨_,rfl⟩
  have hlt:k < 257:=by omega
  have hsk:s2.length=k+1:=by rw[hs2,hk];simp
  have hyes:=CS (seen:=seen) hy (p:=p);have hno:=EU (seen:=seen) hy (p:=p);rw[←hs2,←hrw,←hb]at hyes hno;obtain⟨⟨nq1,cq1,sq1,frm1,to1,bq1,pq1,iq1,lq1⟩,st1,⟨sa1,ha1,ca1⟩,⟨sb1,hb1,cb1⟩,⟨sc1,hc1,cc1⟩⟩:=y;dsimp only at hyes hno;cbv;refine Be hs2 hn hy ?_;cbv;repeat'((first|refine And.intro ?_ ?_|fail)<;>cbv)
  ·exact hm
  ·(refine eW hf ⟨⟨nq1,cq1,sq1,frm1,to1,bq1,pq1,iq1,lq1⟩,st1,⟨sa1,ha1,ca1⟩,⟨sb1,hb1,cb1⟩,⟨sc1,hc1,cc1⟩⟩ [4,5,6,7] hin ?_;try dsimp only)
   rw[←hb];cases b with
   |true=>
    have hyes:=hyes rfl;cbv;repeat'((first|refine .zl fun zs hzs hzl=>?_|fail)<;>cbv)
    obtain rfl:zs=bJ .str (nH L p s2):=by(rw[hyes,bW,cD];exact hzs)
    refine dW (Gh.back0 1 [4,5,6,7] fM rfl hy) ?_;cbv;exact bN ⟨(s2,k+1),hse2,hsk.symm⟩ (bO hlt)
   |false=>
    have hno:=hno rfl;rw[←hno];cbv;refine dW (Gh.back0 1 [4,5,6,7] fM rfl hy) ?_;cbv;exact bN ⟨(s2,k+1),hse2,hsk.symm⟩ (bO hlt)
 ·have hsort:=BZ (p:=p) hse hall;rw[←hrw]at hsort;obtain⟨l,hl⟩:∃l,l=fW L p:=⟨_,rfl⟩
  rw[←hl]at hsort hK;cbv;refine AC hs 3 rw_ rfl (by omega) (by decide) ?_;rw[hsort];cbv
  (refine .r9 (Gh.plain 3 rfl) ?_;cbv;exact .inl (.g9 hK))
def Ni (p:bH→Br→Bool):dL:=spec (fun _:Br×bH=>[.ptr 0 0,.ptr 4 0]) (fun i=>rI i.1++[.blk 9 [.str i.2]]) (fun i=>inB i.1) (fun i=>.bl (p i.2 i.1)) fun i=>rI i.1++[.blk 9 [.str i.2]]
def VP (i:Rg×bH):List cG:=lR i.1++[.blk 9 [.str i.2]]
def T0 (f:Nat) (p:bH→Br→Bool):dL:=spec (fun _:Rg×bH=>[.ptr 0 0,.clo f [.ptr 2 0]]) VP (fun i=>i.1.bills.length≤256∧∀b∈i.1.bills,inB b) (fun i=>.sl 1 (bJ .str (fW i.1.bills (p i.2)))) VP
theorem BC (P:bI) (f:Nat) (p:bH→Br→Bool) (hm:dB P f) (hf:bK P f (Ni p)) (hs:D6 P 91):bM P YH (T0 f p):=by
 intro args H K hc;obtain⟨⟨⟨carrier,L⟩,who⟩,rfl,rfl,hp,hK⟩:=hc;refine⟨cK,?_⟩;dsimp only at hp hK⊢;obtain⟨hp,hpb⟩:=hp;cbv;repeat'((first|refine .k fun z hz=>?_|fail)<;>cbv)
 obtain⟨n,hn⟩:∃n:Nat,n=L.length:=⟨_,rfl⟩
 obtain rfl:z=nI n:=bQ;refine iL (Gh.adopt 5 9 1 rfl) ?_;cbv;refine bU [4] (fun q:{ q:List Nat×Nat // mO L q.1∧q.2=q.1.length }=>[(5,.hd 4)]) (fun q=>[.blk 122 [.str carrier,.ph 1],.pool 120 (bJ fM L) [],.blk 9 [.str who],.iter (.ph 1) n q.1.1,.row 9 1 (bJ .str (nH L (p who) q.1.1))]) (fun q=>fO 257 q.1.2) ⟨([],0),.nil,rfl⟩ ?_;rintro ⟨⟨seen,k⟩,hse,hk⟩;dsimp only at hse hk⊢;have hsl:=hse.len;obtain⟨rw_,hrw⟩:∃l,l=nH L (p who) seen:=⟨_,rfl⟩
 have hrl:rw_.length≤L.length:=by rw[hrw];exact Ct hse
 rw[←hrw];cbv;refine DE hn (fun i y hy hni=>?_) (fun hall=>?_)<;>dsimp only at *
 ·have hin:=hpb y (aC hy);have hse2:=hse.snoc hy hni;obtain⟨s2,hs2⟩:∃s,s=seen++[i]:=⟨_,rfl⟩
  rw[←hs2]at hse2⊢;obtain⟨b,hb⟩:∃b,b=p who y:=⟨_,rfl⟩
  have hlt:k < 257:=by omega
  have hsk:s2.length=k+1:=by rw[hs2,hk];simp
  have hyes:=CS (seen:=seen) hy (p:=p who);have hno:=EU (seen:=seen) hy (p:=p who);rw[←hs2,←hrw,←hb]at hyes hno;obtain⟨⟨nq1,cq1,sq1,frm1,to1,bq1,pq1,iq1,lq1⟩,st1,⟨sa1,ha1,ca1⟩,⟨sb1,hb1,cb1⟩,⟨sc1,hc1,cc1⟩⟩:=y;dsimp only at hyes hno;cbv;refine Be hs2 hn hy ?_;cbv;repeat'((first|refine And.intro ?_ ?_|fail)<;>cbv)
  ·exact hm
  ·(refine eW hf (⟨⟨nq1,cq1,sq1,frm1,to1,bq1,pq1,iq1,lq1⟩,st1,⟨sa1,ha1,ca1⟩,⟨sb1,hb1,cb1⟩,⟨sc1,hc1,cc1⟩⟩,who) [5,6,7,8,2] hin ?_;try dsimp only)
   rw[←hb];cases b with
   |true=>
    have hyes:=hyes rfl;cbv;repeat'((first|refine .zl fun zs hzs hzl=>?_|fail)<;>cbv)
    obtain rfl:zs=bJ .str (nH L (p who) s2):=by(rw[hyes,bW,cD];exact hzs)
    refine dW (Gh.back0 1 [5,6,7,8] fM rfl hy) ?_;cbv;exact bN ⟨(s2,k+1),hse2,hsk.symm⟩ (bO hlt)
   |false=>
    have hno:=hno rfl;rw[←hno];cbv;refine dW (Gh.back0 1 [5,6,7,8] fM rfl hy) ?_;cbv;exact bN ⟨(s2,k+1),hse2,hsk.symm⟩ (bO hlt)
 ·have hsort:=BZ (p:=p who) hse hall;rw[←hrw]at hsort;obtain⟨l,hl⟩:∃l,l=fW L (p who):=⟨_,rfl⟩
  rw[←hl]at hsort hK;cbv;refine AC hs 4 rw_ rfl (by omega) (by decide) ?_;rw[hsort];cbv
  (refine .r9 (Gh.plain 4 rfl) ?_;cbv;exact .inl (.g9 hK))
theorem EY (P:bI):bM P YN (R8 fun _=>true):=by
 intro args H K hc;obtain⟨y,rfl,rfl,hp,hK⟩:=hc;refine⟨cK,?_⟩;dsimp only at hp hK⊢;obtain⟨⟨nq1,cq1,sq1,frm1,to1,bq1,pq1,iq1,lq1⟩,st1,⟨sa1,ha1,ca1⟩,⟨sb1,hb1,cb1⟩,⟨sc1,hc1,cc1⟩⟩:=y;cbv
 (refine .q9 ?_;cbv;exact .inl (.f9 hK))
def lK (box:bH) (b:Br):Bool:=decide (b.st=0) && b.b.boxes.any fun x=>decide (box=x)
theorem Lq (P:bI) (hc:bK P 191 xS):bM P Yq (Ni lK):=by
 intro args H K hc;obtain⟨⟨y,who⟩,rfl,rfl,hp,hK⟩:=hc;refine⟨cK,?_⟩;dsimp only at hp hK⊢;unfold inB at hp;obtain⟨hp,hob⟩:=hp;unfold yS at hob;unfold lK at hK;obtain⟨q3,hq3⟩:∃q,q=y.b.boxes.any fun x=>decide (who=x):=⟨_,rfl⟩
 rw[←hq3]at hK;obtain⟨⟨nq1,cq1,sq1,frm1,to1,bq1,pq1,iq1,lq1⟩,st1,⟨sa1,ha1,ca1⟩,⟨sb1,hb1,cb1⟩,⟨sc1,hc1,cc1⟩⟩:=y;dsimp only at hK hob hq3;cbv;repeat'((first|refine .mk (fun h=>?_) fun h=>?_|fail)<;>cbv)
 ·(refine ZO hc (bq1,who) (by dsimp only;omega) ?_;try dsimp only)
  rw[←hq3];cbv
  (refine .q9 ?_;cbv;exact .inl (.f9 (cE hK (by rw[aH h];rfl))))
 ·(refine .q9 ?_;cbv;exact .inl (.f9 (cE hK (by rw[aG h];rfl))))
def Ib:dL:=spec (fun _:Rg=>[.ptr 0 0]) lR (fun R=>R.bills.length≤256∧∀b∈R.bills,inB b) (fun R=>.sl 1 (bJ .str (fW R.bills fun _=>true))) lR
theorem Il (P:bI) (hn:bK P 69 (R4 70 fun _=>true)):bM P YO Ib:=by
 intro args H K hc;obtain⟨⟨carrier,L⟩,rfl,rfl,hp,hK⟩:=hc;refine⟨cK,?_⟩;dsimp only at hp hK⊢;obtain⟨l,hl⟩:∃l,l=fW L fun _=>true:=⟨_,rfl⟩
 rw[←hl]at hK;cbv
 (refine eW hn (⟨carrier,L⟩:Rg) [0,1] hp ?_;try dsimp only)
 rw[←hl];cbv
 (refine .q9 ?_;cbv;exact .inl (.f9 hK))
def HK (L:List Br) (box:bH):bH×Bool:=match fW L (lK box) with
 |[]=>(⟨⟨[]⟩⟩,false)
 |n :: _=>(n,true)
def Ue:dL:=spec (fun i:Rg×bH=>[.ptr 0 0,.str i.2]) (fun i=>lR i.1) (fun i=>i.1.bills.length≤256∧∀b∈i.1.bills,inB b) (fun i=>Y6 (HK i.1.bills i.2)) fun i=>lR i.1
theorem Od (P:bI) (hn:bK P 69 (T0 190 lK)):bM P Xy Ue:=by
 intro args H K hc;obtain⟨⟨⟨carrier,L⟩,who⟩,rfl,rfl,hp,hK⟩:=hc;refine⟨cK,?_⟩;dsimp only at hp hK⊢;have hd:HK L who=match fW L (lK who) with
  |[]=>(⟨⟨[]⟩⟩,false)
  |n :: _=>(n,true):=rfl
 obtain⟨d,hdd⟩:∃d,d=HK L who:=⟨_,rfl⟩
 obtain⟨l,hl⟩:∃l,l=fW L (lK who):=⟨_,rfl⟩
 rw[←hdd]at hK hd;rw[←hl]at hd;cbv
 (refine eW hn ((⟨carrier,L⟩:Rg),who) [0,1,2] hp ?_;try dsimp only)
 rw[←hl];cases l with
 |nil=>
  cbv;repeat'((first|refine .y fun h=>?_|refine .k fun z hz=>?_|fail)<;>cbv)
  obtain rfl:=hd
  (refine .q9 ?_;cbv;exact .inl (.f9 hK))
 |cons x l=>
  dsimp only at hd;obtain rfl:=hd;cbv;repeat'((first|refine .n fun h=>?_|refine .k fun z hz=>?_|fail)<;>cbv)
  refine tS (f:=AV.str) (L:=x :: l) (i:=0) rfl ?_;cbv
  (refine .q9 ?_;cbv;exact .inl (.f9 hK))
def iK (s:bH):AV×AV:=(.str s,.bl true)
theorem CG (s:bH):∀(L:List bH) (i:Nat),oQ (.str s) (bJ iK L) i=some ((lI id L s).map (· + i))
 |[],i=>rfl
 |x :: L,i=>by
  have e:bJ iK (x :: L)=(.str x,.bl true) :: bJ iK L:=rfl;rw[e];unfold oQ lI;rw[List.findIdx?_cons];by_cases h:x=s
  ·have h2:mX (.str s) (.str x)=some true:=congrArg some ((MapKept.bytes_beq _ _).2 h.symm);simp only[h2];simp[h]
  ·have h3:¬s=x:=fun e=>h e.symm
   have h2:mX (.str s) (.str x)=some false:=congrArg some (Bool.eq_false_iff.2 fun hb=>h3 ((MapKept.bytes_beq _ _).1 hb));simp only[h2,CG s L (i+1),h,id,decide_false,aZ,if_false,Option.map_map,lI];congr 1;cases (L.findIdx? fun a=>decide (a=s)) with
   |none=>rfl
   |some n=>simp;omega
theorem oO {s:bH}{L:List bH}{K:Option (Nat×AV)→Prop}(hs:∀i,lI id L s=some i→K (some (i,.bl true))) (hn:lI id L s=none→K none):qN (.str s) (bJ iK L) K:=by
 refine⟨?_⟩;have hf:=CG s L 0;cases h:lI id L s with
 |some i=>
  obtain⟨y,hy,_⟩:=eB h;exact .inl ⟨i,_,_,by rw[hf,h];rfl,by rw[ZY,aD,hy];rfl,hs i h⟩
 |none=>exact .inr ⟨by rw[hf,h];rfl,hn h⟩
def Ev (L:List bH) (s:bH):Bool:=(lI id L s).isSome
def nX (ahead:List bH):List bH→Bool
 |[]=>true
 |b :: r=>(lF b && !Ev ahead b) && nX (ahead++[b]) r
theorem FQ {c:List bH}{k:Nat}{b:bH}(hb:c[k]?=some b):nX (c.take k) (c.drop k)=((lF b && !Ev (c.take k) b) && nX (c.take (k+1)) (c.drop (k+1))):=by
 obtain⟨hk,rfl⟩:=aA.1 hb;rw[List.drop_eq_getElem_cons hk,nX,List.take_succ_eq_append_getElem hk]
theorem B4 {c:List bH}{k:Nat}(hk:k=c.length):nX (c.take k) (c.drop k)=true:=by
 rw[List.drop_eq_nil_of_le (by omega),nX]
def yW (carrier:bH):Bl→Bool
 |⟨number,car,shipper,frm,to,boxes,parents,issued,_⟩=>
  ((bS number && bS shipper) && (bS frm && bS to)) && ((decide (car=carrier) && gP issued) && ((decide (1≤boxes.length∧boxes.length≤64∧parents.length≤64)) && (nX [] boxes && !(parents.any fun s=>!bS s))))
def Sy:dL:=spec (fun i:Rg×Bl=>[.ptr 0 0,J5 i.2]) (fun i=>lR i.1) (fun i=>yS i.2) (fun i=>.bl (yW i.1.carrier i.2)) fun i=>lR i.1
theorem Ma (P:bI) (hn:bK P 144 (iP (fun _=>True) bS)) (hr:bK P 187 (iP (fun _=>True) lF)) (hd:bK P 109 Eo) (hc:bK P 152 (Np 188 fun s=>!bS s)):bM P Xk Sy:=by
 intro args H K hc;obtain⟨⟨⟨carrier,L⟩,b⟩,rfl,rfl,hp,hK⟩:=hc;refine⟨cK,?_⟩;dsimp only at hp hK⊢;unfold yS at hp;obtain⟨nq1,cq1,sq1,frm1,to1,bq1,pq1,iq1,lq1⟩:=b;obtain⟨q,hq⟩:∃q,q=yW carrier ⟨nq1,cq1,sq1,frm1,to1,bq1,pq1,iq1,lq1⟩:=⟨_,rfl⟩
 rw[←hq]at hK;unfold yW at hq;dsimp only at hq hp;obtain⟨n1,hn1⟩:∃q,q=bS nq1:=⟨_,rfl⟩
 obtain⟨n2,hn2⟩:∃q,q=bS sq1:=⟨_,rfl⟩
 obtain⟨n3,hn3⟩:∃q,q=bS frm1:=⟨_,rfl⟩
 obtain⟨n4,hn4⟩:∃q,q=bS to1:=⟨_,rfl⟩
 obtain⟨n5,hn5⟩:∃q,q=gP iq1:=⟨_,rfl⟩
 obtain⟨n6,hn6⟩:∃q,q=(pq1.any fun s=>!bS s):=⟨_,rfl⟩
 obtain⟨n7,hn7⟩:∃q,q=nX (bq1.take 0) (bq1.drop 0):=⟨_,rfl⟩
 have hn7':nX [] bq1=n7:=hn7.symm;rw[←hn1,←hn2,←hn3,←hn4,←hn5,←hn6,hn7']at hq;clear hn7';cbv
 (refine ZO hn nq1 trivial ?_;try dsimp only)
 rw[←hn1];cases n1 with
 |false=>
  cbv
  (refine .q9 ?_;cbv;exact .inl (.f9 (cE hK (by rw[hq];rfl))))
 |true=>
 cbv
 (refine ZO hn sq1 trivial ?_;try dsimp only)
 rw[←hn2];cases n2 with
 |false=>
  cbv
  (refine .q9 ?_;cbv;exact .inl (.f9 (cE hK (by rw[hq];rfl))))
 |true=>
 cbv
 (refine ZO hn frm1 trivial ?_;try dsimp only)
 rw[←hn3];cases n3 with
 |false=>
  cbv
  (refine .q9 ?_;cbv;exact .inl (.f9 (cE hK (by rw[hq];rfl))))
 |true=>
 cbv
 (refine ZO hn to1 trivial ?_;try dsimp only)
 rw[←hn4];cases n4 with
 |false=>
  cbv
  (refine .q9 ?_;cbv;exact .inl (.f9 (cE hK (by rw[hq];rfl))))
 |true=>
 cbv;repeat'((first|refine .mk (fun h=>?_) fun h=>?_|fail)<;>cbv)
 rotate_left
 ·(refine .q9 ?_;cbv;exact .inl (.f9 (cE hK (by rw[hq,aG h];rfl))))
 ·rw[aH h]at hq
  (refine ZO hd iq1 trivial ?_;try dsimp only)
  rw[←hn5];cases n5 with
  |false=>
   cbv
   (refine .q9 ?_;cbv;exact .inl (.f9 (cE hK (by rw[hq];rfl))))
  |true=>
  cbv;repeat'((first|refine .mk (fun h=>?_) fun h=>?_|refine .k fun z hz=>?_|fail)<;>cbv)
  ·(refine .q9 ?_;cbv;exact .inl (.f9 (cE hK (by rw[hq,aG bQ];rfl))))
  ·(refine .q9 ?_;cbv;exact .inl (.f9 (cE hK (by rw[hq,aG bQ];rfl))))
  ·(refine .q9 ?_;cbv;exact .inl (.f9 (cE hK (by rw[hq,aG bQ];rfl))))
  ·rw[aH bQ]at hq;refine bU [] (fun q:{ k:Nat // k≤bq1.length∧n7=nX (bq1.take k) (bq1.drop k) }=>[(66,.i (nI q.1))]) (fun q=>[.blk 122 [.str carrier,.ph 1],.pool 120 (bJ fM L) [],.blk 79 [.str nq1,.str cq1,.str sq1,.str frm1,.str to1,.sl 1 (bJ .str bq1),.sl 1 (bJ .str pq1),.i iq1,.bl lq1],.map 70 (bJ iK (bq1.take q.1))]) (fun q=>fO 5001 q.1) ⟨0,aI _,hn7⟩ ?_;rintro ⟨k,hk,hb7⟩;dsimp only at hk hb7⊢;cbv;repeat'((first|refine .mk (fun h=>?_) fun h=>?_|fail)<;>cbv)
   ·refine cM bQ bQ fun i x hi hx=>?_
    obtain rfl:k=i:=bQ;have hg:=FQ hx;obtain⟨m,hm⟩:∃m,m=lF x:=⟨_,rfl⟩
    rw[←hm]at hg;cbv
    (refine ZO hr x trivial ?_;try dsimp only)
    rw[←hm];cases m with
    |false=>
     rw[hb7,hg]at hq;cbv
     (refine .q9 ?_;cbv;exact .inl (.f9 (cE hK (by rw[hq];rfl))))
    |true=>
     cbv;refine oO (fun j hj=>?_) (fun hj=>?_)
     ·have hh:Ev (bq1.take k) x=true:=by unfold Ev;rw[hj];rfl
      rw[hb7,hg,hh]at hq;cbv
      (refine .q9 ?_;cbv;exact .inl (.f9 (cE hK (by rw[hq];rfl))))
     ·have hh:Ev (bq1.take k) x=false:=by unfold Ev;rw[hj];rfl
      rw[hh]at hg;cbv;refine oO (fun j hj2=>?_) (fun _=>?_)
      ·rw[hj]at hj2;cases hj2
      cbv;repeat'((first|refine .k fun z hz=>?_|refine .ms fun ms hms=>?_|fail)<;>cbv)
      obtain rfl:ms=bJ iK (bq1.take (k+1)):=by
       rw[dO hx,bW,cD];exact hms
      obtain rfl:z=nI (k+1):=bQ;exact bN ⟨k+1,by exact bQ,hb7.trans hg⟩ (bO bQ)
   ·obtain rfl:k=bq1.length:=bQ;rw[B4 rfl]at hb7;subst hb7
    (refine ZO hc pq1 bQ ?_;try dsimp only)
    rw[←hn6];cases n6 with
    |false=>
     cbv
     (refine .q9 ?_;cbv;exact .inl (.f9 (cE hK (by rw[hq];rfl))))
    |true=>
     cbv
     (refine .q9 ?_;cbv;exact .inl (.f9 (cE hK (by rw[hq];rfl))))
structure oV where
 R:Rg
 b:Bl
 holder:bH
def uW (i:oV):List cG:=lR i.R++[.blk 45 [.ptr 0 0],.blk 79 (Yv i.b),.blk 9 [.str i.holder]]
structure Dt (i:oV):Prop where
 few:i.R.bills.length≤256
 all:∀b∈i.R.bills,inB b
 ok:yS i.b
def yP (args:List AV) (p:oV→Bool):dL:=spec (fun _:oV=>args) uW Dt (fun i=>.bl (p i)) uW
def i1 (i:oV):Bool:=!yW i.R.carrier i.b || !bS i.holder
def i2 (i:oV):Bool:=(rN i.R.bills i.b.number).isSome
def DY (i:oV) (box:bH):Bool:=(HK i.R.bills box).2
def i3 (i:oV):Bool:=i.b.boxes.any (DY i)
def i4 (i:oV):Bool:=decide (256≤i.R.bills.length)
theorem Lw (P:bI) (hm:bK P 149 Sy) (hn:bK P 144 (iP (fun _=>True) bS)):bM P Xj (yP [.ptr 2 0,.ptr 3 0,.ptr 4 0] i1):=by
 intro args H K hc;obtain⟨⟨⟨carrier,L⟩,b,holder⟩,rfl,rfl,hp,hK⟩:=hc;refine⟨cK,?_⟩;dsimp only at hp hK⊢;obtain⟨_,_,hok⟩:=hp;unfold i1 at hK;dsimp only at hK hok;obtain⟨n1,hn1⟩:∃q,q=yW carrier b:=⟨_,rfl⟩
 obtain⟨n2,hn2⟩:∃q,q=bS holder:=⟨_,rfl⟩
 rw[←hn1,←hn2]at hK;obtain⟨nq1,cq1,sq1,frm1,to1,bq1,pq1,iq1,lq1⟩:=b;cbv
 (refine eW hm ((⟨carrier,L⟩:Rg),⟨nq1,cq1,sq1,frm1,to1,bq1,pq1,iq1,lq1⟩) [0,1] hok ?_;try dsimp only)
 rw[←hn1];cases n1 with
 |false=>
  cbv
  (refine .q9 ?_;cbv;exact .inl (.f9 hK))
 |true=>
  cbv
  (refine ZO hn holder trivial ?_;try dsimp only)
  rw[←hn2];cases n2 with
  |false=>
   cbv
   (refine .q9 ?_;cbv;exact .inl (.f9 hK))
  |true=>
   cbv
   (refine .q9 ?_;cbv;exact .inl (.f9 hK))
theorem K8 (P:bI):bM P Xu (yP [.ptr 2 0,.ptr 3 0] i2):=by
 intro args H K hc;obtain⟨⟨⟨carrier,L⟩,b,holder⟩,rfl,rfl,hp,hK⟩:=hc;refine⟨cK,?_⟩;dsimp only at hp hK⊢;unfold i2 at hK;dsimp only at hK;obtain⟨n1,hn1⟩:∃q,q=(rN L b.number).isSome:=⟨_,rfl⟩
 rw[←hn1]at hK;obtain⟨nq1,cq1,sq1,frm1,to1,bq1,pq1,iq1,lq1⟩:=b;cbv;refine fC (fun b:Br=>b.b.number) (fun _=>rfl) (fun i y hai hy hky=>?_) (fun hai=>?_)<;>dsimp only at *
 ·have hn2:n1=true:=by rw[hn1];unfold rN;rw[hai];rfl
  obtain⟨⟨nq2,cq2,sq2,frm2,to2,bq2,pq2,iq2,lq2⟩,st2,⟨sa2,ha2,ca2⟩,⟨sb2,hb2,cb2⟩,⟨sc2,hc2,cc2⟩⟩:=y;cbv
  (refine .r9 (Gh.back0 1 [5,6,7,8] fM rfl hy) ?_;cbv;exact .inl (.f9 (cE hK hn2.symm)))
 ·have hn2:n1=false:=by rw[hn1];unfold rN;rw[hai];rfl
  cbv
  (refine .q9 ?_;cbv;exact .inl (.f9 (cE hK hn2.symm)))
theorem HY (P:bI) (hb:bK P 154 Ue):bM P WS (spec (fun i:oV×bH=>[.str i.2,.ptr 2 0]) (fun i=>uW i.1) (fun i=>Dt i.1) (fun i=>.bl (DY i.1 i.2)) fun i=>uW i.1):=by
 intro args H K hc;obtain⟨⟨⟨⟨carrier,L⟩,b,holder⟩,box⟩,rfl,rfl,hp,hK⟩:=hc;refine⟨cK,?_⟩;dsimp only at hp hK⊢;obtain⟨hfew,hall,hok⟩:=hp;dsimp only at hfew hall;unfold DY at hK;dsimp only at hK;obtain⟨⟨s,f⟩,hn1⟩:∃q,q=HK L box:=⟨_,rfl⟩
 rw[←hn1]at hK;obtain⟨nq1,cq1,sq1,frm1,to1,bq1,pq1,iq1,lq1⟩:=b;cbv
 (refine eW hb ((⟨carrier,L⟩:Rg),box) [0,1] ⟨hfew,hall⟩ ?_;try dsimp only)
 rw[←hn1];cbv
 (refine .q9 ?_;cbv;exact .inl (.f9 hK))
theorem K9 (P:bI):bM P Wx (yP [.ptr 2 0] i4):=by
 intro args H K hc;obtain⟨⟨⟨carrier,L⟩,b,holder⟩,rfl,rfl,hp,hK⟩:=hc;refine⟨cK,?_⟩;dsimp only at hp hK⊢;unfold i4 at hK;dsimp only at hK;obtain⟨n,hn⟩:∃n:Nat,n=L.length:=⟨_,rfl⟩
 rw[←hn]at hK;obtain⟨nq1,cq1,sq1,frm1,to1,bq1,pq1,iq1,lq1⟩:=b;cbv;repeat'((first|refine .mk (fun h=>?_) fun h=>?_|refine .k fun z hz=>?_|fail)<;>cbv)
 ·(refine .q9 ?_;cbv;exact .inl (.f9 (cE hK (aH bQ).symm)))
 ·(refine .q9 ?_;cbv;exact .inl (.f9 (cE hK (aG bQ).symm)))
def WZ:dL:=spec (fun i:oV×bH=>[.str i.2,.ptr 2 0]) (fun i=>uW i.1) (fun i=>Dt i.1) (fun i=>.bl (DY i.1 i.2)) fun i=>uW i.1
def O9:dL:=spec (fun i:oV=>[.sl 1 (bJ .str i.b.boxes),.clo 153 [.ptr 2 0]]) uW Dt (fun i=>.i (zA (DY i) i.b.boxes)) uW
theorem Lb (P:bI) (hm:dB P 153) (hf:bK P 153 WZ):bM P UT O9:=by
 intro args H K hc;obtain⟨i,rfl,rfl,hp,hK⟩:=hc;obtain⟨p,hpp⟩:∃p,p=DY i:=⟨_,rfl⟩
 have hok:=hp.ok;dsimp only at hK;rw[←hpp]at hK;obtain⟨⟨carrier,L⟩,b,holder⟩:=i;unfold yS at hok;obtain⟨nq1,cq1,sq1,frm1,to1,bq1,pq1,iq1,lq1⟩:=b;refine⟨cK,?_⟩;dsimp only at hok hK⊢;cbv;repeat'((first|refine .k fun z hz=>?_|fail)<;>cbv)
 refine bU [] (fun q:{ k:Nat // k≤bq1.length∧nO p bq1 k }=>[(8,.i (nI q.1))]) (fun _=>uW ⟨⟨carrier,L⟩,⟨nq1,cq1,sq1,frm1,to1,bq1,pq1,iq1,lq1⟩,holder⟩) (fun q=>fO 5001 q.1) ⟨0,aI _,.zero⟩ ?_;rintro ⟨k,hk,hn⟩;dsimp only at hk hn⊢;cbv;repeat'((first|refine .mk (fun h=>?_) fun h=>?_|fail)<;>cbv)
 ·refine cM bQ bQ fun j x hi hx=>?_
  obtain rfl:k=j:=bQ;cbv;repeat'((first|refine And.intro ?_ ?_|fail)<;>cbv)
  ·exact hm
  ·obtain⟨b,hb⟩:∃b,b=p x:=⟨_,rfl⟩
   (refine eW hf ((⟨⟨carrier,L⟩,⟨nq1,cq1,sq1,frm1,to1,bq1,pq1,iq1,lq1⟩,holder⟩:oV),x) [0,1,2,3,4] hp ?_;try dsimp only)
   rw[←hpp,←hb];cases b with
   |true=>
    cbv
    (refine .q9 ?_;cbv;exact .inl (.f9 (fX hK (by rw[Ey hn hx hb.symm]))))
   |false=>
    cbv;repeat'((first|refine .k fun z hz=>?_|fail)<;>cbv)
    obtain rfl:z=nI (k+1):=bQ;exact bN ⟨k+1,by exact bQ,hn.succ hx hb.symm⟩ (bO bQ)
 ·obtain rfl:k=bq1.length:=bQ
  (refine .q9 ?_;cbv;exact .inl (.f9 (fX hK (by rw[xG hn]))))
def Oo:dL:=spec (fun i:oV=>[.sl 1 (bJ .str i.b.boxes),.clo 153 [.ptr 2 0]]) uW Dt (fun i=>.bl (i3 i)) uW
theorem JK (P:bI) (hi:bK P 189 O9):bM P Vb Oo:=by
 intro args H K hc;obtain⟨i,rfl,rfl,hp,hK⟩:=hc;unfold i3 at hK;dsimp only at hK;rw[←Bm]at hK;obtain⟨e,he⟩:∃e,e=zA (DY i) i.b.boxes:=⟨_,rfl⟩
 rw[←he]at hK;obtain⟨⟨carrier,L⟩,b,holder⟩:=i;obtain⟨nq1,cq1,sq1,frm1,to1,bq1,pq1,iq1,lq1⟩:=b;refine⟨cK,?_⟩;dsimp only at hK⊢;cbv
 (refine eW hi (⟨⟨carrier,L⟩,⟨nq1,cq1,sq1,frm1,to1,bq1,pq1,iq1,lq1⟩,holder⟩:oV) [0,1,2,3,4] hp ?_;try dsimp only)
 rw[←he];cbv;repeat'((first|refine .mk (fun h=>?_) fun h=>?_|fail)<;>cbv)
 ·(refine .q9 ?_;cbv;exact .inl (.f9 (cE hK (by rw[aH h]))))
 ·(refine .q9 ?_;cbv;exact .inl (.f9 (cE hK (by rw[aG (by omega)]))))
theorem LD (P:bI) (hc:bK P 152 Oo):bM P XT (yP [.ptr 3 0,.ptr 2 0] i3):=by
 intro args H K hk;obtain⟨i,rfl,rfl,hp,hK⟩:=hk;obtain⟨q,hq⟩:∃q,q=i3 i:=⟨_,rfl⟩
 dsimp only at hK;rw[←hq]at hK;obtain⟨⟨carrier,L⟩,b,holder⟩:=i;obtain⟨nq1,cq1,sq1,frm1,to1,bq1,pq1,iq1,lq1⟩:=b;refine⟨cK,?_⟩;dsimp only at hK⊢;cbv
 (refine eW hc (⟨⟨carrier,L⟩,⟨nq1,cq1,sq1,frm1,to1,bq1,pq1,iq1,lq1⟩,holder⟩:oV) [0,1,2,3,4] hp ?_;try dsimp only)
 rw[←hq];cbv
 (refine .q9 ?_;cbv;exact .inl (.f9 hK))
def gR (i:oV):Int:=if i1 i then 1 else if i2 i then 5 else if i3 i then 9 else if i4 i then 7 else 0
def Wg:List AV:=[.i 1,.clo 148 [.ptr 2 0,.ptr 3 0,.ptr 4 0],.i 5,.clo 150 [.ptr 2 0,.ptr 3 0],.i 9,.clo 151 [.ptr 3 0,.ptr 2 0],.i 7,.clo 155 [.ptr 2 0]]
def M5 (i:oV):List cG:=uW i++[.hrow 210 2 4 Wg]
def Pd:dL:=spec (fun _:oV=>[.hd 5]) M5 Dt (fun i=>.i (gR i)) M5
structure XX (P:bI):Prop where
 m1:dB P 148
 m2:dB P 150
 m3:dB P 151
 m4:dB P 155
 f1:bK P 148 (yP [.ptr 2 0,.ptr 3 0,.ptr 4 0] i1)
 f2:bK P 150 (yP [.ptr 2 0,.ptr 3 0] i2)
 f3:bK P 151 (yP [.ptr 3 0,.ptr 2 0] i3)
 f4:bK P 155 (yP [.ptr 2 0] i4)
theorem FL (P:bI) (F:XX P):bM P Tp Pd:=by
 intro args H K hc;obtain⟨i,rfl,rfl,hp,hK⟩:=hc;dsimp only at hK;have he:gR i=if i1 i then 1 else if i2 i then 5 else if i3 i then 9 else if i4 i then 7 else 0:=rfl
 obtain⟨e,hee⟩:∃e,e=gR i:=⟨_,rfl⟩
 rw[←hee]at hK he;obtain⟨q1,hq1⟩:∃q,q=i1 i:=⟨_,rfl⟩
 obtain⟨q2,hq2⟩:∃q,q=i2 i:=⟨_,rfl⟩
 obtain⟨q3,hq3⟩:∃q,q=i3 i:=⟨_,rfl⟩
 obtain⟨q4,hq4⟩:∃q,q=i4 i:=⟨_,rfl⟩
 rw[←hq1,←hq2,←hq3,←hq4]at he;obtain⟨⟨carrier,L⟩,b,holder⟩:=i;obtain⟨nq1,cq1,sq1,frm1,to1,bq1,pq1,iq1,lq1⟩:=b;refine⟨cK,?_⟩;dsimp only at hK⊢;cbv;refine bU [] (fun p:{ k:Nat // k≤4∧(1≤k→q1=false)∧(2≤k→q2=false)∧(3≤k→q3=false)∧(4≤k→q4=false) }=>[(7,.i (nI p.1))]) (fun _=>M5 ⟨⟨carrier,L⟩,⟨nq1,cq1,sq1,frm1,to1,bq1,pq1,iq1,lq1⟩,holder⟩) (fun p=>fO 4 p.1) ⟨0,by decide,fun h=>absurd h (by decide),fun h=>absurd h (by decide),fun h=>absurd h (by decide),fun h=>absurd h (by decide)⟩ ?_;rintro ⟨k,hk,g1,g2,g3,g4⟩;dsimp only at hk g1 g2 g3 g4⊢;have hk4:k=0∨k=1∨k=2∨k=3∨k=4:=by omega
 rcases hk4 with rfl|rfl|rfl|rfl|rfl
 ·cbv;repeat'((first|refine .y fun h=>?_|refine .o ?_|refine And.intro ?_ ?_|fail)<;>cbv)
  ·exact F.m1
  ·have e0:True:=trivial
   (refine eW F.f1 (⟨⟨carrier,L⟩,⟨nq1,cq1,sq1,frm1,to1,bq1,pq1,iq1,lq1⟩,holder⟩:oV) [0,1,2,3,4] hp ?_;try dsimp only)
   rw[←hq1];cases q1 with
   |true=>
    cbv
    (refine .q9 ?_;cbv;exact .inl (.f9 (fX hK (by rw[he];rfl))))
   |false=>
    cbv;repeat'((first|refine .k fun z hz=>?_|fail)<;>cbv)
    obtain rfl:z=nI 1:=bQ;exact bN ⟨1,by decide,fun _=>rfl,fun h=>absurd h (by decide),fun h=>absurd h (by decide),fun h=>absurd h (by decide)⟩ (bO (by decide))
 ·cbv;repeat'((first|refine .y fun h=>?_|refine .o ?_|refine And.intro ?_ ?_|fail)<;>cbv)
  ·exact F.m2
  ·have e0:True:=trivial;have e1:=g1 (by decide)
   (refine eW F.f2 (⟨⟨carrier,L⟩,⟨nq1,cq1,sq1,frm1,to1,bq1,pq1,iq1,lq1⟩,holder⟩:oV) [0,1,2,3,4] hp ?_;try dsimp only)
   rw[←hq2];cases q2 with
   |true=>
    cbv
    (refine .q9 ?_;cbv;exact .inl (.f9 (fX hK (by rw[he,e1];rfl))))
   |false=>
    cbv;repeat'((first|refine .k fun z hz=>?_|fail)<;>cbv)
    obtain rfl:z=nI 2:=bQ;exact bN ⟨2,by decide,fun _=>g1 (by decide),fun _=>rfl,fun h=>absurd h (by decide),fun h=>absurd h (by decide)⟩ (bO (by decide))
 ·cbv;repeat'((first|refine .y fun h=>?_|refine .o ?_|refine And.intro ?_ ?_|fail)<;>cbv)
  ·exact F.m3
  ·have e0:True:=trivial;have e1:=g1 (by decide);have e2:=g2 (by decide)
   (refine eW F.f3 (⟨⟨carrier,L⟩,⟨nq1,cq1,sq1,frm1,to1,bq1,pq1,iq1,lq1⟩,holder⟩:oV) [0,1,2,3,4] hp ?_;try dsimp only)
   rw[←hq3];cases q3 with
   |true=>
    cbv
    (refine .q9 ?_;cbv;exact .inl (.f9 (fX hK (by rw[he,e1,e2];rfl))))
   |false=>
    cbv;repeat'((first|refine .k fun z hz=>?_|fail)<;>cbv)
    obtain rfl:z=nI 3:=bQ;exact bN ⟨3,by decide,fun _=>g1 (by decide),fun _=>g2 (by decide),fun _=>rfl,fun h=>absurd h (by decide)⟩ (bO (by decide))
 ·cbv;repeat'((first|refine .y fun h=>?_|refine .o ?_|refine And.intro ?_ ?_|fail)<;>cbv)
  ·exact F.m4
  ·have e0:True:=trivial;have e1:=g1 (by decide);have e2:=g2 (by decide);have e3:=g3 (by decide)
   (refine eW F.f4 (⟨⟨carrier,L⟩,⟨nq1,cq1,sq1,frm1,to1,bq1,pq1,iq1,lq1⟩,holder⟩:oV) [0,1,2,3,4] hp ?_;try dsimp only)
   rw[←hq4];cases q4 with
   |true=>
    cbv
    (refine .q9 ?_;cbv;exact .inl (.f9 (fX hK (by rw[he,e1,e2,e3];rfl))))
   |false=>
    cbv;repeat'((first|refine .k fun z hz=>?_|fail)<;>cbv)
    obtain rfl:z=nI 4:=bQ;exact bN ⟨4,by decide,fun _=>g1 (by decide),fun _=>g2 (by decide),fun _=>g3 (by decide),fun _=>rfl⟩ (bO (by decide))
 ·have e1:=g1 (by decide);have e2:=g2 (by decide);have e3:=g3 (by decide);have e4:=g4 (by decide);cbv;repeat'((first|refine .n fun h=>?_|fail)<;>cbv)
  (refine .q9 ?_;cbv;exact .inl (.f9 (fX hK (by rw[he,e1,e2,e3,e4];rfl))))
theorem cZ {M:Nat}{res:List C5}{K:AV→List cG→Prop}{st st1:St}(hg:Gh M st st1) (h:bY M res K st1):bY M res K st:=by
 obtain⟨st',h1,h2⟩:=h;exact⟨⟨st',hg.trans h1,h2⟩⟩
theorem oJ {α:Type}{f:α→Bd}{L:List α}(key:α→bH) (hf:∀a,(f a).1=.str (key a)) {s:bH}{outs:List (Nat×AV)}{v:AV}{K:List Bd→List (Nat×AV)→Prop}(ha:lI key L s=none) (h:∀es n,es=bJ f L++[(.str s,.any,[])]→n=L.length→K es ((n,v) :: outs)):Qs (.str s) (bJ f L) outs v K:=
 Nz key hf ha (h _ _ rfl rfl)
theorem Gh.backN2 {α:Type}{M:Nat}{st:St}(k:Nat) (sel:List Nat) (f:α→Bd) {L L':List α}(y:α) {es:List Bd}{n:Nat}{t:TypeId}{x:AV}(hes:es=bJ f L++[((f y).1,.any,[])]) (hn:n=L.length) (hL':L'=L++[y]) (hk:st.H[k]?=some (.pool t es [(n,x)]):=by rfl)
  (hx:x=(f y).2.1.ren sel 0:=by rfl) (hH:sel.map (fun q=>st.H[q]?)=(gJ sel 0 (f y).2.2).map some:=by rfl) (hnd:sel.Nodup:=by decide) (hsel:sel.all (fun q=>Nat.ble M q && q != k)=true:=by decide) (hb:(f y).2.1.bnd sel.length=true:=by rfl) (hbH:fG sel.length (f y).2.2=true:=by rfl) (hpl:(f y).2.2.all wM=true:=by rfl) :
  Gh M st ⟨iT st.T sel,BJ (gQ (st.H.set k (.pool t (bJ f L') [])) sel) sel⟩:=by
 subst hes hn hL';exact Gh.backN k sel f y hk rfl hx hH hnd hsel hb hbH hpl
def Sl (b:Bl) (holder:bH):Br:=⟨b,0,⟨0,holder,[]⟩,⟨0,holder,[]⟩,⟨0,holder,[]⟩⟩
def kB (i:oV):Rg:=if gR i=0 then ⟨i.R.carrier,i.R.bills++[Sl i.b i.holder]⟩ else i.R
def HB:dL:=spec (fun i:oV=>[.ptr 0 0,J5 i.b,.str i.holder]) (fun i=>lR i.R) Dt (fun i=>.i (gR i)) fun i=>lR (kB i)
theorem Iz (P:bI) (hf:bK P 105 Pd) (hcp:bK P 54 G1):bM P X4 HB:=by
 intro args H K hc;obtain⟨i,rfl,rfl,hp,hK⟩:=hc;dsimp only at hK;have hok:=hp.ok;obtain⟨e,he⟩:∃e,e=gR i:=⟨_,rfl⟩
 obtain⟨R',hR'⟩:∃R',R'=kB i:=⟨_,rfl⟩
 rw[←he,←hR']at hK;unfold kB at hR';rw[←he]at hR';have hi2:e=0→i2 i=false:=fun h=>by
  rw[h]at he;unfold gR at he;cases h2:i2 i with
  |false=>rfl
  |true=>
   rw[h2]at he;cases h1:i1 i with
   |false=>rw[h1]at he;simp at he
   |true=>rw[h1]at he;simp at he
 obtain⟨⟨carrier,L⟩,b,holder⟩:=i;dsimp only at hR' hok;obtain⟨nq1,cq1,sq1,frm1,to1,bq1,pq1,iq1,lq1⟩:=b;refine⟨cK,?_⟩;dsimp only at hK⊢;cbv
 (refine eW hf (⟨⟨carrier,L⟩,⟨nq1,cq1,sq1,frm1,to1,bq1,pq1,iq1,lq1⟩,holder⟩:oV) [0,1,2,3,4,5] hp ?_;try dsimp only)
 rw[←he];cbv;repeat'((first|refine .mk (fun h=>?_) fun h=>?_|fail)<;>cbv)
 ·rw[aF h]at hR';rw[h]at hK;have hn2:=hi2 h;unfold i2 at hn2;dsimp only at hn2
  (refine ZO hcp ⟨nq1,cq1,sq1,frm1,to1,bq1,pq1,iq1,lq1⟩ hok ?_;try dsimp only)
  cbv;refine bU [] (fun p:{ k:Nat // k≤3 }=>[(27,.i (nI p.1))]) (fun p=>[.blk 122 [.str carrier,.ph 1],.pool 120 (bJ fM L) [],.blk 45 [.ptr 0 0],.blk 79 [.str nq1,.str cq1,.str sq1,.str frm1,.str to1,.sl 1 (bJ .str bq1),.sl 1 (bJ .str pq1),.i iq1,.bl lq1],.blk 9 [.str holder],.hrow 210 2 4 Wg,.blk 127 (gB p.1 [.str nq1,.str cq1,.str sq1,.str frm1,.str to1,.sl 1 (bJ .str bq1),.sl 1 (bJ .str pq1),.i iq1,.bl lq1,.i 0,.i 0,.str ⟨⟨[]⟩⟩,.v (.slice none 0 0),.i 0,.str ⟨⟨[]⟩⟩,.v (.slice none 0 0),.i 0,.str ⟨⟨[]⟩⟩,.v (.slice none 0 0)] [.str nq1,.str cq1,.str sq1,.str frm1,.str to1,.sl 1 (bJ .str bq1),.sl 1 (bJ .str pq1),.i iq1,.bl lq1,.i 0,.i 0,.str holder,.v (.slice none 0 0),.i 0,.str ⟨⟨[]⟩⟩,.v (.slice none 0 0),.i 0,.str ⟨⟨[]⟩⟩,.v (.slice none 0 0)] [.str nq1,.str cq1,.str sq1,.str frm1,.str to1,.sl 1 (bJ .str bq1),.sl 1 (bJ .str pq1),.i iq1,.bl lq1,.i 0,.i 0,.str holder,.v (.slice none 0 0),.i 0,.str holder,.v (.slice none 0 0),.i 0,.str ⟨⟨[]⟩⟩,.v (.slice none 0 0)] [.str nq1,.str cq1,.str sq1,.str frm1,.str to1,.sl 1 (bJ .str bq1),.sl 1 (bJ .str pq1),.i iq1,.bl lq1,.i 0,.i 0,.str holder,.v (.slice none 0 0),.i 0,.str holder,.v (.slice none 0 0),.i 0,.str holder,.v (.slice none 0 0)])]) (fun p=>fO 3 p.1) ⟨0,by decide⟩ ?_;rintro ⟨k,hk⟩;dsimp only at hk⊢;have hk4:k=0∨k=1∨k=2∨k=3:=by omega
  rcases hk4 with rfl|rfl|rfl|rfl
  ·cbv;repeat'((first|refine .n fun h=>?_|refine .y fun h=>?_|refine .k fun z hz=>?_|refine .o ?_|fail)<;>cbv)
   obtain rfl:z=nI 1:=bQ;exact bN ⟨1,by decide⟩ (bO (by decide))
  ·cbv;repeat'((first|refine .n fun h=>?_|refine .y fun h=>?_|refine .k fun z hz=>?_|refine .o ?_|fail)<;>cbv)
   obtain rfl:z=nI 2:=bQ;exact bN ⟨2,by decide⟩ (bO (by decide))
  ·cbv;repeat'((first|refine .y fun h=>?_|refine .k fun z hz=>?_|refine .o ?_|fail)<;>cbv)
   obtain rfl:z=nI 3:=bQ;exact bN ⟨3,by decide⟩ (bO (by decide))
  ·cbv;repeat'((first|refine .n fun h=>?_|fail)<;>cbv)
   have hat:lI (fun b:Br=>b.b.number) L nq1=none:=by
    cases hx:lI (fun b:Br=>b.b.number) L nq1 with
    |none=>rfl
    |some j=>
     unfold rN at hn2;rw[hx]at hn2;cases hn2
   refine oJ (fun b:Br=>b.b.number) (fun _=>rfl) hat (fun es n hes hn=>?_);cbv;obtain⟨L',hL'⟩:∃L',L'=L++[(⟨⟨nq1,cq1,sq1,frm1,to1,bq1,pq1,iq1,lq1⟩,0,⟨0,holder,[]⟩,⟨0,holder,[]⟩,⟨0,holder,[]⟩⟩:Br)]:=⟨_,rfl⟩
   obtain rfl:R'=⟨carrier,L'⟩:=by rw[hR',hL'];rfl
   refine cZ (Gh.adoptC 6 12 180 4 rfl rfl) ?_;cbv;refine cZ (Gh.adoptC 6 15 180 4 rfl rfl) ?_;cbv;refine cZ (Gh.adoptC 6 18 180 4 rfl rfl) ?_;cbv;refine cZ (Gh.publish 7 rfl) ?_;cbv;refine cZ (Gh.publish 8 rfl) ?_;cbv;refine cZ (Gh.publish 9 rfl) ?_;cbv;refine cZ (Gh.backN2 1 [6,7,8,9] fM ⟨⟨nq1,cq1,sq1,frm1,to1,bq1,pq1,iq1,lq1⟩,0,⟨0,holder,[]⟩,⟨0,holder,[]⟩,⟨0,holder,[]⟩⟩ hes hn hL') ?_;cbv
   (refine .q9 ?_;cbv;exact .inl (.f9 hK))
 ·rw[aE h]at hR';subst hR'
  (refine .q9 ?_;cbv;exact .inl (.f9 hK))
set_option maxHeartbeats 4000000
def sP {ι κ:Type}(a:ι→List AV) (h:ι→List cG) (p:ι→Prop) (q:ι→κ→Prop) (r:ι→κ→AV) (h':ι→κ→List cG):dL:=fun args H K=>∃i,args=a i∧H=h i∧p i∧∀k,q i k→K (r i k) (h' i k)
theorem cW {P:bI}{f:Nat}{ι κ:Type}{a:ι→List AV}{h:ι→List cG}{p:ι→Prop}{q:ι→κ→Prop}{r:ι→κ→AV}{h':ι→κ→List cG}(hf:bK P f (sP a h p q r h')) (i:ι) (sel:List Nat) {keep:List Nat}{args:List AV}{st:St}{K:AV→St→Prop}
  (hp:p i) (ha:args=AV.renL sel st.H.length (a i)) (hlen:sel.length=(h i).length) (hnd:sel.Nodup) (hlt:(sel.all fun k=>Nat.blt k st.H.length)=true) (hH:sel.map (fun k=>st.H[k]?)=(gJ sel st.H.length (h i)).map some)
  (hb:AV.bndL (h i).length (a i)=true) (hbH:fG (h i).length (h i)=true) (hkeep:(keep.all fun k=>!sel.contains k && Nat.blt k st.H.length)=true)
  (hK:∀k,q i k→K ((r i k).ren sel st.H.length) ⟨iT st.T (fY sel (h i)),sG (gQ st.H (fY sel (h i))) sel (gJ sel st.H.length (h' i k))⟩):gC P keep f args st K:=
 vK hf sel ha hlen hnd (fun k hk=>by simpa [Nat.blt_eq]using aT.1 hlt k hk) hH hb hbH (fun k hk=>by
  have:=aT.1 hkeep k hk;simp only[aO,Bool.not_eq_true',Nat.blt_eq]at this;exact⟨fun h=>by rw[List.contains_eq_mem]at this;simp[h]at this,this.2⟩) ⟨i,rfl,rfl,hp,hK⟩
def lJ (L:List Br):Prop:=(L.map fun b=>b.b.number).Nodup
theorem tC {α:Type}{l:List α}(h:l.Nodup) {i j:Nat}{hi:i < l.length}{hj:j < l.length}(e:l[i]=l[j]):i=j:=by
 rcases Nat.lt_trichotomy i j with h1|h1|h1
 ·exact absurd e (List.pairwise_iff_getElem.1 h i j hi hj h1)
 ·exact h1
 ·exact absurd e.symm (List.pairwise_iff_getElem.1 h j i hj hi h1)
set_option maxHeartbeats 2000000
def zE:Br→List AV
 |⟨⟨number,carrier,shipper,frm,to,boxes,parents,issued,clean⟩,st,⟨sa,ha,ca⟩,⟨sb,hb,cb⟩,⟨sc,hc,cc⟩⟩=>
  [.str number,.str carrier,.str shipper,.str frm,.str to,.sl 1 (bJ .str boxes),.sl 1 (bJ .str parents),.i issued,.bl clean,.i st,.sl 3 [.agg [.i sa,.str ha,.sl 4 (bJ bV ca)],.agg [.i sb,.str hb,.sl 4 (bJ bV cb)],.agg [.i sc,.str hc,.sl 4 (bJ bV cc)]]]
def jF (b:Br):AV:=.agg (zE b)
def KF:Rg→AV
 |⟨c,l⟩=>.agg [.str c,.sl 11 (bJ jF l)]
structure At where
 kind:Int
 index:Int
 day:Int
 bill:bH
 by_:bH
 to:bH
 b:Bl
def yZ:At→List AV
 |⟨kind,index,day,bill,by_,to,⟨number,carrier,shipper,frm,to2,boxes,parents,issued,clean⟩⟩=>[.i kind,.i index,.i day,.str bill,.str by_,.str to,.str number,.str carrier,.str shipper,.str frm,.str to2,.sl 1 (bJ .str boxes),.sl 1 (bJ .str parents),.i issued,.bl clean]
def Pi (a:At):AV:=.agg (yZ a)
def pE {α:Type}(p:α→Bool) (l:List α):Int:=match l.findIdx? p with
 |some i=>Int.ofNat i
 |none=>-1
def jY {α:Type}(p:α→Bool) (l:List α) (k:Nat):Prop:=∀j y,j < k→l[j]?=some y→p y=false
theorem jY.zero {α:Type}{p:α→Bool}{l:List α}:jY p l 0:=fun j y h=>absurd h (Nat.not_lt_zero j)
theorem jY.succ {α:Type}{p:α→Bool}{l:List α}{k:Nat}{x:α}(h:jY p l k) (hx:l[k]?=some x) (hp:p x=false):jY p l (k+1):=fun j y hj hy=>by
 rcases aL j k with h1|h1
 ·exact h j y h1 hy
 ·obtain rfl:j=k:=by omega
  rw[hx]at hy;cases hy;exact hp
theorem Jq {α:Type}{p:α→Bool}{l:List α}{k:Nat}{x:α}(h:jY p l k) (hx:l[k]?=some x) (hp:p x=true):pE p l=Int.ofNat k:=by
 obtain⟨hk,rfl⟩:=aA.1 hx;have e:l.findIdx? p=some k:=List.findIdx?_eq_some_iff_getElem.2 ⟨hk,hp,fun j hj=>by rw[h j _ hj (aB (by omega))];decide⟩;unfold pE;rw[e]
theorem CR {α:Type}{p:α→Bool}{l:List α}(h:jY p l l.length):pE p l=-1:=by
 have e:l.findIdx? p=none:=List.findIdx?_eq_none_iff.2 fun x hx=>by
  obtain⟨j,hj,rfl⟩:=List.mem_iff_getElem.1 hx;exact h j _ hj (aB hj)
 unfold pE;rw[e]
theorem iW {α:Type}{p:α→Bool}{l:List α}(h:jY p l l.length):l.any p=false:=by
 rw[List.any_eq_false];intro x hx;obtain⟨j,hj,rfl⟩:=List.mem_iff_getElem.1 hx;rw[h j _ hj (aB hj)];decide
theorem gK {α:Type}{p:α→Bool}{l:List α}{k:Nat}{x:α}(hx:l[k]?=some x) (hp:p x=true):l.any p=true:=List.any_eq_true.2 ⟨x,aC hx,hp⟩
theorem J6 (P:bI):bM P XH Eo:=by
 intro args H K hc;obtain⟨z,rfl,rfl,hp,hK⟩:=hc;refine⟨cK,?_⟩;dsimp only at hp hK⊢;cbv;repeat'((first|refine .mk (fun h=>?_) fun h=>?_|fail)<;>cbv)
 all_goals exact bY.mk ⟨_,Gh.refl _,.inl (.v9 (cE hK (by(unfold gP;simp;omega))))⟩
def Wo:dL:=spec (fun i:List bH×bH=>[.sl 1 (bJ .str i.1),.str i.2]) (fun _=>[]) (fun i=>i.1.length≤5000) (fun i=>.bl (i.1.any fun x=>decide (i.2=x))) fun _=>[]
theorem PD (P:bI):bM P WC Wo:=by
 intro args H K hc;obtain⟨⟨l,s⟩,rfl,rfl,hp,hK⟩:=hc;refine⟨cK,?_⟩;dsimp only at hp hK⊢;obtain⟨p,hpp⟩:∃p:bH→Bool,p=fun x=>decide (s=x):=⟨_,rfl⟩
 rw[←hpp]at hK;have hpx:∀x,p x=decide (s=x):=fun x=>by rw[hpp]
 clear hpp;cbv;refine bU [] (fun q:{ k:Nat // k≤l.length∧jY p l k }=>[(5,.i (nI q.1))]) (fun _=>[]) (fun q=>fO 5001 q.1) ⟨0,aI _,.zero⟩ ?_;rintro ⟨k,hk,hn⟩;dsimp only at hk hn⊢;cbv;repeat'((first|refine .mk (fun h=>?_) fun h=>?_|refine .k fun z hz=>?_|fail)<;>cbv)
 ·refine cM bQ bQ fun i x hi hx=>?_
  obtain rfl:k=i:=bQ;cbv;repeat'((first|refine .mk (fun h=>?_) fun h=>?_|refine .k fun z hz=>?_|fail)<;>cbv)
  ·exact bY.mk ⟨_,Gh.refl _,.inl (.v9 (cE hK (by(rw[gK hx ((hpx x).trans (aH h.symm))]))))⟩
  ·obtain rfl:z=nI (k+1):=bQ;exact bN ⟨k+1,by exact bQ,hn.succ hx ((hpx x).trans (aG fun e=>h e.symm))⟩ (bO bQ)
 ·obtain rfl:k=l.length:=bQ;exact bY.mk ⟨_,Gh.refl _,.inl (.v9 (cE hK (by(rw[iW hn]))))⟩
def Hn:dL:=spec (fun l:List bH=>[.sl 1 (bJ .str l)]) (fun _=>[]) (fun l=>l.length≤5000∧∀s∈l,s.size≤maxLen) (fun l=>.bl (!(l.any fun s=>!bS s))) fun _=>[]
theorem Ii (P:bI) (hnm:bK P 133 (iP (fun s=>s.size≤maxLen) bS)):bM P Yo Hn:=by
 intro args H K hc;obtain⟨l,rfl,rfl,hp,hK⟩:=hc;refine⟨cK,?_⟩;dsimp only at hp hK⊢;obtain⟨hp,hsz⟩:=hp;obtain⟨p,hpp⟩:∃p:bH→Bool,p=fun s=>!bS s:=⟨_,rfl⟩
 rw[←hpp]at hK;have hpx:∀x,p x=!bS x:=fun x=>by rw[hpp]
 clear hpp;cbv;refine bU [] (fun q:{ k:Nat // k≤l.length∧jY p l k }=>[(3,.i (nI q.1))]) (fun _=>[]) (fun q=>fO 5001 q.1) ⟨0,aI _,.zero⟩ ?_;rintro ⟨k,hk,hn⟩;dsimp only at hk hn⊢;cbv;repeat'((first|refine .mk (fun h=>?_) fun h=>?_|refine .k fun z hz=>?_|fail)<;>cbv)
 ·refine cM bQ bQ fun i x hi hx=>?_
  obtain rfl:k=i:=bQ;have hx2:=hpx x;obtain⟨n,hn1⟩:∃n,n=bS x:=⟨_,rfl⟩
  rw[←hn1]at hx2;cbv
  (refine ZO hnm x (hsz x (aC hx)) ?_;try dsimp only)
  rw[←hn1];cases n with
  |false=>
   cbv;exact bY.mk ⟨_,Gh.refl _,.inl (.v9 (cE hK (by(rw[gK hx hx2];rfl))))⟩
  |true=>
   cbv;repeat'((first|refine .k fun z hz=>?_|fail)<;>cbv)
   obtain rfl:z=nI (k+1):=bQ;exact bN ⟨k+1,by exact bQ,hn.succ hx hx2⟩ (bO bQ)
 ·obtain rfl:k=l.length:=bQ;exact bY.mk ⟨_,Gh.refl _,.inl (.v9 (cE hK (by(rw[iW hn];rfl))))⟩
def sO:dL:=spec (fun i:Rg×bH=>[KF i.1,.str i.2]) (fun _=>[]) (fun i=>i.1.bills.length≤5000) (fun i=>.i (pE (fun b:Br=>decide (b.b.number=i.2)) i.1.bills)) fun _=>[]
theorem Ku (P:bI):bM P YS sO:=by
 intro args H K hc;obtain⟨⟨⟨carrier,L⟩,s⟩,rfl,rfl,hp,hK⟩:=hc;refine⟨cK,?_⟩;dsimp only at hp hK⊢;obtain⟨p,hpp⟩:∃p:Br→Bool,p=fun b=>decide (b.b.number=s):=⟨_,rfl⟩
 rw[←hpp]at hK;have hpx:∀x,p x=decide (x.b.number=s):=fun x=>by rw[hpp]
 clear hpp;cbv;refine bU [] (fun q:{ k:Nat // k≤L.length∧jY p L k }=>[(5,.i (nI q.1))]) (fun _=>[.blk 38 [.str carrier,.sl 11 (bJ jF L)]]) (fun q=>fO 5001 q.1) ⟨0,aI _,.zero⟩ ?_;rintro ⟨k,hk,hn⟩;dsimp only at hk hn⊢;cbv;repeat'((first|refine .mk (fun h=>?_) fun h=>?_|refine .k fun z hz=>?_|fail)<;>cbv)
 ·refine cM bQ bQ fun i x hi hx=>?_
  obtain rfl:k=i:=bQ;have hx2:=hpx x;obtain⟨⟨nq1,cq1,sq1,frm1,to1,bq1,pq1,iq1,lq1⟩,st1,⟨sa1,ha1,ca1⟩,⟨sb1,hb1,cb1⟩,⟨sc1,hc1,cc1⟩⟩:=x;dsimp only at hx2;cbv;repeat'((first|refine .mk (fun h=>?_) fun h=>?_|refine .k fun z hz=>?_|fail)<;>cbv)
  ·rw[aH h]at hx2;exact bY.mk ⟨_,Gh.refl _,.inl (.v9 (fX hK (by(rw[Jq hn hx hx2]))))⟩
  ·rw[aG h]at hx2;obtain rfl:z=nI (k+1):=bQ;exact bN ⟨k+1,by exact bQ,hn.succ hx hx2⟩ (bO bQ)
 ·obtain rfl:k=L.length:=bQ;exact bY.mk ⟨_,Gh.refl _,.inl (.v9 (fX hK (by(rw[CR hn]))))⟩
def MY:dL:=spec (fun i:Rg×bH=>[KF i.1,.str i.2]) (fun _=>[]) (fun i=>i.1.bills.length≤5000∧∀b∈i.1.bills,yS b.b) (fun i=>.i (pE (lK i.2) i.1.bills)) fun _=>[]
theorem LA (P:bI) (hin:bK P 177 Wo):bM P Xg MY:=by
 intro args H K hc;obtain⟨⟨⟨carrier,L⟩,s⟩,rfl,rfl,hp,hK⟩:=hc;refine⟨cK,?_⟩;dsimp only at hp hK⊢;obtain⟨hp,hob⟩:=hp;obtain⟨p,hpp⟩:∃p:Br→Bool,p=lK s:=⟨_,rfl⟩
 rw[←hpp]at hK;have hpx:∀x,p x=(decide (x.st=0) && x.b.boxes.any fun y=>decide (s=y)):=fun x=>by rw[hpp];rfl
 clear hpp;cbv;refine bU [] (fun q:{ k:Nat // k≤L.length∧jY p L k }=>[(5,.i (nI q.1))]) (fun _=>[.blk 38 [.str carrier,.sl 11 (bJ jF L)]]) (fun q=>fO 5001 q.1) ⟨0,aI _,.zero⟩ ?_;rintro ⟨k,hk,hn⟩;dsimp only at hk hn⊢;cbv;repeat'((first|refine .mk (fun h=>?_) fun h=>?_|refine .k fun z hz=>?_|fail)<;>cbv)
 ·refine cM bQ bQ fun i x hi hx=>?_
  obtain rfl:k=i:=bQ;have hx2:=hpx x;have ho:=hob x (aC hx);obtain⟨m,hm⟩:∃m,m=x.b.boxes.any fun y=>decide (s=y):=⟨_,rfl⟩
  rw[←hm]at hx2;unfold yS at ho;obtain⟨⟨nq1,cq1,sq1,frm1,to1,bq1,pq1,iq1,lq1⟩,st1,⟨sa1,ha1,ca1⟩,⟨sb1,hb1,cb1⟩,⟨sc1,hc1,cc1⟩⟩:=x;dsimp only at hx2 ho hm;cbv;repeat'((first|refine .e ?_|refine .mk (fun h=>?_) fun h=>?_|refine .k fun z hz=>?_|fail)<;>cbv)
  ·rw[aH h]at hx2
   (refine ZO hin (bq1,s) (by dsimp only;omega) ?_;try dsimp only)
   rw[←hm];cases m with
   |true=>
    cbv;exact bY.mk ⟨_,Gh.refl _,.inl (.v9 (fX hK (by(rw[Jq hn hx hx2]))))⟩
   |false=>
    cbv;repeat'((first|refine .k fun z hz=>?_|fail)<;>cbv)
    obtain rfl:z=nI (k+1):=bQ;exact bN ⟨k+1,by exact bQ,hn.succ hx hx2⟩ (bO bQ)
  ·rw[aG h]at hx2;obtain rfl:z=nI (k+1):=bQ;exact bN ⟨k+1,by exact bQ,hn.succ hx hx2⟩ (bO bQ)
 ·obtain rfl:k=L.length:=bQ;exact bY.mk ⟨_,Gh.refl _,.inl (.v9 (fX hK (by(rw[CR hn]))))⟩
deriving instance DecidableEq for pY
deriving instance DecidableEq for Bl
def Ia:dL:=spec (fun b:Bl=>[J5 b]) (fun _=>[]) yS (fun b=>J5 b) fun _=>[]
theorem Ir (P:bI):bM P XL Ia:=by
 intro args H K hc;obtain⟨b,rfl,rfl,hp,hK⟩:=hc;refine⟨cK,?_⟩;dsimp only at hp hK⊢;obtain⟨h1,h2⟩:=hp;obtain⟨nq1,cq1,sq1,frm1,to1,bq1,pq1,iq1,lq1⟩:=b;dsimp only at h1 h2;cbv;repeat'((first|refine .o ?_|fail)<;>cbv)
 refine cZ (Gh.plain 2 rfl) ?_;cbv;refine cZ (Gh.plain 3 rfl) ?_;cbv
 (refine .q9 ?_;cbv;exact .inl (.f9 hK))
def N5 (k:Int):Br→Og
 |⟨_,_,o0,o1,o2⟩=>if k=0 then o0 else if k=1 then o1 else o2
def Dh:dL:=spec (fun i:Br×Int=>[jF i.1,.i i.2]) (fun _=>[]) (fun i=>(i.2=0∨i.2=1∨i.2=2)∧qR i.1) (fun i=>.i (iS (N5 i.2 i.1) i.1.b.issued)) fun _=>[]
theorem IF (P:bI):bM P W0 Dh:=by
 intro args H K hc;obtain⟨⟨y,k⟩,rfl,rfl,hp,hK⟩:=hc;refine⟨cK,?_⟩;dsimp only at hp hK⊢;obtain⟨hk,hc⟩:=hp;obtain⟨⟨nq1,cq1,sq1,frm1,to1,bq1,pq1,iq1,lq1⟩,st1,⟨sa1,ha1,ca1⟩,⟨sb1,hb1,cb1⟩,⟨sc1,hc1,cc1⟩⟩:=y;unfold qR at hc;dsimp only at hc hk;obtain⟨hl0,hl1,hl2⟩:=hc;rcases hk with rfl|rfl|rfl
 ·have hd:iS ⟨sa1,ha1,ca1⟩ iq1=match ca1.getLast? with
   |some e=>e.day
   |none=>iq1:=rfl
  obtain⟨q,hq⟩:∃q,q=iS ⟨sa1,ha1,ca1⟩ iq1:=⟨_,rfl⟩
  have hK:K (.i q) []:=by rw[hq];exact hK
  rw[←hq]at hd;cbv;repeat'((first|refine .mk (fun h=>?_) fun h=>?_|refine .k fun z hz=>?_|refine ZX.i0 ?_|fail)<;>cbv)
  ·refine cM bQ bQ fun i l hi hl=>?_
   obtain⟨f,t,k,d⟩:=l;rw[oS bQ hl]at hd;cbv;exact bY.mk ⟨_,Gh.refl _,.inl (.v9 (fX hK (by(rw[hd]))))⟩
  ·rw[lZ bQ]at hd;exact bY.mk ⟨_,Gh.refl _,.inl (.v9 (fX hK (by(rw[hd]))))⟩
 ·have hd:iS ⟨sb1,hb1,cb1⟩ iq1=match cb1.getLast? with
   |some e=>e.day
   |none=>iq1:=rfl
  obtain⟨q,hq⟩:∃q,q=iS ⟨sb1,hb1,cb1⟩ iq1:=⟨_,rfl⟩
  have hK:K (.i q) []:=by rw[hq];exact hK
  rw[←hq]at hd;cbv;repeat'((first|refine .mk (fun h=>?_) fun h=>?_|refine .k fun z hz=>?_|refine ZX.i1 ?_|fail)<;>cbv)
  ·refine cM bQ bQ fun i l hi hl=>?_
   obtain⟨f,t,k,d⟩:=l;rw[oS bQ hl]at hd;cbv;exact bY.mk ⟨_,Gh.refl _,.inl (.v9 (fX hK (by(rw[hd]))))⟩
  ·rw[lZ bQ]at hd;exact bY.mk ⟨_,Gh.refl _,.inl (.v9 (fX hK (by(rw[hd]))))⟩
 ·have hd:iS ⟨sc1,hc1,cc1⟩ iq1=match cc1.getLast? with
   |some e=>e.day
   |none=>iq1:=rfl
  obtain⟨q,hq⟩:∃q,q=iS ⟨sc1,hc1,cc1⟩ iq1:=⟨_,rfl⟩
  have hK:K (.i q) []:=by rw[hq];exact hK
  rw[←hq]at hd;cbv;repeat'((first|refine .mk (fun h=>?_) fun h=>?_|refine .k fun z hz=>?_|refine ZX.i2 ?_|fail)<;>cbv)
  ·refine cM bQ bQ fun i l hi hl=>?_
   obtain⟨f,t,k,d⟩:=l;rw[oS bQ hl]at hd;cbv;exact bY.mk ⟨_,Gh.refl _,.inl (.v9 (fX hK (by(rw[hd]))))⟩
  ·rw[lZ bQ]at hd;exact bY.mk ⟨_,Gh.refl _,.inl (.v9 (fX hK (by(rw[hd]))))⟩
def oT:dL:=spec (fun a:At=>[Pi a]) (fun _=>[]) (fun _=>True) (fun a=>.sl 1 (if a.kind=5∨(a.kind=1∧a.index=-1) then [.i 0,.i 1,.i 2] else [.i a.index])) fun _=>[]
theorem HO (P:bI):bM P WD oT:=by
 intro args H K hc;obtain⟨a,rfl,rfl,hp,hK⟩:=hc;refine⟨cK,?_⟩;dsimp only at hp hK⊢;obtain⟨kind,index,day,bill,by_,to,b⟩:=a;obtain⟨nq1,cq1,sq1,frm1,to1,bq1,pq1,iq1,lq1⟩:=b;dsimp only at hK;obtain⟨l,hl⟩:∃l:List AV,l=if kind=5∨(kind=1∧index=-1) then [.i 0,.i 1,.i 2] else [.i index]:=⟨_,rfl⟩
 rw[←hl]at hK;cbv;repeat'((first|refine .mk (fun h=>?_) fun h=>?_|fail)<;>cbv)
 ·obtain rfl:l=[.i 0,.i 1,.i 2]:=by rw[hl,aF (by omega)]
  (refine .r9 (Gh.plain 1 rfl) ?_;cbv;exact .inl (.g9 hK))
 ·obtain rfl:l=[.i 0,.i 1,.i 2]:=by rw[hl,aF (by omega)]
  (refine .r9 (Gh.plain 1 rfl) ?_;cbv;exact .inl (.g9 hK))
 ·obtain rfl:l=[.i index]:=by rw[hl,aE (by omega)]
  (refine .r9 (Gh.plain 1 rfl) ?_;cbv;exact .inl (.g9 hK))
 ·obtain rfl:l=[.i index]:=by rw[hl,aE (by omega)]
  (refine .r9 (Gh.plain 1 rfl) ?_;cbv;exact .inl (.g9 hK))
set_option maxHeartbeats 4000000
def lQ (a b:bH):Bool:=decide (jK a < jK b)
theorem F3 (a b:bH):Op.bytesLess a.toList b.toList=lQ a b:=by rw[bytesLess_eq,Lib.toList_data,Lib.toList_data];rfl
theorem lM (L:List Br) (s:bH):pE (fun b:Br=>decide (b.b.number=s)) L=match rN L s with
 |some i=>Int.ofNat i
 |none=>-1:=rfl
structure Yb (b:Bl):Prop where
 number:b.number.size≤maxLen
 shipper:b.shipper.size≤maxLen
 frm:b.frm.size≤maxLen
 to:b.to.size≤maxLen
 parents:∀s∈b.parents,s.size≤maxLen
theorem N2 (L:List bH) (s:bH):(L.any fun x=>decide (s=x))=Ev L s:=by
 unfold Ev lI;have h:(L.findIdx? fun a=>decide (id a=s)).isSome=L.any fun a=>decide (id a=s):=by rw[List.findIdx?_isSome]
 rw[h];congr 1;funext x;exact decide_eq_decide.2 ⟨fun h=>h.symm,fun h=>h.symm⟩
def Mh:dL:=spec (fun i:bH×Bl=>[.str i.1,J5 i.2]) (fun _=>[]) (fun i=>yS i.2∧Yb i.2) (fun i=>.bl (yW i.1 i.2)) fun _=>[]
theorem JU (P:bI) (hn:bK P 174 Hn) (hd:bK P 175 Eo) (hr:bK P 176 (iP (fun _=>True) lF)) (hin:bK P 177 Wo):bM P X1 Mh:=by
 intro args H K hc;obtain⟨⟨carrier,b⟩,rfl,rfl,hp,hK⟩:=hc;refine⟨cK,?_⟩;dsimp only at hp hK⊢;obtain⟨hp,hsz⟩:=hp;unfold yS at hp;obtain⟨hs1,hs2,hs3,hs4,hs5⟩:=hsz;obtain⟨nq1,cq1,sq1,frm1,to1,bq1,pq1,iq1,lq1⟩:=b;dsimp only at hp hs1 hs2 hs3 hs4 hs5;obtain⟨q,hq⟩:∃q,q=yW carrier ⟨nq1,cq1,sq1,frm1,to1,bq1,pq1,iq1,lq1⟩:=⟨_,rfl⟩
 rw[←hq]at hK;unfold yW at hq;dsimp only at hq;obtain⟨n1,hn1⟩:∃q,q=!([nq1,sq1,frm1,to1].any fun s=>!bS s):=⟨_,rfl⟩
 have hn1':((bS nq1 && bS sq1) && (bS frm1 && bS to1))=n1:=by
  rw[hn1];simp only[List.any_cons,List.any_nil];cases bS nq1<;>cases bS sq1<;>cases bS frm1<;>cases bS to1<;>rfl
 obtain⟨n5,hn5⟩:∃q,q=gP iq1:=⟨_,rfl⟩
 obtain⟨n6,hn6⟩:∃q,q=!(pq1.any fun s=>!bS s):=⟨_,rfl⟩
 obtain⟨n7,hn7⟩:∃q,q=nX (bq1.take 0) (bq1.drop 0):=⟨_,rfl⟩
 have hn7':nX [] bq1=n7:=hn7.symm;rw[hn1',←hn5,←hn6,hn7']at hq;clear hn7' hn1';cbv;refine fI 1 rfl ?_;cbv
 (refine nL hn [nq1,sq1,frm1,to1] ⟨Nat.le_add_left 4 4996,fun s hs=>by
   rcases List.mem_cons.1 hs with rfl|hs
   ·exact hs1
   rcases List.mem_cons.1 hs with rfl|hs
   ·exact hs2
   rcases List.mem_cons.1 hs with rfl|hs
   ·exact hs3
   rcases List.mem_cons.1 hs with rfl|hs
   ·exact hs4
   cases hs⟩ rfl rfl rfl ?_;try dsimp only)
 rw[←hn1];cases n1 with
 |false=>
  cbv;exact bY.mk ⟨_,Gh.refl _,.inl (.v9 (cE hK (by(rw[hq];rfl))))⟩
 |true=>
 cbv;repeat'((first|refine .mk (fun h=>?_) fun h=>?_|refine .k fun z hz=>?_|fail)<;>cbv)
 rotate_right
 ·exact bY.mk ⟨_,Gh.refl _,.inl (.v9 (cE hK (by(rw[hq,aG (by assumption:¬cq1=carrier)];rfl))))⟩
 ·rw[aH (by assumption:cq1=carrier),aG bQ]at hq;exact bY.mk ⟨_,Gh.refl _,.inl (.v9 (cE hK (by(rw[hq];cases n5<;>rfl))))⟩
 ·rw[aH (by assumption:cq1=carrier),aG bQ]at hq;exact bY.mk ⟨_,Gh.refl _,.inl (.v9 (cE hK (by(rw[hq];cases n5<;>rfl))))⟩
 ·rw[aH (by assumption:cq1=carrier),aG bQ]at hq;exact bY.mk ⟨_,Gh.refl _,.inl (.v9 (cE hK (by(rw[hq];cases n5<;>rfl))))⟩
 ·rw[aH (by assumption:cq1=carrier),aH bQ]at hq
  (refine ZO hn pq1 ⟨by exact bQ,hs5⟩ ?_;try dsimp only)
  rw[←hn6];cases n6 with
  |false=>
   cbv;exact bY.mk ⟨_,Gh.refl _,.inl (.v9 (cE hK (by(rw[hq];cases n5<;>cases n7<;>rfl))))⟩
  |true=>
  cbv
  (refine ZO hd iq1 trivial ?_;try dsimp only)
  rw[←hn5];cases n5 with
  |false=>
   cbv;exact bY.mk ⟨_,Gh.refl _,.inl (.v9 (cE hK (by(rw[hq];rfl))))⟩
  |true=>
  cbv;refine bU [] (fun q:{ k:Nat // k≤bq1.length∧n7=nX (bq1.take k) (bq1.drop k) }=>[(5,.i (nI q.1))]) (fun q=>[.blk 79 [.str nq1,.str cq1,.str sq1,.str frm1,.str to1,.sl 1 (bJ .str bq1),.sl 1 (bJ .str pq1),.i iq1,.bl lq1],.tip 9 1 [.str nq1,.str sq1,.str frm1,.str to1]]) (fun q=>fO 5001 q.1) ⟨0,aI _,hn7⟩ ?_;rintro ⟨k,hk,hb7⟩;dsimp only at hk hb7⊢;cbv;repeat'((first|refine .mk (fun h=>?_) fun h=>?_|refine .k fun z hz=>?_|fail)<;>cbv)
  ·refine cM bQ bQ fun i x hi hx=>?_
   obtain rfl:k=i:=bQ;have hg:=FQ hx;obtain⟨m,hm⟩:∃m,m=lF x:=⟨_,rfl⟩
   obtain⟨m2,hm2⟩:∃m,m=Ev (bq1.take k) x:=⟨_,rfl⟩
   rw[←hm,←hm2]at hg;cbv
   (refine ZO hr x trivial ?_;try dsimp only)
   rw[←hm];cases m with
   |false=>
    rw[hb7,hg]at hq;cbv;exact bY.mk ⟨_,Gh.refl _,.inl (.v9 (cE hK (by(rw[hq];rfl))))⟩
   |true=>
    cbv;repeat'((first|refine .e ?_|refine .l fun ys hys hyl=>?_|fail)<;>cbv)
    obtain rfl:ys=bq1.take k:=by rw[hys];simp
    (refine ZO hin (bq1.take k,x) (by dsimp only;rw[aS];omega) ?_;try dsimp only)
    rw[N2,←hm2];cases m2 with
    |true=>
     rw[hb7,hg]at hq;cbv;exact bY.mk ⟨_,Gh.refl _,.inl (.v9 (cE hK (by(rw[hq];rfl))))⟩
    |false=>
     cbv;repeat'((first|refine .k fun z hz=>?_|fail)<;>cbv)
     obtain rfl:z=nI (k+1):=bQ;exact bN ⟨k+1,by exact bQ,hb7.trans hg⟩ (bO bQ)
  ·obtain rfl:k=bq1.length:=bQ;rw[B4 rfl]at hb7;subst hb7;exact bY.mk ⟨_,Gh.refl _,.inl (.v9 (cE hK (by(rw[hq];rfl))))⟩
theorem JS {P:bI}{f:Nat}{keep:List Nat}{args:List AV}{st:St}{K:AV→St→Prop}(H2:List cG) (hl:kD st.H H2) (h:gC P keep f args ⟨st.T,H2⟩ K):gC P keep f args st K:=
 ⟨fun C a w r pub vals hh hv=>h.out C a w r pub vals ⟨hh.mod.le hl,hh.own,hh.fr,hh.slots,hh.defers,hh.size,hh.stab,hh.low.1,by rw[hl.len];exact hh.low.2⟩ hv⟩
theorem DC {P:bI}{f:Nat}{keep:List Nat}{args:List AV}{st:St}{K:AV→St→Prop}(k:Nat) {t sz:Nat}{xs:List AV}(hk:st.H[k]?=some (.tip t sz xs)) (h:gC P keep f args ⟨jP k (.sl sz xs) st.T,st.H.map (cG.kill k (.sl sz xs))⟩ K):gC P keep f args st K:=by
 refine⟨fun C a w r pub vals hh hv=>h.out C a w r pub vals ?_ hv⟩;have hy:∀z,r k=some z→bT pub w r (.sl sz xs) z:=fun z hz=>by
  obtain⟨A,d,c,x,us,hr,_⟩:=hh.ent_tip hk;rw[hr]at hz;cases hz;have h1:=hh.view1 (x:=.hd k) (.hd hr rfl);simp only[St.view1,hk]at h1;exact h1
 refine⟨⟨fun j e he=>?_,fun j hj=>hh.mod.none_ j (by simpa using hj),hh.mod.disj,hh.mod.fresh,hh.mod.there,hh.mod.glob⟩,hh.own,hh.fr,hh.slots.kill (fun _ _=>rfl) hy,hh.defers,hh.size,hh.stab,by simpa using hh.low⟩;rw[aD]at he;cases hj:st.H[j]? with
 |none=>rw[hj]at he;cases he
 |some e0=>
  rw[hj]at he;cases he;exact(hh.mod.ent j e0 hj).kill (Fr.refl (fun _=>False) _ _) (fun _ _ _ _ h=>h) (fun _ _=>rfl) hy
theorem Mv {α:Type}(p:α→Bool) (l:List α):decide (0≤pE p l)=l.any p:=by
 unfold pE;cases e:l.findIdx? p with
 |none=>
  rw[List.findIdx?_eq_none_iff]at e;have:l.any p=false:=by
   rw[List.any_eq_false];intro x hx;rw[e x hx];decide
  rw[this];rfl
 |some i=>
  rw[List.findIdx?_eq_some_iff_getElem]at e;obtain⟨hi,h1,_⟩:=e;have:l.any p=true:=List.any_eq_true.2 ⟨_,List.getElem_mem hi,h1⟩;rw[this];exact aH (Int.natCast_nonneg i)
theorem E1 (L:List Br) (box:bH):(HK L box).2=L.any (lK box):=by
 have hl:(fW L (lK box)).length=(L.filterMap (gN (lK box))).length:=by unfold fW;rw[kE]
 have ha:∀L:List Br,((L.filterMap (gN (lK box))).length=0)↔L.any (lK box)=false:=by
  intro L
  induction L with
  |nil=>simp
  |cons x L ih=>
   rw[List.filterMap_cons,List.any_cons];unfold gN;cases hx:lK box x with
   |true=>simp
   |false=>
    unfold gN at ih;simpa using ih
 unfold HK;cases hn:fW L (lK box) with
 |nil=>
  rw[hn]at hl;exact((ha L).1 hl.symm).symm
 |cons n l=>
  rw[hn]at hl;cases hb:L.any (lK box) with
  |true=>rfl
  |false=>
   rw[(ha L).2 hb]at hl;cases hl
def W7:Rg×Int→AV
 |(R,e)=>.tup [KF R,.i e]
structure MV (i:oV):Prop where
 few:i.R.bills.length≤256
 all:∀b∈i.R.bills,yS b.b
 ok:yS i.b
 sz:Yb i.b
 hsz:i.holder.size≤maxLen
def uG:dL:=spec (fun i:oV=>[KF i.R,J5 i.b,.str i.holder]) (fun _=>[]) MV (fun i=>W7 (kB i,gR i)) fun _=>[]
theorem E6 (P:bI) (hm:bK P 132 Mh) (hn:bK P 133 (iP (fun s=>s.size≤maxLen) bS)) (hf:bK P 63 sO) (hb:bK P 134 MY) (hcp:bK P 135 Ia):bM P ZH uG:=by
 intro args H K hc;obtain⟨i,rfl,rfl,⟨hfew,hall,hok,hsz,hhs⟩,hK⟩:=hc;dsimp only at hK;obtain⟨e,he⟩:∃e,e=gR i:=⟨_,rfl⟩
 obtain⟨R',hR'⟩:∃R',R'=kB i:=⟨_,rfl⟩
 rw[←he,←hR']at hK;unfold kB at hR';rw[←he]at hR';unfold gR i1 i2 i3 i4 DY at he;simp only[E1]at he;obtain⟨⟨carrier,L⟩,b,holder⟩:=i;dsimp only at hR' hok he hfew hall hsz hhs;obtain⟨n1,hn1⟩:∃q,q=yW carrier b:=⟨_,rfl⟩
 obtain⟨n2,hn2⟩:∃q,q=bS holder:=⟨_,rfl⟩
 obtain⟨f,hf1⟩:∃q,q=pE (fun y:Br=>decide (y.b.number=b.number)) L:=⟨_,rfl⟩
 have hf2:(rN L b.number).isSome=decide (0≤f):=by
  rw[hf1,lM];cases rN L b.number with
  |none=>rfl
  |some j=>exact(aH (Int.natCast_nonneg j)).symm
 rw[←hn1,←hn2,hf2]at he;obtain⟨p3,hp3⟩:∃p:bH→Bool,p=fun box=>L.any (lK box):=⟨_,rfl⟩
 rw[←hp3]at he;have hpx:∀x,p3 x=decide (0≤pE (lK x) L):=fun x=>by rw[hp3,Mv]
 have hob:=hok;unfold yS at hob;obtain⟨nq1,cq1,sq1,frm1,to1,bq1,pq1,iq1,lq1⟩:=b;dsimp only at hf1 hob;refine⟨cK,?_⟩;dsimp only at hK⊢;cbv
 (refine ZO hm (carrier,⟨nq1,cq1,sq1,frm1,to1,bq1,pq1,iq1,lq1⟩) ⟨hok,hsz⟩ ?_;try dsimp only)
 rw[←hn1];cases n1 with
 |false=>
  obtain rfl:e=1:=he;obtain rfl:R'=⟨carrier,L⟩:=hR';cbv
  (refine .q9 ?_;cbv;exact .inl (.f9 hK))
 |true=>
 cbv
 (refine ZO hn holder hhs ?_;try dsimp only)
 rw[←hn2];cases n2 with
 |false=>
  obtain rfl:e=1:=he;obtain rfl:R'=⟨carrier,L⟩:=hR';cbv
  (refine .q9 ?_;cbv;exact .inl (.f9 hK))
 |true=>
 cbv
 (refine ZO hf ((⟨carrier,L⟩:Rg),nq1) (by dsimp only;omega) ?_;try dsimp only)
 rw[←hf1];cbv;repeat'((first|refine .mk (fun h=>?_) fun h=>?_|fail)<;>cbv)
 ·rw[aH (by assumption:0≤f)]at he;obtain rfl:e=5:=he;obtain rfl:R'=⟨carrier,L⟩:=hR'
  (refine .q9 ?_;cbv;exact .inl (.f9 hK))
 ·rw[aG (by omega)]at he;refine bU [] (fun q:{ k:Nat // k≤bq1.length∧jY p3 bq1 k }=>[(8,.i (nI q.1))]) (fun q=>[.blk 38 [.str carrier,.sl 11 (bJ jF L)],.blk 79 [.str nq1,.str cq1,.str sq1,.str frm1,.str to1,.sl 1 (bJ .str bq1),.sl 1 (bJ .str pq1),.i iq1,.bl lq1],.blk 38 [.str ⟨⟨[]⟩⟩,.v (.slice none 0 0)]]) (fun q=>fO 5001 q.1) ⟨0,aI _,.zero⟩ ?_;rintro ⟨k,hk,hno⟩;dsimp only at hk hno⊢;cbv;repeat'((first|refine .mk (fun h=>?_) fun h=>?_|refine .k fun z hz=>?_|refine .o ?_|fail)<;>cbv)
  ·refine cM bQ bQ fun i x hi hx=>?_
   obtain rfl:k=i:=bQ;have hx2:=hpx x;obtain⟨g,hg⟩:∃g,g=pE (lK x) L:=⟨_,rfl⟩
   rw[←hg]at hx2;cbv
   (refine ZO hb ((⟨carrier,L⟩:Rg),x) ⟨by dsimp only;omega,hall⟩ ?_;try dsimp only)
   rw[←hg];cbv;repeat'((first|refine .mk (fun h=>?_) fun h=>?_|refine .k fun z hz=>?_|fail)<;>cbv)
   ·rw[aH (by assumption:0≤g)]at hx2;rw[gK hx hx2]at he;obtain rfl:e=9:=he;obtain rfl:R'=⟨carrier,L⟩:=hR'
    (refine .q9 ?_;cbv;exact .inl (.f9 hK))
   ·rw[aG (by omega)]at hx2;obtain rfl:z=nI (k+1):=bQ;exact bN ⟨k+1,by exact bQ,hno.succ hx hx2⟩ (bO bQ)
  ·obtain rfl:k=bq1.length:=bQ;rw[iW hno]at he
   ·rw[aH bQ]at he;obtain rfl:e=7:=he;obtain rfl:R'=⟨carrier,L⟩:=hR'
    (refine .q9 ?_;cbv;exact .inl (.f9 hK))
  ·obtain rfl:k=bq1.length:=bQ;rw[iW hno,aG bQ]at he;obtain rfl:e=0:=he;refine JS [.blk 38 [.str carrier,.sl 11 (bJ jF L)],.blk 79 [.str nq1,.str cq1,.str sq1,.str frm1,.str to1,.sl 1 (bJ .str bq1),.sl 1 (bJ .str pq1),.i iq1,.bl lq1],.blk 38 [.str ⟨⟨[]⟩⟩,.v (.slice none 0 0)],.row 107 3 [.agg [.i 0,.str holder,.sl 4 []],.agg [.i 0,.str holder,.sl 4 []],.agg [.i 0,.str holder,.sl 4 []]],.row 104 11 (bJ jF L),.dead,.dead,.dead] Bx ?_;refine fI 3 rfl ?_;cbv;refine DC 3 rfl ?_;cbv
   (refine ZO hcp ⟨nq1,cq1,sq1,frm1,to1,bq1,pq1,iq1,lq1⟩ hok ?_;try dsimp only)
   cbv;repeat'((first|refine .zl fun zs hzs hzl=>?_|fail)<;>cbv)
   obtain⟨L',hL'⟩:∃L',L'=L++[(⟨⟨nq1,cq1,sq1,frm1,to1,bq1,pq1,iq1,lq1⟩,0,⟨0,holder,[]⟩,⟨0,holder,[]⟩,⟨0,holder,[]⟩⟩:Br)]:=⟨_,rfl⟩
   obtain rfl:R'=⟨carrier,L'⟩:=by rw[hR',hL'];rfl
   obtain rfl:zs=bJ jF L':=by(rw[hL',bW,cD];exact hzs)
   (refine .r9 (Gh.plain 4 rfl) ?_;cbv;exact .inl (.g9 hK))
def cP (a:At):Ak:=⟨a.bill,if a.kind=5 then -1 else a.index,if a.kind=1∨a.kind=5 then -1 else 0,a.by_,if a.kind=4 then 3 else 0,if a.kind=3 then 0 else a.day,!decide (a.kind=3),decide (a.kind=1) && hY a.by_ a.to⟩
def jD (a:At):List Int:=if a.kind=5∨(a.kind=1∧a.index=-1) then [0,1,2] else [a.index]
theorem IX (a:At):k1 (cP a)=decide (¬a.kind=5∧(a.index < 0∨2 < a.index)∧¬(a.kind=1∧a.index=-1)):=by
 obtain⟨kind,index,day,bill,by_,to,b⟩:=a;unfold k1 cP;dsimp only;rw[←Bool.decide_or];refine decide_eq_decide.2 ?_;by_cases h5:kind=5
 ·rw[aF h5,aF (.inr h5)];omega
 ·rw[aE h5];by_cases h1:kind=1
  ·rw[aF (.inl h1)];omega
  ·rw[aE (by omega)];omega
theorem Ru (a:At):k2 (cP a)=((!decide (a.kind=3) && !gP a.day) || (decide (a.kind=1) && hY a.by_ a.to)):=by
 obtain⟨kind,index,day,bill,by_,to,b⟩:=a;unfold k2 cP;dsimp only;by_cases h3:kind=3
 ·rw[aF h3,aH h3];cases (decide (kind=1) && hY by_ to)<;>rfl
 ·rw[aE h3,aG h3];cases (decide (kind=1) && hY by_ to)<;>cases gP day<;>rfl
theorem FW {a:At}(h:k1 (cP a)=false):∀k∈jD a,k=0∨k=1∨k=2:=by
 rw[IX]at h;have h:=of_decide_eq_false h;unfold jD;intro k hk
 split at hk
 ·simpa using hk
 ·obtain rfl:=List.mem_singleton.1 hk;omega
theorem qQ {a:At}(h:k1 (cP a)=false) (b:Br) (p:Og→Bool):lB (cP a).index b p=(jD a).any fun k=>p (N5 k b):=by
 rw[IX]at h;have h:=of_decide_eq_false h;obtain⟨kind,index,day,bill,by_,to,bb⟩:=a;obtain⟨_,_,o0,o1,o2⟩:=b;unfold jD cP lB N5;dsimp only at h⊢;by_cases h5:kind=5∨(kind=1∧index=-1)
 ·rw[aF h5];have hi:(if kind=5 then (-1:Int) else index)=-1:=by
   split
   ·rfl
   ·omega
  rw[hi];have hh:∀k,fB (-1) k=true:=fun k=>mN (.inl rfl)
  rw[hh,hh,hh];show _=(p o0 || (p o1 || (p o2 || false)))
  cases p o0<;>cases p o1<;>cases p o2<;>rfl
 ·rw[aE h5,aE (by omega)];have hi:index=0∨index=1∨index=2:=by omega
  rcases hi with rfl|rfl|rfl
  ·show _=(p o0 || false)
   cases p o0<;>rfl
  ·show _=(p o1 || false)
   cases p o1<;>rfl
  ·show _=(p o2 || false)
   cases p o2<;>rfl
theorem MT {α:Type}(c:Bool) (p:α→Bool):∀{l:List α},l≠[]→(c || l.any p)=l.any fun k=>c || p k
 |[],h=>absurd rfl h
 |x :: l,_=>by
  cases c with
  |true=>rw[List.any_cons];rfl
  |false=>rfl
theorem Kt {α:Type}(c:Bool) (p:α→Bool) (l:List α):(c && l.any p)=l.any fun k=>c && p k:=by
 cases c with
 |true=>rfl
 |false=>
  have:(l.any fun k=>false && p k)=false:=by rw[List.any_eq_false];intro x _;simp
  rw[this];rfl
theorem Mz (a:At):jD a≠[]:=by unfold jD;split<;>exact List.cons_ne_nil _ _
def UA (x:Br) (sv:Int) (k:Int):Bool:=!decide (x.st=0) || !decide ((N5 k x).state=sv)
def UK (x:Br) (by_:bH) (k:Int):Bool:=!decide ((N5 k x).holder=by_)
def Un (x:Br) (kind day:Int) (k:Int):Bool:=!decide (kind=3) && decide (day < iS (N5 k x) x.b.issued)
theorem Ga {a:At}(h:k1 (cP a)=false) (x:Br):k3 x (cP a)=(jD a).any (UA x (if a.kind=4 then 3 else 0)):=by
 unfold k3;rw[qQ h,MT _ _ (Mz a)];rfl
theorem E2 {a:At}(h:k1 (cP a)=false) (x:Br):k4 x (cP a)=(jD a).any (UK x a.by_):=by
 unfold k4;rw[qQ h];rfl
theorem Gm {a:At}(h:k1 (cP a)=false) (x:Br):k5 x (cP a)=(jD a).any (Un x a.kind a.day):=by
 unfold k5;rw[qQ h,Kt];congr 1;funext k;unfold Un BQ cP;dsimp only;by_cases h3:a.kind=3
 ·rw[aH h3];rfl
 ·rw[aE h3]
def iA:Int→AV:=fun k=>.int .i64 k
def mY (κ:Int):dL:=spec (fun i:Rg×At=>[KF i.1,Pi i.2]) (fun _=>[]) (fun i=>i.2.kind=κ∧i.1.bills.length≤256∧(∀b∈i.1.bills,qR b)∧i.2.to.size≤maxLen) (fun i=>.i (eI i.1.bills (cP i.2))) fun _=>[]
def nD:dL:=spec (fun i:Rg×At=>[KF i.1,Pi i.2]) (fun _=>[]) (fun i=>(1≤i.2.kind∧i.2.kind≤5)∧i.1.bills.length≤256∧(∀b∈i.1.bills,qR b)∧i.2.to.size≤maxLen) (fun i=>.i (eI i.1.bills (cP i.2))) fun _=>[]
theorem Ul {P:bI}{f:Nat}(h1:bK P f (mY 1)) (h2:bK P f (mY 2)) (h3:bK P f (mY 3)) (h4:bK P f (mY 4)) (h5:bK P f (mY 5)):bK P f nD:=by
 intro args H K hc;obtain⟨i,rfl,rfl,⟨hk,hp⟩,hK⟩:=hc;have h:i.2.kind=1∨i.2.kind=2∨i.2.kind=3∨i.2.kind=4∨i.2.kind=5:=by omega
 rcases h with h|h|h|h|h
 ·exact h1 _ _ K ⟨i,rfl,rfl,⟨h,hp⟩,hK⟩
 ·exact h2 _ _ K ⟨i,rfl,rfl,⟨h,hp⟩,hK⟩
 ·exact h3 _ _ K ⟨i,rfl,rfl,⟨h,hp⟩,hK⟩
 ·exact h4 _ _ K ⟨i,rfl,rfl,⟨h,hp⟩,hK⟩
 ·exact h5 _ _ K ⟨i,rfl,rfl,⟨h,hp⟩,hK⟩
open Classical in
open Classical in
open Classical in
def wR (f t:bH) (d:Int):Og→Og
 |⟨s,_,c⟩=>⟨s,t,c++[⟨f,t,0,d⟩]⟩
def iI (a:At):Br→Br:=fun b=>
 if a.kind=1 then tG a.index (wR a.by_ a.to a.day) b
 else if a.kind=2 then tG a.index (yG 1) (Dw 1 b)
 else if a.kind=3 then tG a.index (yG 3) b
 else if a.kind=4 then tG a.index (yG 0) b
 else Dw 4 b
def qA (R:Rg) (a:At):oV:=⟨R,a.b,a.to⟩
def kI (R:Rg) (a:At):Rg×Int:=
 if a.kind=0 then (kB (qA R a),gR (qA R a)) else (⟨R.carrier,fZ R.bills (cP a) (iI a)⟩,eI R.bills (cP a))
structure KI (i:Rg×At):Prop where
 kind:0≤i.2.kind∧i.2.kind≤5
 few:i.1.bills.length≤256
 all:∀b∈i.1.bills,qR b∧yS b.b
 ok:yS i.2.b
 sz:Yb i.2.b
 tsz:i.2.to.size≤maxLen
def qF (κ:Int):dL:=spec (fun i:Rg×At=>[KF i.1,Pi i.2]) (fun _=>[]) (fun i=>i.2.kind=κ∧KI i) (fun i=>W7 (kI i.1 i.2)) fun _=>[]
theorem Kb (P:bI) (hi:bK P 96 uG):bM P Kp (qF 0):=by
 intro args H K hc;obtain⟨⟨⟨carrier,L⟩,a⟩,rfl,rfl,hp,hK⟩:=hc;refine⟨cK,?_⟩;dsimp only at hp hK⊢;obtain⟨hkind,_,hfew,hall,hok,hsz,hts⟩:=hp;have hp2:MV (qA ⟨carrier,L⟩ a):=⟨hfew,fun b hb=>(hall b hb).2,hok,hsz,hts⟩
 have hd:kI ⟨carrier,L⟩ a=(kB (qA ⟨carrier,L⟩ a),gR (qA ⟨carrier,L⟩ a)):=by unfold kI;rw[aF hkind]
 rw[hd]at hK;clear hd;obtain⟨kind,index,day,bill,by_,to,b⟩:=a;obtain rfl:kind=0:=hkind;obtain⟨⟨c2,L2⟩,hR⟩:∃R,R=kB (qA ⟨carrier,L⟩ ⟨0,index,day,bill,by_,to,b⟩):=⟨_,rfl⟩
 obtain⟨e,he⟩:∃e,e=gR (qA ⟨carrier,L⟩ ⟨0,index,day,bill,by_,to,b⟩):=⟨_,rfl⟩
 rw[←hR,←he]at hK;unfold qA at hR he hp2;dsimp only at hR he hp2;obtain⟨nq1,cq1,sq1,frm1,to1,bq1,pq1,iq1,lq1⟩:=b;cbv;repeat'((first|refine .y fun h=>?_|fail)<;>cbv)
 (refine ZO hi (⟨⟨carrier,L⟩,⟨nq1,cq1,sq1,frm1,to1,bq1,pq1,iq1,lq1⟩,to⟩:oV) hp2 ?_;try dsimp only)
 rw[←hR,←he];cbv
 (refine .q9 ?_;cbv;exact .inl (.f9 hK))
set_option maxHeartbeats 1000000
def yH (L:List Br) (s:bH):Option Br:=L.find? fun b=>decide (b.b.number=s)
theorem T7 (L:List Br) (s:bH):yH L s=(rN L s).bind fun i=>L[i]?:=by
 unfold yH rN lI;exact List.find?_eq_bind_findIdx?_getElem?
theorem vF (L:List Br) (s:bH):(∃i y,rN L s=some i∧L[i]?=some y∧yH L s=some y∧y.b.number=s)∨(rN L s=none∧yH L s=none):=by
 have h:=T7 L s;cases hb:rN L s with
 |none=>rw[hb]at h;exact .inr ⟨rfl,h⟩
 |some i=>
  obtain⟨y,hy,hk⟩:=eB hb;rw[hb]at h;exact .inl ⟨i,y,rfl,hy,h.trans hy,hk⟩
theorem wN {L:List Br}{s:bH}{y:Br}(h:yH L s=some y):y∈L∧y.b.number=s:=⟨List.mem_of_find?_eq_some h,by unfold yH at h;have h2:=List.find?_some h;simpa using h2⟩
theorem LX {L:List Br}(h:lJ L) {x y:Br}(hx:x∈L) (hy:y∈L) (e:x.b.number=y.b.number):x=y:=by
 obtain⟨i,hi,rfl⟩:=List.mem_iff_getElem.1 hx;obtain⟨j,hj,rfl⟩:=List.mem_iff_getElem.1 hy;unfold lJ at h;have:=tC (l:=L.map fun b=>b.b.number) (i:=i) (j:=j) (hi:=by rw[aJ];exact hi) (hj:=by rw[aJ];exact hj) h (by rw[List.getElem_map,List.getElem_map];exact e);subst this;rfl
theorem Rh {L:List Br}(h:lJ L) {y:Br}{s:bH}(hy:y∈L) (hs:y.b.number=s):yH L s=some y:=by
 cases hl:yH L s with
 |none=>
  unfold yH at hl;rw[List.find?_eq_none]at hl;exact absurd (aH hs) (hl y hy)
 |some x=>
  obtain⟨h1,h2⟩:=wN hl;rw[LX h h1 hy (h2.trans hs.symm)]
theorem IV (L:List Br) (a:Ak):eI L a=match yH L a.bill with
  |some b=>mH b a
  |none=>4:=by
 unfold eI;rcases vF L a.bill with ⟨i,y,h1,h2,h3,_⟩|⟨h1,h3⟩
 ·rw[h1,h3];dsimp only;rw[h2]
 ·rw[h1,h3]
theorem Qj (L:List Br) (s:bH):BS L s=match yH L s with
  |some b=>Mr s b
  |none=>[]:=by
 unfold BS;rcases vF L s with ⟨i,y,h1,h2,h3,_⟩|⟨h1,h3⟩
 ·rw[h1,h3];dsimp only;rw[h2]
 ·rw[h1,h3]
theorem Ok {L:List Br}(hn:lJ L) (s:bH) (f:Br→Br):BU L s f=L.map fun b=>if b.b.number=s then f b else b:=by
 rcases vF L s with ⟨i,y,h1,h2,h3,h4⟩|⟨h1,h3⟩
 ·rw[gW f h1 h2];refine List.ext_getElem? fun j=>?_
  rw[List.getElem?_set,aD];have hi:=(aA.1 h2).1;by_cases hij:i=j
  ·subst hij;rw[aF rfl,aF hi,h2,Option.map_some,aF h4]
  ·rw[aE hij];cases hj:L[j]? with
   |none=>rfl
   |some z=>
    rw[Option.map_some];have:¬z.b.number=s:=fun e=>by
     obtain⟨hj1,rfl⟩:=aA.1 hj;obtain⟨hi1,rfl⟩:=aA.1 h2;unfold lJ at hn;exact hij (tC (l:=L.map fun b=>b.b.number) (i:=i) (j:=j) (hi:=by rw[aJ];exact hi1) (hj:=by rw[aJ];exact hj1) hn (by rw[List.getElem_map,List.getElem_map];exact h4.trans e.symm))
    rw[aE this]
 ·unfold BU;rw[h1];have hne:=NB h1;symm;have:(L.map fun b=>if b.b.number=s then f b else b)=L.map id:=List.map_congr_left fun b hb=>by rw[aE (hne b hb)];rfl
  dsimp only;rw[this,List.map_id]
structure Ac (n:Nat) (o:Og):Prop where
 name:bS o.holder=true
 len:o.chain.length≤n
 kinds:∀e∈o.chain,e.kind=0
def Av (s:Int):Prop:=s=0∨s=3
def Wf (st a b c:Int):Prop:=(st=0∧Av a∧Av b∧Av c)∨(st=1∧((a=1∧b=2∧c=2)∨(a=2∧b=1∧c=2)∨(a=2∧b=2∧c=1)))∨(st=4∧a=2∧b=2∧c=2)
structure vI (n:Nat) (c:bH) (b:Br):Prop where
 may:yW c b.b=true
 ok:yS b.b
 h0:Ac n b.o0
 h1:Ac n b.o1
 h2:Ac n b.o2
 st:Wf b.st b.o0.state b.o1.state b.o2.state
structure Cd (n:Nat) (R:Rg):Prop where
 nd:lJ R.bills
 few:R.bills.length≤256
 all:∀b∈R.bills,vI n R.carrier b
 dis:∀b1∈R.bills,∀b2∈R.bills,b1.st=0→b2.st=0→∀x∈b1.b.boxes,x∈b2.b.boxes→b1.b.number=b2.b.number
theorem Ac.mono {n m:Nat}{o:Og}(h:Ac n o) (hm:n≤m):Ac m o:=⟨h.name,Nat.le_trans h.len hm,h.kinds⟩
theorem vI.mono {n m:Nat}{c:bH}{b:Br}(h:vI n c b) (hm:n≤m):vI m c b:=⟨h.may,h.ok,h.h0.mono hm,h.h1.mono hm,h.h2.mono hm,h.st⟩
theorem Cd.mono {n m:Nat}{R:Rg}(h:Cd n R) (hm:n≤m):Cd m R:=⟨h.nd,h.few,fun b hb=>(h.all b hb).mono hm,h.dis⟩
theorem Cd.inB {n:Nat}{R:Rg}(h:Cd n R) (hn:n≤4500):∀b∈R.bills,inB b:=fun b hb=>by
 have:=h.all b hb;exact⟨⟨Nat.le_trans this.h0.len hn,Nat.le_trans this.h1.len hn,Nat.le_trans this.h2.len hn⟩,this.ok⟩
theorem II (n:Nat) (c:bH):Cd n ⟨c,[]⟩:=⟨.nil,by simp,fun b hb=>(by cases hb),fun b hb=>(by cases hb)⟩
structure WT (b:Br) (a:Ak):Prop where
 ix:a.least≤a.index∧a.index < 3
 right:a.wrong=false
 day:a.dated=true→gP a.day=true
 live:b.st=0
 s3:lB a.index b (nQ a)=false
 h3:lB a.index b (iX a)=false
 d3:a.dated=true→lB a.index b (BQ b a)=false
theorem vJ {b:Br}{a:Ak}(h:mH b a=0):WT b a:=by
 have hx:=mV h;unfold mH at h
 split at h
 ·exact absurd h (by decide)
 split at h
 ·exact absurd h (by decide)
 rename_i h2
 split at h
 ·exact absurd h (by decide)
 rename_i h3
 split at h
 ·exact absurd h (by decide)
 rename_i h4
 split at h
 ·exact absurd h (by decide)
 rename_i h5;unfold k2 at h2;unfold k3 at h3;unfold k4 at h4;unfold k5 at h5;simp only[Bool.or_eq_true,not_or,Bool.not_eq_true,aO,Bool.not_eq_true',decide_eq_false_iff_not,Decidable.not_not,not_and,Bool.not_eq_false]at h2 h3 h4 h5;exact⟨hx,h2.1,fun h=>by simpa using h2.2 h,by simpa using h3.1,h3.2,h4,fun h=>by simpa using h5 h⟩
theorem xU {idx:Int}{b:Br}{p:Og→Bool}(h:lB idx b p=false):(fB idx 0=true→p b.o0=false)∧(fB idx 1=true→p b.o1=false)∧(fB idx 2=true→p b.o2=false):=by
 unfold lB at h;cases h0:fB idx 0<;>cases h1:fB idx 1<;>cases h2:fB idx 2<;>simp[h0,h1,h2]at h⊢<;>simp[h]
theorem sJ (idx:Int) (f:Og→Og) (b:Br):(tG idx f b).b=b.b∧(tG idx f b).st=b.st:=by obtain⟨_,_,_,_,_⟩:=b;exact⟨rfl,rfl⟩
theorem Dv (s:Int) (b:Br):(Dw s b).b=b.b∧(Dw s b).st=s:=by obtain⟨_,_,_,_,_⟩:=b;exact⟨rfl,rfl⟩
theorem Ns (a:At) (b:Br):(iI a b).b=b.b:=by
 unfold iI
 split
 ·exact(sJ _ _ _).1
 split
 ·rw[(sJ _ _ _).1,(Dv _ _).1]
 split
 ·exact(sJ _ _ _).1
 split
 ·exact(sJ _ _ _).1
 ·exact(Dv _ _).1
theorem KW (a:At) (b:Br) (h:(iI a b).st=0):b.st=0:=by
 unfold iI at h
 split at h
 ·rwa [(sJ _ _ _).2]at h
 split at h
 ·rw[(sJ _ _ _).2,(Dv _ _).2]at h;cases h
 split at h
 ·rwa [(sJ _ _ _).2]at h
 split at h
 ·rwa [(sJ _ _ _).2]at h
 ·rw[(Dv _ _).2]at h;cases h
theorem hC {n:Nat}{s:Int}{o:Og}(h:Ac n o):Ac (n+1) (yG s o):=by
 obtain⟨a,b,c⟩:=o;exact⟨h.name,Nat.le_succ_of_le h.len,h.kinds⟩
theorem Dd {n:Nat}{f t:bH}{d:Int}{o:Og}(h:Ac n o) (ht:bS t=true):Ac (n+1) (wR f t d o):=by
 obtain⟨a,b,c⟩:=o;refine⟨ht,?_,fun e he=>?_⟩
 ·show (c++[_]).length≤n+1;have h1:c.length≤n:=h.len;rw[aM,List.length_singleton];omega
 ·rcases List.mem_append.1 he with h1|h1
  ·exact h.kinds e h1
  ·obtain rfl:=List.mem_singleton.1 h1;rfl
theorem wH {f t:bH}(h:hY f t=false):bS t=true∧¬t=f:=by
 unfold hY at h;simp only[Bool.or_eq_false_iff,Bool.not_eq_false',decide_eq_false_iff_not]at h;exact h
theorem PK {n:Nat}{c:bH}{b:Br}{a:At}(h:vI n c b) (hk:1≤a.kind∧a.kind≤5) (he:mH b (cP a)=0):vI (n+1) c (iI a b):=by
 have hd:=vJ he;obtain⟨kind,index,day,bill,by_,to,bb⟩:=a;obtain⟨b,st,⟨s0,y0,c0⟩,⟨s1,y1,c1⟩,⟨s2,y2,c2⟩⟩:=b;obtain⟨hmay,hok,h0,h1,h2,hst⟩:=h;obtain⟨hix,hright,hday,hlive,hs3,hh3,hd3⟩:=hd;unfold cP at *;dsimp only at *;subst hlive;have hst:Av s0∧Av s1∧Av s2:=by
  rcases hst with ⟨_,h⟩|⟨h,_⟩|⟨h,_⟩
  ·exact h
  ·exact absurd h (by decide)
  ·exact absurd h (by decide)
 obtain⟨t0,t1,t2⟩:=hst;have g0:=h0.mono (Nat.le_succ n);have g1:=h1.mono (Nat.le_succ n);have g2:=h2.mono (Nat.le_succ n);have hk5:kind=1∨kind=2∨kind=3∨kind=4∨kind=5:=by omega
 rcases hk5 with rfl|rfl|rfl|rfl|rfl
 ·have hw:hY by_ to=false:=hright;have hto:=(wH hw).1;show vI (n+1) c (tG index (wR by_ to day) ⟨b,0,⟨s0,y0,c0⟩,⟨s1,y1,c1⟩,⟨s2,y2,c2⟩⟩);unfold tG;dsimp only;cases fB index 0<;>cases fB index 1<;>cases fB index 2<;>exact⟨hmay,hok,by first|exact g0|exact Dd h0 hto,by first|exact g1|exact Dd h1 hto,by first|exact g2|exact Dd h2 hto,.inl ⟨rfl,t0,t1,t2⟩⟩
 ·have hix:(0:Int)≤index∧index < 3:=hix;show vI (n+1) c (tG index (yG 1) (Dw 1 ⟨b,0,⟨s0,y0,c0⟩,⟨s1,y1,c1⟩,⟨s2,y2,c2⟩⟩));have hi3:index=0∨index=1∨index=2:=by omega
  rcases hi3 with rfl|rfl|rfl
  ·exact⟨hmay,hok,hC (s:=1) h0,hC (s:=2) h1,hC (s:=2) h2,.inr (.inl ⟨rfl,.inl ⟨rfl,rfl,rfl⟩⟩)⟩
  ·exact⟨hmay,hok,hC (s:=2) h0,hC (s:=1) h1,hC (s:=2) h2,.inr (.inl ⟨rfl,.inr (.inl ⟨rfl,rfl,rfl⟩)⟩)⟩
  ·exact⟨hmay,hok,hC (s:=2) h0,hC (s:=2) h1,hC (s:=1) h2,.inr (.inl ⟨rfl,.inr (.inr ⟨rfl,rfl,rfl⟩)⟩)⟩
 ·show vI (n+1) c (tG index (yG 3) ⟨b,0,⟨s0,y0,c0⟩,⟨s1,y1,c1⟩,⟨s2,y2,c2⟩⟩);unfold tG;dsimp only;cases fB index 0<;>cases fB index 1<;>cases fB index 2<;>exact⟨hmay,hok,by first|exact g0|exact hC (s:=3) h0,by first|exact g1|exact hC (s:=3) h1,by first|exact g2|exact hC (s:=3) h2,.inl ⟨rfl,by first|exact t0|exact .inr rfl,by first|exact t1|exact .inr rfl,by first|exact t2|exact .inr rfl⟩⟩
 ·show vI (n+1) c (tG index (yG 0) ⟨b,0,⟨s0,y0,c0⟩,⟨s1,y1,c1⟩,⟨s2,y2,c2⟩⟩);unfold tG;dsimp only;cases fB index 0<;>cases fB index 1<;>cases fB index 2<;>exact⟨hmay,hok,by first|exact g0|exact hC (s:=0) h0,by first|exact g1|exact hC (s:=0) h1,by first|exact g2|exact hC (s:=0) h2,.inl ⟨rfl,by first|exact t0|exact .inl rfl,by first|exact t1|exact .inl rfl,by first|exact t2|exact .inl rfl⟩⟩
 ·exact⟨hmay,hok,hC (s:=2) h0,hC (s:=2) h1,hC (s:=2) h2,.inr (.inr ⟨rfl,rfl,rfl,rfl⟩)⟩
theorem M6 {L:List Br}(hn:lJ L) {a:Ak}(h:eI L a=0) {b:Br}(hb:b∈L) (hs:b.b.number=a.bill):mH b a=0:=by
 rw[IV,Rh hn hb hs]at h;exact h
theorem uS {L:List Br}(hn:lJ L) (a:Ak) (f:Br→Br) (h:eI L a=0):fZ L a f=L.map fun b=>if b.b.number=a.bill then f b else b:=by
 unfold fZ;rw[aF h,Ok hn]
theorem Ex {L:List Br}(a:Ak) (f:Br→Br) (h:¬eI L a=0):fZ L a f=L:=by unfold fZ;rw[aE h]
theorem Qq {n:Nat}{R:Rg}(h:Cd n R) {a:At}(hk:1≤a.kind∧a.kind≤5):Cd (n+1) ⟨R.carrier,fZ R.bills (cP a) (iI a)⟩:=by
 by_cases h0:eI R.bills (cP a)=0
 ·rw[uS h.nd _ _ h0];have hnum:∀b:Br,(if b.b.number=(cP a).bill then iI a b else b).b=b.b:=fun b=>by
   split
   ·exact Ns a b
   ·rfl
  have hlive:∀b:Br,(if b.b.number=(cP a).bill then iI a b else b).st=0→b.st=0:=fun b=>by
   split
   ·exact KW a b
   ·exact id
  refine⟨?_,by rw[aJ];exact h.few,fun b hb=>?_,fun b1 h1 b2 h2 l1 l2 x hx1 hx2=>?_⟩
  ·unfold lJ;rw[List.map_map];have e:((fun b:Br=>b.b.number) ∘ fun b=>if b.b.number=(cP a).bill then iI a b else b)=fun b=>b.b.number:=by funext b;show (ite _ _ _:Br).b.number=_;rw[hnum]
   rw[e];exact h.nd
  ·obtain⟨y,hy,rfl⟩:=aX.1 hb
   split
   ·rename_i hs;exact PK (h.all y hy) hk (M6 h.nd h0 hy hs)
   ·exact(h.all y hy).mono (Nat.le_succ n)
  ·obtain⟨y1,hy1,rfl⟩:=aX.1 h1;obtain⟨y2,hy2,rfl⟩:=aX.1 h2;rw[hnum]at hx1 hx2⊢;rw[hnum];exact h.dis y1 hy1 y2 hy2 (hlive y1 l1) (hlive y2 l2) x hx1 hx2
 ·rw[Ex _ _ h0];exact(h.mono (Nat.le_succ n))
theorem Wk (i:oV):i2 i=(yH i.R.bills i.b.number).isSome:=by
 unfold i2;rcases vF i.R.bills i.b.number with ⟨k,y,h1,h2,h3,_⟩|⟨h1,h3⟩
 ·rw[h1,h3];rfl
 ·rw[h1,h3];rfl
theorem Nf (i:oV):i3 i=i.b.boxes.any fun x=>i.R.bills.any (lK x):=by
 unfold i3;congr 1;funext x;exact E1 _ _
theorem Kx {i:oV}(h:gR i=0):i1 i=false∧i2 i=false∧i3 i=false∧i4 i=false:=by
 unfold gR at h
 split at h
 ·exact absurd h (by decide)
 rename_i h1
 split at h
 ·exact absurd h (by decide)
 rename_i h2
 split at h
 ·exact absurd h (by decide)
 rename_i h3
 split at h
 ·exact absurd h (by decide)
 rename_i h4;simp only[Bool.not_eq_true]at h1 h2 h3 h4;exact⟨h1,h2,h3,h4⟩
theorem Fe {i:oV}(h:gR i=0):kB i=⟨i.R.carrier,i.R.bills++[Sl i.b i.holder]⟩:=by unfold kB;rw[aF h]
theorem PY {i:oV}(h:¬gR i=0):kB i=i.R:=by unfold kB;rw[aE h]
theorem MP (x:bH) (b:Br):lK x b=true↔b.st=0∧x∈b.b.boxes:=by
 unfold lK;simp only[aO,decide_eq_true_eq,List.any_eq_true];constructor
 ·rintro ⟨h1,y,hy,rfl⟩;exact⟨h1,hy⟩
 ·rintro ⟨h1,h2⟩;exact⟨h1,x,h2,rfl⟩
theorem Et {n:Nat}{i:oV}(h:Cd n i.R) (hok:yS i.b):Cd n (kB i):=by
 by_cases h0:gR i=0
 ·obtain⟨e1,e2,e3,e4⟩:=Kx h0;rw[Fe h0];unfold i1 at e1;simp only[Bool.or_eq_false_iff,Bool.not_eq_false']at e1;rw[Wk]at e2;have e2:yH i.R.bills i.b.number=none:=by simpa using e2
  rw[Nf]at e3;unfold i4 at e4;have e4:=of_decide_eq_false e4;have hbox:∀x∈i.b.boxes,∀b∈i.R.bills,b.st=0→¬x∈b.b.boxes:=fun x hx b hb hl hin=>by
   have h1:=List.any_eq_false.1 e3 x hx;exact h1 (List.any_eq_true.2 ⟨b,hb,(MP x b).2 ⟨hl,hin⟩⟩)
  have og:Ac n ⟨0,i.holder,[]⟩:=⟨e1.2,aI _,fun e he=>(by cases he)⟩
  refine⟨?_,?_,fun b hb=>?_,fun b1 h1 b2 h2 l1 l2 x hx1 hx2=>?_⟩
  ·unfold lJ;rw[List.map_append,List.nodup_append];refine⟨h.nd,List.nodup_cons.2 ⟨by simp,.nil⟩,fun s hs t ht e=>?_⟩;obtain rfl:=List.mem_singleton.1 ht;obtain⟨b,hb,hbs⟩:=aX.1 hs;have:=Rh h.nd hb (hbs.trans e);exact absurd (e2.symm.trans this) (by simp)
  ·show (i.R.bills++[_]).length≤256;rw[aM,List.length_singleton];omega
  ·rcases List.mem_append.1 hb with h1|h1
   ·exact h.all b h1
   ·obtain rfl:=List.mem_singleton.1 h1;exact⟨e1.1,hok,og,og,og,.inl ⟨rfl,.inl rfl,.inl rfl,.inl rfl⟩⟩
  ·rcases List.mem_append.1 h1 with g1|g1<;>rcases List.mem_append.1 h2 with g2|g2
   ·exact h.dis b1 g1 b2 g2 l1 l2 x hx1 hx2
   ·obtain rfl:=List.mem_singleton.1 g2;exact absurd hx1 (hbox x hx2 b1 g1 l1)
   ·obtain rfl:=List.mem_singleton.1 g1;exact absurd hx2 (hbox x hx1 b2 g2 l2)
   ·rw[List.mem_singleton.1 g1,List.mem_singleton.1 g2]
 ·rw[PY h0];exact h
theorem Jp {R:Rg}{a:At}(h:a.kind=0):kI R a=(kB (qA R a),gR (qA R a)):=by unfold kI;rw[aF h]
theorem zL {R:Rg}{a:At}(h:¬a.kind=0):kI R a=(⟨R.carrier,fZ R.bills (cP a) (iI a)⟩,eI R.bills (cP a)):=by unfold kI;rw[aE h]
theorem OC {n:Nat}{R:Rg}(h:Cd n R) {a:At}(hk:0≤a.kind∧a.kind≤5) (hok:yS a.b):Cd (n+1) (kI R a).1:=by
 by_cases h0:a.kind=0
 ·rw[Jp h0];exact(Et (i:=qA R a) h hok).mono (Nat.le_succ n)
 ·rw[zL h0];exact Qq h (by omega)
def Te (a:At):Br→Br:=if a.kind=1 then tG a.index (tY a.by_ a.to a.day) else iI a
def vS (R:Rg) (a:At):Rg:=if a.kind=0 then kB (qA R a) else ⟨R.carrier,fZ R.bills (cP a) (Te a)⟩
theorem KY {f t:bH}{d:Int}(hf:bS f=true) (ht:bS t=true) (hn:¬t=f) (hd:gP d=true):(lY f [⟨f,t,0,d⟩]).1=t:=by
 have hm:yK ⟨f,t,0,d⟩=true:=by
  unfold gP at hd;unfold yK;dsimp only;rw[hf,hd,ht,aG hn];rfl
 have hw:mI f [] ⟨f,t,0,d⟩=0:=by
  unfold mI;dsimp only;rw[hm];have k2:pU [] 2=false:=rfl;have k1:Gt [] d=false:=rfl;rw[k2,k1];simp
 unfold lY;rw[hf,aE (by decide),iM,aF hw,iM]
theorem Pr {h f t:bH}{d:Int}{s:Int}{c:List pY}(he:h=f) (hf:bS h=true) (ht:bS t=true) (hn:¬t=f) (hd:gP d=true):tY f t d ⟨s,h,c⟩=wR f t d ⟨s,h,c⟩:=by
 subst he;unfold tY wR;dsimp only;rw[KY hf ht hn hd]
theorem PW {n:Nat}{c:bH}{b:Br}{a:At}(h:vI n c b) (he:mH b (cP a)=0):Te a b=iI a b:=by
 unfold Te
 split
 ·rename_i hk;have hd:=vJ he;obtain⟨kind,index,day,bill,by_,to,bb⟩:=a;obtain⟨b,st,⟨s0,y0,c0⟩,⟨s1,y1,c1⟩,⟨s2,y2,c2⟩⟩:=b;obtain⟨hmay,hok,h0,h1,h2,hst⟩:=h;obtain⟨hix,hright,hday,hlive,hs3,hh3,hd3⟩:=hd;obtain rfl:kind=1:=hk;have hw:hY by_ to=false:=hright;obtain⟨w1,w2⟩:=wH hw;have hdy:gP day=true:=hday rfl;obtain⟨q0,q1,q2⟩:=xU hh3;have hpick:∀(q:Bool) (s:Int) (y:bH) (c:List pY),(q=true→iX (cP ⟨1,index,day,bill,by_,to,bb⟩) ⟨s,y,c⟩=false)→bS y=true→(bif q then tY by_ to day ⟨s,y,c⟩ else ⟨s,y,c⟩)=(bif q then wR by_ to day ⟨s,y,c⟩ else ⟨s,y,c⟩):=fun q s y c hq hy=>by
   cases q with
   |false=>rfl
   |true=>
    have h1:=hq rfl;unfold iX at h1;simp only[Bool.not_eq_false',decide_eq_true_eq]at h1;exact Pr h1 hy w1 w2 hdy
  show tG index (tY by_ to day) ⟨b,st,⟨s0,y0,c0⟩,⟨s1,y1,c1⟩,⟨s2,y2,c2⟩⟩=tG index (wR by_ to day) ⟨b,st,⟨s0,y0,c0⟩,⟨s1,y1,c1⟩,⟨s2,y2,c2⟩⟩;have e0:=hpick (fB index 0) s0 y0 c0 q0 h0.name;have e1:=hpick (fB index 1) s1 y1 c1 q1 h1.name;have e2:=hpick (fB index 2) s2 y2 c2 q2 h2.name;unfold tG;dsimp only;rw[e0,e1,e2]
 ·rfl
theorem M4 {n:Nat}{R:Rg}(h:Cd n R) (a:At):vS R a=(kI R a).1:=by
 unfold vS
 split
 ·rename_i hk;rw[Jp hk]
 ·rename_i hk;rw[zL hk];by_cases h0:eI R.bills (cP a)=0
  ·rw[uS h.nd _ _ h0,uS h.nd _ _ h0];congr 1;refine List.map_congr_left fun b hb=>?_
   split
   ·rename_i hs;exact PW (h.all b hb) (M6 h.nd h0 hb hs)
   ·rfl
  ·rw[Ex _ _ h0,Ex _ _ h0]
def leB (a b:bH):Prop:=jK a≤jK b
theorem K6 {a b c:bH}(h:leB a b) (k:leB b c):leB a c:=List.le_trans h k
theorem M9 {a b:bH}(h:leB a b) (k:leB b a):a=b:=by
 have:=List.le_antisymm h k;rw[←nF a,←nF b,this]
theorem KX {a b:bH}(h:lQ a b=true):leB a b:=List.le_of_lt (of_decide_eq_true h)
theorem AA {a b:bH}(h:lQ a b=false):leB b a:=List.not_lt.1 (of_decide_eq_false h)
theorem Dz (l:List bH):(dN l).Pairwise leB:=by
 have ht:∀a b c:List UInt8,decide (a≤b)=true→decide (b≤c)=true→decide (a≤c)=true:=fun a b c h1 h2=>aH (List.le_trans (of_decide_eq_true h1) (of_decide_eq_true h2))
 have hs:∀a b:List UInt8,(decide (a≤b) || decide (b≤a))=true:=fun a b=>by
  rcases List.le_total a b with h|h
  ·rw[aH h];rfl
  ·rw[aH h];exact Bool.or_true _
 unfold dN;rw[List.pairwise_map];refine(List.pairwise_mergeSort ht hs (l.map jK)).imp fun {a b} h=>?_
 show jK (kU a)≤jK (kU b);exact of_decide_eq_true h
theorem iQ (l:List bH):(dN l).Perm l:=by
 unfold dN;have h:=((List.mergeSort_perm (l.map jK) fun x y=>decide (x≤y)).map kU)
 rw[List.map_map]at h;have e:(kU ∘ jK)=id:=funext nF;rw[e,List.map_id]at h;exact h
theorem Lt {l m:List bH}(hl:l.Pairwise leB) (hm:m.Pairwise leB) (h:l.Perm m):l=m:=List.Perm.eq_of_pairwise (le:=leB) (fun a b _ _=>M9) hl hm h
theorem Gv {L:List Br}{p:Br→Bool}{s:bH}:s∈fW L p↔ ∃b∈L,p b=true∧b.b.number=s:=by
 unfold fW;rw[(iQ _).mem_iff,List.mem_filterMap];constructor
 ·rintro ⟨b,hb,h⟩;unfold gN at h;cases hp:p b<;>rw[hp]at h
  ·cases h
  ·cases h;exact⟨b,hb,hp,rfl⟩
 ·rintro ⟨b,hb,hp,rfl⟩;exact⟨b,hb,by unfold gN;rw[hp];rfl⟩
section
variable {α:Type}
def gS (key:α→bH) (L:List α) (s:bH):Option α:=L.find? fun b=>decide (key b=s)
theorem IJ (key:α→bH) (L:List α) (s:bH):gS key L s=(lI key L s).bind fun i=>L[i]?:=by
 unfold gS lI;rw[List.find?_eq_bind_findIdx?_getElem?]
theorem mF {key:α→bH}{L:List α}{s:bH}{i:Nat}{y:α}(h:lI key L s=some i) (hy:L[i]?=some y):gS key L s=some y:=by
 rw[IJ,h];exact hy
theorem sV {key:α→bH}{L:List α}{s:bH}(h:lI key L s=none):gS key L s=none:=by
 rw[IJ,h];rfl
theorem iZ {key:α→bH}{L:List α}{s:bH}{y:α}(h:gS key L s=some y):y∈L∧key y=s:=⟨List.mem_of_find?_eq_some h,by unfold gS at h;have h2:=List.find?_some h;simpa using h2⟩
theorem iH {key:α→bH}{L:List α}{s:bH}(h:gS key L s=none) {y:α}(hy:y∈L):key y≠s:=by
 unfold gS at h;rw[List.find?_eq_none]at h;have:=h y hy;simpa using this
theorem tE {key:α→bH}{L:List α}(h:(L.map key).Nodup) {y:α}{s:bH}(hy:y∈L) (hs:key y=s):gS key L s=some y:=by
 cases hl:gS key L s with
 |none=>exact absurd hs (iH hl hy)
 |some x=>
  obtain⟨hx,hxs⟩:=iZ hl;congr 1
  induction L with
  |nil=>cases hy
  |cons a L ih=>
   rw[List.map_cons,List.nodup_cons]at h;rcases List.mem_cons.1 hy with rfl|hy1
   ·rcases List.mem_cons.1 hx with rfl|hx1
    ·rfl
    ·exact absurd (aX.2 ⟨x,hx1,hxs.trans hs.symm⟩) h.1
   ·rcases List.mem_cons.1 hx with rfl|hx1
    ·exact absurd (aX.2 ⟨y,hy1,hs.trans hxs.symm⟩) h.1
    ·exact ih h.2 hy1 (by
      cases h3:gS key L s with
      |none=>exact absurd hs (iH h3 hy1)
      |some z=>
       have:key a≠s:=fun e=>h.1 (aX.2 ⟨y,hy1,hs.trans e.symm⟩)
       unfold gS at hl h3;rw[List.find?_cons_of_neg (by simpa using this)]at hl;rw[←h3,hl]) hx1
theorem Ay {key:α→bH}{L L':List α}(p:L.Perm L') (h:(L.map key).Nodup) (s:bH):gS key L s=gS key L' s:=by
 have h':(L'.map key).Nodup:=(p.map key).nodup_iff.1 h;cases hl:gS key L' s with
 |some y=>
  obtain⟨hy,hs⟩:=iZ hl;exact tE h (p.mem_iff.2 hy) hs
 |none=>
  cases hk:gS key L s with
  |none=>rfl
  |some y=>
   obtain⟨hy,hs⟩:=iZ hk;exact absurd hs (iH hl (p.mem_iff.1 hy))
theorem zG (key:α→bH) (L M:List α) (s:bH):gS key (L++M) s=(gS key L s).or (gS key M s):=by
 unfold gS;rw[List.find?_append]
def iU (key:α→bH) (L:List α) (s:bH) (f:α→α):List α:=L.map fun b=>if key b=s then f b else b
theorem rX {key:α→bH}(L:List α) (s:bH) {f:α→α}(hf:∀b,key (f b)=key b):(iU key L s f).map key=L.map key:=by
 unfold iU;rw[List.map_map];refine List.map_congr_left fun b _=>?_
 show key (if key b=s then f b else b)=key b
 split
 ·exact hf b
 ·rfl
theorem rQ {key:α→bH}(L:List α) (s t:bH) {f:α→α}(hf:∀b,key (f b)=key b):gS key (iU key L s f) t=if t=s then (gS key L t).map f else gS key L t:=by
 unfold gS iU;rw[List.find?_map];have e:((fun b=>decide (key b=t)) ∘ fun b=>if key b=s then f b else b)=fun b=>decide (key b=t):=by
  funext b;show decide (key (if key b=s then f b else b)=t)=_
  split
  ·rw[hf b]
  ·rfl
 rw[e];cases hx:L.find? fun b=>decide (key b=t) with
 |none=>split<;>rfl
 |some y=>
  have hy:key y=t:=by have:=List.find?_some hx;simpa using this
  rw[Option.map_some,hy];by_cases h:t=s
  ·rw[aF h,aF h];rfl
  ·rw[aE h,aE h]
theorem nY {key:α→bH}{L:List α}(h:(L.map key).Nodup) {s:bH}{i:Nat}{y:α}(f:α→α) (hi:lI key L s=some i) (hy:L[i]?=some y):iU key L s f=L.set i (f y):=by
 obtain⟨z,hz,hzs⟩:=eB hi;rw[hy]at hz;cases hz;obtain⟨hil,rfl⟩:=aA.1 hy;unfold iU;refine List.ext_getElem (by rw[aJ,bA]) fun j h1 h2=>?_
 rw[List.getElem_map,List.getElem_set];have hjl:j < L.length:=by rw[bA]at h2;exact h2
 by_cases e:i=j
 ·subst e;rw[aF rfl,aF hzs]
 ·rw[aE e,aE fun hk=>e ?_];have:=List.pairwise_iff_getElem.1 h;rcases Nat.lt_trichotomy i j with h3|h3|h3
  ·exact absurd (by rw[List.getElem_map,List.getElem_map,hzs,hk]) (this i j (by rw[aJ];exact hil) (by rw[aJ];exact hjl) h3)
  ·exact h3
  ·exact absurd (by rw[List.getElem_map,List.getElem_map,hzs,hk]) (this j i (by rw[aJ];exact hjl) (by rw[aJ];exact hil) h3)
end
structure eJ where
 box:bH
 frm:bH
 to:bH
 place:bH
 day:Int
deriving instance DecidableEq for eJ
structure cV where
 box:bH
 hist:List eJ
def pF (H:List eJ) (s:bH):List eJ:=H.filter fun h=>decide (h.box=s)
theorem kO (H:List eJ) (x:eJ) (s:bH):pF (H++[x]) s=pF H s++if x.box=s then [x] else []:=by
 unfold pF;rw[List.filter_append];congr 1;by_cases h:x.box=s
 ·rw[aF h,List.filter_cons_of_pos (by simpa using h)];rfl
 ·rw[aE h,List.filter_cons_of_neg (by simpa using h)];rfl
structure lH (L:List cV) (H:List eJ):Prop where
 nd:(L.map cV.box).Nodup
 no:∀s,gS cV.box L s=none→pF H s=[]
 yes:∀s b,gS cV.box L s=some b→b.hist=pF H s∧pF H s≠[]
theorem lH.nil:lH [] []:=⟨.nil,fun _ _=>rfl,fun s b h=>by cases h⟩
theorem lH.perm {L L':List cV}{H:List eJ}(h:lH L H) (p:L.Perm L'):lH L' H:=
 ⟨(p.map _).nodup_iff.1 h.nd,fun s hs=>h.no s (by rw[Ay p h.nd];exact hs),fun s b hs=>h.yes s b (by rw[Ay p h.nd];exact hs)⟩
theorem lH.begin {L:List cV}{H:List eJ}(h:lH L H) {x:eJ}(hn:gS cV.box L x.box=none):lH (L++[⟨x.box,[x]⟩]) (H++[x]):=by
 refine⟨?_,fun s hs=>?_,fun s b hs=>?_⟩
 ·rw[List.map_append,List.nodup_append];refine⟨h.nd,by simp,fun a ha b hb e=>?_⟩;subst e;obtain⟨y,hy,hya⟩:=aX.1 ha;simp only[List.map_cons,List.map_nil,List.mem_singleton]at hb;exact iH hn hy (hya.trans hb)
 ·rw[zG]at hs;cases h1:gS cV.box L s with
  |some y=>rw[h1]at hs;cases hs
  |none=>
   rw[h1]at hs;have hne:¬x.box=s:=fun e=>by
    have:gS cV.box [(⟨x.box,[x]⟩:cV)] s=some ⟨x.box,[x]⟩:=List.find?_cons_of_pos (by simpa using e);rw[this]at hs;cases hs
   rw[kO,aE hne,h.no s h1];rfl
 ·rw[zG]at hs;cases h1:gS cV.box L s with
  |some y=>
   rw[h1]at hs;cases hs;have hne:¬x.box=s:=fun e=>by rw[e,h1]at hn;cases hn
   rw[kO,aE hne,List.append_nil];exact h.yes s b h1
  |none=>
   rw[h1]at hs;by_cases e:x.box=s
   ·have:gS cV.box [(⟨x.box,[x]⟩:cV)] s=some ⟨x.box,[x]⟩:=List.find?_cons_of_pos (by simpa using e);rw[this]at hs;cases hs;rw[kO,aF e,h.no s h1];exact⟨rfl,by simp⟩
   ·have:gS cV.box [(⟨x.box,[x]⟩:cV)] s=none:=by
     unfold gS;rw[List.find?_cons_of_neg (by simpa using e)];rfl
    rw[this]at hs;cases hs
def iC (x:eJ):cV→cV:=fun b=>⟨b.box,b.hist++[x]⟩
theorem rU (x:eJ) (b:cV):(iC x b).box=b.box:=rfl
theorem lH.hand {L:List cV}{H:List eJ}(h:lH L H) {x:eJ}{b:cV}(hb:gS cV.box L x.box=some b):lH (iU cV.box L x.box (iC x)) (H++[x]):=by
 refine⟨by rw[rX _ _ (rU x)];exact h.nd,fun s hs=>?_,fun s c hs=>?_⟩
 ·rw[rQ _ _ _ (rU x)]at hs;by_cases e:s=x.box
  ·subst e;rw[aF rfl,hb]at hs;cases hs
  ·rw[aE e]at hs;rw[kO,aE (fun h=>e h.symm),h.no s hs];rfl
 ·rw[rQ _ _ _ (rU x)]at hs;by_cases e:s=x.box
  ·subst e;rw[aF rfl,hb]at hs;cases hs;rw[kO,aF rfl];exact⟨by show b.hist++[x]=_;rw[(h.yes _ b hb).1],by simp⟩
  ·rw[aE e]at hs;rw[kO,aE (fun h=>e h.symm),List.append_nil];exact h.yes s c hs
def nA (s:bH):Bool→List bH→List bH
 |d,[]=>if d=true then [] else [s]
 |d,x :: r=>(if (!d && !lQ x s)=true then [s] else [])++((if x=s then [] else [x])++nA s (d || !lQ x s) r)
def oM (l:List bH) (s:bH):List bH:=nA s false l
def Pg (a b:bH):Prop:=leB a b∧a≠b
theorem oY (s:bH):∀l,nA s true l=l.filter fun x=>!decide (x=s)
 |[]=>rfl
 |x :: r=>by
  unfold nA;rw[show (true || !lQ x s)=true from rfl,oY s r];by_cases h:x=s
  ·rw[aF h,List.filter_cons_of_neg (by simp[h])];rfl
  ·rw[aE h,List.filter_cons_of_pos (by simp[h])];rfl
theorem wO (s y:bH):∀(l:List bH) (d:Bool),(d=true→s∈l∨True)→(y∈nA s d l↔(y∈l∧y≠s)∨(d=false∧y=s))
 |[],d,_=>by
  unfold nA;cases d<;>simp
 |x :: r,d,_=>by
  unfold nA;cases d with
  |true=>
   rw[show (true || !lQ x s)=true from rfl,oY];by_cases h:x=s
   ·subst h;simp;exact fun a b=>absurd b a
   ·simp[h];constructor
    ·rintro (rfl|⟨a,b⟩)
     ·exact⟨.inl rfl,h⟩
     ·exact⟨.inr a,b⟩
    ·rintro ⟨rfl|a,b⟩
     ·exact .inl rfl
     ·exact .inr ⟨a,b⟩
  |false=>
   cases hl:lQ x s with
   |true=>
    rw[show (false || !true)=false from rfl,List.mem_append,List.mem_append,wO s y r false (fun h=>by cases h)];have hne:x≠s:=fun e=>by
     subst e;unfold lQ at hl;exact absurd (of_decide_eq_true hl) (List.lt_irrefl _)
    rw[aE (by simp),aE hne];simp;constructor
    ·rintro (rfl|⟨a,b⟩|rfl)
     ·exact .inl ⟨.inl rfl,hne⟩
     ·exact .inl ⟨.inr a,b⟩
     ·exact .inr rfl
    ·rintro (⟨rfl|a,b⟩|rfl)
     ·exact .inl rfl
     ·exact .inr (.inl ⟨a,b⟩)
     ·exact .inr (.inr rfl)
   |false=>
    rw[show (false || !false)=true from rfl,oY,aF (by simp)];by_cases h:x=s
    ·subst h;simp;constructor
     ·rintro (rfl|⟨a,b⟩)
      ·exact .inr rfl
      ·exact .inl ⟨.inr a,b⟩
     ·rintro (⟨rfl|a,b⟩|rfl)
      ·exact .inl rfl
      ·exact .inr ⟨a,b⟩
      ·exact .inl rfl
    ·simp[h];constructor
     ·rintro (rfl|rfl|⟨a,b⟩)
      ·exact .inr rfl
      ·exact .inl ⟨.inl rfl,h⟩
      ·exact .inl ⟨.inr a,b⟩
     ·rintro (⟨rfl|a,b⟩|rfl)
      ·exact .inr (.inl rfl)
      ·exact .inr (.inr ⟨a,b⟩)
      ·exact .inl rfl
theorem ES {l:List bH}{s y:bH}:y∈oM l s↔y∈l∨y=s:=by
 unfold oM;rw[wO s y l false (fun h=>by cases h)];constructor
 ·rintro (⟨a,_⟩|⟨_,a⟩)
  ·exact .inl a
  ·exact .inr a
 ·rintro (a|a)
  ·by_cases h:y=s
   ·exact .inr ⟨rfl,h⟩
   ·exact .inl ⟨a,h⟩
  ·exact .inr ⟨rfl,a⟩
theorem Ci {l:List bH}(s:bH) (h:l.Pairwise Pg):(oM l s).Pairwise Pg:=by
 unfold oM
 induction l with
 |nil=>unfold nA;simp
 |cons x r ih=>
  obtain⟨h1,h2⟩:=List.pairwise_cons.1 h;unfold nA;cases hl:lQ x s with
  |true=>
   have hne:x≠s:=fun e=>by
    subst e;unfold lQ at hl;exact absurd (of_decide_eq_true hl) (List.lt_irrefl _)
   rw[aE (by simp),aE hne,show (false || !true)=false from rfl,List.nil_append,List.singleton_append,List.pairwise_cons];refine⟨fun y hy=>?_,ih h2⟩;rcases(wO s y r false (fun h=>by cases h)).1 hy with ⟨a,_⟩|⟨_,rfl⟩
   ·exact h1 y a
   ·exact⟨KX hl,hne⟩
  |false=>
   rw[aF (by simp),show (false || !false)=true from rfl,oY];have hsx:=AA hl;have h3:(r.filter fun y=>!decide (y=s)).Pairwise Pg:=h2.filter _;by_cases e:x=s
   ·subst e;rw[aF rfl,List.nil_append,List.singleton_append,List.pairwise_cons];exact⟨fun y hy=>h1 y ((List.mem_filter.1 hy).1),h3⟩
   ·rw[aE e,List.singleton_append,List.singleton_append,List.pairwise_cons,List.pairwise_cons];refine⟨fun y hy=>?_,fun y hy=>h1 y ((List.mem_filter.1 hy).1),h3⟩;rcases List.mem_cons.1 hy with rfl|hy
    ·exact⟨hsx,fun h=>e h.symm⟩
    ·have:=(List.mem_filter.1 hy).2;exact⟨K6 hsx (h1 y ((List.mem_filter.1 hy).1)).1,fun h=>by subst h;simp at this⟩
theorem EQ {l:List bH}(h:l.Pairwise Pg):l.Pairwise leB:=h.imp And.left
theorem Iu {l:List bH}(h:l.Pairwise Pg):l.Nodup:=h.imp And.right
theorem Ez {l m:List bH}(hl:l.Pairwise Pg) (hm:m.Nodup) (h:∀x,x∈l↔x∈m):l=dN m:=by
 refine Lt (EQ hl) (Dz m) ?_;exact((List.perm_ext_iff_of_nodup (Iu hl) hm).2 h).trans (iQ m).symm
def kT (H:List eJ):List bH:=H.foldl (fun l h=>oM l h.box) []
theorem CC:∀(H:List eJ) (l:List bH),l.Pairwise Pg→(H.foldl (fun l h=>oM l h.box) l).Pairwise Pg∧∀x,x∈H.foldl (fun l h=>oM l h.box) l↔x∈l∨∃h∈H,h.box=x
 |[],l,hl=>⟨hl,fun x=>by simp⟩
 |h :: H,l,hl=>by
  obtain⟨h1,h2⟩:=CC H (oM l h.box) (Ci h.box hl);refine⟨h1,fun x=>?_⟩;rw[List.foldl_cons,h2 x,ES];constructor
  ·rintro ((a|rfl)|⟨k,hk,e⟩)
   ·exact .inl a
   ·exact .inr ⟨h,bD ..,rfl⟩
   ·exact .inr ⟨k,aW _ hk,e⟩
  ·rintro (a|⟨k,hk,e⟩)
   ·exact .inl (.inl a)
   ·rcases List.mem_cons.1 hk with rfl|hk
    ·exact .inl (.inr e.symm)
    ·exact .inr ⟨k,hk,e⟩
theorem lH.mem {L:List cV}{H:List eJ}(h:lH L H) (x:bH):x∈L.map cV.box↔ ∃k∈H,k.box=x:=by
 constructor
 ·intro hx;obtain⟨b,hb,rfl⟩:=aX.1 hx;obtain⟨_,h2⟩:=h.yes _ b (tE h.nd hb rfl);obtain⟨k,hk⟩:=List.exists_mem_of_ne_nil _ h2;unfold pF at hk;obtain⟨h3,h4⟩:=List.mem_filter.1 hk;exact⟨k,h3,by simpa using h4⟩
 ·rintro ⟨k,hk,rfl⟩;cases hl:gS cV.box L k.box with
  |none=>
   have h2:=h.no _ hl;have:k∈pF H k.box:=List.mem_filter.2 ⟨hk,by simp⟩;rw[h2]at this;cases this
  |some b=>
   obtain⟨h1,h2⟩:=iZ hl;exact aX.2 ⟨b,h1,h2⟩
theorem lH.boxes {L:List cV}{H:List eJ}(h:lH L H):kT H=dN (L.map cV.box):=by
 obtain⟨h1,h2⟩:=CC H [] .nil;refine Ez h1 h.nd fun x=>?_
 rw[h.mem x];refine(h2 x).trans ?_;simp
theorem lH.len {L:List cV}{H:List eJ}(h:lH L H):(kT H).length=L.length:=by
 rw[h.boxes,(iQ _).length_eq,aJ]
def wI (H:List eJ) (x:eJ):Int:=if (!bS x.box || !bS x.to || !bS x.place)=true then 1 else if (!gP x.day)=true then 3 else if pF H x.box≠[] then 5 else if 4096≤(kT H).length then 7 else 0
def sF (L:List cV) (x:eJ):Int:=if (!bS x.box || !bS x.to || !bS x.place)=true then 1 else if (!gP x.day)=true then 3 else if (gS cV.box L x.box).isSome=true then 5 else if 4096≤L.length then 7 else 0
theorem lH.begE {L:List cV}{H:List eJ}(h:lH L H) (x:eJ):sF L x=wI H x:=by
 unfold sF wI;rw[h.len];cases hl:gS cV.box L x.box with
 |none=>rw[h.no _ hl];simp
 |some b=>simp[(h.yes _ b hl).2]
def xJ (x:eJ):Bool:=(!bS x.box || !bS x.frm || !bS x.to || !bS x.place) || decide (x.frm=x.to)
def Cj (own:List eJ) (x:eJ):Int:=match own.getLast? with
 |none=>4
 |some l=>if l.to≠x.frm then 8 else if x.day < l.day then 6 else if 4096≤own.length then 7 else 0
def iG (H:List eJ) (x:eJ):Int:=if xJ x=true then 1 else if (!gP x.day)=true then 3 else Cj (pF H x.box) x
def iF (L:List cV) (x:eJ):Int:=if xJ x=true then 1 else if (!gP x.day)=true then 3 else match gS cV.box L x.box with
 |none=>4
 |some b=>Cj b.hist x
theorem lH.handE {L:List cV}{H:List eJ}(h:lH L H) (x:eJ):iF L x=iG H x:=by
 unfold iF iG;cases hl:gS cV.box L x.box with
 |none=>rw[h.no _ hl];rfl
 |some b=>dsimp only;rw[(h.yes _ b hl).1]
def eS:bH:=⟨#[]⟩
structure N3 where
 name:bH
 value:bH
structure Ln where
 kind:Int
 number:bH
 issuer:bH
 fields:List N3
structure dE where
 frm:bH
 to:bH
 number:Int
 kind:Int
 ack:Int
 deal:bH
 text:bH
 party:bH
 index:Int
 day:Int
 cur:bH
 amt:Int
 docs:List Ln
 boxes:List bH
def nJ:dE:=⟨eS,eS,0,0,0,eS,eS,eS,0,0,eS,0,[],[]⟩
structure De where
 number:bH
 seller:bH
 buyer:bH
 carrier:bH
 house:bH
 frm:bH
 to:bH
 boxes:List bH
structure Su where
 parties:List bH
 deals:List De
structure Dp where
 number:bH
 seller:bH
 buyer:bH
 house:bH
 frm:bH
 to:bH
 boxes:List bH
 state:Int
 rel:Bool
structure Cr where
 name:bH
 parties:List bH
 deals:List Dp
 reg:Rg
 cust:List cV
 deliv:List eJ
structure Cs where
 S:List Int
 free:List Bool
 reg:Rg
 H:List eJ
 D:List eJ
def kC (l:List bH) (s:bH):Bool:=l.any fun q=>decide (q=s)
def Ph:bH:=⟨#[98,108,45]⟩
def gI (n:bH):bH:=Ph++n
def cL (d:De) (st:Int) (fr:Bool):Dp:=⟨d.number,d.seller,d.buyer,d.house,d.frm,d.to,d.boxes,st,fr⟩
def dD (s:Su) (name n:bH):Option Nat:=s.deals.findIdx? fun d=>decide (d.carrier=name) && decide (d.number=n)
def gT (name:bH) (d:Dp) (day:Int):Bl:=⟨gI d.number,name,d.seller,d.frm,d.to,d.boxes,[],day,true⟩
def cS (frm to place:bH) (day:Int) (b:bH):eJ:=⟨b,frm,to,place,day⟩
def cF (n:bH) (day:Int) (l:List dE):List dE:=l.map fun x=>{ x with deal:=n,day:=day }
def Z0 (C:Cr) (n:bH) (f:Dp→Dp):Cr:={ C with deals:=iU Dp.number C.deals n f }
def sB (st:Int) (d:Dp):Dp:={ d with state:=st }
def Mq (d:Dp):Dp:={ d with rel:=true }
def fF (name:bH) (d:Dp) (day:Int):List cV→List bH→Option (List cV)
 |L,[]=>some L
 |L,b :: r=>if sF L (cS eS d.seller d.frm day b)≠0 then none else
  if iF (L++[⟨b,[cS eS d.seller d.frm day b]⟩]) (cS d.seller name d.frm day b)≠0 then none else
  fF name d day (iU cV.box (L++[⟨b,[cS eS d.seller d.frm day b]⟩]) b (iC (cS d.seller name d.frm day b))) r
def eR (f:bH→eJ):List cV→List bH→Option (List cV)
 |L,[]=>some L
 |L,b :: r=>if iF L (f b)≠0 then none else eR f (iU cV.box L (f b).box (iC (f b))) r
def cI (kind:Int) (d:Dp) (l:dE) (day:Int):At:=⟨kind,l.index,day,gI d.number,l.frm,l.party,noBl⟩
where noBl:Bl:=⟨eS,eS,eS,eS,eS,[],[],0,false⟩
def eV (nm:Int→bH) (l:dE):List dE:=[{ nJ with to:=l.frm,kind:=22,text:=nm l.kind,index:=l.index,party:=l.party }]
def sI (C:Cr) (d:Dp) (l:dE) (day:Int):Cr:=if l.frm≠d.seller∨d.state≠0 then C else match fF C.name d day C.cust d.boxes with
 |none=>C
 |some L=>Z0 { C with cust:=L } d.number (sB 1)
def jL (R:Rg) (a:At):Int:=eI R.bills (cP a)
def yQ (nm:Int→bH) (C:Cr) (d:Dp) (l:dE) (day:Int):Cr×List dE:=
 if kC C.parties l.party=false∨l.party=l.frm∨jL C.reg (cI 1 d l day)≠0 then (C,eV nm l)
 else ({ C with reg:=vS C.reg (cI 1 d l day) },[{ nJ with to:=l.party,kind:=9,index:=l.index,party:=l.party }])
def DF (nm:Int→bH) (C:Cr) (d:Dp) (l:dE) (day:Int):Cr×List dE:=
 if d.state≠3∨d.rel=false then (C,eV nm l) else match eR (cS C.name l.frm d.to day) C.cust d.boxes with
 |none=>(C,eV nm l)
 |some L=>if jL C.reg (cI 2 d l day)≠0 then (C,eV nm l) else
  (Z0 { C with cust:=L,deliv:=C.deliv++d.boxes.map (cS C.name l.frm d.to day),reg:=vS C.reg (cI 2 d l day) } d.number (sB 4),[{ nJ with to:=l.frm,kind:=21,boxes:=d.boxes }])
def FG (C:Cr) (d:Dp) (l:dE):Cr:=if d.house≠eS∧l.frm=d.house then Z0 C d.number Mq else C
def rH (nm:Int→bH) (C:Cr) (d:Dp) (l:dE) (day:Int):Cr×List dE:=
 if jL C.reg (cI 3 d l day)≠0 then (C,eV nm l) else ({ C with reg:=vS C.reg (cI 3 d l day) },[])
def qU (nm:Int→bH) (C:Cr) (d:Dp) (l:dE) (day:Int):Cr×List dE:=
 if jL C.reg (cI 4 d l day)≠0 then (C,eV nm l) else ({ C with reg:=vS C.reg (cI 4 d l day) },[{ nJ with to:=l.frm,kind:=25,index:=l.index }])
def qD (nm:Int→bH) (C:Cr) (d:Dp) (l:dE) (day:Int):Cr×List dE:=
 if l.kind=4 then (sI C d l day,[])
 else if l.kind=8 then yQ nm C d l day
 else if l.kind=20 then DF nm C d l day
 else if l.kind=19 then (FG C d l,[])
 else if l.kind=23 then rH nm C d l day
 else if l.kind=24 then qU nm C d l day
 else (C,[])
def mB (nm:Int→bH) (C:Cr) (l:dE) (day:Int):Cr×List dE:=match gS Dp.number C.deals l.deal with
 |none=>(C,[])
 |some d=>if kC C.parties l.frm=false then (C,[]) else ((qD nm C d l day).1,cF d.number day (qD nm C d l day).2)
def vG (lad:Bl→Ln) (C:Cr) (d:Dp) (day:Int):Cr×List dE×Int:=
 if gR ⟨C.reg,gT C.name d day,d.seller⟩≠0 then (C,[],gR ⟨C.reg,gT C.name d day,d.seller⟩)
 else (Z0 { C with reg:=kB ⟨C.reg,gT C.name d day,d.seller⟩ } d.number (sB 2),cF d.number day [{ nJ with to:=d.seller,kind:=5,docs:=[lad (gT C.name d day)] }],0)
def Jy (C:Cr) (d:Dp) (day:Int):Cr×List dE×Int:=(Z0 C d.number (sB 3),cF d.number day [{ nJ with to:=d.buyer,kind:=26,boxes:=d.boxes }],0)
def lE (lad:Bl→Ln) (C:Cr) (kind:Int) (deal:bH) (day:Int):Cr×List dE×Int:=
 if kind≠5∧kind≠6 then (C,[],1) else match gS Dp.number C.deals deal with
 |none=>(C,[],4)
 |some d=>if d.state≠(if kind=5 then 1 else 2) then (C,[],9) else if kind=5 then vG lad C d day else Jy C d day
def oU (x:Cs) (i:Nat) (st:Int):Cs:={ x with S:=x.S.set i st }
def lA (name:bH) (d:De) (day:Int):List eJ→List bH→Option (List eJ)
 |H,[]=>some H
 |H,b :: r=>if wI H (cS eS d.seller d.frm day b)≠0 then none else
  if iG (H++[cS eS d.seller d.frm day b]) (cS d.seller name d.frm day b)≠0 then none else
  lA name d day (H++[cS eS d.seller d.frm day b]++[cS d.seller name d.frm day b]) r
def iJ (f:bH→eJ):List eJ→List bH→Option (List eJ)
 |H,[]=>some H
 |H,b :: r=>if iG H (f b)≠0 then none else iJ f (H++[f b]) r
def fA (kind:Int) (d:De) (l:dE) (day:Int):At:=⟨kind,l.index,day,gI d.number,l.frm,l.party,cI.noBl⟩
def eX (nm:Int→bH) (s:Su) (name:bH) (x:Cs) (l:dE) (day:Int):Cs×List dE:=match dD s name l.deal with
 |none=>(x,[])
 |some i=>if kC s.parties l.frm=false then (x,[]) else match s.deals[i]?,x.S[i]?,x.free[i]? with
  |some d,some st,some fr=>
   if l.kind=4 then (if l.frm=d.seller∧st=0 then (match lA name d day x.H d.boxes with
    |none=>x
    |some H=>oU { x with H:=H } i 1) else x,[])
   else if l.kind=19 then (if d.house≠eS∧l.frm=d.house then { x with free:=x.free.set i true } else x,[])
   else if l.kind=8∨l.kind=20∨l.kind=23∨l.kind=24 then
    let k:Int:=if l.kind=8 then 1 else if l.kind=20 then 2 else if l.kind=23 then 3 else 4
    let a:=fA k d l day
    if (kI x.reg a).2≠0∨(k=1∧(kC s.parties l.party=false∨l.party=l.frm)) then (x,cF l.deal day (eV nm l))
    else if k=2 then match iJ (cS name l.frm d.to day) x.H d.boxes with
     |none=>(x,cF l.deal day (eV nm l))
     |some H=>if st≠3∨fr=false then (x,cF l.deal day (eV nm l)) else
      (oU { x with D:=x.D++H.drop x.H.length,H:=H,reg:=(kI x.reg a).1 } i 4,cF l.deal day [{ nJ with to:=l.frm,kind:=21,boxes:=d.boxes }])
    else ({ x with reg:=(kI x.reg a).1 },cF l.deal day (if k=1 then [{ nJ with to:=l.party,kind:=9,index:=l.index,party:=l.party }] else if k=4 then [{ nJ with to:=l.frm,kind:=25,index:=l.index }] else []))
   else (x,[])
  |_,_,_=>(x,[])
def kJ (lad:Bl→Ln) (s:Su) (name:bH) (x:Cs) (kind:Int) (deal:bH) (day:Int):Cs×List dE×Int:=
 if kind≠5∧kind≠6 then (x,[],1) else match dD s name deal with
 |none=>(x,[],4)
 |some i=>match s.deals[i]?,x.S[i]? with
  |some d,some st=>
   if kind=6 then (if st≠2 then (x,[],9) else (oU x i 3,cF d.number day [{ nJ with to:=d.buyer,kind:=26,boxes:=d.boxes }],0))
   else if st≠1 then (x,[],9) else
    let b:Bl:=gT name (cL d st true) day
    if gR ⟨x.reg,b,d.seller⟩≠0 then (x,[],gR ⟨x.reg,b,d.seller⟩)
    else ({ oU x i 2 with reg:=kB ⟨x.reg,b,d.seller⟩ },cF d.number day [{ nJ with to:=d.seller,kind:=5,docs:=[lad b] }],0)
  |_,_=>(x,[],4)
structure eZ (s:Su) (C:Cr) (x:Cs):Prop where
 par:∀p,kC C.parties p=kC s.parties p
 nd:(C.deals.map Dp.number).Nodup
 lenS:x.S.length=s.deals.length
 lenF:x.free.length=s.deals.length
 no:∀n,dD s C.name n=none→gS Dp.number C.deals n=none
 yes:∀n i d st fr,dD s C.name n=some i→s.deals[i]?=some d→x.S[i]?=some st→x.free[i]?=some fr→gS Dp.number C.deals n=some (cL d st fr)
 reg:C.reg=x.reg
 inv:∃n,Cd n x.reg
 cust:lH C.cust x.H
 del:C.deliv=x.D
theorem oG {s:Su}{name n:bH}{i:Nat}(h:dD s name n=some i):∃d,s.deals[i]?=some d∧d.carrier=name∧d.number=n:=by
 unfold dD at h;rw[List.findIdx?_eq_some_iff_getElem]at h;obtain⟨hi,h1,_⟩:=h;simp only[aO,decide_eq_true_eq]at h1;exact⟨_,aB hi,h1.1,h1.2⟩
theorem eZ.at {s:Su}{C:Cr}{x:Cs}(h:eZ s C x) {n:bH}{i:Nat}(hi:dD s C.name n=some i):∃d st fr,s.deals[i]?=some d∧x.S[i]?=some st∧x.free[i]?=some fr∧d.number=n∧gS Dp.number C.deals n=some (cL d st fr):=by
 obtain⟨d,hd,_,hn⟩:=oG hi;have hil:=(aA.1 hd).1;obtain⟨st,h1⟩:∃st,x.S[i]?=some st:=⟨_,aB (by rw[h.lenS];exact hil)⟩
 obtain⟨fr,h2⟩:∃fr,x.free[i]?=some fr:=⟨_,aB (by rw[h.lenF];exact hil)⟩
 exact⟨d,_,_,hd,h1,h2,hn,h.yes n i d _ _ hi hd h1 h2⟩
theorem eZ.perm {s:Su}{C:Cr}{x:Cs}(h:eZ s C x) {L:List cV}(p:C.cust.Perm L):eZ s { C with cust:=L } x:=⟨h.par,h.nd,h.lenS,h.lenF,h.no,h.yes,h.reg,h.inv,h.cust.perm p,h.del⟩
theorem eZ.upd {s:Su}{C:Cr}{x:Cs}(h:eZ s C x) {n:bH}{i:Nat}(hi:dD s C.name n=some i) {f:Dp→Dp}(hf:∀b,(f b).number=b.number) {S:List Int}{F:List Bool}(hS:S.length=s.deals.length) (hF:F.length=s.deals.length)
  (ho:∀j,j≠i→S[j]?=x.S[j]?∧F[j]?=x.free[j]?)
  (he:∀d st fr st' fr',s.deals[i]?=some d→x.S[i]?=some st→x.free[i]?=some fr→S[i]?=some st'→F[i]?=some fr'→f (cL d st fr)=cL d st' fr'):eZ s (Z0 C n f) { x with S:=S,free:=F }:=by
 refine⟨h.par,?_,hS,hF,fun m hm=>?_,fun m j d st fr hj hd hs hf2=>?_,h.reg,h.inv,h.cust,h.del⟩
 ·show ((iU Dp.number C.deals n f).map Dp.number).Nodup;rw[rX _ _ hf];exact h.nd
 ·show gS Dp.number (iU Dp.number C.deals n f) m=none;rw[rQ _ _ _ hf,h.no m hm]
  split<;>rfl
 ·show gS Dp.number (iU Dp.number C.deals n f) m=some (cL d st fr);have hj2:dD s C.name m=some j:=hj;clear hj;rw[rQ _ _ _ hf];by_cases e:m=n
  ·subst e;cases hi.symm.trans hj2;obtain⟨d0,st0,fr0,g1,g2,g3,g4,g5⟩:=h.at hi;rw[aF rfl,g5,Option.map_some];rw[hd]at g1;cases g1;rw[he d st0 fr0 st fr hd g2 g3 hs hf2]
  ·rw[aE e];have hji:j≠i:=fun e2=>by
    subst e2;obtain⟨_,g1,_,g2⟩:=oG hj2;obtain⟨_,g3,_,g4⟩:=oG hi;rw[g1]at g3;cases g3;exact e (g2.symm.trans g4)
   obtain⟨e1,e2⟩:=ho j hji;exact h.yes m j d st fr hj2 hd (by rw[←e1];exact hs) (by rw[←e2];exact hf2)
theorem Nb {α:Type}{l:List α}{i:Nat}{a b:α}(h:(l.set i a)[i]?=some b):b=a:=by
 rw[List.getElem?_set_self' ]at h;cases hl:l[i]? with
 |none=>rw[hl]at h;cases h
 |some y=>rw[hl]at h;cases h;rfl
theorem eZ.state {s:Su}{C:Cr}{x:Cs}(h:eZ s C x) {n:bH}{i:Nat}(hi:dD s C.name n=some i) (st:Int):eZ s (Z0 C n (sB st)) (oU x i st):=by
 refine h.upd (f:=sB st) hi (fun _=>rfl) (S:=x.S.set i st) (F:=x.free) (by rw[bA];exact h.lenS) h.lenF (fun j hj=>⟨aU (fun e=>hj e.symm),rfl⟩) fun d st0 fr st' fr' _ _ h3 h4 h5=>?_
 rw[Nb h4];rw[h3]at h5;cases h5;rfl
theorem eZ.free {s:Su}{C:Cr}{x:Cs}(h:eZ s C x) {n:bH}{i:Nat}(hi:dD s C.name n=some i):eZ s (Z0 C n Mq) { x with free:=x.free.set i true }:=by
 refine h.upd (f:=Mq) hi (fun _=>rfl) (S:=x.S) (F:=x.free.set i true) h.lenS (by rw[bA];exact h.lenF) (fun j hj=>⟨rfl,aU (fun e=>hj e.symm)⟩) fun d st0 fr st' fr' _ h2 _ h4 h5=>?_
 rw[Nb h5];rw[h2]at h4;cases h4;rfl
theorem zY (name:bH) (d:De) (st:Int) (fr:Bool) (day:Int):∀(bs:List bH) (L:List cV) (H:List eJ),lH L H →
  (fF name (cL d st fr) day L bs=none∧lA name d day H bs=none)∨∃L' H',fF name (cL d st fr) day L bs=some L'∧lA name d day H bs=some H'∧lH L' H'
 |[],L,H,h=>.inr ⟨L,H,rfl,rfl,h⟩
 |b :: r,L,H,h=>by
  obtain⟨x1,hx1⟩:∃x,x=cS eS d.seller d.frm day b:=⟨_,rfl⟩
  obtain⟨x2,hx2⟩:∃x,x=cS d.seller name d.frm day b:=⟨_,rfl⟩
  have b1:x1.box=b:=by rw[hx1];rfl
  have b2:x2.box=b:=by rw[hx2];rfl
  have g1:fF name (cL d st fr) day L (b :: r)=if sF L x1≠0 then none else if iF (L++[⟨b,[x1]⟩]) x2≠0 then none else fF name (cL d st fr) day (iU cV.box (L++[⟨b,[x1]⟩]) b (iC x2)) r:=by subst hx1 hx2;rfl
  have g2:lA name d day H (b :: r)=if wI H x1≠0 then none else if iG (H++[x1]) x2≠0 then none else lA name d day (H++[x1]++[x2]) r:=by subst hx1 hx2;rfl
  clear hx1 hx2;rw[g1,g2,h.begE x1];by_cases h1:wI H x1≠0
  ·rw[aF h1,aF h1];exact .inl ⟨rfl,rfl⟩
  ·rw[aE h1,aE h1];have hn:gS cV.box L x1.box=none:=by
    have h0:wI H x1=0:=Decidable.not_not.1 h1;unfold wI at h0;cases hl:gS cV.box L x1.box with
    |none=>rfl
    |some y=>
     exfalso;have h3:=(h.yes _ y hl).2;rw[aF h3]at h0
     split at h0
     ·cases h0
     split at h0<;>cases h0
   have hc:=h.begin (x:=x1) hn;rw[b1]at hc;rw[hc.handE x2];by_cases h2:iG (H++[x1]) x2≠0
   ·rw[aF h2,aF h2];exact .inl ⟨rfl,rfl⟩
   ·rw[aE h2,aE h2];have hl2:gS cV.box (L++[⟨b,[x1]⟩]) x2.box=some ⟨b,[x1]⟩:=by
     rw[zG,b2];rw[b1]at hn;rw[hn];show gS cV.box [(⟨b,[x1]⟩:cV)] b=_;unfold gS;exact List.find?_cons_of_pos (p:=fun c:cV=>decide (c.box=b)) (aH rfl)
    have hc2:=hc.hand (x:=x2) hl2;rw[b2]at hc2;exact zY name d st fr day r _ _ hc2
theorem KK {L:List cV}{x:eJ}(h:iF L x=0):∃b,gS cV.box L x.box=some b:=by
 unfold iF at h
 split at h
 ·cases h
 split at h
 ·cases h
 split at h
 ·cases h
 ·rename_i b hb;exact⟨b,hb⟩
theorem qI (f:bH→eJ):∀(bs:List bH) (L:List cV) (H:List eJ),lH L H →
  (eR f L bs=none∧iJ f H bs=none)∨∃L',eR f L bs=some L'∧iJ f H bs=some (H++bs.map f)∧lH L' (H++bs.map f)
 |[],L,H,h=>.inr ⟨L,rfl,by rw[List.map_nil,List.append_nil];rfl,by rw[List.map_nil,List.append_nil];exact h⟩
 |b :: r,L,H,h=>by
  have g1:eR f L (b :: r)=if iF L (f b)≠0 then none else eR f (iU cV.box L (f b).box (iC (f b))) r:=rfl
  have g2:iJ f H (b :: r)=if iG H (f b)≠0 then none else iJ f (H++[f b]) r:=rfl
  rw[g1,g2,h.handE (f b)];by_cases h1:iG H (f b)≠0
  ·rw[aF h1,aF h1];exact .inl ⟨rfl,rfl⟩
  ·rw[aE h1,aE h1];obtain⟨y,hy⟩:=KK ((h.handE (f b)).trans (Decidable.not_not.1 h1));have:=qI f r _ _ (h.hand hy);rw[List.map_cons,show H++f b :: r.map f=H++[f b]++r.map f by simp];exact this
set_option maxHeartbeats 2000000
theorem eZ.reg_act {s:Su}{C:Cr}{x:Cs}(h:eZ s C x) (a:At) (hk:0≤a.kind∧a.kind≤5) (hb:yS a.b):eZ s { C with reg:=vS C.reg a } { x with reg:=(kI x.reg a).1 }:=by
 obtain⟨n,hn⟩:=h.inv;refine⟨h.par,h.nd,h.lenS,h.lenF,h.no,h.yes,?_,⟨n+1,OC hn hk hb⟩,h.cust,h.del⟩;show vS C.reg a=(kI x.reg a).1;rw[h.reg,M4 hn]
theorem Da {R:Rg}{a:At}(h:¬a.kind=0):jL R a=(kI R a).2:=by rw[zL h];rfl
theorem nK:yS cI.noBl:=⟨aI _,aI _⟩
theorem eZ.take {s:Su}{C:Cr}{x:Cs}(nm:Int→bH) (h:eZ s C x) (l:dE) (day:Int) :
  eZ s (mB nm C l day).1 (eX nm s C.name x l day).1∧(mB nm C l day).2=(eX nm s C.name x l day).2∧(mB nm C l day).1.name=C.name:=by
 unfold mB eX;cases hi:dD s C.name l.deal with
 |none=>
  rw[h.no _ hi];exact⟨h,rfl,rfl⟩
 |some i=>
  obtain⟨d,st,fr,h1,h2,h3,h4,h5⟩:=h.at hi;rw[h5];dsimp only;rw[h1,h2,h3,h.par];dsimp only;cases hp:kC s.parties l.frm with
  |false=>
   rw[aF rfl,aF rfl];exact⟨h,rfl,rfl⟩
  |true=>
  rw[aE (by decide),aE (by decide)];dsimp only;unfold qD;have hnum:(cL d st fr).number=l.deal:=h4;have hbn:gI d.number=gI l.deal:=by rw[h4]
  rw[hnum];by_cases k4:l.kind=4
  ·rw[aF k4,aF k4];refine⟨?_,rfl,?_⟩
   ·show eZ s (sI C (cL d st fr) l day) _;unfold sI;by_cases hc:l.frm=d.seller∧st=0
    ·rw[aE (show ¬(l.frm≠(cL d st fr).seller∨(cL d st fr).state≠0) from fun k=>k.elim (fun k=>k hc.1) fun k=>k hc.2),aF hc];rcases zY C.name d st fr day d.boxes C.cust x.H h.cust with ⟨e1,e2⟩|⟨L,H,e1,e2,e3⟩
     ·rw[show fF C.name (cL d st fr) day C.cust (cL d st fr).boxes=none from e1,e2];exact h
     ·rw[show fF C.name (cL d st fr) day C.cust (cL d st fr).boxes=some L from e1,e2];have h9:eZ s { C with cust:=L } { x with H:=H }:=⟨h.par,h.nd,h.lenS,h.lenF,h.no,h.yes,h.reg,h.inv,e3,h.del⟩
      rw[show (cL d st fr).number=l.deal from h4];exact h9.state hi 1
    ·rw[aF (show l.frm≠(cL d st fr).seller∨(cL d st fr).state≠0 from by
      by_cases k:l.frm=d.seller
      ·exact .inr fun k2=>hc ⟨k,k2⟩
      ·exact .inl k),aE hc]
     exact h
   ·show (sI C (cL d st fr) l day).name=C.name;unfold sI
    split
    ·rfl
    ·split<;>rfl
  rw[aE k4,aE k4];by_cases k8:l.kind=8
  ·rw[aF k8,aE (by omega),aF (.inl k8),aF k8];show eZ s (yQ nm C (cL d st fr) l day).1 _∧cF l.deal day (yQ nm C (cL d st fr) l day).2=_∧_;unfold yQ;have e0:cI 1 (cL d st fr) l day=fA 1 d l day:=rfl;have ea:jL C.reg (cI 1 (cL d st fr) l day)=(kI x.reg (fA 1 d l day)).2:=by rw[e0,h.reg];exact Da (show ¬(1:Int)=0 by decide)
   rw[ea,h.par];by_cases hc:kC s.parties l.party=false∨l.party=l.frm∨(kI x.reg (fA 1 d l day)).2≠0
   ·rw[aF hc,aF (by
     rcases hc with hc|hc|hc
     ·exact .inr ⟨rfl,.inl hc⟩
     ·exact .inr ⟨rfl,.inr hc⟩
     ·exact .inl hc)]
    exact⟨h,rfl,rfl⟩
   ·rw[aE hc,aE (by
     rintro (k|⟨_,k|k⟩)
     ·exact hc (.inr (.inr k))
     ·exact hc (.inl k)
     ·exact hc (.inr (.inl k))),aE (by decide),aF rfl]
    exact⟨e0 ▸ h.reg_act (fA 1 d l day) ⟨show (0:Int)≤1 by decide,show (1:Int)≤5 by decide⟩ nK,rfl,rfl⟩
  rw[aE k8];by_cases k20:l.kind=20
  ·rw[aF k20,aE (by omega),aF (.inr (.inl k20)),aE k8,aF k20];show eZ s (DF nm C (cL d st fr) l day).1 _∧cF l.deal day (DF nm C (cL d st fr) l day).2=_∧_;unfold DF;have e0:cI 2 (cL d st fr) l day=fA 2 d l day:=rfl;have ea:jL C.reg (cI 2 (cL d st fr) l day)=(kI x.reg (fA 2 d l day)).2:=by rw[e0,h.reg];exact Da (show ¬(2:Int)=0 by decide)
   rw[ea];have hs:=qI (cS C.name l.frm d.to day) d.boxes C.cust x.H h.cust;have er:¬((2:Int)=1∧(kC s.parties l.party=false∨l.party=l.frm)):=fun k=>absurd k.1 (by decide)
   by_cases hst:st≠3∨fr=false
   ·rw[aF (show (cL d st fr).state≠3∨(cL d st fr).rel=false from hst)];by_cases hd:(kI x.reg (fA 2 d l day)).2≠0
    ·rw[aF (.inl hd)];exact⟨h,rfl,rfl⟩
    ·rw[aE (fun k=>k.elim hd er),aF rfl];rcases hs with ⟨_,e2⟩|⟨L,_,e2,_⟩
     ·rw[e2];exact⟨h,rfl,rfl⟩
     ·rw[e2];dsimp only;rw[aF hst];exact⟨h,rfl,rfl⟩
   ·rw[aE (show ¬((cL d st fr).state≠3∨(cL d st fr).rel=false) from hst)];rcases hs with ⟨e1,e2⟩|⟨L,e1,e2,e3⟩
    ·rw[show eR (cS C.name l.frm (cL d st fr).to day) C.cust (cL d st fr).boxes=none from e1];by_cases hd:(kI x.reg (fA 2 d l day)).2≠0
     ·rw[aF (.inl hd)];exact⟨h,rfl,rfl⟩
     ·rw[aE (fun k=>k.elim hd er),aF rfl,e2];exact⟨h,rfl,rfl⟩
    ·rw[show eR (cS C.name l.frm (cL d st fr).to day) C.cust (cL d st fr).boxes=some L from e1];dsimp only;by_cases hd:(kI x.reg (fA 2 d l day)).2≠0
     ·rw[aF hd,aF (.inl hd)];exact⟨h,rfl,rfl⟩
     ·rw[aE hd,aE (fun k=>k.elim hd er),aF rfl,e2];dsimp only;rw[aE hst];have hr:=h.reg_act (fA 2 d l day) ⟨show (0:Int)≤2 by decide,show (2:Int)≤5 by decide⟩ nK;have h9:eZ s { C with cust:=L,deliv:=C.deliv++d.boxes.map (cS C.name l.frm d.to day),reg:=vS C.reg (fA 2 d l day) } { x with D:=x.D++(x.H++d.boxes.map (cS C.name l.frm d.to day)).drop x.H.length,H:=x.H++d.boxes.map (cS C.name l.frm d.to day),reg:=(kI x.reg (fA 2 d l day)).1 }:=
       ⟨h.par,h.nd,h.lenS,h.lenF,h.no,h.yes,hr.reg,hr.inv,e3,by show C.deliv++_=_;rw[h.del,List.drop_left]⟩
      refine⟨?_,rfl,rfl⟩;rw[show (cL d st fr).number=l.deal from h4];exact h9.state hi 4
  rw[aE k20];by_cases k19:l.kind=19
  ·rw[aF k19,aF k19];refine⟨?_,rfl,?_⟩
   ·show eZ s (FG C (cL d st fr) l) _;unfold FG;by_cases hc:d.house≠eS∧l.frm=d.house
    ·rw[aF (show (cL d st fr).house≠eS∧l.frm=(cL d st fr).house from hc),aF hc,show (cL d st fr).number=l.deal from h4];exact h.free hi
    ·rw[aE (show ¬((cL d st fr).house≠eS∧l.frm=(cL d st fr).house) from hc),aE hc];exact h
   ·show (FG C (cL d st fr) l).name=C.name;unfold FG
    split<;>rfl
  rw[aE k19,aE k19];by_cases k23:l.kind=23
  ·rw[aF k23,aF (.inr (.inr (.inl k23))),aE k8,aE k20,aF k23];show eZ s (rH nm C (cL d st fr) l day).1 _∧cF l.deal day (rH nm C (cL d st fr) l day).2=_∧_;unfold rH;have e0:cI 3 (cL d st fr) l day=fA 3 d l day:=rfl;have ea:jL C.reg (cI 3 (cL d st fr) l day)=(kI x.reg (fA 3 d l day)).2:=by rw[e0,h.reg];exact Da (show ¬(3:Int)=0 by decide)
   rw[ea];by_cases hd:(kI x.reg (fA 3 d l day)).2≠0
   ·rw[aF hd,aF (.inl hd)];exact⟨h,rfl,rfl⟩
   ·rw[aE hd,aE (fun k=>k.elim hd fun k=>absurd k.1 (by decide)),aE (by decide),aE (by decide),aE (by decide)];exact⟨e0 ▸ h.reg_act (fA 3 d l day) ⟨show (0:Int)≤3 by decide,show (3:Int)≤5 by decide⟩ nK,rfl,rfl⟩
  rw[aE k23];by_cases k24:l.kind=24
  ·rw[aF k24,aF (.inr (.inr (.inr k24))),aE k8,aE k20,aE k23];show eZ s (qU nm C (cL d st fr) l day).1 _∧cF l.deal day (qU nm C (cL d st fr) l day).2=_∧_;unfold qU;have e0:cI 4 (cL d st fr) l day=fA 4 d l day:=rfl;have ea:jL C.reg (cI 4 (cL d st fr) l day)=(kI x.reg (fA 4 d l day)).2:=by rw[e0,h.reg];exact Da (show ¬(4:Int)=0 by decide)
   rw[ea];by_cases hd:(kI x.reg (fA 4 d l day)).2≠0
   ·rw[aF hd,aF (.inl hd)];exact⟨h,rfl,rfl⟩
   ·rw[aE hd,aE (fun k=>k.elim hd fun k=>absurd k.1 (by decide)),aE (by decide),aE (by decide),aF rfl];exact⟨e0 ▸ h.reg_act (fA 4 d l day) ⟨show (0:Int)≤4 by decide,show (4:Int)≤5 by decide⟩ nK,rfl,rfl⟩
  ·rw[aE k24,aE (fun k=>by rcases k with k|k|k|k<;>contradiction)];exact⟨h,rfl,rfl⟩
def T5 (d:De):Prop:=d.boxes.length≤70
theorem eZ.car {s:Su}{C:Cr}{x:Cs}(lad:Bl→Ln) (h:eZ s C x) (hb:∀d∈s.deals,T5 d) (kind:Int) (deal:bH) (day:Int) :
  eZ s (lE lad C kind deal day).1 (kJ lad s C.name x kind deal day).1∧(lE lad C kind deal day).2=(kJ lad s C.name x kind deal day).2∧(lE lad C kind deal day).1.name=C.name:=by
 unfold lE kJ;by_cases hk:kind≠5∧kind≠6
 ·rw[aF hk,aF hk];exact⟨h,rfl,rfl⟩
 rw[aE hk,aE hk];cases hi:dD s C.name deal with
 |none=>
  rw[h.no _ hi];exact⟨h,rfl,rfl⟩
 |some i=>
  obtain⟨d,st,fr,h1,h2,h3,h4,h5⟩:=h.at hi;have hbd:=hb d (aC h1);unfold T5 at hbd;rw[h5];dsimp only;rw[h1,h2];dsimp only;by_cases k6:kind=6
  ·subst k6;simp only[aE (show ¬(6:Int)=5 by decide),↓reduceIte];by_cases hs:st=2
   ·rw[aE (show ¬(cL d st fr).state≠2 from fun k=>k hs),aE (show ¬st≠2 from fun k=>k hs)];refine⟨?_,rfl,rfl⟩;show eZ s (Z0 C (cL d st fr).number (sB 3)) _;rw[show (cL d st fr).number=deal from h4];exact h.state hi 3
   ·rw[aF (show (cL d st fr).state≠2 from hs),aF hs];exact⟨h,rfl,rfl⟩
  ·have k5:kind=5:=by
    by_cases k:kind=5
    ·exact k
    ·exact absurd ⟨k,k6⟩ hk
   subst k5;simp only[aE (show ¬(5:Int)=6 by decide),↓reduceIte];by_cases hs:st=1
   ·rw[aE (show ¬(cL d st fr).state≠1 from fun k=>k hs),aE (show ¬st≠1 from fun k=>k hs)];unfold vG;have eb:gT C.name (cL d st fr) day=gT C.name (cL d st true) day:=rfl;rw[eb,h.reg];show eZ s (ite _ _ _:Cr×List dE×Int).1 (ite (gR ⟨x.reg,gT C.name (cL d st true) day,d.seller⟩≠0) _ _:Cs×List dE×Int).1∧_;have es:(cL d st fr).seller=d.seller:=rfl;rw[es];by_cases he:gR ⟨x.reg,gT C.name (cL d st true) day,d.seller⟩=0
    ·rw[aE (fun k=>k he),aE (fun k=>k he)];refine⟨?_,rfl,rfl⟩;obtain⟨n,hn⟩:=h.inv;have hi2:Cd n (kB ⟨x.reg,gT C.name (cL d st true) day,d.seller⟩):=Et hn ⟨by show d.boxes.length≤5000;omega,by show ([]:List bH).length≤5000;exact aI _⟩;have h9:eZ s { C with reg:=kB ⟨x.reg,gT C.name (cL d st true) day,d.seller⟩ } { x with reg:=kB ⟨x.reg,gT C.name (cL d st true) day,d.seller⟩ }:=⟨h.par,h.nd,h.lenS,h.lenF,h.no,h.yes,rfl,⟨n,hi2⟩,h.cust,h.del⟩
     rw[show (cL d st fr).number=deal from h4];exact h9.state hi 2
    ·rw[aF he,aF he];exact⟨h,rfl,rfl⟩
   ·rw[aF (show (cL d st fr).state≠1 from hs),aF hs];exact⟨h,rfl,rfl⟩
set_option maxHeartbeats 1000000
def Ra:List UInt8:=[100,101,97,108,32]
def Re:List UInt8:=[111,114,105,103,105,110,97,108,32]
def WI:List UInt8:=[98,111,120,32]
def NS (b:Bool):List UInt8:=if b=true then [114,101,108,101,97,115,101,100] else [104,101,108,100]
def tJ (z:Int):List UInt8:=if z=0 then [110,111,116,104,105,110,103] else if z=1 then [116,97,107,101,110] else if z=2 then [97,98,111,97,114,100] else if z=3 then [108,97,110,100,101,100] else [100,101,108,105,118,101,114,101,100]
def xY (z:Int):List UInt8:=if z=0 then [108,105,118,101] else if z=1 then [100,111,110,101] else if z=2 then [118,111,105,100] else if z=3 then [108,111,115,116] else [114,101,116,105,114,101,100]
def qB (d:Dp):List UInt8:=Ra++(jK d.number++(32 :: (tJ d.state++(32 :: (NS d.rel++[10])))))
def iR (n:bH) (k:UInt8) (o:Og):List UInt8:=Re++(jK n++(32 :: k :: 32 :: (xY o.state++(32 :: (jK o.holder++[10])))))
def lO (y:Br):List UInt8:=iR y.b.number 48 y.o0++(iR y.b.number 49 y.o1++iR y.b.number 50 y.o2)
def Qn (b:bH) (own:List eJ):List UInt8:=match own.getLast? with
 |some h=>WI++(jK b++(32 :: (jK h.to++(32 :: (jK h.place++[10])))))
 |none=>[]
def sT (L:List Dp) (n:bH):List UInt8:=match gS Dp.number L n with
 |some d=>qB d
 |none=>[]
def sS (L:List Br) (n:bH):List UInt8:=match yH L n with
 |some y=>lO y
 |none=>[]
def F4 (L:List cV) (b:bH):List UInt8:=match gS cV.box L b with
 |some c=>Qn b c.hist
 |none=>[]
def eQ (C:Cr):List UInt8:=(dN (C.deals.map Dp.number)).flatMap (sT C.deals)++((fW C.reg.bills fun _=>true).flatMap (sS C.reg.bills)++(dN (C.cust.map cV.box)).flatMap (F4 C.cust))
def M3 (s:Su) (name:bH):List bH:=s.deals.foldl (fun l d=>if d.carrier=name then oM l d.number else l) []
def Q5 (s:Su) (name:bH) (x:Cs) (n:bH):List UInt8:=match dD s name n with
 |some i=>match s.deals[i]?,x.S[i]?,x.free[i]? with
  |some d,some st,some fr=>qB (cL d st fr)
  |_,_,_=>[]
 |none=>[]
def OU (s:Su) (name:bH) (x:Cs):List UInt8:=(M3 s name).flatMap (Q5 s name x)++((fW x.reg.bills fun _=>true).flatMap (sS x.reg.bills)++(kT x.H).flatMap fun b=>Qn b (pF x.H b))
theorem uK (name:bH):∀(D:List De) (l:List bH),l.Pairwise Pg→(D.foldl (fun l d=>if d.carrier=name then oM l d.number else l) l).Pairwise Pg∧∀x,x∈D.foldl (fun l d=>if d.carrier=name then oM l d.number else l) l↔x∈l∨∃d∈D,d.carrier=name∧d.number=x
 |[],l,hl=>⟨hl,fun x=>by simp⟩
 |d :: D,l,hl=>by
  rw[List.foldl_cons];by_cases hc:d.carrier=name
  ·rw[aF hc];obtain⟨h1,h2⟩:=uK name D (oM l d.number) (Ci d.number hl);refine⟨h1,fun x=>(h2 x).trans ?_⟩;rw[ES];constructor
   ·rintro ((a|rfl)|⟨k,hk,e⟩)
    ·exact .inl a
    ·exact .inr ⟨d,bD ..,hc,rfl⟩
    ·exact .inr ⟨k,aW _ hk,e⟩
   ·rintro (a|⟨k,hk,e1,e2⟩)
    ·exact .inl (.inl a)
    ·rcases List.mem_cons.1 hk with rfl|hk
     ·exact .inl (.inr e2.symm)
     ·exact .inr ⟨k,hk,e1,e2⟩
  ·rw[aE hc];obtain⟨h1,h2⟩:=uK name D l hl;refine⟨h1,fun x=>(h2 x).trans ?_⟩;constructor
   ·rintro (a|⟨k,hk,e⟩)
    ·exact .inl a
    ·exact .inr ⟨k,aW _ hk,e⟩
   ·rintro (a|⟨k,hk,e1,e2⟩)
    ·exact .inl a
    ·rcases List.mem_cons.1 hk with rfl|hk
     ·exact absurd e1 hc
     ·exact .inr ⟨k,hk,e1,e2⟩
theorem Ae {s:Su}{name n:bH}:(∃i,dD s name n=some i)↔ ∃d∈s.deals,d.carrier=name∧d.number=n:=by
 constructor
 ·rintro ⟨i,hi⟩;obtain⟨d,h1,h2,h3⟩:=oG hi;exact⟨d,aC h1,h2,h3⟩
 ·rintro ⟨d,hd,h2,h3⟩;cases hi:dD s name n with
  |some i=>exact⟨i,rfl⟩
  |none=>
   unfold dD at hi;rw[List.findIdx?_eq_none_iff]at hi;have:=hi d hd;simp[h2,h3]at this
theorem tM {W:List bH}{f g:bH→List UInt8}(h:∀x∈W,f x=g x):W.flatMap f=W.flatMap g:=by
 induction W with
 |nil=>rfl
 |cons a W ih=>rw[List.flatMap_cons,List.flatMap_cons,h a (bD ..),ih fun x hx=>h x (aW _ hx)]
theorem eZ.text {s:Su}{C:Cr}{x:Cs}(h:eZ s C x):eQ C=OU s C.name x:=by
 unfold eQ OU;have e1:M3 s C.name=dN (C.deals.map Dp.number):=by
  obtain⟨h1,h2⟩:=uK C.name s.deals [] .nil;refine Ez h1 h.nd fun n=>(h2 n).trans ?_
  rw[←Ae];constructor
  ·rintro (a|⟨i,hi⟩)
   ·cases a
   ·obtain⟨d,st,fr,g1,g2,g3,g4,g5⟩:=h.at hi;obtain⟨g6,g7⟩:=iZ g5;exact aX.2 ⟨_,g6,g7⟩
  ·intro hm;refine .inr ?_;cases hi:dD s C.name n with
   |some i=>exact⟨i,rfl⟩
   |none=>
    obtain⟨d,hd,hn⟩:=aX.1 hm;exact absurd hn (iH (h.no n hi) hd)
 rw[e1,h.reg,←h.cust.boxes];congr 1
 ·refine tM fun n hn=>?_
  unfold sT Q5;cases hi:dD s C.name n with
  |none=>rw[h.no n hi]
  |some i=>
   obtain⟨d,st,fr,g1,g2,g3,g4,g5⟩:=h.at hi;rw[g5];dsimp only;rw[g1,g2,g3]
 ·congr 1;refine tM fun b hb=>?_
  unfold F4;cases hl:gS cV.box C.cust b with
  |none=>
   rw[h.cust.boxes,(iQ _).mem_iff]at hb;obtain⟨c,hc,hcb⟩:=aX.1 hb;exact absurd hcb (iH hl hc)
  |some c=>dsimp only;rw[(h.cust.yes b c hl).1]
theorem KS {C:Cr}{L:List cV}(hn:(C.cust.map cV.box).Nodup) (p:C.cust.Perm L):eQ { C with cust:=L }=eQ C:=by
 unfold eQ;dsimp only;have e1:dN (L.map cV.box)=dN (C.cust.map cV.box):=(Bp (p.map _)).symm;have e2:F4 L=F4 C.cust:=by funext b;unfold F4;rw[Ay p hn]
 rw[e1,e2]
theorem IG {W:List bH}(hn:W.Nodup) {s:bH}(hs:s∈W) {f g:bH→List UInt8}(hfg:∀t,t≠s→f t=g t) (hne:∀r r',f s++r≠g s++r') (X Y:List UInt8):W.flatMap f++X≠W.flatMap g++Y:=by
 obtain⟨A,B,rfl⟩:=List.append_of_mem hs;have hA:∀t∈A,t≠s:=fun t ht e=>by
  subst e;exact(List.nodup_append.1 hn).2.2 t ht t (bD ..) rfl
 rw[List.flatMap_append,List.flatMap_append,tM fun t ht=>hfg t (hA t ht),List.flatMap_cons,List.flatMap_cons,bG,bG,bG,bG];intro e;exact hne _ _ (List.append_cancel_left e)
theorem CM:∀{a b:List UInt8}{r q:List UInt8},(10:UInt8)∉a→(10:UInt8)∉b→a++10 :: r=b++10 :: q→a=b
 |[],[],_,_,_,_,_=>rfl
 |[],y :: b,r,q,_,hb,e=>by
  rw[List.nil_append,List.cons_append]at e;exact absurd (List.cons.inj e).1 fun h=>hb (h ▸ bD ..)
 |x :: a,[],r,q,ha,_,e=>by
  rw[List.nil_append,List.cons_append]at e;exact absurd (List.cons.inj e).1 fun h=>ha (h ▸ bD ..)
 |x :: a,y :: b,r,q,ha,hb,e=>by
  rw[List.cons_append,List.cons_append]at e;obtain⟨rfl,e2⟩:=List.cons.inj e;rw[CM (fun h=>ha (aW _ h)) (fun h=>hb (aW _ h)) e2]
theorem Fi {s:bH}(h:bS s=true):(10:UInt8)∉jK s:=by
 intro hm;unfold bS at h;simp only[aO,aT]at h;exact absurd (h.2 10 hm) (by decide)
theorem iY {a b:bH}(h:jK a=jK b):a=b:=by rw[←nF a,←nF b,h]
theorem nM {n:bH}{k:UInt8}{o p:Og}(hs:o.state=p.state) (ho:bS o.holder=true) (hp:bS p.holder=true) (hne:o.holder≠p.holder) (r q:List UInt8):iR n k o++r≠iR n k p++q:=by
 unfold iR;rw[hs];intro e;simp only[bG,List.cons_append,List.append_cancel_left_eq,List.cons.injEq,true_and,List.nil_append]at e;exact hne (iY (CM (Fi ho) (Fi hp) e))
theorem tB {n:bH}{k:UInt8}{o p:Og}(hs:o.state=3) (hp:p.state=0) (r q:List UInt8):iR n k o++r≠iR n k p++q:=by
 unfold iR;rw[hs,hp];intro e;simp only[bG,List.cons_append,List.append_cancel_left_eq,List.cons.injEq,true_and,List.nil_append]at e;unfold xY at e;simp at e
end Go.Proofs.YtigdiekbiphhmaaGreatDoor
end
