/-
  Texts of this proof,joined: RI,RJ,RK,RL,RM,RN,RO,RP,RQ,RR,RS,SA,SB,SC,SD,SE,SF,SG,SGZ,SH,SI,TA,CPA,CPB,CPC,CPD.
-/
import Derived.Test.YtigdiekbiphhmaaGreatDoorP4
import Derived.Shelf.Sort.Plain
import Derived.Shelf.Slices.In.SortNone
import Derived.Sort.OwnSorted
import Derived.Test.YtigdiekbiphhmaaGreatDoorChecked
set_option linter.unusedVariables false
set_option linter.unusedSimpArgs false
noncomputable section
namespace Go.Proofs.YtigdiekbiphhmaaGreatDoor
open Go.RowKit
set_option maxHeartbeats 2000000
set_option maxRecDepth 100000
def pR (l:List pU) (k:Int):Bool:=match l.getLast? with
 |some e=>decide (e.kind=k)
 |none=>false
def Gr (l:List pU) (d:Int):Bool:=match l.getLast? with
 |some e=>decide (d < e.day)
 |none=>false
theorem lX {l:List pU}(h:l.length=0):l.getLast?=none:=by rw[aR h];rfl
theorem oS {l:List pU}{i:Nat}{e:pU}(h:i+1=l.length) (hl:l[i]?=some e):l.getLast?=some e:=by
 rw[List.getLast?_eq_getElem?,show l.length - 1=i by omega];exact hl
def BT (k:Int):dO:=spec (fun l:List pU=>[.sl 4 (bJ bV l)]) (fun _=>[]) (fun l=>l.length≤5000) (fun l=>.bl (pR l k)) fun _=>[]
theorem GX (P:bI):bO P XO (BT 1):=by
 intro args H K hc;obtain⟨c,rfl,rfl,hp,hK⟩:=hc;refine⟨cM,?_⟩;dsimp only at hp hK⊢;have hd:pR c 1=match c.getLast? with
  |some e=>decide (e.kind=1)
  |none=>false:=rfl
 obtain⟨q,hq⟩:∃x,x=(pR c 1):=⟨_,rfl⟩
 rw[←hq]at hK hd;cbv;repeat'((first|refine .mk (fun h=>?_) fun h=>?_|refine .k fun z hz=>?_|fail)<;>cbv)
 ·refine cR bQ bQ fun i l hi hl=>?_
  obtain⟨f,t,k,d⟩:=l;rw[oS bQ hl]at hd;cbv;repeat'((first|refine .mk (fun h=>?_) fun h=>?_|fail)<;>cbv)
  exact bW.mk ⟨_,Gh.refl _,.inl (.v9 (cF hK (by(rw[hd];simp[*]))))⟩;exact bW.mk ⟨_,Gh.refl _,.inl (.v9 (cF hK (by(rw[hd];simp[*]))))⟩
 ·rw[lX bQ]at hd;exact bW.mk ⟨_,Gh.refl _,.inl (.v9 (cF hK (by(rw[hd]))))⟩
theorem FV (P:bI):bO P W7 (BT 2):=by
 intro args H K hc;obtain⟨c,rfl,rfl,hp,hK⟩:=hc;refine⟨cM,?_⟩;dsimp only at hp hK⊢;have hd:pR c 2=match c.getLast? with
  |some e=>decide (e.kind=2)
  |none=>false:=rfl
 obtain⟨q,hq⟩:∃x,x=(pR c 2):=⟨_,rfl⟩
 rw[←hq]at hK hd;cbv;repeat'((first|refine .mk (fun h=>?_) fun h=>?_|refine .k fun z hz=>?_|fail)<;>cbv)
 ·refine cR bQ bQ fun i l hi hl=>?_
  obtain⟨f,t,k,d⟩:=l;rw[oS bQ hl]at hd;cbv;repeat'((first|refine .mk (fun h=>?_) fun h=>?_|fail)<;>cbv)
  exact bW.mk ⟨_,Gh.refl _,.inl (.v9 (cF hK (by(rw[hd];simp[*]))))⟩;exact bW.mk ⟨_,Gh.refl _,.inl (.v9 (cF hK (by(rw[hd];simp[*]))))⟩
 ·rw[lX bQ]at hd;exact bW.mk ⟨_,Gh.refl _,.inl (.v9 (cF hK (by(rw[hd]))))⟩
def xX:pU→Bool
 |⟨f,t,k,d⟩=>bT f && (decide (0≤d) && decide (d≤1048576)) && (if k=1 then decide (t=⟨⟨[]⟩⟩) else if k=0∨k=2 then bT t && !decide (t=f) else false)
def H6:dO:=spec (fun e:pU=>[bV e]) (fun _=>[]) (fun _=>True) (fun e=>.bl (xX e)) fun _=>[]
theorem He (P:bI) (hn:bK P 144 (iR (fun _=>True) bT)):bO P XE H6:=by
 intro args H K hc;obtain⟨⟨f,t,k,d⟩,rfl,rfl,hp,hK⟩:=hc;refine⟨cM,?_⟩;dsimp only at hp hK⊢;have hd:xX ⟨f,t,k,d⟩=(bT f && (decide (0≤d) && decide (d≤1048576)) && (if k=1 then decide (t=⟨⟨[]⟩⟩) else if k=0∨k=2 then bT t && !decide (t=f) else false)):=rfl;obtain⟨q,hq⟩:∃x,x=(xX ⟨f,t,k,d⟩):=⟨_,rfl⟩
 obtain⟨n,hn1⟩:∃x,x=bT f:=⟨_,rfl⟩
 obtain⟨m,hm⟩:∃x,x=(bT t):=⟨_,rfl⟩
 rw[←hq]at hK hd;rw[←hn1,←hm]at hd;cbv
 (refine ZN hn f trivial ?_;try dsimp only)
 rw[←hn1];cases n with
 |false=>
  cbv;exact bW.mk ⟨_,Gh.refl _,.inl (.v9 (cF hK (by(rw[hd];rfl))))⟩
 |true=>
  cbv;repeat'((first|refine .mk (fun h=>?_) fun h=>?_|fail)<;>cbv)
  ·exact bW.mk ⟨_,Gh.refl _,.inl (.v9 (cF hK (by(rw[hd];simp;omega))))⟩
  ·exact bW.mk ⟨_,Gh.refl _,.inl (.v9 (cF hK (by(rw[hd];simp;omega))))⟩
  ·exact bW.mk ⟨_,Gh.refl _,.inl (.v9 (cF hK (by(rw[hd];simp[*]))))⟩
  ·exact bW.mk ⟨_,Gh.refl _,.inl (.v9 (cF hK (by(rw[hd];simp[*]))))⟩
  all_goals first|exact bW.mk ⟨_,Gh.refl _,.inl (.v9 (cF hK (by(rw[hd];simp[*]))))⟩|skip
  all_goals
   (refine ZN hn t trivial ?_;try dsimp only)
   rw[←hm];cases m with
   |false=>
    cbv;exact bW.mk ⟨_,Gh.refl _,.inl (.v9 (cF hK (by(rw[hd];clear hn1 hm hq;simp[*]))))⟩
   |true=>
    cbv;repeat'((first|refine .mk (fun h=>?_) fun h=>?_|fail)<;>cbv)
    ·exact bW.mk ⟨_,Gh.refl _,.inl (.v9 (cF hK (by(rw[hd];clear hn1 hm hq;simp[*]))))⟩
    ·exact bW.mk ⟨_,Gh.refl _,.inl (.v9 (cF hK (by(rw[hd];clear hn1 hm hq;simp[*]))))⟩
def mB (holder:bH) (c:List pU) (e:pU):Int:=if xX e=false then 2 else if pR c 2 then 9 else if pR c 1=false∧¬e.frm=holder then 8 else if Gr c e.day then 6 else 0
def IC:dO:=spec (fun i:bH×List pU×pU=>[.str i.1,.sl 4 (bJ bV i.2.1),bV i.2.2]) (fun _=>[]) (fun i=>i.2.1.length≤5000) (fun i=>.i (mB i.1 i.2.1 i.2.2)) fun _=>[]
theorem Hi (P:bI) (hm:bK P 212 H6) (hb:bK P 214 (BT 1)) (hc:bK P 213 (BT 2)):bO P Yf IC:=by
 intro args H K hc;obtain⟨⟨holder,c,⟨f,t,k,d⟩⟩,rfl,rfl,hp,hK⟩:=hc;refine⟨cM,?_⟩;dsimp only at hp hK⊢;have hd:mB holder c ⟨f,t,k,d⟩=if xX ⟨f,t,k,d⟩=false then 2 else if pR c 2 then 9 else if pR c 1=false∧¬f=holder then 8 else if Gr c d then 6 else 0:=rfl
 have hl:Gr c d=match c.getLast? with
  |some e=>decide (d < e.day)
  |none=>false:=rfl
 obtain⟨q,hq⟩:∃q,q=mB holder c ⟨f,t,k,d⟩:=⟨_,rfl⟩
 obtain⟨q1,hq1⟩:∃q,q=xX ⟨f,t,k,d⟩:=⟨_,rfl⟩
 obtain⟨q2,hq2⟩:∃q,q=pR c 2:=⟨_,rfl⟩
 obtain⟨q3,hq3⟩:∃q,q=pR c 1:=⟨_,rfl⟩
 obtain⟨q4,hq4⟩:∃q,q=Gr c d:=⟨_,rfl⟩
 rw[←hq]at hK hd;rw[←hq1,←hq2,←hq3,←hq4]at hd;rw[←hq4]at hl;cbv
 (refine ZN hm (⟨f,t,k,d⟩:pU) trivial ?_;try dsimp only)
 rw[←hq1];cases q1 with
 |false=>
  cbv;exact bW.mk ⟨_,Gh.refl _,.inl (.v9 (fU hK (by(rw[hd];rfl))))⟩
 |true=>
  cbv
  (refine ZN hc c hp ?_;try dsimp only)
  rw[←hq2];cases q2 with
  |true=>
   cbv;exact bW.mk ⟨_,Gh.refl _,.inl (.v9 (fU hK (by(rw[hd];rfl))))⟩
  |false=>
   cbv
   (refine ZN hb c hp ?_;try dsimp only)
   rw[←hq3];cases q3 with
   |true=>
    cbv;repeat'((first|refine .mk (fun h=>?_) fun h=>?_|refine .k fun z hz=>?_|fail)<;>cbv)
    ·refine cR bQ bQ fun i l hi hli=>?_
     obtain⟨f',t',k',d'⟩:=l;rw[oS bQ hli]at hl;dsimp only at hl;cbv;repeat'((first|refine .mk (fun h=>?_) fun h=>?_|fail)<;>cbv)
     ·rw[aH h]at hl;exact bW.mk ⟨_,Gh.refl _,.inl (.v9 (fU hK (by(rw[hd,hl];clear hd hq hq1 hq2 hq3 hq4;simp[*]))))⟩
     ·rw[aG (by omega)]at hl;exact bW.mk ⟨_,Gh.refl _,.inl (.v9 (fU hK (by(rw[hd,hl];clear hd hq hq1 hq2 hq3 hq4;simp[*]))))⟩
    ·rw[lX bQ]at hl;dsimp only at hl;exact bW.mk ⟨_,Gh.refl _,.inl (.v9 (fU hK (by(rw[hd,hl];clear hd hq hq1 hq2 hq3 hq4;simp[*]))))⟩
   |false=>
    cbv;repeat'((first|refine .mk (fun h=>?_) fun h=>?_|refine .k fun z hz=>?_|fail)<;>cbv)
    ·refine cR bQ bQ fun i l hi hli=>?_
     obtain⟨f',t',k',d'⟩:=l;rw[oS bQ hli]at hl;dsimp only at hl;cbv;repeat'((first|refine .mk (fun h=>?_) fun h=>?_|fail)<;>cbv)
     ·rw[aH h]at hl;exact bW.mk ⟨_,Gh.refl _,.inl (.v9 (fU hK (by(rw[hd,hl];clear hd hq hq1 hq2 hq3 hq4;simp[*]))))⟩
     ·rw[aG (by omega)]at hl;exact bW.mk ⟨_,Gh.refl _,.inl (.v9 (fU hK (by(rw[hd,hl];clear hd hq hq1 hq2 hq3 hq4;simp[*]))))⟩
    ·rw[lX bQ]at hl;dsimp only at hl;exact bW.mk ⟨_,Gh.refl _,.inl (.v9 (fU hK (by(rw[hd,hl];clear hd hq hq1 hq2 hq3 hq4;simp[*]))))⟩
    ·exact bW.mk ⟨_,Gh.refl _,.inl (.v9 (fU hK (by(rw[hd];clear hd hq hq1 hq2 hq3 hq4;simp[*]))))⟩
def iN (h:bH) (ahead:List pU):List pU→bH×Int×Int
 |[]=>(h,Int.ofNat ahead.length,0)
 |e :: r=>if mB h ahead e=0 then iN e.to (ahead++[e]) r else (⟨⟨[]⟩⟩,Int.ofNat ahead.length,mB h ahead e)
def lW (first:bH) (l:List pU):bH×Int×Int:=if bT first=false then (⟨⟨[]⟩⟩,0,1) else iN first [] l
theorem GU {c:List pU}{h:bH}{k:Nat}{e:pU}(he:c[k]?=some e) (hw:mB h (c.take k) e=0):iN h (c.take k) (c.drop k)=iN e.to (c.take (k+1)) (c.drop (k+1)):=by
 obtain⟨hk,rfl⟩:=aA.1 he;rw[List.drop_eq_getElem_cons hk,iN,aF hw,List.take_succ_eq_append_getElem hk]
theorem Fa {c:List pU}{h:bH}{k:Nat}{e:pU}(he:c[k]?=some e) (hw:¬mB h (c.take k) e=0):iN h (c.take k) (c.drop k)=(⟨⟨[]⟩⟩,Int.ofNat k,mB h (c.take k) e):=by
 obtain⟨hk,rfl⟩:=aA.1 he;rw[List.drop_eq_getElem_cons hk,iN,aE hw,aS,Nat.min_eq_left (Nat.le_of_lt hk)]
theorem FQ {c:List pU}{h:bH}{k:Nat}(hk:k=c.length):iN h (c.take k) (c.drop k)=(h,Int.ofNat k,0):=by
 rw[List.drop_eq_nil_of_le (by omega),iN,aS,hk,Nat.min_self]
def WV:bH×Int×Int→AV
 |(s,i,e)=>.tup [.str s,.i i,.i e]
def G8:dO:=spec (fun i:bH×List pU=>[.str i.1,.sl 4 (bJ bV i.2)]) (fun _=>[]) (fun i=>i.2.length≤5000) (fun i=>WV (lW i.1 i.2)) fun _=>[]
theorem HG (P:bI) (hn:bK P 144 (iR (fun _=>True) bT)) (hw:bK P 205 IC):bO P Xq G8:=by
 intro args H K hc;obtain⟨⟨first,c⟩,rfl,rfl,hp,hK⟩:=hc;refine⟨cM,?_⟩;dsimp only at hp hK⊢;have hd:lW first c=if bT first=false then (⟨⟨[]⟩⟩,0,1) else iN first (c.take 0) (c.drop 0):=rfl
 obtain⟨q,hq⟩:∃q,q=lW first c:=⟨_,rfl⟩
 obtain⟨n,hn1⟩:∃q,q=bT first:=⟨_,rfl⟩
 rw[←hq]at hK hd;rw[←hn1]at hd;cbv;refine T8 (ι:=Empty) 0 (fun e=>nomatch e) (fun e=>nomatch e) rfl ?_ (fun e=>nomatch e);cbv
 (refine ZN hn first trivial ?_;try dsimp only)
 rw[←hn1];cases n with
 |false=>
  rw[aF rfl]at hd;subst hd;cbv;exact bW.mk ⟨_,Gh.refl _,.inl (.v9 hK)⟩
 |true=>
  rw[aE (by decide)]at hd;cbv;repeat'((first|refine .k fun z hz=>?_|fail)<;>cbv)
  refine bS [] (fun p:{ p:Nat×bH // p.1≤c.length∧q=iN p.2 (c.take p.1) (c.drop p.1) }=>[(14,.i (nI p.1.1)),(4,.str p.1.2),(5,.i 0),(6,.i 0)]) (fun _=>[]) (fun p=>fE 5001 p.1.1) ⟨(0,first),aI _,hd⟩ ?_;rintro ⟨⟨k,hh⟩,hk,hd⟩;dsimp only at hk hd⊢;cbv;repeat'((first|refine .y fun h=>?_|refine .mk (fun h=>?_) fun h=>?_|refine .k fun z hz=>?_|refine .l fun ys hys hyl=>?_|fail)<;>cbv)
  ·obtain rfl:ys=c.take k:=by rw[hys];simp
   refine cR bQ bQ fun i l hi hl=>?_
   obtain rfl:k=i:=bQ;obtain⟨f',t',k',d'⟩:=l;have e1:=GU (h:=hh) hl;have e2:=Fa (h:=hh) hl;cbv;obtain⟨w,hw1⟩:∃w,w=mB hh (c.take k) ⟨f',t',k',d'⟩:=⟨_,rfl⟩
   rw[←hw1]at e1 e2
   (refine ZN hw (hh,c.take k,(⟨f',t',k',d'⟩:pU)) (by dsimp only;rw[aS];omega) ?_;try dsimp only)
   rw[←hw1];cbv;repeat'((first|refine .e ?_|refine .n fun h=>?_|refine .mk (fun h=>?_) fun h=>?_|refine .k fun z hz=>?_|fail)<;>cbv)
   ·subst h;obtain rfl:z=nI (k+1):=bQ;exact bM ⟨(k+1,t'),by exact bQ,hd.trans (e1 rfl)⟩ (bN bQ)
   ·obtain rfl:=hd.trans (e2 h);exact bW.mk ⟨_,Gh.refl _,.inl (.v9 hK)⟩
  ·obtain rfl:k=c.length:=bQ;obtain rfl:z=nI c.length:=bQ;rw[FQ rfl]at hd;subst hd;exact bW.mk ⟨_,Gh.refl _,.inl (.v9 hK)⟩
def DZ:dO:=spec (fun i:bH×List pU=>[.str i.1,.sl 4 (bJ bV i.2)]) (fun _=>[]) (fun i=>i.2.length≤5000) (fun i=>.str (lW i.1 i.2).1) fun _=>[]
theorem DG (P:bI) (hc:bK P 186 G8):bO P WU DZ:=by
 intro args H K hc;obtain⟨⟨first,c⟩,rfl,rfl,hp,hK⟩:=hc;refine⟨cM,?_⟩;dsimp only at hp hK⊢;obtain⟨⟨h,i,e⟩,hq⟩:∃q,q=lW first c:=⟨_,rfl⟩
 rw[←hq]at hK;dsimp only at hK;cbv
 (refine ZN hc (first,c) hp ?_;try dsimp only)
 rw[←hq];cbv;exact bW.mk ⟨_,Gh.refl _,.inl (.v9 (OU hK (by rfl)))⟩
def Bd (s:Int):Og→Og
 |⟨_,h,c⟩=>⟨s,h,c⟩
def uC (idx:Int) (f:Og→Og):Br→Br
 |⟨b,st,o0,o1,o2⟩=>⟨b,st,bif fA idx 0 then f o0 else o0,bif fA idx 1 then f o1 else o1,bif fA idx 2 then f o2 else o2⟩
def Df (st:Int):Br→Br
 |⟨b,_,o0,o1,o2⟩=>⟨b,st,Bd 2 o0,Bd 2 o1,Bd 2 o2⟩
def WG (st:Int):Nat→Br→Br
 |0,⟨b,_,o0,o1,o2⟩=>⟨b,st,o0,o1,o2⟩
 |1,⟨b,_,o0,o1,o2⟩=>⟨b,st,Bd 2 o0,o1,o2⟩
 |2,⟨b,_,o0,o1,o2⟩=>⟨b,st,Bd 2 o0,Bd 2 o1,o2⟩
 |_,⟨b,_,o0,o1,o2⟩=>⟨b,st,Bd 2 o0,Bd 2 o1,Bd 2 o2⟩
def TB:dO:=spec (fun i:Br×Int=>[.ptr 0 0,.i i.2]) (fun i=>rH i.1) (fun _=>True) (fun _=>.tup []) fun i=>rH (Df i.2 i.1)
theorem Oj (P:bI):bO P Ya TB:=by
 intro args H K hc;obtain⟨⟨y,st⟩,rfl,rfl,hp,hK⟩:=hc;refine⟨cM,?_⟩;dsimp only at hp hK⊢;obtain⟨⟨nq1,cq1,sq1,frm1,to1,bq1,pq1,iq1,lq1⟩,st1,⟨sa1,ha1,ca1⟩,⟨sb1,hb1,cb1⟩,⟨sc1,hc1,cc1⟩⟩:=y;cbv;refine bS [] (fun p:{ k:Nat // k≤3 }=>[(9,.i (nI p.1))]) (fun p=>rH (WG st p.1 ⟨⟨nq1,cq1,sq1,frm1,to1,bq1,pq1,iq1,lq1⟩,st1,⟨sa1,ha1,ca1⟩,⟨sb1,hb1,cb1⟩,⟨sc1,hc1,cc1⟩⟩)) (fun p=>fE 3 p.1) ⟨0,by decide⟩ ?_;rintro ⟨k,hk⟩;dsimp only at hk⊢;have hk4:k=0∨k=1∨k=2∨k=3:=by omega
 rcases hk4 with rfl|rfl|rfl|rfl
 ·cbv;repeat'((first|refine .n fun h=>?_|refine .y fun h=>?_|refine .k fun z hz=>?_|refine .o ?_|fail)<;>cbv)
  obtain rfl:z=nI 1:=bQ;exact bM ⟨1,by decide⟩ (bN (by decide))
 ·cbv;repeat'((first|refine .n fun h=>?_|refine .y fun h=>?_|refine .k fun z hz=>?_|refine .o ?_|fail)<;>cbv)
  obtain rfl:z=nI 2:=bQ;exact bM ⟨2,by decide⟩ (bN (by decide))
 ·cbv;repeat'((first|refine .y fun h=>?_|refine .k fun z hz=>?_|refine .o ?_|fail)<;>cbv)
  obtain rfl:z=nI 3:=bQ;exact bM ⟨3,by decide⟩ (bN (by decide))
 ·cbv;repeat'((first|refine .n fun h=>?_|fail)<;>cbv)
  (refine .q9 ?_;cbv;exact .inl (.f9 hK))
def BB (L:List Br) (s:bH) (f:Br→Br):List Br:=match qK L s with
 |some i=>match L[i]? with
  |some b=>L.set i (f b)
  |none=>L
 |none=>L
theorem gW {L:List Br}{s:bH}{i:Nat}{b:Br}(f:Br→Br) (h:qK L s=some i) (hb:L[i]?=some b):BB L s f=L.set i (f b):=by unfold BB;rw[h];dsimp only;rw[hb]
def gI (L:List Br) (a:Ak) (f:Br→Br):List Br:=if eO L a=0 then BB L a.bill f else L
theorem lL {L:List Br}{a:Ak}{i:Nat}{b:Br}(h:eO L a=0) (hi:qK L a.bill=some i) (hb:L[i]?=some b):oF b a=0:=by
 unfold eO at h;rw[hi]at h;dsimp only at h;rw[hb]at h;exact h
theorem kB {L:List Br}{a:Ak}(h:eO L a=0) (hi:qK L a.bill=none):False:=by
 unfold eO at h;rw[hi]at h;exact absurd h (show ¬(4:Int)=0 by decide)
theorem mO {b:Br}{a:Ak}(h:oF b a=0):a.least≤a.index∧a.index < 3:=by
 unfold oF at h
 split at h
 ·exact absurd h (by decide)
 ·next hk=>unfold k1 at hk;simp at hk;omega
def Vp (args:Ak→List AV) (f:Ak→Br→Br) (p:Ak→Prop):dO:=spec (fun i:Rg×Ak=>args i.2) (fun i=>lR i.1) (fun i=>(∀b∈i.1.bills,qQ b)∧p i.2) (fun i=>.i (eO i.1.bills i.2)) fun i=>lR ⟨i.1.carrier,gI i.1.bills i.2 (f i.2)⟩
def JJ (a:Ak):Br→Br:=uC a.index (Bd 3)
def MS:dO:=Vp (fun a=>[.ptr 0 0,.str a.bill,.i a.index,.str a.by_]) JJ fun a=>a.least=0∧a.state=0∧a.day=0∧a.dated=false∧a.wrong=false
theorem Lq (P:bI) (ha:bK P 78 K9):bO P YT MS:=by
 intro args H K hc;obtain⟨⟨⟨carrier,L⟩,⟨bill,index,least,by_,state,day,dated,wrong⟩⟩,rfl,rfl,hp,hK⟩:=hc;refine⟨cM,?_⟩;dsimp only at hp hK⊢;obtain⟨hp,rfl,rfl,rfl,rfl,rfl⟩:=hp;obtain⟨e,he⟩:∃e,e=eO L ⟨bill,index,0,by_,0,0,false,false⟩:=⟨_,rfl⟩
 obtain⟨L',hL'⟩:∃L',L'=gI L ⟨bill,index,0,by_,0,0,false,false⟩ (JJ ⟨bill,index,0,by_,0,0,false,false⟩):=⟨_,rfl⟩
 rw[←he,←hL']at hK;unfold gI at hL';dsimp only at hL';rw[←he]at hL';cbv
 (refine fW ha (⟨carrier,L⟩,⟨bill,index,0,by_,0,0,false,false⟩) [0,1] hp ?_;try dsimp only)
 rw[←he];cbv;repeat'((first|refine .mk (fun h=>?_) fun h=>?_|fail)<;>cbv)
 ·rw[aF h]at hL';refine fB (fun b:Br=>b.b.number) (fun _=>rfl) (fun i y hai hy hky=>?_) (fun hai=>?_)<;>dsimp only at *
  ·have hz:=lL (he.symm.trans h) hai hy;have hk:=mO hz;clear hz;rw[gW _ hai hy]at hL';dsimp only at hk;have hk3:index=0∨index=1∨index=2:=by omega
   obtain⟨⟨nq1,cq1,sq1,frm1,to1,bq1,pq1,iq1,lq1⟩,st1,⟨sa1,ha1,ca1⟩,⟨sb1,hb1,cb1⟩,⟨sc1,hc1,cc1⟩⟩:=y;rcases hk3 with rfl|rfl|rfl
   ·obtain rfl:L'=L.set i ⟨⟨nq1,cq1,sq1,frm1,to1,bq1,pq1,iq1,lq1⟩,st1,⟨3,ha1,ca1⟩,⟨sb1,hb1,cb1⟩,⟨sc1,hc1,cc1⟩⟩:=hL';cbv;repeat'((first|refine .n fun h=>?_|refine .o ?_|fail)<;>cbv)
    (refine .r9 (Gh.back 1 ([2,3,4,5]) fO ⟨⟨nq1,cq1,sq1,frm1,to1,bq1,pq1,iq1,lq1⟩,st1,⟨3,ha1,ca1⟩,⟨sb1,hb1,cb1⟩,⟨sc1,hc1,cc1⟩⟩ rfl hy) ?_;cbv;exact .inl (.f9 hK))
   ·obtain rfl:L'=L.set i ⟨⟨nq1,cq1,sq1,frm1,to1,bq1,pq1,iq1,lq1⟩,st1,⟨sa1,ha1,ca1⟩,⟨3,hb1,cb1⟩,⟨sc1,hc1,cc1⟩⟩:=hL';cbv;repeat'((first|refine .n fun h=>?_|refine .y fun h=>?_|refine .o ?_|fail)<;>cbv)
    (refine .r9 (Gh.back 1 ([2,3,4,5]) fO ⟨⟨nq1,cq1,sq1,frm1,to1,bq1,pq1,iq1,lq1⟩,st1,⟨sa1,ha1,ca1⟩,⟨3,hb1,cb1⟩,⟨sc1,hc1,cc1⟩⟩ rfl hy) ?_;cbv;exact .inl (.f9 hK))
   ·obtain rfl:L'=L.set i ⟨⟨nq1,cq1,sq1,frm1,to1,bq1,pq1,iq1,lq1⟩,st1,⟨sa1,ha1,ca1⟩,⟨sb1,hb1,cb1⟩,⟨3,hc1,cc1⟩⟩:=hL';cbv;repeat'((first|refine .y fun h=>?_|refine .o ?_|fail)<;>cbv)
    (refine .r9 (Gh.back 1 ([2,3,4,5]) fO ⟨⟨nq1,cq1,sq1,frm1,to1,bq1,pq1,iq1,lq1⟩,st1,⟨sa1,ha1,ca1⟩,⟨sb1,hb1,cb1⟩,⟨3,hc1,cc1⟩⟩ rfl hy) ?_;cbv;exact .inl (.f9 hK))
  ·exact(kB (he.symm.trans h) hai).elim
 ·rw[aE h]at hL';subst hL'
  (refine .q9 ?_;cbv;exact .inl (.f9 hK))
def PL (a:Ak):Br→Br:=uC a.index (Bd 0)
def AK:dO:=Vp (fun a=>[.ptr 0 0,.str a.bill,.i a.index,.str a.by_,.i a.day]) PL fun a=>a.least=0∧a.state=3∧a.dated=true∧a.wrong=false
theorem DK (P:bI) (ha:bK P 78 K9):bO P Xn AK:=by
 intro args H K hc;obtain⟨⟨⟨carrier,L⟩,⟨bill,index,least,by_,state,day,dated,wrong⟩⟩,rfl,rfl,hp,hK⟩:=hc;refine⟨cM,?_⟩;dsimp only at hp hK⊢;obtain⟨hp,rfl,rfl,rfl,rfl⟩:=hp;obtain⟨e,he⟩:∃e,e=eO L ⟨bill,index,0,by_,3,day,true,false⟩:=⟨_,rfl⟩
 obtain⟨L',hL'⟩:∃L',L'=gI L ⟨bill,index,0,by_,3,day,true,false⟩ (PL ⟨bill,index,0,by_,3,day,true,false⟩):=⟨_,rfl⟩
 rw[←he,←hL']at hK;unfold gI at hL';dsimp only at hL';rw[←he]at hL';cbv
 (refine fW ha (⟨carrier,L⟩,⟨bill,index,0,by_,3,day,true,false⟩) [0,1] hp ?_;try dsimp only)
 rw[←he];cbv;repeat'((first|refine .mk (fun h=>?_) fun h=>?_|fail)<;>cbv)
 ·rw[aF h]at hL';refine fB (fun b:Br=>b.b.number) (fun _=>rfl) (fun i y hai hy hky=>?_) (fun hai=>?_)<;>dsimp only at *
  ·have hz:=lL (he.symm.trans h) hai hy;have hk:=mO hz;clear hz;rw[gW _ hai hy]at hL';dsimp only at hk;have hk3:index=0∨index=1∨index=2:=by omega
   obtain⟨⟨nq1,cq1,sq1,frm1,to1,bq1,pq1,iq1,lq1⟩,st1,⟨sa1,ha1,ca1⟩,⟨sb1,hb1,cb1⟩,⟨sc1,hc1,cc1⟩⟩:=y;rcases hk3 with rfl|rfl|rfl
   ·obtain rfl:L'=L.set i ⟨⟨nq1,cq1,sq1,frm1,to1,bq1,pq1,iq1,lq1⟩,st1,⟨0,ha1,ca1⟩,⟨sb1,hb1,cb1⟩,⟨sc1,hc1,cc1⟩⟩:=hL';cbv;repeat'((first|refine .n fun h=>?_|refine .o ?_|fail)<;>cbv)
    (refine .r9 (Gh.back 1 ([2,3,4,5]) fO ⟨⟨nq1,cq1,sq1,frm1,to1,bq1,pq1,iq1,lq1⟩,st1,⟨0,ha1,ca1⟩,⟨sb1,hb1,cb1⟩,⟨sc1,hc1,cc1⟩⟩ rfl hy) ?_;cbv;exact .inl (.f9 hK))
   ·obtain rfl:L'=L.set i ⟨⟨nq1,cq1,sq1,frm1,to1,bq1,pq1,iq1,lq1⟩,st1,⟨sa1,ha1,ca1⟩,⟨0,hb1,cb1⟩,⟨sc1,hc1,cc1⟩⟩:=hL';cbv;repeat'((first|refine .n fun h=>?_|refine .y fun h=>?_|refine .o ?_|fail)<;>cbv)
    (refine .r9 (Gh.back 1 ([2,3,4,5]) fO ⟨⟨nq1,cq1,sq1,frm1,to1,bq1,pq1,iq1,lq1⟩,st1,⟨sa1,ha1,ca1⟩,⟨0,hb1,cb1⟩,⟨sc1,hc1,cc1⟩⟩ rfl hy) ?_;cbv;exact .inl (.f9 hK))
   ·obtain rfl:L'=L.set i ⟨⟨nq1,cq1,sq1,frm1,to1,bq1,pq1,iq1,lq1⟩,st1,⟨sa1,ha1,ca1⟩,⟨sb1,hb1,cb1⟩,⟨0,hc1,cc1⟩⟩:=hL';cbv;repeat'((first|refine .y fun h=>?_|refine .o ?_|fail)<;>cbv)
    (refine .r9 (Gh.back 1 ([2,3,4,5]) fO ⟨⟨nq1,cq1,sq1,frm1,to1,bq1,pq1,iq1,lq1⟩,st1,⟨sa1,ha1,ca1⟩,⟨sb1,hb1,cb1⟩,⟨0,hc1,cc1⟩⟩ rfl hy) ?_;cbv;exact .inl (.f9 hK))
  ·exact(kB (he.symm.trans h) hai).elim
 ·rw[aE h]at hL';subst hL'
  (refine .q9 ?_;cbv;exact .inl (.f9 hK))
def S8 (a:Ak):Br→Br:=fun b=>uC a.index (Bd 1) (Df 1 b)
def Qt (L:List Br) (a:Ak):List bH:=if eO L a=0 then (RX L a.bill).1.boxes else []
def sL:dO:=spec (fun i:Rg×Ak=>[.ptr 0 0,.str i.2.bill,.i i.2.index,.str i.2.by_,.i i.2.day]) (fun i=>lR i.1) (fun i=>(∀b∈i.1.bills,qQ b∧yF b.b)∧i.2.least=0∧i.2.state=0∧i.2.dated=true∧i.2.wrong=false) (fun i=>.tup [.sl 1 (bJ .str (Qt i.1.bills i.2)),.i (eO i.1.bills i.2)]) fun i=>lR ⟨i.1.carrier,gI i.1.bills i.2 (S8 i.2)⟩
theorem Ap (P:bI) (hend:bK P 147 TB) (hcl:bK P 87 (mD 1 16)) (ha:bK P 78 K9):bO P WP sL:=by
 intro args H K hc;obtain⟨⟨⟨carrier,L⟩,⟨bill,index,least,by_,state,day,dated,wrong⟩⟩,rfl,rfl,hp,hK⟩:=hc;refine⟨cM,?_⟩;dsimp only at hp hK⊢;obtain⟨hp,rfl,rfl,rfl,rfl⟩:=hp;obtain⟨e,he⟩:∃e,e=eO L ⟨bill,index,0,by_,0,day,true,false⟩:=⟨_,rfl⟩
 obtain⟨L',hL'⟩:∃L',L'=gI L ⟨bill,index,0,by_,0,day,true,false⟩ (S8 ⟨bill,index,0,by_,0,day,true,false⟩):=⟨_,rfl⟩
 obtain⟨l,hl⟩:∃l,l=Qt L ⟨bill,index,0,by_,0,day,true,false⟩:=⟨_,rfl⟩
 rw[←he,←hL',←hl]at hK;unfold Qt at hl;dsimp only at hl;rw[←he]at hl;unfold gI at hL';dsimp only at hL';rw[←he]at hL';cbv
 (refine fW ha (⟨carrier,L⟩,⟨bill,index,0,by_,0,day,true,false⟩) [0,1] (fun b hb=>(hp b hb).1) ?_;try dsimp only)
 rw[←he];cbv;repeat'((first|refine .mk (fun h=>?_) fun h=>?_|fail)<;>cbv)
 ·rw[aF h]at hL' hl;rw[h]at hK;refine fB (fun b:Br=>b.b.number) (fun _=>rfl) (fun i y hai hy hky=>?_) (fun hai=>?_)<;>dsimp only at *
  ·have hz:=lL (he.symm.trans h) hai hy;have hk:=mO hz;clear hz;rw[gW _ hai hy]at hL';dsimp only at hk;have hk3:index=0∨index=1∨index=2:=by omega
   rw[J4 hai hy]at hl;have hob:=(hp y (aC hy)).2;unfold yF at hob;obtain⟨⟨nq1,cq1,sq1,frm1,to1,bq1,pq1,iq1,lq1⟩,st1,⟨sa1,ha1,ca1⟩,⟨sb1,hb1,cb1⟩,⟨sc1,hc1,cc1⟩⟩:=y;dsimp only at hl hob;subst l;rcases hk3 with rfl|rfl|rfl
   ·obtain rfl:L'=L.set i ⟨⟨nq1,cq1,sq1,frm1,to1,bq1,pq1,iq1,lq1⟩,1,⟨1,ha1,ca1⟩,⟨2,hb1,cb1⟩,⟨2,hc1,cc1⟩⟩:=hL';cbv
    (refine fW hend (⟨⟨nq1,cq1,sq1,frm1,to1,bq1,pq1,iq1,lq1⟩,st1,⟨sa1,ha1,ca1⟩,⟨sb1,hb1,cb1⟩,⟨sc1,hc1,cc1⟩⟩,1) [2,3,4,5] trivial ?_;try dsimp only)
    cbv;repeat'((first|refine .n fun h=>?_|refine .o ?_|fail)<;>cbv)
    (refine ZN hcl _ ⟨by rw[cD];unfold maxLen;omega,by rw[cD];omega⟩ ?_;try dsimp only)
    cbv
    (refine .r9 (Gh.back 1 ([2,3,4,5]) fO ⟨⟨nq1,cq1,sq1,frm1,to1,bq1,pq1,iq1,lq1⟩,1,⟨1,ha1,ca1⟩,⟨2,hb1,cb1⟩,⟨2,hc1,cc1⟩⟩ rfl hy) ?_;cbv;exact .inl (.f9 hK))
   ·obtain rfl:L'=L.set i ⟨⟨nq1,cq1,sq1,frm1,to1,bq1,pq1,iq1,lq1⟩,1,⟨2,ha1,ca1⟩,⟨1,hb1,cb1⟩,⟨2,hc1,cc1⟩⟩:=hL';cbv
    (refine fW hend (⟨⟨nq1,cq1,sq1,frm1,to1,bq1,pq1,iq1,lq1⟩,st1,⟨sa1,ha1,ca1⟩,⟨sb1,hb1,cb1⟩,⟨sc1,hc1,cc1⟩⟩,1) [2,3,4,5] trivial ?_;try dsimp only)
    cbv;repeat'((first|refine .n fun h=>?_|refine .y fun h=>?_|refine .o ?_|fail)<;>cbv)
    (refine ZN hcl _ ⟨by rw[cD];unfold maxLen;omega,by rw[cD];omega⟩ ?_;try dsimp only)
    cbv
    (refine .r9 (Gh.back 1 ([2,3,4,5]) fO ⟨⟨nq1,cq1,sq1,frm1,to1,bq1,pq1,iq1,lq1⟩,1,⟨2,ha1,ca1⟩,⟨1,hb1,cb1⟩,⟨2,hc1,cc1⟩⟩ rfl hy) ?_;cbv;exact .inl (.f9 hK))
   ·obtain rfl:L'=L.set i ⟨⟨nq1,cq1,sq1,frm1,to1,bq1,pq1,iq1,lq1⟩,1,⟨2,ha1,ca1⟩,⟨2,hb1,cb1⟩,⟨1,hc1,cc1⟩⟩:=hL';cbv
    (refine fW hend (⟨⟨nq1,cq1,sq1,frm1,to1,bq1,pq1,iq1,lq1⟩,st1,⟨sa1,ha1,ca1⟩,⟨sb1,hb1,cb1⟩,⟨sc1,hc1,cc1⟩⟩,1) [2,3,4,5] trivial ?_;try dsimp only)
    cbv;repeat'((first|refine .y fun h=>?_|refine .o ?_|fail)<;>cbv)
    (refine ZN hcl _ ⟨by rw[cD];unfold maxLen;omega,by rw[cD];omega⟩ ?_;try dsimp only)
    cbv
    (refine .r9 (Gh.back 1 ([2,3,4,5]) fO ⟨⟨nq1,cq1,sq1,frm1,to1,bq1,pq1,iq1,lq1⟩,1,⟨2,ha1,ca1⟩,⟨2,hb1,cb1⟩,⟨1,hc1,cc1⟩⟩ rfl hy) ?_;cbv;exact .inl (.f9 hK))
  ·exact(kB (he.symm.trans h) hai).elim
 ·rw[aE h]at hL' hl;subst hL';subst hl
  (refine .q9 ?_;cbv;exact .inl (.g9 hK))
def tK (f t:bH) (d:Int):Og→Og
 |⟨s,h,c⟩=>⟨s,(lW h [⟨f,t,0,d⟩]).1,c++[⟨f,t,0,d⟩]⟩
def iH (by_ to:bH):Bool:=!bT to || decide (to=by_)
def A5:dO:=spec (fun i:Rg×Ak×bH=>[.ptr 0 0,.str i.2.1.bill,.i i.2.1.index,.str i.2.1.by_,.str i.2.2,.i i.2.1.day]) (fun i=>lR i.1) (fun i=>(∀b∈i.1.bills,qQ b)∧i.2.1.least=-1∧i.2.1.state=0∧i.2.1.dated=true∧i.2.1.wrong=iH i.2.1.by_ i.2.2) (fun i=>.i (eO i.1.bills i.2.1)) fun i=>lR ⟨i.1.carrier,gI i.1.bills i.2.1 (uC i.2.1.index (tK i.2.1.by_ i.2.2 i.2.1.day))⟩
def fZ {α:Type}:Nat→α→α→α→α→α
 |0,a,_,_,_=>a
 |1,_,b,_,_=>b
 |2,_,_,c,_=>c
 |_,_,_,_,d=>d
theorem mI {idx k:Int}(h:idx=-1∨idx=k):fA idx k=true:=by unfold fA;rcases h with h|h<;>rw[aH h]<;>simp
theorem BX {L:List Br}{a:Ak}(hw:a.wrong=true):eO L a≠0:=by
 unfold eO
 split
 ·split
  ·unfold oF;have h2:k2 a=true:=by unfold k2;rw[hw];rfl
   rw[h2,aF rfl]
   split
   ·exact(by decide:(3:Int)≠0)
   ·exact(by decide:(1:Int)≠0)
  ·exact(by decide:(4:Int)≠0)
 ·exact(by decide:(4:Int)≠0)
theorem C2 (P:bI) (hn:bK P 144 (iR (fun _=>True) bT)) (ha:bK P 78 K9) (hh:bK P 145 DZ):bO P WJ A5:=by
 intro args H K hc;obtain⟨⟨⟨carrier,L⟩,⟨bill,index,least,by_,state,day,dated,wrong⟩,to⟩,rfl,rfl,hp,hK⟩:=hc;refine⟨cM,?_⟩;dsimp only at hp hK⊢;obtain⟨hp,rfl,rfl,rfl,hwr⟩:=hp;unfold iH at hwr;obtain⟨e,he⟩:∃e,e=eO L ⟨bill,index,-1,by_,0,day,true,wrong⟩:=⟨_,rfl⟩
 obtain⟨L',hL'⟩:∃L',L'=gI L ⟨bill,index,-1,by_,0,day,true,wrong⟩ (uC index (tK by_ to day)):=⟨_,rfl⟩
 obtain⟨n,hn1⟩:∃n,n=bT to:=⟨_,rfl⟩
 rw[←he,←hL']at hK;rw[←hn1]at hwr;unfold gI at hL';dsimp only at hL';rw[←he]at hL';cbv
 (refine ZN hn to trivial ?_;try dsimp only)
 rw[←hn1];have hw3:(n=false∧wrong=true)∨(n=true∧to=by_∧wrong=true)∨(n=true∧¬to=by_∧wrong=false):=by
  rw[hwr];cases n<;>by_cases ht:to=by_<;>simp[ht]
 clear hwr;obtain⟨q0,hq0⟩:∃q,q=fA index 0:=⟨_,rfl⟩
 obtain⟨q1,hq1⟩:∃q,q=fA index 1:=⟨_,rfl⟩
 obtain⟨q2,hq2⟩:∃q,q=fA index 2:=⟨_,rfl⟩
 rcases hw3 with ⟨rfl,rfl⟩|⟨rfl,ht,rfl⟩|⟨rfl,ht,rfl⟩
 ·have hne:=BX (L:=L) (a:=⟨bill,index,-1,by_,0,day,true,true⟩) rfl;rw[←he]at hne;rw[aE hne]at hL';rw[hL']at hK;cbv
  (refine fW ha (⟨carrier,L⟩,⟨bill,index,-1,by_,0,day,true,true⟩) [0,1] hp ?_;try dsimp only)
  rw[←he];cbv;repeat'((first|refine .n fun h=>?_|fail)<;>cbv)
  (refine .q9 ?_;cbv;exact .inl (.f9 hK))
 ·have hne:=BX (L:=L) (a:=⟨bill,index,-1,by_,0,day,true,true⟩) rfl;rw[←he]at hne;rw[aE hne]at hL';rw[hL']at hK;cbv;repeat'((first|refine .mk (fun h=>?_) fun h=>?_|fail)<;>cbv)
  ·(refine fW ha (⟨carrier,L⟩,⟨bill,index,-1,by_,0,day,true,true⟩) [0,1] hp ?_;try dsimp only)
   rw[←he];cbv;repeat'((first|refine .n fun h=>?_|fail)<;>cbv)
   (refine .q9 ?_;cbv;exact .inl (.f9 hK))
  ·exact(h ht).elim
 ·cbv;repeat'((first|refine .mk (fun h=>?_) fun h=>?_|fail)<;>cbv)
  ·exact(ht h).elim
  ·(refine fW ha (⟨carrier,L⟩,⟨bill,index,-1,by_,0,day,true,false⟩) [0,1] hp ?_;try dsimp only)
   rw[←he];cbv;repeat'((first|refine .mk (fun h=>?_) fun h=>?_|fail)<;>cbv)
   ·rw[aF ‹e=0›]at hL';rw[‹e=0›]at hK;refine fB (fun b:Br=>b.b.number) (fun _=>rfl) (fun i y hai hy hky=>?_) (fun hai=>?_)<;>dsimp only at *
    ·rw[gW _ hai hy]at hL';have hch:=hp y (aC hy);obtain⟨⟨nq1,cq1,sq1,frm1,to1,bq1,pq1,iq1,lq1⟩,st1,⟨sa1,ha1,ca1⟩,⟨sb1,hb1,cb1⟩,⟨sc1,hc1,cc1⟩⟩:=y;unfold qQ at hch;dsimp only at hch;obtain⟨hch0,hch1,hch2⟩:=hch;obtain⟨⟨ux,xh,xc⟩,hx⟩:∃o,o=bif q0 then tK by_ to day ⟨sa1,ha1,ca1⟩ else ⟨sa1,ha1,ca1⟩:=⟨_,rfl⟩
     obtain⟨⟨uy,yh,yc⟩,hyy⟩:∃o,o=bif q1 then tK by_ to day ⟨sb1,hb1,cb1⟩ else ⟨sb1,hb1,cb1⟩:=⟨_,rfl⟩
     obtain⟨⟨uz,zh,zc⟩,hzz⟩:∃o,o=bif q2 then tK by_ to day ⟨sc1,hc1,cc1⟩ else ⟨sc1,hc1,cc1⟩:=⟨_,rfl⟩
     obtain⟨⟨m0,mi0,me0⟩,hm0⟩:∃m,m=lW ha1 [⟨by_,to,0,day⟩]:=⟨_,rfl⟩
     obtain⟨⟨m1,mi1,me1⟩,hm1⟩:∃m,m=lW hb1 [⟨by_,to,0,day⟩]:=⟨_,rfl⟩
     obtain⟨⟨m2,mi2,me2⟩,hm2⟩:∃m,m=lW hc1 [⟨by_,to,0,day⟩]:=⟨_,rfl⟩
     unfold uC at hL';dsimp only at hL';rw[←hq0,←hq1,←hq2,←hx,←hyy,←hzz]at hL';subst hL';cbv;refine bS [] (fun p:{ k:Nat // k≤3 }=>[(42,.i (nI p.1))]) (fun p=>[.blk 122 [.str carrier,.ph 1],.pool 120 (bJ fO L) [(i,.ptr 2 0)]]++gH [] 2 (rH (fZ p.1 ⟨⟨nq1,cq1,sq1,frm1,to1,bq1,pq1,iq1,lq1⟩,st1,⟨sa1,ha1,ca1⟩,⟨sb1,hb1,cb1⟩,⟨sc1,hc1,cc1⟩⟩ ⟨⟨nq1,cq1,sq1,frm1,to1,bq1,pq1,iq1,lq1⟩,st1,⟨ux,xh,xc⟩,⟨sb1,hb1,cb1⟩,⟨sc1,hc1,cc1⟩⟩ ⟨⟨nq1,cq1,sq1,frm1,to1,bq1,pq1,iq1,lq1⟩,st1,⟨ux,xh,xc⟩,⟨uy,yh,yc⟩,⟨sc1,hc1,cc1⟩⟩ ⟨⟨nq1,cq1,sq1,frm1,to1,bq1,pq1,iq1,lq1⟩,st1,⟨ux,xh,xc⟩,⟨uy,yh,yc⟩,⟨uz,zh,zc⟩⟩))) (fun p=>fE 3 p.1) ⟨0,by decide⟩ ?_;rintro ⟨k,hk⟩;dsimp only at hk⊢;have hk4:k=0∨k=1∨k=2∨k=3:=by omega
     rcases hk4 with rfl|rfl|rfl|rfl
     ·cases q0 with
      |true=>
       obtain⟨rfl,rfl,rfl⟩:ux=sa1∧xh=m0∧xc=ca1++[⟨by_,to,0,day⟩]:=by
        unfold tK at hx;dsimp only at hx;rw[←hm0]at hx;injection hx with h1 h2 h3
        exact⟨h1,h2,h3⟩
       cbv;repeat'((first|refine .n fun h=>?_|refine .y fun h=>?_|refine .mk (fun h=>?_) fun h=>?_|refine .k fun z hz=>?_|refine .o ?_|refine .zl fun zs hzs hzl=>?_|fail)<;>cbv)
       ·refine fJ 9 rfl ?_;cbv
        (refine ZN hh (ha1,[⟨by_,to,0,day⟩]) (Nat.le_add_left 1 4999) ?_;try dsimp only)
        rw[←hm0];dsimp only;obtain rfl:zs=bJ bV (ca1++[(⟨by_,to,0,day⟩:pU)]):=by(rw[cB,cE];first|exact hzs|(subst_vars;rfl))
        cbv;repeat'((first|refine .k fun z hz=>?_|fail)<;>cbv)
        obtain rfl:z=nI 1:=bQ;exact bM ⟨1,by decide⟩ (bN (by decide))
       ·refine fJ 9 rfl ?_;cbv
        (refine ZN hh (ha1,[⟨by_,to,0,day⟩]) (Nat.le_add_left 1 4999) ?_;try dsimp only)
        rw[←hm0];dsimp only;obtain rfl:zs=bJ bV (ca1++[(⟨by_,to,0,day⟩:pU)]):=by(rw[cB,cE];first|exact hzs|(subst_vars;rfl))
        cbv;repeat'((first|refine .k fun z hz=>?_|fail)<;>cbv)
        obtain rfl:z=nI 1:=bQ;exact bM ⟨1,by decide⟩ (bN (by decide))
       ·exact absurd (hq0.trans (jZ ‹¬index=-1› ‹¬index=Int.ofNat 0›)) (by decide)
      |false=>
       obtain⟨rfl,rfl,rfl⟩:ux=sa1∧xh=ha1∧xc=ca1:=by
        injection hx with h1 h2 h3
        exact⟨h1,h2,h3⟩
       cbv;repeat'((first|refine .n fun h=>?_|refine .y fun h=>?_|refine .mk (fun h=>?_) fun h=>?_|refine .k fun z hz=>?_|refine .o ?_|refine .zl fun zs hzs hzl=>?_|fail)<;>cbv)
       ·exact absurd (hq0.trans (mI (.inl ‹index=-1›))) (by decide)
       ·exact absurd (hq0.trans (mI (.inr ‹index=Int.ofNat 0›))) (by decide)
       ·obtain rfl:z=nI 1:=bQ;exact bM ⟨1,by decide⟩ (bN (by decide))
     ·cases q1 with
      |true=>
       obtain⟨rfl,rfl,rfl⟩:uy=sb1∧yh=m1∧yc=cb1++[⟨by_,to,0,day⟩]:=by
        unfold tK at hyy;dsimp only at hyy;rw[←hm1]at hyy;injection hyy with h1 h2 h3
        exact⟨h1,h2,h3⟩
       cbv;repeat'((first|refine .n fun h=>?_|refine .y fun h=>?_|refine .mk (fun h=>?_) fun h=>?_|refine .k fun z hz=>?_|refine .o ?_|refine .zl fun zs hzs hzl=>?_|fail)<;>cbv)
       ·refine fJ 9 rfl ?_;cbv
        (refine ZN hh (hb1,[⟨by_,to,0,day⟩]) (Nat.le_add_left 1 4999) ?_;try dsimp only)
        rw[←hm1];dsimp only;obtain rfl:zs=bJ bV (cb1++[(⟨by_,to,0,day⟩:pU)]):=by(rw[cB,cE];first|exact hzs|(subst_vars;rfl))
        cbv;repeat'((first|refine .k fun z hz=>?_|fail)<;>cbv)
        obtain rfl:z=nI 2:=bQ;exact bM ⟨2,by decide⟩ (bN (by decide))
       ·refine fJ 9 rfl ?_;cbv
        (refine ZN hh (hb1,[⟨by_,to,0,day⟩]) (Nat.le_add_left 1 4999) ?_;try dsimp only)
        rw[←hm1];dsimp only;obtain rfl:zs=bJ bV (cb1++[(⟨by_,to,0,day⟩:pU)]):=by(rw[cB,cE];first|exact hzs|(subst_vars;rfl))
        cbv;repeat'((first|refine .k fun z hz=>?_|fail)<;>cbv)
        obtain rfl:z=nI 2:=bQ;exact bM ⟨2,by decide⟩ (bN (by decide))
       ·exact absurd (hq1.trans (jZ ‹¬index=-1› ‹¬index=Int.ofNat 1›)) (by decide)
      |false=>
       obtain⟨rfl,rfl,rfl⟩:uy=sb1∧yh=hb1∧yc=cb1:=by
        injection hyy with h1 h2 h3
        exact⟨h1,h2,h3⟩
       cbv;repeat'((first|refine .n fun h=>?_|refine .y fun h=>?_|refine .mk (fun h=>?_) fun h=>?_|refine .k fun z hz=>?_|refine .o ?_|refine .zl fun zs hzs hzl=>?_|fail)<;>cbv)
       ·exact absurd (hq1.trans (mI (.inl ‹index=-1›))) (by decide)
       ·exact absurd (hq1.trans (mI (.inr ‹index=Int.ofNat 1›))) (by decide)
       ·obtain rfl:z=nI 2:=bQ;exact bM ⟨2,by decide⟩ (bN (by decide))
     ·cases q2 with
      |true=>
       obtain⟨rfl,rfl,rfl⟩:uz=sc1∧zh=m2∧zc=cc1++[⟨by_,to,0,day⟩]:=by
        unfold tK at hzz;dsimp only at hzz;rw[←hm2]at hzz;injection hzz with h1 h2 h3
        exact⟨h1,h2,h3⟩
       cbv;repeat'((first|refine .y fun h=>?_|refine .mk (fun h=>?_) fun h=>?_|refine .k fun z hz=>?_|refine .o ?_|refine .zl fun zs hzs hzl=>?_|fail)<;>cbv)
       ·refine fJ 9 rfl ?_;cbv
        (refine ZN hh (hc1,[⟨by_,to,0,day⟩]) (Nat.le_add_left 1 4999) ?_;try dsimp only)
        rw[←hm2];dsimp only;obtain rfl:zs=bJ bV (cc1++[(⟨by_,to,0,day⟩:pU)]):=by(rw[cB,cE];first|exact hzs|(subst_vars;rfl))
        cbv;repeat'((first|refine .k fun z hz=>?_|fail)<;>cbv)
        obtain rfl:z=nI 3:=bQ;exact bM ⟨3,by decide⟩ (bN (by decide))
       ·refine fJ 9 rfl ?_;cbv
        (refine ZN hh (hc1,[⟨by_,to,0,day⟩]) (Nat.le_add_left 1 4999) ?_;try dsimp only)
        rw[←hm2];dsimp only;obtain rfl:zs=bJ bV (cc1++[(⟨by_,to,0,day⟩:pU)]):=by(rw[cB,cE];first|exact hzs|(subst_vars;rfl))
        cbv;repeat'((first|refine .k fun z hz=>?_|fail)<;>cbv)
        obtain rfl:z=nI 3:=bQ;exact bM ⟨3,by decide⟩ (bN (by decide))
       ·exact absurd (hq2.trans (jZ ‹¬index=-1› ‹¬index=Int.ofNat 2›)) (by decide)
      |false=>
       obtain⟨rfl,rfl,rfl⟩:uz=sc1∧zh=hc1∧zc=cc1:=by
        injection hzz with h1 h2 h3
        exact⟨h1,h2,h3⟩
       cbv;repeat'((first|refine .y fun h=>?_|refine .mk (fun h=>?_) fun h=>?_|refine .k fun z hz=>?_|refine .o ?_|refine .zl fun zs hzs hzl=>?_|fail)<;>cbv)
       ·exact absurd (hq2.trans (mI (.inl ‹index=-1›))) (by decide)
       ·exact absurd (hq2.trans (mI (.inr ‹index=Int.ofNat 2›))) (by decide)
       ·obtain rfl:z=nI 3:=bQ;exact bM ⟨3,by decide⟩ (bN (by decide))
     ·cbv;repeat'((first|refine .n fun h=>?_|fail)<;>cbv)
      (refine .r9 (Gh.back 1 ([2,3,4,5]) fO ⟨⟨nq1,cq1,sq1,frm1,to1,bq1,pq1,iq1,lq1⟩,st1,⟨ux,xh,xc⟩,⟨uy,yh,yc⟩,⟨uz,zh,zc⟩⟩ rfl hy) ?_;cbv;exact .inl (.f9 hK))
    ·exact(kB (he.symm.trans ‹e=0›) hai).elim
   ·rw[aE h]at hL';subst hL'
    (refine .q9 ?_;cbv;exact .inl (.f9 hK))
def Y3:bH×Bool→AV
 |(s,b)=>.tup [.str s,.bl b]
structure X8 where
 bill:bH
 index:Int
 state:Int
 holder:bH
def WH:X8→AV
 |⟨b,i,s,h⟩=>.agg [.str b,.i i,.i s,.str h]
def My (s:bH):Br→List X8
 |⟨_,_,⟨sa,ha,_⟩,⟨sb,hb,_⟩,⟨sc,hc,_⟩⟩=>[⟨s,0,sa,ha⟩,⟨s,1,sb,hb⟩,⟨s,2,sc,hc⟩]
def Bz (L:List Br) (s:bH):List X8:=match qK L s with
 |some i=>match L[i]? with
  |some b=>My s b
  |none=>[]
 |none=>[]
theorem J9 {L:List Br}{s:bH}{i:Nat}{y:Br}(h:qK L s=some i) (hy:L[i]?=some y):Bz L s=My s y:=by unfold Bz;rw[h];dsimp only;rw[hy]
theorem KK {L:List Br}{s:bH}(h:qK L s=none):Bz L s=[]:=by unfold Bz;rw[h]
def sR:dO:=spec (fun i:Rg×bH=>[.ptr 0 0,.str i.2]) (fun i=>lR i.1) (fun _=>True) (fun i=>.sl 4 (bJ WH (Bz i.1.bills i.2))) fun i=>lR i.1
theorem zZ (P:bI):bO P Zg sR:=by
 intro args H K hc;obtain⟨⟨⟨carrier,L⟩,s⟩,rfl,rfl,hp,hK⟩:=hc;refine⟨cM,?_⟩;dsimp only at hp hK⊢;obtain⟨q,hq⟩:∃q,q=Bz L s:=⟨_,rfl⟩
 rw[←hq]at hK;cbv;refine fB (fun b:Br=>b.b.number) (fun _=>rfl) (fun i y hai hy hky=>?_) (fun hai=>?_)<;>dsimp only at *
 ·rw[J9 hai hy]at hq;obtain⟨⟨nq1,cq1,sq1,frm1,to1,bq1,pq1,iq1,lq1⟩,st1,⟨sa1,ha1,ca1⟩,⟨sb1,hb1,cb1⟩,⟨sc1,hc1,cc1⟩⟩:=y;obtain rfl:q=[⟨s,0,sa1,ha1⟩,⟨s,1,sb1,hb1⟩,⟨s,2,sc1,hc1⟩]:=hq;cbv;repeat'((first|refine .zl fun zs hzs hzl=>?_|fail)<;>cbv)
  obtain rfl:zs=[]:=hzs;refine fX Gh.viewT ?_;cbv;refine bS [6] (fun p:{ k:Nat // k≤3 }=>[(22,.i (nI p.1)),(6,.hd 6)]) (fun p=>[.blk 122 [.str carrier,.ph 1],.pool 120 (bJ fO L) [(i,.ptr 2 0)]]++gH [] 2 (rH ⟨⟨nq1,cq1,sq1,frm1,to1,bq1,pq1,iq1,lq1⟩,st1,⟨sa1,ha1,ca1⟩,⟨sb1,hb1,cb1⟩,⟨sc1,hc1,cc1⟩⟩)++[.row 49 4 (fZ p.1 [] [.agg [.str s,.i 0,.i sa1,.str ha1]] [.agg [.str s,.i 0,.i sa1,.str ha1],.agg [.str s,.i 1,.i sb1,.str hb1]] [.agg [.str s,.i 0,.i sa1,.str ha1],.agg [.str s,.i 1,.i sb1,.str hb1],.agg [.str s,.i 2,.i sc1,.str hc1]])]) (fun p=>fE 3 p.1) ⟨0,by decide⟩ ?_;rintro ⟨k,hk⟩;dsimp only at hk⊢;have hk4:k=0∨k=1∨k=2∨k=3:=by omega
  rcases hk4 with rfl|rfl|rfl|rfl
  ·cbv;repeat'((first|refine .n fun h=>?_|refine .y fun h=>?_|refine .k fun z hz=>?_|refine .o ?_|refine .zl fun zs hzs hzl=>?_|fail)<;>cbv)
   obtain rfl:zs=[.agg [.str s,.i 0,.i sa1,.str ha1]]:=hzs;obtain rfl:z=nI 1:=bQ;exact bM ⟨1,by decide⟩ (bN (by decide))
  ·cbv;repeat'((first|refine .n fun h=>?_|refine .y fun h=>?_|refine .k fun z hz=>?_|refine .o ?_|refine .zl fun zs hzs hzl=>?_|fail)<;>cbv)
   obtain rfl:zs=[.agg [.str s,.i 0,.i sa1,.str ha1],.agg [.str s,.i 1,.i sb1,.str hb1]]:=hzs;obtain rfl:z=nI 2:=bQ;exact bM ⟨2,by decide⟩ (bN (by decide))
  ·cbv;repeat'((first|refine .y fun h=>?_|refine .k fun z hz=>?_|refine .o ?_|refine .zl fun zs hzs hzl=>?_|fail)<;>cbv)
   obtain rfl:zs=[.agg [.str s,.i 0,.i sa1,.str ha1],.agg [.str s,.i 1,.i sb1,.str hb1],.agg [.str s,.i 2,.i sc1,.str hc1]]:=hzs;obtain rfl:z=nI 3:=bQ;exact bM ⟨3,by decide⟩ (bN (by decide))
  ·cbv;repeat'((first|refine .n fun h=>?_|fail)<;>cbv)
   (refine .r9 ((Gh.plain 6 rfl).trans (Gh.back0 1 [2,3,4,5] fO rfl hy)) ?_;cbv;exact .inl (.g9 hK))
 ·rw[KK hai]at hq;subst hq;cbv
  (refine .q9 ?_;cbv;exact .inl (.g9 hK))
def yN (p:bH→Bool) (l:List bH):Int:=match l.findIdx? p with
 |some i=>Int.ofNat i
 |none=>-1
def nG (p:bH→Bool) (l:List bH) (k:Nat):Prop:=∀j y,j < k→l[j]?=some y→p y=false
theorem nG.zero {p:bH→Bool}{l:List bH}:nG p l 0:=fun j y h=>absurd h (Nat.not_lt_zero j)
theorem nG.succ {p:bH→Bool}{l:List bH}{k:Nat}{x:bH}(h:nG p l k) (hx:l[k]?=some x) (hp:p x=false):nG p l (k+1):=fun j y hj hy=>by
 rcases aL j k with h1|h1
 ·exact h j y h1 hy
 ·obtain rfl:j=k:=by omega
  rw[hx]at hy;cases hy;exact hp
theorem Eg {p:bH→Bool}{l:List bH}{k:Nat}{x:bH}(h:nG p l k) (hx:l[k]?=some x) (hp:p x=true):yN p l=Int.ofNat k:=by
 obtain⟨hk,rfl⟩:=aA.1 hx;have e:l.findIdx? p=some k:=List.findIdx?_eq_some_iff_getElem.2 ⟨hk,hp,fun j hj=>by rw[h j _ hj (aB (by omega))];decide⟩;unfold yN;rw[e]
theorem wI {p:bH→Bool}{l:List bH}(h:nG p l l.length):yN p l=-1:=by
 have e:l.findIdx? p=none:=List.findIdx?_eq_none_iff.2 fun x hx=>by
  obtain⟨j,hj,rfl⟩:=List.mem_iff_getElem.1 hx;exact h j _ hj (aB hj)
 unfold yN;rw[e]
theorem A4 (p:bH→Bool) (l:List bH):decide (0≤yN p l)=l.any p:=by
 unfold yN;cases e:l.findIdx? p with
 |none=>
  rw[List.findIdx?_eq_none_iff]at e;have:l.any p=false:=by
   rw[List.any_eq_false];intro x hx;rw[e x hx];decide
  rw[this];rfl
 |some i=>
  rw[List.findIdx?_eq_some_iff_getElem]at e;obtain⟨hi,h1,_⟩:=e;have:l.any p=true:=List.any_eq_true.2 ⟨_,List.getElem_mem hi,h1⟩;rw[this];exact aH (Int.natCast_nonneg i)
def HP:dO:=spec (fun i:List bH×bH=>[.sl 1 (bJ .str i.1),.str i.2]) (fun _=>[]) (fun i=>i.1.length≤5000) (fun i=>.i (yN (fun x=>decide (i.2=x)) i.1)) fun _=>[]
theorem Is (P:bI):bO P Xs HP:=by
 intro args H K hc;obtain⟨⟨l,s⟩,rfl,rfl,hp,hK⟩:=hc;refine⟨cM,?_⟩;dsimp only at hp hK⊢;obtain⟨p,hpp⟩:∃p:bH→Bool,p=fun x=>decide (s=x):=⟨_,rfl⟩
 rw[←hpp]at hK;have hpx:∀x,p x=decide (s=x):=fun x=>by rw[hpp]
 clear hpp;cbv;repeat'((first|refine .k fun z hz=>?_|fail)<;>cbv)
 refine bS [] (fun q:{ k:Nat // k≤l.length∧nG p l k }=>[(8,.i (nI q.1))]) (fun _=>[]) (fun q=>fE 5001 q.1) ⟨0,aI _,.zero⟩ ?_;rintro ⟨k,hk,hn⟩;dsimp only at hk hn⊢;cbv;repeat'((first|refine .mk (fun h=>?_) fun h=>?_|fail)<;>cbv)
 ·refine cR bQ bQ fun i x hi hx=>?_
  obtain rfl:k=i:=bQ;cbv;repeat'((first|refine .mk (fun h=>?_) fun h=>?_|refine .k fun z hz=>?_|fail)<;>cbv)
  ·exact bW.mk ⟨_,Gh.refl _,.inl (.v9 (fU hK (by(rw[Eg hn hx ((hpx x).trans (aH h))]))))⟩
  ·obtain rfl:z=nI (k+1):=bQ;exact bM ⟨k+1,by exact bQ,hn.succ hx ((hpx x).trans (aG h))⟩ (bN bQ)
 ·obtain rfl:k=l.length:=bQ;exact bW.mk ⟨_,Gh.refl _,.inl (.v9 (fU hK (by(rw[wI hn]))))⟩
def xD:dO:=spec (fun i:List bH×bH=>[.sl 1 (bJ .str i.1),.str i.2]) (fun _=>[]) (fun i=>i.1.length≤5000) (fun i=>.bl (i.1.any fun x=>decide (i.2=x))) fun _=>[]
theorem Bj (P:bI) (hi:bK P 208 HP):bO P WO xD:=by
 intro args H K hc;obtain⟨⟨l,s⟩,rfl,rfl,hp,hK⟩:=hc;refine⟨cM,?_⟩;dsimp only at hp hK⊢;obtain⟨p,hpp⟩:∃p:bH→Bool,p=fun x=>decide (s=x):=⟨_,rfl⟩
 rw[←hpp,←A4]at hK;obtain⟨e,he⟩:∃e,e=yN p l:=⟨_,rfl⟩
 rw[←he]at hK;cbv
 (refine ZN hi (l,s) hp ?_;try dsimp only)
 rw[←hpp,←he];cbv;repeat'((first|refine .mk (fun h=>?_) fun h=>?_|fail)<;>cbv)
 ·exact bW.mk ⟨_,Gh.refl _,.inl (.v9 (cF hK (by(rw[aH h]))))⟩
 ·exact bW.mk ⟨_,Gh.refl _,.inl (.v9 (cF hK (by(rw[aG (by omega)]))))⟩
def R3 (p:bH→Bool):dO:=spec (fun s:bH=>[.str s]) (fun _=>[]) (fun _=>True) (fun s=>.bl (p s)) fun _=>[]
def OQ (f:Nat) (p:bH→Bool):dO:=spec (fun l:List bH=>[.sl 1 (bJ .str l),.clo f []]) (fun _=>[]) (fun l=>l.length≤5000) (fun l=>.i (yN p l)) fun _=>[]
theorem KI (P:bI) (f:Nat) (p:bH→Bool) (hm:dH P f) (hf:bK P f (R3 p)):bO P UV (OQ f p):=by
 intro args H K hc;obtain⟨l,rfl,rfl,hp,hK⟩:=hc;refine⟨cM,?_⟩;dsimp only at hp hK⊢;cbv;repeat'((first|refine .k fun z hz=>?_|fail)<;>cbv)
 refine bS [] (fun q:{ k:Nat // k≤l.length∧nG p l k }=>[(8,.i (nI q.1))]) (fun _=>[]) (fun q=>fE 5001 q.1) ⟨0,aI _,.zero⟩ ?_;rintro ⟨k,hk,hn⟩;dsimp only at hk hn⊢;cbv;repeat'((first|refine .mk (fun h=>?_) fun h=>?_|fail)<;>cbv)
 ·refine cR bQ bQ fun i x hi hx=>?_
  obtain rfl:k=i:=bQ;cbv;repeat'((first|refine And.intro ?_ ?_|fail)<;>cbv)
  ·exact hm
  ·obtain⟨b,hb⟩:∃b,b=p x:=⟨_,rfl⟩
   (refine ZN hf x trivial ?_;try dsimp only)
   rw[←hb];cases b with
   |true=>
    cbv;exact bW.mk ⟨_,Gh.refl _,.inl (.v9 (fU hK (by(rw[Eg hn hx hb.symm]))))⟩
   |false=>
    cbv;repeat'((first|refine .k fun z hz=>?_|fail)<;>cbv)
    obtain rfl:z=nI (k+1):=bQ;exact bM ⟨k+1,by exact bQ,hn.succ hx hb.symm⟩ (bN bQ)
 ·obtain rfl:k=l.length:=bQ;exact bW.mk ⟨_,Gh.refl _,.inl (.v9 (fU hK (by(rw[wI hn]))))⟩
def Nw (f:Nat) (p:bH→Bool):dO:=spec (fun l:List bH=>[.sl 1 (bJ .str l),.clo f []]) (fun _=>[]) (fun l=>l.length≤5000) (fun l=>.bl (l.any p)) fun _=>[]
theorem LR (P:bI) (f:Nat) (p:bH→Bool) (hi:bK P 189 (OQ f p)):bO P Vb (Nw f p):=by
 intro args H K hc;obtain⟨l,rfl,rfl,hp,hK⟩:=hc;refine⟨cM,?_⟩;dsimp only at hp hK⊢;rw[←A4]at hK;obtain⟨e,he⟩:∃e,e=yN p l:=⟨_,rfl⟩
 rw[←he]at hK;cbv
 (refine ZN hi l hp ?_;try dsimp only)
 rw[←he];cbv;repeat'((first|refine .mk (fun h=>?_) fun h=>?_|fail)<;>cbv)
 ·exact bW.mk ⟨_,Gh.refl _,.inl (.v9 (cF hK (by(rw[aH h]))))⟩
 ·exact bW.mk ⟨_,Gh.refl _,.inl (.v9 (cF hK (by(rw[aG (by omega)]))))⟩
theorem LI (P:bI) (hn:bK P 144 (iR (fun _=>True) bT)):bO P Xw (R3 fun s=>!bT s):=by
 intro args H K hc;obtain⟨s,rfl,rfl,hp,hK⟩:=hc;refine⟨cM,?_⟩;dsimp only at hp hK⊢;obtain⟨b,hb⟩:∃b,b=bT s:=⟨_,rfl⟩
 rw[←hb]at hK;cbv
 (refine ZN hn s trivial ?_;try dsimp only)
 rw[←hb];cases b with
 |true=>
  cbv;exact bW.mk ⟨_,Gh.refl _,.inl (.v9 (OU hK (by rfl)))⟩
 |false=>
  cbv;exact bW.mk ⟨_,Gh.refl _,.inl (.v9 (OU hK (by rfl)))⟩
def FX:Go.Shelf.Ren:=⟨fun|190=>91|125=>130|258=>129|128=>168|129=>169|302=>159|303=>160|304=>161|305=>162|306=>163|307=>164|308=>165|309=>166|310=>167|333=>192|329=>193|330=>194|334=>195|335=>196|336=>197|344=>209|n=>n,fun|31=>56|9=>9|3=>3|46=>226|0=>0|51=>258|53=>260|4=>4|183=>250|182=>249|131=>255|5=>5|218=>274|222=>278|228=>286|229=>287|n=>n,fun|n=>n⟩
theorem vB:Go.Proofs.Lays.n190 Tryz.prog FX:={
 mixed:=by kernel_rfl
 f125:=Tryz.func130.trans (congrArg some (by kernel_rfl))
 f128:=Tryz.func168.trans (congrArg some (by kernel_rfl))
 f129:=Tryz.func169.trans (congrArg some (by kernel_rfl))
 f190:=Tryz.func91.trans (congrArg some (by kernel_rfl))
 f258:=Tryz.func129.trans (congrArg some (by kernel_rfl))
 f302:=Tryz.func159.trans (congrArg some (by kernel_rfl))
 f303:=Tryz.func160.trans (congrArg some (by kernel_rfl))
 f304:=Tryz.func161.trans (congrArg some (by kernel_rfl))
 f305:=Tryz.func162.trans (congrArg some (by kernel_rfl))
 f306:=Tryz.func163.trans (congrArg some (by kernel_rfl))
 f307:=Tryz.func164.trans (congrArg some (by kernel_rfl))
 f308:=Tryz.func165.trans (congrArg some (by kernel_rfl))
 f309:=Tryz.func166.trans (congrArg some (by kernel_rfl))
 f310:=Tryz.func167.trans (congrArg some (by kernel_rfl))
 f329:=Tryz.func193.trans (congrArg some (by kernel_rfl))
 f330:=Tryz.func194.trans (congrArg some (by kernel_rfl))
 f333:=Tryz.func192.trans (congrArg some (by kernel_rfl))
 f334:=Tryz.func195.trans (congrArg some (by kernel_rfl))
 f335:=Tryz.func196.trans (congrArg some (by kernel_rfl))
 f336:=Tryz.func197.trans (congrArg some (by kernel_rfl))
 f344:=Tryz.func209.trans (congrArg some (by kernel_rfl))
 t0:=Tryz.underlying0
 a0:=Tryz.isAgg0
 z0:=Tryz.sizeOf0
 v0:=Tryz.zeroValue0
 t3:=Tryz.underlying3
 a3:=Tryz.isAgg3
 z3:=Tryz.sizeOf3
 v3:=Tryz.zeroValue3
 t4:=Tryz.underlying4
 a4:=Tryz.isAgg4
 z4:=Tryz.sizeOf4
 v4:=Tryz.zeroValue4
 t5:=Tryz.underlying5
 a5:=Tryz.isAgg5
 z5:=Tryz.sizeOf5
 v5:=Tryz.zeroValue5
 t9:=Tryz.underlying9
 a9:=Tryz.isAgg9
 z9:=Tryz.sizeOf9
 v9:=Tryz.zeroValue9
 t31:=Tryz.underlying56
 a31:=Tryz.isAgg56
 z31:=Tryz.sizeOf56
 v31:=Tryz.zeroValue56
 t46:=Tryz.underlying226
 a46:=Tryz.isAgg226
 z46:=Tryz.sizeOf226
 v46:=Tryz.zeroValue226
 t51:=Tryz.underlying258
 a51:=Tryz.isAgg258
 z51:=Tryz.sizeOf258
 v51:=Tryz.zeroValue258
 t53:=Tryz.underlying260
 a53:=Tryz.isAgg260
 z53:=Tryz.sizeOf260
 v53:=Tryz.zeroValue260
 t131:=Tryz.underlying255
 a131:=Tryz.isAgg255
 z131:=Tryz.sizeOf255
 v131:=Tryz.zeroValue255
 t182:=Tryz.underlying249
 a182:=Tryz.isAgg249
 z182:=Tryz.sizeOf249
 v182:=Tryz.zeroValue249
 t183:=Tryz.underlying250
 a183:=Tryz.isAgg250
 z183:=Tryz.sizeOf250
 v183:=Tryz.zeroValue250
 t218:=Tryz.underlying274
 a218:=Tryz.isAgg274
 z218:=Tryz.sizeOf274
 v218:=Tryz.zeroValue274
 t222:=Tryz.underlying278
 a222:=Tryz.isAgg278
 z222:=Tryz.sizeOf278
 v222:=Tryz.zeroValue278
 t228:=Tryz.underlying286
 a228:=Tryz.isAgg286
 z228:=Tryz.sizeOf286
 v228:=Tryz.zeroValue286
 t229:=Tryz.underlying287
 a229:=Tryz.isAgg287
 z229:=Tryz.sizeOf287
 v229:=Tryz.zeroValue287 }
def iT (s:bH):List UInt8:=s.data.toList
def iC (l:List UInt8):bH:=⟨l.toArray⟩
def eA (L:List bH):List bH:=((L.map iT).mergeSort fun x y=>decide (x≤y)).map iC
theorem nA (s:bH):iC (iT s)=s:=by
 obtain⟨⟨l⟩⟩:=s;rfl
theorem NF {pub:dC}{w:World}{r:cU}:∀{L:List bH}{us:List Value},bR pub w r ((bJ .str L).flatMap AV.cells) us→us=L.map .string
 |[],us,h=>h.nil_inv
 |s :: L,us,h=>by
  have h':bR pub w r (.str s :: (bJ .str L).flatMap AV.cells) us:=h;obtain⟨us',rfl,h2⟩:=h'.str_inv;rw[NF h2];rfl
theorem Hg {pub:dC}{w:World}{r:cU}:∀(L:List bH),bR pub w r ((bJ .str L).flatMap AV.cells) (L.map .string)
 |[]=>⟨rfl,fun i x u hx _=>by cases hx⟩
 |s :: L=>by
  have ih:=Hg (pub:=pub) (w:=w) (r:=r) L;show bR pub w r (.str s :: (bJ .str L).flatMap AV.cells) (.string s :: L.map .string);refine⟨by rw[List.length_cons,List.length_cons,ih.len],fun i x u hx hu=>?_⟩;cases i with
  |zero=>cases hx;cases hu;exact .str s
  |succ i=>exact ih.at_ i x u hx hu
structure DI (P:bI) (f:Nat):Prop where
 out:∀(A:Option Addr) (L:List bH) (c:Nat) (w:World) (pub:dC),L.length≤2000000→kC w 9 1 A L.length c (L.map .string)→(∀b∈lT A,pub b=0)→(∀b,w.heap.size≤b→pub b=0) →
  Calls P f #[.slice A L.length c] w fun e w'=>e=.returned (.tuple #[])∧Fr (fun b=>b∈lT A) pub w pub w'∧kC w' 9 1 A L.length c ((eA L).map .string)
theorem kG (L:List bH):(eA L).length=L.length:=by simp[eA]
theorem JE:DI Tryz.prog 91:=⟨fun A L c w pub hp ho hpb hfresh=>by
 rcases ho.cases_ with ⟨rfl,hl0,rfl,_⟩|⟨g,cur,rfl,hb,h1,h2,h3,h4⟩
 ·obtain rfl:L=[]:=aR hl0;refine(Any.slices_Sort_string_none vB none 0 w).mono fun e w' h=>?_
  obtain⟨rfl,rfl⟩:=h;refine⟨rfl,.refl _ _ _,?_⟩;rw[show eA []=[] by simp[eA]];exact ho
 ·have hgp:pub g=0:=hpb g (by simp);have hss:cur.toList.take (L.map iT).length=(L.map iT).map encStr:=by
   rw[aJ,←Nat.mul_one L.length,h4,List.map_map];refine List.map_congr_left fun s _=>?_
   show Value.string s=Value.string (iC (iT s));rw[nA]
  have hblk:g < w.heap.size:=hb.lt;have hlen:L.length=(L.map iT).length:=by rw[aJ]
  rw[hlen];refine(Any.slices_Sort_string vB g 0 c (L.map iT) w (holds_of_block hb hss) hblk (by rw[aJ];omega)).mono fun e w' h=>?_
  obtain⟨rfl,n,os,rfl⟩:=h;obtain⟨ts,hts⟩:∃ts,ts=(L.map iT).mergeSort fun x y=>decide (x≤y):=⟨_,rfl⟩
  have htl:ts.length=(L.map iT).length:=by rw[hts];simp
  have hso:eA L=ts.map iC:=by rw[hts];rfl
  rw[hso,←hts];have hgb:=grownBy_sorted (w:=w) (g:=g) (n:=n) (os:=os) ts.toArray;have hh:=heap_sorted (n:=n) (os:=os) ts.toArray hb;obtain⟨w',hw'⟩:∃w',w'=Sort.grow (Sort.putRow encStr (Sort.ahead w n) g 0 ts.toArray) os:=⟨_,rfl⟩
  rw[←hw']at hgb hh⊢;obtain⟨g1,g2,g3,g4,g5⟩:=hgb;have hkeep:∀b,b < w.heap.size→¬b=g→w'.heap[b]?=w.heap[b]?:=fun b hb hn=>g5 b hb fun e=>hn (Option.some.inj e)
  have hcell:∀b i v,i < pub b→w.cell? ⟨b,i,none⟩=some v→w'.cell? ⟨b,i,none⟩=some v:=fun b i v hi hv=>by
   have hbs:b < w.heap.size:=by
    rcases aL b w.heap.size with h|h
    ·exact h
    ·rw[hfresh b h]at hi;exact absurd hi (Nat.not_lt_zero _)
   have hbg:¬b=g:=fun e=>by
    subst e;rw[hgp]at hi;exact absurd hi (Nat.not_lt_zero _)
   have e:=hkeep b hbs hbg;unfold World.cell? at hv⊢;dsimp only at hv⊢;rw[e];exact hv
  refine⟨rfl,⟨g1,g2,g3,g4,fun b hb hn=>⟨hkeep b hb fun e=>hn (by subst e;simp),rfl⟩,fun _=>aN _,hcell,fun b n hp hn=>kZ (hkeep b (mN hn) fun e=>by subst e;rw[hgp]at hp;exact absurd hp (Nat.lt_irrefl 0)) hn⟩,?_⟩;refine kC.of_blk (cur:=Sort.putCells encStr 0 ts.toArray cur) hh (by rw[←hlen];exact h1) h2 (by simp[Sort.putCells,h3]) ?_;rw[Nat.mul_one,←htl,take_putCells _ _ (by rw[htl,aJ,h3];omega),List.map_map];rfl⟩
theorem Aj {P:bI}{f:Nat}(hs:DI P f) (k:Nat) (L:List bH) {keep:List Nat}{st:St}{K:AV→St→Prop}(hk:st.H[k]?=some (.row 9 1 (bJ .str L))) (hl:L.length≤2000000) (hkeep:(keep.all fun j=>j != k)=true)
  (hK:K (.tup []) ⟨st.T,st.H.set k (.row 9 1 (bJ .str (eA L)))⟩):gA P keep f [.hd k] st K:=by
 refine⟨fun C a w r pub vals h hv=>?_⟩;obtain⟨u,us',hvals,hu,hnil⟩:=hv.cons_inv;have hn0:=hnil.nil_inv;subst hn0;obtain rfl:vals=#[u]:=Array.toList_inj.1 (by simpa using hvals);have hr:r k=some u:=by cases hu with|hd h _=>exact h
 obtain⟨A,c,us,hrk,ho,hcs,hst,hpb⟩:=h.ent_row hk;rw[hr]at hrk;cases hrk;have hus:=NF hcs;subst hus;rw[cD]at ho hr⊢;refine(hs.out A L c w pub hl ho hpb h.mod.fresh).mono fun e w' hw=>?_
 obtain⟨rfl,hf,ho'⟩:=hw;have hE:eG pub w' r (some (.slice A (bJ AV.str (eA L)).length c)) (.row 9 1 (bJ .str (eA L))):=by
  refine .row (us:=(eA L).map .string) (by rw[cD,kG];exact ho') (Hg _) (fun x hx=>?_) hpb;rw[dX]at hx;obtain⟨s,_,rfl⟩:=aX.1 hx;exact⟨rfl,rfl⟩
 rw[cD,kG]at hE;refine⟨_,_,_,r,pub,rfl,.tup rfl (fun i x v hx _=>by cases hx),hK,⟨h.mod.set hr hf (fun b hb=>hb) (fun b hb=>h.mod.fresh b (Nat.le_trans hf.size hb)) (fun b i hi=>?_) hE,h.own,h.fr.trans hf (fun b hb=>h.own k _ hr b hb),h.slots.ext hf.ext,h.defers,h.size,h.stab,⟨h.low.1,by simpa using h.low.2⟩⟩,hf.ext,fun j hj=>⟨rfl,fun y hy b hb=>?_⟩⟩
 ·obtain⟨v,hv⟩:=h.mod.there b i hi;exact⟨v,hf.ext.cell b i v hi hv⟩
 ·have hjk:j≠k:=by
   have:=aT.1 hkeep j hj;simpa using this
  exact(hf.keep b (h.mod.foot_lt hy b hb) fun hbA=>h.mod.disj j k y _ hjk hy hr b hb hbA).1
theorem It {l1 l2:List bH}(h:l1.Perm l2):eA l1=eA l2:=by
 unfold eA;congr 1;have ht:∀a b c:List UInt8,decide (a≤b)=true→decide (b≤c)=true→decide (a≤c)=true:=fun a b c h1 h2=>aH (List.le_trans (of_decide_eq_true h1) (of_decide_eq_true h2))
 have hs:∀a b:List UInt8,(decide (a≤b) || decide (b≤a))=true:=fun a b=>by
  rcases List.le_total a b with h|h
  ·rw[aH h];rfl
  ·rw[aH h];exact Bool.or_true _
 refine List.Perm.eq_of_pairwise (le:=fun a b=>decide (a≤b)=true) (fun a b _ _ h1 h2=>List.le_antisymm (of_decide_eq_true h1) (of_decide_eq_true h2)) (List.pairwise_mergeSort ht hs _) (List.pairwise_mergeSort ht hs _) ?_;exact(List.mergeSort_perm _ _).trans ((h.map iT).trans (List.mergeSort_perm _ _).symm)
def gN (p:Br→Bool) (b:Br):Option bH:=bif p b then some b.b.number else none
def gR (L:List Br) (p:Br→Bool):List bH:=eA (L.filterMap (gN p))
def nC (L:List Br) (p:Br→Bool) (seen:List Nat):List bH:=seen.filterMap fun i=>L[i]?.bind (gN p)
theorem A3 {α β:Type}(g:α→Option β):∀L:List α,(List.range L.length).filterMap (fun i=>L[i]?.bind g)=L.filterMap g
 |[]=>rfl
 |x :: L=>by
  rw[List.length_cons,List.range_succ_eq_map,List.filterMap_cons,List.filterMap_map];have ih:=A3 g L;have e:((fun i=>(x :: L)[i]?.bind g) ∘ Nat.succ)=fun i=>L[i]?.bind g:=by funext i;rfl
  rw[e,ih,List.filterMap_cons];rfl
structure mJ (L:List Br) (seen:List Nat):Prop where
 nd:seen.Nodup
 lt:∀i∈seen,i < L.length
theorem mJ.nil {L:List Br}:mJ L []:=⟨.nil,fun i h=>by cases h⟩
theorem mJ.snoc {L:List Br}{seen:List Nat}{i:Nat}{y:Br}(h:mJ L seen) (hy:L[i]?=some y) (hn:i∉seen):mJ L (seen++[i]):=by
 refine⟨List.nodup_append.2 ⟨h.nd,List.nodup_cons.2 ⟨by simp,.nil⟩,fun a ha b hb e=>?_⟩,fun j hj=>?_⟩
 ·obtain rfl:=List.mem_singleton.1 hb;subst e;exact hn ha
 ·rcases List.mem_append.1 hj with h1|h1
  ·exact h.lt j h1
  ·obtain rfl:=List.mem_singleton.1 h1;exact(aA.1 hy).1
theorem mJ.len {L:List Br}{seen:List Nat}(h:mJ L seen):seen.length≤L.length:=by
 have:=h.nd.length_le_of_subset (l₂:=List.range L.length) fun i hi=>List.mem_range.2 (h.lt i hi)
 rwa [List.length_range]at this
theorem Ca {L:List Br}{p:Br→Bool}{seen:List Nat}(h:mJ L seen):(nC L p seen).length≤L.length:=Nat.le_trans (List.length_filterMap_le _ _) h.len
theorem BH {L:List Br}{p:Br→Bool}{seen:List Nat}(h:mJ L seen) (hall:∀i,i < L.length→i∈seen):eA (nC L p seen)=gR L p:=by
 have hp:seen.Perm (List.range L.length):=(List.perm_ext_iff_of_nodup h.nd List.nodup_range).2 fun i=>⟨fun hi=>List.mem_range.2 (h.lt i hi),fun hi=>hall i (List.mem_range.1 hi)⟩
 unfold gR;rw[←A3];exact It (hp.filterMap _)
theorem CB {L:List Br}{p:Br→Bool}{seen:List Nat}{i:Nat}{y:Br}(hy:L[i]?=some y) (hp:p y=true):nC L p (seen++[i])=nC L p seen++[y.b.number]:=by
 unfold nC;rw[List.filterMap_append];congr 1;rw[List.filterMap_cons,hy];unfold gN;rw[Option.bind_some,hp];rfl
theorem EH {L:List Br}{p:Br→Bool}{seen:List Nat}{i:Nat}{y:Br}(hy:L[i]?=some y) (hp:p y=false):nC L p (seen++[i])=nC L p seen:=by
 unfold nC;rw[List.filterMap_append,List.filterMap_cons,hy];unfold gN;rw[Option.bind_some,hp];exact List.append_nil _
theorem AW {α:Type}{f:α→AR}{L:List α}{since i:Nat}{seen s:List Nat}{x:AV}{y:α}{K:AV→AV→Prop}(e:s=seen++[i]) (hs:since=L.length) (hy:L[i]?=some y) (h:K (f y).1 x):QE (bJ f L) [(i,x)] since s K:=by
 subst e;exact QU hs hy h
def inB (b:Br):Prop:=qQ b∧yF b.b
def Sb (p:Br→Bool):dO:=spec (fun _:Br=>[.ptr 0 0]) rH inB (fun y=>.bl (p y)) rH
def R6 (f:Nat) (p:Br→Bool):dO:=spec (fun _:Rg=>[.ptr 0 0,.clo f []]) lR (fun R=>R.bills.length≤256∧∀b∈R.bills,inB b) (fun R=>.sl 1 (bJ .str (gR R.bills p))) lR
theorem Dc (P:bI) (f:Nat) (p:Br→Bool) (hm:dH P f) (hf:bK P f (Sb p)) (hs:DI P 91):bO P YF (R6 f p):=by
 intro args H K hc;obtain⟨⟨carrier,L⟩,rfl,rfl,hp,hK⟩:=hc;refine⟨cM,?_⟩;dsimp only at hp hK⊢;obtain⟨hp,hpb⟩:=hp;cbv;repeat'((first|refine .k fun z hz=>?_|fail)<;>cbv)
 obtain⟨n,hn⟩:∃n:Nat,n=L.length:=⟨_,rfl⟩
 obtain rfl:z=nI n:=bQ;refine fX (Gh.adopt 5 9 1 rfl) ?_;cbv;refine bS [3] (fun q:{ q:List Nat×Nat // mJ L q.1∧q.2=q.1.length }=>[(5,.hd 3)]) (fun q=>[.blk 122 [.str carrier,.ph 1],.pool 120 (bJ fO L) [],.iter (.ph 1) n q.1.1,.row 9 1 (bJ .str (nC L p q.1.1))]) (fun q=>fE 257 q.1.2) ⟨([],0),.nil,rfl⟩ ?_;rintro ⟨⟨seen,k⟩,hse,hk⟩;dsimp only at hse hk⊢;have hsl:=hse.len;obtain⟨rw_,hrw⟩:∃l,l=nC L p seen:=⟨_,rfl⟩
 have hrl:rw_.length≤L.length:=by rw[hrw];exact Ca hse
 rw[←hrw];cbv;refine Dk hn (fun i y hy hni=>?_) (fun hall=>?_)<;>dsimp only at *
 ·have hin:=hpb y (aC hy);have hse2:=hse.snoc hy hni;obtain⟨s2,hs2⟩:∃s,s=seen++[i]:=⟨_,rfl⟩
  rw[←hs2]at hse2⊢;obtain⟨b,hb⟩:∃b,b=p y:=⟨_,rfl⟩
  have hlt:k < 257:=by omega
  have hsk:s2.length=k+1:=by rw[hs2,hk];simp
  have hyes:=CB (seen:=seen) hy (p:=p);have hno:=EH (seen:=seen) hy (p:=p);rw[←hs2,←hrw,←hb]at hyes hno;obtain⟨⟨nq1,cq1,sq1,frm1,to1,bq1,pq1,iq1,lq1⟩,st1,⟨sa1,ha1,ca1⟩,⟨sb1,hb1,cb1⟩,⟨sc1,hc1,cc1⟩⟩:=y;dsimp only at hyes hno;cbv;refine AW hs2 hn hy ?_;cbv;repeat'((first|refine And.intro ?_ ?_|fail)<;>cbv)
  ·exact hm
  ·(refine fW hf ⟨⟨nq1,cq1,sq1,frm1,to1,bq1,pq1,iq1,lq1⟩,st1,⟨sa1,ha1,ca1⟩,⟨sb1,hb1,cb1⟩,⟨sc1,hc1,cc1⟩⟩ [4,5,6,7] hin ?_;try dsimp only)
   rw[←hb];cases b with
   |true=>
    have hyes:=hyes rfl;cbv;repeat'((first|refine .zl fun zs hzs hzl=>?_|fail)<;>cbv)
    obtain rfl:zs=bJ .str (nC L p s2):=by(rw[hyes,cB,cE];exact hzs)
    refine dV (Gh.back0 1 [4,5,6,7] fO rfl hy) ?_;cbv;exact bM ⟨(s2,k+1),hse2,hsk.symm⟩ (bN hlt)
   |false=>
    have hno:=hno rfl;rw[←hno];cbv;refine dV (Gh.back0 1 [4,5,6,7] fO rfl hy) ?_;cbv;exact bM ⟨(s2,k+1),hse2,hsk.symm⟩ (bN hlt)
 ·have hsort:=BH (p:=p) hse hall;rw[←hrw]at hsort;obtain⟨l,hl⟩:∃l,l=gR L p:=⟨_,rfl⟩
  rw[←hl]at hsort hK;cbv;refine Aj hs 3 rw_ rfl (by omega) (by decide) ?_;rw[hsort];cbv
  (refine .r9 (Gh.plain 3 rfl) ?_;cbv;exact .inl (.g9 hK))
def Nr (p:bH→Br→Bool):dO:=spec (fun _:Br×bH=>[.ptr 0 0,.ptr 4 0]) (fun i=>rH i.1++[.blk 9 [.str i.2]]) (fun i=>inB i.1) (fun i=>.bl (p i.2 i.1)) fun i=>rH i.1++[.blk 9 [.str i.2]]
def Vz (i:Rg×bH):List cG:=lR i.1++[.blk 9 [.str i.2]]
def T4 (f:Nat) (p:bH→Br→Bool):dO:=spec (fun _:Rg×bH=>[.ptr 0 0,.clo f [.ptr 2 0]]) Vz (fun i=>i.1.bills.length≤256∧∀b∈i.1.bills,inB b) (fun i=>.sl 1 (bJ .str (gR i.1.bills (p i.2)))) Vz
theorem Bh (P:bI) (f:Nat) (p:bH→Br→Bool) (hm:dH P f) (hf:bK P f (Nr p)) (hs:DI P 91):bO P YF (T4 f p):=by
 intro args H K hc;obtain⟨⟨⟨carrier,L⟩,who⟩,rfl,rfl,hp,hK⟩:=hc;refine⟨cM,?_⟩;dsimp only at hp hK⊢;obtain⟨hp,hpb⟩:=hp;cbv;repeat'((first|refine .k fun z hz=>?_|fail)<;>cbv)
 obtain⟨n,hn⟩:∃n:Nat,n=L.length:=⟨_,rfl⟩
 obtain rfl:z=nI n:=bQ;refine fX (Gh.adopt 5 9 1 rfl) ?_;cbv;refine bS [4] (fun q:{ q:List Nat×Nat // mJ L q.1∧q.2=q.1.length }=>[(5,.hd 4)]) (fun q=>[.blk 122 [.str carrier,.ph 1],.pool 120 (bJ fO L) [],.blk 9 [.str who],.iter (.ph 1) n q.1.1,.row 9 1 (bJ .str (nC L (p who) q.1.1))]) (fun q=>fE 257 q.1.2) ⟨([],0),.nil,rfl⟩ ?_;rintro ⟨⟨seen,k⟩,hse,hk⟩;dsimp only at hse hk⊢;have hsl:=hse.len;obtain⟨rw_,hrw⟩:∃l,l=nC L (p who) seen:=⟨_,rfl⟩
 have hrl:rw_.length≤L.length:=by rw[hrw];exact Ca hse
 rw[←hrw];cbv;refine Dk hn (fun i y hy hni=>?_) (fun hall=>?_)<;>dsimp only at *
 ·have hin:=hpb y (aC hy);have hse2:=hse.snoc hy hni;obtain⟨s2,hs2⟩:∃s,s=seen++[i]:=⟨_,rfl⟩
  rw[←hs2]at hse2⊢;obtain⟨b,hb⟩:∃b,b=p who y:=⟨_,rfl⟩
  have hlt:k < 257:=by omega
  have hsk:s2.length=k+1:=by rw[hs2,hk];simp
  have hyes:=CB (seen:=seen) hy (p:=p who);have hno:=EH (seen:=seen) hy (p:=p who);rw[←hs2,←hrw,←hb]at hyes hno;obtain⟨⟨nq1,cq1,sq1,frm1,to1,bq1,pq1,iq1,lq1⟩,st1,⟨sa1,ha1,ca1⟩,⟨sb1,hb1,cb1⟩,⟨sc1,hc1,cc1⟩⟩:=y;dsimp only at hyes hno;cbv;refine AW hs2 hn hy ?_;cbv;repeat'((first|refine And.intro ?_ ?_|fail)<;>cbv)
  ·exact hm
  ·(refine fW hf (⟨⟨nq1,cq1,sq1,frm1,to1,bq1,pq1,iq1,lq1⟩,st1,⟨sa1,ha1,ca1⟩,⟨sb1,hb1,cb1⟩,⟨sc1,hc1,cc1⟩⟩,who) [5,6,7,8,2] hin ?_;try dsimp only)
   rw[←hb];cases b with
   |true=>
    have hyes:=hyes rfl;cbv;repeat'((first|refine .zl fun zs hzs hzl=>?_|fail)<;>cbv)
    obtain rfl:zs=bJ .str (nC L (p who) s2):=by(rw[hyes,cB,cE];exact hzs)
    refine dV (Gh.back0 1 [5,6,7,8] fO rfl hy) ?_;cbv;exact bM ⟨(s2,k+1),hse2,hsk.symm⟩ (bN hlt)
   |false=>
    have hno:=hno rfl;rw[←hno];cbv;refine dV (Gh.back0 1 [5,6,7,8] fO rfl hy) ?_;cbv;exact bM ⟨(s2,k+1),hse2,hsk.symm⟩ (bN hlt)
 ·have hsort:=BH (p:=p who) hse hall;rw[←hrw]at hsort;obtain⟨l,hl⟩:∃l,l=gR L (p who):=⟨_,rfl⟩
  rw[←hl]at hsort hK;cbv;refine Aj hs 4 rw_ rfl (by omega) (by decide) ?_;rw[hsort];cbv
  (refine .r9 (Gh.plain 4 rfl) ?_;cbv;exact .inl (.g9 hK))
theorem EL (P:bI):bO P YL (Sb fun _=>true):=by
 intro args H K hc;obtain⟨y,rfl,rfl,hp,hK⟩:=hc;refine⟨cM,?_⟩;dsimp only at hp hK⊢;obtain⟨⟨nq1,cq1,sq1,frm1,to1,bq1,pq1,iq1,lq1⟩,st1,⟨sa1,ha1,ca1⟩,⟨sb1,hb1,cb1⟩,⟨sc1,hc1,cc1⟩⟩:=y;cbv
 (refine .q9 ?_;cbv;exact .inl (.f9 hK))
def lN (box:bH) (b:Br):Bool:=decide (b.st=0) && b.b.boxes.any fun x=>decide (box=x)
theorem Lt (P:bI) (hc:bK P 191 xD):bO P Yr (Nr lN):=by
 intro args H K hc;obtain⟨⟨y,who⟩,rfl,rfl,hp,hK⟩:=hc;refine⟨cM,?_⟩;dsimp only at hp hK⊢;unfold inB at hp;obtain⟨hp,hob⟩:=hp;unfold yF at hob;unfold lN at hK;obtain⟨q3,hq3⟩:∃q,q=y.b.boxes.any fun x=>decide (who=x):=⟨_,rfl⟩
 rw[←hq3]at hK;obtain⟨⟨nq1,cq1,sq1,frm1,to1,bq1,pq1,iq1,lq1⟩,st1,⟨sa1,ha1,ca1⟩,⟨sb1,hb1,cb1⟩,⟨sc1,hc1,cc1⟩⟩:=y;dsimp only at hK hob hq3;cbv;repeat'((first|refine .mk (fun h=>?_) fun h=>?_|fail)<;>cbv)
 ·(refine ZN hc (bq1,who) (by dsimp only;omega) ?_;try dsimp only)
  rw[←hq3];cbv
  (refine .q9 ?_;cbv;exact .inl (.f9 (cF hK (by rw[aH h];rfl))))
 ·(refine .q9 ?_;cbv;exact .inl (.f9 (cF hK (by rw[aG h];rfl))))
def H8:dO:=spec (fun _:Rg=>[.ptr 0 0]) lR (fun R=>R.bills.length≤256∧∀b∈R.bills,inB b) (fun R=>.sl 1 (bJ .str (gR R.bills fun _=>true))) lR
theorem Ij (P:bI) (hn:bK P 69 (R6 70 fun _=>true)):bO P YM H8:=by
 intro args H K hc;obtain⟨⟨carrier,L⟩,rfl,rfl,hp,hK⟩:=hc;refine⟨cM,?_⟩;dsimp only at hp hK⊢;obtain⟨l,hl⟩:∃l,l=gR L fun _=>true:=⟨_,rfl⟩
 rw[←hl]at hK;cbv
 (refine fW hn (⟨carrier,L⟩:Rg) [0,1] hp ?_;try dsimp only)
 rw[←hl];cbv
 (refine .q9 ?_;cbv;exact .inl (.f9 hK))
def HJ (L:List Br) (box:bH):bH×Bool:=match gR L (lN box) with
 |[]=>(⟨⟨[]⟩⟩,false)
 |n :: _=>(n,true)
def Ui:dO:=spec (fun i:Rg×bH=>[.ptr 0 0,.str i.2]) (fun i=>lR i.1) (fun i=>i.1.bills.length≤256∧∀b∈i.1.bills,inB b) (fun i=>Y3 (HJ i.1.bills i.2)) fun i=>lR i.1
theorem Oh (P:bI) (hn:bK P 69 (T4 190 lN)):bO P Xy Ui:=by
 intro args H K hc;obtain⟨⟨⟨carrier,L⟩,who⟩,rfl,rfl,hp,hK⟩:=hc;refine⟨cM,?_⟩;dsimp only at hp hK⊢;have hd:HJ L who=match gR L (lN who) with
  |[]=>(⟨⟨[]⟩⟩,false)
  |n :: _=>(n,true):=rfl
 obtain⟨d,hdd⟩:∃d,d=HJ L who:=⟨_,rfl⟩
 obtain⟨l,hl⟩:∃l,l=gR L (lN who):=⟨_,rfl⟩
 rw[←hdd]at hK hd;rw[←hl]at hd;cbv
 (refine fW hn ((⟨carrier,L⟩:Rg),who) [0,1,2] hp ?_;try dsimp only)
 rw[←hl];cases l with
 |nil=>
  cbv;repeat'((first|refine .y fun h=>?_|refine .k fun z hz=>?_|fail)<;>cbv)
  obtain rfl:=hd
  (refine .q9 ?_;cbv;exact .inl (.f9 hK))
 |cons x l=>
  dsimp only at hd;obtain rfl:=hd;cbv;repeat'((first|refine .n fun h=>?_|refine .k fun z hz=>?_|fail)<;>cbv)
  refine tE (f:=AV.str) (L:=x :: l) (i:=0) rfl ?_;cbv
  (refine .q9 ?_;cbv;exact .inl (.f9 hK))
def iP (s:bH):AV×AV:=(.str s,.bl true)
theorem Cp (s:bH):∀(L:List bH) (i:Nat),oQ (.str s) (bJ iP L) i=some ((lM id L s).map (· + i))
 |[],i=>rfl
 |x :: L,i=>by
  have e:bJ iP (x :: L)=(.str x,.bl true) :: bJ iP L:=rfl;rw[e];unfold oQ lM;rw[List.findIdx?_cons];by_cases h:x=s
  ·have h2:mQ (.str s) (.str x)=some true:=congrArg some ((MapKept.bytes_beq _ _).2 h.symm);simp only[h2];simp[h]
  ·have h3:¬s=x:=fun e=>h e.symm
   have h2:mQ (.str s) (.str x)=some false:=congrArg some (Bool.eq_false_iff.2 fun hb=>h3 ((MapKept.bytes_beq _ _).1 hb));simp only[h2,Cp s L (i+1),h,id,decide_false,aZ,if_false,Option.map_map,lM];congr 1;cases (L.findIdx? fun a=>decide (a=s)) with
   |none=>rfl
   |some n=>simp;omega
theorem oO {s:bH}{L:List bH}{K:Option (Nat×AV)→Prop}(hs:∀i,lM id L s=some i→K (some (i,.bl true))) (hn:lM id L s=none→K none):qL (.str s) (bJ iP L) K:=by
 refine⟨?_⟩;have hf:=Cp s L 0;cases h:lM id L s with
 |some i=>
  obtain⟨y,hy,_⟩:=eL h;exact .inl ⟨i,_,_,by rw[hf,h];rfl,by rw[dX,aD,hy];rfl,hs i h⟩
 |none=>exact .inr ⟨by rw[hf,h];rfl,hn h⟩
def Ed (L:List bH) (s:bH):Bool:=(lM id L s).isSome
def nV (ahead:List bH):List bH→Bool
 |[]=>true
 |b :: r=>(lK b && !Ed ahead b) && nV (ahead++[b]) r
theorem FM {c:List bH}{k:Nat}{b:bH}(hb:c[k]?=some b):nV (c.take k) (c.drop k)=((lK b && !Ed (c.take k) b) && nV (c.take (k+1)) (c.drop (k+1))):=by
 obtain⟨hk,rfl⟩:=aA.1 hb;rw[List.drop_eq_getElem_cons hk,nV,List.take_succ_eq_append_getElem hk]
theorem BM {c:List bH}{k:Nat}(hk:k=c.length):nV (c.take k) (c.drop k)=true:=by
 rw[List.drop_eq_nil_of_le (by omega),nV]
def yJ (carrier:bH):Bl→Bool
 |⟨number,car,shipper,frm,to,boxes,parents,issued,_⟩=>
  ((bT number && bT shipper) && (bT frm && bT to)) && ((decide (car=carrier) && gM issued) && ((decide (1≤boxes.length∧boxes.length≤64∧parents.length≤64)) && (nV [] boxes && !(parents.any fun s=>!bT s))))
def SJ:dO:=spec (fun i:Rg×Bl=>[.ptr 0 0,Ke i.2]) (fun i=>lR i.1) (fun i=>yF i.2) (fun i=>.bl (yJ i.1.carrier i.2)) fun i=>lR i.1
theorem Md (P:bI) (hn:bK P 144 (iR (fun _=>True) bT)) (hr:bK P 187 (iR (fun _=>True) lK)) (hd:bK P 109 D7) (hc:bK P 152 (Nw 188 fun s=>!bT s)):bO P Xj SJ:=by
 intro args H K hc;obtain⟨⟨⟨carrier,L⟩,b⟩,rfl,rfl,hp,hK⟩:=hc;refine⟨cM,?_⟩;dsimp only at hp hK⊢;unfold yF at hp;obtain⟨nq1,cq1,sq1,frm1,to1,bq1,pq1,iq1,lq1⟩:=b;obtain⟨q,hq⟩:∃q,q=yJ carrier ⟨nq1,cq1,sq1,frm1,to1,bq1,pq1,iq1,lq1⟩:=⟨_,rfl⟩
 rw[←hq]at hK;unfold yJ at hq;dsimp only at hq hp;obtain⟨n1,hn1⟩:∃q,q=bT nq1:=⟨_,rfl⟩
 obtain⟨n2,hn2⟩:∃q,q=bT sq1:=⟨_,rfl⟩
 obtain⟨n3,hn3⟩:∃q,q=bT frm1:=⟨_,rfl⟩
 obtain⟨n4,hn4⟩:∃q,q=bT to1:=⟨_,rfl⟩
 obtain⟨n5,hn5⟩:∃q,q=gM iq1:=⟨_,rfl⟩
 obtain⟨n6,hn6⟩:∃q,q=(pq1.any fun s=>!bT s):=⟨_,rfl⟩
 obtain⟨n7,hn7⟩:∃q,q=nV (bq1.take 0) (bq1.drop 0):=⟨_,rfl⟩
 have hn7':nV [] bq1=n7:=hn7.symm;rw[←hn1,←hn2,←hn3,←hn4,←hn5,←hn6,hn7']at hq;clear hn7';cbv
 (refine ZN hn nq1 trivial ?_;try dsimp only)
 rw[←hn1];cases n1 with
 |false=>
  cbv
  (refine .q9 ?_;cbv;exact .inl (.f9 (cF hK (by rw[hq];rfl))))
 |true=>
 cbv
 (refine ZN hn sq1 trivial ?_;try dsimp only)
 rw[←hn2];cases n2 with
 |false=>
  cbv
  (refine .q9 ?_;cbv;exact .inl (.f9 (cF hK (by rw[hq];rfl))))
 |true=>
 cbv
 (refine ZN hn frm1 trivial ?_;try dsimp only)
 rw[←hn3];cases n3 with
 |false=>
  cbv
  (refine .q9 ?_;cbv;exact .inl (.f9 (cF hK (by rw[hq];rfl))))
 |true=>
 cbv
 (refine ZN hn to1 trivial ?_;try dsimp only)
 rw[←hn4];cases n4 with
 |false=>
  cbv
  (refine .q9 ?_;cbv;exact .inl (.f9 (cF hK (by rw[hq];rfl))))
 |true=>
 cbv;repeat'((first|refine .mk (fun h=>?_) fun h=>?_|fail)<;>cbv)
 rotate_left
 ·(refine .q9 ?_;cbv;exact .inl (.f9 (cF hK (by rw[hq,aG h];rfl))))
 ·rw[aH h]at hq
  (refine ZN hd iq1 trivial ?_;try dsimp only)
  rw[←hn5];cases n5 with
  |false=>
   cbv
   (refine .q9 ?_;cbv;exact .inl (.f9 (cF hK (by rw[hq];rfl))))
  |true=>
  cbv;repeat'((first|refine .mk (fun h=>?_) fun h=>?_|refine .k fun z hz=>?_|fail)<;>cbv)
  ·(refine .q9 ?_;cbv;exact .inl (.f9 (cF hK (by rw[hq,aG bQ];rfl))))
  ·(refine .q9 ?_;cbv;exact .inl (.f9 (cF hK (by rw[hq,aG bQ];rfl))))
  ·(refine .q9 ?_;cbv;exact .inl (.f9 (cF hK (by rw[hq,aG bQ];rfl))))
  ·rw[aH bQ]at hq;refine bS [] (fun q:{ k:Nat // k≤bq1.length∧n7=nV (bq1.take k) (bq1.drop k) }=>[(66,.i (nI q.1))]) (fun q=>[.blk 122 [.str carrier,.ph 1],.pool 120 (bJ fO L) [],.blk 79 [.str nq1,.str cq1,.str sq1,.str frm1,.str to1,.sl 1 (bJ .str bq1),.sl 1 (bJ .str pq1),.i iq1,.bl lq1],.map 70 (bJ iP (bq1.take q.1))]) (fun q=>fE 5001 q.1) ⟨0,aI _,hn7⟩ ?_;rintro ⟨k,hk,hb7⟩;dsimp only at hk hb7⊢;cbv;repeat'((first|refine .mk (fun h=>?_) fun h=>?_|fail)<;>cbv)
   ·refine cR bQ bQ fun i x hi hx=>?_
    obtain rfl:k=i:=bQ;have hg:=FM hx;obtain⟨m,hm⟩:∃m,m=lK x:=⟨_,rfl⟩
    rw[←hm]at hg;cbv
    (refine ZN hr x trivial ?_;try dsimp only)
    rw[←hm];cases m with
    |false=>
     rw[hb7,hg]at hq;cbv
     (refine .q9 ?_;cbv;exact .inl (.f9 (cF hK (by rw[hq];rfl))))
    |true=>
     cbv;refine oO (fun j hj=>?_) (fun hj=>?_)
     ·have hh:Ed (bq1.take k) x=true:=by unfold Ed;rw[hj];rfl
      rw[hb7,hg,hh]at hq;cbv
      (refine .q9 ?_;cbv;exact .inl (.f9 (cF hK (by rw[hq];rfl))))
     ·have hh:Ed (bq1.take k) x=false:=by unfold Ed;rw[hj];rfl
      rw[hh]at hg;cbv;refine oO (fun j hj2=>?_) (fun _=>?_)
      ·rw[hj]at hj2;cases hj2
      cbv;repeat'((first|refine .k fun z hz=>?_|refine .ms fun ms hms=>?_|fail)<;>cbv)
      obtain rfl:ms=bJ iP (bq1.take (k+1)):=by
       rw[cY hx,cB,cE];exact hms
      obtain rfl:z=nI (k+1):=bQ;exact bM ⟨k+1,by exact bQ,hb7.trans hg⟩ (bN bQ)
   ·obtain rfl:k=bq1.length:=bQ;rw[BM rfl]at hb7;subst hb7
    (refine ZN hc pq1 bQ ?_;try dsimp only)
    rw[←hn6];cases n6 with
    |false=>
     cbv
     (refine .q9 ?_;cbv;exact .inl (.f9 (cF hK (by rw[hq];rfl))))
    |true=>
     cbv
     (refine .q9 ?_;cbv;exact .inl (.f9 (cF hK (by rw[hq];rfl))))
structure oV where
 R:Rg
 b:Bl
 holder:bH
def uJ (i:oV):List cG:=lR i.R++[.blk 45 [.ptr 0 0],.blk 79 (Yu i.b),.blk 9 [.str i.holder]]
structure Db (i:oV):Prop where
 few:i.R.bills.length≤256
 all:∀b∈i.R.bills,inB b
 ok:yF i.b
def yD (args:List AV) (p:oV→Bool):dO:=spec (fun _:oV=>args) uJ Db (fun i=>.bl (p i)) uJ
def i1 (i:oV):Bool:=!yJ i.R.carrier i.b || !bT i.holder
def i2 (i:oV):Bool:=(qK i.R.bills i.b.number).isSome
def DD (i:oV) (box:bH):Bool:=(HJ i.R.bills box).2
def i3 (i:oV):Bool:=i.b.boxes.any (DD i)
def i4 (i:oV):Bool:=decide (256≤i.R.bills.length)
theorem Ly (P:bI) (hm:bK P 149 SJ) (hn:bK P 144 (iR (fun _=>True) bT)):bO P Xi (yD [.ptr 2 0,.ptr 3 0,.ptr 4 0] i1):=by
 intro args H K hc;obtain⟨⟨⟨carrier,L⟩,b,holder⟩,rfl,rfl,hp,hK⟩:=hc;refine⟨cM,?_⟩;dsimp only at hp hK⊢;obtain⟨_,_,hok⟩:=hp;unfold i1 at hK;dsimp only at hK hok;obtain⟨n1,hn1⟩:∃q,q=yJ carrier b:=⟨_,rfl⟩
 obtain⟨n2,hn2⟩:∃q,q=bT holder:=⟨_,rfl⟩
 rw[←hn1,←hn2]at hK;obtain⟨nq1,cq1,sq1,frm1,to1,bq1,pq1,iq1,lq1⟩:=b;cbv
 (refine fW hm ((⟨carrier,L⟩:Rg),⟨nq1,cq1,sq1,frm1,to1,bq1,pq1,iq1,lq1⟩) [0,1] hok ?_;try dsimp only)
 rw[←hn1];cases n1 with
 |false=>
  cbv
  (refine .q9 ?_;cbv;exact .inl (.f9 hK))
 |true=>
  cbv
  (refine ZN hn holder trivial ?_;try dsimp only)
  rw[←hn2];cases n2 with
  |false=>
   cbv
   (refine .q9 ?_;cbv;exact .inl (.f9 hK))
  |true=>
   cbv
   (refine .q9 ?_;cbv;exact .inl (.f9 hK))
theorem Ld (P:bI):bO P Xu (yD [.ptr 2 0,.ptr 3 0] i2):=by
 intro args H K hc;obtain⟨⟨⟨carrier,L⟩,b,holder⟩,rfl,rfl,hp,hK⟩:=hc;refine⟨cM,?_⟩;dsimp only at hp hK⊢;unfold i2 at hK;dsimp only at hK;obtain⟨n1,hn1⟩:∃q,q=(qK L b.number).isSome:=⟨_,rfl⟩
 rw[←hn1]at hK;obtain⟨nq1,cq1,sq1,frm1,to1,bq1,pq1,iq1,lq1⟩:=b;cbv;refine fB (fun b:Br=>b.b.number) (fun _=>rfl) (fun i y hai hy hky=>?_) (fun hai=>?_)<;>dsimp only at *
 ·have hn2:n1=true:=by rw[hn1];unfold qK;rw[hai];rfl
  obtain⟨⟨nq2,cq2,sq2,frm2,to2,bq2,pq2,iq2,lq2⟩,st2,⟨sa2,ha2,ca2⟩,⟨sb2,hb2,cb2⟩,⟨sc2,hc2,cc2⟩⟩:=y;cbv
  (refine .r9 (Gh.back0 1 [5,6,7,8] fO rfl hy) ?_;cbv;exact .inl (.f9 (cF hK hn2.symm)))
 ·have hn2:n1=false:=by rw[hn1];unfold qK;rw[hai];rfl
  cbv
  (refine .q9 ?_;cbv;exact .inl (.f9 (cF hK hn2.symm)))
theorem HX (P:bI) (hb:bK P 154 Ui):bO P WR (spec (fun i:oV×bH=>[.str i.2,.ptr 2 0]) (fun i=>uJ i.1) (fun i=>Db i.1) (fun i=>.bl (DD i.1 i.2)) fun i=>uJ i.1):=by
 intro args H K hc;obtain⟨⟨⟨⟨carrier,L⟩,b,holder⟩,box⟩,rfl,rfl,hp,hK⟩:=hc;refine⟨cM,?_⟩;dsimp only at hp hK⊢;obtain⟨hfew,hall,hok⟩:=hp;dsimp only at hfew hall;unfold DD at hK;dsimp only at hK;obtain⟨⟨s,f⟩,hn1⟩:∃q,q=HJ L box:=⟨_,rfl⟩
 rw[←hn1]at hK;obtain⟨nq1,cq1,sq1,frm1,to1,bq1,pq1,iq1,lq1⟩:=b;cbv
 (refine fW hb ((⟨carrier,L⟩:Rg),box) [0,1] ⟨hfew,hall⟩ ?_;try dsimp only)
 rw[←hn1];cbv
 (refine .q9 ?_;cbv;exact .inl (.f9 hK))
theorem Lf (P:bI):bO P Wx (yD [.ptr 2 0] i4):=by
 intro args H K hc;obtain⟨⟨⟨carrier,L⟩,b,holder⟩,rfl,rfl,hp,hK⟩:=hc;refine⟨cM,?_⟩;dsimp only at hp hK⊢;unfold i4 at hK;dsimp only at hK;obtain⟨n,hn⟩:∃n:Nat,n=L.length:=⟨_,rfl⟩
 rw[←hn]at hK;obtain⟨nq1,cq1,sq1,frm1,to1,bq1,pq1,iq1,lq1⟩:=b;cbv;repeat'((first|refine .mk (fun h=>?_) fun h=>?_|refine .k fun z hz=>?_|fail)<;>cbv)
 ·(refine .q9 ?_;cbv;exact .inl (.f9 (cF hK (aH bQ).symm)))
 ·(refine .q9 ?_;cbv;exact .inl (.f9 (cF hK (aG bQ).symm)))
def WY:dO:=spec (fun i:oV×bH=>[.str i.2,.ptr 2 0]) (fun i=>uJ i.1) (fun i=>Db i.1) (fun i=>.bl (DD i.1 i.2)) fun i=>uJ i.1
def Pa:dO:=spec (fun i:oV=>[.sl 1 (bJ .str i.b.boxes),.clo 153 [.ptr 2 0]]) uJ Db (fun i=>.i (yN (DD i) i.b.boxes)) uJ
theorem Lh (P:bI) (hm:dH P 153) (hf:bK P 153 WY):bO P UV Pa:=by
 intro args H K hc;obtain⟨i,rfl,rfl,hp,hK⟩:=hc;obtain⟨p,hpp⟩:∃p,p=DD i:=⟨_,rfl⟩
 have hok:=hp.ok;dsimp only at hK;rw[←hpp]at hK;obtain⟨⟨carrier,L⟩,b,holder⟩:=i;unfold yF at hok;obtain⟨nq1,cq1,sq1,frm1,to1,bq1,pq1,iq1,lq1⟩:=b;refine⟨cM,?_⟩;dsimp only at hok hK⊢;cbv;repeat'((first|refine .k fun z hz=>?_|fail)<;>cbv)
 refine bS [] (fun q:{ k:Nat // k≤bq1.length∧nG p bq1 k }=>[(8,.i (nI q.1))]) (fun _=>uJ ⟨⟨carrier,L⟩,⟨nq1,cq1,sq1,frm1,to1,bq1,pq1,iq1,lq1⟩,holder⟩) (fun q=>fE 5001 q.1) ⟨0,aI _,.zero⟩ ?_;rintro ⟨k,hk,hn⟩;dsimp only at hk hn⊢;cbv;repeat'((first|refine .mk (fun h=>?_) fun h=>?_|fail)<;>cbv)
 ·refine cR bQ bQ fun j x hi hx=>?_
  obtain rfl:k=j:=bQ;cbv;repeat'((first|refine And.intro ?_ ?_|fail)<;>cbv)
  ·exact hm
  ·obtain⟨b,hb⟩:∃b,b=p x:=⟨_,rfl⟩
   (refine fW hf ((⟨⟨carrier,L⟩,⟨nq1,cq1,sq1,frm1,to1,bq1,pq1,iq1,lq1⟩,holder⟩:oV),x) [0,1,2,3,4] hp ?_;try dsimp only)
   rw[←hpp,←hb];cases b with
   |true=>
    cbv
    (refine .q9 ?_;cbv;exact .inl (.f9 (fU hK (by rw[Eg hn hx hb.symm]))))
   |false=>
    cbv;repeat'((first|refine .k fun z hz=>?_|fail)<;>cbv)
    obtain rfl:z=nI (k+1):=bQ;exact bM ⟨k+1,by exact bQ,hn.succ hx hb.symm⟩ (bN bQ)
 ·obtain rfl:k=bq1.length:=bQ
  (refine .q9 ?_;cbv;exact .inl (.f9 (fU hK (by rw[wI hn]))))
def Ot:dO:=spec (fun i:oV=>[.sl 1 (bJ .str i.b.boxes),.clo 153 [.ptr 2 0]]) uJ Db (fun i=>.bl (i3 i)) uJ
theorem JQ (P:bI) (hi:bK P 189 Pa):bO P Vb Ot:=by
 intro args H K hc;obtain⟨i,rfl,rfl,hp,hK⟩:=hc;unfold i3 at hK;dsimp only at hK;rw[←A4]at hK;obtain⟨e,he⟩:∃e,e=yN (DD i) i.b.boxes:=⟨_,rfl⟩
 rw[←he]at hK;obtain⟨⟨carrier,L⟩,b,holder⟩:=i;obtain⟨nq1,cq1,sq1,frm1,to1,bq1,pq1,iq1,lq1⟩:=b;refine⟨cM,?_⟩;dsimp only at hK⊢;cbv
 (refine fW hi (⟨⟨carrier,L⟩,⟨nq1,cq1,sq1,frm1,to1,bq1,pq1,iq1,lq1⟩,holder⟩:oV) [0,1,2,3,4] hp ?_;try dsimp only)
 rw[←he];cbv;repeat'((first|refine .mk (fun h=>?_) fun h=>?_|fail)<;>cbv)
 ·(refine .q9 ?_;cbv;exact .inl (.f9 (cF hK (by rw[aH h]))))
 ·(refine .q9 ?_;cbv;exact .inl (.f9 (cF hK (by rw[aG (by omega)]))))
theorem LF (P:bI) (hc:bK P 152 Ot):bO P XU (yD [.ptr 3 0,.ptr 2 0] i3):=by
 intro args H K hk;obtain⟨i,rfl,rfl,hp,hK⟩:=hk;obtain⟨q,hq⟩:∃q,q=i3 i:=⟨_,rfl⟩
 dsimp only at hK;rw[←hq]at hK;obtain⟨⟨carrier,L⟩,b,holder⟩:=i;obtain⟨nq1,cq1,sq1,frm1,to1,bq1,pq1,iq1,lq1⟩:=b;refine⟨cM,?_⟩;dsimp only at hK⊢;cbv
 (refine fW hc (⟨⟨carrier,L⟩,⟨nq1,cq1,sq1,frm1,to1,bq1,pq1,iq1,lq1⟩,holder⟩:oV) [0,1,2,3,4] hp ?_;try dsimp only)
 rw[←hq];cbv
 (refine .q9 ?_;cbv;exact .inl (.f9 hK))
def gQ (i:oV):Int:=if i1 i then 1 else if i2 i then 5 else if i3 i then 9 else if i4 i then 7 else 0
def Wg:List AV:=[.i 1,.clo 148 [.ptr 2 0,.ptr 3 0,.ptr 4 0],.i 5,.clo 150 [.ptr 2 0,.ptr 3 0],.i 9,.clo 151 [.ptr 3 0,.ptr 2 0],.i 7,.clo 155 [.ptr 2 0]]
def Nc (i:oV):List cG:=uJ i++[.hrow 210 2 4 Wg]
def Pf:dO:=spec (fun _:oV=>[.hd 5]) Nc Db (fun i=>.i (gQ i)) Nc
structure XY (P:bI):Prop where
 m1:dH P 148
 m2:dH P 150
 m3:dH P 151
 m4:dH P 155
 f1:bK P 148 (yD [.ptr 2 0,.ptr 3 0,.ptr 4 0] i1)
 f2:bK P 150 (yD [.ptr 2 0,.ptr 3 0] i2)
 f3:bK P 151 (yD [.ptr 3 0,.ptr 2 0] i3)
 f4:bK P 155 (yD [.ptr 2 0] i4)
theorem FI (P:bI) (F:XY P):bO P Tr Pf:=by
 intro args H K hc;obtain⟨i,rfl,rfl,hp,hK⟩:=hc;dsimp only at hK;have he:gQ i=if i1 i then 1 else if i2 i then 5 else if i3 i then 9 else if i4 i then 7 else 0:=rfl
 obtain⟨e,hee⟩:∃e,e=gQ i:=⟨_,rfl⟩
 rw[←hee]at hK he;obtain⟨q1,hq1⟩:∃q,q=i1 i:=⟨_,rfl⟩
 obtain⟨q2,hq2⟩:∃q,q=i2 i:=⟨_,rfl⟩
 obtain⟨q3,hq3⟩:∃q,q=i3 i:=⟨_,rfl⟩
 obtain⟨q4,hq4⟩:∃q,q=i4 i:=⟨_,rfl⟩
 rw[←hq1,←hq2,←hq3,←hq4]at he;obtain⟨⟨carrier,L⟩,b,holder⟩:=i;obtain⟨nq1,cq1,sq1,frm1,to1,bq1,pq1,iq1,lq1⟩:=b;refine⟨cM,?_⟩;dsimp only at hK⊢;cbv;refine bS [] (fun p:{ k:Nat // k≤4∧(1≤k→q1=false)∧(2≤k→q2=false)∧(3≤k→q3=false)∧(4≤k→q4=false) }=>[(7,.i (nI p.1))]) (fun _=>Nc ⟨⟨carrier,L⟩,⟨nq1,cq1,sq1,frm1,to1,bq1,pq1,iq1,lq1⟩,holder⟩) (fun p=>fE 4 p.1) ⟨0,by decide,fun h=>absurd h (by decide),fun h=>absurd h (by decide),fun h=>absurd h (by decide),fun h=>absurd h (by decide)⟩ ?_;rintro ⟨k,hk,g1,g2,g3,g4⟩;dsimp only at hk g1 g2 g3 g4⊢;have hk4:k=0∨k=1∨k=2∨k=3∨k=4:=by omega
 rcases hk4 with rfl|rfl|rfl|rfl|rfl
 ·cbv;repeat'((first|refine .y fun h=>?_|refine .o ?_|refine And.intro ?_ ?_|fail)<;>cbv)
  ·exact F.m1
  ·have e0:True:=trivial
   (refine fW F.f1 (⟨⟨carrier,L⟩,⟨nq1,cq1,sq1,frm1,to1,bq1,pq1,iq1,lq1⟩,holder⟩:oV) [0,1,2,3,4] hp ?_;try dsimp only)
   rw[←hq1];cases q1 with
   |true=>
    cbv
    (refine .q9 ?_;cbv;exact .inl (.f9 (fU hK (by rw[he];rfl))))
   |false=>
    cbv;repeat'((first|refine .k fun z hz=>?_|fail)<;>cbv)
    obtain rfl:z=nI 1:=bQ;exact bM ⟨1,by decide,fun _=>rfl,fun h=>absurd h (by decide),fun h=>absurd h (by decide),fun h=>absurd h (by decide)⟩ (bN (by decide))
 ·cbv;repeat'((first|refine .y fun h=>?_|refine .o ?_|refine And.intro ?_ ?_|fail)<;>cbv)
  ·exact F.m2
  ·have e0:True:=trivial;have e1:=g1 (by decide)
   (refine fW F.f2 (⟨⟨carrier,L⟩,⟨nq1,cq1,sq1,frm1,to1,bq1,pq1,iq1,lq1⟩,holder⟩:oV) [0,1,2,3,4] hp ?_;try dsimp only)
   rw[←hq2];cases q2 with
   |true=>
    cbv
    (refine .q9 ?_;cbv;exact .inl (.f9 (fU hK (by rw[he,e1];rfl))))
   |false=>
    cbv;repeat'((first|refine .k fun z hz=>?_|fail)<;>cbv)
    obtain rfl:z=nI 2:=bQ;exact bM ⟨2,by decide,fun _=>g1 (by decide),fun _=>rfl,fun h=>absurd h (by decide),fun h=>absurd h (by decide)⟩ (bN (by decide))
 ·cbv;repeat'((first|refine .y fun h=>?_|refine .o ?_|refine And.intro ?_ ?_|fail)<;>cbv)
  ·exact F.m3
  ·have e0:True:=trivial;have e1:=g1 (by decide);have e2:=g2 (by decide)
   (refine fW F.f3 (⟨⟨carrier,L⟩,⟨nq1,cq1,sq1,frm1,to1,bq1,pq1,iq1,lq1⟩,holder⟩:oV) [0,1,2,3,4] hp ?_;try dsimp only)
   rw[←hq3];cases q3 with
   |true=>
    cbv
    (refine .q9 ?_;cbv;exact .inl (.f9 (fU hK (by rw[he,e1,e2];rfl))))
   |false=>
    cbv;repeat'((first|refine .k fun z hz=>?_|fail)<;>cbv)
    obtain rfl:z=nI 3:=bQ;exact bM ⟨3,by decide,fun _=>g1 (by decide),fun _=>g2 (by decide),fun _=>rfl,fun h=>absurd h (by decide)⟩ (bN (by decide))
 ·cbv;repeat'((first|refine .y fun h=>?_|refine .o ?_|refine And.intro ?_ ?_|fail)<;>cbv)
  ·exact F.m4
  ·have e0:True:=trivial;have e1:=g1 (by decide);have e2:=g2 (by decide);have e3:=g3 (by decide)
   (refine fW F.f4 (⟨⟨carrier,L⟩,⟨nq1,cq1,sq1,frm1,to1,bq1,pq1,iq1,lq1⟩,holder⟩:oV) [0,1,2,3,4] hp ?_;try dsimp only)
   rw[←hq4];cases q4 with
   |true=>
    cbv
    (refine .q9 ?_;cbv;exact .inl (.f9 (fU hK (by rw[he,e1,e2,e3];rfl))))
   |false=>
    cbv;repeat'((first|refine .k fun z hz=>?_|fail)<;>cbv)
    obtain rfl:z=nI 4:=bQ;exact bM ⟨4,by decide,fun _=>g1 (by decide),fun _=>g2 (by decide),fun _=>g3 (by decide),fun _=>rfl⟩ (bN (by decide))
 ·have e1:=g1 (by decide);have e2:=g2 (by decide);have e3:=g3 (by decide);have e4:=g4 (by decide);cbv;repeat'((first|refine .n fun h=>?_|fail)<;>cbv)
  (refine .q9 ?_;cbv;exact .inl (.f9 (fU hK (by rw[he,e1,e2,e3,e4];rfl))))
theorem dE {M:Nat}{res:List CO}{K:AV→List cG→Prop}{st st1:St}(hg:Gh M st st1) (h:bW M res K st1):bW M res K st:=by
 obtain⟨st',h1,h2⟩:=h;exact⟨⟨st',hg.trans h1,h2⟩⟩
theorem oK {α:Type}{f:α→AR}{L:List α}(key:α→bH) (hf:∀a,(f a).1=.str (key a)) {s:bH}{outs:List (Nat×AV)}{v:AV}{K:List AR→List (Nat×AV)→Prop}(ha:lM key L s=none) (h:∀es n,es=bJ f L++[(.str s,.any,[])]→n=L.length→K es ((n,v) :: outs)):Qx (.str s) (bJ f L) outs v K:=
 NE key hf ha (h _ _ rfl rfl)
theorem Gh.backN2 {α:Type}{M:Nat}{st:St}(k:Nat) (sel:List Nat) (f:α→AR) {L L':List α}(y:α) {es:List AR}{n:Nat}{t:TypeId}{x:AV}(hes:es=bJ f L++[((f y).1,.any,[])]) (hn:n=L.length) (hL':L'=L++[y]) (hk:st.H[k]?=some (.pool t es [(n,x)]):=by rfl)
  (hx:x=(f y).2.1.ren sel 0:=by rfl) (hH:sel.map (fun q=>st.H[q]?)=(gH sel 0 (f y).2.2).map some:=by rfl) (hnd:sel.Nodup:=by decide) (hsel:sel.all (fun q=>Nat.ble M q && q != k)=true:=by decide) (hb:(f y).2.1.bnd sel.length=true:=by rfl) (hbH:fH sel.length (f y).2.2=true:=by rfl) (hpl:(f y).2.2.all vR=true:=by rfl) :
  Gh M st ⟨iX st.T sel,Bp (gP (st.H.set k (.pool t (bJ f L') [])) sel) sel⟩:=by
 subst hes hn hL';exact Gh.backN k sel f y hk rfl hx hH hnd hsel hb hbH hpl
def So (b:Bl) (holder:bH):Br:=⟨b,0,⟨0,holder,[]⟩,⟨0,holder,[]⟩,⟨0,holder,[]⟩⟩
def kD (i:oV):Rg:=if gQ i=0 then ⟨i.R.carrier,i.R.bills++[So i.b i.holder]⟩ else i.R
def HB:dO:=spec (fun i:oV=>[.ptr 0 0,Ke i.b,.str i.holder]) (fun i=>lR i.R) Db (fun i=>.i (gQ i)) fun i=>lR (kD i)
theorem Iz (P:bI) (hf:bK P 105 Pf) (hcp:bK P 54 GZ):bO P X5 HB:=by
 intro args H K hc;obtain⟨i,rfl,rfl,hp,hK⟩:=hc;dsimp only at hK;have hok:=hp.ok;obtain⟨e,he⟩:∃e,e=gQ i:=⟨_,rfl⟩
 obtain⟨R',hR'⟩:∃R',R'=kD i:=⟨_,rfl⟩
 rw[←he,←hR']at hK;unfold kD at hR';rw[←he]at hR';have hi2:e=0→i2 i=false:=fun h=>by
  rw[h]at he;unfold gQ at he;cases h2:i2 i with
  |false=>rfl
  |true=>
   rw[h2]at he;cases h1:i1 i with
   |false=>rw[h1]at he;simp at he
   |true=>rw[h1]at he;simp at he
 obtain⟨⟨carrier,L⟩,b,holder⟩:=i;dsimp only at hR' hok;obtain⟨nq1,cq1,sq1,frm1,to1,bq1,pq1,iq1,lq1⟩:=b;refine⟨cM,?_⟩;dsimp only at hK⊢;cbv
 (refine fW hf (⟨⟨carrier,L⟩,⟨nq1,cq1,sq1,frm1,to1,bq1,pq1,iq1,lq1⟩,holder⟩:oV) [0,1,2,3,4,5] hp ?_;try dsimp only)
 rw[←he];cbv;repeat'((first|refine .mk (fun h=>?_) fun h=>?_|fail)<;>cbv)
 ·rw[aF h]at hR';rw[h]at hK;have hn2:=hi2 h;unfold i2 at hn2;dsimp only at hn2
  (refine ZN hcp ⟨nq1,cq1,sq1,frm1,to1,bq1,pq1,iq1,lq1⟩ hok ?_;try dsimp only)
  cbv;refine bS [] (fun p:{ k:Nat // k≤3 }=>[(27,.i (nI p.1))]) (fun p=>[.blk 122 [.str carrier,.ph 1],.pool 120 (bJ fO L) [],.blk 45 [.ptr 0 0],.blk 79 [.str nq1,.str cq1,.str sq1,.str frm1,.str to1,.sl 1 (bJ .str bq1),.sl 1 (bJ .str pq1),.i iq1,.bl lq1],.blk 9 [.str holder],.hrow 210 2 4 Wg,.blk 127 (fZ p.1 [.str nq1,.str cq1,.str sq1,.str frm1,.str to1,.sl 1 (bJ .str bq1),.sl 1 (bJ .str pq1),.i iq1,.bl lq1,.i 0,.i 0,.str ⟨⟨[]⟩⟩,.v (.slice none 0 0),.i 0,.str ⟨⟨[]⟩⟩,.v (.slice none 0 0),.i 0,.str ⟨⟨[]⟩⟩,.v (.slice none 0 0)] [.str nq1,.str cq1,.str sq1,.str frm1,.str to1,.sl 1 (bJ .str bq1),.sl 1 (bJ .str pq1),.i iq1,.bl lq1,.i 0,.i 0,.str holder,.v (.slice none 0 0),.i 0,.str ⟨⟨[]⟩⟩,.v (.slice none 0 0),.i 0,.str ⟨⟨[]⟩⟩,.v (.slice none 0 0)] [.str nq1,.str cq1,.str sq1,.str frm1,.str to1,.sl 1 (bJ .str bq1),.sl 1 (bJ .str pq1),.i iq1,.bl lq1,.i 0,.i 0,.str holder,.v (.slice none 0 0),.i 0,.str holder,.v (.slice none 0 0),.i 0,.str ⟨⟨[]⟩⟩,.v (.slice none 0 0)] [.str nq1,.str cq1,.str sq1,.str frm1,.str to1,.sl 1 (bJ .str bq1),.sl 1 (bJ .str pq1),.i iq1,.bl lq1,.i 0,.i 0,.str holder,.v (.slice none 0 0),.i 0,.str holder,.v (.slice none 0 0),.i 0,.str holder,.v (.slice none 0 0)])]) (fun p=>fE 3 p.1) ⟨0,by decide⟩ ?_;rintro ⟨k,hk⟩;dsimp only at hk⊢;have hk4:k=0∨k=1∨k=2∨k=3:=by omega
  rcases hk4 with rfl|rfl|rfl|rfl
  ·cbv;repeat'((first|refine .n fun h=>?_|refine .y fun h=>?_|refine .k fun z hz=>?_|refine .o ?_|fail)<;>cbv)
   obtain rfl:z=nI 1:=bQ;exact bM ⟨1,by decide⟩ (bN (by decide))
  ·cbv;repeat'((first|refine .n fun h=>?_|refine .y fun h=>?_|refine .k fun z hz=>?_|refine .o ?_|fail)<;>cbv)
   obtain rfl:z=nI 2:=bQ;exact bM ⟨2,by decide⟩ (bN (by decide))
  ·cbv;repeat'((first|refine .y fun h=>?_|refine .k fun z hz=>?_|refine .o ?_|fail)<;>cbv)
   obtain rfl:z=nI 3:=bQ;exact bM ⟨3,by decide⟩ (bN (by decide))
  ·cbv;repeat'((first|refine .n fun h=>?_|fail)<;>cbv)
   have hat:lM (fun b:Br=>b.b.number) L nq1=none:=by
    cases hx:lM (fun b:Br=>b.b.number) L nq1 with
    |none=>rfl
    |some j=>
     unfold qK at hn2;rw[hx]at hn2;cases hn2
   refine oK (fun b:Br=>b.b.number) (fun _=>rfl) hat (fun es n hes hn=>?_);cbv;obtain⟨L',hL'⟩:∃L',L'=L++[(⟨⟨nq1,cq1,sq1,frm1,to1,bq1,pq1,iq1,lq1⟩,0,⟨0,holder,[]⟩,⟨0,holder,[]⟩,⟨0,holder,[]⟩⟩:Br)]:=⟨_,rfl⟩
   obtain rfl:R'=⟨carrier,L'⟩:=by rw[hR',hL'];rfl
   refine dE (Gh.adoptC 6 12 180 4 rfl rfl) ?_;cbv;refine dE (Gh.adoptC 6 15 180 4 rfl rfl) ?_;cbv;refine dE (Gh.adoptC 6 18 180 4 rfl rfl) ?_;cbv;refine dE (Gh.publish 7 rfl) ?_;cbv;refine dE (Gh.publish 8 rfl) ?_;cbv;refine dE (Gh.publish 9 rfl) ?_;cbv;refine dE (Gh.backN2 1 [6,7,8,9] fO ⟨⟨nq1,cq1,sq1,frm1,to1,bq1,pq1,iq1,lq1⟩,0,⟨0,holder,[]⟩,⟨0,holder,[]⟩,⟨0,holder,[]⟩⟩ hes hn hL') ?_;cbv
   (refine .q9 ?_;cbv;exact .inl (.f9 hK))
 ·rw[aE h]at hR';subst hR'
  (refine .q9 ?_;cbv;exact .inl (.f9 hK))
set_option maxHeartbeats 4000000
def sG {ι κ:Type}(a:ι→List AV) (h:ι→List cG) (p:ι→Prop) (q:ι→κ→Prop) (r:ι→κ→AV) (h':ι→κ→List cG):dO:=fun args H K=>∃i,args=a i∧H=h i∧p i∧∀k,q i k→K (r i k) (h' i k)
theorem eQ {P:bI}{f:Nat}{ι κ:Type}{a:ι→List AV}{h:ι→List cG}{p:ι→Prop}{q:ι→κ→Prop}{r:ι→κ→AV}{h':ι→κ→List cG}(hf:bK P f (sG a h p q r h')) (i:ι) (sel:List Nat) {keep:List Nat}{args:List AV}{st:St}{K:AV→St→Prop}
  (hp:p i) (ha:args=AV.renL sel st.H.length (a i)) (hlen:sel.length=(h i).length) (hnd:sel.Nodup) (hlt:(sel.all fun k=>Nat.blt k st.H.length)=true) (hH:sel.map (fun k=>st.H[k]?)=(gH sel st.H.length (h i)).map some)
  (hb:AV.bndL (h i).length (a i)=true) (hbH:fH (h i).length (h i)=true) (hkeep:(keep.all fun k=>!sel.contains k && Nat.blt k st.H.length)=true)
  (hK:∀k,q i k→K ((r i k).ren sel st.H.length) ⟨iX st.T (fV sel (h i)),rY (gP st.H (fV sel (h i))) sel (gH sel st.H.length (h' i k))⟩):gA P keep f args st K:=
 uV hf sel ha hlen hnd (fun k hk=>by simpa [Nat.blt_eq]using aT.1 hlt k hk) hH hb hbH (fun k hk=>by
  have:=aT.1 hkeep k hk;simp only[aO,Bool.not_eq_true',Nat.blt_eq]at this;exact⟨fun h=>by rw[List.contains_eq_mem]at this;simp[h]at this,this.2⟩) ⟨i,rfl,rfl,hp,hK⟩
def mE (L:List Br):Prop:=(L.map fun b=>b.b.number).Nodup
theorem sQ {α:Type}{l:List α}(h:l.Nodup) {i j:Nat}{hi:i < l.length}{hj:j < l.length}(e:l[i]=l[j]):i=j:=by
 rcases Nat.lt_trichotomy i j with h1|h1|h1
 ·exact absurd e (List.pairwise_iff_getElem.1 h i j hi hj h1)
 ·exact h1
 ·exact absurd e.symm (List.pairwise_iff_getElem.1 h j i hj hi h1)
set_option maxHeartbeats 2000000
def yR:Br→List AV
 |⟨⟨number,carrier,shipper,frm,to,boxes,parents,issued,clean⟩,st,⟨sa,ha,ca⟩,⟨sb,hb,cb⟩,⟨sc,hc,cc⟩⟩=>
  [.str number,.str carrier,.str shipper,.str frm,.str to,.sl 1 (bJ .str boxes),.sl 1 (bJ .str parents),.i issued,.bl clean,.i st,.sl 3 [.agg [.i sa,.str ha,.sl 4 (bJ bV ca)],.agg [.i sb,.str hb,.sl 4 (bJ bV cb)],.agg [.i sc,.str hc,.sl 4 (bJ bV cc)]]]
def iL (b:Br):AV:=.agg (yR b)
def I8:Rg→AV
 |⟨c,l⟩=>.agg [.str c,.sl 11 (bJ iL l)]
structure At where
 kind:Int
 index:Int
 day:Int
 bill:bH
 by_:bH
 to:bH
 b:Bl
def yM:At→List AV
 |⟨kind,index,day,bill,by_,to,⟨number,carrier,shipper,frm,to2,boxes,parents,issued,clean⟩⟩=>[.i kind,.i index,.i day,.str bill,.str by_,.str to,.str number,.str carrier,.str shipper,.str frm,.str to2,.sl 1 (bJ .str boxes),.sl 1 (bJ .str parents),.i issued,.bl clean]
def Pm (a:At):AV:=.agg (yM a)
def nN {α:Type}(p:α→Bool) (l:List α):Int:=match l.findIdx? p with
 |some i=>Int.ofNat i
 |none=>-1
def iU {α:Type}(p:α→Bool) (l:List α) (k:Nat):Prop:=∀j y,j < k→l[j]?=some y→p y=false
theorem iU.zero {α:Type}{p:α→Bool}{l:List α}:iU p l 0:=fun j y h=>absurd h (Nat.not_lt_zero j)
theorem iU.succ {α:Type}{p:α→Bool}{l:List α}{k:Nat}{x:α}(h:iU p l k) (hx:l[k]?=some x) (hp:p x=false):iU p l (k+1):=fun j y hj hy=>by
 rcases aL j k with h1|h1
 ·exact h j y h1 hy
 ·obtain rfl:j=k:=by omega
  rw[hx]at hy;cases hy;exact hp
theorem Jv {α:Type}{p:α→Bool}{l:List α}{k:Nat}{x:α}(h:iU p l k) (hx:l[k]?=some x) (hp:p x=true):nN p l=Int.ofNat k:=by
 obtain⟨hk,rfl⟩:=aA.1 hx;have e:l.findIdx? p=some k:=List.findIdx?_eq_some_iff_getElem.2 ⟨hk,hp,fun j hj=>by rw[h j _ hj (aB (by omega))];decide⟩;unfold nN;rw[e]
theorem CA {α:Type}{p:α→Bool}{l:List α}(h:iU p l l.length):nN p l=-1:=by
 have e:l.findIdx? p=none:=List.findIdx?_eq_none_iff.2 fun x hx=>by
  obtain⟨j,hj,rfl⟩:=List.mem_iff_getElem.1 hx;exact h j _ hj (aB hj)
 unfold nN;rw[e]
theorem jA {α:Type}{p:α→Bool}{l:List α}(h:iU p l l.length):l.any p=false:=by
 rw[List.any_eq_false];intro x hx;obtain⟨j,hj,rfl⟩:=List.mem_iff_getElem.1 hx;rw[h j _ hj (aB hj)];decide
theorem gJ {α:Type}{p:α→Bool}{l:List α}{k:Nat}{x:α}(hx:l[k]?=some x) (hp:p x=true):l.any p=true:=List.any_eq_true.2 ⟨x,aC hx,hp⟩
theorem Kf (P:bI):bO P XH D7:=by
 intro args H K hc;obtain⟨z,rfl,rfl,hp,hK⟩:=hc;refine⟨cM,?_⟩;dsimp only at hp hK⊢;cbv;repeat'((first|refine .mk (fun h=>?_) fun h=>?_|fail)<;>cbv)
 all_goals exact bW.mk ⟨_,Gh.refl _,.inl (.v9 (cF hK (by(unfold gM;simp;omega))))⟩
def Wo:dO:=spec (fun i:List bH×bH=>[.sl 1 (bJ .str i.1),.str i.2]) (fun _=>[]) (fun i=>i.1.length≤5000) (fun i=>.bl (i.1.any fun x=>decide (i.2=x))) fun _=>[]
theorem PH (P:bI):bO P WC Wo:=by
 intro args H K hc;obtain⟨⟨l,s⟩,rfl,rfl,hp,hK⟩:=hc;refine⟨cM,?_⟩;dsimp only at hp hK⊢;obtain⟨p,hpp⟩:∃p:bH→Bool,p=fun x=>decide (s=x):=⟨_,rfl⟩
 rw[←hpp]at hK;have hpx:∀x,p x=decide (s=x):=fun x=>by rw[hpp]
 clear hpp;cbv;refine bS [] (fun q:{ k:Nat // k≤l.length∧iU p l k }=>[(5,.i (nI q.1))]) (fun _=>[]) (fun q=>fE 5001 q.1) ⟨0,aI _,.zero⟩ ?_;rintro ⟨k,hk,hn⟩;dsimp only at hk hn⊢;cbv;repeat'((first|refine .mk (fun h=>?_) fun h=>?_|refine .k fun z hz=>?_|fail)<;>cbv)
 ·refine cR bQ bQ fun i x hi hx=>?_
  obtain rfl:k=i:=bQ;cbv;repeat'((first|refine .mk (fun h=>?_) fun h=>?_|refine .k fun z hz=>?_|fail)<;>cbv)
  ·exact bW.mk ⟨_,Gh.refl _,.inl (.v9 (cF hK (by(rw[gJ hx ((hpx x).trans (aH h.symm))]))))⟩
  ·obtain rfl:z=nI (k+1):=bQ;exact bM ⟨k+1,by exact bQ,hn.succ hx ((hpx x).trans (aG fun e=>h e.symm))⟩ (bN bQ)
 ·obtain rfl:k=l.length:=bQ;exact bW.mk ⟨_,Gh.refl _,.inl (.v9 (cF hK (by(rw[jA hn]))))⟩
def Hn:dO:=spec (fun l:List bH=>[.sl 1 (bJ .str l)]) (fun _=>[]) (fun l=>l.length≤5000∧∀s∈l,s.size≤maxLen) (fun l=>.bl (!(l.any fun s=>!bT s))) fun _=>[]
theorem Ig (P:bI) (hnm:bK P 133 (iR (fun s=>s.size≤maxLen) bT)):bO P Yp Hn:=by
 intro args H K hc;obtain⟨l,rfl,rfl,hp,hK⟩:=hc;refine⟨cM,?_⟩;dsimp only at hp hK⊢;obtain⟨hp,hsz⟩:=hp;obtain⟨p,hpp⟩:∃p:bH→Bool,p=fun s=>!bT s:=⟨_,rfl⟩
 rw[←hpp]at hK;have hpx:∀x,p x=!bT x:=fun x=>by rw[hpp]
 clear hpp;cbv;refine bS [] (fun q:{ k:Nat // k≤l.length∧iU p l k }=>[(3,.i (nI q.1))]) (fun _=>[]) (fun q=>fE 5001 q.1) ⟨0,aI _,.zero⟩ ?_;rintro ⟨k,hk,hn⟩;dsimp only at hk hn⊢;cbv;repeat'((first|refine .mk (fun h=>?_) fun h=>?_|refine .k fun z hz=>?_|fail)<;>cbv)
 ·refine cR bQ bQ fun i x hi hx=>?_
  obtain rfl:k=i:=bQ;have hx2:=hpx x;obtain⟨n,hn1⟩:∃n,n=bT x:=⟨_,rfl⟩
  rw[←hn1]at hx2;cbv
  (refine ZN hnm x (hsz x (aC hx)) ?_;try dsimp only)
  rw[←hn1];cases n with
  |false=>
   cbv;exact bW.mk ⟨_,Gh.refl _,.inl (.v9 (cF hK (by(rw[gJ hx hx2];rfl))))⟩
  |true=>
   cbv;repeat'((first|refine .k fun z hz=>?_|fail)<;>cbv)
   obtain rfl:z=nI (k+1):=bQ;exact bM ⟨k+1,by exact bQ,hn.succ hx hx2⟩ (bN bQ)
 ·obtain rfl:k=l.length:=bQ;exact bW.mk ⟨_,Gh.refl _,.inl (.v9 (cF hK (by(rw[jA hn];rfl))))⟩
def rA:dO:=spec (fun i:Rg×bH=>[I8 i.1,.str i.2]) (fun _=>[]) (fun i=>i.1.bills.length≤5000) (fun i=>.i (nN (fun b:Br=>decide (b.b.number=i.2)) i.1.bills)) fun _=>[]
theorem KD (P:bI):bO P YQ rA:=by
 intro args H K hc;obtain⟨⟨⟨carrier,L⟩,s⟩,rfl,rfl,hp,hK⟩:=hc;refine⟨cM,?_⟩;dsimp only at hp hK⊢;obtain⟨p,hpp⟩:∃p:Br→Bool,p=fun b=>decide (b.b.number=s):=⟨_,rfl⟩
 rw[←hpp]at hK;have hpx:∀x,p x=decide (x.b.number=s):=fun x=>by rw[hpp]
 clear hpp;cbv;refine bS [] (fun q:{ k:Nat // k≤L.length∧iU p L k }=>[(5,.i (nI q.1))]) (fun _=>[.blk 38 [.str carrier,.sl 11 (bJ iL L)]]) (fun q=>fE 5001 q.1) ⟨0,aI _,.zero⟩ ?_;rintro ⟨k,hk,hn⟩;dsimp only at hk hn⊢;cbv;repeat'((first|refine .mk (fun h=>?_) fun h=>?_|refine .k fun z hz=>?_|fail)<;>cbv)
 ·refine cR bQ bQ fun i x hi hx=>?_
  obtain rfl:k=i:=bQ;have hx2:=hpx x;obtain⟨⟨nq1,cq1,sq1,frm1,to1,bq1,pq1,iq1,lq1⟩,st1,⟨sa1,ha1,ca1⟩,⟨sb1,hb1,cb1⟩,⟨sc1,hc1,cc1⟩⟩:=x;dsimp only at hx2;cbv;repeat'((first|refine .mk (fun h=>?_) fun h=>?_|refine .k fun z hz=>?_|fail)<;>cbv)
  ·rw[aH h]at hx2;exact bW.mk ⟨_,Gh.refl _,.inl (.v9 (fU hK (by(rw[Jv hn hx hx2]))))⟩
  ·rw[aG h]at hx2;obtain rfl:z=nI (k+1):=bQ;exact bM ⟨k+1,by exact bQ,hn.succ hx hx2⟩ (bN bQ)
 ·obtain rfl:k=L.length:=bQ;exact bW.mk ⟨_,Gh.refl _,.inl (.v9 (fU hK (by(rw[CA hn]))))⟩
def Na:dO:=spec (fun i:Rg×bH=>[I8 i.1,.str i.2]) (fun _=>[]) (fun i=>i.1.bills.length≤5000∧∀b∈i.1.bills,yF b.b) (fun i=>.i (nN (lN i.2) i.1.bills)) fun _=>[]
theorem LC (P:bI) (hin:bK P 177 Wo):bO P Xf Na:=by
 intro args H K hc;obtain⟨⟨⟨carrier,L⟩,s⟩,rfl,rfl,hp,hK⟩:=hc;refine⟨cM,?_⟩;dsimp only at hp hK⊢;obtain⟨hp,hob⟩:=hp;obtain⟨p,hpp⟩:∃p:Br→Bool,p=lN s:=⟨_,rfl⟩
 rw[←hpp]at hK;have hpx:∀x,p x=(decide (x.st=0) && x.b.boxes.any fun y=>decide (s=y)):=fun x=>by rw[hpp];rfl
 clear hpp;cbv;refine bS [] (fun q:{ k:Nat // k≤L.length∧iU p L k }=>[(5,.i (nI q.1))]) (fun _=>[.blk 38 [.str carrier,.sl 11 (bJ iL L)]]) (fun q=>fE 5001 q.1) ⟨0,aI _,.zero⟩ ?_;rintro ⟨k,hk,hn⟩;dsimp only at hk hn⊢;cbv;repeat'((first|refine .mk (fun h=>?_) fun h=>?_|refine .k fun z hz=>?_|fail)<;>cbv)
 ·refine cR bQ bQ fun i x hi hx=>?_
  obtain rfl:k=i:=bQ;have hx2:=hpx x;have ho:=hob x (aC hx);obtain⟨m,hm⟩:∃m,m=x.b.boxes.any fun y=>decide (s=y):=⟨_,rfl⟩
  rw[←hm]at hx2;unfold yF at ho;obtain⟨⟨nq1,cq1,sq1,frm1,to1,bq1,pq1,iq1,lq1⟩,st1,⟨sa1,ha1,ca1⟩,⟨sb1,hb1,cb1⟩,⟨sc1,hc1,cc1⟩⟩:=x;dsimp only at hx2 ho hm;cbv;repeat'((first|refine .e ?_|refine .mk (fun h=>?_) fun h=>?_|refine .k fun z hz=>?_|fail)<;>cbv)
  ·rw[aH h]at hx2
   (refine ZN hin (bq1,s) (by dsimp only;omega) ?_;try dsimp only)
   rw[←hm];cases m with
   |true=>
    cbv;exact bW.mk ⟨_,Gh.refl _,.inl (.v9 (fU hK (by(rw[Jv hn hx hx2]))))⟩
   |false=>
    cbv;repeat'((first|refine .k fun z hz=>?_|fail)<;>cbv)
    obtain rfl:z=nI (k+1):=bQ;exact bM ⟨k+1,by exact bQ,hn.succ hx hx2⟩ (bN bQ)
  ·rw[aG h]at hx2;obtain rfl:z=nI (k+1):=bQ;exact bM ⟨k+1,by exact bQ,hn.succ hx hx2⟩ (bN bQ)
 ·obtain rfl:k=L.length:=bQ;exact bW.mk ⟨_,Gh.refl _,.inl (.v9 (fU hK (by(rw[CA hn]))))⟩
deriving instance DecidableEq for pU
deriving instance DecidableEq for Bl
def H7:dO:=spec (fun b:Bl=>[Ke b]) (fun _=>[]) yF (fun b=>Ke b) fun _=>[]
theorem Iq (P:bI):bO P XL H7:=by
 intro args H K hc;obtain⟨b,rfl,rfl,hp,hK⟩:=hc;refine⟨cM,?_⟩;dsimp only at hp hK⊢;obtain⟨h1,h2⟩:=hp;obtain⟨nq1,cq1,sq1,frm1,to1,bq1,pq1,iq1,lq1⟩:=b;dsimp only at h1 h2;cbv;repeat'((first|refine .o ?_|fail)<;>cbv)
 refine dE (Gh.plain 2 rfl) ?_;cbv;refine dE (Gh.plain 3 rfl) ?_;cbv
 (refine .q9 ?_;cbv;exact .inl (.f9 hK))
def N8 (k:Int):Br→Og
 |⟨_,_,o0,o1,o2⟩=>if k=0 then o0 else if k=1 then o1 else o2
def CZ:dO:=spec (fun i:Br×Int=>[iL i.1,.i i.2]) (fun _=>[]) (fun i=>(i.2=0∨i.2=1∨i.2=2)∧qQ i.1) (fun i=>.i (iV (N8 i.2 i.1) i.1.b.issued)) fun _=>[]
theorem IE (P:bI):bO P WZ CZ:=by
 intro args H K hc;obtain⟨⟨y,k⟩,rfl,rfl,hp,hK⟩:=hc;refine⟨cM,?_⟩;dsimp only at hp hK⊢;obtain⟨hk,hc⟩:=hp;obtain⟨⟨nq1,cq1,sq1,frm1,to1,bq1,pq1,iq1,lq1⟩,st1,⟨sa1,ha1,ca1⟩,⟨sb1,hb1,cb1⟩,⟨sc1,hc1,cc1⟩⟩:=y;unfold qQ at hc;dsimp only at hc hk;obtain⟨hl0,hl1,hl2⟩:=hc;rcases hk with rfl|rfl|rfl
 ·have hd:iV ⟨sa1,ha1,ca1⟩ iq1=match ca1.getLast? with
   |some e=>e.day
   |none=>iq1:=rfl
  obtain⟨q,hq⟩:∃q,q=iV ⟨sa1,ha1,ca1⟩ iq1:=⟨_,rfl⟩
  have hK:K (.i q) []:=by rw[hq];exact hK
  rw[←hq]at hd;cbv;repeat'((first|refine .mk (fun h=>?_) fun h=>?_|refine .k fun z hz=>?_|refine cC.i0 ?_|fail)<;>cbv)
  ·refine cR bQ bQ fun i l hi hl=>?_
   obtain⟨f,t,k,d⟩:=l;rw[oS bQ hl]at hd;cbv;exact bW.mk ⟨_,Gh.refl _,.inl (.v9 (fU hK (by(rw[hd]))))⟩
  ·rw[lX bQ]at hd;exact bW.mk ⟨_,Gh.refl _,.inl (.v9 (fU hK (by(rw[hd]))))⟩
 ·have hd:iV ⟨sb1,hb1,cb1⟩ iq1=match cb1.getLast? with
   |some e=>e.day
   |none=>iq1:=rfl
  obtain⟨q,hq⟩:∃q,q=iV ⟨sb1,hb1,cb1⟩ iq1:=⟨_,rfl⟩
  have hK:K (.i q) []:=by rw[hq];exact hK
  rw[←hq]at hd;cbv;repeat'((first|refine .mk (fun h=>?_) fun h=>?_|refine .k fun z hz=>?_|refine cC.i1 ?_|fail)<;>cbv)
  ·refine cR bQ bQ fun i l hi hl=>?_
   obtain⟨f,t,k,d⟩:=l;rw[oS bQ hl]at hd;cbv;exact bW.mk ⟨_,Gh.refl _,.inl (.v9 (fU hK (by(rw[hd]))))⟩
  ·rw[lX bQ]at hd;exact bW.mk ⟨_,Gh.refl _,.inl (.v9 (fU hK (by(rw[hd]))))⟩
 ·have hd:iV ⟨sc1,hc1,cc1⟩ iq1=match cc1.getLast? with
   |some e=>e.day
   |none=>iq1:=rfl
  obtain⟨q,hq⟩:∃q,q=iV ⟨sc1,hc1,cc1⟩ iq1:=⟨_,rfl⟩
  have hK:K (.i q) []:=by rw[hq];exact hK
  rw[←hq]at hd;cbv;repeat'((first|refine .mk (fun h=>?_) fun h=>?_|refine .k fun z hz=>?_|refine cC.i2 ?_|fail)<;>cbv)
  ·refine cR bQ bQ fun i l hi hl=>?_
   obtain⟨f,t,k,d⟩:=l;rw[oS bQ hl]at hd;cbv;exact bW.mk ⟨_,Gh.refl _,.inl (.v9 (fU hK (by(rw[hd]))))⟩
  ·rw[lX bQ]at hd;exact bW.mk ⟨_,Gh.refl _,.inl (.v9 (fU hK (by(rw[hd]))))⟩
def oT:dO:=spec (fun a:At=>[Pm a]) (fun _=>[]) (fun _=>True) (fun a=>.sl 1 (if a.kind=5∨(a.kind=1∧a.index=-1) then [.i 0,.i 1,.i 2] else [.i a.index])) fun _=>[]
theorem HN (P:bI):bO P WD oT:=by
 intro args H K hc;obtain⟨a,rfl,rfl,hp,hK⟩:=hc;refine⟨cM,?_⟩;dsimp only at hp hK⊢;obtain⟨kind,index,day,bill,by_,to,b⟩:=a;obtain⟨nq1,cq1,sq1,frm1,to1,bq1,pq1,iq1,lq1⟩:=b;dsimp only at hK;obtain⟨l,hl⟩:∃l:List AV,l=if kind=5∨(kind=1∧index=-1) then [.i 0,.i 1,.i 2] else [.i index]:=⟨_,rfl⟩
 rw[←hl]at hK;cbv;repeat'((first|refine .mk (fun h=>?_) fun h=>?_|fail)<;>cbv)
 ·obtain rfl:l=[.i 0,.i 1,.i 2]:=by rw[hl,aF (by omega)]
  (refine .r9 (Gh.plain 1 rfl) ?_;cbv;exact .inl (.g9 hK))
 ·obtain rfl:l=[.i 0,.i 1,.i 2]:=by rw[hl,aF (by omega)]
  (refine .r9 (Gh.plain 1 rfl) ?_;cbv;exact .inl (.g9 hK))
 ·obtain rfl:l=[.i index]:=by rw[hl,aE (by omega)]
  (refine .r9 (Gh.plain 1 rfl) ?_;cbv;exact .inl (.g9 hK))
 ·obtain rfl:l=[.i index]:=by rw[hl,aE (by omega)]
  (refine .r9 (Gh.plain 1 rfl) ?_;cbv;exact .inl (.g9 hK))
set_option maxHeartbeats 4000000
def iB (a b:bH):Bool:=decide (iT a < iT b)
theorem uS (a b:bH):Op.bytesLess a.toList b.toList=iB a b:=by rw[bytesLess_eq,Lib.toList_data,Lib.toList_data];rfl
def pZ (l:List bH) (s:bH):List bH:=l.takeWhile (fun x=>iB x s)++s :: l.dropWhile (fun x=>iB x s)
theorem Gb {α:Type}{p:α→Bool}:∀{l:List α}{k:Nat},k≤l.length→iU (fun x=>!p x) l k→(∀x,l[k]?=some x→p x=false)→l.takeWhile p=l.take k∧l.dropWhile p=l.drop k
 |[],k,hk,_,_=>by
  obtain rfl:k=0:=by simpa using hk
  exact⟨rfl,rfl⟩
 |x :: l,0,_,_,h=>by
  have hx:=h x rfl;rw[List.takeWhile_cons,List.dropWhile_cons,hx];exact⟨rfl,rfl⟩
 |x :: l,k+1,hk,hn,h=>by
  have hx:p x=true:=by
   have h0:(!p x)=false:=hn 0 x (Nat.succ_pos k) rfl;simpa using h0
  obtain⟨h1,h2⟩:=Gb (p:=p) (l:=l) (k:=k) (by simpa using hk) (fun j y hj hy=>hn (j+1) y (by omega) (by simpa using hy)) (fun y hy=>h y (by simpa using hy));rw[List.takeWhile_cons,List.dropWhile_cons,hx,h1,h2];exact⟨rfl,rfl⟩
theorem IR {l:List bH}{s:bH}{k:Nat}(hk:k≤l.length) (hn:iU (fun x=>!iB x s) l k) (h:∀x,l[k]?=some x→iB x s=false):pZ l s=l.take k++s :: l.drop k:=by
 obtain⟨h1,h2⟩:=Gb (p:=fun x=>iB x s) hk hn h;unfold pZ;rw[h1,h2]
theorem Ow {l a b q:List bH}{s:bH}{k:Nat}{zs1 zs:List AV}(h4:zs=zs1++bJ .str b) (h2:b=List.drop ((some (Int.ofNat k)).getD 0).toNat (List.take ((none:Option Int).getD (l.length:Int)).toNat l)) (h3:zs1=bJ .str a++[.str s]) (h1:a=List.drop ((none:Option Int).getD 0).toNat (List.take ((some (Int.ofNat k)).getD (l.length:Int)).toNat l)) (hq:q=l.take k++s :: l.drop k):zs=bJ .str q:=by
 have e1:a=l.take k:=by rw[h1];simp
 have e2:b=l.drop k:=by rw[h2];simp
 rw[h4,h3,e1,e2,hq,cB];have e:bJ AV.str (s :: l.drop k)=.str s :: bJ .str (l.drop k):=rfl;rw[e,bG];rfl
def TC:dO:=spec (fun i:List bH×bH=>[.sl 1 (bJ .str i.1),.str i.2]) (fun _=>[]) (fun i=>i.1.length≤5000) (fun i=>.sl 1 (bJ .str (pZ i.1 i.2))) fun _=>[]
theorem Pb (P:bI):bO P ZH TC:=by
 intro args H K hc;obtain⟨⟨l,s⟩,rfl,rfl,hp,hK⟩:=hc;refine⟨cM,?_⟩;dsimp only at hp hK⊢;obtain⟨q,hq⟩:∃q,q=pZ l s:=⟨_,rfl⟩
 rw[←hq]at hK;obtain⟨p,hpp⟩:∃p:bH→Bool,p=fun x=>!iB x s:=⟨_,rfl⟩
 have hpx:∀x,p x=!Op.bytesLess x.toList s.toList:=fun x=>by rw[hpp,uS]
 cbv;refine bS [] (fun q:{ k:Nat // k≤l.length∧iU p l k }=>[(5,.i (nI q.1))]) (fun _=>[]) (fun q=>fE 5001 q.1) ⟨0,aI _,.zero⟩ ?_;rintro ⟨k,hk,hn⟩;dsimp only at hk hn⊢;cbv;repeat'((first|refine .mk (fun h=>?_) fun h=>?_|refine .k fun z hz=>?_|refine .o ?_|refine .l fun ys hys hyl=>?_|refine .zl fun zs hzs hzl=>?_|refine And.intro ?_ ?_|fail)<;>cbv)
 ·refine cR bQ bQ fun i x hi hx=>?_
  obtain rfl:k=i:=bQ;have hx2:=hpx x;obtain⟨m,hm⟩:∃m,m=Op.bytesLess x.toList s.toList:=⟨_,rfl⟩
  rw[←hm]at hx2;cbv;repeat'((first|refine .mk (fun h=>?_) fun h=>?_|refine .k fun z hz=>?_|refine .o ?_|refine .l fun ys hys hyl=>?_|refine .zl fun zs hzs hzl=>?_|refine And.intro ?_ ?_|fail)<;>cbv)
  ·have hz9:z=nI (k+1):=bQ;subst hz9;have hx3:p x=false:=by rw[hx2,hm,h];rfl
   exact bM ⟨k+1,by exact bQ,hn.succ hx hx3⟩ (bN bQ)
  all_goals
   have hput:q=l.take k++s :: l.drop k:=by
    rw[hq];refine IR bQ (by rw[←hpp];exact hn) fun y hy=>?_
    rw[hx]at hy;cases hy;rw[←uS];assumption
   obtain rfl:zs=bJ .str q:=Ow hzs hys (by assumption) (by assumption) hput
   (refine .r9 (Gh.plain 0 rfl) ?_;cbv;exact .inl (.g9 hK))
 all_goals
  have hput:q=l.take k++s :: l.drop k:=by
   rw[hq];refine IR bQ (by rw[←hpp];exact hn) fun y hy=>?_
   have:=(aA.1 hy).1;exfalso
   ((try simp only[vn]at *)<;>omega)
  obtain rfl:zs=bJ .str q:=Ow hzs hys (by assumption) (by assumption) hput
  (refine .r9 (Gh.plain 0 rfl) ?_;cbv;exact .inl (.g9 hK))
theorem M9 (l:List bH) (s:bH):(pZ l s).length=l.length+1:=by
 unfold pZ;have h:=congrArg List.length (List.takeWhile_append_dropWhile (p:=fun x=>iB x s) (l:=l));rw[aM]at h;rw[aM,List.length_cons];omega
def qH (l:List bH):List bH:=l.foldl pZ []
theorem Hl (l:List bH):(qH l).length=l.length:=by
 have h:∀(l a:List bH),(l.foldl pZ a).length=a.length+l.length:=by
  intro l
  induction l with
  |nil=>intro a;rfl
  |cons x l ih=>intro a;rw[List.foldl_cons,ih,M9,List.length_cons];omega
 have:=h l [];unfold qH;rw[this];exact Nat.zero_add _
theorem Ez (l:List bH) (s:bH):qH (l++[s])=pZ (qH l) s:=by unfold qH;rw[List.foldl_append];rfl
def FS (L:List Br) (p:Br→Bool) (k:Nat):List bH:=qH ((L.take k).filterMap (gN p))
theorem Ox {L:List Br}{p:Br→Bool}{k:Nat}{y:Br}(hy:L[k]?=some y) (hp:p y=true):FS L p (k+1)=pZ (FS L p k) y.b.number:=by
 unfold FS;rw[cY hy,List.filterMap_append,List.filterMap_cons];unfold gN;rw[hp];exact Ez _ _
theorem LW {L:List Br}{p:Br→Bool}{k:Nat}:(FS L p k).length≤L.length:=by
 unfold FS;rw[Hl];refine Nat.le_trans (List.length_filterMap_le _ _) ?_;rw[aS];omega
def Wn (L:List Br) (p:Br→Bool):List bH:=qH (L.filterMap (gN p))
theorem Nj {L:List Br}{p:Br→Bool}{k:Nat}(hk:k=L.length):FS L p k=Wn L p:=by unfold FS Wn;rw[hk,List.take_length]
def D5:dO:=spec (fun R:Rg=>[I8 R]) (fun _=>[]) (fun R=>R.bills.length≤256) (fun R=>.sl 1 (bJ .str (Wn R.bills fun _=>true))) fun _=>[]
theorem E3 (P:bI) (hput:bK P 71 TC):bO P Zs D5:=by
 intro args H K hc;obtain⟨⟨carrier,L⟩,rfl,rfl,hp,hK⟩:=hc;refine⟨cM,?_⟩;dsimp only at hp hK⊢;obtain⟨p,hpp⟩:∃p:Br→Bool,p=fun _=>true:=⟨_,rfl⟩
 rw[←hpp]at hK;have hpx:∀x,p x=true:=fun x=>by rw[hpp]
 clear hpp;cbv;refine fX (Gh.plain 1 rfl) ?_;cbv;refine bS [] (fun q:{ q:Nat×List bH // q.1≤L.length∧q.2=FS L p q.1 }=>[(4,.i (nI q.1.1)),(3,.sl 1 (bJ .str q.1.2))]) (fun _=>[.blk 38 [.str carrier,.sl 11 (bJ iL L)]]) (fun q=>fE 5001 q.1.1) ⟨(0,[]),aI _,rfl⟩ ?_;rintro ⟨⟨k,l⟩,hk,hl⟩;dsimp only at hk hl⊢;have hll:l.length≤L.length:=by rw[hl];exact LW
 cbv;repeat'((first|refine .mk (fun h=>?_) fun h=>?_|refine .k fun z hz=>?_|fail)<;>cbv)
 ·refine cR bQ bQ fun i x hi hx=>?_
  obtain rfl:k=i:=bQ;have hy:=Ox hx (hpx x);rw[←hl]at hy;obtain⟨⟨nq1,cq1,sq1,frm1,to1,bq1,pq1,iq1,lq1⟩,st1,⟨sa1,ha1,ca1⟩,⟨sb1,hb1,cb1⟩,⟨sc1,hc1,cc1⟩⟩:=x;dsimp only at hy;obtain⟨m,hm⟩:∃m,m=pZ l nq1:=⟨_,rfl⟩
  rw[←hm]at hy;cbv
  (refine ZN hput (l,nq1) (by dsimp only;omega) ?_;try dsimp only)
  rw[←hm];cbv;repeat'((first|refine .k fun z hz=>?_|fail)<;>cbv)
  obtain rfl:z=nI (k+1):=bQ;exact bM ⟨(k+1,m),by exact bQ,hy.symm⟩ (bN bQ)
 ·have hl2:=hl.trans (Nj bQ);subst hl2
  (refine .q9 ?_;cbv;exact .inl (.f9 hK))
theorem kU (L:List Br) (s:bH):nN (fun b:Br=>decide (b.b.number=s)) L=match qK L s with
 |some i=>Int.ofNat i
 |none=>-1:=rfl
structure Yd (b:Bl):Prop where
 number:b.number.size≤maxLen
 shipper:b.shipper.size≤maxLen
 frm:b.frm.size≤maxLen
 to:b.to.size≤maxLen
 parents:∀s∈b.parents,s.size≤maxLen
theorem N5 (L:List bH) (s:bH):(L.any fun x=>decide (s=x))=Ed L s:=by
 unfold Ed lM;have h:(L.findIdx? fun a=>decide (id a=s)).isSome=L.any fun a=>decide (id a=s):=by rw[List.findIdx?_isSome]
 rw[h];congr 1;funext x;exact decide_eq_decide.2 ⟨fun h=>h.symm,fun h=>h.symm⟩
def Ml:dO:=spec (fun i:bH×Bl=>[.str i.1,Ke i.2]) (fun _=>[]) (fun i=>yF i.2∧Yd i.2) (fun i=>.bl (yJ i.1 i.2)) fun _=>[]
theorem J3 (P:bI) (hn:bK P 174 Hn) (hd:bK P 175 D7) (hr:bK P 176 (iR (fun _=>True) lK)) (hin:bK P 177 Wo):bO P X2 Ml:=by
 intro args H K hc;obtain⟨⟨carrier,b⟩,rfl,rfl,hp,hK⟩:=hc;refine⟨cM,?_⟩;dsimp only at hp hK⊢;obtain⟨hp,hsz⟩:=hp;unfold yF at hp;obtain⟨hs1,hs2,hs3,hs4,hs5⟩:=hsz;obtain⟨nq1,cq1,sq1,frm1,to1,bq1,pq1,iq1,lq1⟩:=b;dsimp only at hp hs1 hs2 hs3 hs4 hs5;obtain⟨q,hq⟩:∃q,q=yJ carrier ⟨nq1,cq1,sq1,frm1,to1,bq1,pq1,iq1,lq1⟩:=⟨_,rfl⟩
 rw[←hq]at hK;unfold yJ at hq;dsimp only at hq;obtain⟨n1,hn1⟩:∃q,q=!([nq1,sq1,frm1,to1].any fun s=>!bT s):=⟨_,rfl⟩
 have hn1':((bT nq1 && bT sq1) && (bT frm1 && bT to1))=n1:=by
  rw[hn1];simp only[List.any_cons,List.any_nil];cases bT nq1<;>cases bT sq1<;>cases bT frm1<;>cases bT to1<;>rfl
 obtain⟨n5,hn5⟩:∃q,q=gM iq1:=⟨_,rfl⟩
 obtain⟨n6,hn6⟩:∃q,q=!(pq1.any fun s=>!bT s):=⟨_,rfl⟩
 obtain⟨n7,hn7⟩:∃q,q=nV (bq1.take 0) (bq1.drop 0):=⟨_,rfl⟩
 have hn7':nV [] bq1=n7:=hn7.symm;rw[hn1',←hn5,←hn6,hn7']at hq;clear hn7' hn1';cbv;refine fJ 1 rfl ?_;cbv
 (refine nE hn [nq1,sq1,frm1,to1] ⟨Nat.le_add_left 4 4996,fun s hs=>by
   rcases List.mem_cons.1 hs with rfl|hs
   ·exact hs1
   rcases List.mem_cons.1 hs with rfl|hs
   ·exact hs2
   rcases List.mem_cons.1 hs with rfl|hs
   ·exact hs3
   rcases List.mem_cons.1 hs with rfl|hs
   ·exact hs4
   cases hs⟩ rfl rfl rfl ?_;try dsimp only)
 rw[←hn1];cases n1 with
 |false=>
  cbv;exact bW.mk ⟨_,Gh.refl _,.inl (.v9 (cF hK (by(rw[hq];rfl))))⟩
 |true=>
 cbv;repeat'((first|refine .mk (fun h=>?_) fun h=>?_|refine .k fun z hz=>?_|fail)<;>cbv)
 rotate_right
 ·exact bW.mk ⟨_,Gh.refl _,.inl (.v9 (cF hK (by(rw[hq,aG (by assumption:¬cq1=carrier)];rfl))))⟩
 ·rw[aH (by assumption:cq1=carrier),aG bQ]at hq;exact bW.mk ⟨_,Gh.refl _,.inl (.v9 (cF hK (by(rw[hq];cases n5<;>rfl))))⟩
 ·rw[aH (by assumption:cq1=carrier),aG bQ]at hq;exact bW.mk ⟨_,Gh.refl _,.inl (.v9 (cF hK (by(rw[hq];cases n5<;>rfl))))⟩
 ·rw[aH (by assumption:cq1=carrier),aG bQ]at hq;exact bW.mk ⟨_,Gh.refl _,.inl (.v9 (cF hK (by(rw[hq];cases n5<;>rfl))))⟩
 ·rw[aH (by assumption:cq1=carrier),aH bQ]at hq
  (refine ZN hn pq1 ⟨by exact bQ,hs5⟩ ?_;try dsimp only)
  rw[←hn6];cases n6 with
  |false=>
   cbv;exact bW.mk ⟨_,Gh.refl _,.inl (.v9 (cF hK (by(rw[hq];cases n5<;>cases n7<;>rfl))))⟩
  |true=>
  cbv
  (refine ZN hd iq1 trivial ?_;try dsimp only)
  rw[←hn5];cases n5 with
  |false=>
   cbv;exact bW.mk ⟨_,Gh.refl _,.inl (.v9 (cF hK (by(rw[hq];rfl))))⟩
  |true=>
  cbv;refine bS [] (fun q:{ k:Nat // k≤bq1.length∧n7=nV (bq1.take k) (bq1.drop k) }=>[(5,.i (nI q.1))]) (fun q=>[.blk 79 [.str nq1,.str cq1,.str sq1,.str frm1,.str to1,.sl 1 (bJ .str bq1),.sl 1 (bJ .str pq1),.i iq1,.bl lq1],.tip 9 1 [.str nq1,.str sq1,.str frm1,.str to1]]) (fun q=>fE 5001 q.1) ⟨0,aI _,hn7⟩ ?_;rintro ⟨k,hk,hb7⟩;dsimp only at hk hb7⊢;cbv;repeat'((first|refine .mk (fun h=>?_) fun h=>?_|refine .k fun z hz=>?_|fail)<;>cbv)
  ·refine cR bQ bQ fun i x hi hx=>?_
   obtain rfl:k=i:=bQ;have hg:=FM hx;obtain⟨m,hm⟩:∃m,m=lK x:=⟨_,rfl⟩
   obtain⟨m2,hm2⟩:∃m,m=Ed (bq1.take k) x:=⟨_,rfl⟩
   rw[←hm,←hm2]at hg;cbv
   (refine ZN hr x trivial ?_;try dsimp only)
   rw[←hm];cases m with
   |false=>
    rw[hb7,hg]at hq;cbv;exact bW.mk ⟨_,Gh.refl _,.inl (.v9 (cF hK (by(rw[hq];rfl))))⟩
   |true=>
    cbv;repeat'((first|refine .e ?_|refine .l fun ys hys hyl=>?_|fail)<;>cbv)
    obtain rfl:ys=bq1.take k:=by rw[hys];simp
    (refine ZN hin (bq1.take k,x) (by dsimp only;rw[aS];omega) ?_;try dsimp only)
    rw[N5,←hm2];cases m2 with
    |true=>
     rw[hb7,hg]at hq;cbv;exact bW.mk ⟨_,Gh.refl _,.inl (.v9 (cF hK (by(rw[hq];rfl))))⟩
    |false=>
     cbv;repeat'((first|refine .k fun z hz=>?_|fail)<;>cbv)
     obtain rfl:z=nI (k+1):=bQ;exact bM ⟨k+1,by exact bQ,hb7.trans hg⟩ (bN bQ)
  ·obtain rfl:k=bq1.length:=bQ;rw[BM rfl]at hb7;subst hb7;exact bW.mk ⟨_,Gh.refl _,.inl (.v9 (cF hK (by(rw[hq];rfl))))⟩
theorem J1 {P:bI}{f:Nat}{keep:List Nat}{args:List AV}{st:St}{K:AV→St→Prop}(H2:List cG) (hl:kF st.H H2) (h:gA P keep f args ⟨st.T,H2⟩ K):gA P keep f args st K:=
 ⟨fun C a w r pub vals hh hv=>h.out C a w r pub vals ⟨hh.mod.le hl,hh.own,hh.fr,hh.slots,hh.defers,hh.size,hh.stab,hh.low.1,by rw[hl.len];exact hh.low.2⟩ hv⟩
theorem Dj {P:bI}{f:Nat}{keep:List Nat}{args:List AV}{st:St}{K:AV→St→Prop}(k:Nat) {t sz:Nat}{xs:List AV}(hk:st.H[k]?=some (.tip t sz xs)) (h:gA P keep f args ⟨jR k (.sl sz xs) st.T,st.H.map (cG.kill k (.sl sz xs))⟩ K):gA P keep f args st K:=by
 refine⟨fun C a w r pub vals hh hv=>h.out C a w r pub vals ?_ hv⟩;have hy:∀z,r k=some z→bU pub w r (.sl sz xs) z:=fun z hz=>by
  obtain⟨A,d,c,x,us,hr,_⟩:=hh.ent_tip hk;rw[hr]at hz;cases hz;have h1:=hh.view1 (x:=.hd k) (.hd hr rfl);simp only[St.view1,hk]at h1;exact h1
 refine⟨⟨fun j e he=>?_,fun j hj=>hh.mod.none_ j (by simpa using hj),hh.mod.disj,hh.mod.fresh,hh.mod.there,hh.mod.glob⟩,hh.own,hh.fr,hh.slots.kill (fun _ _=>rfl) hy,hh.defers,hh.size,hh.stab,by simpa using hh.low⟩;rw[aD]at he;cases hj:st.H[j]? with
 |none=>rw[hj]at he;cases he
 |some e0=>
  rw[hj]at he;cases he;exact(hh.mod.ent j e0 hj).kill (Fr.refl (fun _=>False) _ _) (fun _ _ _ _ h=>h) (fun _ _=>rfl) hy
theorem MB {α:Type}(p:α→Bool) (l:List α):decide (0≤nN p l)=l.any p:=by
 unfold nN;cases e:l.findIdx? p with
 |none=>
  rw[List.findIdx?_eq_none_iff]at e;have:l.any p=false:=by
   rw[List.any_eq_false];intro x hx;rw[e x hx];decide
  rw[this];rfl
 |some i=>
  rw[List.findIdx?_eq_some_iff_getElem]at e;obtain⟨hi,h1,_⟩:=e;have:l.any p=true:=List.any_eq_true.2 ⟨_,List.getElem_mem hi,h1⟩;rw[this];exact aH (Int.natCast_nonneg i)
theorem EP (L:List Br) (box:bH):(HJ L box).2=L.any (lN box):=by
 have hl:(gR L (lN box)).length=(L.filterMap (gN (lN box))).length:=by unfold gR;rw[kG]
 have ha:∀L:List Br,((L.filterMap (gN (lN box))).length=0)↔L.any (lN box)=false:=by
  intro L
  induction L with
  |nil=>simp
  |cons x L ih=>
   rw[List.filterMap_cons,List.any_cons];unfold gN;cases hx:lN box x with
   |true=>simp
   |false=>
    unfold gN at ih;simpa using ih
 unfold HJ;cases hn:gR L (lN box) with
 |nil=>
  rw[hn]at hl;exact((ha L).1 hl.symm).symm
 |cons n l=>
  rw[hn]at hl;cases hb:L.any (lN box) with
  |true=>rfl
  |false=>
   rw[(ha L).2 hb]at hl;cases hl
def W6:Rg×Int→AV
 |(R,e)=>.tup [I8 R,.i e]
structure M6 (i:oV):Prop where
 few:i.R.bills.length≤256
 all:∀b∈i.R.bills,yF b.b
 ok:yF i.b
 sz:Yd i.b
 hsz:i.holder.size≤maxLen
def tU:dO:=spec (fun i:oV=>[I8 i.R,Ke i.b,.str i.holder]) (fun _=>[]) M6 (fun i=>W6 (kD i,gQ i)) fun _=>[]
theorem EV (P:bI) (hm:bK P 132 Ml) (hn:bK P 133 (iR (fun s=>s.size≤maxLen) bT)) (hf:bK P 63 rA) (hb:bK P 134 Na) (hcp:bK P 135 H7):bO P ZF tU:=by
 intro args H K hc;obtain⟨i,rfl,rfl,⟨hfew,hall,hok,hsz,hhs⟩,hK⟩:=hc;dsimp only at hK;obtain⟨e,he⟩:∃e,e=gQ i:=⟨_,rfl⟩
 obtain⟨R',hR'⟩:∃R',R'=kD i:=⟨_,rfl⟩
 rw[←he,←hR']at hK;unfold kD at hR';rw[←he]at hR';unfold gQ i1 i2 i3 i4 DD at he;simp only[EP]at he;obtain⟨⟨carrier,L⟩,b,holder⟩:=i;dsimp only at hR' hok he hfew hall hsz hhs;obtain⟨n1,hn1⟩:∃q,q=yJ carrier b:=⟨_,rfl⟩
 obtain⟨n2,hn2⟩:∃q,q=bT holder:=⟨_,rfl⟩
 obtain⟨f,hf1⟩:∃q,q=nN (fun y:Br=>decide (y.b.number=b.number)) L:=⟨_,rfl⟩
 have hf2:(qK L b.number).isSome=decide (0≤f):=by
  rw[hf1,kU];cases qK L b.number with
  |none=>rfl
  |some j=>exact(aH (Int.natCast_nonneg j)).symm
 rw[←hn1,←hn2,hf2]at he;obtain⟨p3,hp3⟩:∃p:bH→Bool,p=fun box=>L.any (lN box):=⟨_,rfl⟩
 rw[←hp3]at he;have hpx:∀x,p3 x=decide (0≤nN (lN x) L):=fun x=>by rw[hp3,MB]
 have hob:=hok;unfold yF at hob;obtain⟨nq1,cq1,sq1,frm1,to1,bq1,pq1,iq1,lq1⟩:=b;dsimp only at hf1 hob;refine⟨cM,?_⟩;dsimp only at hK⊢;cbv
 (refine ZN hm (carrier,⟨nq1,cq1,sq1,frm1,to1,bq1,pq1,iq1,lq1⟩) ⟨hok,hsz⟩ ?_;try dsimp only)
 rw[←hn1];cases n1 with
 |false=>
  obtain rfl:e=1:=he;obtain rfl:R'=⟨carrier,L⟩:=hR';cbv
  (refine .q9 ?_;cbv;exact .inl (.f9 hK))
 |true=>
 cbv
 (refine ZN hn holder hhs ?_;try dsimp only)
 rw[←hn2];cases n2 with
 |false=>
  obtain rfl:e=1:=he;obtain rfl:R'=⟨carrier,L⟩:=hR';cbv
  (refine .q9 ?_;cbv;exact .inl (.f9 hK))
 |true=>
 cbv
 (refine ZN hf ((⟨carrier,L⟩:Rg),nq1) (by dsimp only;omega) ?_;try dsimp only)
 rw[←hf1];cbv;repeat'((first|refine .mk (fun h=>?_) fun h=>?_|fail)<;>cbv)
 ·rw[aH (by assumption:0≤f)]at he;obtain rfl:e=5:=he;obtain rfl:R'=⟨carrier,L⟩:=hR'
  (refine .q9 ?_;cbv;exact .inl (.f9 hK))
 ·rw[aG (by omega)]at he;refine bS [] (fun q:{ k:Nat // k≤bq1.length∧iU p3 bq1 k }=>[(8,.i (nI q.1))]) (fun q=>[.blk 38 [.str carrier,.sl 11 (bJ iL L)],.blk 79 [.str nq1,.str cq1,.str sq1,.str frm1,.str to1,.sl 1 (bJ .str bq1),.sl 1 (bJ .str pq1),.i iq1,.bl lq1],.blk 38 [.str ⟨⟨[]⟩⟩,.v (.slice none 0 0)]]) (fun q=>fE 5001 q.1) ⟨0,aI _,.zero⟩ ?_;rintro ⟨k,hk,hno⟩;dsimp only at hk hno⊢;cbv;repeat'((first|refine .mk (fun h=>?_) fun h=>?_|refine .k fun z hz=>?_|refine .o ?_|fail)<;>cbv)
  ·refine cR bQ bQ fun i x hi hx=>?_
   obtain rfl:k=i:=bQ;have hx2:=hpx x;obtain⟨g,hg⟩:∃g,g=nN (lN x) L:=⟨_,rfl⟩
   rw[←hg]at hx2;cbv
   (refine ZN hb ((⟨carrier,L⟩:Rg),x) ⟨by dsimp only;omega,hall⟩ ?_;try dsimp only)
   rw[←hg];cbv;repeat'((first|refine .mk (fun h=>?_) fun h=>?_|refine .k fun z hz=>?_|fail)<;>cbv)
   ·rw[aH (by assumption:0≤g)]at hx2;rw[gJ hx hx2]at he;obtain rfl:e=9:=he;obtain rfl:R'=⟨carrier,L⟩:=hR'
    (refine .q9 ?_;cbv;exact .inl (.f9 hK))
   ·rw[aG (by omega)]at hx2;obtain rfl:z=nI (k+1):=bQ;exact bM ⟨k+1,by exact bQ,hno.succ hx hx2⟩ (bN bQ)
  ·obtain rfl:k=bq1.length:=bQ;rw[jA hno]at he
   ·rw[aH bQ]at he;obtain rfl:e=7:=he;obtain rfl:R'=⟨carrier,L⟩:=hR'
    (refine .q9 ?_;cbv;exact .inl (.f9 hK))
  ·obtain rfl:k=bq1.length:=bQ;rw[jA hno,aG bQ]at he;obtain rfl:e=0:=he;refine J1 [.blk 38 [.str carrier,.sl 11 (bJ iL L)],.blk 79 [.str nq1,.str cq1,.str sq1,.str frm1,.str to1,.sl 1 (bJ .str bq1),.sl 1 (bJ .str pq1),.i iq1,.bl lq1],.blk 38 [.str ⟨⟨[]⟩⟩,.v (.slice none 0 0)],.row 107 3 [.agg [.i 0,.str holder,.sl 4 []],.agg [.i 0,.str holder,.sl 4 []],.agg [.i 0,.str holder,.sl 4 []]],.row 104 11 (bJ iL L),.dead,.dead,.dead] Bc ?_;refine fJ 3 rfl ?_;cbv;refine Dj 3 rfl ?_;cbv
   (refine ZN hcp ⟨nq1,cq1,sq1,frm1,to1,bq1,pq1,iq1,lq1⟩ hok ?_;try dsimp only)
   cbv;repeat'((first|refine .zl fun zs hzs hzl=>?_|fail)<;>cbv)
   obtain⟨L',hL'⟩:∃L',L'=L++[(⟨⟨nq1,cq1,sq1,frm1,to1,bq1,pq1,iq1,lq1⟩,0,⟨0,holder,[]⟩,⟨0,holder,[]⟩,⟨0,holder,[]⟩⟩:Br)]:=⟨_,rfl⟩
   obtain rfl:R'=⟨carrier,L'⟩:=by rw[hR',hL'];rfl
   obtain rfl:zs=bJ iL L':=by(rw[hL',cB,cE];exact hzs)
   (refine .r9 (Gh.plain 4 rfl) ?_;cbv;exact .inl (.g9 hK))
def dA (a:At):Ak:=⟨a.bill,if a.kind=5 then -1 else a.index,if a.kind=1∨a.kind=5 then -1 else 0,a.by_,if a.kind=4 then 3 else 0,if a.kind=3 then 0 else a.day,!decide (a.kind=3),decide (a.kind=1) && iH a.by_ a.to⟩
def jF (a:At):List Int:=if a.kind=5∨(a.kind=1∧a.index=-1) then [0,1,2] else [a.index]
theorem IW (a:At):k1 (dA a)=decide (¬a.kind=5∧(a.index < 0∨2 < a.index)∧¬(a.kind=1∧a.index=-1)):=by
 obtain⟨kind,index,day,bill,by_,to,b⟩:=a;unfold k1 dA;dsimp only;rw[←Bool.decide_or];refine decide_eq_decide.2 ?_;by_cases h5:kind=5
 ·rw[aF h5,aF (.inr h5)];omega
 ·rw[aE h5];by_cases h1:kind=1
  ·rw[aF (.inl h1)];omega
  ·rw[aE (by omega)];omega
theorem Rw (a:At):k2 (dA a)=((!decide (a.kind=3) && !gM a.day) || (decide (a.kind=1) && iH a.by_ a.to)):=by
 obtain⟨kind,index,day,bill,by_,to,b⟩:=a;unfold k2 dA;dsimp only;by_cases h3:kind=3
 ·rw[aF h3,aH h3];cases (decide (kind=1) && iH by_ to)<;>rfl
 ·rw[aE h3,aG h3];cases (decide (kind=1) && iH by_ to)<;>cases gM day<;>rfl
theorem FU {a:At}(h:k1 (dA a)=false):∀k∈jF a,k=0∨k=1∨k=2:=by
 rw[IW]at h;have h:=of_decide_eq_false h;unfold jF;intro k hk
 split at hk
 ·simpa using hk
 ·obtain rfl:=List.mem_singleton.1 hk;omega
theorem qO {a:At}(h:k1 (dA a)=false) (b:Br) (p:Og→Bool):lH (dA a).index b p=(jF a).any fun k=>p (N8 k b):=by
 rw[IW]at h;have h:=of_decide_eq_false h;obtain⟨kind,index,day,bill,by_,to,bb⟩:=a;obtain⟨_,_,o0,o1,o2⟩:=b;unfold jF dA lH N8;dsimp only at h⊢;by_cases h5:kind=5∨(kind=1∧index=-1)
 ·rw[aF h5];have hi:(if kind=5 then (-1:Int) else index)=-1:=by
   split
   ·rfl
   ·omega
  rw[hi];have hh:∀k,fA (-1) k=true:=fun k=>mI (.inl rfl)
  rw[hh,hh,hh];show _=(p o0 || (p o1 || (p o2 || false)))
  cases p o0<;>cases p o1<;>cases p o2<;>rfl
 ·rw[aE h5,aE (by omega)];have hi:index=0∨index=1∨index=2:=by omega
  rcases hi with rfl|rfl|rfl
  ·show _=(p o0 || false)
   cases p o0<;>rfl
  ·show _=(p o1 || false)
   cases p o1<;>rfl
  ·show _=(p o2 || false)
   cases p o2<;>rfl
theorem M4 {α:Type}(c:Bool) (p:α→Bool):∀{l:List α},l≠[]→(c || l.any p)=l.any fun k=>c || p k
 |[],h=>absurd rfl h
 |x :: l,_=>by
  cases c with
  |true=>rw[List.any_cons];rfl
  |false=>rfl
theorem KC {α:Type}(c:Bool) (p:α→Bool) (l:List α):(c && l.any p)=l.any fun k=>c && p k:=by
 cases c with
 |true=>rfl
 |false=>
  have:(l.any fun k=>false && p k)=false:=by rw[List.any_eq_false];intro x _;simp
  rw[this];rfl
theorem MF (a:At):jF a≠[]:=by unfold jF;split<;>exact List.cons_ne_nil _ _
def UD (x:Br) (sv:Int) (k:Int):Bool:=!decide (x.st=0) || !decide ((N8 k x).state=sv)
def UM (x:Br) (by_:bH) (k:Int):Bool:=!decide ((N8 k x).holder=by_)
def Uq (x:Br) (kind day:Int) (k:Int):Bool:=!decide (kind=3) && decide (day < iV (N8 k x) x.b.issued)
theorem F4 {a:At}(h:k1 (dA a)=false) (x:Br):k3 x (dA a)=(jF a).any (UD x (if a.kind=4 then 3 else 0)):=by
 unfold k3;rw[qO h,M4 _ _ (MF a)];rfl
theorem EQ {a:At}(h:k1 (dA a)=false) (x:Br):k4 x (dA a)=(jF a).any (UM x a.by_):=by
 unfold k4;rw[qO h];rfl
theorem Gj {a:At}(h:k1 (dA a)=false) (x:Br):k5 x (dA a)=(jF a).any (Uq x a.kind a.day):=by
 unfold k5;rw[qO h,KC];congr 1;funext k;unfold Uq Bw dA;dsimp only;by_cases h3:a.kind=3
 ·rw[aH h3];rfl
 ·rw[aE h3]
def iA:Int→AV:=fun k=>.int .i64 k
def mR (κ:Int):dO:=spec (fun i:Rg×At=>[I8 i.1,Pm i.2]) (fun _=>[]) (fun i=>i.2.kind=κ∧i.1.bills.length≤256∧(∀b∈i.1.bills,qQ b)∧i.2.to.size≤maxLen) (fun i=>.i (eO i.1.bills (dA i.2))) fun _=>[]
def mX:dO:=spec (fun i:Rg×At=>[I8 i.1,Pm i.2]) (fun _=>[]) (fun i=>(1≤i.2.kind∧i.2.kind≤5)∧i.1.bills.length≤256∧(∀b∈i.1.bills,qQ b)∧i.2.to.size≤maxLen) (fun i=>.i (eO i.1.bills (dA i.2))) fun _=>[]
theorem Up {P:bI}{f:Nat}(h1:bK P f (mR 1)) (h2:bK P f (mR 2)) (h3:bK P f (mR 3)) (h4:bK P f (mR 4)) (h5:bK P f (mR 5)):bK P f mX:=by
 intro args H K hc;obtain⟨i,rfl,rfl,⟨hk,hp⟩,hK⟩:=hc;have h:i.2.kind=1∨i.2.kind=2∨i.2.kind=3∨i.2.kind=4∨i.2.kind=5:=by omega
 rcases h with h|h|h|h|h
 ·exact h1 _ _ K ⟨i,rfl,rfl,⟨h,hp⟩,hK⟩
 ·exact h2 _ _ K ⟨i,rfl,rfl,⟨h,hp⟩,hK⟩
 ·exact h3 _ _ K ⟨i,rfl,rfl,⟨h,hp⟩,hK⟩
 ·exact h4 _ _ K ⟨i,rfl,rfl,⟨h,hp⟩,hK⟩
 ·exact h5 _ _ K ⟨i,rfl,rfl,⟨h,hp⟩,hK⟩
open Classical in
open Classical in
open Classical in
def E6 (f t:bH) (d:Int):Og→Og
 |⟨s,_,c⟩=>⟨s,t,c++[⟨f,t,0,d⟩]⟩
def mC (a:At):Br→Br:=fun b=>
 if a.kind=1 then uC a.index (E6 a.by_ a.to a.day) b
 else if a.kind=2 then uC a.index (Bd 1) (Df 1 b)
 else if a.kind=3 then uC a.index (Bd 3) b
 else if a.kind=4 then uC a.index (Bd 0) b
 else Df 4 b
def pW (R:Rg) (a:At):oV:=⟨R,a.b,a.to⟩
def kM (R:Rg) (a:At):Rg×Int:=
 if a.kind=0 then (kD (pW R a),gQ (pW R a)) else (⟨R.carrier,gI R.bills (dA a) (mC a)⟩,eO R.bills (dA a))
structure KQ (i:Rg×At):Prop where
 kind:0≤i.2.kind∧i.2.kind≤5
 few:i.1.bills.length≤256
 all:∀b∈i.1.bills,qQ b∧yF b.b
 ok:yF i.2.b
 sz:Yd i.2.b
 tsz:i.2.to.size≤maxLen
def qA (κ:Int):dO:=spec (fun i:Rg×At=>[I8 i.1,Pm i.2]) (fun _=>[]) (fun i=>i.2.kind=κ∧KQ i) (fun i=>W6 (kM i.1 i.2)) fun _=>[]
theorem Kk (P:bI) (hi:bK P 96 tU):bO P Ky (qA 0):=by
 intro args H K hc;obtain⟨⟨⟨carrier,L⟩,a⟩,rfl,rfl,hp,hK⟩:=hc;refine⟨cM,?_⟩;dsimp only at hp hK⊢;obtain⟨hkind,_,hfew,hall,hok,hsz,hts⟩:=hp;have hp2:M6 (pW ⟨carrier,L⟩ a):=⟨hfew,fun b hb=>(hall b hb).2,hok,hsz,hts⟩
 have hd:kM ⟨carrier,L⟩ a=(kD (pW ⟨carrier,L⟩ a),gQ (pW ⟨carrier,L⟩ a)):=by unfold kM;rw[aF hkind]
 rw[hd]at hK;clear hd;obtain⟨kind,index,day,bill,by_,to,b⟩:=a;obtain rfl:kind=0:=hkind;obtain⟨⟨c2,L2⟩,hR⟩:∃R,R=kD (pW ⟨carrier,L⟩ ⟨0,index,day,bill,by_,to,b⟩):=⟨_,rfl⟩
 obtain⟨e,he⟩:∃e,e=gQ (pW ⟨carrier,L⟩ ⟨0,index,day,bill,by_,to,b⟩):=⟨_,rfl⟩
 rw[←hR,←he]at hK;unfold pW at hR he hp2;dsimp only at hR he hp2;obtain⟨nq1,cq1,sq1,frm1,to1,bq1,pq1,iq1,lq1⟩:=b;cbv;repeat'((first|refine .y fun h=>?_|fail)<;>cbv)
 (refine ZN hi (⟨⟨carrier,L⟩,⟨nq1,cq1,sq1,frm1,to1,bq1,pq1,iq1,lq1⟩,to⟩:oV) hp2 ?_;try dsimp only)
 rw[←hR,←he];cbv
 (refine .q9 ?_;cbv;exact .inl (.f9 hK))
set_option maxHeartbeats 1000000
def Ch (L:List Br) (s:bH):Option Br:=L.find? fun b=>decide (b.b.number=s)
theorem O6 (L:List Br) (s:bH):Ch L s=(qK L s).bind fun i=>L[i]?:=by
 unfold Ch qK lM;exact List.find?_eq_bind_findIdx?_getElem?
theorem uQ (L:List Br) (s:bH):(∃i y,qK L s=some i∧L[i]?=some y∧Ch L s=some y∧y.b.number=s)∨(qK L s=none∧Ch L s=none):=by
 have h:=O6 L s;cases hb:qK L s with
 |none=>rw[hb]at h;exact .inr ⟨rfl,h⟩
 |some i=>
  obtain⟨y,hy,hk⟩:=eL hb;rw[hb]at h;exact .inl ⟨i,y,rfl,hy,h.trans hy,hk⟩
theorem SV {L:List Br}{s:bH}{y:Br}(h:Ch L s=some y):y∈L∧y.b.number=s:=⟨List.mem_of_find?_eq_some h,by unfold Ch at h;have h2:=List.find?_some h;simpa using h2⟩
theorem L4 {L:List Br}(h:mE L) {x y:Br}(hx:x∈L) (hy:y∈L) (e:x.b.number=y.b.number):x=y:=by
 obtain⟨i,hi,rfl⟩:=List.mem_iff_getElem.1 hx;obtain⟨j,hj,rfl⟩:=List.mem_iff_getElem.1 hy;unfold mE at h;have:=sQ (l:=L.map fun b=>b.b.number) (i:=i) (j:=j) (hi:=by rw[aJ];exact hi) (hj:=by rw[aJ];exact hj) h (by rw[List.getElem_map,List.getElem_map];exact e);subst this;rfl
theorem Ri {L:List Br}(h:mE L) {y:Br}{s:bH}(hy:y∈L) (hs:y.b.number=s):Ch L s=some y:=by
 cases hl:Ch L s with
 |none=>
  unfold Ch at hl;rw[List.find?_eq_none]at hl;exact absurd (aH hs) (hl y hy)
 |some x=>
  obtain⟨h1,h2⟩:=SV hl;rw[L4 h h1 hy (h2.trans hs.symm)]
theorem PK (L:List Br) (a:Ak):eO L a=match Ch L a.bill with
  |some b=>oF b a
  |none=>4:=by
 unfold eO;rcases uQ L a.bill with ⟨i,y,h1,h2,h3,_⟩|⟨h1,h3⟩
 ·rw[h1,h3];dsimp only;rw[h2]
 ·rw[h1,h3]
theorem Qn (L:List Br) (s:bH):Bz L s=match Ch L s with
  |some b=>My s b
  |none=>[]:=by
 unfold Bz;rcases uQ L s with ⟨i,y,h1,h2,h3,_⟩|⟨h1,h3⟩
 ·rw[h1,h3];dsimp only;rw[h2]
 ·rw[h1,h3]
theorem Om {L:List Br}(hn:mE L) (s:bH) (f:Br→Br):BB L s f=L.map fun b=>if b.b.number=s then f b else b:=by
 rcases uQ L s with ⟨i,y,h1,h2,h3,h4⟩|⟨h1,h3⟩
 ·rw[gW f h1 h2];refine List.ext_getElem? fun j=>?_
  rw[List.getElem?_set,aD];have hi:=(aA.1 h2).1;by_cases hij:i=j
  ·subst hij;rw[aF rfl,aF hi,h2,Option.map_some,aF h4]
  ·rw[aE hij];cases hj:L[j]? with
   |none=>rfl
   |some z=>
    rw[Option.map_some];have:¬z.b.number=s:=fun e=>by
     obtain⟨hj1,rfl⟩:=aA.1 hj;obtain⟨hi1,rfl⟩:=aA.1 h2;unfold mE at hn;exact hij (sQ (l:=L.map fun b=>b.b.number) (i:=i) (j:=j) (hi:=by rw[aJ];exact hi1) (hj:=by rw[aJ];exact hj1) hn (by rw[List.getElem_map,List.getElem_map];exact h4.trans e.symm))
    rw[aE this]
 ·unfold BB;rw[h1];have hne:=NG h1;symm;have:(L.map fun b=>if b.b.number=s then f b else b)=L.map id:=List.map_congr_left fun b hb=>by rw[aE (hne b hb)];rfl
  dsimp only;rw[this,List.map_id]
structure zP (n:Nat) (o:Og):Prop where
 name:bT o.holder=true
 len:o.chain.length≤n
 kinds:∀e∈o.chain,e.kind=0
def Ae (s:Int):Prop:=s=0∨s=3
def Wf (st a b c:Int):Prop:=(st=0∧Ae a∧Ae b∧Ae c)∨(st=1∧((a=1∧b=2∧c=2)∨(a=2∧b=1∧c=2)∨(a=2∧b=2∧c=1)))∨(st=4∧a=2∧b=2∧c=2)
structure wR (n:Nat) (c:bH) (b:Br):Prop where
 may:yJ c b.b=true
 ok:yF b.b
 h0:zP n b.o0
 h1:zP n b.o1
 h2:zP n b.o2
 st:Wf b.st b.o0.state b.o1.state b.o2.state
structure C1 (n:Nat) (R:Rg):Prop where
 nd:mE R.bills
 few:R.bills.length≤256
 all:∀b∈R.bills,wR n R.carrier b
 dis:∀b1∈R.bills,∀b2∈R.bills,b1.st=0→b2.st=0→∀x∈b1.b.boxes,x∈b2.b.boxes→b1.b.number=b2.b.number
theorem zP.mono {n m:Nat}{o:Og}(h:zP n o) (hm:n≤m):zP m o:=⟨h.name,Nat.le_trans h.len hm,h.kinds⟩
theorem wR.mono {n m:Nat}{c:bH}{b:Br}(h:wR n c b) (hm:n≤m):wR m c b:=⟨h.may,h.ok,h.h0.mono hm,h.h1.mono hm,h.h2.mono hm,h.st⟩
theorem C1.mono {n m:Nat}{R:Rg}(h:C1 n R) (hm:n≤m):C1 m R:=⟨h.nd,h.few,fun b hb=>(h.all b hb).mono hm,h.dis⟩
theorem C1.inB {n:Nat}{R:Rg}(h:C1 n R) (hn:n≤4500):∀b∈R.bills,inB b:=fun b hb=>by
 have:=h.all b hb;exact⟨⟨Nat.le_trans this.h0.len hn,Nat.le_trans this.h1.len hn,Nat.le_trans this.h2.len hn⟩,this.ok⟩
theorem IG (n:Nat) (c:bH):C1 n ⟨c,[]⟩:=⟨.nil,by simp,fun b hb=>(by cases hb),fun b hb=>(by cases hb)⟩
structure WS (b:Br) (a:Ak):Prop where
 ix:a.least≤a.index∧a.index < 3
 right:a.wrong=false
 day:a.dated=true→gM a.day=true
 live:b.st=0
 s3:lH a.index b (pC a)=false
 h3:lH a.index b (jQ a)=false
 d3:a.dated=true→lH a.index b (Bw b a)=false
theorem Jy {b:Br}{a:Ak}(h:oF b a=0):WS b a:=by
 have hx:=mO h;unfold oF at h
 split at h
 ·exact absurd h (by decide)
 split at h
 ·exact absurd h (by decide)
 rename_i h2
 split at h
 ·exact absurd h (by decide)
 rename_i h3
 split at h
 ·exact absurd h (by decide)
 rename_i h4
 split at h
 ·exact absurd h (by decide)
 rename_i h5;unfold k2 at h2;unfold k3 at h3;unfold k4 at h4;unfold k5 at h5;simp only[Bool.or_eq_true,not_or,Bool.not_eq_true,aO,Bool.not_eq_true',decide_eq_false_iff_not,Decidable.not_not,not_and,Bool.not_eq_false]at h2 h3 h4 h5;exact⟨hx,h2.1,fun h=>by simpa using h2.2 h,by simpa using h3.1,h3.2,h4,fun h=>by simpa using h5 h⟩
theorem LN {idx:Int}{b:Br}{p:Og→Bool}(h:lH idx b p=false):(fA idx 0=true→p b.o0=false)∧(fA idx 1=true→p b.o1=false)∧(fA idx 2=true→p b.o2=false):=by
 unfold lH at h;cases h0:fA idx 0<;>cases h1:fA idx 1<;>cases h2:fA idx 2<;>simp[h0,h1,h2]at h⊢<;>simp[h]
theorem xK (idx:Int) (f:Og→Og) (b:Br):(uC idx f b).b=b.b∧(uC idx f b).st=b.st:=by obtain⟨_,_,_,_,_⟩:=b;exact⟨rfl,rfl⟩
theorem Dd (s:Int) (b:Br):(Df s b).b=b.b∧(Df s b).st=s:=by obtain⟨_,_,_,_,_⟩:=b;exact⟨rfl,rfl⟩
theorem Tm (a:At) (b:Br):(mC a b).b=b.b:=by
 unfold mC
 split
 ·exact(xK _ _ _).1
 split
 ·rw[(xK _ _ _).1,(Dd _ _).1]
 split
 ·exact(xK _ _ _).1
 split
 ·exact(xK _ _ _).1
 ·exact(Dd _ _).1
theorem K4 (a:At) (b:Br) (h:(mC a b).st=0):b.st=0:=by
 unfold mC at h
 split at h
 ·rwa [(xK _ _ _).2]at h
 split at h
 ·rw[(xK _ _ _).2,(Dd _ _).2]at h;cases h
 split at h
 ·rwa [(xK _ _ _).2]at h
 split at h
 ·rwa [(xK _ _ _).2]at h
 ·rw[(Dd _ _).2]at h;cases h
theorem gZ {n:Nat}{s:Int}{o:Og}(h:zP n o):zP (n+1) (Bd s o):=by
 obtain⟨a,b,c⟩:=o;exact⟨h.name,Nat.le_succ_of_le h.len,h.kinds⟩
theorem CV {n:Nat}{f t:bH}{d:Int}{o:Og}(h:zP n o) (ht:bT t=true):zP (n+1) (E6 f t d o):=by
 obtain⟨a,b,c⟩:=o;refine⟨ht,?_,fun e he=>?_⟩
 ·show (c++[_]).length≤n+1;have h1:c.length≤n:=h.len;rw[aM,List.length_singleton];omega
 ·rcases List.mem_append.1 he with h1|h1
  ·exact h.kinds e h1
  ·obtain rfl:=List.mem_singleton.1 h1;rfl
theorem BP {f t:bH}(h:iH f t=false):bT t=true∧¬t=f:=by
 unfold iH at h;simp only[Bool.or_eq_false_iff,Bool.not_eq_false',decide_eq_false_iff_not]at h;exact h
theorem PP {n:Nat}{c:bH}{b:Br}{a:At}(h:wR n c b) (hk:1≤a.kind∧a.kind≤5) (he:oF b (dA a)=0):wR (n+1) c (mC a b):=by
 have hd:=Jy he;obtain⟨kind,index,day,bill,by_,to,bb⟩:=a;obtain⟨b,st,⟨s0,y0,c0⟩,⟨s1,y1,c1⟩,⟨s2,y2,c2⟩⟩:=b;obtain⟨hmay,hok,h0,h1,h2,hst⟩:=h;obtain⟨hix,hright,hday,hlive,hs3,hh3,hd3⟩:=hd;unfold dA at *;dsimp only at *;subst hlive;have hst:Ae s0∧Ae s1∧Ae s2:=by
  rcases hst with ⟨_,h⟩|⟨h,_⟩|⟨h,_⟩
  ·exact h
  ·exact absurd h (by decide)
  ·exact absurd h (by decide)
 obtain⟨t0,t1,t2⟩:=hst;have g0:=h0.mono (Nat.le_succ n);have g1:=h1.mono (Nat.le_succ n);have g2:=h2.mono (Nat.le_succ n);have hk5:kind=1∨kind=2∨kind=3∨kind=4∨kind=5:=by omega
 rcases hk5 with rfl|rfl|rfl|rfl|rfl
 ·have hw:iH by_ to=false:=hright;have hto:=(BP hw).1;show wR (n+1) c (uC index (E6 by_ to day) ⟨b,0,⟨s0,y0,c0⟩,⟨s1,y1,c1⟩,⟨s2,y2,c2⟩⟩);unfold uC;dsimp only;cases fA index 0<;>cases fA index 1<;>cases fA index 2<;>exact⟨hmay,hok,by first|exact g0|exact CV h0 hto,by first|exact g1|exact CV h1 hto,by first|exact g2|exact CV h2 hto,.inl ⟨rfl,t0,t1,t2⟩⟩
 ·have hix:(0:Int)≤index∧index < 3:=hix;show wR (n+1) c (uC index (Bd 1) (Df 1 ⟨b,0,⟨s0,y0,c0⟩,⟨s1,y1,c1⟩,⟨s2,y2,c2⟩⟩));have hi3:index=0∨index=1∨index=2:=by omega
  rcases hi3 with rfl|rfl|rfl
  ·exact⟨hmay,hok,gZ (s:=1) h0,gZ (s:=2) h1,gZ (s:=2) h2,.inr (.inl ⟨rfl,.inl ⟨rfl,rfl,rfl⟩⟩)⟩
  ·exact⟨hmay,hok,gZ (s:=2) h0,gZ (s:=1) h1,gZ (s:=2) h2,.inr (.inl ⟨rfl,.inr (.inl ⟨rfl,rfl,rfl⟩)⟩)⟩
  ·exact⟨hmay,hok,gZ (s:=2) h0,gZ (s:=2) h1,gZ (s:=1) h2,.inr (.inl ⟨rfl,.inr (.inr ⟨rfl,rfl,rfl⟩)⟩)⟩
 ·show wR (n+1) c (uC index (Bd 3) ⟨b,0,⟨s0,y0,c0⟩,⟨s1,y1,c1⟩,⟨s2,y2,c2⟩⟩);unfold uC;dsimp only;cases fA index 0<;>cases fA index 1<;>cases fA index 2<;>exact⟨hmay,hok,by first|exact g0|exact gZ (s:=3) h0,by first|exact g1|exact gZ (s:=3) h1,by first|exact g2|exact gZ (s:=3) h2,.inl ⟨rfl,by first|exact t0|exact .inr rfl,by first|exact t1|exact .inr rfl,by first|exact t2|exact .inr rfl⟩⟩
 ·show wR (n+1) c (uC index (Bd 0) ⟨b,0,⟨s0,y0,c0⟩,⟨s1,y1,c1⟩,⟨s2,y2,c2⟩⟩);unfold uC;dsimp only;cases fA index 0<;>cases fA index 1<;>cases fA index 2<;>exact⟨hmay,hok,by first|exact g0|exact gZ (s:=0) h0,by first|exact g1|exact gZ (s:=0) h1,by first|exact g2|exact gZ (s:=0) h2,.inl ⟨rfl,by first|exact t0|exact .inl rfl,by first|exact t1|exact .inl rfl,by first|exact t2|exact .inl rfl⟩⟩
 ·exact⟨hmay,hok,gZ (s:=2) h0,gZ (s:=2) h1,gZ (s:=2) h2,.inr (.inr ⟨rfl,rfl,rfl,rfl⟩)⟩
theorem Nd {L:List Br}(hn:mE L) {a:Ak}(h:eO L a=0) {b:Br}(hb:b∈L) (hs:b.b.number=a.bill):oF b a=0:=by
 rw[PK,Ri hn hb hs]at h;exact h
theorem AC {L:List Br}(hn:mE L) (a:Ak) (f:Br→Br) (h:eO L a=0):gI L a f=L.map fun b=>if b.b.number=a.bill then f b else b:=by
 unfold gI;rw[aF h,Om hn]
theorem Ef {L:List Br}(a:Ak) (f:Br→Br) (h:¬eO L a=0):gI L a f=L:=by unfold gI;rw[aE h]
theorem Qw {n:Nat}{R:Rg}(h:C1 n R) {a:At}(hk:1≤a.kind∧a.kind≤5):C1 (n+1) ⟨R.carrier,gI R.bills (dA a) (mC a)⟩:=by
 by_cases h0:eO R.bills (dA a)=0
 ·rw[AC h.nd _ _ h0];have hnum:∀b:Br,(if b.b.number=(dA a).bill then mC a b else b).b=b.b:=fun b=>by
   split
   ·exact Tm a b
   ·rfl
  have hlive:∀b:Br,(if b.b.number=(dA a).bill then mC a b else b).st=0→b.st=0:=fun b=>by
   split
   ·exact K4 a b
   ·exact id
  refine⟨?_,by rw[aJ];exact h.few,fun b hb=>?_,fun b1 h1 b2 h2 l1 l2 x hx1 hx2=>?_⟩
  ·unfold mE;rw[List.map_map];have e:((fun b:Br=>b.b.number) ∘ fun b=>if b.b.number=(dA a).bill then mC a b else b)=fun b=>b.b.number:=by funext b;show (ite _ _ _:Br).b.number=_;rw[hnum]
   rw[e];exact h.nd
  ·obtain⟨y,hy,rfl⟩:=aX.1 hb
   split
   ·rename_i hs;exact PP (h.all y hy) hk (Nd h.nd h0 hy hs)
   ·exact(h.all y hy).mono (Nat.le_succ n)
  ·obtain⟨y1,hy1,rfl⟩:=aX.1 h1;obtain⟨y2,hy2,rfl⟩:=aX.1 h2;rw[hnum]at hx1 hx2⊢;rw[hnum];exact h.dis y1 hy1 y2 hy2 (hlive y1 l1) (hlive y2 l2) x hx1 hx2
 ·rw[Ef _ _ h0];exact(h.mono (Nat.le_succ n))
theorem Wk (i:oV):i2 i=(Ch i.R.bills i.b.number).isSome:=by
 unfold i2;rcases uQ i.R.bills i.b.number with ⟨k,y,h1,h2,h3,_⟩|⟨h1,h3⟩
 ·rw[h1,h3];rfl
 ·rw[h1,h3];rfl
theorem Nn (i:oV):i3 i=i.b.boxes.any fun x=>i.R.bills.any (lN x):=by
 unfold i3;congr 1;funext x;exact EP _ _
theorem KG {i:oV}(h:gQ i=0):i1 i=false∧i2 i=false∧i3 i=false∧i4 i=false:=by
 unfold gQ at h
 split at h
 ·exact absurd h (by decide)
 rename_i h1
 split at h
 ·exact absurd h (by decide)
 rename_i h2
 split at h
 ·exact absurd h (by decide)
 rename_i h3
 split at h
 ·exact absurd h (by decide)
 rename_i h4;simp only[Bool.not_eq_true]at h1 h2 h3 h4;exact⟨h1,h2,h3,h4⟩
theorem E4 {i:oV}(h:gQ i=0):kD i=⟨i.R.carrier,i.R.bills++[So i.b i.holder]⟩:=by unfold kD;rw[aF h]
theorem P6 {i:oV}(h:¬gQ i=0):kD i=i.R:=by unfold kD;rw[aE h]
theorem MX (x:bH) (b:Br):lN x b=true↔b.st=0∧x∈b.b.boxes:=by
 unfold lN;simp only[aO,decide_eq_true_eq,List.any_eq_true];constructor
 ·rintro ⟨h1,y,hy,rfl⟩;exact⟨h1,hy⟩
 ·rintro ⟨h1,h2⟩;exact⟨h1,x,h2,rfl⟩
theorem Eb {n:Nat}{i:oV}(h:C1 n i.R) (hok:yF i.b):C1 n (kD i):=by
 by_cases h0:gQ i=0
 ·obtain⟨e1,e2,e3,e4⟩:=KG h0;rw[E4 h0];unfold i1 at e1;simp only[Bool.or_eq_false_iff,Bool.not_eq_false']at e1;rw[Wk]at e2;have e2:Ch i.R.bills i.b.number=none:=by simpa using e2
  rw[Nn]at e3;unfold i4 at e4;have e4:=of_decide_eq_false e4;have hbox:∀x∈i.b.boxes,∀b∈i.R.bills,b.st=0→¬x∈b.b.boxes:=fun x hx b hb hl hin=>by
   have h1:=List.any_eq_false.1 e3 x hx;exact h1 (List.any_eq_true.2 ⟨b,hb,(MX x b).2 ⟨hl,hin⟩⟩)
  have og:zP n ⟨0,i.holder,[]⟩:=⟨e1.2,aI _,fun e he=>(by cases he)⟩
  refine⟨?_,?_,fun b hb=>?_,fun b1 h1 b2 h2 l1 l2 x hx1 hx2=>?_⟩
  ·unfold mE;rw[List.map_append,List.nodup_append];refine⟨h.nd,List.nodup_cons.2 ⟨by simp,.nil⟩,fun s hs t ht e=>?_⟩;obtain rfl:=List.mem_singleton.1 ht;obtain⟨b,hb,hbs⟩:=aX.1 hs;have:=Ri h.nd hb (hbs.trans e);exact absurd (e2.symm.trans this) (by simp)
  ·show (i.R.bills++[_]).length≤256;rw[aM,List.length_singleton];omega
  ·rcases List.mem_append.1 hb with h1|h1
   ·exact h.all b h1
   ·obtain rfl:=List.mem_singleton.1 h1;exact⟨e1.1,hok,og,og,og,.inl ⟨rfl,.inl rfl,.inl rfl,.inl rfl⟩⟩
  ·rcases List.mem_append.1 h1 with g1|g1<;>rcases List.mem_append.1 h2 with g2|g2
   ·exact h.dis b1 g1 b2 g2 l1 l2 x hx1 hx2
   ·obtain rfl:=List.mem_singleton.1 g2;exact absurd hx1 (hbox x hx2 b1 g1 l1)
   ·obtain rfl:=List.mem_singleton.1 g1;exact absurd hx2 (hbox x hx1 b2 g2 l2)
   ·rw[List.mem_singleton.1 g1,List.mem_singleton.1 g2]
 ·rw[P6 h0];exact h
theorem Js {R:Rg}{a:At}(h:a.kind=0):kM R a=(kD (pW R a),gQ (pW R a)):=by unfold kM;rw[aF h]
theorem Dg {R:Rg}{a:At}(h:¬a.kind=0):kM R a=(⟨R.carrier,gI R.bills (dA a) (mC a)⟩,eO R.bills (dA a)):=by unfold kM;rw[aE h]
theorem OI {n:Nat}{R:Rg}(h:C1 n R) {a:At}(hk:0≤a.kind∧a.kind≤5) (hok:yF a.b):C1 (n+1) (kM R a).1:=by
 by_cases h0:a.kind=0
 ·rw[Js h0];exact(Eb (i:=pW R a) h hok).mono (Nat.le_succ n)
 ·rw[Dg h0];exact Qw h (by omega)
def Ti (a:At):Br→Br:=if a.kind=1 then uC a.index (tK a.by_ a.to a.day) else mC a
def xU (R:Rg) (a:At):Rg:=if a.kind=0 then kD (pW R a) else ⟨R.carrier,gI R.bills (dA a) (Ti a)⟩
theorem K6 {f t:bH}{d:Int}(hf:bT f=true) (ht:bT t=true) (hn:¬t=f) (hd:gM d=true):(lW f [⟨f,t,0,d⟩]).1=t:=by
 have hm:xX ⟨f,t,0,d⟩=true:=by
  unfold gM at hd;unfold xX;dsimp only;rw[hf,hd,ht,aG hn];rfl
 have hw:mB f [] ⟨f,t,0,d⟩=0:=by
  unfold mB;dsimp only;rw[hm];have k2:pR [] 2=false:=rfl;have k1:Gr [] d=false:=rfl;rw[k2,k1];simp
 unfold lW;rw[hf,aE (by decide),iN,aF hw,iN]
theorem Pt {h f t:bH}{d:Int}{s:Int}{c:List pU}(he:h=f) (hf:bT h=true) (ht:bT t=true) (hn:¬t=f) (hd:gM d=true):tK f t d ⟨s,h,c⟩=E6 f t d ⟨s,h,c⟩:=by
 subst he;unfold tK E6;dsimp only;rw[K6 hf ht hn hd]
theorem P4 {n:Nat}{c:bH}{b:Br}{a:At}(h:wR n c b) (he:oF b (dA a)=0):Ti a b=mC a b:=by
 unfold Ti
 split
 ·rename_i hk;have hd:=Jy he;obtain⟨kind,index,day,bill,by_,to,bb⟩:=a;obtain⟨b,st,⟨s0,y0,c0⟩,⟨s1,y1,c1⟩,⟨s2,y2,c2⟩⟩:=b;obtain⟨hmay,hok,h0,h1,h2,hst⟩:=h;obtain⟨hix,hright,hday,hlive,hs3,hh3,hd3⟩:=hd;obtain rfl:kind=1:=hk;have hw:iH by_ to=false:=hright;obtain⟨w1,w2⟩:=BP hw;have hdy:gM day=true:=hday rfl;obtain⟨q0,q1,q2⟩:=LN hh3;have hpick:∀(q:Bool) (s:Int) (y:bH) (c:List pU),(q=true→jQ (dA ⟨1,index,day,bill,by_,to,bb⟩) ⟨s,y,c⟩=false)→bT y=true→(bif q then tK by_ to day ⟨s,y,c⟩ else ⟨s,y,c⟩)=(bif q then E6 by_ to day ⟨s,y,c⟩ else ⟨s,y,c⟩):=fun q s y c hq hy=>by
   cases q with
   |false=>rfl
   |true=>
    have h1:=hq rfl;unfold jQ at h1;simp only[Bool.not_eq_false',decide_eq_true_eq]at h1;exact Pt h1 hy w1 w2 hdy
  show uC index (tK by_ to day) ⟨b,st,⟨s0,y0,c0⟩,⟨s1,y1,c1⟩,⟨s2,y2,c2⟩⟩=uC index (E6 by_ to day) ⟨b,st,⟨s0,y0,c0⟩,⟨s1,y1,c1⟩,⟨s2,y2,c2⟩⟩;have e0:=hpick (fA index 0) s0 y0 c0 q0 h0.name;have e1:=hpick (fA index 1) s1 y1 c1 q1 h1.name;have e2:=hpick (fA index 2) s2 y2 c2 q2 h2.name;unfold uC;dsimp only;rw[e0,e1,e2]
 ·rfl
theorem SW {n:Nat}{R:Rg}(h:C1 n R) (a:At):xU R a=(kM R a).1:=by
 unfold xU
 split
 ·rename_i hk;rw[Js hk]
 ·rename_i hk;rw[Dg hk];by_cases h0:eO R.bills (dA a)=0
  ·rw[AC h.nd _ _ h0,AC h.nd _ _ h0];congr 1;refine List.map_congr_left fun b hb=>?_
   split
   ·rename_i hs;exact P4 (h.all b hb) (Nd h.nd h0 hb hs)
   ·rfl
  ·rw[Ef _ _ h0,Ef _ _ h0]
def leB (a b:bH):Prop:=iT a≤iT b
theorem Cg {a b c:bH}(h:leB a b) (k:leB b c):leB a c:=List.le_trans h k
theorem Nh {a b:bH}(h:leB a b) (k:leB b a):a=b:=by
 have:=List.le_antisymm h k;rw[←nA a,←nA b,this]
theorem Cd {a b:bH}(h:iB a b=true):leB a b:=List.le_of_lt (of_decide_eq_true h)
theorem qR {a b:bH}(h:iB a b=false):leB b a:=List.not_lt.1 (of_decide_eq_false h)
theorem uF (l:List bH):(eA l).Pairwise leB:=by
 have ht:∀a b c:List UInt8,decide (a≤b)=true→decide (b≤c)=true→decide (a≤c)=true:=fun a b c h1 h2=>aH (List.le_trans (of_decide_eq_true h1) (of_decide_eq_true h2))
 have hs:∀a b:List UInt8,(decide (a≤b) || decide (b≤a))=true:=fun a b=>by
  rcases List.le_total a b with h|h
  ·rw[aH h];rfl
  ·rw[aH h];exact Bool.or_true _
 unfold eA;rw[List.pairwise_map];refine(List.pairwise_mergeSort ht hs (l.map iT)).imp fun {a b} h=>?_
 show iT (iC a)≤iT (iC b);exact of_decide_eq_true h
theorem kV (l:List bH):(eA l).Perm l:=by
 unfold eA;have h:=((List.mergeSort_perm (l.map iT) fun x y=>decide (x≤y)).map iC)
 rw[List.map_map]at h;have e:(iC ∘ iT)=id:=funext nA;rw[e,List.map_id]at h;exact h
theorem Cu {l m:List bH}(hl:l.Pairwise leB) (hm:m.Pairwise leB) (h:l.Perm m):l=m:=List.Perm.eq_of_pairwise (le:=leB) (fun a b _ _=>Nh) hl hm h
theorem B6 (l:List bH) (s:bH):(pZ l s).Perm (s :: l):=by
 unfold pZ;refine List.perm_middle.trans ?_;rw[List.takeWhile_append_dropWhile]
theorem Gg {l:List bH}(s:bH) (h:l.Pairwise leB):(pZ l s).Pairwise leB:=by
 induction l with
 |nil=>exact List.pairwise_cons.2 ⟨fun x hx=>(by cases hx),.nil⟩
 |cons x l ih=>
  obtain⟨h1,h2⟩:=List.pairwise_cons.1 h;unfold pZ;rw[List.takeWhile_cons,List.dropWhile_cons];cases hx:iB x s with
  |true=>
   refine List.pairwise_cons.2 ⟨fun y hy=>?_,ih h2⟩;have:=(B6 l s).mem_iff.1 hy;rcases List.mem_cons.1 this with rfl|h3
   ·exact Cd hx
   ·exact h1 y h3
  |false=>
   refine List.pairwise_cons.2 ⟨fun y hy=>?_,h⟩;rcases List.mem_cons.1 hy with rfl|h3
   ·exact qR hx
   ·exact Cg (qR hx) (h1 y h3)
theorem JU (l:List bH):qH l=eA l:=by
 have h:∀(l a:List bH),a.Pairwise leB→(l.foldl pZ a).Pairwise leB∧(l.foldl pZ a).Perm (a++l):=by
  intro l
  induction l with
  |nil=>intro a ha;rw[List.append_nil];exact⟨ha,.refl _⟩
  |cons x l ih=>
   intro a ha;rw[List.foldl_cons];obtain⟨h1,h2⟩:=ih (pZ a x) (Gg x ha);exact⟨h1,h2.trans (((B6 a x).append_right l).trans (List.perm_middle.symm))⟩
 obtain⟨h1,h2⟩:=h l [] .nil;exact Cu h1 (uF l) (h2.trans (kV l).symm)
theorem Qp (L:List Br) (p:Br→Bool):Wn L p=gR L p:=JU _
theorem Gt {L:List Br}{p:Br→Bool}{s:bH}:s∈gR L p↔ ∃b∈L,p b=true∧b.b.number=s:=by
 unfold gR;rw[(kV _).mem_iff,List.mem_filterMap];constructor
 ·rintro ⟨b,hb,h⟩;unfold gN at h;cases hp:p b<;>rw[hp]at h
  ·cases h
  ·cases h;exact⟨b,hb,hp,rfl⟩
 ·rintro ⟨b,hb,hp,rfl⟩;exact⟨b,hb,by unfold gN;rw[hp];rfl⟩
section
variable {α:Type}
def gV (key:α→bH) (L:List α) (s:bH):Option α:=L.find? fun b=>decide (key b=s)
theorem IH (key:α→bH) (L:List α) (s:bH):gV key L s=(lM key L s).bind fun i=>L[i]?:=by
 unfold gV lM;rw[List.find?_eq_bind_findIdx?_getElem?]
theorem nL {key:α→bH}{L:List α}{s:bH}{i:Nat}{y:α}(h:lM key L s=some i) (hy:L[i]?=some y):gV key L s=some y:=by
 rw[IH,h];exact hy
theorem sM {key:α→bH}{L:List α}{s:bH}(h:lM key L s=none):gV key L s=none:=by
 rw[IH,h];rfl
theorem jY {key:α→bH}{L:List α}{s:bH}{y:α}(h:gV key L s=some y):y∈L∧key y=s:=⟨List.mem_of_find?_eq_some h,by unfold gV at h;have h2:=List.find?_some h;simpa using h2⟩
theorem iJ {key:α→bH}{L:List α}{s:bH}(h:gV key L s=none) {y:α}(hy:y∈L):key y≠s:=by
 unfold gV at h;rw[List.find?_eq_none]at h;have:=h y hy;simpa using this
theorem sT {key:α→bH}{L:List α}(h:(L.map key).Nodup) {y:α}{s:bH}(hy:y∈L) (hs:key y=s):gV key L s=some y:=by
 cases hl:gV key L s with
 |none=>exact absurd hs (iJ hl hy)
 |some x=>
  obtain⟨hx,hxs⟩:=jY hl;congr 1
  induction L with
  |nil=>cases hy
  |cons a L ih=>
   rw[List.map_cons,List.nodup_cons]at h;rcases List.mem_cons.1 hy with rfl|hy1
   ·rcases List.mem_cons.1 hx with rfl|hx1
    ·rfl
    ·exact absurd (aX.2 ⟨x,hx1,hxs.trans hs.symm⟩) h.1
   ·rcases List.mem_cons.1 hx with rfl|hx1
    ·exact absurd (aX.2 ⟨y,hy1,hs.trans hxs.symm⟩) h.1
    ·exact ih h.2 hy1 (by
      cases h3:gV key L s with
      |none=>exact absurd hs (iJ h3 hy1)
      |some z=>
       have:key a≠s:=fun e=>h.1 (aX.2 ⟨y,hy1,hs.trans e.symm⟩)
       unfold gV at hl h3;rw[List.find?_cons_of_neg (by simpa using this)]at hl;rw[←h3,hl]) hx1
theorem ER {key:α→bH}{L L':List α}(p:L.Perm L') (h:(L.map key).Nodup) (s:bH):gV key L s=gV key L' s:=by
 have h':(L'.map key).Nodup:=(p.map key).nodup_iff.1 h;cases hl:gV key L' s with
 |some y=>
  obtain⟨hy,hs⟩:=jY hl;exact sT h (p.mem_iff.2 hy) hs
 |none=>
  cases hk:gV key L s with
  |none=>rfl
  |some y=>
   obtain⟨hy,hs⟩:=jY hk;exact absurd hs (iJ hl (p.mem_iff.1 hy))
theorem yT (key:α→bH) (L M:List α) (s:bH):gV key (L++M) s=(gV key L s).or (gV key M s):=by
 unfold gV;rw[List.find?_append]
def jC (key:α→bH) (L:List α) (s:bH) (f:α→α):List α:=L.map fun b=>if key b=s then f b else b
theorem wG {key:α→bH}(L:List α) (s:bH) {f:α→α}(hf:∀b,key (f b)=key b):(jC key L s f).map key=L.map key:=by
 unfold jC;rw[List.map_map];refine List.map_congr_left fun b _=>?_
 show key (if key b=s then f b else b)=key b
 split
 ·exact hf b
 ·rfl
theorem yW {key:α→bH}(L:List α) (s t:bH) {f:α→α}(hf:∀b,key (f b)=key b):gV key (jC key L s f) t=if t=s then (gV key L t).map f else gV key L t:=by
 unfold gV jC;rw[List.find?_map];have e:((fun b=>decide (key b=t)) ∘ fun b=>if key b=s then f b else b)=fun b=>decide (key b=t):=by
  funext b;show decide (key (if key b=s then f b else b)=t)=_
  split
  ·rw[hf b]
  ·rfl
 rw[e];cases hx:L.find? fun b=>decide (key b=t) with
 |none=>split<;>rfl
 |some y=>
  have hy:key y=t:=by have:=List.find?_some hx;simpa using this
  rw[Option.map_some,hy];by_cases h:t=s
  ·rw[aF h,aF h];rfl
  ·rw[aE h,aE h]
theorem nW {key:α→bH}{L:List α}(h:(L.map key).Nodup) {s:bH}{i:Nat}{y:α}(f:α→α) (hi:lM key L s=some i) (hy:L[i]?=some y):jC key L s f=L.set i (f y):=by
 obtain⟨z,hz,hzs⟩:=eL hi;rw[hy]at hz;cases hz;obtain⟨hil,rfl⟩:=aA.1 hy;unfold jC;refine List.ext_getElem (by rw[aJ,bA]) fun j h1 h2=>?_
 rw[List.getElem_map,List.getElem_set];have hjl:j < L.length:=by rw[bA]at h2;exact h2
 by_cases e:i=j
 ·subst e;rw[aF rfl,aF hzs]
 ·rw[aE e,aE fun hk=>e ?_];have:=List.pairwise_iff_getElem.1 h;rcases Nat.lt_trichotomy i j with h3|h3|h3
  ·exact absurd (by rw[List.getElem_map,List.getElem_map,hzs,hk]) (this i j (by rw[aJ];exact hil) (by rw[aJ];exact hjl) h3)
  ·exact h3
  ·exact absurd (by rw[List.getElem_map,List.getElem_map,hzs,hk]) (this j i (by rw[aJ];exact hjl) (by rw[aJ];exact hil) h3)
end
structure eF where
 box:bH
 frm:bH
 to:bH
 place:bH
 day:Int
deriving instance DecidableEq for eF
structure cZ where
 box:bH
 hist:List eF
def iW (H:List eF) (s:bH):List eF:=H.filter fun h=>decide (h.box=s)
theorem kS (H:List eF) (x:eF) (s:bH):iW (H++[x]) s=iW H s++if x.box=s then [x] else []:=by
 unfold iW;rw[List.filter_append];congr 1;by_cases h:x.box=s
 ·rw[aF h,List.filter_cons_of_pos (by simpa using h)];rfl
 ·rw[aE h,List.filter_cons_of_neg (by simpa using h)];rfl
structure kY (L:List cZ) (H:List eF):Prop where
 nd:(L.map cZ.box).Nodup
 no:∀s,gV cZ.box L s=none→iW H s=[]
 yes:∀s b,gV cZ.box L s=some b→b.hist=iW H s∧iW H s≠[]
theorem kY.nil:kY [] []:=⟨.nil,fun _ _=>rfl,fun s b h=>by cases h⟩
theorem kY.perm {L L':List cZ}{H:List eF}(h:kY L H) (p:L.Perm L'):kY L' H:=
 ⟨(p.map _).nodup_iff.1 h.nd,fun s hs=>h.no s (by rw[ER p h.nd];exact hs),fun s b hs=>h.yes s b (by rw[ER p h.nd];exact hs)⟩
theorem kY.begin {L:List cZ}{H:List eF}(h:kY L H) {x:eF}(hn:gV cZ.box L x.box=none):kY (L++[⟨x.box,[x]⟩]) (H++[x]):=by
 refine⟨?_,fun s hs=>?_,fun s b hs=>?_⟩
 ·rw[List.map_append,List.nodup_append];refine⟨h.nd,by simp,fun a ha b hb e=>?_⟩;subst e;obtain⟨y,hy,hya⟩:=aX.1 ha;simp only[List.map_cons,List.map_nil,List.mem_singleton]at hb;exact iJ hn hy (hya.trans hb)
 ·rw[yT]at hs;cases h1:gV cZ.box L s with
  |some y=>rw[h1]at hs;cases hs
  |none=>
   rw[h1]at hs;have hne:¬x.box=s:=fun e=>by
    have:gV cZ.box [(⟨x.box,[x]⟩:cZ)] s=some ⟨x.box,[x]⟩:=List.find?_cons_of_pos (by simpa using e);rw[this]at hs;cases hs
   rw[kS,aE hne,h.no s h1];rfl
 ·rw[yT]at hs;cases h1:gV cZ.box L s with
  |some y=>
   rw[h1]at hs;cases hs;have hne:¬x.box=s:=fun e=>by rw[e,h1]at hn;cases hn
   rw[kS,aE hne,List.append_nil];exact h.yes s b h1
  |none=>
   rw[h1]at hs;by_cases e:x.box=s
   ·have:gV cZ.box [(⟨x.box,[x]⟩:cZ)] s=some ⟨x.box,[x]⟩:=List.find?_cons_of_pos (by simpa using e);rw[this]at hs;cases hs;rw[kS,aF e,h.no s h1];exact⟨rfl,by simp⟩
   ·have:gV cZ.box [(⟨x.box,[x]⟩:cZ)] s=none:=by
     unfold gV;rw[List.find?_cons_of_neg (by simpa using e)];rfl
    rw[this]at hs;cases hs
def hY (x:eF):cZ→cZ:=fun b=>⟨b.box,b.hist++[x]⟩
theorem rQ (x:eF) (b:cZ):(hY x b).box=b.box:=rfl
theorem kY.hand {L:List cZ}{H:List eF}(h:kY L H) {x:eF}{b:cZ}(hb:gV cZ.box L x.box=some b):kY (jC cZ.box L x.box (hY x)) (H++[x]):=by
 refine⟨by rw[wG _ _ (rQ x)];exact h.nd,fun s hs=>?_,fun s c hs=>?_⟩
 ·rw[yW _ _ _ (rQ x)]at hs;by_cases e:s=x.box
  ·subst e;rw[aF rfl,hb]at hs;cases hs
  ·rw[aE e]at hs;rw[kS,aE (fun h=>e h.symm),h.no s hs];rfl
 ·rw[yW _ _ _ (rQ x)]at hs;by_cases e:s=x.box
  ·subst e;rw[aF rfl,hb]at hs;cases hs;rw[kS,aF rfl];exact⟨by show b.hist++[x]=_;rw[(h.yes _ b hb).1],by simp⟩
  ·rw[aE e]at hs;rw[kS,aE (fun h=>e h.symm),List.append_nil];exact h.yes s c hs
def mU (s:bH):Bool→List bH→List bH
 |d,[]=>if d=true then [] else [s]
 |d,x :: r=>(if (!d && !iB x s)=true then [s] else [])++((if x=s then [] else [x])++mU s (d || !iB x s) r)
def nP (l:List bH) (s:bH):List bH:=mU s false l
def Pj (a b:bH):Prop:=leB a b∧a≠b
theorem oY (s:bH):∀l,mU s true l=l.filter fun x=>!decide (x=s)
 |[]=>rfl
 |x :: r=>by
  unfold mU;rw[show (true || !iB x s)=true from rfl,oY s r];by_cases h:x=s
  ·rw[aF h,List.filter_cons_of_neg (by simp[h])];rfl
  ·rw[aE h,List.filter_cons_of_pos (by simp[h])];rfl
theorem vS (s y:bH):∀(l:List bH) (d:Bool),(d=true→s∈l∨True)→(y∈mU s d l↔(y∈l∧y≠s)∨(d=false∧y=s))
 |[],d,_=>by
  unfold mU;cases d<;>simp
 |x :: r,d,_=>by
  unfold mU;cases d with
  |true=>
   rw[show (true || !iB x s)=true from rfl,oY];by_cases h:x=s
   ·subst h;simp;exact fun a b=>absurd b a
   ·simp[h];constructor
    ·rintro (rfl|⟨a,b⟩)
     ·exact⟨.inl rfl,h⟩
     ·exact⟨.inr a,b⟩
    ·rintro ⟨rfl|a,b⟩
     ·exact .inl rfl
     ·exact .inr ⟨a,b⟩
  |false=>
   cases hl:iB x s with
   |true=>
    rw[show (false || !true)=false from rfl,List.mem_append,List.mem_append,vS s y r false (fun h=>by cases h)];have hne:x≠s:=fun e=>by
     subst e;unfold iB at hl;exact absurd (of_decide_eq_true hl) (List.lt_irrefl _)
    rw[aE (by simp),aE hne];simp;constructor
    ·rintro (rfl|⟨a,b⟩|rfl)
     ·exact .inl ⟨.inl rfl,hne⟩
     ·exact .inl ⟨.inr a,b⟩
     ·exact .inr rfl
    ·rintro (⟨rfl|a,b⟩|rfl)
     ·exact .inl rfl
     ·exact .inr (.inl ⟨a,b⟩)
     ·exact .inr (.inr rfl)
   |false=>
    rw[show (false || !false)=true from rfl,oY,aF (by simp)];by_cases h:x=s
    ·subst h;simp;constructor
     ·rintro (rfl|⟨a,b⟩)
      ·exact .inr rfl
      ·exact .inl ⟨.inr a,b⟩
     ·rintro (⟨rfl|a,b⟩|rfl)
      ·exact .inl rfl
      ·exact .inr ⟨a,b⟩
      ·exact .inl rfl
    ·simp[h];constructor
     ·rintro (rfl|rfl|⟨a,b⟩)
      ·exact .inr rfl
      ·exact .inl ⟨.inl rfl,h⟩
      ·exact .inl ⟨.inr a,b⟩
     ·rintro (⟨rfl|a,b⟩|rfl)
      ·exact .inr (.inl rfl)
      ·exact .inr (.inr ⟨a,b⟩)
      ·exact .inl rfl
theorem ED {l:List bH}{s y:bH}:y∈nP l s↔y∈l∨y=s:=by
 unfold nP;rw[vS s y l false (fun h=>by cases h)];constructor
 ·rintro (⟨a,_⟩|⟨_,a⟩)
  ·exact .inl a
  ·exact .inr a
 ·rintro (a|a)
  ·by_cases h:y=s
   ·exact .inr ⟨rfl,h⟩
   ·exact .inl ⟨a,h⟩
  ·exact .inr ⟨rfl,a⟩
theorem B0 {l:List bH}(s:bH) (h:l.Pairwise Pj):(nP l s).Pairwise Pj:=by
 unfold nP
 induction l with
 |nil=>unfold mU;simp
 |cons x r ih=>
  obtain⟨h1,h2⟩:=List.pairwise_cons.1 h;unfold mU;cases hl:iB x s with
  |true=>
   have hne:x≠s:=fun e=>by
    subst e;unfold iB at hl;exact absurd (of_decide_eq_true hl) (List.lt_irrefl _)
   rw[aE (by simp),aE hne,show (false || !true)=false from rfl,List.nil_append,List.singleton_append,List.pairwise_cons];refine⟨fun y hy=>?_,ih h2⟩;rcases(vS s y r false (fun h=>by cases h)).1 hy with ⟨a,_⟩|⟨_,rfl⟩
   ·exact h1 y a
   ·exact⟨Cd hl,hne⟩
  |false=>
   rw[aF (by simp),show (false || !false)=true from rfl,oY];have hsx:=qR hl;have h3:(r.filter fun y=>!decide (y=s)).Pairwise Pj:=h2.filter _;by_cases e:x=s
   ·subst e;rw[aF rfl,List.nil_append,List.singleton_append,List.pairwise_cons];exact⟨fun y hy=>h1 y ((List.mem_filter.1 hy).1),h3⟩
   ·rw[aE e,List.singleton_append,List.singleton_append,List.pairwise_cons,List.pairwise_cons];refine⟨fun y hy=>?_,fun y hy=>h1 y ((List.mem_filter.1 hy).1),h3⟩;rcases List.mem_cons.1 hy with rfl|hy
    ·exact⟨hsx,fun h=>e h.symm⟩
    ·have:=(List.mem_filter.1 hy).2;exact⟨Cg hsx (h1 y ((List.mem_filter.1 hy).1)).1,fun h=>by subst h;simp at this⟩
theorem EB {l:List bH}(h:l.Pairwise Pj):l.Pairwise leB:=h.imp And.left
theorem Iu {l:List bH}(h:l.Pairwise Pj):l.Nodup:=h.imp And.right
theorem Eh {l m:List bH}(hl:l.Pairwise Pj) (hm:m.Nodup) (h:∀x,x∈l↔x∈m):l=eA m:=by
 refine Cu (EB hl) (uF m) ?_;exact((List.perm_ext_iff_of_nodup (Iu hl) hm).2 h).trans (kV m).symm
def iZ (H:List eF):List bH:=H.foldl (fun l h=>nP l h.box) []
theorem wO:∀(H:List eF) (l:List bH),l.Pairwise Pj→(H.foldl (fun l h=>nP l h.box) l).Pairwise Pj∧∀x,x∈H.foldl (fun l h=>nP l h.box) l↔x∈l∨∃h∈H,h.box=x
 |[],l,hl=>⟨hl,fun x=>by simp⟩
 |h :: H,l,hl=>by
  obtain⟨h1,h2⟩:=wO H (nP l h.box) (B0 h.box hl);refine⟨h1,fun x=>?_⟩;rw[List.foldl_cons,h2 x,ED];constructor
  ·rintro ((a|rfl)|⟨k,hk,e⟩)
   ·exact .inl a
   ·exact .inr ⟨h,bD ..,rfl⟩
   ·exact .inr ⟨k,aW _ hk,e⟩
  ·rintro (a|⟨k,hk,e⟩)
   ·exact .inl (.inl a)
   ·rcases List.mem_cons.1 hk with rfl|hk
    ·exact .inl (.inr e.symm)
    ·exact .inr ⟨k,hk,e⟩
theorem kY.mem {L:List cZ}{H:List eF}(h:kY L H) (x:bH):x∈L.map cZ.box↔ ∃k∈H,k.box=x:=by
 constructor
 ·intro hx;obtain⟨b,hb,rfl⟩:=aX.1 hx;obtain⟨_,h2⟩:=h.yes _ b (sT h.nd hb rfl);obtain⟨k,hk⟩:=List.exists_mem_of_ne_nil _ h2;unfold iW at hk;obtain⟨h3,h4⟩:=List.mem_filter.1 hk;exact⟨k,h3,by simpa using h4⟩
 ·rintro ⟨k,hk,rfl⟩;cases hl:gV cZ.box L k.box with
  |none=>
   have h2:=h.no _ hl;have:k∈iW H k.box:=List.mem_filter.2 ⟨hk,by simp⟩;rw[h2]at this;cases this
  |some b=>
   obtain⟨h1,h2⟩:=jY hl;exact aX.2 ⟨b,h1,h2⟩
theorem kY.boxes {L:List cZ}{H:List eF}(h:kY L H):iZ H=eA (L.map cZ.box):=by
 obtain⟨h1,h2⟩:=wO H [] .nil;refine Eh h1 h.nd fun x=>?_
 rw[h.mem x];refine(h2 x).trans ?_;simp
theorem kY.len {L:List cZ}{H:List eF}(h:kY L H):(iZ H).length=L.length:=by
 rw[h.boxes,(kV _).length_eq,aJ]
def vN (H:List eF) (x:eF):Int:=if (!bT x.box || !bT x.to || !bT x.place)=true then 1 else if (!gM x.day)=true then 3 else if iW H x.box≠[] then 5 else if 4096≤(iZ H).length then 7 else 0
def rX (L:List cZ) (x:eF):Int:=if (!bT x.box || !bT x.to || !bT x.place)=true then 1 else if (!gM x.day)=true then 3 else if (gV cZ.box L x.box).isSome=true then 5 else if 4096≤L.length then 7 else 0
theorem kY.begE {L:List cZ}{H:List eF}(h:kY L H) (x:eF):rX L x=vN H x:=by
 unfold rX vN;rw[h.len];cases hl:gV cZ.box L x.box with
 |none=>rw[h.no _ hl];simp
 |some b=>simp[(h.yes _ b hl).2]
def wK (x:eF):Bool:=(!bT x.box || !bT x.frm || !bT x.to || !bT x.place) || decide (x.frm=x.to)
def B1 (own:List eF) (x:eF):Int:=match own.getLast? with
 |none=>4
 |some l=>if l.to≠x.frm then 8 else if x.day < l.day then 6 else if 4096≤own.length then 7 else 0
def iI (H:List eF) (x:eF):Int:=if wK x=true then 1 else if (!gM x.day)=true then 3 else B1 (iW H x.box) x
def iF (L:List cZ) (x:eF):Int:=if wK x=true then 1 else if (!gM x.day)=true then 3 else match gV cZ.box L x.box with
 |none=>4
 |some b=>B1 b.hist x
theorem kY.handE {L:List cZ}{H:List eF}(h:kY L H) (x:eF):iF L x=iI H x:=by
 unfold iF iI;cases hl:gV cZ.box L x.box with
 |none=>rw[h.no _ hl];rfl
 |some b=>dsimp only;rw[(h.yes _ b hl).1]
def eS:bH:=⟨#[]⟩
structure N6 where
 name:bH
 value:bH
structure Lr where
 kind:Int
 number:bH
 issuer:bH
 fields:List N6
structure dR where
 frm:bH
 to:bH
 number:Int
 kind:Int
 ack:Int
 deal:bH
 text:bH
 party:bH
 index:Int
 day:Int
 cur:bH
 amt:Int
 docs:List Lr
 boxes:List bH
def nR:dR:=⟨eS,eS,0,0,0,eS,eS,eS,0,0,eS,0,[],[]⟩
structure De where
 number:bH
 seller:bH
 buyer:bH
 carrier:bH
 house:bH
 frm:bH
 to:bH
 boxes:List bH
structure Su where
 parties:List bH
 deals:List De
structure Dp where
 number:bH
 seller:bH
 buyer:bH
 house:bH
 frm:bH
 to:bH
 boxes:List bH
 state:Int
 rel:Bool
structure Cr where
 name:bH
 parties:List bH
 deals:List Dp
 reg:Rg
 cust:List cZ
 deliv:List eF
structure Cs where
 S:List Int
 free:List Bool
 reg:Rg
 H:List eF
 D:List eF
def lF (l:List bH) (s:bH):Bool:=l.any fun q=>decide (q=s)
def Pk:bH:=⟨#[98,108,45]⟩
def gE (n:bH):bH:=Pk++n
def cN (d:De) (st:Int) (fr:Bool):Dp:=⟨d.number,d.seller,d.buyer,d.house,d.frm,d.to,d.boxes,st,fr⟩
def dP (s:Su) (name n:bH):Option Nat:=s.deals.findIdx? fun d=>decide (d.carrier=name) && decide (d.number=n)
def gS (name:bH) (d:Dp) (day:Int):Bl:=⟨gE d.number,name,d.seller,d.frm,d.to,d.boxes,[],day,true⟩
def cV (frm to place:bH) (day:Int) (b:bH):eF:=⟨b,frm,to,place,day⟩
def cI (n:bH) (day:Int) (l:List dR):List dR:=l.map fun x=>{ x with deal:=n,day:=day }
def qC (C:Cr) (n:bH) (f:Dp→Dp):Cr:={ C with deals:=jC Dp.number C.deals n f }
def wW (st:Int) (d:Dp):Dp:={ d with state:=st }
def Mx (d:Dp):Dp:={ d with rel:=true }
def fF (name:bH) (d:Dp) (day:Int):List cZ→List bH→Option (List cZ)
 |L,[]=>some L
 |L,b :: r=>if rX L (cV eS d.seller d.frm day b)≠0 then none else
  if iF (L++[⟨b,[cV eS d.seller d.frm day b]⟩]) (cV d.seller name d.frm day b)≠0 then none else
  fF name d day (jC cZ.box (L++[⟨b,[cV eS d.seller d.frm day b]⟩]) b (hY (cV d.seller name d.frm day b))) r
def eX (f:bH→eF):List cZ→List bH→Option (List cZ)
 |L,[]=>some L
 |L,b :: r=>if iF L (f b)≠0 then none else eX f (jC cZ.box L (f b).box (hY (f b))) r
def cK (kind:Int) (d:Dp) (l:dR) (day:Int):At:=⟨kind,l.index,day,gE d.number,l.frm,l.party,noBl⟩
where noBl:Bl:=⟨eS,eS,eS,eS,eS,[],[],0,false⟩
def eW (nm:Int→bH) (l:dR):List dR:=[{ nR with to:=l.frm,kind:=22,text:=nm l.kind,index:=l.index,party:=l.party }]
def sA (C:Cr) (d:Dp) (l:dR) (day:Int):Cr:=if l.frm≠d.seller∨d.state≠0 then C else match fF C.name d day C.cust d.boxes with
 |none=>C
 |some L=>qC { C with cust:=L } d.number (wW 1)
def jV (R:Rg) (a:At):Int:=eO R.bills (dA a)
def Au (nm:Int→bH) (C:Cr) (d:Dp) (l:dR) (day:Int):Cr×List dR:=
 if lF C.parties l.party=false∨l.party=l.frm∨jV C.reg (cK 1 d l day)≠0 then (C,eW nm l)
 else ({ C with reg:=xU C.reg (cK 1 d l day) },[{ nR with to:=l.party,kind:=9,index:=l.index,party:=l.party }])
def Fm (nm:Int→bH) (C:Cr) (d:Dp) (l:dR) (day:Int):Cr×List dR:=
 if d.state≠3∨d.rel=false then (C,eW nm l) else match eX (cV C.name l.frm d.to day) C.cust d.boxes with
 |none=>(C,eW nm l)
 |some L=>if jV C.reg (cK 2 d l day)≠0 then (C,eW nm l) else
  (qC { C with cust:=L,deliv:=C.deliv++d.boxes.map (cV C.name l.frm d.to day),reg:=xU C.reg (cK 2 d l day) } d.number (wW 4),[{ nR with to:=l.frm,kind:=21,boxes:=d.boxes }])
def FC (C:Cr) (d:Dp) (l:dR):Cr:=if d.house≠eS∧l.frm=d.house then qC C d.number Mx else C
def sJ (nm:Int→bH) (C:Cr) (d:Dp) (l:dR) (day:Int):Cr×List dR:=
 if jV C.reg (cK 3 d l day)≠0 then (C,eW nm l) else ({ C with reg:=xU C.reg (cK 3 d l day) },[])
def sD (nm:Int→bH) (C:Cr) (d:Dp) (l:dR) (day:Int):Cr×List dR:=
 if jV C.reg (cK 4 d l day)≠0 then (C,eW nm l) else ({ C with reg:=xU C.reg (cK 4 d l day) },[{ nR with to:=l.frm,kind:=25,index:=l.index }])
def rG (nm:Int→bH) (C:Cr) (d:Dp) (l:dR) (day:Int):Cr×List dR:=
 if l.kind=4 then (sA C d l day,[])
 else if l.kind=8 then Au nm C d l day
 else if l.kind=20 then Fm nm C d l day
 else if l.kind=19 then (FC C d l,[])
 else if l.kind=23 then sJ nm C d l day
 else if l.kind=24 then sD nm C d l day
 else (C,[])
def nX (nm:Int→bH) (C:Cr) (l:dR) (day:Int):Cr×List dR:=match gV Dp.number C.deals l.deal with
 |none=>(C,[])
 |some d=>if lF C.parties l.frm=false then (C,[]) else ((rG nm C d l day).1,cI d.number day (rG nm C d l day).2)
def uR (lad:Bl→Lr) (C:Cr) (d:Dp) (day:Int):Cr×List dR×Int:=
 if gQ ⟨C.reg,gS C.name d day,d.seller⟩≠0 then (C,[],gQ ⟨C.reg,gS C.name d day,d.seller⟩)
 else (qC { C with reg:=kD ⟨C.reg,gS C.name d day,d.seller⟩ } d.number (wW 2),cI d.number day [{ nR with to:=d.seller,kind:=5,docs:=[lad (gS C.name d day)] }],0)
def JD (C:Cr) (d:Dp) (day:Int):Cr×List dR×Int:=(qC C d.number (wW 3),cI d.number day [{ nR with to:=d.buyer,kind:=26,boxes:=d.boxes }],0)
def lO (lad:Bl→Lr) (C:Cr) (kind:Int) (deal:bH) (day:Int):Cr×List dR×Int:=
 if kind≠5∧kind≠6 then (C,[],1) else match gV Dp.number C.deals deal with
 |none=>(C,[],4)
 |some d=>if d.state≠(if kind=5 then 1 else 2) then (C,[],9) else if kind=5 then uR lad C d day else JD C d day
def oU (x:Cs) (i:Nat) (st:Int):Cs:={ x with S:=x.S.set i st }
def lE (name:bH) (d:De) (day:Int):List eF→List bH→Option (List eF)
 |H,[]=>some H
 |H,b :: r=>if vN H (cV eS d.seller d.frm day b)≠0 then none else
  if iI (H++[cV eS d.seller d.frm day b]) (cV d.seller name d.frm day b)≠0 then none else
  lE name d day (H++[cV eS d.seller d.frm day b]++[cV d.seller name d.frm day b]) r
def iK (f:bH→eF):List eF→List bH→Option (List eF)
 |H,[]=>some H
 |H,b :: r=>if iI H (f b)≠0 then none else iK f (H++[f b]) r
def eZ (kind:Int) (d:De) (l:dR) (day:Int):At:=⟨kind,l.index,day,gE d.number,l.frm,l.party,cK.noBl⟩
def fD (nm:Int→bH) (s:Su) (name:bH) (x:Cs) (l:dR) (day:Int):Cs×List dR:=match dP s name l.deal with
 |none=>(x,[])
 |some i=>if lF s.parties l.frm=false then (x,[]) else match s.deals[i]?,x.S[i]?,x.free[i]? with
  |some d,some st,some fr=>
   if l.kind=4 then (if l.frm=d.seller∧st=0 then (match lE name d day x.H d.boxes with
    |none=>x
    |some H=>oU { x with H:=H } i 1) else x,[])
   else if l.kind=19 then (if d.house≠eS∧l.frm=d.house then { x with free:=x.free.set i true } else x,[])
   else if l.kind=8∨l.kind=20∨l.kind=23∨l.kind=24 then
    let k:Int:=if l.kind=8 then 1 else if l.kind=20 then 2 else if l.kind=23 then 3 else 4
    let a:=eZ k d l day
    if (kM x.reg a).2≠0∨(k=1∧(lF s.parties l.party=false∨l.party=l.frm)) then (x,cI l.deal day (eW nm l))
    else if k=2 then match iK (cV name l.frm d.to day) x.H d.boxes with
     |none=>(x,cI l.deal day (eW nm l))
     |some H=>if st≠3∨fr=false then (x,cI l.deal day (eW nm l)) else
      (oU { x with D:=x.D++H.drop x.H.length,H:=H,reg:=(kM x.reg a).1 } i 4,cI l.deal day [{ nR with to:=l.frm,kind:=21,boxes:=d.boxes }])
    else ({ x with reg:=(kM x.reg a).1 },cI l.deal day (if k=1 then [{ nR with to:=l.party,kind:=9,index:=l.index,party:=l.party }] else if k=4 then [{ nR with to:=l.frm,kind:=25,index:=l.index }] else []))
   else (x,[])
  |_,_,_=>(x,[])
def lG (lad:Bl→Lr) (s:Su) (name:bH) (x:Cs) (kind:Int) (deal:bH) (day:Int):Cs×List dR×Int:=
 if kind≠5∧kind≠6 then (x,[],1) else match dP s name deal with
 |none=>(x,[],4)
 |some i=>match s.deals[i]?,x.S[i]? with
  |some d,some st=>
   if kind=6 then (if st≠2 then (x,[],9) else (oU x i 3,cI d.number day [{ nR with to:=d.buyer,kind:=26,boxes:=d.boxes }],0))
   else if st≠1 then (x,[],9) else
    let b:Bl:=gS name (cN d st true) day
    if gQ ⟨x.reg,b,d.seller⟩≠0 then (x,[],gQ ⟨x.reg,b,d.seller⟩)
    else ({ oU x i 2 with reg:=kD ⟨x.reg,b,d.seller⟩ },cI d.number day [{ nR with to:=d.seller,kind:=5,docs:=[lad b] }],0)
  |_,_=>(x,[],4)
structure fG (s:Su) (C:Cr) (x:Cs):Prop where
 par:∀p,lF C.parties p=lF s.parties p
 nd:(C.deals.map Dp.number).Nodup
 lenS:x.S.length=s.deals.length
 lenF:x.free.length=s.deals.length
 no:∀n,dP s C.name n=none→gV Dp.number C.deals n=none
 yes:∀n i d st fr,dP s C.name n=some i→s.deals[i]?=some d→x.S[i]?=some st→x.free[i]?=some fr→gV Dp.number C.deals n=some (cN d st fr)
 reg:C.reg=x.reg
 inv:∃n,C1 n x.reg
 cust:kY C.cust x.H
 del:C.deliv=x.D
theorem oH {s:Su}{name n:bH}{i:Nat}(h:dP s name n=some i):∃d,s.deals[i]?=some d∧d.carrier=name∧d.number=n:=by
 unfold dP at h;rw[List.findIdx?_eq_some_iff_getElem]at h;obtain⟨hi,h1,_⟩:=h;simp only[aO,decide_eq_true_eq]at h1;exact⟨_,aB hi,h1.1,h1.2⟩
theorem fG.at {s:Su}{C:Cr}{x:Cs}(h:fG s C x) {n:bH}{i:Nat}(hi:dP s C.name n=some i):∃d st fr,s.deals[i]?=some d∧x.S[i]?=some st∧x.free[i]?=some fr∧d.number=n∧gV Dp.number C.deals n=some (cN d st fr):=by
 obtain⟨d,hd,_,hn⟩:=oH hi;have hil:=(aA.1 hd).1;obtain⟨st,h1⟩:∃st,x.S[i]?=some st:=⟨_,aB (by rw[h.lenS];exact hil)⟩
 obtain⟨fr,h2⟩:∃fr,x.free[i]?=some fr:=⟨_,aB (by rw[h.lenF];exact hil)⟩
 exact⟨d,_,_,hd,h1,h2,hn,h.yes n i d _ _ hi hd h1 h2⟩
theorem fG.perm {s:Su}{C:Cr}{x:Cs}(h:fG s C x) {L:List cZ}(p:C.cust.Perm L):fG s { C with cust:=L } x:=⟨h.par,h.nd,h.lenS,h.lenF,h.no,h.yes,h.reg,h.inv,h.cust.perm p,h.del⟩
theorem fG.upd {s:Su}{C:Cr}{x:Cs}(h:fG s C x) {n:bH}{i:Nat}(hi:dP s C.name n=some i) {f:Dp→Dp}(hf:∀b,(f b).number=b.number) {S:List Int}{F:List Bool}(hS:S.length=s.deals.length) (hF:F.length=s.deals.length)
  (ho:∀j,j≠i→S[j]?=x.S[j]?∧F[j]?=x.free[j]?)
  (he:∀d st fr st' fr',s.deals[i]?=some d→x.S[i]?=some st→x.free[i]?=some fr→S[i]?=some st'→F[i]?=some fr'→f (cN d st fr)=cN d st' fr'):fG s (qC C n f) { x with S:=S,free:=F }:=by
 refine⟨h.par,?_,hS,hF,fun m hm=>?_,fun m j d st fr hj hd hs hf2=>?_,h.reg,h.inv,h.cust,h.del⟩
 ·show ((jC Dp.number C.deals n f).map Dp.number).Nodup;rw[wG _ _ hf];exact h.nd
 ·show gV Dp.number (jC Dp.number C.deals n f) m=none;rw[yW _ _ _ hf,h.no m hm]
  split<;>rfl
 ·show gV Dp.number (jC Dp.number C.deals n f) m=some (cN d st fr);have hj2:dP s C.name m=some j:=hj;clear hj;rw[yW _ _ _ hf];by_cases e:m=n
  ·subst e;cases hi.symm.trans hj2;obtain⟨d0,st0,fr0,g1,g2,g3,g4,g5⟩:=h.at hi;rw[aF rfl,g5,Option.map_some];rw[hd]at g1;cases g1;rw[he d st0 fr0 st fr hd g2 g3 hs hf2]
  ·rw[aE e];have hji:j≠i:=fun e2=>by
    subst e2;obtain⟨_,g1,_,g2⟩:=oH hj2;obtain⟨_,g3,_,g4⟩:=oH hi;rw[g1]at g3;cases g3;exact e (g2.symm.trans g4)
   obtain⟨e1,e2⟩:=ho j hji;exact h.yes m j d st fr hj2 hd (by rw[←e1];exact hs) (by rw[←e2];exact hf2)
theorem Nk {α:Type}{l:List α}{i:Nat}{a b:α}(h:(l.set i a)[i]?=some b):b=a:=by
 rw[List.getElem?_set_self' ]at h;cases hl:l[i]? with
 |none=>rw[hl]at h;cases h
 |some y=>rw[hl]at h;cases h;rfl
theorem fG.state {s:Su}{C:Cr}{x:Cs}(h:fG s C x) {n:bH}{i:Nat}(hi:dP s C.name n=some i) (st:Int):fG s (qC C n (wW st)) (oU x i st):=by
 refine h.upd (f:=wW st) hi (fun _=>rfl) (S:=x.S.set i st) (F:=x.free) (by rw[bA];exact h.lenS) h.lenF (fun j hj=>⟨aU (fun e=>hj e.symm),rfl⟩) fun d st0 fr st' fr' _ _ h3 h4 h5=>?_
 rw[Nk h4];rw[h3]at h5;cases h5;rfl
theorem fG.free {s:Su}{C:Cr}{x:Cs}(h:fG s C x) {n:bH}{i:Nat}(hi:dP s C.name n=some i):fG s (qC C n Mx) { x with free:=x.free.set i true }:=by
 refine h.upd (f:=Mx) hi (fun _=>rfl) (S:=x.S) (F:=x.free.set i true) h.lenS (by rw[bA];exact h.lenF) (fun j hj=>⟨rfl,aU (fun e=>hj e.symm)⟩) fun d st0 fr st' fr' _ h2 _ h4 h5=>?_
 rw[Nk h5];rw[h2]at h4;cases h4;rfl
theorem zL (name:bH) (d:De) (st:Int) (fr:Bool) (day:Int):∀(bs:List bH) (L:List cZ) (H:List eF),kY L H →
  (fF name (cN d st fr) day L bs=none∧lE name d day H bs=none)∨∃L' H',fF name (cN d st fr) day L bs=some L'∧lE name d day H bs=some H'∧kY L' H'
 |[],L,H,h=>.inr ⟨L,H,rfl,rfl,h⟩
 |b :: r,L,H,h=>by
  obtain⟨x1,hx1⟩:∃x,x=cV eS d.seller d.frm day b:=⟨_,rfl⟩
  obtain⟨x2,hx2⟩:∃x,x=cV d.seller name d.frm day b:=⟨_,rfl⟩
  have b1:x1.box=b:=by rw[hx1];rfl
  have b2:x2.box=b:=by rw[hx2];rfl
  have g1:fF name (cN d st fr) day L (b :: r)=if rX L x1≠0 then none else if iF (L++[⟨b,[x1]⟩]) x2≠0 then none else fF name (cN d st fr) day (jC cZ.box (L++[⟨b,[x1]⟩]) b (hY x2)) r:=by subst hx1 hx2;rfl
  have g2:lE name d day H (b :: r)=if vN H x1≠0 then none else if iI (H++[x1]) x2≠0 then none else lE name d day (H++[x1]++[x2]) r:=by subst hx1 hx2;rfl
  clear hx1 hx2;rw[g1,g2,h.begE x1];by_cases h1:vN H x1≠0
  ·rw[aF h1,aF h1];exact .inl ⟨rfl,rfl⟩
  ·rw[aE h1,aE h1];have hn:gV cZ.box L x1.box=none:=by
    have h0:vN H x1=0:=Decidable.not_not.1 h1;unfold vN at h0;cases hl:gV cZ.box L x1.box with
    |none=>rfl
    |some y=>
     exfalso;have h3:=(h.yes _ y hl).2;rw[aF h3]at h0
     split at h0
     ·cases h0
     split at h0<;>cases h0
   have hc:=h.begin (x:=x1) hn;rw[b1]at hc;rw[hc.handE x2];by_cases h2:iI (H++[x1]) x2≠0
   ·rw[aF h2,aF h2];exact .inl ⟨rfl,rfl⟩
   ·rw[aE h2,aE h2];have hl2:gV cZ.box (L++[⟨b,[x1]⟩]) x2.box=some ⟨b,[x1]⟩:=by
     rw[yT,b2];rw[b1]at hn;rw[hn];show gV cZ.box [(⟨b,[x1]⟩:cZ)] b=_;unfold gV;exact List.find?_cons_of_pos (p:=fun c:cZ=>decide (c.box=b)) (aH rfl)
    have hc2:=hc.hand (x:=x2) hl2;rw[b2]at hc2;exact zL name d st fr day r _ _ hc2
theorem KR {L:List cZ}{x:eF}(h:iF L x=0):∃b,gV cZ.box L x.box=some b:=by
 unfold iF at h
 split at h
 ·cases h
 split at h
 ·cases h
 split at h
 ·cases h
 ·rename_i b hb;exact⟨b,hb⟩
theorem qE (f:bH→eF):∀(bs:List bH) (L:List cZ) (H:List eF),kY L H →
  (eX f L bs=none∧iK f H bs=none)∨∃L',eX f L bs=some L'∧iK f H bs=some (H++bs.map f)∧kY L' (H++bs.map f)
 |[],L,H,h=>.inr ⟨L,rfl,by rw[List.map_nil,List.append_nil];rfl,by rw[List.map_nil,List.append_nil];exact h⟩
 |b :: r,L,H,h=>by
  have g1:eX f L (b :: r)=if iF L (f b)≠0 then none else eX f (jC cZ.box L (f b).box (hY (f b))) r:=rfl
  have g2:iK f H (b :: r)=if iI H (f b)≠0 then none else iK f (H++[f b]) r:=rfl
  rw[g1,g2,h.handE (f b)];by_cases h1:iI H (f b)≠0
  ·rw[aF h1,aF h1];exact .inl ⟨rfl,rfl⟩
  ·rw[aE h1,aE h1];obtain⟨y,hy⟩:=KR ((h.handE (f b)).trans (Decidable.not_not.1 h1));have:=qE f r _ _ (h.hand hy);rw[List.map_cons,show H++f b :: r.map f=H++[f b]++r.map f by simp];exact this
set_option maxHeartbeats 2000000
theorem fG.reg_act {s:Su}{C:Cr}{x:Cs}(h:fG s C x) (a:At) (hk:0≤a.kind∧a.kind≤5) (hb:yF a.b):fG s { C with reg:=xU C.reg a } { x with reg:=(kM x.reg a).1 }:=by
 obtain⟨n,hn⟩:=h.inv;refine⟨h.par,h.nd,h.lenS,h.lenF,h.no,h.yes,?_,⟨n+1,OI hn hk hb⟩,h.cust,h.del⟩;show xU C.reg a=(kM x.reg a).1;rw[h.reg,SW hn]
theorem CS {R:Rg}{a:At}(h:¬a.kind=0):jV R a=(kM R a).2:=by rw[Dg h];rfl
theorem nD:yF cK.noBl:=⟨aI _,aI _⟩
theorem fG.take {s:Su}{C:Cr}{x:Cs}(nm:Int→bH) (h:fG s C x) (l:dR) (day:Int) :
  fG s (nX nm C l day).1 (fD nm s C.name x l day).1∧(nX nm C l day).2=(fD nm s C.name x l day).2∧(nX nm C l day).1.name=C.name:=by
 unfold nX fD;cases hi:dP s C.name l.deal with
 |none=>
  rw[h.no _ hi];exact⟨h,rfl,rfl⟩
 |some i=>
  obtain⟨d,st,fr,h1,h2,h3,h4,h5⟩:=h.at hi;rw[h5];dsimp only;rw[h1,h2,h3,h.par];dsimp only;cases hp:lF s.parties l.frm with
  |false=>
   rw[aF rfl,aF rfl];exact⟨h,rfl,rfl⟩
  |true=>
  rw[aE (by decide),aE (by decide)];dsimp only;unfold rG;have hnum:(cN d st fr).number=l.deal:=h4;have hbn:gE d.number=gE l.deal:=by rw[h4]
  rw[hnum];by_cases k4:l.kind=4
  ·rw[aF k4,aF k4];refine⟨?_,rfl,?_⟩
   ·show fG s (sA C (cN d st fr) l day) _;unfold sA;by_cases hc:l.frm=d.seller∧st=0
    ·rw[aE (show ¬(l.frm≠(cN d st fr).seller∨(cN d st fr).state≠0) from fun k=>k.elim (fun k=>k hc.1) fun k=>k hc.2),aF hc];rcases zL C.name d st fr day d.boxes C.cust x.H h.cust with ⟨e1,e2⟩|⟨L,H,e1,e2,e3⟩
     ·rw[show fF C.name (cN d st fr) day C.cust (cN d st fr).boxes=none from e1,e2];exact h
     ·rw[show fF C.name (cN d st fr) day C.cust (cN d st fr).boxes=some L from e1,e2];have h9:fG s { C with cust:=L } { x with H:=H }:=⟨h.par,h.nd,h.lenS,h.lenF,h.no,h.yes,h.reg,h.inv,e3,h.del⟩
      rw[show (cN d st fr).number=l.deal from h4];exact h9.state hi 1
    ·rw[aF (show l.frm≠(cN d st fr).seller∨(cN d st fr).state≠0 from by
      by_cases k:l.frm=d.seller
      ·exact .inr fun k2=>hc ⟨k,k2⟩
      ·exact .inl k),aE hc]
     exact h
   ·show (sA C (cN d st fr) l day).name=C.name;unfold sA
    split
    ·rfl
    ·split<;>rfl
  rw[aE k4,aE k4];by_cases k8:l.kind=8
  ·rw[aF k8,aE (by omega),aF (.inl k8),aF k8];show fG s (Au nm C (cN d st fr) l day).1 _∧cI l.deal day (Au nm C (cN d st fr) l day).2=_∧_;unfold Au;have e0:cK 1 (cN d st fr) l day=eZ 1 d l day:=rfl;have ea:jV C.reg (cK 1 (cN d st fr) l day)=(kM x.reg (eZ 1 d l day)).2:=by rw[e0,h.reg];exact CS (show ¬(1:Int)=0 by decide)
   rw[ea,h.par];by_cases hc:lF s.parties l.party=false∨l.party=l.frm∨(kM x.reg (eZ 1 d l day)).2≠0
   ·rw[aF hc,aF (by
     rcases hc with hc|hc|hc
     ·exact .inr ⟨rfl,.inl hc⟩
     ·exact .inr ⟨rfl,.inr hc⟩
     ·exact .inl hc)]
    exact⟨h,rfl,rfl⟩
   ·rw[aE hc,aE (by
     rintro (k|⟨_,k|k⟩)
     ·exact hc (.inr (.inr k))
     ·exact hc (.inl k)
     ·exact hc (.inr (.inl k))),aE (by decide),aF rfl]
    exact⟨e0 ▸ h.reg_act (eZ 1 d l day) ⟨show (0:Int)≤1 by decide,show (1:Int)≤5 by decide⟩ nD,rfl,rfl⟩
  rw[aE k8];by_cases k20:l.kind=20
  ·rw[aF k20,aE (by omega),aF (.inr (.inl k20)),aE k8,aF k20];show fG s (Fm nm C (cN d st fr) l day).1 _∧cI l.deal day (Fm nm C (cN d st fr) l day).2=_∧_;unfold Fm;have e0:cK 2 (cN d st fr) l day=eZ 2 d l day:=rfl;have ea:jV C.reg (cK 2 (cN d st fr) l day)=(kM x.reg (eZ 2 d l day)).2:=by rw[e0,h.reg];exact CS (show ¬(2:Int)=0 by decide)
   rw[ea];have hs:=qE (cV C.name l.frm d.to day) d.boxes C.cust x.H h.cust;have er:¬((2:Int)=1∧(lF s.parties l.party=false∨l.party=l.frm)):=fun k=>absurd k.1 (by decide)
   by_cases hst:st≠3∨fr=false
   ·rw[aF (show (cN d st fr).state≠3∨(cN d st fr).rel=false from hst)];by_cases hd:(kM x.reg (eZ 2 d l day)).2≠0
    ·rw[aF (.inl hd)];exact⟨h,rfl,rfl⟩
    ·rw[aE (fun k=>k.elim hd er),aF rfl];rcases hs with ⟨_,e2⟩|⟨L,_,e2,_⟩
     ·rw[e2];exact⟨h,rfl,rfl⟩
     ·rw[e2];dsimp only;rw[aF hst];exact⟨h,rfl,rfl⟩
   ·rw[aE (show ¬((cN d st fr).state≠3∨(cN d st fr).rel=false) from hst)];rcases hs with ⟨e1,e2⟩|⟨L,e1,e2,e3⟩
    ·rw[show eX (cV C.name l.frm (cN d st fr).to day) C.cust (cN d st fr).boxes=none from e1];by_cases hd:(kM x.reg (eZ 2 d l day)).2≠0
     ·rw[aF (.inl hd)];exact⟨h,rfl,rfl⟩
     ·rw[aE (fun k=>k.elim hd er),aF rfl,e2];exact⟨h,rfl,rfl⟩
    ·rw[show eX (cV C.name l.frm (cN d st fr).to day) C.cust (cN d st fr).boxes=some L from e1];dsimp only;by_cases hd:(kM x.reg (eZ 2 d l day)).2≠0
     ·rw[aF hd,aF (.inl hd)];exact⟨h,rfl,rfl⟩
     ·rw[aE hd,aE (fun k=>k.elim hd er),aF rfl,e2];dsimp only;rw[aE hst];have hr:=h.reg_act (eZ 2 d l day) ⟨show (0:Int)≤2 by decide,show (2:Int)≤5 by decide⟩ nD;have h9:fG s { C with cust:=L,deliv:=C.deliv++d.boxes.map (cV C.name l.frm d.to day),reg:=xU C.reg (eZ 2 d l day) } { x with D:=x.D++(x.H++d.boxes.map (cV C.name l.frm d.to day)).drop x.H.length,H:=x.H++d.boxes.map (cV C.name l.frm d.to day),reg:=(kM x.reg (eZ 2 d l day)).1 }:=
       ⟨h.par,h.nd,h.lenS,h.lenF,h.no,h.yes,hr.reg,hr.inv,e3,by show C.deliv++_=_;rw[h.del,List.drop_left]⟩
      refine⟨?_,rfl,rfl⟩;rw[show (cN d st fr).number=l.deal from h4];exact h9.state hi 4
  rw[aE k20];by_cases k19:l.kind=19
  ·rw[aF k19,aF k19];refine⟨?_,rfl,?_⟩
   ·show fG s (FC C (cN d st fr) l) _;unfold FC;by_cases hc:d.house≠eS∧l.frm=d.house
    ·rw[aF (show (cN d st fr).house≠eS∧l.frm=(cN d st fr).house from hc),aF hc,show (cN d st fr).number=l.deal from h4];exact h.free hi
    ·rw[aE (show ¬((cN d st fr).house≠eS∧l.frm=(cN d st fr).house) from hc),aE hc];exact h
   ·show (FC C (cN d st fr) l).name=C.name;unfold FC
    split<;>rfl
  rw[aE k19,aE k19];by_cases k23:l.kind=23
  ·rw[aF k23,aF (.inr (.inr (.inl k23))),aE k8,aE k20,aF k23];show fG s (sJ nm C (cN d st fr) l day).1 _∧cI l.deal day (sJ nm C (cN d st fr) l day).2=_∧_;unfold sJ;have e0:cK 3 (cN d st fr) l day=eZ 3 d l day:=rfl;have ea:jV C.reg (cK 3 (cN d st fr) l day)=(kM x.reg (eZ 3 d l day)).2:=by rw[e0,h.reg];exact CS (show ¬(3:Int)=0 by decide)
   rw[ea];by_cases hd:(kM x.reg (eZ 3 d l day)).2≠0
   ·rw[aF hd,aF (.inl hd)];exact⟨h,rfl,rfl⟩
   ·rw[aE hd,aE (fun k=>k.elim hd fun k=>absurd k.1 (by decide)),aE (by decide),aE (by decide),aE (by decide)];exact⟨e0 ▸ h.reg_act (eZ 3 d l day) ⟨show (0:Int)≤3 by decide,show (3:Int)≤5 by decide⟩ nD,rfl,rfl⟩
  rw[aE k23];by_cases k24:l.kind=24
  ·rw[aF k24,aF (.inr (.inr (.inr k24))),aE k8,aE k20,aE k23];show fG s (sD nm C (cN d st fr) l day).1 _∧cI l.deal day (sD nm C (cN d st fr) l day).2=_∧_;unfold sD;have e0:cK 4 (cN d st fr) l day=eZ 4 d l day:=rfl;have ea:jV C.reg (cK 4 (cN d st fr) l day)=(kM x.reg (eZ 4 d l day)).2:=by rw[e0,h.reg];exact CS (show ¬(4:Int)=0 by decide)
   rw[ea];by_cases hd:(kM x.reg (eZ 4 d l day)).2≠0
   ·rw[aF hd,aF (.inl hd)];exact⟨h,rfl,rfl⟩
   ·rw[aE hd,aE (fun k=>k.elim hd fun k=>absurd k.1 (by decide)),aE (by decide),aE (by decide),aF rfl];exact⟨e0 ▸ h.reg_act (eZ 4 d l day) ⟨show (0:Int)≤4 by decide,show (4:Int)≤5 by decide⟩ nD,rfl,rfl⟩
  ·rw[aE k24,aE (fun k=>by rcases k with k|k|k|k<;>contradiction)];exact⟨h,rfl,rfl⟩
def Ua (d:De):Prop:=d.boxes.length≤70
theorem fG.car {s:Su}{C:Cr}{x:Cs}(lad:Bl→Lr) (h:fG s C x) (hb:∀d∈s.deals,Ua d) (kind:Int) (deal:bH) (day:Int) :
  fG s (lO lad C kind deal day).1 (lG lad s C.name x kind deal day).1∧(lO lad C kind deal day).2=(lG lad s C.name x kind deal day).2∧(lO lad C kind deal day).1.name=C.name:=by
 unfold lO lG;by_cases hk:kind≠5∧kind≠6
 ·rw[aF hk,aF hk];exact⟨h,rfl,rfl⟩
 rw[aE hk,aE hk];cases hi:dP s C.name deal with
 |none=>
  rw[h.no _ hi];exact⟨h,rfl,rfl⟩
 |some i=>
  obtain⟨d,st,fr,h1,h2,h3,h4,h5⟩:=h.at hi;have hbd:=hb d (aC h1);unfold Ua at hbd;rw[h5];dsimp only;rw[h1,h2];dsimp only;by_cases k6:kind=6
  ·subst k6;simp only[aE (show ¬(6:Int)=5 by decide),↓reduceIte];by_cases hs:st=2
   ·rw[aE (show ¬(cN d st fr).state≠2 from fun k=>k hs),aE (show ¬st≠2 from fun k=>k hs)];refine⟨?_,rfl,rfl⟩;show fG s (qC C (cN d st fr).number (wW 3)) _;rw[show (cN d st fr).number=deal from h4];exact h.state hi 3
   ·rw[aF (show (cN d st fr).state≠2 from hs),aF hs];exact⟨h,rfl,rfl⟩
  ·have k5:kind=5:=by
    by_cases k:kind=5
    ·exact k
    ·exact absurd ⟨k,k6⟩ hk
   subst k5;simp only[aE (show ¬(5:Int)=6 by decide),↓reduceIte];by_cases hs:st=1
   ·rw[aE (show ¬(cN d st fr).state≠1 from fun k=>k hs),aE (show ¬st≠1 from fun k=>k hs)];unfold uR;have eb:gS C.name (cN d st fr) day=gS C.name (cN d st true) day:=rfl;rw[eb,h.reg];show fG s (ite _ _ _:Cr×List dR×Int).1 (ite (gQ ⟨x.reg,gS C.name (cN d st true) day,d.seller⟩≠0) _ _:Cs×List dR×Int).1∧_;have es:(cN d st fr).seller=d.seller:=rfl;rw[es];by_cases he:gQ ⟨x.reg,gS C.name (cN d st true) day,d.seller⟩=0
    ·rw[aE (fun k=>k he),aE (fun k=>k he)];refine⟨?_,rfl,rfl⟩;obtain⟨n,hn⟩:=h.inv;have hi2:C1 n (kD ⟨x.reg,gS C.name (cN d st true) day,d.seller⟩):=Eb hn ⟨by show d.boxes.length≤5000;omega,by show ([]:List bH).length≤5000;exact aI _⟩;have h9:fG s { C with reg:=kD ⟨x.reg,gS C.name (cN d st true) day,d.seller⟩ } { x with reg:=kD ⟨x.reg,gS C.name (cN d st true) day,d.seller⟩ }:=⟨h.par,h.nd,h.lenS,h.lenF,h.no,h.yes,rfl,⟨n,hi2⟩,h.cust,h.del⟩
     rw[show (cN d st fr).number=deal from h4];exact h9.state hi 2
    ·rw[aF he,aF he];exact⟨h,rfl,rfl⟩
   ·rw[aF (show (cN d st fr).state≠1 from hs),aF hs];exact⟨h,rfl,rfl⟩
set_option maxHeartbeats 1000000
def IU:List UInt8:=[100,101,97,108,32]
def Rf:List UInt8:=[111,114,105,103,105,110,97,108,32]
def Py:List UInt8:=[98,111,120,32]
def K5 (b:Bool):List UInt8:=if b=true then [114,101,108,101,97,115,101,100] else [104,101,108,100]
def pB (z:Int):List UInt8:=if z=0 then [110,111,116,104,105,110,103] else if z=1 then [116,97,107,101,110] else if z=2 then [97,98,111,97,114,100] else if z=3 then [108,97,110,100,101,100] else [100,101,108,105,118,101,114,101,100]
def tO (z:Int):List UInt8:=if z=0 then [108,105,118,101] else if z=1 then [100,111,110,101] else if z=2 then [118,111,105,100] else if z=3 then [108,111,115,116] else [114,101,116,105,114,101,100]
def sH (d:Dp):List UInt8:=IU++(iT d.number++(32 :: (pB d.state++(32 :: (K5 d.rel++[10])))))
def iS (n:bH) (k:UInt8) (o:Og):List UInt8:=Rf++(iT n++(32 :: k :: 32 :: (tO o.state++(32 :: (iT o.holder++[10])))))
def xI (y:Br):List UInt8:=iS y.b.number 48 y.o0++(iS y.b.number 49 y.o1++iS y.b.number 50 y.o2)
def Fq (b:bH) (own:List eF):List UInt8:=match own.getLast? with
 |some h=>Py++(iT b++(32 :: (iT h.to++(32 :: (iT h.place++[10])))))
 |none=>[]
def Cw (L:List Dp) (n:bH):List UInt8:=match gV Dp.number L n with
 |some d=>sH d
 |none=>[]
def uX (L:List Br) (n:bH):List UInt8:=match Ch L n with
 |some y=>xI y
 |none=>[]
def OM (L:List cZ) (b:bH):List UInt8:=match gV cZ.box L b with
 |some c=>Fq b c.hist
 |none=>[]
def AU (C:Cr):List UInt8:=(eA (C.deals.map Dp.number)).flatMap (Cw C.deals)++((gR C.reg.bills fun _=>true).flatMap (uX C.reg.bills)++(eA (C.cust.map cZ.box)).flatMap (OM C.cust))
def BV (s:Su) (name:bH):List bH:=s.deals.foldl (fun l d=>if d.carrier=name then nP l d.number else l) []
def BF (s:Su) (name:bH) (x:Cs) (n:bH):List UInt8:=match dP s name n with
 |some i=>match s.deals[i]?,x.S[i]?,x.free[i]? with
  |some d,some st,some fr=>sH (cN d st fr)
  |_,_,_=>[]
 |none=>[]
def A6 (s:Su) (name:bH) (x:Cs):List UInt8:=(BV s name).flatMap (BF s name x)++((gR x.reg.bills fun _=>true).flatMap (uX x.reg.bills)++(iZ x.H).flatMap fun b=>Fq b (iW x.H b))
theorem qP (name:bH):∀(D:List De) (l:List bH),l.Pairwise Pj→(D.foldl (fun l d=>if d.carrier=name then nP l d.number else l) l).Pairwise Pj∧∀x,x∈D.foldl (fun l d=>if d.carrier=name then nP l d.number else l) l↔x∈l∨∃d∈D,d.carrier=name∧d.number=x
 |[],l,hl=>⟨hl,fun x=>by simp⟩
 |d :: D,l,hl=>by
  rw[List.foldl_cons];by_cases hc:d.carrier=name
  ·rw[aF hc];obtain⟨h1,h2⟩:=qP name D (nP l d.number) (B0 d.number hl);refine⟨h1,fun x=>(h2 x).trans ?_⟩;rw[ED];constructor
   ·rintro ((a|rfl)|⟨k,hk,e⟩)
    ·exact .inl a
    ·exact .inr ⟨d,bD ..,hc,rfl⟩
    ·exact .inr ⟨k,aW _ hk,e⟩
   ·rintro (a|⟨k,hk,e1,e2⟩)
    ·exact .inl (.inl a)
    ·rcases List.mem_cons.1 hk with rfl|hk
     ·exact .inl (.inr e2.symm)
     ·exact .inr ⟨k,hk,e1,e2⟩
  ·rw[aE hc];obtain⟨h1,h2⟩:=qP name D l hl;refine⟨h1,fun x=>(h2 x).trans ?_⟩;constructor
   ·rintro (a|⟨k,hk,e⟩)
    ·exact .inl a
    ·exact .inr ⟨k,aW _ hk,e⟩
   ·rintro (a|⟨k,hk,e1,e2⟩)
    ·exact .inl a
    ·rcases List.mem_cons.1 hk with rfl|hk
     ·exact absurd e1 hc
     ·exact .inr ⟨k,hk,e1,e2⟩
theorem sK {s:Su}{name n:bH}:(∃i,dP s name n=some i)↔ ∃d∈s.deals,d.carrier=name∧d.number=n:=by
 constructor
 ·rintro ⟨i,hi⟩;obtain⟨d,h1,h2,h3⟩:=oH hi;exact⟨d,aC h1,h2,h3⟩
 ·rintro ⟨d,hd,h2,h3⟩;cases hi:dP s name n with
  |some i=>exact⟨i,rfl⟩
  |none=>
   unfold dP at hi;rw[List.findIdx?_eq_none_iff]at hi;have:=hi d hd;simp[h2,h3]at this
theorem AJ {W:List bH}{f g:bH→List UInt8}(h:∀x∈W,f x=g x):W.flatMap f=W.flatMap g:=by
 induction W with
 |nil=>rfl
 |cons a W ih=>rw[List.flatMap_cons,List.flatMap_cons,h a (bD ..),ih fun x hx=>h x (aW _ hx)]
theorem fG.text {s:Su}{C:Cr}{x:Cs}(h:fG s C x):AU C=A6 s C.name x:=by
 unfold AU A6;have e1:BV s C.name=eA (C.deals.map Dp.number):=by
  obtain⟨h1,h2⟩:=qP C.name s.deals [] .nil;refine Eh h1 h.nd fun n=>(h2 n).trans ?_
  rw[←sK];constructor
  ·rintro (a|⟨i,hi⟩)
   ·cases a
   ·obtain⟨d,st,fr,g1,g2,g3,g4,g5⟩:=h.at hi;obtain⟨g6,g7⟩:=jY g5;exact aX.2 ⟨_,g6,g7⟩
  ·intro hm;refine .inr ?_;cases hi:dP s C.name n with
   |some i=>exact⟨i,rfl⟩
   |none=>
    obtain⟨d,hd,hn⟩:=aX.1 hm;exact absurd hn (iJ (h.no n hi) hd)
 rw[e1,h.reg,←h.cust.boxes];congr 1
 ·refine AJ fun n hn=>?_
  unfold Cw BF;cases hi:dP s C.name n with
  |none=>rw[h.no n hi]
  |some i=>
   obtain⟨d,st,fr,g1,g2,g3,g4,g5⟩:=h.at hi;rw[g5];dsimp only;rw[g1,g2,g3]
 ·congr 1;refine AJ fun b hb=>?_
  unfold OM;cases hl:gV cZ.box C.cust b with
  |none=>
   rw[h.cust.boxes,(kV _).mem_iff]at hb;obtain⟨c,hc,hcb⟩:=aX.1 hb;exact absurd hcb (iJ hl hc)
  |some c=>dsimp only;rw[(h.cust.yes b c hl).1]
theorem eD {a b:bH}(h:iT a=iT b):a=b:=by rw[←nA a,←nA b,h]
end Go.Proofs.YtigdiekbiphhmaaGreatDoor
end
