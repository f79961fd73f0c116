/-
  Texts of this proof,joined: RI,RJ,RK,RL,RM,RN,RO,RP,RQ,RR,RS,SA,SB,SC,SD,SE,SF,SG,SGZ,SH,SI,TA,CPA,CPB,CPC,CPD.
-/
import Derived.Test.YtigdiekbiphhmaaGreatDoorK4
import Derived.Shelf.Sort.Plain
import Derived.Shelf.Slices.In.SortNone
import Derived.Sort.OwnSorted
import Derived.Test.YtigdiekbiphhmaaGreatDoorChecked
set_option linter.unusedVariables false
set_option linter.unusedSimpArgs false
noncomputable section
namespace Go.Proofs.YtigdiekbiphhmaaGreatDoor
open Go.RowKit
set_option maxHeartbeats 2000000
set_option maxRecDepth 100000
def pQ (l:List mI) (k:Int):Bool:=match l.getLast? with
 |some e=>decide (e.kind=k)
 |none=>false
def Gl (l:List mI) (d:Int):Bool:=match l.getLast? with
 |some e=>decide (d < e.day)
 |none=>false
theorem lX {l:List mI}(h:l.length=0):l.getLast?=none:=by rw[aR h];rfl
theorem oO {l:List mI}{i:Nat}{e:mI}(h:i+1=l.length) (hl:l[i]?=some e):l.getLast?=some e:=by
 rw[List.getLast?_eq_getElem?,show l.length - 1=i by omega];exact hl
def BT (k:Int):dA:=spec (fun l:List mI=>[.sl 4 (bJ bV l)]) (fun _=>[]) (fun l=>l.length≤5000) (fun l=>.bl (pQ l k)) fun _=>[]
theorem GT (P:bI):bM P Yv (BT 1):=by
 intro args H K hc;obtain⟨c,rfl,rfl,hp,hK⟩:=hc;refine⟨cL,?_⟩;dsimp only at hp hK⊢;have hd:pQ c 1=match c.getLast? with
  |some e=>decide (e.kind=1)
  |none=>false:=rfl
 obtain⟨q,hq⟩:∃x,x=(pQ c 1):=⟨_,rfl⟩
 rw[←hq]at hK hd;cbv;repeat'((first|refine .mk (fun h=>?_) fun h=>?_|refine .k fun z hz=>?_|fail)<;>cbv)
 ·refine cM bQ bQ fun i l hi hl=>?_
  obtain⟨f,t,k,d⟩:=l;rw[oO bQ hl]at hd;cbv;repeat'((first|refine .mk (fun h=>?_) fun h=>?_|fail)<;>cbv)
  exact bZ.mk ⟨_,Gh.refl _,.inl (.v9 (cE hK (by(rw[hd];simp[*]))))⟩;exact bZ.mk ⟨_,Gh.refl _,.inl (.v9 (cE hK (by(rw[hd];simp[*]))))⟩
 ·rw[lX bQ]at hd;exact bZ.mk ⟨_,Gh.refl _,.inl (.v9 (cE hK (by(rw[hd]))))⟩
theorem FR (P:bI):bM P XR (BT 2):=by
 intro args H K hc;obtain⟨c,rfl,rfl,hp,hK⟩:=hc;refine⟨cL,?_⟩;dsimp only at hp hK⊢;have hd:pQ c 2=match c.getLast? with
  |some e=>decide (e.kind=2)
  |none=>false:=rfl
 obtain⟨q,hq⟩:∃x,x=(pQ c 2):=⟨_,rfl⟩
 rw[←hq]at hK hd;cbv;repeat'((first|refine .mk (fun h=>?_) fun h=>?_|refine .k fun z hz=>?_|fail)<;>cbv)
 ·refine cM bQ bQ fun i l hi hl=>?_
  obtain⟨f,t,k,d⟩:=l;rw[oO bQ hl]at hd;cbv;repeat'((first|refine .mk (fun h=>?_) fun h=>?_|fail)<;>cbv)
  exact bZ.mk ⟨_,Gh.refl _,.inl (.v9 (cE hK (by(rw[hd];simp[*]))))⟩;exact bZ.mk ⟨_,Gh.refl _,.inl (.v9 (cE hK (by(rw[hd];simp[*]))))⟩
 ·rw[lX bQ]at hd;exact bZ.mk ⟨_,Gh.refl _,.inl (.v9 (cE hK (by(rw[hd]))))⟩
def yB:mI→Bool
 |⟨f,t,k,d⟩=>bT f && (decide (0≤d) && decide (d≤1048576)) && (if k=1 then decide (t=⟨⟨[]⟩⟩) else if k=0∨k=2 then bT t && !decide (t=f) else false)
def H8:dA:=spec (fun e:mI=>[bV e]) (fun _=>[]) (fun _=>True) (fun e=>.bl (yB e)) fun _=>[]
theorem Hb (P:bI) (hn:bK P 144 (iL (fun _=>True) bT)):bM P Yn H8:=by
 intro args H K hc;obtain⟨⟨f,t,k,d⟩,rfl,rfl,hp,hK⟩:=hc;refine⟨cL,?_⟩;dsimp only at hp hK⊢;have hd:yB ⟨f,t,k,d⟩=(bT f && (decide (0≤d) && decide (d≤1048576)) && (if k=1 then decide (t=⟨⟨[]⟩⟩) else if k=0∨k=2 then bT t && !decide (t=f) else false)):=rfl;obtain⟨q,hq⟩:∃x,x=(yB ⟨f,t,k,d⟩):=⟨_,rfl⟩
 obtain⟨n,hn1⟩:∃x,x=bT f:=⟨_,rfl⟩
 obtain⟨m,hm⟩:∃x,x=(bT t):=⟨_,rfl⟩
 rw[←hq]at hK hd;rw[←hn1,←hm]at hd;cbv
 (refine bX hn f trivial ?_;try dsimp only)
 rw[←hn1];cases n with
 |false=>
  cbv;exact bZ.mk ⟨_,Gh.refl _,.inl (.v9 (cE hK (by(rw[hd];rfl))))⟩
 |true=>
  cbv;repeat'((first|refine .mk (fun h=>?_) fun h=>?_|fail)<;>cbv)
  ·exact bZ.mk ⟨_,Gh.refl _,.inl (.v9 (cE hK (by(rw[hd];simp;omega))))⟩
  ·exact bZ.mk ⟨_,Gh.refl _,.inl (.v9 (cE hK (by(rw[hd];simp;omega))))⟩
  ·exact bZ.mk ⟨_,Gh.refl _,.inl (.v9 (cE hK (by(rw[hd];simp[*]))))⟩
  ·exact bZ.mk ⟨_,Gh.refl _,.inl (.v9 (cE hK (by(rw[hd];simp[*]))))⟩
  all_goals first|exact bZ.mk ⟨_,Gh.refl _,.inl (.v9 (cE hK (by(rw[hd];simp[*]))))⟩|skip
  all_goals
   (refine bX hn t trivial ?_;try dsimp only)
   rw[←hm];cases m with
   |false=>
    cbv;exact bZ.mk ⟨_,Gh.refl _,.inl (.v9 (cE hK (by(rw[hd];clear hn1 hm hq;simp[*]))))⟩
   |true=>
    cbv;repeat'((first|refine .mk (fun h=>?_) fun h=>?_|fail)<;>cbv)
    ·exact bZ.mk ⟨_,Gh.refl _,.inl (.v9 (cE hK (by(rw[hd];clear hn1 hm hq;simp[*]))))⟩
    ·exact bZ.mk ⟨_,Gh.refl _,.inl (.v9 (cE hK (by(rw[hd];clear hn1 hm hq;simp[*]))))⟩
def mC (holder:bH) (c:List mI) (e:mI):Int:=if yB e=false then 2 else if pQ c 2 then 9 else if pQ c 1=false∧¬e.frm=holder then 8 else if Gl c e.day then 6 else 0
def ID:dA:=spec (fun i:bH×List mI×mI=>[.str i.1,.sl 4 (bJ bV i.2.1),bV i.2.2]) (fun _=>[]) (fun i=>i.2.1.length≤5000) (fun i=>.i (mC i.1 i.2.1 i.2.2)) fun _=>[]
theorem Hf (P:bI) (hm:bK P 212 H8) (hb:bK P 214 (BT 1)) (hc:bK P 213 (BT 2)):bM P YU ID:=by
 intro args H K hc;obtain⟨⟨holder,c,⟨f,t,k,d⟩⟩,rfl,rfl,hp,hK⟩:=hc;refine⟨cL,?_⟩;dsimp only at hp hK⊢;have hd:mC holder c ⟨f,t,k,d⟩=if yB ⟨f,t,k,d⟩=false then 2 else if pQ c 2 then 9 else if pQ c 1=false∧¬f=holder then 8 else if Gl c d then 6 else 0:=rfl
 have hl:Gl c d=match c.getLast? with
  |some e=>decide (d < e.day)
  |none=>false:=rfl
 obtain⟨q,hq⟩:∃q,q=mC holder c ⟨f,t,k,d⟩:=⟨_,rfl⟩
 obtain⟨q1,hq1⟩:∃q,q=yB ⟨f,t,k,d⟩:=⟨_,rfl⟩
 obtain⟨q2,hq2⟩:∃q,q=pQ c 2:=⟨_,rfl⟩
 obtain⟨q3,hq3⟩:∃q,q=pQ c 1:=⟨_,rfl⟩
 obtain⟨q4,hq4⟩:∃q,q=Gl c d:=⟨_,rfl⟩
 rw[←hq]at hK hd;rw[←hq1,←hq2,←hq3,←hq4]at hd;rw[←hq4]at hl;cbv
 (refine bX hm (⟨f,t,k,d⟩:mI) trivial ?_;try dsimp only)
 rw[←hq1];cases q1 with
 |false=>
  cbv;exact bZ.mk ⟨_,Gh.refl _,.inl (.v9 (fO hK (by(rw[hd];rfl))))⟩
 |true=>
  cbv
  (refine bX hc c hp ?_;try dsimp only)
  rw[←hq2];cases q2 with
  |true=>
   cbv;exact bZ.mk ⟨_,Gh.refl _,.inl (.v9 (fO hK (by(rw[hd];rfl))))⟩
  |false=>
   cbv
   (refine bX hb c hp ?_;try dsimp only)
   rw[←hq3];cases q3 with
   |true=>
    cbv;repeat'((first|refine .mk (fun h=>?_) fun h=>?_|refine .k fun z hz=>?_|fail)<;>cbv)
    ·refine cM bQ bQ fun i l hi hli=>?_
     obtain⟨f',t',k',d'⟩:=l;rw[oO bQ hli]at hl;dsimp only at hl;cbv;repeat'((first|refine .mk (fun h=>?_) fun h=>?_|fail)<;>cbv)
     ·rw[aH h]at hl;exact bZ.mk ⟨_,Gh.refl _,.inl (.v9 (fO hK (by(rw[hd,hl];clear hd hq hq1 hq2 hq3 hq4;simp[*]))))⟩
     ·rw[aG (by omega)]at hl;exact bZ.mk ⟨_,Gh.refl _,.inl (.v9 (fO hK (by(rw[hd,hl];clear hd hq hq1 hq2 hq3 hq4;simp[*]))))⟩
    ·rw[lX bQ]at hl;dsimp only at hl;exact bZ.mk ⟨_,Gh.refl _,.inl (.v9 (fO hK (by(rw[hd,hl];clear hd hq hq1 hq2 hq3 hq4;simp[*]))))⟩
   |false=>
    cbv;repeat'((first|refine .mk (fun h=>?_) fun h=>?_|refine .k fun z hz=>?_|fail)<;>cbv)
    ·refine cM bQ bQ fun i l hi hli=>?_
     obtain⟨f',t',k',d'⟩:=l;rw[oO bQ hli]at hl;dsimp only at hl;cbv;repeat'((first|refine .mk (fun h=>?_) fun h=>?_|fail)<;>cbv)
     ·rw[aH h]at hl;exact bZ.mk ⟨_,Gh.refl _,.inl (.v9 (fO hK (by(rw[hd,hl];clear hd hq hq1 hq2 hq3 hq4;simp[*]))))⟩
     ·rw[aG (by omega)]at hl;exact bZ.mk ⟨_,Gh.refl _,.inl (.v9 (fO hK (by(rw[hd,hl];clear hd hq hq1 hq2 hq3 hq4;simp[*]))))⟩
    ·rw[lX bQ]at hl;dsimp only at hl;exact bZ.mk ⟨_,Gh.refl _,.inl (.v9 (fO hK (by(rw[hd,hl];clear hd hq hq1 hq2 hq3 hq4;simp[*]))))⟩
    ·exact bZ.mk ⟨_,Gh.refl _,.inl (.v9 (fO hK (by(rw[hd];clear hd hq hq1 hq2 hq3 hq4;simp[*]))))⟩
def iH (h:bH) (ahead:List mI):List mI→bH×Int×Int
 |[]=>(h,Int.ofNat ahead.length,0)
 |e :: r=>if mC h ahead e=0 then iH e.to (ahead++[e]) r else (⟨⟨[]⟩⟩,Int.ofNat ahead.length,mC h ahead e)
def lW (first:bH) (l:List mI):bH×Int×Int:=if bT first=false then (⟨⟨[]⟩⟩,0,1) else iH first [] l
theorem GP {c:List mI}{h:bH}{k:Nat}{e:mI}(he:c[k]?=some e) (hw:mC h (c.take k) e=0):iH h (c.take k) (c.drop k)=iH e.to (c.take (k+1)) (c.drop (k+1)):=by
 obtain⟨hk,rfl⟩:=aA.1 he;rw[List.drop_eq_getElem_cons hk,iH,aF hw,List.take_succ_eq_append_getElem hk]
theorem E6 {c:List mI}{h:bH}{k:Nat}{e:mI}(he:c[k]?=some e) (hw:¬mC h (c.take k) e=0):iH h (c.take k) (c.drop k)=(⟨⟨[]⟩⟩,Int.ofNat k,mC h (c.take k) e):=by
 obtain⟨hk,rfl⟩:=aA.1 he;rw[List.drop_eq_getElem_cons hk,iH,aE hw,aS,Nat.min_eq_left (Nat.le_of_lt hk)]
theorem FN {c:List mI}{h:bH}{k:Nat}(hk:k=c.length):iH h (c.take k) (c.drop k)=(h,Int.ofNat k,0):=by
 rw[List.drop_eq_nil_of_le (by omega),iH,aS,hk,Nat.min_self]
def XG:bH×Int×Int→AV
 |(s,i,e)=>.tup [.str s,.i i,.i e]
def G5:dA:=spec (fun i:bH×List mI=>[.str i.1,.sl 4 (bJ bV i.2)]) (fun _=>[]) (fun i=>i.2.length≤5000) (fun i=>XG (lW i.1 i.2)) fun _=>[]
theorem HD (P:bI) (hn:bK P 144 (iL (fun _=>True) bT)) (hw:bK P 205 ID):bM P Yb G5:=by
 intro args H K hc;obtain⟨⟨first,c⟩,rfl,rfl,hp,hK⟩:=hc;refine⟨cL,?_⟩;dsimp only at hp hK⊢;have hd:lW first c=if bT first=false then (⟨⟨[]⟩⟩,0,1) else iH first (c.take 0) (c.drop 0):=rfl
 obtain⟨q,hq⟩:∃q,q=lW first c:=⟨_,rfl⟩
 obtain⟨n,hn1⟩:∃q,q=bT first:=⟨_,rfl⟩
 rw[←hq]at hK hd;rw[←hn1]at hd;cbv;refine UN (ι:=Empty) 0 (fun e=>nomatch e) (fun e=>nomatch e) rfl ?_ (fun e=>nomatch e);cbv
 (refine bX hn first trivial ?_;try dsimp only)
 rw[←hn1];cases n with
 |false=>
  rw[aF rfl]at hd;subst hd;cbv;exact bZ.mk ⟨_,Gh.refl _,.inl (.v9 hK)⟩
 |true=>
  rw[aE (by decide)]at hd;cbv;repeat'((first|refine .k fun z hz=>?_|fail)<;>cbv)
  refine bS [] (fun p:{ p:Nat×bH // p.1≤c.length∧q=iH p.2 (c.take p.1) (c.drop p.1) }=>[(14,.i (nI p.1.1)),(4,.str p.1.2),(5,.i 0),(6,.i 0)]) (fun _=>[]) (fun p=>eW 5001 p.1.1) ⟨(0,first),aI _,hd⟩ ?_;rintro ⟨⟨k,hh⟩,hk,hd⟩;dsimp only at hk hd⊢;cbv;repeat'((first|refine .y fun h=>?_|refine .mk (fun h=>?_) fun h=>?_|refine .k fun z hz=>?_|refine .l fun ys hys hyl=>?_|fail)<;>cbv)
  ·obtain rfl:ys=c.take k:=by rw[hys];simp
   refine cM bQ bQ fun i l hi hl=>?_
   obtain rfl:k=i:=bQ;obtain⟨f',t',k',d'⟩:=l;have e1:=GP (h:=hh) hl;have e2:=E6 (h:=hh) hl;cbv;obtain⟨w,hw1⟩:∃w,w=mC hh (c.take k) ⟨f',t',k',d'⟩:=⟨_,rfl⟩
   rw[←hw1]at e1 e2
   (refine bX hw (hh,c.take k,(⟨f',t',k',d'⟩:mI)) (by dsimp only;rw[aS];omega) ?_;try dsimp only)
   rw[←hw1];cbv;repeat'((first|refine .e ?_|refine .n fun h=>?_|refine .mk (fun h=>?_) fun h=>?_|refine .k fun z hz=>?_|fail)<;>cbv)
   ·subst h;obtain rfl:z=nI (k+1):=bQ;exact bN ⟨(k+1,t'),by exact bQ,hd.trans (e1 rfl)⟩ (bO bQ)
   ·obtain rfl:=hd.trans (e2 h);exact bZ.mk ⟨_,Gh.refl _,.inl (.v9 hK)⟩
  ·obtain rfl:k=c.length:=bQ;obtain rfl:z=nI c.length:=bQ;rw[FN rfl]at hd;subst hd;exact bZ.mk ⟨_,Gh.refl _,.inl (.v9 hK)⟩
def DU:dA:=spec (fun i:bH×List mI=>[.str i.1,.sl 4 (bJ bV i.2)]) (fun _=>[]) (fun i=>i.2.length≤5000) (fun i=>.str (lW i.1 i.2).1) fun _=>[]
theorem DD (P:bI) (hc:bK P 186 G5):bM P XF DU:=by
 intro args H K hc;obtain⟨⟨first,c⟩,rfl,rfl,hp,hK⟩:=hc;refine⟨cL,?_⟩;dsimp only at hp hK⊢;obtain⟨⟨h,i,e⟩,hq⟩:∃q,q=lW first c:=⟨_,rfl⟩
 rw[←hq]at hK;dsimp only at hK;cbv
 (refine bX hc (first,c) hp ?_;try dsimp only)
 rw[←hq];cbv;exact bZ.mk ⟨_,Gh.refl _,.inl (.v9 (Pe hK (by rfl)))⟩
def xU (s:Int):Og→Og
 |⟨_,h,c⟩=>⟨s,h,c⟩
def tL (idx:Int) (f:Og→Og):Br→Br
 |⟨b,st,o0,o1,o2⟩=>⟨b,st,bif eJ idx 0 then f o0 else o0,bif eJ idx 1 then f o1 else o1,bif eJ idx 2 then f o2 else o2⟩
def Db (st:Int):Br→Br
 |⟨b,_,o0,o1,o2⟩=>⟨b,st,xU 2 o0,xU 2 o1,xU 2 o2⟩
def Xo (st:Int):Nat→Br→Br
 |0,⟨b,_,o0,o1,o2⟩=>⟨b,st,o0,o1,o2⟩
 |1,⟨b,_,o0,o1,o2⟩=>⟨b,st,xU 2 o0,o1,o2⟩
 |2,⟨b,_,o0,o1,o2⟩=>⟨b,st,xU 2 o0,xU 2 o1,o2⟩
 |_,⟨b,_,o0,o1,o2⟩=>⟨b,st,xU 2 o0,xU 2 o1,xU 2 o2⟩
def Ug:dA:=spec (fun i:Br×Int=>[.ptr 0 0,.i i.2]) (fun i=>qE i.1) (fun _=>True) (fun _=>.tup []) fun i=>qE (Db i.2 i.1)
theorem OC (P:bI):bM P YP Ug:=by
 intro args H K hc;obtain⟨⟨y,st⟩,rfl,rfl,hp,hK⟩:=hc;refine⟨cL,?_⟩;dsimp only at hp hK⊢;obtain⟨⟨nq1,cq1,sq1,frm1,to1,bq1,pq1,iq1,lq1⟩,st1,⟨sa1,ha1,ca1⟩,⟨sb1,hb1,cb1⟩,⟨sc1,hc1,cc1⟩⟩:=y;cbv;refine bS [] (fun p:{ k:Nat // k≤3 }=>[(9,.i (nI p.1))]) (fun p=>qE (Xo st p.1 ⟨⟨nq1,cq1,sq1,frm1,to1,bq1,pq1,iq1,lq1⟩,st1,⟨sa1,ha1,ca1⟩,⟨sb1,hb1,cb1⟩,⟨sc1,hc1,cc1⟩⟩)) (fun p=>eW 3 p.1) ⟨0,by decide⟩ ?_;rintro ⟨k,hk⟩;dsimp only at hk⊢;have hk4:k=0∨k=1∨k=2∨k=3:=by omega
 rcases hk4 with rfl|rfl|rfl|rfl
 ·cbv;repeat'((first|refine .n fun h=>?_|refine .y fun h=>?_|refine .k fun z hz=>?_|refine .o ?_|fail)<;>cbv)
  obtain rfl:z=nI 1:=bQ;exact bN ⟨1,by decide⟩ (bO (by decide))
 ·cbv;repeat'((first|refine .n fun h=>?_|refine .y fun h=>?_|refine .k fun z hz=>?_|refine .o ?_|fail)<;>cbv)
  obtain rfl:z=nI 2:=bQ;exact bN ⟨2,by decide⟩ (bO (by decide))
 ·cbv;repeat'((first|refine .y fun h=>?_|refine .k fun z hz=>?_|refine .o ?_|fail)<;>cbv)
  obtain rfl:z=nI 3:=bQ;exact bN ⟨3,by decide⟩ (bO (by decide))
 ·cbv;repeat'((first|refine .n fun h=>?_|fail)<;>cbv)
  (refine .q9 ?_;cbv;exact .inl (.f9 hK))
def BD (L:List Br) (s:bH) (f:Br→Br):List Br:=match oL L s with
 |some i=>match L[i]? with
  |some b=>L.set i (f b)
  |none=>L
 |none=>L
theorem gT {L:List Br}{s:bH}{i:Nat}{b:Br}(f:Br→Br) (h:oL L s=some i) (hb:L[i]?=some b):BD L s f=L.set i (f b):=by unfold BD;rw[h];dsimp only;rw[hb]
def gB (L:List Br) (a:Ak) (f:Br→Br):List Br:=if eM L a=0 then BD L a.bill f else L
theorem lD {L:List Br}{a:Ak}{i:Nat}{b:Br}(h:eM L a=0) (hi:oL L a.bill=some i) (hb:L[i]?=some b):nT b a=0:=by
 unfold eM at h;rw[hi]at h;dsimp only at h;rw[hb]at h;exact h
theorem jU {L:List Br}{a:Ak}(h:eM L a=0) (hi:oL L a.bill=none):False:=by
 unfold eM at h;rw[hi]at h;exact absurd h (show ¬(4:Int)=0 by decide)
theorem mN {b:Br}{a:Ak}(h:nT b a=0):a.least≤a.index∧a.index < 3:=by
 unfold nT at h
 split at h
 ·exact absurd h (by decide)
 ·next hk=>unfold k1 at hk;simp at hk;omega
def WF (args:Ak→List AV) (f:Ak→Br→Br) (p:Ak→Prop):dA:=spec (fun i:Rg×Ak=>args i.2) (fun i=>iQ i.1) (fun i=>(∀b∈i.1.bills,mJ b)∧p i.2) (fun i=>.i (eM i.1.bills i.2)) fun i=>iQ ⟨i.1.carrier,gB i.1.bills i.2 (f i.2)⟩
def rI (a:Ak):Br→Br:=tL a.index (xU 3)
def IX:dA:=WF (fun a=>[.ptr 0 0,.str a.bill,.i a.index,.str a.by_]) rI fun a=>a.least=0∧a.state=0∧a.day=0∧a.dated=false∧a.wrong=false
theorem Lv (P:bI) (ha:bK P 78 Lc):bM P ZD IX:=by
 intro args H K hc;obtain⟨⟨⟨carrier,L⟩,⟨bill,index,least,by_,state,day,dated,wrong⟩⟩,rfl,rfl,hp,hK⟩:=hc;refine⟨cL,?_⟩;dsimp only at hp hK⊢;obtain⟨hp,rfl,rfl,rfl,rfl,rfl⟩:=hp;obtain⟨e,he⟩:∃e,e=eM L ⟨bill,index,0,by_,0,0,false,false⟩:=⟨_,rfl⟩
 obtain⟨L',hL'⟩:∃L',L'=gB L ⟨bill,index,0,by_,0,0,false,false⟩ (rI ⟨bill,index,0,by_,0,0,false,false⟩):=⟨_,rfl⟩
 rw[←he,←hL']at hK;unfold gB at hL';dsimp only at hL';rw[←he]at hL';cbv
 (refine fI ha (⟨carrier,L⟩,⟨bill,index,0,by_,0,0,false,false⟩) [0,1] hp ?_;try dsimp only)
 rw[←he];cbv;repeat'((first|refine .mk (fun h=>?_) fun h=>?_|fail)<;>cbv)
 ·rw[aF h]at hL';refine eE (fun b:Br=>b.b.number) (fun _=>rfl) (fun i y hai hy hky=>?_) (fun hai=>?_)<;>dsimp only at *
  ·have hz:=lD (he.symm.trans h) hai hy;have hk:=mN hz;clear hz;rw[gT _ hai hy]at hL';dsimp only at hk;have hk3:index=0∨index=1∨index=2:=by omega
   obtain⟨⟨nq1,cq1,sq1,frm1,to1,bq1,pq1,iq1,lq1⟩,st1,⟨sa1,ha1,ca1⟩,⟨sb1,hb1,cb1⟩,⟨sc1,hc1,cc1⟩⟩:=y;rcases hk3 with rfl|rfl|rfl
   ·obtain rfl:L'=L.set i ⟨⟨nq1,cq1,sq1,frm1,to1,bq1,pq1,iq1,lq1⟩,st1,⟨3,ha1,ca1⟩,⟨sb1,hb1,cb1⟩,⟨sc1,hc1,cc1⟩⟩:=hL';cbv;repeat'((first|refine .n fun h=>?_|refine .o ?_|fail)<;>cbv)
    (refine .r9 (Gh.back 1 ([2,3,4,5]) aaI ⟨⟨nq1,cq1,sq1,frm1,to1,bq1,pq1,iq1,lq1⟩,st1,⟨3,ha1,ca1⟩,⟨sb1,hb1,cb1⟩,⟨sc1,hc1,cc1⟩⟩ rfl hy) ?_;cbv;exact .inl (.f9 hK))
   ·obtain rfl:L'=L.set i ⟨⟨nq1,cq1,sq1,frm1,to1,bq1,pq1,iq1,lq1⟩,st1,⟨sa1,ha1,ca1⟩,⟨3,hb1,cb1⟩,⟨sc1,hc1,cc1⟩⟩:=hL';cbv;repeat'((first|refine .n fun h=>?_|refine .y fun h=>?_|refine .o ?_|fail)<;>cbv)
    (refine .r9 (Gh.back 1 ([2,3,4,5]) aaI ⟨⟨nq1,cq1,sq1,frm1,to1,bq1,pq1,iq1,lq1⟩,st1,⟨sa1,ha1,ca1⟩,⟨3,hb1,cb1⟩,⟨sc1,hc1,cc1⟩⟩ rfl hy) ?_;cbv;exact .inl (.f9 hK))
   ·obtain rfl:L'=L.set i ⟨⟨nq1,cq1,sq1,frm1,to1,bq1,pq1,iq1,lq1⟩,st1,⟨sa1,ha1,ca1⟩,⟨sb1,hb1,cb1⟩,⟨3,hc1,cc1⟩⟩:=hL';cbv;repeat'((first|refine .y fun h=>?_|refine .o ?_|fail)<;>cbv)
    (refine .r9 (Gh.back 1 ([2,3,4,5]) aaI ⟨⟨nq1,cq1,sq1,frm1,to1,bq1,pq1,iq1,lq1⟩,st1,⟨sa1,ha1,ca1⟩,⟨sb1,hb1,cb1⟩,⟨3,hc1,cc1⟩⟩ rfl hy) ?_;cbv;exact .inl (.f9 hK))
  ·exact(jU (he.symm.trans h) hai).elim
 ·rw[aE h]at hL';subst hL'
  (refine .q9 ?_;cbv;exact .inl (.f9 hK))
def Qa (a:Ak):Br→Br:=tL a.index (xU 0)
def AR:dA:=WF (fun a=>[.ptr 0 0,.str a.bill,.i a.index,.str a.by_,.i a.day]) Qa fun a=>a.least=0∧a.state=3∧a.dated=true∧a.wrong=false
theorem DG (P:bI) (ha:bK P 78 Lc):bM P X8 AR:=by
 intro args H K hc;obtain⟨⟨⟨carrier,L⟩,⟨bill,index,least,by_,state,day,dated,wrong⟩⟩,rfl,rfl,hp,hK⟩:=hc;refine⟨cL,?_⟩;dsimp only at hp hK⊢;obtain⟨hp,rfl,rfl,rfl,rfl⟩:=hp;obtain⟨e,he⟩:∃e,e=eM L ⟨bill,index,0,by_,3,day,true,false⟩:=⟨_,rfl⟩
 obtain⟨L',hL'⟩:∃L',L'=gB L ⟨bill,index,0,by_,3,day,true,false⟩ (Qa ⟨bill,index,0,by_,3,day,true,false⟩):=⟨_,rfl⟩
 rw[←he,←hL']at hK;unfold gB at hL';dsimp only at hL';rw[←he]at hL';cbv
 (refine fI ha (⟨carrier,L⟩,⟨bill,index,0,by_,3,day,true,false⟩) [0,1] hp ?_;try dsimp only)
 rw[←he];cbv;repeat'((first|refine .mk (fun h=>?_) fun h=>?_|fail)<;>cbv)
 ·rw[aF h]at hL';refine eE (fun b:Br=>b.b.number) (fun _=>rfl) (fun i y hai hy hky=>?_) (fun hai=>?_)<;>dsimp only at *
  ·have hz:=lD (he.symm.trans h) hai hy;have hk:=mN hz;clear hz;rw[gT _ hai hy]at hL';dsimp only at hk;have hk3:index=0∨index=1∨index=2:=by omega
   obtain⟨⟨nq1,cq1,sq1,frm1,to1,bq1,pq1,iq1,lq1⟩,st1,⟨sa1,ha1,ca1⟩,⟨sb1,hb1,cb1⟩,⟨sc1,hc1,cc1⟩⟩:=y;rcases hk3 with rfl|rfl|rfl
   ·obtain rfl:L'=L.set i ⟨⟨nq1,cq1,sq1,frm1,to1,bq1,pq1,iq1,lq1⟩,st1,⟨0,ha1,ca1⟩,⟨sb1,hb1,cb1⟩,⟨sc1,hc1,cc1⟩⟩:=hL';cbv;repeat'((first|refine .n fun h=>?_|refine .o ?_|fail)<;>cbv)
    (refine .r9 (Gh.back 1 ([2,3,4,5]) aaI ⟨⟨nq1,cq1,sq1,frm1,to1,bq1,pq1,iq1,lq1⟩,st1,⟨0,ha1,ca1⟩,⟨sb1,hb1,cb1⟩,⟨sc1,hc1,cc1⟩⟩ rfl hy) ?_;cbv;exact .inl (.f9 hK))
   ·obtain rfl:L'=L.set i ⟨⟨nq1,cq1,sq1,frm1,to1,bq1,pq1,iq1,lq1⟩,st1,⟨sa1,ha1,ca1⟩,⟨0,hb1,cb1⟩,⟨sc1,hc1,cc1⟩⟩:=hL';cbv;repeat'((first|refine .n fun h=>?_|refine .y fun h=>?_|refine .o ?_|fail)<;>cbv)
    (refine .r9 (Gh.back 1 ([2,3,4,5]) aaI ⟨⟨nq1,cq1,sq1,frm1,to1,bq1,pq1,iq1,lq1⟩,st1,⟨sa1,ha1,ca1⟩,⟨0,hb1,cb1⟩,⟨sc1,hc1,cc1⟩⟩ rfl hy) ?_;cbv;exact .inl (.f9 hK))
   ·obtain rfl:L'=L.set i ⟨⟨nq1,cq1,sq1,frm1,to1,bq1,pq1,iq1,lq1⟩,st1,⟨sa1,ha1,ca1⟩,⟨sb1,hb1,cb1⟩,⟨0,hc1,cc1⟩⟩:=hL';cbv;repeat'((first|refine .y fun h=>?_|refine .o ?_|fail)<;>cbv)
    (refine .r9 (Gh.back 1 ([2,3,4,5]) aaI ⟨⟨nq1,cq1,sq1,frm1,to1,bq1,pq1,iq1,lq1⟩,st1,⟨sa1,ha1,ca1⟩,⟨sb1,hb1,cb1⟩,⟨0,hc1,cc1⟩⟩ rfl hy) ?_;cbv;exact .inl (.f9 hK))
  ·exact(jU (he.symm.trans h) hai).elim
 ·rw[aE h]at hL';subst hL'
  (refine .q9 ?_;cbv;exact .inl (.f9 hK))
def TL (a:Ak):Br→Br:=fun b=>tL a.index (xU 1) (Db 1 b)
def QP (L:List Br) (a:Ak):List bH:=if eM L a=0 then (SK L a.bill).1.boxes else []
def sM:dA:=spec (fun i:Rg×Ak=>[.ptr 0 0,.str i.2.bill,.i i.2.index,.str i.2.by_,.i i.2.day]) (fun i=>iQ i.1) (fun i=>(∀b∈i.1.bills,mJ b∧xS b.b)∧i.2.least=0∧i.2.state=0∧i.2.dated=true∧i.2.wrong=false) (fun i=>.tup [.sl 1 (bJ .str (QP i.1.bills i.2)),.i (eM i.1.bills i.2)]) fun i=>iQ ⟨i.1.carrier,gB i.1.bills i.2 (TL i.2)⟩
theorem Az (P:bI) (hend:bK P 147 Ug) (hcl:bK P 87 (jR 1 16)) (ha:bK P 78 Lc):bM P Xy sM:=by
 intro args H K hc;obtain⟨⟨⟨carrier,L⟩,⟨bill,index,least,by_,state,day,dated,wrong⟩⟩,rfl,rfl,hp,hK⟩:=hc;refine⟨cL,?_⟩;dsimp only at hp hK⊢;obtain⟨hp,rfl,rfl,rfl,rfl⟩:=hp;obtain⟨e,he⟩:∃e,e=eM L ⟨bill,index,0,by_,0,day,true,false⟩:=⟨_,rfl⟩
 obtain⟨L',hL'⟩:∃L',L'=gB L ⟨bill,index,0,by_,0,day,true,false⟩ (TL ⟨bill,index,0,by_,0,day,true,false⟩):=⟨_,rfl⟩
 obtain⟨l,hl⟩:∃l,l=QP L ⟨bill,index,0,by_,0,day,true,false⟩:=⟨_,rfl⟩
 rw[←he,←hL',←hl]at hK;unfold QP at hl;dsimp only at hl;rw[←he]at hl;unfold gB at hL';dsimp only at hL';rw[←he]at hL';cbv
 (refine fI ha (⟨carrier,L⟩,⟨bill,index,0,by_,0,day,true,false⟩) [0,1] (fun b hb=>(hp b hb).1) ?_;try dsimp only)
 rw[←he];cbv;repeat'((first|refine .mk (fun h=>?_) fun h=>?_|fail)<;>cbv)
 ·rw[aF h]at hL' hl;rw[h]at hK;refine eE (fun b:Br=>b.b.number) (fun _=>rfl) (fun i y hai hy hky=>?_) (fun hai=>?_)<;>dsimp only at *
  ·have hz:=lD (he.symm.trans h) hai hy;have hk:=mN hz;clear hz;rw[gT _ hai hy]at hL';dsimp only at hk;have hk3:index=0∨index=1∨index=2:=by omega
   rw[J2 hai hy]at hl;have hob:=(hp y (aC hy)).2;unfold xS at hob;obtain⟨⟨nq1,cq1,sq1,frm1,to1,bq1,pq1,iq1,lq1⟩,st1,⟨sa1,ha1,ca1⟩,⟨sb1,hb1,cb1⟩,⟨sc1,hc1,cc1⟩⟩:=y;dsimp only at hl hob;subst l;rcases hk3 with rfl|rfl|rfl
   ·obtain rfl:L'=L.set i ⟨⟨nq1,cq1,sq1,frm1,to1,bq1,pq1,iq1,lq1⟩,1,⟨1,ha1,ca1⟩,⟨2,hb1,cb1⟩,⟨2,hc1,cc1⟩⟩:=hL';cbv
    (refine fI hend (⟨⟨nq1,cq1,sq1,frm1,to1,bq1,pq1,iq1,lq1⟩,st1,⟨sa1,ha1,ca1⟩,⟨sb1,hb1,cb1⟩,⟨sc1,hc1,cc1⟩⟩,1) [2,3,4,5] trivial ?_;try dsimp only)
    cbv;repeat'((first|refine .n fun h=>?_|refine .o ?_|fail)<;>cbv)
    (refine bX hcl _ ⟨by rw[bY];unfold maxLen;omega,by rw[bY];omega⟩ ?_;try dsimp only)
    cbv
    (refine .r9 (Gh.back 1 ([2,3,4,5]) aaI ⟨⟨nq1,cq1,sq1,frm1,to1,bq1,pq1,iq1,lq1⟩,1,⟨1,ha1,ca1⟩,⟨2,hb1,cb1⟩,⟨2,hc1,cc1⟩⟩ rfl hy) ?_;cbv;exact .inl (.f9 hK))
   ·obtain rfl:L'=L.set i ⟨⟨nq1,cq1,sq1,frm1,to1,bq1,pq1,iq1,lq1⟩,1,⟨2,ha1,ca1⟩,⟨1,hb1,cb1⟩,⟨2,hc1,cc1⟩⟩:=hL';cbv
    (refine fI hend (⟨⟨nq1,cq1,sq1,frm1,to1,bq1,pq1,iq1,lq1⟩,st1,⟨sa1,ha1,ca1⟩,⟨sb1,hb1,cb1⟩,⟨sc1,hc1,cc1⟩⟩,1) [2,3,4,5] trivial ?_;try dsimp only)
    cbv;repeat'((first|refine .n fun h=>?_|refine .y fun h=>?_|refine .o ?_|fail)<;>cbv)
    (refine bX hcl _ ⟨by rw[bY];unfold maxLen;omega,by rw[bY];omega⟩ ?_;try dsimp only)
    cbv
    (refine .r9 (Gh.back 1 ([2,3,4,5]) aaI ⟨⟨nq1,cq1,sq1,frm1,to1,bq1,pq1,iq1,lq1⟩,1,⟨2,ha1,ca1⟩,⟨1,hb1,cb1⟩,⟨2,hc1,cc1⟩⟩ rfl hy) ?_;cbv;exact .inl (.f9 hK))
   ·obtain rfl:L'=L.set i ⟨⟨nq1,cq1,sq1,frm1,to1,bq1,pq1,iq1,lq1⟩,1,⟨2,ha1,ca1⟩,⟨2,hb1,cb1⟩,⟨1,hc1,cc1⟩⟩:=hL';cbv
    (refine fI hend (⟨⟨nq1,cq1,sq1,frm1,to1,bq1,pq1,iq1,lq1⟩,st1,⟨sa1,ha1,ca1⟩,⟨sb1,hb1,cb1⟩,⟨sc1,hc1,cc1⟩⟩,1) [2,3,4,5] trivial ?_;try dsimp only)
    cbv;repeat'((first|refine .y fun h=>?_|refine .o ?_|fail)<;>cbv)
    (refine bX hcl _ ⟨by rw[bY];unfold maxLen;omega,by rw[bY];omega⟩ ?_;try dsimp only)
    cbv
    (refine .r9 (Gh.back 1 ([2,3,4,5]) aaI ⟨⟨nq1,cq1,sq1,frm1,to1,bq1,pq1,iq1,lq1⟩,1,⟨2,ha1,ca1⟩,⟨2,hb1,cb1⟩,⟨1,hc1,cc1⟩⟩ rfl hy) ?_;cbv;exact .inl (.f9 hK))
  ·exact(jU (he.symm.trans h) hai).elim
 ·rw[aE h]at hL' hl;subst hL';subst hl
  (refine .q9 ?_;cbv;exact .inl (.g9 hK))
def tJ (f t:bH) (d:Int):Og→Og
 |⟨s,h,c⟩=>⟨s,(lW h [⟨f,t,0,d⟩]).1,c++[⟨f,t,0,d⟩]⟩
def iC (by_ to:bH):Bool:=!bT to || decide (to=by_)
def Bb:dA:=spec (fun i:Rg×Ak×bH=>[.ptr 0 0,.str i.2.1.bill,.i i.2.1.index,.str i.2.1.by_,.str i.2.2,.i i.2.1.day]) (fun i=>iQ i.1) (fun i=>(∀b∈i.1.bills,mJ b)∧i.2.1.least=-1∧i.2.1.state=0∧i.2.1.dated=true∧i.2.1.wrong=iC i.2.1.by_ i.2.2) (fun i=>.i (eM i.1.bills i.2.1)) fun i=>iQ ⟨i.1.carrier,gB i.1.bills i.2.1 (tL i.2.1.index (tJ i.2.1.by_ i.2.2 i.2.1.day))⟩
def fR {α:Type}:Nat→α→α→α→α→α
 |0,a,_,_,_=>a
 |1,_,b,_,_=>b
 |2,_,_,c,_=>c
 |_,_,_,_,d=>d
theorem mH {idx k:Int}(h:idx=-1∨idx=k):eJ idx k=true:=by unfold eJ;rcases h with h|h<;>rw[aH h]<;>simp
theorem BV {L:List Br}{a:Ak}(hw:a.wrong=true):eM L a≠0:=by
 unfold eM
 split
 ·split
  ·unfold nT;have h2:k2 a=true:=by unfold k2;rw[hw];rfl
   rw[h2,aF rfl]
   split
   ·exact(by decide:(3:Int)≠0)
   ·exact(by decide:(1:Int)≠0)
  ·exact(by decide:(4:Int)≠0)
 ·exact(by decide:(4:Int)≠0)
theorem CZ (P:bI) (hn:bK P 144 (iL (fun _=>True) bT)) (ha:bK P 78 Lc) (hh:bK P 145 DU):bM P Xs Bb:=by
 intro args H K hc;obtain⟨⟨⟨carrier,L⟩,⟨bill,index,least,by_,state,day,dated,wrong⟩,to⟩,rfl,rfl,hp,hK⟩:=hc;refine⟨cL,?_⟩;dsimp only at hp hK⊢;obtain⟨hp,rfl,rfl,rfl,hwr⟩:=hp;unfold iC at hwr;obtain⟨e,he⟩:∃e,e=eM L ⟨bill,index,-1,by_,0,day,true,wrong⟩:=⟨_,rfl⟩
 obtain⟨L',hL'⟩:∃L',L'=gB L ⟨bill,index,-1,by_,0,day,true,wrong⟩ (tL index (tJ by_ to day)):=⟨_,rfl⟩
 obtain⟨n,hn1⟩:∃n,n=bT to:=⟨_,rfl⟩
 rw[←he,←hL']at hK;rw[←hn1]at hwr;unfold gB at hL';dsimp only at hL';rw[←he]at hL';cbv
 (refine bX hn to trivial ?_;try dsimp only)
 rw[←hn1];have hw3:(n=false∧wrong=true)∨(n=true∧to=by_∧wrong=true)∨(n=true∧¬to=by_∧wrong=false):=by
  rw[hwr];cases n<;>by_cases ht:to=by_<;>simp[ht]
 clear hwr;obtain⟨q0,hq0⟩:∃q,q=eJ index 0:=⟨_,rfl⟩
 obtain⟨q1,hq1⟩:∃q,q=eJ index 1:=⟨_,rfl⟩
 obtain⟨q2,hq2⟩:∃q,q=eJ index 2:=⟨_,rfl⟩
 rcases hw3 with ⟨rfl,rfl⟩|⟨rfl,ht,rfl⟩|⟨rfl,ht,rfl⟩
 ·have hne:=BV (L:=L) (a:=⟨bill,index,-1,by_,0,day,true,true⟩) rfl;rw[←he]at hne;rw[aE hne]at hL';rw[hL']at hK;cbv
  (refine fI ha (⟨carrier,L⟩,⟨bill,index,-1,by_,0,day,true,true⟩) [0,1] hp ?_;try dsimp only)
  rw[←he];cbv;repeat'((first|refine .n fun h=>?_|fail)<;>cbv)
  (refine .q9 ?_;cbv;exact .inl (.f9 hK))
 ·have hne:=BV (L:=L) (a:=⟨bill,index,-1,by_,0,day,true,true⟩) rfl;rw[←he]at hne;rw[aE hne]at hL';rw[hL']at hK;cbv;repeat'((first|refine .mk (fun h=>?_) fun h=>?_|fail)<;>cbv)
  ·(refine fI ha (⟨carrier,L⟩,⟨bill,index,-1,by_,0,day,true,true⟩) [0,1] hp ?_;try dsimp only)
   rw[←he];cbv;repeat'((first|refine .n fun h=>?_|fail)<;>cbv)
   (refine .q9 ?_;cbv;exact .inl (.f9 hK))
  ·exact(h ht).elim
 ·cbv;repeat'((first|refine .mk (fun h=>?_) fun h=>?_|fail)<;>cbv)
  ·exact(ht h).elim
  ·(refine fI ha (⟨carrier,L⟩,⟨bill,index,-1,by_,0,day,true,false⟩) [0,1] hp ?_;try dsimp only)
   rw[←he];cbv;repeat'((first|refine .mk (fun h=>?_) fun h=>?_|fail)<;>cbv)
   ·rw[aF ‹e=0›]at hL';rw[‹e=0›]at hK;refine eE (fun b:Br=>b.b.number) (fun _=>rfl) (fun i y hai hy hky=>?_) (fun hai=>?_)<;>dsimp only at *
    ·rw[gT _ hai hy]at hL';have hch:=hp y (aC hy);obtain⟨⟨nq1,cq1,sq1,frm1,to1,bq1,pq1,iq1,lq1⟩,st1,⟨sa1,ha1,ca1⟩,⟨sb1,hb1,cb1⟩,⟨sc1,hc1,cc1⟩⟩:=y;unfold mJ at hch;dsimp only at hch;obtain⟨hch0,hch1,hch2⟩:=hch;obtain⟨⟨ux,xh,xc⟩,hx⟩:∃o,o=bif q0 then tJ by_ to day ⟨sa1,ha1,ca1⟩ else ⟨sa1,ha1,ca1⟩:=⟨_,rfl⟩
     obtain⟨⟨uy,yh,yc⟩,hyy⟩:∃o,o=bif q1 then tJ by_ to day ⟨sb1,hb1,cb1⟩ else ⟨sb1,hb1,cb1⟩:=⟨_,rfl⟩
     obtain⟨⟨uz,zh,zc⟩,hzz⟩:∃o,o=bif q2 then tJ by_ to day ⟨sc1,hc1,cc1⟩ else ⟨sc1,hc1,cc1⟩:=⟨_,rfl⟩
     obtain⟨⟨m0,mi0,me0⟩,hm0⟩:∃m,m=lW ha1 [⟨by_,to,0,day⟩]:=⟨_,rfl⟩
     obtain⟨⟨m1,mi1,me1⟩,hm1⟩:∃m,m=lW hb1 [⟨by_,to,0,day⟩]:=⟨_,rfl⟩
     obtain⟨⟨m2,mi2,me2⟩,hm2⟩:∃m,m=lW hc1 [⟨by_,to,0,day⟩]:=⟨_,rfl⟩
     unfold tL at hL';dsimp only at hL';rw[←hq0,←hq1,←hq2,←hx,←hyy,←hzz]at hL';subst hL';cbv;refine bS [] (fun p:{ k:Nat // k≤3 }=>[(42,.i (nI p.1))]) (fun p=>[.blk 122 [.str carrier,.ph 1],.pool 120 (bJ aaI L) [(i,.ptr 2 0)]]++gA [] 2 (qE (fR p.1 ⟨⟨nq1,cq1,sq1,frm1,to1,bq1,pq1,iq1,lq1⟩,st1,⟨sa1,ha1,ca1⟩,⟨sb1,hb1,cb1⟩,⟨sc1,hc1,cc1⟩⟩ ⟨⟨nq1,cq1,sq1,frm1,to1,bq1,pq1,iq1,lq1⟩,st1,⟨ux,xh,xc⟩,⟨sb1,hb1,cb1⟩,⟨sc1,hc1,cc1⟩⟩ ⟨⟨nq1,cq1,sq1,frm1,to1,bq1,pq1,iq1,lq1⟩,st1,⟨ux,xh,xc⟩,⟨uy,yh,yc⟩,⟨sc1,hc1,cc1⟩⟩ ⟨⟨nq1,cq1,sq1,frm1,to1,bq1,pq1,iq1,lq1⟩,st1,⟨ux,xh,xc⟩,⟨uy,yh,yc⟩,⟨uz,zh,zc⟩⟩))) (fun p=>eW 3 p.1) ⟨0,by decide⟩ ?_;rintro ⟨k,hk⟩;dsimp only at hk⊢;have hk4:k=0∨k=1∨k=2∨k=3:=by omega
     rcases hk4 with rfl|rfl|rfl|rfl
     ·cases q0 with
      |true=>
       obtain⟨rfl,rfl,rfl⟩:ux=sa1∧xh=m0∧xc=ca1++[⟨by_,to,0,day⟩]:=by
        unfold tJ at hx;dsimp only at hx;rw[←hm0]at hx;injection hx with h1 h2 h3
        exact⟨h1,h2,h3⟩
       cbv;repeat'((first|refine .n fun h=>?_|refine .y fun h=>?_|refine .mk (fun h=>?_) fun h=>?_|refine .k fun z hz=>?_|refine .o ?_|refine .zl fun zs hzs hzl=>?_|fail)<;>cbv)
       ·refine fF 9 rfl ?_;cbv
        (refine bX hh (ha1,[⟨by_,to,0,day⟩]) (Nat.le_add_left 1 4999) ?_;try dsimp only)
        rw[←hm0];dsimp only;obtain rfl:zs=bJ bV (ca1++[(⟨by_,to,0,day⟩:mI)]):=by(rw[cD,cF];first|exact hzs|(subst_vars;rfl))
        cbv;repeat'((first|refine .k fun z hz=>?_|fail)<;>cbv)
        obtain rfl:z=nI 1:=bQ;exact bN ⟨1,by decide⟩ (bO (by decide))
       ·refine fF 9 rfl ?_;cbv
        (refine bX hh (ha1,[⟨by_,to,0,day⟩]) (Nat.le_add_left 1 4999) ?_;try dsimp only)
        rw[←hm0];dsimp only;obtain rfl:zs=bJ bV (ca1++[(⟨by_,to,0,day⟩:mI)]):=by(rw[cD,cF];first|exact hzs|(subst_vars;rfl))
        cbv;repeat'((first|refine .k fun z hz=>?_|fail)<;>cbv)
        obtain rfl:z=nI 1:=bQ;exact bN ⟨1,by decide⟩ (bO (by decide))
       ·exact absurd (hq0.trans (jT ‹¬index=-1› ‹¬index=Int.ofNat 0›)) (by decide)
      |false=>
       obtain⟨rfl,rfl,rfl⟩:ux=sa1∧xh=ha1∧xc=ca1:=by
        injection hx with h1 h2 h3
        exact⟨h1,h2,h3⟩
       cbv;repeat'((first|refine .n fun h=>?_|refine .y fun h=>?_|refine .mk (fun h=>?_) fun h=>?_|refine .k fun z hz=>?_|refine .o ?_|refine .zl fun zs hzs hzl=>?_|fail)<;>cbv)
       ·exact absurd (hq0.trans (mH (.inl ‹index=-1›))) (by decide)
       ·exact absurd (hq0.trans (mH (.inr ‹index=Int.ofNat 0›))) (by decide)
       ·obtain rfl:z=nI 1:=bQ;exact bN ⟨1,by decide⟩ (bO (by decide))
     ·cases q1 with
      |true=>
       obtain⟨rfl,rfl,rfl⟩:uy=sb1∧yh=m1∧yc=cb1++[⟨by_,to,0,day⟩]:=by
        unfold tJ at hyy;dsimp only at hyy;rw[←hm1]at hyy;injection hyy with h1 h2 h3
        exact⟨h1,h2,h3⟩
       cbv;repeat'((first|refine .n fun h=>?_|refine .y fun h=>?_|refine .mk (fun h=>?_) fun h=>?_|refine .k fun z hz=>?_|refine .o ?_|refine .zl fun zs hzs hzl=>?_|fail)<;>cbv)
       ·refine fF 9 rfl ?_;cbv
        (refine bX hh (hb1,[⟨by_,to,0,day⟩]) (Nat.le_add_left 1 4999) ?_;try dsimp only)
        rw[←hm1];dsimp only;obtain rfl:zs=bJ bV (cb1++[(⟨by_,to,0,day⟩:mI)]):=by(rw[cD,cF];first|exact hzs|(subst_vars;rfl))
        cbv;repeat'((first|refine .k fun z hz=>?_|fail)<;>cbv)
        obtain rfl:z=nI 2:=bQ;exact bN ⟨2,by decide⟩ (bO (by decide))
       ·refine fF 9 rfl ?_;cbv
        (refine bX hh (hb1,[⟨by_,to,0,day⟩]) (Nat.le_add_left 1 4999) ?_;try dsimp only)
        rw[←hm1];dsimp only;obtain rfl:zs=bJ bV (cb1++[(⟨by_,to,0,day⟩:mI)]):=by(rw[cD,cF];first|exact hzs|(subst_vars;rfl))
        cbv;repeat'((first|refine .k fun z hz=>?_|fail)<;>cbv)
        obtain rfl:z=nI 2:=bQ;exact bN ⟨2,by decide⟩ (bO (by decide))
       ·exact absurd (hq1.trans (jT ‹¬index=-1› ‹¬index=Int.ofNat 1›)) (by decide)
      |false=>
       obtain⟨rfl,rfl,rfl⟩:uy=sb1∧yh=hb1∧yc=cb1:=by
        injection hyy with h1 h2 h3
        exact⟨h1,h2,h3⟩
       cbv;repeat'((first|refine .n fun h=>?_|refine .y fun h=>?_|refine .mk (fun h=>?_) fun h=>?_|refine .k fun z hz=>?_|refine .o ?_|refine .zl fun zs hzs hzl=>?_|fail)<;>cbv)
       ·exact absurd (hq1.trans (mH (.inl ‹index=-1›))) (by decide)
       ·exact absurd (hq1.trans (mH (.inr ‹index=Int.ofNat 1›))) (by decide)
       ·obtain rfl:z=nI 2:=bQ;exact bN ⟨2,by decide⟩ (bO (by decide))
     ·cases q2 with
      |true=>
       obtain⟨rfl,rfl,rfl⟩:uz=sc1∧zh=m2∧zc=cc1++[⟨by_,to,0,day⟩]:=by
        unfold tJ at hzz;dsimp only at hzz;rw[←hm2]at hzz;injection hzz with h1 h2 h3
        exact⟨h1,h2,h3⟩
       cbv;repeat'((first|refine .y fun h=>?_|refine .mk (fun h=>?_) fun h=>?_|refine .k fun z hz=>?_|refine .o ?_|refine .zl fun zs hzs hzl=>?_|fail)<;>cbv)
       ·refine fF 9 rfl ?_;cbv
        (refine bX hh (hc1,[⟨by_,to,0,day⟩]) (Nat.le_add_left 1 4999) ?_;try dsimp only)
        rw[←hm2];dsimp only;obtain rfl:zs=bJ bV (cc1++[(⟨by_,to,0,day⟩:mI)]):=by(rw[cD,cF];first|exact hzs|(subst_vars;rfl))
        cbv;repeat'((first|refine .k fun z hz=>?_|fail)<;>cbv)
        obtain rfl:z=nI 3:=bQ;exact bN ⟨3,by decide⟩ (bO (by decide))
       ·refine fF 9 rfl ?_;cbv
        (refine bX hh (hc1,[⟨by_,to,0,day⟩]) (Nat.le_add_left 1 4999) ?_;try dsimp only)
        rw[←hm2];dsimp only;obtain rfl:zs=bJ bV (cc1++[(⟨by_,to,0,day⟩:mI)]):=by(rw[cD,cF];first|exact hzs|(subst_vars;rfl))
        cbv;repeat'((first|refine .k fun z hz=>?_|fail)<;>cbv)
        obtain rfl:z=nI 3:=bQ;exact bN ⟨3,by decide⟩ (bO (by decide))
       ·exact absurd (hq2.trans (jT ‹¬index=-1› ‹¬index=Int.ofNat 2›)) (by decide)
      |false=>
       obtain⟨rfl,rfl,rfl⟩:uz=sc1∧zh=hc1∧zc=cc1:=by
        injection hzz with h1 h2 h3
        exact⟨h1,h2,h3⟩
       cbv;repeat'((first|refine .y fun h=>?_|refine .mk (fun h=>?_) fun h=>?_|refine .k fun z hz=>?_|refine .o ?_|refine .zl fun zs hzs hzl=>?_|fail)<;>cbv)
       ·exact absurd (hq2.trans (mH (.inl ‹index=-1›))) (by decide)
       ·exact absurd (hq2.trans (mH (.inr ‹index=Int.ofNat 2›))) (by decide)
       ·obtain rfl:z=nI 3:=bQ;exact bN ⟨3,by decide⟩ (bO (by decide))
     ·cbv;repeat'((first|refine .n fun h=>?_|fail)<;>cbv)
      (refine .r9 (Gh.back 1 ([2,3,4,5]) aaI ⟨⟨nq1,cq1,sq1,frm1,to1,bq1,pq1,iq1,lq1⟩,st1,⟨ux,xh,xc⟩,⟨uy,yh,yc⟩,⟨uz,zh,zc⟩⟩ rfl hy) ?_;cbv;exact .inl (.f9 hK))
    ·exact(jU (he.symm.trans ‹e=0›) hai).elim
   ·rw[aE h]at hL';subst hL'
    (refine .q9 ?_;cbv;exact .inl (.f9 hK))
def ES:Og:=⟨0,⟨⟨[]⟩⟩,[]⟩
def FF (idx:Int):Br→Og×Bool
 |⟨_,_,o0,o1,o2⟩=>if idx=0 then (o0,true) else if idx=1 then (o1,true) else if idx=2 then (o2,true) else (ES,false)
def lN (L:List Br) (s:bH) (idx:Int):Og×Bool:=match oL L s with
 |some i=>match L[i]? with
  |some b=>FF idx b
  |none=>(ES,false)
 |none=>(ES,false)
theorem G3 {L:List Br}{s:bH}{i:Nat}{y:Br}{idx:Int}(h:oL L s=some i) (hy:L[i]?=some y):lN L s idx=FF idx y:=by unfold lN;rw[h];dsimp only;rw[hy]
theorem GY {L:List Br}{s:bH}{idx:Int}(h:oL L s=none):lN L s idx=(ES,false):=by unfold lN;rw[h]
def ZM:Og×Bool→AV
 |(o,b)=>.tup [W8 o,.bl b]
def Pf:dA:=spec (fun i:Rg×bH×Int=>[.ptr 0 0,.str i.2.1,.i i.2.2]) (fun i=>iQ i.1) (fun _=>True) (fun i=>ZM (lN i.1.bills i.2.1 i.2.2)) fun i=>iQ i.1
theorem Bk (P:bI):bM P ZL Pf:=by
 intro args H K hc;obtain⟨⟨⟨carrier,L⟩,s,idx⟩,rfl,rfl,hp,hK⟩:=hc;refine⟨cL,?_⟩;dsimp only at hp hK⊢;obtain⟨q,hq⟩:∃q,q=lN L s idx:=⟨_,rfl⟩
 rw[←hq]at hK;cbv;refine eE (fun b:Br=>b.b.number) (fun _=>rfl) (fun i y hai hy hky=>?_) (fun hai=>?_)<;>dsimp only at *
 ·rw[G3 hai hy]at hq;obtain⟨⟨nq1,cq1,sq1,frm1,to1,bq1,pq1,iq1,lq1⟩,st1,⟨sa1,ha1,ca1⟩,⟨sb1,hb1,cb1⟩,⟨sc1,hc1,cc1⟩⟩:=y;unfold FF at hq;dsimp only at hq;have hi5:idx < 0∨3≤idx∨idx=0∨idx=1∨idx=2:=by omega
  rcases hi5 with h5|h5|rfl|rfl|rfl
  ·rw[aE (by omega),aE (by omega),aE (by omega)]at hq;subst hq;cbv;repeat'((first|refine .y fun h=>?_|fail)<;>cbv)
   (refine .r9 (Gh.back0 1 [3,4,5,6] aaI rfl hy) ?_;cbv;exact .inl (.g9 hK))
  ·rw[aE (by omega),aE (by omega),aE (by omega)]at hq;subst hq;cbv;repeat'((first|refine .n fun h=>?_|refine .y fun h=>?_|fail)<;>cbv)
   (refine .r9 (Gh.back0 1 [3,4,5,6] aaI rfl hy) ?_;cbv;exact .inl (.g9 hK))
  ·obtain rfl:q=(⟨sa1,ha1,ca1⟩,true):=hq;cbv;repeat'((first|refine .n fun h=>?_|refine .o ?_|fail)<;>cbv)
   (refine .r9 ((Gh.viewE 2 rfl).trans (Gh.back0 1 [3,4,5,6] aaI rfl hy)) ?_;cbv;exact .inl (.g9 hK))
  ·obtain rfl:q=(⟨sb1,hb1,cb1⟩,true):=hq;cbv;repeat'((first|refine .n fun h=>?_|refine .y fun h=>?_|refine .o ?_|fail)<;>cbv)
   (refine .r9 ((Gh.viewE 2 rfl).trans (Gh.back0 1 [3,4,5,6] aaI rfl hy)) ?_;cbv;exact .inl (.g9 hK))
  ·obtain rfl:q=(⟨sc1,hc1,cc1⟩,true):=hq;cbv;repeat'((first|refine .n fun h=>?_|refine .y fun h=>?_|refine .o ?_|fail)<;>cbv)
   (refine .r9 ((Gh.viewE 2 rfl).trans (Gh.back0 1 [3,4,5,6] aaI rfl hy)) ?_;cbv;exact .inl (.g9 hK))
 ·rw[GY hai]at hq;subst hq;cbv
  (refine .q9 ?_;cbv;exact .inl (.g9 hK))
theorem Fa {L:List Br}{s:bH}{idx:Int}(h:∀b∈L,mJ b):(lN L s idx).1.chain.length≤4500:=by
 unfold lN
 split
 ·split
  ·next b hb=>
   have hc:=h b (aC hb);obtain⟨_,_,⟨_,_,_⟩,⟨_,_,_⟩,⟨_,_,_⟩⟩:=b;unfold mJ at hc;dsimp only at hc;unfold FF;dsimp only
   split
   ·exact hc.1
   ·split
    ·exact hc.2.1
    ·split
     ·exact hc.2.2
     ·exact aI _
  ·exact aI _
 ·exact aI _
def HH:dA:=spec (fun i:Rg×bH×Int=>[.ptr 0 0,.str i.2.1,.i i.2.2]) (fun i=>iQ i.1) (fun i=>∀b∈i.1.bills,mJ b) (fun i=>.sl 4 (bJ bV (lN i.1.bills i.2.1 i.2.2).1.chain)) fun i=>iQ i.1
theorem Hj (P:bI) (ho:bK P 76 Pf) (hcl:bK P 77 (jR 4 48)):bM P ZS HH:=by
 intro args H K hc;obtain⟨⟨⟨carrier,L⟩,s,idx⟩,rfl,rfl,hp,hK⟩:=hc;refine⟨cL,?_⟩;dsimp only at hp hK⊢;have hlen:=Fa (L:=L) (s:=s) (idx:=idx) hp;obtain⟨⟨⟨st,h,c⟩,b⟩,hq⟩:∃q,q=lN L s idx:=⟨_,rfl⟩
 rw[←hq]at hK hlen;dsimp only at hK hlen;cbv
 (refine fI ho (⟨carrier,L⟩,s,idx) [0,1] trivial ?_;try dsimp only)
 rw[←hq];cbv
 (refine bX hcl _ ⟨by rw[bY];unfold maxLen;omega,by rw[bY];omega⟩ ?_;try dsimp only)
 cbv
 (refine .q9 ?_;cbv;exact .inl (.f9 hK))
def ZR:bH×Bool→AV
 |(s,b)=>.tup [.str s,.bl b]
structure YN where
 bill:bH
 index:Int
 state:Int
 holder:bH
def Xp:YN→AV
 |⟨b,i,s,h⟩=>.agg [.str b,.i i,.i s,.str h]
def J1 (s:bH):Br→List YN
 |⟨_,_,⟨sa,ha,_⟩,⟨sb,hb,_⟩,⟨sc,hc,_⟩⟩=>[⟨s,0,sa,ha⟩,⟨s,1,sb,hb⟩,⟨s,2,sc,hc⟩]
def yM (L:List Br) (s:bH):List YN:=match oL L s with
 |some i=>match L[i]? with
  |some b=>J1 s b
  |none=>[]
 |none=>[]
theorem J8 {L:List Br}{s:bH}{i:Nat}{y:Br}(h:oL L s=some i) (hy:L[i]?=some y):yM L s=J1 s y:=by unfold yM;rw[h];dsimp only;rw[hy]
theorem KM {L:List Br}{s:bH}(h:oL L s=none):yM L s=[]:=by unfold yM;rw[h]
def oV:dA:=spec (fun i:Rg×bH=>[.ptr 0 0,.str i.2]) (fun i=>iQ i.1) (fun _=>True) (fun i=>.sl 4 (bJ Xp (yM i.1.bills i.2))) fun i=>iQ i.1
theorem Ag (P:bI):bM P Z5 oV:=by
 intro args H K hc;obtain⟨⟨⟨carrier,L⟩,s⟩,rfl,rfl,hp,hK⟩:=hc;refine⟨cL,?_⟩;dsimp only at hp hK⊢;obtain⟨q,hq⟩:∃q,q=yM L s:=⟨_,rfl⟩
 rw[←hq]at hK;cbv;refine eE (fun b:Br=>b.b.number) (fun _=>rfl) (fun i y hai hy hky=>?_) (fun hai=>?_)<;>dsimp only at *
 ·rw[J8 hai hy]at hq;obtain⟨⟨nq1,cq1,sq1,frm1,to1,bq1,pq1,iq1,lq1⟩,st1,⟨sa1,ha1,ca1⟩,⟨sb1,hb1,cb1⟩,⟨sc1,hc1,cc1⟩⟩:=y;obtain rfl:q=[⟨s,0,sa1,ha1⟩,⟨s,1,sb1,hb1⟩,⟨s,2,sc1,hc1⟩]:=hq;cbv;repeat'((first|refine .zl fun zs hzs hzl=>?_|fail)<;>cbv)
  obtain rfl:zs=[]:=hzs;refine gH Gh.viewT ?_;cbv;refine bS [6] (fun p:{ k:Nat // k≤3 }=>[(22,.i (nI p.1)),(6,.hd 6)]) (fun p=>[.blk 122 [.str carrier,.ph 1],.pool 120 (bJ aaI L) [(i,.ptr 2 0)]]++gA [] 2 (qE ⟨⟨nq1,cq1,sq1,frm1,to1,bq1,pq1,iq1,lq1⟩,st1,⟨sa1,ha1,ca1⟩,⟨sb1,hb1,cb1⟩,⟨sc1,hc1,cc1⟩⟩)++[.row 49 4 (fR p.1 [] [.agg [.str s,.i 0,.i sa1,.str ha1]] [.agg [.str s,.i 0,.i sa1,.str ha1],.agg [.str s,.i 1,.i sb1,.str hb1]] [.agg [.str s,.i 0,.i sa1,.str ha1],.agg [.str s,.i 1,.i sb1,.str hb1],.agg [.str s,.i 2,.i sc1,.str hc1]])]) (fun p=>eW 3 p.1) ⟨0,by decide⟩ ?_;rintro ⟨k,hk⟩;dsimp only at hk⊢;have hk4:k=0∨k=1∨k=2∨k=3:=by omega
  rcases hk4 with rfl|rfl|rfl|rfl
  ·cbv;repeat'((first|refine .n fun h=>?_|refine .y fun h=>?_|refine .k fun z hz=>?_|refine .o ?_|refine .zl fun zs hzs hzl=>?_|fail)<;>cbv)
   obtain rfl:zs=[.agg [.str s,.i 0,.i sa1,.str ha1]]:=hzs;obtain rfl:z=nI 1:=bQ;exact bN ⟨1,by decide⟩ (bO (by decide))
  ·cbv;repeat'((first|refine .n fun h=>?_|refine .y fun h=>?_|refine .k fun z hz=>?_|refine .o ?_|refine .zl fun zs hzs hzl=>?_|fail)<;>cbv)
   obtain rfl:zs=[.agg [.str s,.i 0,.i sa1,.str ha1],.agg [.str s,.i 1,.i sb1,.str hb1]]:=hzs;obtain rfl:z=nI 2:=bQ;exact bN ⟨2,by decide⟩ (bO (by decide))
  ·cbv;repeat'((first|refine .y fun h=>?_|refine .k fun z hz=>?_|refine .o ?_|refine .zl fun zs hzs hzl=>?_|fail)<;>cbv)
   obtain rfl:zs=[.agg [.str s,.i 0,.i sa1,.str ha1],.agg [.str s,.i 1,.i sb1,.str hb1],.agg [.str s,.i 2,.i sc1,.str hc1]]:=hzs;obtain rfl:z=nI 3:=bQ;exact bN ⟨3,by decide⟩ (bO (by decide))
  ·cbv;repeat'((first|refine .n fun h=>?_|fail)<;>cbv)
   (refine .r9 ((Gh.plain 6 rfl).trans (Gh.back0 1 [2,3,4,5] aaI rfl hy)) ?_;cbv;exact .inl (.g9 hK))
 ·rw[KM hai]at hq;subst hq;cbv
  (refine .q9 ?_;cbv;exact .inl (.g9 hK))
def yQ (p:bH→Bool) (l:List bH):Int:=match l.findIdx? p with
 |some i=>Int.ofNat i
 |none=>-1
def nC (p:bH→Bool) (l:List bH) (k:Nat):Prop:=∀j y,j < k→l[j]?=some y→p y=false
theorem nC.zero {p:bH→Bool}{l:List bH}:nC p l 0:=fun j y h=>absurd h (Nat.not_lt_zero j)
theorem nC.succ {p:bH→Bool}{l:List bH}{k:Nat}{x:bH}(h:nC p l k) (hx:l[k]?=some x) (hp:p x=false):nC p l (k+1):=fun j y hj hy=>by
 rcases aL j k with h1|h1
 ·exact h j y h1 hy
 ·obtain rfl:j=k:=by omega
  rw[hx]at hy;cases hy;exact hp
theorem Eb {p:bH→Bool}{l:List bH}{k:Nat}{x:bH}(h:nC p l k) (hx:l[k]?=some x) (hp:p x=true):yQ p l=Int.ofNat k:=by
 obtain⟨hk,rfl⟩:=aA.1 hx;have e:l.findIdx? p=some k:=List.findIdx?_eq_some_iff_getElem.2 ⟨hk,hp,fun j hj=>by rw[h j _ hj (aB (by omega))];decide⟩;unfold yQ;rw[e]
theorem wL {p:bH→Bool}{l:List bH}(h:nC p l l.length):yQ p l=-1:=by
 have e:l.findIdx? p=none:=List.findIdx?_eq_none_iff.2 fun x hx=>by
  obtain⟨j,hj,rfl⟩:=List.mem_iff_getElem.1 hx;exact h j _ hj (aB hj)
 unfold yQ;rw[e]
theorem Ba (p:bH→Bool) (l:List bH):decide (0≤yQ p l)=l.any p:=by
 unfold yQ;cases e:l.findIdx? p with
 |none=>
  rw[List.findIdx?_eq_none_iff]at e;have:l.any p=false:=by
   rw[List.any_eq_false];intro x hx;rw[e x hx];decide
  rw[this];rfl
 |some i=>
  rw[List.findIdx?_eq_some_iff_getElem]at e;obtain⟨hi,h1,_⟩:=e;have:l.any p=true:=List.any_eq_true.2 ⟨_,List.getElem_mem hi,h1⟩;rw[this];exact aH (Int.natCast_nonneg i)
def HP:dA:=spec (fun i:List bH×bH=>[.sl 1 (bJ .str i.1),.str i.2]) (fun _=>[]) (fun i=>i.1.length≤5000) (fun i=>.i (yQ (fun x=>decide (i.2=x)) i.1)) fun _=>[]
theorem It (P:bI):bM P Yd HP:=by
 intro args H K hc;obtain⟨⟨l,s⟩,rfl,rfl,hp,hK⟩:=hc;refine⟨cL,?_⟩;dsimp only at hp hK⊢;obtain⟨p,hpp⟩:∃p:bH→Bool,p=fun x=>decide (s=x):=⟨_,rfl⟩
 rw[←hpp]at hK;have hpx:∀x,p x=decide (s=x):=fun x=>by rw[hpp]
 clear hpp;cbv;repeat'((first|refine .k fun z hz=>?_|fail)<;>cbv)
 refine bS [] (fun q:{ k:Nat // k≤l.length∧nC p l k }=>[(8,.i (nI q.1))]) (fun _=>[]) (fun q=>eW 5001 q.1) ⟨0,aI _,.zero⟩ ?_;rintro ⟨k,hk,hn⟩;dsimp only at hk hn⊢;cbv;repeat'((first|refine .mk (fun h=>?_) fun h=>?_|fail)<;>cbv)
 ·refine cM bQ bQ fun i x hi hx=>?_
  obtain rfl:k=i:=bQ;cbv;repeat'((first|refine .mk (fun h=>?_) fun h=>?_|refine .k fun z hz=>?_|fail)<;>cbv)
  ·exact bZ.mk ⟨_,Gh.refl _,.inl (.v9 (fO hK (by(rw[Eb hn hx ((hpx x).trans (aH h))]))))⟩
  ·obtain rfl:z=nI (k+1):=bQ;exact bN ⟨k+1,by exact bQ,hn.succ hx ((hpx x).trans (aG h))⟩ (bO bQ)
 ·obtain rfl:k=l.length:=bQ;exact bZ.mk ⟨_,Gh.refl _,.inl (.v9 (fO hK (by(rw[wL hn]))))⟩
def xD:dA:=spec (fun i:List bH×bH=>[.sl 1 (bJ .str i.1),.str i.2]) (fun _=>[]) (fun i=>i.1.length≤5000) (fun i=>.bl (i.1.any fun x=>decide (i.2=x))) fun _=>[]
theorem Bo (P:bI) (hi:bK P 208 HP):bM P Xx xD:=by
 intro args H K hc;obtain⟨⟨l,s⟩,rfl,rfl,hp,hK⟩:=hc;refine⟨cL,?_⟩;dsimp only at hp hK⊢;obtain⟨p,hpp⟩:∃p:bH→Bool,p=fun x=>decide (s=x):=⟨_,rfl⟩
 rw[←hpp,←Ba]at hK;obtain⟨e,he⟩:∃e,e=yQ p l:=⟨_,rfl⟩
 rw[←he]at hK;cbv
 (refine bX hi (l,s) hp ?_;try dsimp only)
 rw[←hpp,←he];cbv;repeat'((first|refine .mk (fun h=>?_) fun h=>?_|fail)<;>cbv)
 ·exact bZ.mk ⟨_,Gh.refl _,.inl (.v9 (cE hK (by(rw[aH h]))))⟩
 ·exact bZ.mk ⟨_,Gh.refl _,.inl (.v9 (cE hK (by(rw[aG (by omega)]))))⟩
def SQ (p:bH→Bool):dA:=spec (fun s:bH=>[.str s]) (fun _=>[]) (fun _=>True) (fun s=>.bl (p s)) fun _=>[]
def O9 (f:Nat) (p:bH→Bool):dA:=spec (fun l:List bH=>[.sl 1 (bJ .str l),.clo f []]) (fun _=>[]) (fun l=>l.length≤5000) (fun l=>.i (yQ p l)) fun _=>[]
theorem KK (P:bI) (f:Nat) (p:bH→Bool) (hm:dB P f) (hf:bK P f (SQ p)):bM P VV (O9 f p):=by
 intro args H K hc;obtain⟨l,rfl,rfl,hp,hK⟩:=hc;refine⟨cL,?_⟩;dsimp only at hp hK⊢;cbv;repeat'((first|refine .k fun z hz=>?_|fail)<;>cbv)
 refine bS [] (fun q:{ k:Nat // k≤l.length∧nC p l k }=>[(8,.i (nI q.1))]) (fun _=>[]) (fun q=>eW 5001 q.1) ⟨0,aI _,.zero⟩ ?_;rintro ⟨k,hk,hn⟩;dsimp only at hk hn⊢;cbv;repeat'((first|refine .mk (fun h=>?_) fun h=>?_|fail)<;>cbv)
 ·refine cM bQ bQ fun i x hi hx=>?_
  obtain rfl:k=i:=bQ;cbv;repeat'((first|refine And.intro ?_ ?_|fail)<;>cbv)
  ·exact hm
  ·obtain⟨b,hb⟩:∃b,b=p x:=⟨_,rfl⟩
   (refine bX hf x trivial ?_;try dsimp only)
   rw[←hb];cases b with
   |true=>
    cbv;exact bZ.mk ⟨_,Gh.refl _,.inl (.v9 (fO hK (by(rw[Eb hn hx hb.symm]))))⟩
   |false=>
    cbv;repeat'((first|refine .k fun z hz=>?_|fail)<;>cbv)
    obtain rfl:z=nI (k+1):=bQ;exact bN ⟨k+1,by exact bQ,hn.succ hx hb.symm⟩ (bO bQ)
 ·obtain rfl:k=l.length:=bQ;exact bZ.mk ⟨_,Gh.refl _,.inl (.v9 (fO hK (by(rw[wL hn]))))⟩
def NK (f:Nat) (p:bH→Bool):dA:=spec (fun l:List bH=>[.sl 1 (bJ .str l),.clo f []]) (fun _=>[]) (fun l=>l.length≤5000) (fun l=>.bl (l.any p)) fun _=>[]
theorem LZ (P:bI) (f:Nat) (p:bH→Bool) (hi:bK P 189 (O9 f p)):bM P Wp (NK f p):=by
 intro args H K hc;obtain⟨l,rfl,rfl,hp,hK⟩:=hc;refine⟨cL,?_⟩;dsimp only at hp hK⊢;rw[←Ba]at hK;obtain⟨e,he⟩:∃e,e=yQ p l:=⟨_,rfl⟩
 rw[←he]at hK;cbv
 (refine bX hi l hp ?_;try dsimp only)
 rw[←he];cbv;repeat'((first|refine .mk (fun h=>?_) fun h=>?_|fail)<;>cbv)
 ·exact bZ.mk ⟨_,Gh.refl _,.inl (.v9 (cE hK (by(rw[aH h]))))⟩
 ·exact bZ.mk ⟨_,Gh.refl _,.inl (.v9 (cE hK (by(rw[aG (by omega)]))))⟩
theorem LP (P:bI) (hn:bK P 144 (iL (fun _=>True) bT)):bM P Yh (SQ fun s=>!bT s):=by
 intro args H K hc;obtain⟨s,rfl,rfl,hp,hK⟩:=hc;refine⟨cL,?_⟩;dsimp only at hp hK⊢;obtain⟨b,hb⟩:∃b,b=bT s:=⟨_,rfl⟩
 rw[←hb]at hK;cbv
 (refine bX hn s trivial ?_;try dsimp only)
 rw[←hb];cases b with
 |true=>
  cbv;exact bZ.mk ⟨_,Gh.refl _,.inl (.v9 (Pe hK (by rfl)))⟩
 |false=>
  cbv;exact bZ.mk ⟨_,Gh.refl _,.inl (.v9 (Pe hK (by rfl)))⟩
def FT:Go.Shelf.Ren:=⟨fun|190=>91|125=>130|258=>129|128=>168|129=>169|302=>159|303=>160|304=>161|305=>162|306=>163|307=>164|308=>165|309=>166|310=>167|333=>192|329=>193|330=>194|334=>195|335=>196|336=>197|344=>209|n=>n,fun|31=>56|9=>9|3=>3|46=>226|0=>0|51=>258|53=>260|4=>4|183=>250|182=>249|131=>255|5=>5|218=>274|222=>278|228=>286|229=>287|n=>n,fun|n=>n⟩
theorem vA:Go.Proofs.Lays.n190 Tryz.prog FT:={
 mixed:=by kernel_rfl
 f125:=Tryz.func130.trans (congrArg some (by kernel_rfl))
 f128:=Tryz.func168.trans (congrArg some (by kernel_rfl))
 f129:=Tryz.func169.trans (congrArg some (by kernel_rfl))
 f190:=Tryz.func91.trans (congrArg some (by kernel_rfl))
 f258:=Tryz.func129.trans (congrArg some (by kernel_rfl))
 f302:=Tryz.func159.trans (congrArg some (by kernel_rfl))
 f303:=Tryz.func160.trans (congrArg some (by kernel_rfl))
 f304:=Tryz.func161.trans (congrArg some (by kernel_rfl))
 f305:=Tryz.func162.trans (congrArg some (by kernel_rfl))
 f306:=Tryz.func163.trans (congrArg some (by kernel_rfl))
 f307:=Tryz.func164.trans (congrArg some (by kernel_rfl))
 f308:=Tryz.func165.trans (congrArg some (by kernel_rfl))
 f309:=Tryz.func166.trans (congrArg some (by kernel_rfl))
 f310:=Tryz.func167.trans (congrArg some (by kernel_rfl))
 f329:=Tryz.func193.trans (congrArg some (by kernel_rfl))
 f330:=Tryz.func194.trans (congrArg some (by kernel_rfl))
 f333:=Tryz.func192.trans (congrArg some (by kernel_rfl))
 f334:=Tryz.func195.trans (congrArg some (by kernel_rfl))
 f335:=Tryz.func196.trans (congrArg some (by kernel_rfl))
 f336:=Tryz.func197.trans (congrArg some (by kernel_rfl))
 f344:=Tryz.func209.trans (congrArg some (by kernel_rfl))
 t0:=Tryz.underlying0
 a0:=Tryz.isAgg0
 z0:=Tryz.sizeOf0
 v0:=Tryz.zeroValue0
 t3:=Tryz.underlying3
 a3:=Tryz.isAgg3
 z3:=Tryz.sizeOf3
 v3:=Tryz.zeroValue3
 t4:=Tryz.underlying4
 a4:=Tryz.isAgg4
 z4:=Tryz.sizeOf4
 v4:=Tryz.zeroValue4
 t5:=Tryz.underlying5
 a5:=Tryz.isAgg5
 z5:=Tryz.sizeOf5
 v5:=Tryz.zeroValue5
 t9:=Tryz.underlying9
 a9:=Tryz.isAgg9
 z9:=Tryz.sizeOf9
 v9:=Tryz.zeroValue9
 t31:=Tryz.underlying56
 a31:=Tryz.isAgg56
 z31:=Tryz.sizeOf56
 v31:=Tryz.zeroValue56
 t46:=Tryz.underlying226
 a46:=Tryz.isAgg226
 z46:=Tryz.sizeOf226
 v46:=Tryz.zeroValue226
 t51:=Tryz.underlying258
 a51:=Tryz.isAgg258
 z51:=Tryz.sizeOf258
 v51:=Tryz.zeroValue258
 t53:=Tryz.underlying260
 a53:=Tryz.isAgg260
 z53:=Tryz.sizeOf260
 v53:=Tryz.zeroValue260
 t131:=Tryz.underlying255
 a131:=Tryz.isAgg255
 z131:=Tryz.sizeOf255
 v131:=Tryz.zeroValue255
 t182:=Tryz.underlying249
 a182:=Tryz.isAgg249
 z182:=Tryz.sizeOf249
 v182:=Tryz.zeroValue249
 t183:=Tryz.underlying250
 a183:=Tryz.isAgg250
 z183:=Tryz.sizeOf250
 v183:=Tryz.zeroValue250
 t218:=Tryz.underlying274
 a218:=Tryz.isAgg274
 z218:=Tryz.sizeOf274
 v218:=Tryz.zeroValue274
 t222:=Tryz.underlying278
 a222:=Tryz.isAgg278
 z222:=Tryz.sizeOf278
 v222:=Tryz.zeroValue278
 t228:=Tryz.underlying286
 a228:=Tryz.isAgg286
 z228:=Tryz.sizeOf286
 v228:=Tryz.zeroValue286
 t229:=Tryz.underlying287
 a229:=Tryz.isAgg287
 z229:=Tryz.sizeOf287
 v229:=Tryz.zeroValue287 }
def jM (s:bH):List UInt8:=s.data.toList
def lV (l:List UInt8):bH:=⟨l.toArray⟩
def dN (L:List bH):List bH:=((L.map jM).mergeSort fun x y=>decide (x≤y)).map lV
theorem mW (s:bH):lV (jM s)=s:=by
 obtain⟨⟨l⟩⟩:=s;rfl
theorem NU {pub:cY}{w:World}{r:cT}:∀{L:List bH}{us:List Value},bR pub w r ((bJ .str L).flatMap AV.cells) us→us=L.map .string
 |[],us,h=>h.nil_inv
 |s :: L,us,h=>by
  have h':bR pub w r (.str s :: (bJ .str L).flatMap AV.cells) us:=h;obtain⟨us',rfl,h2⟩:=h'.str_inv;rw[NU h2];rfl
theorem Hd {pub:cY}{w:World}{r:cT}:∀(L:List bH),bR pub w r ((bJ .str L).flatMap AV.cells) (L.map .string)
 |[]=>⟨rfl,fun i x u hx _=>by cases hx⟩
 |s :: L=>by
  have ih:=Hd (pub:=pub) (w:=w) (r:=r) L;show bR pub w r (.str s :: (bJ .str L).flatMap AV.cells) (.string s :: L.map .string);refine⟨by rw[List.length_cons,List.length_cons,ih.len],fun i x u hx hu=>?_⟩;cases i with
  |zero=>cases hx;cases hu;exact .str s
  |succ i=>exact ih.at_ i x u hx hu
structure DF (P:bI) (f:Nat):Prop where
 out:∀(A:Option Addr) (L:List bH) (c:Nat) (w:World) (pub:cY),L.length≤2000000→jX w 9 1 A L.length c (L.map .string)→(∀b∈lP A,pub b=0)→(∀b,w.heap.size≤b→pub b=0) →
  Calls P f #[.slice A L.length c] w fun e w'=>e=.returned (.tuple #[])∧Fr (fun b=>b∈lP A) pub w pub w'∧jX w' 9 1 A L.length c ((dN L).map .string)
theorem iG (L:List bH):(dN L).length=L.length:=by simp[dN]
theorem JC:DF Tryz.prog 91:=⟨fun A L c w pub hp ho hpb hfresh=>by
 rcases ho.cases_ with ⟨rfl,hl0,rfl,_⟩|⟨g,cur,rfl,hb,h1,h2,h3,h4⟩
 ·obtain rfl:L=[]:=aR hl0;refine(Any.slices_Sort_string_none vA none 0 w).mono fun e w' h=>?_
  obtain⟨rfl,rfl⟩:=h;refine⟨rfl,.refl _ _ _,?_⟩;rw[show dN []=[] by simp[dN]];exact ho
 ·have hgp:pub g=0:=hpb g (by simp);have hss:cur.toList.take (L.map jM).length=(L.map jM).map encStr:=by
   rw[aJ,←Nat.mul_one L.length,h4,List.map_map];refine List.map_congr_left fun s _=>?_
   show Value.string s=Value.string (lV (jM s));rw[mW]
  have hblk:g < w.heap.size:=hb.lt;have hlen:L.length=(L.map jM).length:=by rw[aJ]
  rw[hlen];refine(Any.slices_Sort_string vA g 0 c (L.map jM) w (holds_of_block hb hss) hblk (by rw[aJ];omega)).mono fun e w' h=>?_
  obtain⟨rfl,n,os,rfl⟩:=h;obtain⟨ts,hts⟩:∃ts,ts=(L.map jM).mergeSort fun x y=>decide (x≤y):=⟨_,rfl⟩
  have htl:ts.length=(L.map jM).length:=by rw[hts];simp
  have hso:dN L=ts.map lV:=by rw[hts];rfl
  rw[hso,←hts];have hgb:=grownBy_sorted (w:=w) (g:=g) (n:=n) (os:=os) ts.toArray;have hh:=heap_sorted (n:=n) (os:=os) ts.toArray hb;obtain⟨w',hw'⟩:∃w',w'=Sort.grow (Sort.putRow encStr (Sort.ahead w n) g 0 ts.toArray) os:=⟨_,rfl⟩
  rw[←hw']at hgb hh⊢;obtain⟨g1,g2,g3,g4,g5⟩:=hgb;have hkeep:∀b,b < w.heap.size→¬b=g→w'.heap[b]?=w.heap[b]?:=fun b hb hn=>g5 b hb fun e=>hn (Option.some.inj e)
  have hcell:∀b i v,i < pub b→w.cell? ⟨b,i,none⟩=some v→w'.cell? ⟨b,i,none⟩=some v:=fun b i v hi hv=>by
   have hbs:b < w.heap.size:=by
    rcases aL b w.heap.size with h|h
    ·exact h
    ·rw[hfresh b h]at hi;exact absurd hi (Nat.not_lt_zero _)
   have hbg:¬b=g:=fun e=>by
    subst e;rw[hgp]at hi;exact absurd hi (Nat.not_lt_zero _)
   have e:=hkeep b hbs hbg;unfold World.cell? at hv⊢;dsimp only at hv⊢;rw[e];exact hv
  refine⟨rfl,⟨g1,g2,g3,g4,fun b hb hn=>⟨hkeep b hb fun e=>hn (by subst e;simp),rfl⟩,fun _=>aN _,hcell,fun b n hp hn=>kS (hkeep b (mM hn) fun e=>by subst e;rw[hgp]at hp;exact absurd hp (Nat.lt_irrefl 0)) hn⟩,?_⟩;refine jX.of_blk (cur:=Sort.putCells encStr 0 ts.toArray cur) hh (by rw[←hlen];exact h1) h2 (by simp[Sort.putCells,h3]) ?_;rw[Nat.mul_one,←htl,take_putCells _ _ (by rw[htl,aJ,h3];omega),List.map_map];rfl⟩
theorem Au {P:bI}{f:Nat}(hs:DF P f) (k:Nat) (L:List bH) {keep:List Nat}{st:St}{K:AV→St→Prop}(hk:st.H[k]?=some (.row 9 1 (bJ .str L))) (hl:L.length≤2000000) (hkeep:(keep.all fun j=>j != k)=true)
  (hK:K (.tup []) ⟨st.T,st.H.set k (.row 9 1 (bJ .str (dN L)))⟩):fY P keep f [.hd k] st K:=by
 refine⟨fun C a w r pub vals h hv=>?_⟩;obtain⟨u,us',hvals,hu,hnil⟩:=hv.cons_inv;have hn0:=hnil.nil_inv;subst hn0;obtain rfl:vals=#[u]:=Array.toList_inj.1 (by simpa using hvals);have hr:r k=some u:=by cases hu with|hd h _=>exact h
 obtain⟨A,c,us,hrk,ho,hcs,hst,hpb⟩:=h.ent_row hk;rw[hr]at hrk;cases hrk;have hus:=NU hcs;subst hus;rw[bY]at ho hr⊢;refine(hs.out A L c w pub hl ho hpb h.mod.fresh).mono fun e w' hw=>?_
 obtain⟨rfl,hf,ho'⟩:=hw;have hE:eF pub w' r (some (.slice A (bJ AV.str (dN L)).length c)) (.row 9 1 (bJ .str (dN L))):=by
  refine .row (us:=(dN L).map .string) (by rw[bY,iG];exact ho') (Hd _) (fun x hx=>?_) hpb;rw[dV]at hx;obtain⟨s,_,rfl⟩:=aX.1 hx;exact⟨rfl,rfl⟩
 rw[bY,iG]at hE;refine⟨_,_,_,r,pub,rfl,.tup rfl (fun i x v hx _=>by cases hx),hK,⟨h.mod.set hr hf (fun b hb=>hb) (fun b hb=>h.mod.fresh b (Nat.le_trans hf.size hb)) (fun b i hi=>?_) hE,h.own,h.fr.trans hf (fun b hb=>h.own k _ hr b hb),h.slots.ext hf.ext,h.defers,h.size,h.stab,⟨h.low.1,by simpa using h.low.2⟩⟩,hf.ext,fun j hj=>⟨rfl,fun y hy b hb=>?_⟩⟩
 ·obtain⟨v,hv⟩:=h.mod.there b i hi;exact⟨v,hf.ext.cell b i v hi hv⟩
 ·have hjk:j≠k:=by
   have:=aT.1 hkeep j hj;simpa using this
  exact(hf.keep b (h.mod.foot_lt hy b hb) fun hbA=>h.mod.disj j k y _ hjk hy hr b hb hbA).1
theorem tH {l1 l2:List bH}(h:l1.Perm l2):dN l1=dN l2:=by
 unfold dN;congr 1;have ht:∀a b c:List UInt8,decide (a≤b)=true→decide (b≤c)=true→decide (a≤c)=true:=fun a b c h1 h2=>aH (List.le_trans (of_decide_eq_true h1) (of_decide_eq_true h2))
 have hs:∀a b:List UInt8,(decide (a≤b) || decide (b≤a))=true:=fun a b=>by
  rcases List.le_total a b with h|h
  ·rw[aH h];rfl
  ·rw[aH h];exact Bool.or_true _
 refine List.Perm.eq_of_pairwise (le:=fun a b=>decide (a≤b)=true) (fun a b _ _ h1 h2=>List.le_antisymm (of_decide_eq_true h1) (of_decide_eq_true h2)) (List.pairwise_mergeSort ht hs _) (List.pairwise_mergeSort ht hs _) ?_;exact(List.mergeSort_perm _ _).trans ((h.map jM).trans (List.mergeSort_perm _ _).symm)
def gN (p:Br→Bool) (b:Br):Option bH:=bif p b then some b.b.number else none
def gM (L:List Br) (p:Br→Bool):List bH:=dN (L.filterMap (gN p))
def mY (L:List Br) (p:Br→Bool) (seen:List Nat):List bH:=seen.filterMap fun i=>L[i]?.bind (gN p)
theorem tF {α β:Type}(g:α→Option β):∀L:List α,(List.range L.length).filterMap (fun i=>L[i]?.bind g)=L.filterMap g
 |[]=>rfl
 |x :: L=>by
  rw[List.length_cons,List.range_succ_eq_map,List.filterMap_cons,List.filterMap_map];have ih:=tF g L;have e:((fun i=>(x :: L)[i]?.bind g) ∘ Nat.succ)=fun i=>L[i]?.bind g:=by funext i;rfl
  rw[e,ih,List.filterMap_cons];rfl
structure kQ (L:List Br) (seen:List Nat):Prop where
 nd:seen.Nodup
 lt:∀i∈seen,i < L.length
theorem kQ.nil {L:List Br}:kQ L []:=⟨.nil,fun i h=>by cases h⟩
theorem kQ.snoc {L:List Br}{seen:List Nat}{i:Nat}{y:Br}(h:kQ L seen) (hy:L[i]?=some y) (hn:i∉seen):kQ L (seen++[i]):=by
 refine⟨List.nodup_append.2 ⟨h.nd,List.nodup_cons.2 ⟨by simp,.nil⟩,fun a ha b hb e=>?_⟩,fun j hj=>?_⟩
 ·obtain rfl:=List.mem_singleton.1 hb;subst e;exact hn ha
 ·rcases List.mem_append.1 hj with h1|h1
  ·exact h.lt j h1
  ·obtain rfl:=List.mem_singleton.1 h1;exact(aA.1 hy).1
theorem kQ.len {L:List Br}{seen:List Nat}(h:kQ L seen):seen.length≤L.length:=by
 have:=h.nd.length_le_of_subset (l₂:=List.range L.length) fun i hi=>List.mem_range.2 (h.lt i hi)
 rwa [List.length_range]at this
theorem B7 {L:List Br}{p:Br→Bool}{seen:List Nat}(h:kQ L seen):(mY L p seen).length≤L.length:=Nat.le_trans (List.length_filterMap_le _ _) h.len
theorem BI {L:List Br}{p:Br→Bool}{seen:List Nat}(h:kQ L seen) (hall:∀i,i < L.length→i∈seen):dN (mY L p seen)=gM L p:=by
 have hp:seen.Perm (List.range L.length):=(List.perm_ext_iff_of_nodup h.nd List.nodup_range).2 fun i=>⟨fun hi=>List.mem_range.2 (h.lt i hi),fun hi=>hall i (List.mem_range.1 hi)⟩
 unfold gM;rw[←tF];exact tH (hp.filterMap _)
theorem Cy {L:List Br}{p:Br→Bool}{seen:List Nat}{i:Nat}{y:Br}(hy:L[i]?=some y) (hp:p y=true):mY L p (seen++[i])=mY L p seen++[y.b.number]:=by
 unfold mY;rw[List.filterMap_append];congr 1;rw[List.filterMap_cons,hy];unfold gN;rw[Option.bind_some,hp];rfl
theorem EB {L:List Br}{p:Br→Bool}{seen:List Nat}{i:Nat}{y:Br}(hy:L[i]?=some y) (hp:p y=false):mY L p (seen++[i])=mY L p seen:=by
 unfold mY;rw[List.filterMap_append,List.filterMap_cons,hy];unfold gN;rw[Option.bind_some,hp];exact List.append_nil _
theorem uP {α:Type}{f:α→A3}{L:List α}{since i:Nat}{seen s:List Nat}{x:AV}{y:α}{K:AV→AV→Prop}(e:s=seen++[i]) (hs:since=L.length) (hy:L[i]?=some y) (h:K (f y).1 x):Q4 (bJ f L) [(i,x)] since s K:=by
 subst e;exact Rt hs hy h
def inB (b:Br):Prop:=mJ b∧xS b.b
def SZ (p:Br→Bool):dA:=spec (fun _:Br=>[.ptr 0 0]) qE inB (fun y=>.bl (p y)) qE
def SU (f:Nat) (p:Br→Bool):dA:=spec (fun _:Rg=>[.ptr 0 0,.clo f []]) iQ (fun R=>R.bills.length≤256∧∀b∈R.bills,inB b) (fun R=>.sl 1 (bJ .str (gM R.bills p))) iQ
theorem C9 (P:bI) (f:Nat) (p:Br→Bool) (hm:dB P f) (hf:bK P f (SZ p)) (hs:DF P 91):bM P Zl (SU f p):=by
 intro args H K hc;obtain⟨⟨carrier,L⟩,rfl,rfl,hp,hK⟩:=hc;refine⟨cL,?_⟩;dsimp only at hp hK⊢;obtain⟨hp,hpb⟩:=hp;cbv;repeat'((first|refine .k fun z hz=>?_|fail)<;>cbv)
 obtain⟨n,hn⟩:∃n:Nat,n=L.length:=⟨_,rfl⟩
 obtain rfl:z=nI n:=bQ;refine gH (Gh.adopt 5 9 1 rfl) ?_;cbv;refine bS [3] (fun q:{ q:List Nat×Nat // kQ L q.1∧q.2=q.1.length }=>[(5,.hd 3)]) (fun q=>[.blk 122 [.str carrier,.ph 1],.pool 120 (bJ aaI L) [],.iter (.ph 1) n q.1.1,.row 9 1 (bJ .str (mY L p q.1.1))]) (fun q=>eW 257 q.1.2) ⟨([],0),.nil,rfl⟩ ?_;rintro ⟨⟨seen,k⟩,hse,hk⟩;dsimp only at hse hk⊢;have hsl:=hse.len;obtain⟨rw_,hrw⟩:∃l,l=mY L p seen:=⟨_,rfl⟩
 have hrl:rw_.length≤L.length:=by rw[hrw];exact B7 hse
 rw[←hrw];cbv;refine zG hn (fun i y hy hni=>?_) (fun hall=>?_)<;>dsimp only at *
 ·have hin:=hpb y (aC hy);have hse2:=hse.snoc hy hni;obtain⟨s2,hs2⟩:∃s,s=seen++[i]:=⟨_,rfl⟩
  rw[←hs2]at hse2⊢;obtain⟨b,hb⟩:∃b,b=p y:=⟨_,rfl⟩
  have hlt:k < 257:=by omega
  have hsk:s2.length=k+1:=by rw[hs2,hk];simp
  have hyes:=Cy (seen:=seen) hy (p:=p);have hno:=EB (seen:=seen) hy (p:=p);rw[←hs2,←hrw,←hb]at hyes hno;obtain⟨⟨nq1,cq1,sq1,frm1,to1,bq1,pq1,iq1,lq1⟩,st1,⟨sa1,ha1,ca1⟩,⟨sb1,hb1,cb1⟩,⟨sc1,hc1,cc1⟩⟩:=y;dsimp only at hyes hno;cbv;refine uP hs2 hn hy ?_;cbv;repeat'((first|refine And.intro ?_ ?_|fail)<;>cbv)
  ·exact hm
  ·(refine fI hf ⟨⟨nq1,cq1,sq1,frm1,to1,bq1,pq1,iq1,lq1⟩,st1,⟨sa1,ha1,ca1⟩,⟨sb1,hb1,cb1⟩,⟨sc1,hc1,cc1⟩⟩ [4,5,6,7] hin ?_;try dsimp only)
   rw[←hb];cases b with
   |true=>
    have hyes:=hyes rfl;cbv;repeat'((first|refine .zl fun zs hzs hzl=>?_|fail)<;>cbv)
    obtain rfl:zs=bJ .str (mY L p s2):=by(rw[hyes,cD,cF];exact hzs)
    refine dK (Gh.back0 1 [4,5,6,7] aaI rfl hy) ?_;cbv;exact bN ⟨(s2,k+1),hse2,hsk.symm⟩ (bO hlt)
   |false=>
    have hno:=hno rfl;rw[←hno];cbv;refine dK (Gh.back0 1 [4,5,6,7] aaI rfl hy) ?_;cbv;exact bN ⟨(s2,k+1),hse2,hsk.symm⟩ (bO hlt)
 ·have hsort:=BI (p:=p) hse hall;rw[←hrw]at hsort;obtain⟨l,hl⟩:∃l,l=gM L p:=⟨_,rfl⟩
  rw[←hl]at hsort hK;cbv;refine Au hs 3 rw_ rfl (by omega) (by decide) ?_;rw[hsort];cbv
  (refine .r9 (Gh.plain 3 rfl) ?_;cbv;exact .inl (.g9 hK))
def ND (p:bH→Br→Bool):dA:=spec (fun _:Br×bH=>[.ptr 0 0,.ptr 4 0]) (fun i=>qE i.1++[.blk 9 [.str i.2]]) (fun i=>inB i.1) (fun i=>.bl (p i.2 i.1)) fun i=>qE i.1++[.blk 9 [.str i.2]]
def WO (i:Rg×bH):List cG:=iQ i.1++[.blk 9 [.str i.2]]
def UJ (f:Nat) (p:bH→Br→Bool):dA:=spec (fun _:Rg×bH=>[.ptr 0 0,.clo f [.ptr 2 0]]) WO (fun i=>i.1.bills.length≤256∧∀b∈i.1.bills,inB b) (fun i=>.sl 1 (bJ .str (gM i.1.bills (p i.2)))) WO
theorem Bm (P:bI) (f:Nat) (p:bH→Br→Bool) (hm:dB P f) (hf:bK P f (ND p)) (hs:DF P 91):bM P Zl (UJ f p):=by
 intro args H K hc;obtain⟨⟨⟨carrier,L⟩,who⟩,rfl,rfl,hp,hK⟩:=hc;refine⟨cL,?_⟩;dsimp only at hp hK⊢;obtain⟨hp,hpb⟩:=hp;cbv;repeat'((first|refine .k fun z hz=>?_|fail)<;>cbv)
 obtain⟨n,hn⟩:∃n:Nat,n=L.length:=⟨_,rfl⟩
 obtain rfl:z=nI n:=bQ;refine gH (Gh.adopt 5 9 1 rfl) ?_;cbv;refine bS [4] (fun q:{ q:List Nat×Nat // kQ L q.1∧q.2=q.1.length }=>[(5,.hd 4)]) (fun q=>[.blk 122 [.str carrier,.ph 1],.pool 120 (bJ aaI L) [],.blk 9 [.str who],.iter (.ph 1) n q.1.1,.row 9 1 (bJ .str (mY L (p who) q.1.1))]) (fun q=>eW 257 q.1.2) ⟨([],0),.nil,rfl⟩ ?_;rintro ⟨⟨seen,k⟩,hse,hk⟩;dsimp only at hse hk⊢;have hsl:=hse.len;obtain⟨rw_,hrw⟩:∃l,l=mY L (p who) seen:=⟨_,rfl⟩
 have hrl:rw_.length≤L.length:=by rw[hrw];exact B7 hse
 rw[←hrw];cbv;refine zG hn (fun i y hy hni=>?_) (fun hall=>?_)<;>dsimp only at *
 ·have hin:=hpb y (aC hy);have hse2:=hse.snoc hy hni;obtain⟨s2,hs2⟩:∃s,s=seen++[i]:=⟨_,rfl⟩
  rw[←hs2]at hse2⊢;obtain⟨b,hb⟩:∃b,b=p who y:=⟨_,rfl⟩
  have hlt:k < 257:=by omega
  have hsk:s2.length=k+1:=by rw[hs2,hk];simp
  have hyes:=Cy (seen:=seen) hy (p:=p who);have hno:=EB (seen:=seen) hy (p:=p who);rw[←hs2,←hrw,←hb]at hyes hno;obtain⟨⟨nq1,cq1,sq1,frm1,to1,bq1,pq1,iq1,lq1⟩,st1,⟨sa1,ha1,ca1⟩,⟨sb1,hb1,cb1⟩,⟨sc1,hc1,cc1⟩⟩:=y;dsimp only at hyes hno;cbv;refine uP hs2 hn hy ?_;cbv;repeat'((first|refine And.intro ?_ ?_|fail)<;>cbv)
  ·exact hm
  ·(refine fI hf (⟨⟨nq1,cq1,sq1,frm1,to1,bq1,pq1,iq1,lq1⟩,st1,⟨sa1,ha1,ca1⟩,⟨sb1,hb1,cb1⟩,⟨sc1,hc1,cc1⟩⟩,who) [5,6,7,8,2] hin ?_;try dsimp only)
   rw[←hb];cases b with
   |true=>
    have hyes:=hyes rfl;cbv;repeat'((first|refine .zl fun zs hzs hzl=>?_|fail)<;>cbv)
    obtain rfl:zs=bJ .str (mY L (p who) s2):=by(rw[hyes,cD,cF];exact hzs)
    refine dK (Gh.back0 1 [5,6,7,8] aaI rfl hy) ?_;cbv;exact bN ⟨(s2,k+1),hse2,hsk.symm⟩ (bO hlt)
   |false=>
    have hno:=hno rfl;rw[←hno];cbv;refine dK (Gh.back0 1 [5,6,7,8] aaI rfl hy) ?_;cbv;exact bN ⟨(s2,k+1),hse2,hsk.symm⟩ (bO hlt)
 ·have hsort:=BI (p:=p who) hse hall;rw[←hrw]at hsort;obtain⟨l,hl⟩:∃l,l=gM L (p who):=⟨_,rfl⟩
  rw[←hl]at hsort hK;cbv;refine Au hs 4 rw_ rfl (by omega) (by decide) ?_;rw[hsort];cbv
  (refine .r9 (Gh.plain 4 rfl) ?_;cbv;exact .inl (.g9 hK))
theorem EG (P:bI):bM P Zt (SZ fun _=>true):=by
 intro args H K hc;obtain⟨y,rfl,rfl,hp,hK⟩:=hc;refine⟨cL,?_⟩;dsimp only at hp hK⊢;obtain⟨⟨nq1,cq1,sq1,frm1,to1,bq1,pq1,iq1,lq1⟩,st1,⟨sa1,ha1,ca1⟩,⟨sb1,hb1,cb1⟩,⟨sc1,hc1,cc1⟩⟩:=y;cbv
 (refine .q9 ?_;cbv;exact .inl (.f9 hK))
def lG (box:bH) (b:Br):Bool:=decide (b.st=0) && b.b.boxes.any fun x=>decide (box=x)
theorem Ly (P:bI) (hc:bK P 191 xD):bM P Y7 (ND lG):=by
 intro args H K hc;obtain⟨⟨y,who⟩,rfl,rfl,hp,hK⟩:=hc;refine⟨cL,?_⟩;dsimp only at hp hK⊢;unfold inB at hp;obtain⟨hp,hob⟩:=hp;unfold xS at hob;unfold lG at hK;obtain⟨q3,hq3⟩:∃q,q=y.b.boxes.any fun x=>decide (who=x):=⟨_,rfl⟩
 rw[←hq3]at hK;obtain⟨⟨nq1,cq1,sq1,frm1,to1,bq1,pq1,iq1,lq1⟩,st1,⟨sa1,ha1,ca1⟩,⟨sb1,hb1,cb1⟩,⟨sc1,hc1,cc1⟩⟩:=y;dsimp only at hK hob hq3;cbv;repeat'((first|refine .mk (fun h=>?_) fun h=>?_|fail)<;>cbv)
 ·(refine bX hc (bq1,who) (by dsimp only;omega) ?_;try dsimp only)
  rw[←hq3];cbv
  (refine .q9 ?_;cbv;exact .inl (.f9 (cE hK (by rw[aH h];rfl))))
 ·(refine .q9 ?_;cbv;exact .inl (.f9 (cE hK (by rw[aG h];rfl))))
def DB:dA:=spec (fun _:Rg=>[.ptr 0 0]) iQ (fun R=>R.bills.length≤256∧∀b∈R.bills,inB b) (fun R=>.sl 1 (bJ .str (gM R.bills fun _=>true))) iQ
theorem Il (P:bI) (hn:bK P 69 (SU 70 fun _=>true)):bM P Zw DB:=by
 intro args H K hc;obtain⟨⟨carrier,L⟩,rfl,rfl,hp,hK⟩:=hc;refine⟨cL,?_⟩;dsimp only at hp hK⊢;obtain⟨l,hl⟩:∃l,l=gM L fun _=>true:=⟨_,rfl⟩
 rw[←hl]at hK;cbv
 (refine fI hn (⟨carrier,L⟩:Rg) [0,1] hp ?_;try dsimp only)
 rw[←hl];cbv
 (refine .q9 ?_;cbv;exact .inl (.f9 hK))
def HI (L:List Br) (box:bH):bH×Bool:=match gM L (lG box) with
 |[]=>(⟨⟨[]⟩⟩,false)
 |n :: _=>(n,true)
def UX:dA:=spec (fun i:Rg×bH=>[.ptr 0 0,.str i.2]) (fun i=>iQ i.1) (fun i=>i.1.bills.length≤256∧∀b∈i.1.bills,inB b) (fun i=>ZR (HI i.1.bills i.2)) fun i=>iQ i.1
theorem OA (P:bI) (hn:bK P 69 (UJ 190 lG)):bM P Yj UX:=by
 intro args H K hc;obtain⟨⟨⟨carrier,L⟩,who⟩,rfl,rfl,hp,hK⟩:=hc;refine⟨cL,?_⟩;dsimp only at hp hK⊢;have hd:HI L who=match gM L (lG who) with
  |[]=>(⟨⟨[]⟩⟩,false)
  |n :: _=>(n,true):=rfl
 obtain⟨d,hdd⟩:∃d,d=HI L who:=⟨_,rfl⟩
 obtain⟨l,hl⟩:∃l,l=gM L (lG who):=⟨_,rfl⟩
 rw[←hdd]at hK hd;rw[←hl]at hd;cbv
 (refine fI hn ((⟨carrier,L⟩:Rg),who) [0,1,2] hp ?_;try dsimp only)
 rw[←hl];cases l with
 |nil=>
  cbv;repeat'((first|refine .y fun h=>?_|refine .k fun z hz=>?_|fail)<;>cbv)
  obtain rfl:=hd
  (refine .q9 ?_;cbv;exact .inl (.f9 hK))
 |cons x l=>
  dsimp only at hd;obtain rfl:=hd;cbv;repeat'((first|refine .n fun h=>?_|refine .k fun z hz=>?_|fail)<;>cbv)
  refine tB (f:=AV.str) (L:=x :: l) (i:=0) rfl ?_;cbv
  (refine .q9 ?_;cbv;exact .inl (.f9 hK))
def iF (s:bH):AV×AV:=(.str s,.bl true)
theorem Cm (s:bH):∀(L:List bH) (i:Nat),oK (.str s) (bJ iF L) i=some ((kA id L s).map (· + i))
 |[],i=>rfl
 |x :: L,i=>by
  have e:bJ iF (x :: L)=(.str x,.bl true) :: bJ iF L:=rfl;rw[e];unfold oK kA;rw[List.findIdx?_cons];by_cases h:x=s
  ·have h2:mP (.str s) (.str x)=some true:=congrArg some ((MapKept.bytes_beq _ _).2 h.symm);simp only[h2];simp[h]
  ·have h3:¬s=x:=fun e=>h e.symm
   have h2:mP (.str s) (.str x)=some false:=congrArg some (Bool.eq_false_iff.2 fun hb=>h3 ((MapKept.bytes_beq _ _).1 hb));simp only[h2,Cm s L (i+1),h,id,decide_false,aZ,if_false,Option.map_map,kA];congr 1;cases (L.findIdx? fun a=>decide (a=s)) with
   |none=>rfl
   |some n=>simp;omega
theorem oI {s:bH}{L:List bH}{K:Option (Nat×AV)→Prop}(hs:∀i,kA id L s=some i→K (some (i,.bl true))) (hn:kA id L s=none→K none):qN (.str s) (bJ iF L) K:=by
 refine⟨?_⟩;have hf:=Cm s L 0;cases h:kA id L s with
 |some i=>
  obtain⟨y,hy,_⟩:=eA h;exact .inl ⟨i,_,_,by rw[hf,h];rfl,by rw[dV,aD,hy];rfl,hs i h⟩
 |none=>exact .inr ⟨by rw[hf,h];rfl,hn h⟩
def D8 (L:List bH) (s:bH):Bool:=(kA id L s).isSome
def nL (ahead:List bH):List bH→Bool
 |[]=>true
 |b :: r=>(lC b && !D8 ahead b) && nL (ahead++[b]) r
theorem FJ {c:List bH}{k:Nat}{b:bH}(hb:c[k]?=some b):nL (c.take k) (c.drop k)=((lC b && !D8 (c.take k) b) && nL (c.take (k+1)) (c.drop (k+1))):=by
 obtain⟨hk,rfl⟩:=aA.1 hb;rw[List.drop_eq_getElem_cons hk,nL,List.take_succ_eq_append_getElem hk]
theorem BM {c:List bH}{k:Nat}(hk:k=c.length):nL (c.take k) (c.drop k)=true:=by
 rw[List.drop_eq_nil_of_le (by omega),nL]
def yN (carrier:bH):Bl→Bool
 |⟨number,car,shipper,frm,to,boxes,parents,issued,_⟩=>
  ((bT number && bT shipper) && (bT frm && bT to)) && ((decide (car=carrier) && gK issued) && ((decide (1≤boxes.length∧boxes.length≤64∧parents.length≤64)) && (nL [] boxes && !(parents.any fun s=>!bT s))))
def Tr:dA:=spec (fun i:Rg×Bl=>[.ptr 0 0,Kd i.2]) (fun i=>iQ i.1) (fun i=>xS i.2) (fun i=>.bl (yN i.1.carrier i.2)) fun i=>iQ i.1
theorem Mp (P:bI) (hn:bK P 144 (iL (fun _=>True) bT)) (hr:bK P 187 (iL (fun _=>True) lC)) (hd:bK P 109 DZ) (hc:bK P 152 (NK 188 fun s=>!bT s)):bM P X4 Tr:=by
 intro args H K hc;obtain⟨⟨⟨carrier,L⟩,b⟩,rfl,rfl,hp,hK⟩:=hc;refine⟨cL,?_⟩;dsimp only at hp hK⊢;unfold xS at hp;obtain⟨nq1,cq1,sq1,frm1,to1,bq1,pq1,iq1,lq1⟩:=b;obtain⟨q,hq⟩:∃q,q=yN carrier ⟨nq1,cq1,sq1,frm1,to1,bq1,pq1,iq1,lq1⟩:=⟨_,rfl⟩
 rw[←hq]at hK;unfold yN at hq;dsimp only at hq hp;obtain⟨n1,hn1⟩:∃q,q=bT nq1:=⟨_,rfl⟩
 obtain⟨n2,hn2⟩:∃q,q=bT sq1:=⟨_,rfl⟩
 obtain⟨n3,hn3⟩:∃q,q=bT frm1:=⟨_,rfl⟩
 obtain⟨n4,hn4⟩:∃q,q=bT to1:=⟨_,rfl⟩
 obtain⟨n5,hn5⟩:∃q,q=gK iq1:=⟨_,rfl⟩
 obtain⟨n6,hn6⟩:∃q,q=(pq1.any fun s=>!bT s):=⟨_,rfl⟩
 obtain⟨n7,hn7⟩:∃q,q=nL (bq1.take 0) (bq1.drop 0):=⟨_,rfl⟩
 have hn7':nL [] bq1=n7:=hn7.symm;rw[←hn1,←hn2,←hn3,←hn4,←hn5,←hn6,hn7']at hq;clear hn7';cbv
 (refine bX hn nq1 trivial ?_;try dsimp only)
 rw[←hn1];cases n1 with
 |false=>
  cbv
  (refine .q9 ?_;cbv;exact .inl (.f9 (cE hK (by rw[hq];rfl))))
 |true=>
 cbv
 (refine bX hn sq1 trivial ?_;try dsimp only)
 rw[←hn2];cases n2 with
 |false=>
  cbv
  (refine .q9 ?_;cbv;exact .inl (.f9 (cE hK (by rw[hq];rfl))))
 |true=>
 cbv
 (refine bX hn frm1 trivial ?_;try dsimp only)
 rw[←hn3];cases n3 with
 |false=>
  cbv
  (refine .q9 ?_;cbv;exact .inl (.f9 (cE hK (by rw[hq];rfl))))
 |true=>
 cbv
 (refine bX hn to1 trivial ?_;try dsimp only)
 rw[←hn4];cases n4 with
 |false=>
  cbv
  (refine .q9 ?_;cbv;exact .inl (.f9 (cE hK (by rw[hq];rfl))))
 |true=>
 cbv;repeat'((first|refine .mk (fun h=>?_) fun h=>?_|fail)<;>cbv)
 rotate_left
 ·(refine .q9 ?_;cbv;exact .inl (.f9 (cE hK (by rw[hq,aG h];rfl))))
 ·rw[aH h]at hq
  (refine bX hd iq1 trivial ?_;try dsimp only)
  rw[←hn5];cases n5 with
  |false=>
   cbv
   (refine .q9 ?_;cbv;exact .inl (.f9 (cE hK (by rw[hq];rfl))))
  |true=>
  cbv;repeat'((first|refine .mk (fun h=>?_) fun h=>?_|refine .k fun z hz=>?_|fail)<;>cbv)
  ·(refine .q9 ?_;cbv;exact .inl (.f9 (cE hK (by rw[hq,aG bQ];rfl))))
  ·(refine .q9 ?_;cbv;exact .inl (.f9 (cE hK (by rw[hq,aG bQ];rfl))))
  ·(refine .q9 ?_;cbv;exact .inl (.f9 (cE hK (by rw[hq,aG bQ];rfl))))
  ·rw[aH bQ]at hq;refine bS [] (fun q:{ k:Nat // k≤bq1.length∧n7=nL (bq1.take k) (bq1.drop k) }=>[(66,.i (nI q.1))]) (fun q=>[.blk 122 [.str carrier,.ph 1],.pool 120 (bJ aaI L) [],.blk 79 [.str nq1,.str cq1,.str sq1,.str frm1,.str to1,.sl 1 (bJ .str bq1),.sl 1 (bJ .str pq1),.i iq1,.bl lq1],.map 70 (bJ iF (bq1.take q.1))]) (fun q=>eW 5001 q.1) ⟨0,aI _,hn7⟩ ?_;rintro ⟨k,hk,hb7⟩;dsimp only at hk hb7⊢;cbv;repeat'((first|refine .mk (fun h=>?_) fun h=>?_|fail)<;>cbv)
   ·refine cM bQ bQ fun i x hi hx=>?_
    obtain rfl:k=i:=bQ;have hg:=FJ hx;obtain⟨m,hm⟩:∃m,m=lC x:=⟨_,rfl⟩
    rw[←hm]at hg;cbv
    (refine bX hr x trivial ?_;try dsimp only)
    rw[←hm];cases m with
    |false=>
     rw[hb7,hg]at hq;cbv
     (refine .q9 ?_;cbv;exact .inl (.f9 (cE hK (by rw[hq];rfl))))
    |true=>
     cbv;refine oI (fun j hj=>?_) (fun hj=>?_)
     ·have hh:D8 (bq1.take k) x=true:=by unfold D8;rw[hj];rfl
      rw[hb7,hg,hh]at hq;cbv
      (refine .q9 ?_;cbv;exact .inl (.f9 (cE hK (by rw[hq];rfl))))
     ·have hh:D8 (bq1.take k) x=false:=by unfold D8;rw[hj];rfl
      rw[hh]at hg;cbv;refine oI (fun j hj2=>?_) (fun _=>?_)
      ·rw[hj]at hj2;cases hj2
      cbv;repeat'((first|refine .k fun z hz=>?_|refine .ms fun ms hms=>?_|fail)<;>cbv)
      obtain rfl:ms=bJ iF (bq1.take (k+1)):=by
       rw[dC hx,cD,cF];exact hms
      obtain rfl:z=nI (k+1):=bQ;exact bN ⟨k+1,by exact bQ,hb7.trans hg⟩ (bO bQ)
   ·obtain rfl:k=bq1.length:=bQ;rw[BM rfl]at hb7;subst hb7
    (refine bX hc pq1 bQ ?_;try dsimp only)
    rw[←hn6];cases n6 with
    |false=>
     cbv
     (refine .q9 ?_;cbv;exact .inl (.f9 (cE hK (by rw[hq];rfl))))
    |true=>
     cbv
     (refine .q9 ?_;cbv;exact .inl (.f9 (cE hK (by rw[hq];rfl))))
structure oR where
 R:Rg
 b:Bl
 holder:bH
def uI (i:oR):List cG:=iQ i.R++[.blk 45 [.ptr 0 0],.blk 79 (Za i.b),.blk 9 [.str i.holder]]
structure C8 (i:oR):Prop where
 few:i.R.bills.length≤256
 all:∀b∈i.R.bills,inB b
 ok:xS i.b
def yH (args:List AV) (p:oR→Bool):dA:=spec (fun _:oR=>args) uI C8 (fun i=>.bl (p i)) uI
def i1 (i:oR):Bool:=!yN i.R.carrier i.b || !bT i.holder
def i2 (i:oR):Bool:=(oL i.R.bills i.b.number).isSome
def Dz (i:oR) (box:bH):Bool:=(HI i.R.bills box).2
def i3 (i:oR):Bool:=i.b.boxes.any (Dz i)
def i4 (i:oR):Bool:=decide (256≤i.R.bills.length)
theorem LF (P:bI) (hm:bK P 149 Tr) (hn:bK P 144 (iL (fun _=>True) bT)):bM P X3 (yH [.ptr 2 0,.ptr 3 0,.ptr 4 0] i1):=by
 intro args H K hc;obtain⟨⟨⟨carrier,L⟩,b,holder⟩,rfl,rfl,hp,hK⟩:=hc;refine⟨cL,?_⟩;dsimp only at hp hK⊢;obtain⟨_,_,hok⟩:=hp;unfold i1 at hK;dsimp only at hK hok;obtain⟨n1,hn1⟩:∃q,q=yN carrier b:=⟨_,rfl⟩
 obtain⟨n2,hn2⟩:∃q,q=bT holder:=⟨_,rfl⟩
 rw[←hn1,←hn2]at hK;obtain⟨nq1,cq1,sq1,frm1,to1,bq1,pq1,iq1,lq1⟩:=b;cbv
 (refine fI hm ((⟨carrier,L⟩:Rg),⟨nq1,cq1,sq1,frm1,to1,bq1,pq1,iq1,lq1⟩) [0,1] hok ?_;try dsimp only)
 rw[←hn1];cases n1 with
 |false=>
  cbv
  (refine .q9 ?_;cbv;exact .inl (.f9 hK))
 |true=>
  cbv
  (refine bX hn holder trivial ?_;try dsimp only)
  rw[←hn2];cases n2 with
  |false=>
   cbv
   (refine .q9 ?_;cbv;exact .inl (.f9 hK))
  |true=>
   cbv
   (refine .q9 ?_;cbv;exact .inl (.f9 hK))
theorem Li (P:bI):bM P Yf (yH [.ptr 2 0,.ptr 3 0] i2):=by
 intro args H K hc;obtain⟨⟨⟨carrier,L⟩,b,holder⟩,rfl,rfl,hp,hK⟩:=hc;refine⟨cL,?_⟩;dsimp only at hp hK⊢;unfold i2 at hK;dsimp only at hK;obtain⟨n1,hn1⟩:∃q,q=(oL L b.number).isSome:=⟨_,rfl⟩
 rw[←hn1]at hK;obtain⟨nq1,cq1,sq1,frm1,to1,bq1,pq1,iq1,lq1⟩:=b;cbv;refine eE (fun b:Br=>b.b.number) (fun _=>rfl) (fun i y hai hy hky=>?_) (fun hai=>?_)<;>dsimp only at *
 ·have hn2:n1=true:=by rw[hn1];unfold oL;rw[hai];rfl
  obtain⟨⟨nq2,cq2,sq2,frm2,to2,bq2,pq2,iq2,lq2⟩,st2,⟨sa2,ha2,ca2⟩,⟨sb2,hb2,cb2⟩,⟨sc2,hc2,cc2⟩⟩:=y;cbv
  (refine .r9 (Gh.back0 1 [5,6,7,8] aaI rfl hy) ?_;cbv;exact .inl (.f9 (cE hK hn2.symm)))
 ·have hn2:n1=false:=by rw[hn1];unfold oL;rw[hai];rfl
  cbv
  (refine .q9 ?_;cbv;exact .inl (.f9 (cE hK hn2.symm)))
theorem HY (P:bI) (hb:bK P 154 UX):bM P Xz (spec (fun i:oR×bH=>[.str i.2,.ptr 2 0]) (fun i=>uI i.1) (fun i=>C8 i.1) (fun i=>.bl (Dz i.1 i.2)) fun i=>uI i.1):=by
 intro args H K hc;obtain⟨⟨⟨⟨carrier,L⟩,b,holder⟩,box⟩,rfl,rfl,hp,hK⟩:=hc;refine⟨cL,?_⟩;dsimp only at hp hK⊢;obtain⟨hfew,hall,hok⟩:=hp;dsimp only at hfew hall;unfold Dz at hK;dsimp only at hK;obtain⟨⟨s,f⟩,hn1⟩:∃q,q=HI L box:=⟨_,rfl⟩
 rw[←hn1]at hK;obtain⟨nq1,cq1,sq1,frm1,to1,bq1,pq1,iq1,lq1⟩:=b;cbv
 (refine fI hb ((⟨carrier,L⟩:Rg),box) [0,1] ⟨hfew,hall⟩ ?_;try dsimp only)
 rw[←hn1];cbv
 (refine .q9 ?_;cbv;exact .inl (.f9 hK))
theorem Lj (P:bI):bM P Xf (yH [.ptr 2 0] i4):=by
 intro args H K hc;obtain⟨⟨⟨carrier,L⟩,b,holder⟩,rfl,rfl,hp,hK⟩:=hc;refine⟨cL,?_⟩;dsimp only at hp hK⊢;unfold i4 at hK;dsimp only at hK;obtain⟨n,hn⟩:∃n:Nat,n=L.length:=⟨_,rfl⟩
 rw[←hn]at hK;obtain⟨nq1,cq1,sq1,frm1,to1,bq1,pq1,iq1,lq1⟩:=b;cbv;repeat'((first|refine .mk (fun h=>?_) fun h=>?_|refine .k fun z hz=>?_|fail)<;>cbv)
 ·(refine .q9 ?_;cbv;exact .inl (.f9 (cE hK (aH bQ).symm)))
 ·(refine .q9 ?_;cbv;exact .inl (.f9 (cE hK (aG bQ).symm)))
def XJ:dA:=spec (fun i:oR×bH=>[.str i.2,.ptr 2 0]) (fun i=>uI i.1) (fun i=>C8 i.1) (fun i=>.bl (Dz i.1 i.2)) fun i=>uI i.1
def Px:dA:=spec (fun i:oR=>[.sl 1 (bJ .str i.b.boxes),.clo 153 [.ptr 2 0]]) uI C8 (fun i=>.i (yQ (Dz i) i.b.boxes)) uI
theorem Lm (P:bI) (hm:dB P 153) (hf:bK P 153 XJ):bM P VV Px:=by
 intro args H K hc;obtain⟨i,rfl,rfl,hp,hK⟩:=hc;obtain⟨p,hpp⟩:∃p,p=Dz i:=⟨_,rfl⟩
 have hok:=hp.ok;dsimp only at hK;rw[←hpp]at hK;obtain⟨⟨carrier,L⟩,b,holder⟩:=i;unfold xS at hok;obtain⟨nq1,cq1,sq1,frm1,to1,bq1,pq1,iq1,lq1⟩:=b;refine⟨cL,?_⟩;dsimp only at hok hK⊢;cbv;repeat'((first|refine .k fun z hz=>?_|fail)<;>cbv)
 refine bS [] (fun q:{ k:Nat // k≤bq1.length∧nC p bq1 k }=>[(8,.i (nI q.1))]) (fun _=>uI ⟨⟨carrier,L⟩,⟨nq1,cq1,sq1,frm1,to1,bq1,pq1,iq1,lq1⟩,holder⟩) (fun q=>eW 5001 q.1) ⟨0,aI _,.zero⟩ ?_;rintro ⟨k,hk,hn⟩;dsimp only at hk hn⊢;cbv;repeat'((first|refine .mk (fun h=>?_) fun h=>?_|fail)<;>cbv)
 ·refine cM bQ bQ fun j x hi hx=>?_
  obtain rfl:k=j:=bQ;cbv;repeat'((first|refine And.intro ?_ ?_|fail)<;>cbv)
  ·exact hm
  ·obtain⟨b,hb⟩:∃b,b=p x:=⟨_,rfl⟩
   (refine fI hf ((⟨⟨carrier,L⟩,⟨nq1,cq1,sq1,frm1,to1,bq1,pq1,iq1,lq1⟩,holder⟩:oR),x) [0,1,2,3,4] hp ?_;try dsimp only)
   rw[←hpp,←hb];cases b with
   |true=>
    cbv
    (refine .q9 ?_;cbv;exact .inl (.f9 (fO hK (by rw[Eb hn hx hb.symm]))))
   |false=>
    cbv;repeat'((first|refine .k fun z hz=>?_|fail)<;>cbv)
    obtain rfl:z=nI (k+1):=bQ;exact bN ⟨k+1,by exact bQ,hn.succ hx hb.symm⟩ (bO bQ)
 ·obtain rfl:k=bq1.length:=bQ
  (refine .q9 ?_;cbv;exact .inl (.f9 (fO hK (by rw[wL hn]))))
def OM:dA:=spec (fun i:oR=>[.sl 1 (bJ .str i.b.boxes),.clo 153 [.ptr 2 0]]) uI C8 (fun i=>.bl (i3 i)) uI
theorem JN (P:bI) (hi:bK P 189 Px):bM P Wp OM:=by
 intro args H K hc;obtain⟨i,rfl,rfl,hp,hK⟩:=hc;unfold i3 at hK;dsimp only at hK;rw[←Ba]at hK;obtain⟨e,he⟩:∃e,e=yQ (Dz i) i.b.boxes:=⟨_,rfl⟩
 rw[←he]at hK;obtain⟨⟨carrier,L⟩,b,holder⟩:=i;obtain⟨nq1,cq1,sq1,frm1,to1,bq1,pq1,iq1,lq1⟩:=b;refine⟨cL,?_⟩;dsimp only at hK⊢;cbv
 (refine fI hi (⟨⟨carrier,L⟩,⟨nq1,cq1,sq1,frm1,to1,bq1,pq1,iq1,lq1⟩,holder⟩:oR) [0,1,2,3,4] hp ?_;try dsimp only)
 rw[←he];cbv;repeat'((first|refine .mk (fun h=>?_) fun h=>?_|fail)<;>cbv)
 ·(refine .q9 ?_;cbv;exact .inl (.f9 (cE hK (by rw[aH h]))))
 ·(refine .q9 ?_;cbv;exact .inl (.f9 (cE hK (by rw[aG (by omega)]))))
theorem LM (P:bI) (hc:bK P 152 OM):bM P YA (yH [.ptr 3 0,.ptr 2 0] i3):=by
 intro args H K hk;obtain⟨i,rfl,rfl,hp,hK⟩:=hk;obtain⟨q,hq⟩:∃q,q=i3 i:=⟨_,rfl⟩
 dsimp only at hK;rw[←hq]at hK;obtain⟨⟨carrier,L⟩,b,holder⟩:=i;obtain⟨nq1,cq1,sq1,frm1,to1,bq1,pq1,iq1,lq1⟩:=b;refine⟨cL,?_⟩;dsimp only at hK⊢;cbv
 (refine fI hc (⟨⟨carrier,L⟩,⟨nq1,cq1,sq1,frm1,to1,bq1,pq1,iq1,lq1⟩,holder⟩:oR) [0,1,2,3,4] hp ?_;try dsimp only)
 rw[←hq];cbv
 (refine .q9 ?_;cbv;exact .inl (.f9 hK))
def gP (i:oR):Int:=if i1 i then 1 else if i2 i then 5 else if i3 i then 9 else if i4 i then 7 else 0
def W0:List AV:=[.i 1,.clo 148 [.ptr 2 0,.ptr 3 0,.ptr 4 0],.i 5,.clo 150 [.ptr 2 0,.ptr 3 0],.i 9,.clo 151 [.ptr 3 0,.ptr 2 0],.i 7,.clo 155 [.ptr 2 0]]
def Nn (i:oR):List cG:=uI i++[.hrow 210 2 4 W0]
def PE:dA:=spec (fun _:oR=>[.hd 5]) Nn C8 (fun i=>.i (gP i)) Nn
structure YD (P:bI):Prop where
 m1:dB P 148
 m2:dB P 150
 m3:dB P 151
 m4:dB P 155
 f1:bK P 148 (yH [.ptr 2 0,.ptr 3 0,.ptr 4 0] i1)
 f2:bK P 150 (yH [.ptr 2 0,.ptr 3 0] i2)
 f3:bK P 151 (yH [.ptr 3 0,.ptr 2 0] i3)
 f4:bK P 155 (yH [.ptr 2 0] i4)
theorem FD (P:bI) (F:YD P):bM P T4 PE:=by
 intro args H K hc;obtain⟨i,rfl,rfl,hp,hK⟩:=hc;dsimp only at hK;have he:gP i=if i1 i then 1 else if i2 i then 5 else if i3 i then 9 else if i4 i then 7 else 0:=rfl
 obtain⟨e,hee⟩:∃e,e=gP i:=⟨_,rfl⟩
 rw[←hee]at hK he;obtain⟨q1,hq1⟩:∃q,q=i1 i:=⟨_,rfl⟩
 obtain⟨q2,hq2⟩:∃q,q=i2 i:=⟨_,rfl⟩
 obtain⟨q3,hq3⟩:∃q,q=i3 i:=⟨_,rfl⟩
 obtain⟨q4,hq4⟩:∃q,q=i4 i:=⟨_,rfl⟩
 rw[←hq1,←hq2,←hq3,←hq4]at he;obtain⟨⟨carrier,L⟩,b,holder⟩:=i;obtain⟨nq1,cq1,sq1,frm1,to1,bq1,pq1,iq1,lq1⟩:=b;refine⟨cL,?_⟩;dsimp only at hK⊢;cbv;refine bS [] (fun p:{ k:Nat // k≤4∧(1≤k→q1=false)∧(2≤k→q2=false)∧(3≤k→q3=false)∧(4≤k→q4=false) }=>[(7,.i (nI p.1))]) (fun _=>Nn ⟨⟨carrier,L⟩,⟨nq1,cq1,sq1,frm1,to1,bq1,pq1,iq1,lq1⟩,holder⟩) (fun p=>eW 4 p.1) ⟨0,by decide,fun h=>absurd h (by decide),fun h=>absurd h (by decide),fun h=>absurd h (by decide),fun h=>absurd h (by decide)⟩ ?_;rintro ⟨k,hk,g1,g2,g3,g4⟩;dsimp only at hk g1 g2 g3 g4⊢;have hk4:k=0∨k=1∨k=2∨k=3∨k=4:=by omega
 rcases hk4 with rfl|rfl|rfl|rfl|rfl
 ·cbv;repeat'((first|refine .y fun h=>?_|refine .o ?_|refine And.intro ?_ ?_|fail)<;>cbv)
  ·exact F.m1
  ·have e0:True:=trivial
   (refine fI F.f1 (⟨⟨carrier,L⟩,⟨nq1,cq1,sq1,frm1,to1,bq1,pq1,iq1,lq1⟩,holder⟩:oR) [0,1,2,3,4] hp ?_;try dsimp only)
   rw[←hq1];cases q1 with
   |true=>
    cbv
    (refine .q9 ?_;cbv;exact .inl (.f9 (fO hK (by rw[he];rfl))))
   |false=>
    cbv;repeat'((first|refine .k fun z hz=>?_|fail)<;>cbv)
    obtain rfl:z=nI 1:=bQ;exact bN ⟨1,by decide,fun _=>rfl,fun h=>absurd h (by decide),fun h=>absurd h (by decide),fun h=>absurd h (by decide)⟩ (bO (by decide))
 ·cbv;repeat'((first|refine .y fun h=>?_|refine .o ?_|refine And.intro ?_ ?_|fail)<;>cbv)
  ·exact F.m2
  ·have e0:True:=trivial;have e1:=g1 (by decide)
   (refine fI F.f2 (⟨⟨carrier,L⟩,⟨nq1,cq1,sq1,frm1,to1,bq1,pq1,iq1,lq1⟩,holder⟩:oR) [0,1,2,3,4] hp ?_;try dsimp only)
   rw[←hq2];cases q2 with
   |true=>
    cbv
    (refine .q9 ?_;cbv;exact .inl (.f9 (fO hK (by rw[he,e1];rfl))))
   |false=>
    cbv;repeat'((first|refine .k fun z hz=>?_|fail)<;>cbv)
    obtain rfl:z=nI 2:=bQ;exact bN ⟨2,by decide,fun _=>g1 (by decide),fun _=>rfl,fun h=>absurd h (by decide),fun h=>absurd h (by decide)⟩ (bO (by decide))
 ·cbv;repeat'((first|refine .y fun h=>?_|refine .o ?_|refine And.intro ?_ ?_|fail)<;>cbv)
  ·exact F.m3
  ·have e0:True:=trivial;have e1:=g1 (by decide);have e2:=g2 (by decide)
   (refine fI F.f3 (⟨⟨carrier,L⟩,⟨nq1,cq1,sq1,frm1,to1,bq1,pq1,iq1,lq1⟩,holder⟩:oR) [0,1,2,3,4] hp ?_;try dsimp only)
   rw[←hq3];cases q3 with
   |true=>
    cbv
    (refine .q9 ?_;cbv;exact .inl (.f9 (fO hK (by rw[he,e1,e2];rfl))))
   |false=>
    cbv;repeat'((first|refine .k fun z hz=>?_|fail)<;>cbv)
    obtain rfl:z=nI 3:=bQ;exact bN ⟨3,by decide,fun _=>g1 (by decide),fun _=>g2 (by decide),fun _=>rfl,fun h=>absurd h (by decide)⟩ (bO (by decide))
 ·cbv;repeat'((first|refine .y fun h=>?_|refine .o ?_|refine And.intro ?_ ?_|fail)<;>cbv)
  ·exact F.m4
  ·have e0:True:=trivial;have e1:=g1 (by decide);have e2:=g2 (by decide);have e3:=g3 (by decide)
   (refine fI F.f4 (⟨⟨carrier,L⟩,⟨nq1,cq1,sq1,frm1,to1,bq1,pq1,iq1,lq1⟩,holder⟩:oR) [0,1,2,3,4] hp ?_;try dsimp only)
   rw[←hq4];cases q4 with
   |true=>
    cbv
    (refine .q9 ?_;cbv;exact .inl (.f9 (fO hK (by rw[he,e1,e2,e3];rfl))))
   |false=>
    cbv;repeat'((first|refine .k fun z hz=>?_|fail)<;>cbv)
    obtain rfl:z=nI 4:=bQ;exact bN ⟨4,by decide,fun _=>g1 (by decide),fun _=>g2 (by decide),fun _=>g3 (by decide),fun _=>rfl⟩ (bO (by decide))
 ·have e1:=g1 (by decide);have e2:=g2 (by decide);have e3:=g3 (by decide);have e4:=g4 (by decide);cbv;repeat'((first|refine .n fun h=>?_|fail)<;>cbv)
  (refine .q9 ?_;cbv;exact .inl (.f9 (fO hK (by rw[he,e1,e2,e3,e4];rfl))))
theorem cZ {M:Nat}{res:List aaM}{K:AV→List cG→Prop}{st st1:St}(hg:Gh M st st1) (h:bZ M res K st1):bZ M res K st:=by
 obtain⟨st',h1,h2⟩:=h;exact⟨⟨st',hg.trans h1,h2⟩⟩
theorem lS {α:Type}{f:α→A3}{L:List α}(key:α→bH) (hf:∀a,(f a).1=.str (key a)) {s:bH}{outs:List (Nat×AV)}{v:AV}{K:List A3→List (Nat×AV)→Prop}(ha:kA key L s=none) (h:∀es n,es=bJ f L++[(.str s,.any,[])]→n=L.length→K es ((n,v) :: outs)):QT (.str s) (bJ f L) outs v K:=
 NS key hf ha (h _ _ rfl rfl)
theorem Gh.backN2 {α:Type}{M:Nat}{st:St}(k:Nat) (sel:List Nat) (f:α→A3) {L L':List α}(y:α) {es:List A3}{n:Nat}{t:TypeId}{x:AV}(hes:es=bJ f L++[((f y).1,.any,[])]) (hn:n=L.length) (hL':L'=L++[y]) (hk:st.H[k]?=some (.pool t es [(n,x)]):=by rfl)
  (hx:x=(f y).2.1.ren sel 0:=by rfl) (hH:sel.map (fun q=>st.H[q]?)=(gA sel 0 (f y).2.2).map some:=by rfl) (hnd:sel.Nodup:=by decide) (hsel:sel.all (fun q=>Nat.ble M q && q != k)=true:=by decide) (hb:(f y).2.1.bnd sel.length=true:=by rfl) (hbH:fD sel.length (f y).2.2=true:=by rfl) (hpl:(f y).2.2.all vR=true:=by rfl) :
  Gh M st ⟨iO st.T sel,Bu (gO (st.H.set k (.pool t (bJ f L') [])) sel) sel⟩:=by
 subst hes hn hL';exact Gh.backN k sel f y hk rfl hx hH hnd hsel hb hbH hpl
def Tf (b:Bl) (holder:bH):Br:=⟨b,0,⟨0,holder,[]⟩,⟨0,holder,[]⟩,⟨0,holder,[]⟩⟩
def jY (i:oR):Rg:=if gP i=0 then ⟨i.R.carrier,i.R.bills++[Tf i.b i.holder]⟩ else i.R
def Hy:dA:=spec (fun i:oR=>[.ptr 0 0,Kd i.b,.str i.holder]) (fun i=>iQ i.R) C8 (fun i=>.i (gP i)) fun i=>iQ (jY i)
theorem Iz (P:bI) (hf:bK P 105 PE) (hcp:bK P 54 CV):bM P YK Hy:=by
 intro args H K hc;obtain⟨i,rfl,rfl,hp,hK⟩:=hc;dsimp only at hK;have hok:=hp.ok;obtain⟨e,he⟩:∃e,e=gP i:=⟨_,rfl⟩
 obtain⟨R',hR'⟩:∃R',R'=jY i:=⟨_,rfl⟩
 rw[←he,←hR']at hK;unfold jY at hR';rw[←he]at hR';have hi2:e=0→i2 i=false:=fun h=>by
  rw[h]at he;unfold gP at he;cases h2:i2 i with
  |false=>rfl
  |true=>
   rw[h2]at he;cases h1:i1 i with
   |false=>rw[h1]at he;simp at he
   |true=>rw[h1]at he;simp at he
 obtain⟨⟨carrier,L⟩,b,holder⟩:=i;dsimp only at hR' hok;obtain⟨nq1,cq1,sq1,frm1,to1,bq1,pq1,iq1,lq1⟩:=b;refine⟨cL,?_⟩;dsimp only at hK⊢;cbv
 (refine fI hf (⟨⟨carrier,L⟩,⟨nq1,cq1,sq1,frm1,to1,bq1,pq1,iq1,lq1⟩,holder⟩:oR) [0,1,2,3,4,5] hp ?_;try dsimp only)
 rw[←he];cbv;repeat'((first|refine .mk (fun h=>?_) fun h=>?_|fail)<;>cbv)
 ·rw[aF h]at hR';rw[h]at hK;have hn2:=hi2 h;unfold i2 at hn2;dsimp only at hn2
  (refine bX hcp ⟨nq1,cq1,sq1,frm1,to1,bq1,pq1,iq1,lq1⟩ hok ?_;try dsimp only)
  cbv;refine bS [] (fun p:{ k:Nat // k≤3 }=>[(27,.i (nI p.1))]) (fun p=>[.blk 122 [.str carrier,.ph 1],.pool 120 (bJ aaI L) [],.blk 45 [.ptr 0 0],.blk 79 [.str nq1,.str cq1,.str sq1,.str frm1,.str to1,.sl 1 (bJ .str bq1),.sl 1 (bJ .str pq1),.i iq1,.bl lq1],.blk 9 [.str holder],.hrow 210 2 4 W0,.blk 127 (fR p.1 [.str nq1,.str cq1,.str sq1,.str frm1,.str to1,.sl 1 (bJ .str bq1),.sl 1 (bJ .str pq1),.i iq1,.bl lq1,.i 0,.i 0,.str ⟨⟨[]⟩⟩,.v (.slice none 0 0),.i 0,.str ⟨⟨[]⟩⟩,.v (.slice none 0 0),.i 0,.str ⟨⟨[]⟩⟩,.v (.slice none 0 0)] [.str nq1,.str cq1,.str sq1,.str frm1,.str to1,.sl 1 (bJ .str bq1),.sl 1 (bJ .str pq1),.i iq1,.bl lq1,.i 0,.i 0,.str holder,.v (.slice none 0 0),.i 0,.str ⟨⟨[]⟩⟩,.v (.slice none 0 0),.i 0,.str ⟨⟨[]⟩⟩,.v (.slice none 0 0)] [.str nq1,.str cq1,.str sq1,.str frm1,.str to1,.sl 1 (bJ .str bq1),.sl 1 (bJ .str pq1),.i iq1,.bl lq1,.i 0,.i 0,.str holder,.v (.slice none 0 0),.i 0,.str holder,.v (.slice none 0 0),.i 0,.str ⟨⟨[]⟩⟩,.v (.slice none 0 0)] [.str nq1,.str cq1,.str sq1,.str frm1,.str to1,.sl 1 (bJ .str bq1),.sl 1 (bJ .str pq1),.i iq1,.bl lq1,.i 0,.i 0,.str holder,.v (.slice none 0 0),.i 0,.str holder,.v (.slice none 0 0),.i 0,.str holder,.v (.slice none 0 0)])]) (fun p=>eW 3 p.1) ⟨0,by decide⟩ ?_;rintro ⟨k,hk⟩;dsimp only at hk⊢;have hk4:k=0∨k=1∨k=2∨k=3:=by omega
  rcases hk4 with rfl|rfl|rfl|rfl
  ·cbv;repeat'((first|refine .n fun h=>?_|refine .y fun h=>?_|refine .k fun z hz=>?_|refine .o ?_|fail)<;>cbv)
   obtain rfl:z=nI 1:=bQ;exact bN ⟨1,by decide⟩ (bO (by decide))
  ·cbv;repeat'((first|refine .n fun h=>?_|refine .y fun h=>?_|refine .k fun z hz=>?_|refine .o ?_|fail)<;>cbv)
   obtain rfl:z=nI 2:=bQ;exact bN ⟨2,by decide⟩ (bO (by decide))
  ·cbv;repeat'((first|refine .y fun h=>?_|refine .k fun z hz=>?_|refine .o ?_|fail)<;>cbv)
   obtain rfl:z=nI 3:=bQ;exact bN ⟨3,by decide⟩ (bO (by decide))
  ·cbv;repeat'((first|refine .n fun h=>?_|fail)<;>cbv)
   have hat:kA (fun b:Br=>b.b.number) L nq1=none:=by
    cases hx:kA (fun b:Br=>b.b.number) L nq1 with
    |none=>rfl
    |some j=>
     unfold oL at hn2;rw[hx]at hn2;cases hn2
   refine lS (fun b:Br=>b.b.number) (fun _=>rfl) hat (fun es n hes hn=>?_);cbv;obtain⟨L',hL'⟩:∃L',L'=L++[(⟨⟨nq1,cq1,sq1,frm1,to1,bq1,pq1,iq1,lq1⟩,0,⟨0,holder,[]⟩,⟨0,holder,[]⟩,⟨0,holder,[]⟩⟩:Br)]:=⟨_,rfl⟩
   obtain rfl:R'=⟨carrier,L'⟩:=by rw[hR',hL'];rfl
   refine cZ (Gh.adoptC 6 12 180 4 rfl rfl) ?_;cbv;refine cZ (Gh.adoptC 6 15 180 4 rfl rfl) ?_;cbv;refine cZ (Gh.adoptC 6 18 180 4 rfl rfl) ?_;cbv;refine cZ (Gh.publish 7 rfl) ?_;cbv;refine cZ (Gh.publish 8 rfl) ?_;cbv;refine cZ (Gh.publish 9 rfl) ?_;cbv;refine cZ (Gh.backN2 1 [6,7,8,9] aaI ⟨⟨nq1,cq1,sq1,frm1,to1,bq1,pq1,iq1,lq1⟩,0,⟨0,holder,[]⟩,⟨0,holder,[]⟩,⟨0,holder,[]⟩⟩ hes hn hL') ?_;cbv
   (refine .q9 ?_;cbv;exact .inl (.f9 hK))
 ·rw[aE h]at hR';subst hR'
  (refine .q9 ?_;cbv;exact .inl (.f9 hK))
set_option maxHeartbeats 4000000
def oA {ι κ:Type}(a:ι→List AV) (h:ι→List cG) (p:ι→Prop) (q:ι→κ→Prop) (r:ι→κ→AV) (h':ι→κ→List cG):dA:=fun args H K=>∃i,args=a i∧H=h i∧p i∧∀k,q i k→K (r i k) (h' i k)
theorem eB {P:bI}{f:Nat}{ι κ:Type}{a:ι→List AV}{h:ι→List cG}{p:ι→Prop}{q:ι→κ→Prop}{r:ι→κ→AV}{h':ι→κ→List cG}(hf:bK P f (oA a h p q r h')) (i:ι) (sel:List Nat) {keep:List Nat}{args:List AV}{st:St}{K:AV→St→Prop}
  (hp:p i) (ha:args=AV.renL sel st.H.length (a i)) (hlen:sel.length=(h i).length) (hnd:sel.Nodup) (hlt:(sel.all fun k=>Nat.blt k st.H.length)=true) (hH:sel.map (fun k=>st.H[k]?)=(gA sel st.H.length (h i)).map some)
  (hb:AV.bndL (h i).length (a i)=true) (hbH:fD (h i).length (h i)=true) (hkeep:(keep.all fun k=>!sel.contains k && Nat.blt k st.H.length)=true)
  (hK:∀k,q i k→K ((r i k).ren sel st.H.length) ⟨iO st.T (fV sel (h i)),rZ (gO st.H (fV sel (h i))) sel (gA sel st.H.length (h' i k))⟩):fY P keep f args st K:=
 uU hf sel ha hlen hnd (fun k hk=>by simpa [Nat.blt_eq]using aT.1 hlt k hk) hH hb hbH (fun k hk=>by
  have:=aT.1 hkeep k hk;simp only[aO,Bool.not_eq_true',Nat.blt_eq]at this;exact⟨fun h=>by rw[List.contains_eq_mem]at this;simp[h]at this,this.2⟩) ⟨i,rfl,rfl,hp,hK⟩
def fW (L:List Br):Prop:=(L.map fun b=>b.b.number).Nodup
def tZ (L:List Br) (seen:List Nat):List Br:=seen.filterMap fun i=>L[i]?
theorem Gz {L:List Br}{seen:List Nat}{i:Nat}{y:Br}(hy:L[i]?=some y):tZ L (seen++[i])=tZ L seen++[y]:=by
 unfold tZ;rw[List.filterMap_append,List.filterMap_cons,hy];rfl
theorem LB {L:List Br}{seen:List Nat}(h:kQ L seen) (hall:∀i,i < L.length→i∈seen):(tZ L seen).Perm L:=by
 have hp:seen.Perm (List.range L.length):=(List.perm_ext_iff_of_nodup h.nd List.nodup_range).2 fun i=>⟨fun hi=>List.mem_range.2 (h.lt i hi),fun hi=>hall i (List.mem_range.1 hi)⟩
 have e:=tF (some:Br→Option Br) L;have e2:(fun i:Nat=>L[i]?.bind (some:Br→Option Br))=fun i=>L[i]?:=by funext i;cases L[i]?<;>rfl
 rw[e2,List.filterMap_some]at e;have h2:=hp.filterMap fun i=>L[i]?
 rw[e]at h2;exact h2
theorem kC {α:Type}{l:List α}(h:l.Nodup) {i j:Nat}{hi:i < l.length}{hj:j < l.length}(e:l[i]=l[j]):i=j:=by
 rcases Nat.lt_trichotomy i j with h1|h1|h1
 ·exact absurd e (List.pairwise_iff_getElem.1 h i j hi hj h1)
 ·exact h1
 ·exact absurd e.symm (List.pairwise_iff_getElem.1 h j i hj hi h1)
theorem LC {L:List Br}{seen:List Nat}{i:Nat}{y:Br}(hn:fW L) (hy:L[i]?=some y) (hni:i∉seen):kA (fun b:Br=>b.b.number) (tZ L seen) y.b.number=none:=by
 cases hx:kA (fun b:Br=>b.b.number) (tZ L seen) y.b.number with
 |none=>rfl
 |some j=>
  obtain⟨z,hz,hk⟩:=eA hx;have hm:=aC hz;unfold tZ at hm;obtain⟨n,hns,hnz⟩:=List.mem_filterMap.1 hm;exfalso;unfold fW at hn;obtain⟨hi,rfl⟩:=aA.1 hy;obtain⟨hj,rfl⟩:=aA.1 hnz;have e:=kC (l:=L.map fun b=>b.b.number) (i:=n) (j:=i) (hi:=by rw[aJ];exact hj) (hj:=by rw[aJ];exact hi) hn (by rw[List.getElem_map,List.getElem_map];exact hk);subst e;exact hni hns
def WA (R:Rg) (L':List Br):List cG:=iQ R++[.blk 122 [.str R.carrier,.ph 3],.pool 120 (bJ aaI L') []]
def MP:dA:=oA (fun _:Rg=>[.ptr 0 0]) iQ (fun R=>R.bills.length≤256∧(∀b∈R.bills,inB b)∧fW R.bills) (fun R L'=>L'.Perm R.bills) (fun _ _=>.ptr 2 0) WA
theorem J7 (P:bI) (hnew:bK P 50 Q0) (hcp:bK P 54 CV) (hcl:bK P 77 (wQ 180 4 48)):bM P x47 MP:=by
 intro args H K hc;obtain⟨⟨carrier,L⟩,rfl,rfl,hp,hK⟩:=hc;refine⟨cL,?_⟩;dsimp only at hp hK⊢;obtain⟨hfew,hall,hnd⟩:=hp;cbv
 (refine yV hnew carrier trivial ?_;try dsimp only)
 cbv;repeat'((first|refine .k fun z hz=>?_|fail)<;>cbv)
 obtain⟨n,hn⟩:∃n:Nat,n=L.length:=⟨_,rfl⟩
 obtain rfl:z=nI n:=bQ;refine bS [] (fun q:{ q:List Nat×Nat // kQ L q.1∧q.2=q.1.length }=>[]) (fun q=>[.blk 122 [.str carrier,.ph 1],.pool 120 (bJ aaI L) [],.blk 122 [.str carrier,.ph 3],.pool 120 (bJ aaI (tZ L q.1.1)) [],.iter (.ph 1) n q.1.1]) (fun q=>eW 257 q.1.2) ⟨([],0),.nil,rfl⟩ ?_;rintro ⟨⟨seen,k⟩,hse,hk⟩;dsimp only at hse hk⊢;have hsl:=hse.len;obtain⟨L1,hL1⟩:∃l,l=tZ L seen:=⟨_,rfl⟩
 rw[←hL1];cbv;refine zG hn (fun i y hy hni=>?_) (fun hall=>?_)<;>try dsimp only at *
 ·have hin:=hall y (aC hy);have hse2:=hse.snoc hy hni;have hnew1:=LC hnd hy hni;have hsn:=Gz (seen:=seen) hy;obtain⟨s2,hs2⟩:∃s,s=seen++[i]:=⟨_,rfl⟩
  rw[←hs2]at hse2 hsn⊢;rw[←hL1]at hnew1 hsn;have hlt:k < 257:=by omega
  have hsk:s2.length=k+1:=by rw[hs2,hk];simp
  unfold inB xS mJ at hin;obtain⟨⟨nq1,cq1,sq1,frm1,to1,bq1,pq1,iq1,lq1⟩,st1,⟨sa1,ha1,ca1⟩,⟨sb1,hb1,cb1⟩,⟨sc1,hc1,cc1⟩⟩:=y;dsimp only at hin hnew1 hsn;obtain⟨⟨hl0,hl1,hl2⟩,hob⟩:=hin;cbv;refine uP hs2 hn hy ?_;cbv
  (refine bX hcp ⟨nq1,cq1,sq1,frm1,to1,bq1,pq1,iq1,lq1⟩ hob ?_;try dsimp only)
  cbv;refine gH (Gh.viewE 9 rfl) ?_;cbv;refine bS [] (fun p:{ k:Nat // k≤3 }=>[(38,.i (nI p.1))]) (fun p=>[.blk 122 [.str carrier,.ph 1],.pool 120 (bJ aaI L) [(i,.ptr 5 0)],.blk 122 [.str carrier,.ph 3],.pool 120 (bJ aaI L1) [],.iter (.ph 1) n s2]++gA [] 5 (qE ⟨⟨nq1,cq1,sq1,frm1,to1,bq1,pq1,iq1,lq1⟩,st1,⟨sa1,ha1,ca1⟩,⟨sb1,hb1,cb1⟩,⟨sc1,hc1,cc1⟩⟩)++(fR p.1 [.blk 127 [.str nq1,.str cq1,.str sq1,.str frm1,.str to1,.sl 1 (bJ .str bq1),.sl 1 (bJ .str pq1),.i iq1,.bl lq1,.i st1,.i sa1,.str ha1,.sl 4 (bJ bV ca1),.i sb1,.str hb1,.sl 4 (bJ bV cb1),.i sc1,.str hc1,.sl 4 (bJ bV cc1)]] [.blk 127 [.str nq1,.str cq1,.str sq1,.str frm1,.str to1,.sl 1 (bJ .str bq1),.sl 1 (bJ .str pq1),.i iq1,.bl lq1,.i st1,.i sa1,.str ha1,.hd 10,.i sb1,.str hb1,.sl 4 (bJ bV cb1),.i sc1,.str hc1,.sl 4 (bJ bV cc1)],.row 180 4 (bJ bV ca1)] [.blk 127 [.str nq1,.str cq1,.str sq1,.str frm1,.str to1,.sl 1 (bJ .str bq1),.sl 1 (bJ .str pq1),.i iq1,.bl lq1,.i st1,.i sa1,.str ha1,.hd 10,.i sb1,.str hb1,.hd 11,.i sc1,.str hc1,.sl 4 (bJ bV cc1)],.row 180 4 (bJ bV ca1),.row 180 4 (bJ bV cb1)] [.blk 127 [.str nq1,.str cq1,.str sq1,.str frm1,.str to1,.sl 1 (bJ .str bq1),.sl 1 (bJ .str pq1),.i iq1,.bl lq1,.i st1,.i sa1,.str ha1,.hd 10,.i sb1,.str hb1,.hd 11,.i sc1,.str hc1,.hd 12],.row 180 4 (bJ bV ca1),.row 180 4 (bJ bV cb1),.row 180 4 (bJ bV cc1)])) (fun p=>eW 3 p.1) ⟨0,by decide⟩ ?_;rintro ⟨j,hj⟩;dsimp only at hj⊢;have hk4:j=0∨j=1∨j=2∨j=3:=by omega
  rcases hk4 with rfl|rfl|rfl|rfl
  ·cbv;repeat'((first|refine .n fun h=>?_|refine .y fun h=>?_|refine .o ?_|fail)<;>cbv)
   (refine yV hcl _ ⟨by rw[bY];unfold maxLen;omega,by rw[bY];omega⟩ ?_;try dsimp only)
   cbv;repeat'((first|refine .n fun h=>?_|refine .k fun z hz=>?_|refine .o ?_|fail)<;>cbv)
   obtain rfl:z=nI 1:=bQ;exact bN ⟨1,by decide⟩ (bO (by decide))
  ·cbv;repeat'((first|refine .n fun h=>?_|refine .y fun h=>?_|refine .o ?_|fail)<;>cbv)
   (refine yV hcl _ ⟨by rw[bY];unfold maxLen;omega,by rw[bY];omega⟩ ?_;try dsimp only)
   cbv;repeat'((first|refine .n fun h=>?_|refine .y fun h=>?_|refine .k fun z hz=>?_|refine .o ?_|fail)<;>cbv)
   obtain rfl:z=nI 2:=bQ;exact bN ⟨2,by decide⟩ (bO (by decide))
  ·cbv;repeat'((first|refine .y fun h=>?_|refine .o ?_|fail)<;>cbv)
   (refine yV hcl _ ⟨by rw[bY];unfold maxLen;omega,by rw[bY];omega⟩ ?_;try dsimp only)
   cbv;repeat'((first|refine .y fun h=>?_|refine .k fun z hz=>?_|refine .o ?_|fail)<;>cbv)
   obtain rfl:z=nI 3:=bQ;exact bN ⟨3,by decide⟩ (bO (by decide))
  ·cbv;repeat'((first|refine .n fun h=>?_|fail)<;>cbv)
   refine lS (fun b:Br=>b.b.number) (fun _=>rfl) hnew1 (fun es n2 hes hn2=>?_);cbv;refine dK (Gh.publish 10 rfl) ?_;cbv;refine dK (Gh.publish 11 rfl) ?_;cbv;refine dK (Gh.publish 12 rfl) ?_;cbv;refine dK (Gh.back0 1 [5,6,7,8] aaI rfl hy) ?_;cbv;refine dK (Gh.backN2 3 [9,10,11,12] aaI ⟨⟨nq1,cq1,sq1,frm1,to1,bq1,pq1,iq1,lq1⟩,st1,⟨sa1,ha1,ca1⟩,⟨sb1,hb1,cb1⟩,⟨sc1,hc1,cc1⟩⟩ hes hn2 hsn) ?_;cbv;exact bN ⟨(s2,k+1),hse2,hsk.symm⟩ (bO hlt)
 ·have hperm:L1.Perm L:=by rw[hL1];exact LB hse ‹∀i,i < L.length→i∈seen›
  cbv
  (refine .q9 ?_;cbv;exact .inl (.f9 (hK L1 hperm)))
set_option maxHeartbeats 2000000
def yD:Br→List AV
 |⟨⟨number,carrier,shipper,frm,to,boxes,parents,issued,clean⟩,st,⟨sa,ha,ca⟩,⟨sb,hb,cb⟩,⟨sc,hc,cc⟩⟩=>
  [.str number,.str carrier,.str shipper,.str frm,.str to,.sl 1 (bJ .str boxes),.sl 1 (bJ .str parents),.i issued,.bl clean,.i st,.sl 3 [.agg [.i sa,.str ha,.sl 4 (bJ bV ca)],.agg [.i sb,.str hb,.sl 4 (bJ bV cb)],.agg [.i sc,.str hc,.sl 4 (bJ bV cc)]]]
def iP (b:Br):AV:=.agg (yD b)
def I7:Rg→AV
 |⟨c,l⟩=>.agg [.str c,.sl 11 (bJ iP l)]
structure At where
 kind:Int
 index:Int
 day:Int
 bill:bH
 by_:bH
 to:bH
 b:Bl
def yP:At→List AV
 |⟨kind,index,day,bill,by_,to,⟨number,carrier,shipper,frm,to2,boxes,parents,issued,clean⟩⟩=>[.i kind,.i index,.i day,.str bill,.str by_,.str to,.str number,.str carrier,.str shipper,.str frm,.str to2,.sl 1 (bJ .str boxes),.sl 1 (bJ .str parents),.i issued,.bl clean]
def PK (a:At):AV:=.agg (yP a)
def pA {α:Type}(p:α→Bool) (l:List α):Int:=match l.findIdx? p with
 |some i=>Int.ofNat i
 |none=>-1
def iM {α:Type}(p:α→Bool) (l:List α) (k:Nat):Prop:=∀j y,j < k→l[j]?=some y→p y=false
theorem iM.zero {α:Type}{p:α→Bool}{l:List α}:iM p l 0:=fun j y h=>absurd h (Nat.not_lt_zero j)
theorem iM.succ {α:Type}{p:α→Bool}{l:List α}{k:Nat}{x:α}(h:iM p l k) (hx:l[k]?=some x) (hp:p x=false):iM p l (k+1):=fun j y hj hy=>by
 rcases aL j k with h1|h1
 ·exact h j y h1 hy
 ·obtain rfl:j=k:=by omega
  rw[hx]at hy;cases hy;exact hp
theorem Jr {α:Type}{p:α→Bool}{l:List α}{k:Nat}{x:α}(h:iM p l k) (hx:l[k]?=some x) (hp:p x=true):pA p l=Int.ofNat k:=by
 obtain⟨hk,rfl⟩:=aA.1 hx;have e:l.findIdx? p=some k:=List.findIdx?_eq_some_iff_getElem.2 ⟨hk,hp,fun j hj=>by rw[h j _ hj (aB (by omega))];decide⟩;unfold pA;rw[e]
theorem Cx {α:Type}{p:α→Bool}{l:List α}(h:iM p l l.length):pA p l=-1:=by
 have e:l.findIdx? p=none:=List.findIdx?_eq_none_iff.2 fun x hx=>by
  obtain⟨j,hj,rfl⟩:=List.mem_iff_getElem.1 hx;exact h j _ hj (aB hj)
 unfold pA;rw[e]
theorem iR {α:Type}{p:α→Bool}{l:List α}(h:iM p l l.length):l.any p=false:=by
 rw[List.any_eq_false];intro x hx;obtain⟨j,hj,rfl⟩:=List.mem_iff_getElem.1 hx;rw[h j _ hj (aB hj)];decide
theorem gF {α:Type}{p:α→Bool}{l:List α}{k:Nat}{x:α}(hx:l[k]?=some x) (hp:p x=true):l.any p=true:=List.any_eq_true.2 ⟨x,aC hx,hp⟩
theorem Ke (P:bI):bM P Yp DZ:=by
 intro args H K hc;obtain⟨z,rfl,rfl,hp,hK⟩:=hc;refine⟨cL,?_⟩;dsimp only at hp hK⊢;cbv;repeat'((first|refine .mk (fun h=>?_) fun h=>?_|fail)<;>cbv)
 all_goals exact bZ.mk ⟨_,Gh.refl _,.inl (.v9 (cE hK (by(unfold gK;simp;omega))))⟩
def W7:dA:=spec (fun i:List bH×bH=>[.sl 1 (bJ .str i.1),.str i.2]) (fun _=>[]) (fun i=>i.1.length≤5000) (fun i=>.bl (i.1.any fun x=>decide (i.2=x))) fun _=>[]
theorem P6 (P:bI):bM P Xk W7:=by
 intro args H K hc;obtain⟨⟨l,s⟩,rfl,rfl,hp,hK⟩:=hc;refine⟨cL,?_⟩;dsimp only at hp hK⊢;obtain⟨p,hpp⟩:∃p:bH→Bool,p=fun x=>decide (s=x):=⟨_,rfl⟩
 rw[←hpp]at hK;have hpx:∀x,p x=decide (s=x):=fun x=>by rw[hpp]
 clear hpp;cbv;refine bS [] (fun q:{ k:Nat // k≤l.length∧iM p l k }=>[(5,.i (nI q.1))]) (fun _=>[]) (fun q=>eW 5001 q.1) ⟨0,aI _,.zero⟩ ?_;rintro ⟨k,hk,hn⟩;dsimp only at hk hn⊢;cbv;repeat'((first|refine .mk (fun h=>?_) fun h=>?_|refine .k fun z hz=>?_|fail)<;>cbv)
 ·refine cM bQ bQ fun i x hi hx=>?_
  obtain rfl:k=i:=bQ;cbv;repeat'((first|refine .mk (fun h=>?_) fun h=>?_|refine .k fun z hz=>?_|fail)<;>cbv)
  ·exact bZ.mk ⟨_,Gh.refl _,.inl (.v9 (cE hK (by(rw[gF hx ((hpx x).trans (aH h.symm))]))))⟩
  ·obtain rfl:z=nI (k+1):=bQ;exact bN ⟨k+1,by exact bQ,hn.succ hx ((hpx x).trans (aG fun e=>h e.symm))⟩ (bO bQ)
 ·obtain rfl:k=l.length:=bQ;exact bZ.mk ⟨_,Gh.refl _,.inl (.v9 (cE hK (by(rw[iR hn]))))⟩
def Hi:dA:=spec (fun l:List bH=>[.sl 1 (bJ .str l)]) (fun _=>[]) (fun l=>l.length≤5000∧∀s∈l,s.size≤maxLen) (fun l=>.bl (!(l.any fun s=>!bT s))) fun _=>[]
theorem Ih (P:bI) (hnm:bK P 133 (iL (fun s=>s.size≤maxLen) bT)):bM P Y5 Hi:=by
 intro args H K hc;obtain⟨l,rfl,rfl,hp,hK⟩:=hc;refine⟨cL,?_⟩;dsimp only at hp hK⊢;obtain⟨hp,hsz⟩:=hp;obtain⟨p,hpp⟩:∃p:bH→Bool,p=fun s=>!bT s:=⟨_,rfl⟩
 rw[←hpp]at hK;have hpx:∀x,p x=!bT x:=fun x=>by rw[hpp]
 clear hpp;cbv;refine bS [] (fun q:{ k:Nat // k≤l.length∧iM p l k }=>[(3,.i (nI q.1))]) (fun _=>[]) (fun q=>eW 5001 q.1) ⟨0,aI _,.zero⟩ ?_;rintro ⟨k,hk,hn⟩;dsimp only at hk hn⊢;cbv;repeat'((first|refine .mk (fun h=>?_) fun h=>?_|refine .k fun z hz=>?_|fail)<;>cbv)
 ·refine cM bQ bQ fun i x hi hx=>?_
  obtain rfl:k=i:=bQ;have hx2:=hpx x;obtain⟨n,hn1⟩:∃n,n=bT x:=⟨_,rfl⟩
  rw[←hn1]at hx2;cbv
  (refine bX hnm x (hsz x (aC hx)) ?_;try dsimp only)
  rw[←hn1];cases n with
  |false=>
   cbv;exact bZ.mk ⟨_,Gh.refl _,.inl (.v9 (cE hK (by(rw[gF hx hx2];rfl))))⟩
  |true=>
   cbv;repeat'((first|refine .k fun z hz=>?_|fail)<;>cbv)
   obtain rfl:z=nI (k+1):=bQ;exact bN ⟨k+1,by exact bQ,hn.succ hx hx2⟩ (bO bQ)
 ·obtain rfl:k=l.length:=bQ;exact bZ.mk ⟨_,Gh.refl _,.inl (.v9 (cE hK (by(rw[iR hn];rfl))))⟩
def sJ:dA:=spec (fun i:Rg×bH=>[I7 i.1,.str i.2]) (fun _=>[]) (fun i=>i.1.bills.length≤5000) (fun i=>.i (pA (fun b:Br=>decide (b.b.number=i.2)) i.1.bills)) fun _=>[]
theorem KF (P:bI):bM P ZA sJ:=by
 intro args H K hc;obtain⟨⟨⟨carrier,L⟩,s⟩,rfl,rfl,hp,hK⟩:=hc;refine⟨cL,?_⟩;dsimp only at hp hK⊢;obtain⟨p,hpp⟩:∃p:Br→Bool,p=fun b=>decide (b.b.number=s):=⟨_,rfl⟩
 rw[←hpp]at hK;have hpx:∀x,p x=decide (x.b.number=s):=fun x=>by rw[hpp]
 clear hpp;cbv;refine bS [] (fun q:{ k:Nat // k≤L.length∧iM p L k }=>[(5,.i (nI q.1))]) (fun _=>[.blk 38 [.str carrier,.sl 11 (bJ iP L)]]) (fun q=>eW 5001 q.1) ⟨0,aI _,.zero⟩ ?_;rintro ⟨k,hk,hn⟩;dsimp only at hk hn⊢;cbv;repeat'((first|refine .mk (fun h=>?_) fun h=>?_|refine .k fun z hz=>?_|fail)<;>cbv)
 ·refine cM bQ bQ fun i x hi hx=>?_
  obtain rfl:k=i:=bQ;have hx2:=hpx x;obtain⟨⟨nq1,cq1,sq1,frm1,to1,bq1,pq1,iq1,lq1⟩,st1,⟨sa1,ha1,ca1⟩,⟨sb1,hb1,cb1⟩,⟨sc1,hc1,cc1⟩⟩:=x;dsimp only at hx2;cbv;repeat'((first|refine .mk (fun h=>?_) fun h=>?_|refine .k fun z hz=>?_|fail)<;>cbv)
  ·rw[aH h]at hx2;exact bZ.mk ⟨_,Gh.refl _,.inl (.v9 (fO hK (by(rw[Jr hn hx hx2]))))⟩
  ·rw[aG h]at hx2;obtain rfl:z=nI (k+1):=bQ;exact bN ⟨k+1,by exact bQ,hn.succ hx hx2⟩ (bO bQ)
 ·obtain rfl:k=L.length:=bQ;exact bZ.mk ⟨_,Gh.refl _,.inl (.v9 (fO hK (by(rw[Cx hn]))))⟩
def Nl:dA:=spec (fun i:Rg×bH=>[I7 i.1,.str i.2]) (fun _=>[]) (fun i=>i.1.bills.length≤5000∧∀b∈i.1.bills,xS b.b) (fun i=>.i (pA (lG i.2) i.1.bills)) fun _=>[]
theorem LJ (P:bI) (hin:bK P 177 W7):bM P X0 Nl:=by
 intro args H K hc;obtain⟨⟨⟨carrier,L⟩,s⟩,rfl,rfl,hp,hK⟩:=hc;refine⟨cL,?_⟩;dsimp only at hp hK⊢;obtain⟨hp,hob⟩:=hp;obtain⟨p,hpp⟩:∃p:Br→Bool,p=lG s:=⟨_,rfl⟩
 rw[←hpp]at hK;have hpx:∀x,p x=(decide (x.st=0) && x.b.boxes.any fun y=>decide (s=y)):=fun x=>by rw[hpp];rfl
 clear hpp;cbv;refine bS [] (fun q:{ k:Nat // k≤L.length∧iM p L k }=>[(5,.i (nI q.1))]) (fun _=>[.blk 38 [.str carrier,.sl 11 (bJ iP L)]]) (fun q=>eW 5001 q.1) ⟨0,aI _,.zero⟩ ?_;rintro ⟨k,hk,hn⟩;dsimp only at hk hn⊢;cbv;repeat'((first|refine .mk (fun h=>?_) fun h=>?_|refine .k fun z hz=>?_|fail)<;>cbv)
 ·refine cM bQ bQ fun i x hi hx=>?_
  obtain rfl:k=i:=bQ;have hx2:=hpx x;have ho:=hob x (aC hx);obtain⟨m,hm⟩:∃m,m=x.b.boxes.any fun y=>decide (s=y):=⟨_,rfl⟩
  rw[←hm]at hx2;unfold xS at ho;obtain⟨⟨nq1,cq1,sq1,frm1,to1,bq1,pq1,iq1,lq1⟩,st1,⟨sa1,ha1,ca1⟩,⟨sb1,hb1,cb1⟩,⟨sc1,hc1,cc1⟩⟩:=x;dsimp only at hx2 ho hm;cbv;repeat'((first|refine .e ?_|refine .mk (fun h=>?_) fun h=>?_|refine .k fun z hz=>?_|fail)<;>cbv)
  ·rw[aH h]at hx2
   (refine bX hin (bq1,s) (by dsimp only;omega) ?_;try dsimp only)
   rw[←hm];cases m with
   |true=>
    cbv;exact bZ.mk ⟨_,Gh.refl _,.inl (.v9 (fO hK (by(rw[Jr hn hx hx2]))))⟩
   |false=>
    cbv;repeat'((first|refine .k fun z hz=>?_|fail)<;>cbv)
    obtain rfl:z=nI (k+1):=bQ;exact bN ⟨k+1,by exact bQ,hn.succ hx hx2⟩ (bO bQ)
  ·rw[aG h]at hx2;obtain rfl:z=nI (k+1):=bQ;exact bN ⟨k+1,by exact bQ,hn.succ hx hx2⟩ (bO bQ)
 ·obtain rfl:k=L.length:=bQ;exact bZ.mk ⟨_,Gh.refl _,.inl (.v9 (fO hK (by(rw[Cx hn]))))⟩
deriving instance DecidableEq for mI
deriving instance DecidableEq for Bl
theorem uW {α:Type}{a b:List α}{k:Nat}{x:α}(h:a.take k=b.take k) (ha:a[k]?=some x) (hb:b[k]?=some x):a.take (k+1)=b.take (k+1):=by rw[dC ha,dC hb,h]
theorem xY {α:Type}{a b:List α}{k:Nat}(h:a.take k=b.take k) (ha:a.length≤k) (hb:b.length≤k):a=b:=by rwa [bC ha,bC hb]at h
theorem Pm {α:Type}{a b:List α}{k:Nat}{x y:α}(ha:a[k]?=some x) (hb:b[k]?=some y) (hn:¬x=y):¬a=b:=fun e=>by
 subst e;rw[ha]at hb;cases hb;exact hn rfl
def Mz:dA:=spec (fun i:List bH×List bH=>[.sl 1 (bJ .str i.1),.sl 1 (bJ .str i.2)]) (fun _=>[]) (fun i=>i.1.length≤5000∧i.2.length≤5000) (fun i=>.bl (decide (i.1=i.2))) fun _=>[]
theorem Lg (P:bI):bM P BL Mz:=by
 intro args H K hc;obtain⟨⟨a,b⟩,rfl,rfl,hp,hK⟩:=hc;refine⟨cL,?_⟩;dsimp only at hp hK⊢;obtain⟨hpa,hpb⟩:=hp;obtain⟨q,hq⟩:∃q,q=decide (a=b):=⟨_,rfl⟩
 rw[←hq]at hK;cbv;repeat'((first|refine .mk (fun h=>?_) fun h=>?_|refine .k fun z hz=>?_|fail)<;>cbv)
 ·have hl:a.length=b.length:=bQ;refine bS [] (fun q:{ k:Nat // k≤a.length∧a.take k=b.take k }=>[(5,.i (nI q.1))]) (fun _=>[]) (fun q=>eW 5001 q.1) ⟨0,aI _,rfl⟩ ?_;rintro ⟨k,hk,hn⟩;dsimp only at hk hn⊢;cbv;repeat'((first|refine .mk (fun h=>?_) fun h=>?_|refine .k fun z hz=>?_|fail)<;>cbv)
  ·refine cM bQ bQ fun i x hi hx=>?_
   obtain rfl:k=i:=bQ;cbv;refine cM bQ bQ fun j y hj hy=>?_
   obtain rfl:k=j:=bQ;cbv;repeat'((first|refine .mk (fun h=>?_) fun h=>?_|refine .k fun z hz=>?_|fail)<;>cbv)
   ·subst h;obtain rfl:z=nI (k+1):=bQ;exact bN ⟨k+1,by exact bQ,uW hn hx hy⟩ (bO bQ)
   ·exact bZ.mk ⟨_,Gh.refl _,.inl (.v9 (cE hK (by(rw[hq,aG (Pm hx hy h)]))))⟩
  ·exact bZ.mk ⟨_,Gh.refl _,.inl (.v9 (cE hK (by(rw[hq,aH (xY hn bQ bQ)]))))⟩
 ·exact bZ.mk ⟨_,Gh.refl _,.inl (.v9 (cE hK (by(rw[hq,aG (fun e=>by subst e;((try simp only[vn]at *)<;>omega))]))))⟩
def CA:dA:=spec (fun i:List mI×List mI=>[.sl 4 (bJ bV i.1),.sl 4 (bJ bV i.2)]) (fun _=>[]) (fun i=>i.1.length≤5000∧i.2.length≤5000) (fun i=>.bl (decide (i.1=i.2))) fun _=>[]
theorem Ek (P:bI):bM P ZF CA:=by
 intro args H K hc;obtain⟨⟨a,b⟩,rfl,rfl,hp,hK⟩:=hc;refine⟨cL,?_⟩;dsimp only at hp hK⊢;obtain⟨hpa,hpb⟩:=hp;obtain⟨q,hq⟩:∃q,q=decide (a=b):=⟨_,rfl⟩
 rw[←hq]at hK;cbv;repeat'((first|refine .mk (fun h=>?_) fun h=>?_|refine .k fun z hz=>?_|fail)<;>cbv)
 ·have hl:a.length=b.length:=bQ;refine bS [] (fun q:{ k:Nat // k≤a.length∧a.take k=b.take k }=>[(5,.i (nI q.1))]) (fun _=>[]) (fun q=>eW 5001 q.1) ⟨0,aI _,rfl⟩ ?_;rintro ⟨k,hk,hn⟩;dsimp only at hk hn⊢;cbv;repeat'((first|refine .mk (fun h=>?_) fun h=>?_|refine .k fun z hz=>?_|fail)<;>cbv)
  ·refine cM bQ bQ fun i x hi hx=>?_
   obtain rfl:k=i:=bQ;obtain⟨f1,t1,k1,d1⟩:=x;cbv;refine cM bQ bQ fun j y hj hy=>?_
   obtain rfl:k=j:=bQ;obtain⟨f2,t2,k2,d2⟩:=y;cbv;repeat'((first|refine .mk (fun h=>?_) fun h=>?_|refine .k fun z hz=>?_|fail)<;>cbv)
   ·obtain⟨rfl,rfl,rfl,rfl,_⟩:=h;obtain rfl:z=nI (k+1):=bQ;exact bN ⟨k+1,by exact bQ,uW hn hx hy⟩ (bO bQ)
   ·exact bZ.mk ⟨_,Gh.refl _,.inl (.v9 (cE hK (by(rw[hq,aG (Pm hx hy fun e=>h (by injection e with e1 e2 e3 e4;exact⟨e1,e2,e3,e4,trivial⟩))]))))⟩
  ·exact bZ.mk ⟨_,Gh.refl _,.inl (.v9 (cE hK (by(rw[hq,aH (xY hn bQ bQ)]))))⟩
 ·exact bZ.mk ⟨_,Gh.refl _,.inl (.v9 (cE hK (by(rw[hq,aG (fun e=>by subst e;((try simp only[vn]at *)<;>omega))]))))⟩
def Ia:dA:=spec (fun b:Bl=>[Kd b]) (fun _=>[]) xS (fun b=>Kd b) fun _=>[]
theorem Ir (P:bI):bM P Ys Ia:=by
 intro args H K hc;obtain⟨b,rfl,rfl,hp,hK⟩:=hc;refine⟨cL,?_⟩;dsimp only at hp hK⊢;obtain⟨h1,h2⟩:=hp;obtain⟨nq1,cq1,sq1,frm1,to1,bq1,pq1,iq1,lq1⟩:=b;dsimp only at h1 h2;cbv;repeat'((first|refine .o ?_|fail)<;>cbv)
 refine cZ (Gh.plain 2 rfl) ?_;cbv;refine cZ (Gh.plain 3 rfl) ?_;cbv
 (refine .q9 ?_;cbv;exact .inl (.f9 hK))
def Ot (k:Int):Br→Og
 |⟨_,_,o0,o1,o2⟩=>if k=0 then o0 else if k=1 then o1 else o2
def CX:dA:=spec (fun i:Br×Int=>[iP i.1,.i i.2]) (fun _=>[]) (fun i=>(i.2=0∨i.2=1∨i.2=2)∧mJ i.1) (fun i=>.i (iN (Ot i.2 i.1) i.1.b.issued)) fun _=>[]
theorem IF (P:bI):bM P XK CX:=by
 intro args H K hc;obtain⟨⟨y,k⟩,rfl,rfl,hp,hK⟩:=hc;refine⟨cL,?_⟩;dsimp only at hp hK⊢;obtain⟨hk,hc⟩:=hp;obtain⟨⟨nq1,cq1,sq1,frm1,to1,bq1,pq1,iq1,lq1⟩,st1,⟨sa1,ha1,ca1⟩,⟨sb1,hb1,cb1⟩,⟨sc1,hc1,cc1⟩⟩:=y;unfold mJ at hc;dsimp only at hc hk;obtain⟨hl0,hl1,hl2⟩:=hc;rcases hk with rfl|rfl|rfl
 ·have hd:iN ⟨sa1,ha1,ca1⟩ iq1=match ca1.getLast? with
   |some e=>e.day
   |none=>iq1:=rfl
  obtain⟨q,hq⟩:∃q,q=iN ⟨sa1,ha1,ca1⟩ iq1:=⟨_,rfl⟩
  have hK:K (.i q) []:=by rw[hq];exact hK
  rw[←hq]at hd;cbv;repeat'((first|refine .mk (fun h=>?_) fun h=>?_|refine .k fun z hz=>?_|refine bW.i0 ?_|fail)<;>cbv)
  ·refine cM bQ bQ fun i l hi hl=>?_
   obtain⟨f,t,k,d⟩:=l;rw[oO bQ hl]at hd;cbv;exact bZ.mk ⟨_,Gh.refl _,.inl (.v9 (fO hK (by(rw[hd]))))⟩
  ·rw[lX bQ]at hd;exact bZ.mk ⟨_,Gh.refl _,.inl (.v9 (fO hK (by(rw[hd]))))⟩
 ·have hd:iN ⟨sb1,hb1,cb1⟩ iq1=match cb1.getLast? with
   |some e=>e.day
   |none=>iq1:=rfl
  obtain⟨q,hq⟩:∃q,q=iN ⟨sb1,hb1,cb1⟩ iq1:=⟨_,rfl⟩
  have hK:K (.i q) []:=by rw[hq];exact hK
  rw[←hq]at hd;cbv;repeat'((first|refine .mk (fun h=>?_) fun h=>?_|refine .k fun z hz=>?_|refine bW.i1 ?_|fail)<;>cbv)
  ·refine cM bQ bQ fun i l hi hl=>?_
   obtain⟨f,t,k,d⟩:=l;rw[oO bQ hl]at hd;cbv;exact bZ.mk ⟨_,Gh.refl _,.inl (.v9 (fO hK (by(rw[hd]))))⟩
  ·rw[lX bQ]at hd;exact bZ.mk ⟨_,Gh.refl _,.inl (.v9 (fO hK (by(rw[hd]))))⟩
 ·have hd:iN ⟨sc1,hc1,cc1⟩ iq1=match cc1.getLast? with
   |some e=>e.day
   |none=>iq1:=rfl
  obtain⟨q,hq⟩:∃q,q=iN ⟨sc1,hc1,cc1⟩ iq1:=⟨_,rfl⟩
  have hK:K (.i q) []:=by rw[hq];exact hK
  rw[←hq]at hd;cbv;repeat'((first|refine .mk (fun h=>?_) fun h=>?_|refine .k fun z hz=>?_|refine bW.i2 ?_|fail)<;>cbv)
  ·refine cM bQ bQ fun i l hi hl=>?_
   obtain⟨f,t,k,d⟩:=l;rw[oO bQ hl]at hd;cbv;exact bZ.mk ⟨_,Gh.refl _,.inl (.v9 (fO hK (by(rw[hd]))))⟩
  ·rw[lX bQ]at hd;exact bZ.mk ⟨_,Gh.refl _,.inl (.v9 (fO hK (by(rw[hd]))))⟩
def oP:dA:=spec (fun a:At=>[PK a]) (fun _=>[]) (fun _=>True) (fun a=>.sl 1 (if a.kind=5∨(a.kind=1∧a.index=-1) then [.i 0,.i 1,.i 2] else [.i a.index])) fun _=>[]
theorem HM (P:bI):bM P Xl oP:=by
 intro args H K hc;obtain⟨a,rfl,rfl,hp,hK⟩:=hc;refine⟨cL,?_⟩;dsimp only at hp hK⊢;obtain⟨kind,index,day,bill,by_,to,b⟩:=a;obtain⟨nq1,cq1,sq1,frm1,to1,bq1,pq1,iq1,lq1⟩:=b;dsimp only at hK;obtain⟨l,hl⟩:∃l:List AV,l=if kind=5∨(kind=1∧index=-1) then [.i 0,.i 1,.i 2] else [.i index]:=⟨_,rfl⟩
 rw[←hl]at hK;cbv;repeat'((first|refine .mk (fun h=>?_) fun h=>?_|fail)<;>cbv)
 ·obtain rfl:l=[.i 0,.i 1,.i 2]:=by rw[hl,aF (by omega)]
  (refine .r9 (Gh.plain 1 rfl) ?_;cbv;exact .inl (.g9 hK))
 ·obtain rfl:l=[.i 0,.i 1,.i 2]:=by rw[hl,aF (by omega)]
  (refine .r9 (Gh.plain 1 rfl) ?_;cbv;exact .inl (.g9 hK))
 ·obtain rfl:l=[.i index]:=by rw[hl,aE (by omega)]
  (refine .r9 (Gh.plain 1 rfl) ?_;cbv;exact .inl (.g9 hK))
 ·obtain rfl:l=[.i index]:=by rw[hl,aE (by omega)]
  (refine .r9 (Gh.plain 1 rfl) ?_;cbv;exact .inl (.g9 hK))
set_option maxHeartbeats 4000000
def hY (a b:bH):Bool:=decide (jM a < jM b)
theorem uS (a b:bH):Op.bytesLess a.toList b.toList=hY a b:=by rw[bytesLess_eq,Lib.toList_data,Lib.toList_data];rfl
def pY (l:List bH) (s:bH):List bH:=l.takeWhile (fun x=>hY x s)++s :: l.dropWhile (fun x=>hY x s)
theorem F7 {α:Type}{p:α→Bool}:∀{l:List α}{k:Nat},k≤l.length→iM (fun x=>!p x) l k→(∀x,l[k]?=some x→p x=false)→l.takeWhile p=l.take k∧l.dropWhile p=l.drop k
 |[],k,hk,_,_=>by
  obtain rfl:k=0:=by simpa using hk
  exact⟨rfl,rfl⟩
 |x :: l,0,_,_,h=>by
  have hx:=h x rfl;rw[List.takeWhile_cons,List.dropWhile_cons,hx];exact⟨rfl,rfl⟩
 |x :: l,k+1,hk,hn,h=>by
  have hx:p x=true:=by
   have h0:(!p x)=false:=hn 0 x (Nat.succ_pos k) rfl;simpa using h0
  obtain⟨h1,h2⟩:=F7 (p:=p) (l:=l) (k:=k) (by simpa using hk) (fun j y hj hy=>hn (j+1) y (by omega) (by simpa using hy)) (fun y hy=>h y (by simpa using hy));rw[List.takeWhile_cons,List.dropWhile_cons,hx,h1,h2];exact⟨rfl,rfl⟩
theorem IU {l:List bH}{s:bH}{k:Nat}(hk:k≤l.length) (hn:iM (fun x=>!hY x s) l k) (h:∀x,l[k]?=some x→hY x s=false):pY l s=l.take k++s :: l.drop k:=by
 obtain⟨h1,h2⟩:=F7 (p:=fun x=>hY x s) hk hn h;unfold pY;rw[h1,h2]
theorem OQ {l a b q:List bH}{s:bH}{k:Nat}{zs1 zs:List AV}(h4:zs=zs1++bJ .str b) (h2:b=List.drop ((some (Int.ofNat k)).getD 0).toNat (List.take ((none:Option Int).getD (l.length:Int)).toNat l)) (h3:zs1=bJ .str a++[.str s]) (h1:a=List.drop ((none:Option Int).getD 0).toNat (List.take ((some (Int.ofNat k)).getD (l.length:Int)).toNat l)) (hq:q=l.take k++s :: l.drop k):zs=bJ .str q:=by
 have e1:a=l.take k:=by rw[h1];simp
 have e2:b=l.drop k:=by rw[h2];simp
 rw[h4,h3,e1,e2,hq,cD];have e:bJ AV.str (s :: l.drop k)=.str s :: bJ .str (l.drop k):=rfl;rw[e,bG];rfl
def Uh:dA:=spec (fun i:List bH×bH=>[.sl 1 (bJ .str i.1),.str i.2]) (fun _=>[]) (fun i=>i.1.length≤5000) (fun i=>.sl 1 (bJ .str (pY i.1 i.2))) fun _=>[]
theorem Py (P:bI):bM P x71 Uh:=by
 intro args H K hc;obtain⟨⟨l,s⟩,rfl,rfl,hp,hK⟩:=hc;refine⟨cL,?_⟩;dsimp only at hp hK⊢;obtain⟨q,hq⟩:∃q,q=pY l s:=⟨_,rfl⟩
 rw[←hq]at hK;obtain⟨p,hpp⟩:∃p:bH→Bool,p=fun x=>!hY x s:=⟨_,rfl⟩
 have hpx:∀x,p x=!Op.bytesLess x.toList s.toList:=fun x=>by rw[hpp,uS]
 cbv;refine bS [] (fun q:{ k:Nat // k≤l.length∧iM p l k }=>[(5,.i (nI q.1))]) (fun _=>[]) (fun q=>eW 5001 q.1) ⟨0,aI _,.zero⟩ ?_;rintro ⟨k,hk,hn⟩;dsimp only at hk hn⊢;cbv;repeat'((first|refine .mk (fun h=>?_) fun h=>?_|refine .k fun z hz=>?_|refine .o ?_|refine .l fun ys hys hyl=>?_|refine .zl fun zs hzs hzl=>?_|refine And.intro ?_ ?_|fail)<;>cbv)
 ·refine cM bQ bQ fun i x hi hx=>?_
  obtain rfl:k=i:=bQ;have hx2:=hpx x;obtain⟨m,hm⟩:∃m,m=Op.bytesLess x.toList s.toList:=⟨_,rfl⟩
  rw[←hm]at hx2;cbv;repeat'((first|refine .mk (fun h=>?_) fun h=>?_|refine .k fun z hz=>?_|refine .o ?_|refine .l fun ys hys hyl=>?_|refine .zl fun zs hzs hzl=>?_|refine And.intro ?_ ?_|fail)<;>cbv)
  ·have hz9:z=nI (k+1):=bQ;subst hz9;have hx3:p x=false:=by rw[hx2,hm,h];rfl
   exact bN ⟨k+1,by exact bQ,hn.succ hx hx3⟩ (bO bQ)
  all_goals
   have hput:q=l.take k++s :: l.drop k:=by
    rw[hq];refine IU bQ (by rw[←hpp];exact hn) fun y hy=>?_
    rw[hx]at hy;cases hy;rw[←uS];assumption
   obtain rfl:zs=bJ .str q:=OQ hzs hys (by assumption) (by assumption) hput
   (refine .r9 (Gh.plain 0 rfl) ?_;cbv;exact .inl (.g9 hK))
 all_goals
  have hput:q=l.take k++s :: l.drop k:=by
   rw[hq];refine IU bQ (by rw[←hpp];exact hn) fun y hy=>?_
   have:=(aA.1 hy).1;exfalso
   ((try simp only[vn]at *)<;>omega)
  obtain rfl:zs=bJ .str q:=OQ hzs hys (by assumption) (by assumption) hput
  (refine .r9 (Gh.plain 0 rfl) ?_;cbv;exact .inl (.g9 hK))
theorem Nk (l:List bH) (s:bH):(pY l s).length=l.length+1:=by
 unfold pY;have h:=congrArg List.length (List.takeWhile_append_dropWhile (p:=fun x=>hY x s) (l:=l));rw[aM]at h;rw[aM,List.length_cons];omega
def qJ (l:List bH):List bH:=l.foldl pY []
theorem Hh (l:List bH):(qJ l).length=l.length:=by
 have h:∀(l a:List bH),(l.foldl pY a).length=a.length+l.length:=by
  intro l
  induction l with
  |nil=>intro a;rfl
  |cons x l ih=>intro a;rw[List.foldl_cons,ih,Nk,List.length_cons];omega
 have:=h l [];unfold qJ;rw[this];exact Nat.zero_add _
theorem Ev (l:List bH) (s:bH):qJ (l++[s])=pY (qJ l) s:=by unfold qJ;rw[List.foldl_append];rfl
def FO (L:List Br) (p:Br→Bool) (k:Nat):List bH:=qJ ((L.take k).filterMap (gN p))
theorem OR {L:List Br}{p:Br→Bool}{k:Nat}{y:Br}(hy:L[k]?=some y) (hp:p y=true):FO L p (k+1)=pY (FO L p k) y.b.number:=by
 unfold FO;rw[dC hy,List.filterMap_append,List.filterMap_cons];unfold gN;rw[hp];exact Ev _ _
theorem Mc {L:List Br}{p:Br→Bool}{k:Nat}:(FO L p k).length≤L.length:=by
 unfold FO;rw[Hh];refine Nat.le_trans (List.length_filterMap_le _ _) ?_;rw[aS];omega
def Vi (L:List Br) (p:Br→Bool):List bH:=qJ (L.filterMap (gN p))
theorem Nv {L:List Br}{p:Br→Bool}{k:Nat}(hk:k=L.length):FO L p k=Vi L p:=by unfold FO Vi;rw[hk,List.take_length]
def DX:dA:=spec (fun R:Rg=>[I7 R]) (fun _=>[]) (fun R=>R.bills.length≤256) (fun R=>.sl 1 (bJ .str (Vi R.bills fun _=>true))) fun _=>[]
theorem EZ (P:bI) (hput:bK P 71 Uh):bM P x36 DX:=by
 intro args H K hc;obtain⟨⟨carrier,L⟩,rfl,rfl,hp,hK⟩:=hc;refine⟨cL,?_⟩;dsimp only at hp hK⊢;obtain⟨p,hpp⟩:∃p:Br→Bool,p=fun _=>true:=⟨_,rfl⟩
 rw[←hpp]at hK;have hpx:∀x,p x=true:=fun x=>by rw[hpp]
 clear hpp;cbv;refine gH (Gh.plain 1 rfl) ?_;cbv;refine bS [] (fun q:{ q:Nat×List bH // q.1≤L.length∧q.2=FO L p q.1 }=>[(4,.i (nI q.1.1)),(3,.sl 1 (bJ .str q.1.2))]) (fun _=>[.blk 38 [.str carrier,.sl 11 (bJ iP L)]]) (fun q=>eW 5001 q.1.1) ⟨(0,[]),aI _,rfl⟩ ?_;rintro ⟨⟨k,l⟩,hk,hl⟩;dsimp only at hk hl⊢;have hll:l.length≤L.length:=by rw[hl];exact Mc
 cbv;repeat'((first|refine .mk (fun h=>?_) fun h=>?_|refine .k fun z hz=>?_|fail)<;>cbv)
 ·refine cM bQ bQ fun i x hi hx=>?_
  obtain rfl:k=i:=bQ;have hy:=OR hx (hpx x);rw[←hl]at hy;obtain⟨⟨nq1,cq1,sq1,frm1,to1,bq1,pq1,iq1,lq1⟩,st1,⟨sa1,ha1,ca1⟩,⟨sb1,hb1,cb1⟩,⟨sc1,hc1,cc1⟩⟩:=x;dsimp only at hy;obtain⟨m,hm⟩:∃m,m=pY l nq1:=⟨_,rfl⟩
  rw[←hm]at hy;cbv
  (refine bX hput (l,nq1) (by dsimp only;omega) ?_;try dsimp only)
  rw[←hm];cbv;repeat'((first|refine .k fun z hz=>?_|fail)<;>cbv)
  obtain rfl:z=nI (k+1):=bQ;exact bN ⟨(k+1,m),by exact bQ,hy.symm⟩ (bO bQ)
 ·have hl2:=hl.trans (Nv bQ);subst hl2
  (refine .q9 ?_;cbv;exact .inl (.f9 hK))
theorem lJ (L:List Br) (s:bH):pA (fun b:Br=>decide (b.b.number=s)) L=match oL L s with
 |some i=>Int.ofNat i
 |none=>-1:=rfl
structure YS (b:Bl):Prop where
 number:b.number.size≤maxLen
 shipper:b.shipper.size≤maxLen
 frm:b.frm.size≤maxLen
 to:b.to.size≤maxLen
 parents:∀s∈b.parents,s.size≤maxLen
theorem On (L:List bH) (s:bH):(L.any fun x=>decide (s=x))=D8 L s:=by
 unfold D8 kA;have h:(L.findIdx? fun a=>decide (id a=s)).isSome=L.any fun a=>decide (id a=s):=by rw[List.findIdx?_isSome]
 rw[h];congr 1;funext x;exact decide_eq_decide.2 ⟨fun h=>h.symm,fun h=>h.symm⟩
def Mx:dA:=spec (fun i:bH×Bl=>[.str i.1,Kd i.2]) (fun _=>[]) (fun i=>xS i.2∧YS i.2) (fun i=>.bl (yN i.1 i.2)) fun _=>[]
theorem J0 (P:bI) (hn:bK P 174 Hi) (hd:bK P 175 DZ) (hr:bK P 176 (iL (fun _=>True) lC)) (hin:bK P 177 W7):bM P YH Mx:=by
 intro args H K hc;obtain⟨⟨carrier,b⟩,rfl,rfl,hp,hK⟩:=hc;refine⟨cL,?_⟩;dsimp only at hp hK⊢;obtain⟨hp,hsz⟩:=hp;unfold xS at hp;obtain⟨hs1,hs2,hs3,hs4,hs5⟩:=hsz;obtain⟨nq1,cq1,sq1,frm1,to1,bq1,pq1,iq1,lq1⟩:=b;dsimp only at hp hs1 hs2 hs3 hs4 hs5;obtain⟨q,hq⟩:∃q,q=yN carrier ⟨nq1,cq1,sq1,frm1,to1,bq1,pq1,iq1,lq1⟩:=⟨_,rfl⟩
 rw[←hq]at hK;unfold yN at hq;dsimp only at hq;obtain⟨n1,hn1⟩:∃q,q=!([nq1,sq1,frm1,to1].any fun s=>!bT s):=⟨_,rfl⟩
 have hn1':((bT nq1 && bT sq1) && (bT frm1 && bT to1))=n1:=by
  rw[hn1];simp only[List.any_cons,List.any_nil];cases bT nq1<;>cases bT sq1<;>cases bT frm1<;>cases bT to1<;>rfl
 obtain⟨n5,hn5⟩:∃q,q=gK iq1:=⟨_,rfl⟩
 obtain⟨n6,hn6⟩:∃q,q=!(pq1.any fun s=>!bT s):=⟨_,rfl⟩
 obtain⟨n7,hn7⟩:∃q,q=nL (bq1.take 0) (bq1.drop 0):=⟨_,rfl⟩
 have hn7':nL [] bq1=n7:=hn7.symm;rw[hn1',←hn5,←hn6,hn7']at hq;clear hn7' hn1';cbv;refine fF 1 rfl ?_;cbv
 (refine nA hn [nq1,sq1,frm1,to1] ⟨Nat.le_add_left 4 4996,fun s hs=>by
   rcases List.mem_cons.1 hs with rfl|hs
   ·exact hs1
   rcases List.mem_cons.1 hs with rfl|hs
   ·exact hs2
   rcases List.mem_cons.1 hs with rfl|hs
   ·exact hs3
   rcases List.mem_cons.1 hs with rfl|hs
   ·exact hs4
   cases hs⟩ rfl rfl rfl ?_;try dsimp only)
 rw[←hn1];cases n1 with
 |false=>
  cbv;exact bZ.mk ⟨_,Gh.refl _,.inl (.v9 (cE hK (by(rw[hq];rfl))))⟩
 |true=>
 cbv;repeat'((first|refine .mk (fun h=>?_) fun h=>?_|refine .k fun z hz=>?_|fail)<;>cbv)
 rotate_right
 ·exact bZ.mk ⟨_,Gh.refl _,.inl (.v9 (cE hK (by(rw[hq,aG (by assumption:¬cq1=carrier)];rfl))))⟩
 ·rw[aH (by assumption:cq1=carrier),aG bQ]at hq;exact bZ.mk ⟨_,Gh.refl _,.inl (.v9 (cE hK (by(rw[hq];cases n5<;>rfl))))⟩
 ·rw[aH (by assumption:cq1=carrier),aG bQ]at hq;exact bZ.mk ⟨_,Gh.refl _,.inl (.v9 (cE hK (by(rw[hq];cases n5<;>rfl))))⟩
 ·rw[aH (by assumption:cq1=carrier),aG bQ]at hq;exact bZ.mk ⟨_,Gh.refl _,.inl (.v9 (cE hK (by(rw[hq];cases n5<;>rfl))))⟩
 ·rw[aH (by assumption:cq1=carrier),aH bQ]at hq
  (refine bX hn pq1 ⟨by exact bQ,hs5⟩ ?_;try dsimp only)
  rw[←hn6];cases n6 with
  |false=>
   cbv;exact bZ.mk ⟨_,Gh.refl _,.inl (.v9 (cE hK (by(rw[hq];cases n5<;>cases n7<;>rfl))))⟩
  |true=>
  cbv
  (refine bX hd iq1 trivial ?_;try dsimp only)
  rw[←hn5];cases n5 with
  |false=>
   cbv;exact bZ.mk ⟨_,Gh.refl _,.inl (.v9 (cE hK (by(rw[hq];rfl))))⟩
  |true=>
  cbv;refine bS [] (fun q:{ k:Nat // k≤bq1.length∧n7=nL (bq1.take k) (bq1.drop k) }=>[(5,.i (nI q.1))]) (fun q=>[.blk 79 [.str nq1,.str cq1,.str sq1,.str frm1,.str to1,.sl 1 (bJ .str bq1),.sl 1 (bJ .str pq1),.i iq1,.bl lq1],.tip 9 1 [.str nq1,.str sq1,.str frm1,.str to1]]) (fun q=>eW 5001 q.1) ⟨0,aI _,hn7⟩ ?_;rintro ⟨k,hk,hb7⟩;dsimp only at hk hb7⊢;cbv;repeat'((first|refine .mk (fun h=>?_) fun h=>?_|refine .k fun z hz=>?_|fail)<;>cbv)
  ·refine cM bQ bQ fun i x hi hx=>?_
   obtain rfl:k=i:=bQ;have hg:=FJ hx;obtain⟨m,hm⟩:∃m,m=lC x:=⟨_,rfl⟩
   obtain⟨m2,hm2⟩:∃m,m=D8 (bq1.take k) x:=⟨_,rfl⟩
   rw[←hm,←hm2]at hg;cbv
   (refine bX hr x trivial ?_;try dsimp only)
   rw[←hm];cases m with
   |false=>
    rw[hb7,hg]at hq;cbv;exact bZ.mk ⟨_,Gh.refl _,.inl (.v9 (cE hK (by(rw[hq];rfl))))⟩
   |true=>
    cbv;repeat'((first|refine .e ?_|refine .l fun ys hys hyl=>?_|fail)<;>cbv)
    obtain rfl:ys=bq1.take k:=by rw[hys];simp
    (refine bX hin (bq1.take k,x) (by dsimp only;rw[aS];omega) ?_;try dsimp only)
    rw[On,←hm2];cases m2 with
    |true=>
     rw[hb7,hg]at hq;cbv;exact bZ.mk ⟨_,Gh.refl _,.inl (.v9 (cE hK (by(rw[hq];rfl))))⟩
    |false=>
     cbv;repeat'((first|refine .k fun z hz=>?_|fail)<;>cbv)
     obtain rfl:z=nI (k+1):=bQ;exact bN ⟨k+1,by exact bQ,hb7.trans hg⟩ (bO bQ)
  ·obtain rfl:k=bq1.length:=bQ;rw[BM rfl]at hb7;subst hb7;exact bZ.mk ⟨_,Gh.refl _,.inl (.v9 (cE hK (by(rw[hq];rfl))))⟩
theorem JY {P:bI}{f:Nat}{keep:List Nat}{args:List AV}{st:St}{K:AV→St→Prop}(H2:List cG) (hl:jW st.H H2) (h:fY P keep f args ⟨st.T,H2⟩ K):fY P keep f args st K:=
 ⟨fun C a w r pub vals hh hv=>h.out C a w r pub vals ⟨hh.mod.le hl,hh.own,hh.fr,hh.slots,hh.defers,hh.size,hh.stab,hh.low.1,by rw[hl.len];exact hh.low.2⟩ hv⟩
theorem Di {P:bI}{f:Nat}{keep:List Nat}{args:List AV}{st:St}{K:AV→St→Prop}(k:Nat) {t sz:Nat}{xs:List AV}(hk:st.H[k]?=some (.tip t sz xs)) (h:fY P keep f args ⟨jI k (.sl sz xs) st.T,st.H.map (cG.kill k (.sl sz xs))⟩ K):fY P keep f args st K:=by
 refine⟨fun C a w r pub vals hh hv=>h.out C a w r pub vals ?_ hv⟩;have hy:∀z,r k=some z→bU pub w r (.sl sz xs) z:=fun z hz=>by
  obtain⟨A,d,c,x,us,hr,_⟩:=hh.ent_tip hk;rw[hr]at hz;cases hz;have h1:=hh.view1 (x:=.hd k) (.hd hr rfl);simp only[St.view1,hk]at h1;exact h1
 refine⟨⟨fun j e he=>?_,fun j hj=>hh.mod.none_ j (by simpa using hj),hh.mod.disj,hh.mod.fresh,hh.mod.there,hh.mod.glob⟩,hh.own,hh.fr,hh.slots.kill (fun _ _=>rfl) hy,hh.defers,hh.size,hh.stab,by simpa using hh.low⟩;rw[aD]at he;cases hj:st.H[j]? with
 |none=>rw[hj]at he;cases he
 |some e0=>
  rw[hj]at he;cases he;exact(hh.mod.ent j e0 hj).kill (Fr.refl (fun _=>False) _ _) (fun _ _ _ _ h=>h) (fun _ _=>rfl) hy
theorem ML {α:Type}(p:α→Bool) (l:List α):decide (0≤pA p l)=l.any p:=by
 unfold pA;cases e:l.findIdx? p with
 |none=>
  rw[List.findIdx?_eq_none_iff]at e;have:l.any p=false:=by
   rw[List.any_eq_false];intro x hx;rw[e x hx];decide
  rw[this];rfl
 |some i=>
  rw[List.findIdx?_eq_some_iff_getElem]at e;obtain⟨hi,h1,_⟩:=e;have:l.any p=true:=List.any_eq_true.2 ⟨_,List.getElem_mem hi,h1⟩;rw[this];exact aH (Int.natCast_nonneg i)
theorem EJ (L:List Br) (box:bH):(HI L box).2=L.any (lG box):=by
 have hl:(gM L (lG box)).length=(L.filterMap (gN (lG box))).length:=by unfold gM;rw[iG]
 have ha:∀L:List Br,((L.filterMap (gN (lG box))).length=0)↔L.any (lG box)=false:=by
  intro L
  induction L with
  |nil=>simp
  |cons x L ih=>
   rw[List.filterMap_cons,List.any_cons];unfold gN;cases hx:lG box x with
   |true=>simp
   |false=>
    unfold gN at ih;simpa using ih
 unfold HI;cases hn:gM L (lG box) with
 |nil=>
  rw[hn]at hl;exact((ha L).1 hl.symm).symm
 |cons n l=>
  rw[hn]at hl;cases hb:L.any (lG box) with
  |true=>rfl
  |false=>
   rw[(ha L).2 hb]at hl;cases hl
def XQ:Rg×Int→AV
 |(R,e)=>.tup [I7 R,.i e]
structure Nh (i:oR):Prop where
 few:i.R.bills.length≤256
 all:∀b∈i.R.bills,xS b.b
 ok:xS i.b
 sz:YS i.b
 hsz:i.holder.size≤maxLen
def tU:dA:=spec (fun i:oR=>[I7 i.R,Kd i.b,.str i.holder]) (fun _=>[]) Nh (fun i=>XQ (jY i,gP i)) fun _=>[]
theorem EO (P:bI) (hm:bK P 132 Mx) (hn:bK P 133 (iL (fun s=>s.size≤maxLen) bT)) (hf:bK P 63 sJ) (hb:bK P 134 Nl) (hcp:bK P 135 Ia):bM P x96 tU:=by
 intro args H K hc;obtain⟨i,rfl,rfl,⟨hfew,hall,hok,hsz,hhs⟩,hK⟩:=hc;dsimp only at hK;obtain⟨e,he⟩:∃e,e=gP i:=⟨_,rfl⟩
 obtain⟨R',hR'⟩:∃R',R'=jY i:=⟨_,rfl⟩
 rw[←he,←hR']at hK;unfold jY at hR';rw[←he]at hR';unfold gP i1 i2 i3 i4 Dz at he;simp only[EJ]at he;obtain⟨⟨carrier,L⟩,b,holder⟩:=i;dsimp only at hR' hok he hfew hall hsz hhs;obtain⟨n1,hn1⟩:∃q,q=yN carrier b:=⟨_,rfl⟩
 obtain⟨n2,hn2⟩:∃q,q=bT holder:=⟨_,rfl⟩
 obtain⟨f,hf1⟩:∃q,q=pA (fun y:Br=>decide (y.b.number=b.number)) L:=⟨_,rfl⟩
 have hf2:(oL L b.number).isSome=decide (0≤f):=by
  rw[hf1,lJ];cases oL L b.number with
  |none=>rfl
  |some j=>exact(aH (Int.natCast_nonneg j)).symm
 rw[←hn1,←hn2,hf2]at he;obtain⟨p3,hp3⟩:∃p:bH→Bool,p=fun box=>L.any (lG box):=⟨_,rfl⟩
 rw[←hp3]at he;have hpx:∀x,p3 x=decide (0≤pA (lG x) L):=fun x=>by rw[hp3,ML]
 have hob:=hok;unfold xS at hob;obtain⟨nq1,cq1,sq1,frm1,to1,bq1,pq1,iq1,lq1⟩:=b;dsimp only at hf1 hob;refine⟨cL,?_⟩;dsimp only at hK⊢;cbv
 (refine bX hm (carrier,⟨nq1,cq1,sq1,frm1,to1,bq1,pq1,iq1,lq1⟩) ⟨hok,hsz⟩ ?_;try dsimp only)
 rw[←hn1];cases n1 with
 |false=>
  obtain rfl:e=1:=he;obtain rfl:R'=⟨carrier,L⟩:=hR';cbv
  (refine .q9 ?_;cbv;exact .inl (.f9 hK))
 |true=>
 cbv
 (refine bX hn holder hhs ?_;try dsimp only)
 rw[←hn2];cases n2 with
 |false=>
  obtain rfl:e=1:=he;obtain rfl:R'=⟨carrier,L⟩:=hR';cbv
  (refine .q9 ?_;cbv;exact .inl (.f9 hK))
 |true=>
 cbv
 (refine bX hf ((⟨carrier,L⟩:Rg),nq1) (by dsimp only;omega) ?_;try dsimp only)
 rw[←hf1];cbv;repeat'((first|refine .mk (fun h=>?_) fun h=>?_|fail)<;>cbv)
 ·rw[aH (by assumption:0≤f)]at he;obtain rfl:e=5:=he;obtain rfl:R'=⟨carrier,L⟩:=hR'
  (refine .q9 ?_;cbv;exact .inl (.f9 hK))
 ·rw[aG (by omega)]at he;refine bS [] (fun q:{ k:Nat // k≤bq1.length∧iM p3 bq1 k }=>[(8,.i (nI q.1))]) (fun q=>[.blk 38 [.str carrier,.sl 11 (bJ iP L)],.blk 79 [.str nq1,.str cq1,.str sq1,.str frm1,.str to1,.sl 1 (bJ .str bq1),.sl 1 (bJ .str pq1),.i iq1,.bl lq1],.blk 38 [.str ⟨⟨[]⟩⟩,.v (.slice none 0 0)]]) (fun q=>eW 5001 q.1) ⟨0,aI _,.zero⟩ ?_;rintro ⟨k,hk,hno⟩;dsimp only at hk hno⊢;cbv;repeat'((first|refine .mk (fun h=>?_) fun h=>?_|refine .k fun z hz=>?_|refine .o ?_|fail)<;>cbv)
  ·refine cM bQ bQ fun i x hi hx=>?_
   obtain rfl:k=i:=bQ;have hx2:=hpx x;obtain⟨g,hg⟩:∃g,g=pA (lG x) L:=⟨_,rfl⟩
   rw[←hg]at hx2;cbv
   (refine bX hb ((⟨carrier,L⟩:Rg),x) ⟨by dsimp only;omega,hall⟩ ?_;try dsimp only)
   rw[←hg];cbv;repeat'((first|refine .mk (fun h=>?_) fun h=>?_|refine .k fun z hz=>?_|fail)<;>cbv)
   ·rw[aH (by assumption:0≤g)]at hx2;rw[gF hx hx2]at he;obtain rfl:e=9:=he;obtain rfl:R'=⟨carrier,L⟩:=hR'
    (refine .q9 ?_;cbv;exact .inl (.f9 hK))
   ·rw[aG (by omega)]at hx2;obtain rfl:z=nI (k+1):=bQ;exact bN ⟨k+1,by exact bQ,hno.succ hx hx2⟩ (bO bQ)
  ·obtain rfl:k=bq1.length:=bQ;rw[iR hno]at he
   ·rw[aH bQ]at he;obtain rfl:e=7:=he;obtain rfl:R'=⟨carrier,L⟩:=hR'
    (refine .q9 ?_;cbv;exact .inl (.f9 hK))
  ·obtain rfl:k=bq1.length:=bQ;rw[iR hno,aG bQ]at he;obtain rfl:e=0:=he;refine JY [.blk 38 [.str carrier,.sl 11 (bJ iP L)],.blk 79 [.str nq1,.str cq1,.str sq1,.str frm1,.str to1,.sl 1 (bJ .str bq1),.sl 1 (bJ .str pq1),.i iq1,.bl lq1],.blk 38 [.str ⟨⟨[]⟩⟩,.v (.slice none 0 0)],.row 107 3 [.agg [.i 0,.str holder,.sl 4 []],.agg [.i 0,.str holder,.sl 4 []],.agg [.i 0,.str holder,.sl 4 []]],.row 104 11 (bJ iP L),.dead,.dead,.dead] Bh ?_;refine fF 3 rfl ?_;cbv;refine Di 3 rfl ?_;cbv
   (refine bX hcp ⟨nq1,cq1,sq1,frm1,to1,bq1,pq1,iq1,lq1⟩ hok ?_;try dsimp only)
   cbv;repeat'((first|refine .zl fun zs hzs hzl=>?_|fail)<;>cbv)
   obtain⟨L',hL'⟩:∃L',L'=L++[(⟨⟨nq1,cq1,sq1,frm1,to1,bq1,pq1,iq1,lq1⟩,0,⟨0,holder,[]⟩,⟨0,holder,[]⟩,⟨0,holder,[]⟩⟩:Br)]:=⟨_,rfl⟩
   obtain rfl:R'=⟨carrier,L'⟩:=by rw[hR',hL'];rfl
   obtain rfl:zs=bJ iP L':=by(rw[hL',cD,cF];exact hzs)
   (refine .r9 (Gh.plain 4 rfl) ?_;cbv;exact .inl (.g9 hK))
def cX (a:At):Ak:=⟨a.bill,if a.kind=5 then -1 else a.index,if a.kind=1∨a.kind=5 then -1 else 0,a.by_,if a.kind=4 then 3 else 0,if a.kind=3 then 0 else a.day,!decide (a.kind=3),decide (a.kind=1) && iC a.by_ a.to⟩
def iW (a:At):List Int:=if a.kind=5∨(a.kind=1∧a.index=-1) then [0,1,2] else [a.index]
theorem IW (a:At):k1 (cX a)=decide (¬a.kind=5∧(a.index < 0∨2 < a.index)∧¬(a.kind=1∧a.index=-1)):=by
 obtain⟨kind,index,day,bill,by_,to,b⟩:=a;unfold k1 cX;dsimp only;rw[←Bool.decide_or];refine decide_eq_decide.2 ?_;by_cases h5:kind=5
 ·rw[aF h5,aF (.inr h5)];omega
 ·rw[aE h5];by_cases h1:kind=1
  ·rw[aF (.inl h1)];omega
  ·rw[aE (by omega)];omega
theorem Ss (a:At):k2 (cX a)=((!decide (a.kind=3) && !gK a.day) || (decide (a.kind=1) && iC a.by_ a.to)):=by
 obtain⟨kind,index,day,bill,by_,to,b⟩:=a;unfold k2 cX;dsimp only;by_cases h3:kind=3
 ·rw[aF h3,aH h3];cases (decide (kind=1) && iC by_ to)<;>rfl
 ·rw[aE h3,aG h3];cases (decide (kind=1) && iC by_ to)<;>cases gK day<;>rfl
theorem FQ {a:At}(h:k1 (cX a)=false):∀k∈iW a,k=0∨k=1∨k=2:=by
 rw[IW]at h;have h:=of_decide_eq_false h;unfold iW;intro k hk
 split at hk
 ·simpa using hk
 ·obtain rfl:=List.mem_singleton.1 hk;omega
theorem qQ {a:At}(h:k1 (cX a)=false) (b:Br) (p:Og→Bool):lA (cX a).index b p=(iW a).any fun k=>p (Ot k b):=by
 rw[IW]at h;have h:=of_decide_eq_false h;obtain⟨kind,index,day,bill,by_,to,bb⟩:=a;obtain⟨_,_,o0,o1,o2⟩:=b;unfold iW cX lA Ot;dsimp only at h⊢;by_cases h5:kind=5∨(kind=1∧index=-1)
 ·rw[aF h5];have hi:(if kind=5 then (-1:Int) else index)=-1:=by
   split
   ·rfl
   ·omega
  rw[hi];have hh:∀k,eJ (-1) k=true:=fun k=>mH (.inl rfl)
  rw[hh,hh,hh];show _=(p o0 || (p o1 || (p o2 || false)))
  cases p o0<;>cases p o1<;>cases p o2<;>rfl
 ·rw[aE h5,aE (by omega)];have hi:index=0∨index=1∨index=2:=by omega
  rcases hi with rfl|rfl|rfl
  ·show _=(p o0 || false)
   cases p o0<;>rfl
  ·show _=(p o1 || false)
   cases p o1<;>rfl
  ·show _=(p o2 || false)
   cases p o2<;>rfl
theorem Nf {α:Type}(c:Bool) (p:α→Bool):∀{l:List α},l≠[]→(c || l.any p)=l.any fun k=>c || p k
 |[],h=>absurd rfl h
 |x :: l,_=>by
  cases c with
  |true=>rw[List.any_cons];rfl
  |false=>rfl
theorem KE {α:Type}(c:Bool) (p:α→Bool) (l:List α):(c && l.any p)=l.any fun k=>c && p k:=by
 cases c with
 |true=>rfl
 |false=>
  have:(l.any fun k=>false && p k)=false:=by rw[List.any_eq_false];intro x _;simp
  rw[this];rfl
theorem MQ (a:At):iW a≠[]:=by unfold iW;split<;>exact List.cons_ne_nil _ _
def Vh (x:Br) (sv:Int) (k:Int):Bool:=!decide (x.st=0) || !decide ((Ot k x).state=sv)
def Vt (x:Br) (by_:bH) (k:Int):Bool:=!decide ((Ot k x).holder=by_)
def U4 (x:Br) (kind day:Int) (k:Int):Bool:=!decide (kind=3) && decide (day < iN (Ot k x) x.b.issued)
theorem FZ {a:At}(h:k1 (cX a)=false) (x:Br):k3 x (cX a)=(iW a).any (Vh x (if a.kind=4 then 3 else 0)):=by
 unfold k3;rw[qQ h,Nf _ _ (MQ a)];rfl
theorem EK {a:At}(h:k1 (cX a)=false) (x:Br):k4 x (cX a)=(iW a).any (Vt x a.by_):=by
 unfold k4;rw[qQ h];rfl
theorem Ge {a:At}(h:k1 (cX a)=false) (x:Br):k5 x (cX a)=(iW a).any (U4 x a.kind a.day):=by
 unfold k5;rw[qQ h,KE];congr 1;funext k;unfold U4 BA cX;dsimp only;by_cases h3:a.kind=3
 ·rw[aH h3];rfl
 ·rw[aE h3]
def iA:Int→AV:=fun k=>.int .i64 k
def mQ (κ:Int):dA:=spec (fun i:Rg×At=>[I7 i.1,PK i.2]) (fun _=>[]) (fun i=>i.2.kind=κ∧i.1.bills.length≤256∧(∀b∈i.1.bills,mJ b)∧i.2.to.size≤maxLen) (fun i=>.i (eM i.1.bills (cX i.2))) fun _=>[]
def mU:dA:=spec (fun i:Rg×At=>[I7 i.1,PK i.2]) (fun _=>[]) (fun i=>(1≤i.2.kind∧i.2.kind≤5)∧i.1.bills.length≤256∧(∀b∈i.1.bills,mJ b)∧i.2.to.size≤maxLen) (fun i=>.i (eM i.1.bills (cX i.2))) fun _=>[]
theorem U3 {P:bI}{f:Nat}(h1:bK P f (mQ 1)) (h2:bK P f (mQ 2)) (h3:bK P f (mQ 3)) (h4:bK P f (mQ 4)) (h5:bK P f (mQ 5)):bK P f mU:=by
 intro args H K hc;obtain⟨i,rfl,rfl,⟨hk,hp⟩,hK⟩:=hc;have h:i.2.kind=1∨i.2.kind=2∨i.2.kind=3∨i.2.kind=4∨i.2.kind=5:=by omega
 rcases h with h|h|h|h|h
 ·exact h1 _ _ K ⟨i,rfl,rfl,⟨h,hp⟩,hK⟩
 ·exact h2 _ _ K ⟨i,rfl,rfl,⟨h,hp⟩,hK⟩
 ·exact h3 _ _ K ⟨i,rfl,rfl,⟨h,hp⟩,hK⟩
 ·exact h4 _ _ K ⟨i,rfl,rfl,⟨h,hp⟩,hK⟩
 ·exact h5 _ _ K ⟨i,rfl,rfl,⟨h,hp⟩,hK⟩
open Classical in
open Classical in
open Classical in
def E3 (f t:bH) (d:Int):Og→Og
 |⟨s,_,c⟩=>⟨s,t,c++[⟨f,t,0,d⟩]⟩
def mD (a:At):Br→Br:=fun b=>
 if a.kind=1 then tL a.index (E3 a.by_ a.to a.day) b
 else if a.kind=2 then tL a.index (xU 1) (Db 1 b)
 else if a.kind=3 then tL a.index (xU 3) b
 else if a.kind=4 then tL a.index (xU 0) b
 else Db 4 b
def pV (R:Rg) (a:At):oR:=⟨R,a.b,a.to⟩
def kF (R:Rg) (a:At):Rg×Int:=
 if a.kind=0 then (jY (pV R a),gP (pV R a)) else (⟨R.carrier,gB R.bills (cX a) (mD a)⟩,eM R.bills (cX a))
structure KT (i:Rg×At):Prop where
 kind:0≤i.2.kind∧i.2.kind≤5
 few:i.1.bills.length≤256
 all:∀b∈i.1.bills,mJ b∧xS b.b
 ok:xS i.2.b
 sz:YS i.2.b
 tsz:i.2.to.size≤maxLen
def qA (κ:Int):dA:=spec (fun i:Rg×At=>[I7 i.1,PK i.2]) (fun _=>[]) (fun i=>i.2.kind=κ∧KT i) (fun i=>XQ (kF i.1 i.2)) fun _=>[]
theorem Kj (P:bI) (hi:bK P 96 tU):bM P Ky (qA 0):=by
 intro args H K hc;obtain⟨⟨⟨carrier,L⟩,a⟩,rfl,rfl,hp,hK⟩:=hc;refine⟨cL,?_⟩;dsimp only at hp hK⊢;obtain⟨hkind,_,hfew,hall,hok,hsz,hts⟩:=hp;have hp2:Nh (pV ⟨carrier,L⟩ a):=⟨hfew,fun b hb=>(hall b hb).2,hok,hsz,hts⟩
 have hd:kF ⟨carrier,L⟩ a=(jY (pV ⟨carrier,L⟩ a),gP (pV ⟨carrier,L⟩ a)):=by unfold kF;rw[aF hkind]
 rw[hd]at hK;clear hd;obtain⟨kind,index,day,bill,by_,to,b⟩:=a;obtain rfl:kind=0:=hkind;obtain⟨⟨c2,L2⟩,hR⟩:∃R,R=jY (pV ⟨carrier,L⟩ ⟨0,index,day,bill,by_,to,b⟩):=⟨_,rfl⟩
 obtain⟨e,he⟩:∃e,e=gP (pV ⟨carrier,L⟩ ⟨0,index,day,bill,by_,to,b⟩):=⟨_,rfl⟩
 rw[←hR,←he]at hK;unfold pV at hR he hp2;dsimp only at hR he hp2;obtain⟨nq1,cq1,sq1,frm1,to1,bq1,pq1,iq1,lq1⟩:=b;cbv;repeat'((first|refine .y fun h=>?_|fail)<;>cbv)
 (refine bX hi (⟨⟨carrier,L⟩,⟨nq1,cq1,sq1,frm1,to1,bq1,pq1,iq1,lq1⟩,to⟩:oR) hp2 ?_;try dsimp only)
 rw[←hR,←he];cbv
 (refine .q9 ?_;cbv;exact .inl (.f9 hK))
set_option maxHeartbeats 1000000
def qF (L:List Br) (s:bH):Option Br:=L.find? fun b=>decide (b.b.number=s)
theorem UQ (L:List Br) (s:bH):qF L s=(oL L s).bind fun i=>L[i]?:=by
 unfold qF oL kA;exact List.find?_eq_bind_findIdx?_getElem?
theorem oH (L:List Br) (s:bH):(∃i y,oL L s=some i∧L[i]?=some y∧qF L s=some y∧y.b.number=s)∨(oL L s=none∧qF L s=none):=by
 have h:=UQ L s;cases hb:oL L s with
 |none=>rw[hb]at h;exact .inr ⟨rfl,h⟩
 |some i=>
  obtain⟨y,hy,hk⟩:=eA hb;rw[hb]at h;exact .inl ⟨i,y,rfl,hy,h.trans hy,hk⟩
theorem C6 {L:List Br}{s:bH}{y:Br}(h:qF L s=some y):y∈L∧y.b.number=s:=⟨List.mem_of_find?_eq_some h,by unfold qF at h;have h2:=List.find?_some h;simpa using h2⟩
theorem Mi {L:List Br}(h:fW L) {x y:Br}(hx:x∈L) (hy:y∈L) (e:x.b.number=y.b.number):x=y:=by
 obtain⟨i,hi,rfl⟩:=List.mem_iff_getElem.1 hx;obtain⟨j,hj,rfl⟩:=List.mem_iff_getElem.1 hy;unfold fW at h;have:=kC (l:=L.map fun b=>b.b.number) (i:=i) (j:=j) (hi:=by rw[aJ];exact hi) (hj:=by rw[aJ];exact hj) h (by rw[List.getElem_map,List.getElem_map];exact e);subst this;rfl
theorem EQ {L:List Br}(h:fW L) {y:Br}{s:bH}(hy:y∈L) (hs:y.b.number=s):qF L s=some y:=by
 cases hl:qF L s with
 |none=>
  unfold qF at hl;rw[List.find?_eq_none]at hl;exact absurd (aH hs) (hl y hy)
 |some x=>
  obtain⟨h1,h2⟩:=C6 hl;rw[Mi h h1 hy (h2.trans hs.symm)]
theorem rA {L L':List Br}(p:L.Perm L') (h:fW L):fW L':=(p.map _).nodup_iff.1 h
theorem Q8 {L L':List Br}(p:L.Perm L') (h:fW L) (s:bH):qF L s=qF L' s:=by
 cases hl:qF L' s with
 |none=>
  cases hk:qF L s with
  |none=>rfl
  |some y=>
   obtain⟨h1,h2⟩:=C6 hk;rw[EQ (rA p h) (p.mem_iff.1 h1) h2]at hl;cases hl
 |some y=>
  obtain⟨h1,h2⟩:=C6 hl;exact EQ h (p.mem_iff.2 h1) h2
theorem Kp (L:List Br) (s:bH):xG L s=match qF L s with
  |some b=>b.st
  |none=>-1:=by
 unfold xG;rcases oH L s with ⟨i,y,h1,h2,h3,_⟩|⟨h1,h3⟩
 ·rw[h1,h3];dsimp only;rw[h2]
 ·rw[h1,h3]
theorem P9 (L:List Br) (a:Ak):eM L a=match qF L a.bill with
  |some b=>nT b a
  |none=>4:=by
 unfold eM;rcases oH L a.bill with ⟨i,y,h1,h2,h3,_⟩|⟨h1,h3⟩
 ·rw[h1,h3];dsimp only;rw[h2]
 ·rw[h1,h3]
theorem Mg (L:List Br) (s:bH) (idx:Int):lN L s idx=match qF L s with
  |some b=>FF idx b
  |none=>(ES,false):=by
 unfold lN;rcases oH L s with ⟨i,y,h1,h2,h3,_⟩|⟨h1,h3⟩
 ·rw[h1,h3];dsimp only;rw[h2]
 ·rw[h1,h3]
theorem I9 (L:List Br) (s:bH):yM L s=match qF L s with
  |some b=>J1 s b
  |none=>[]:=by
 unfold yM;rcases oH L s with ⟨i,y,h1,h2,h3,_⟩|⟨h1,h3⟩
 ·rw[h1,h3];dsimp only;rw[h2]
 ·rw[h1,h3]
theorem OG {L:List Br}(hn:fW L) (s:bH) (f:Br→Br):BD L s f=L.map fun b=>if b.b.number=s then f b else b:=by
 rcases oH L s with ⟨i,y,h1,h2,h3,h4⟩|⟨h1,h3⟩
 ·rw[gT f h1 h2];refine List.ext_getElem? fun j=>?_
  rw[List.getElem?_set,aD];have hi:=(aA.1 h2).1;by_cases hij:i=j
  ·subst hij;rw[aF rfl,aF hi,h2,Option.map_some,aF h4]
  ·rw[aE hij];cases hj:L[j]? with
   |none=>rfl
   |some z=>
    rw[Option.map_some];have:¬z.b.number=s:=fun e=>by
     obtain⟨hj1,rfl⟩:=aA.1 hj;obtain⟨hi1,rfl⟩:=aA.1 h2;unfold fW at hn;exact hij (kC (l:=L.map fun b=>b.b.number) (i:=i) (j:=j) (hi:=by rw[aJ];exact hi1) (hj:=by rw[aJ];exact hj1) hn (by rw[List.getElem_map,List.getElem_map];exact h4.trans e.symm))
    rw[aE this]
 ·unfold BD;rw[h1];have hne:=NV h1;symm;have:(L.map fun b=>if b.b.number=s then f b else b)=L.map id:=List.map_congr_left fun b hb=>by rw[aE (hne b hb)];rfl
  dsimp only;rw[this,List.map_id]
structure zV (n:Nat) (o:Og):Prop where
 name:bT o.holder=true
 len:o.chain.length≤n
 kinds:∀e∈o.chain,e.kind=0
def Am (s:Int):Prop:=s=0∨s=3
def WZ (st a b c:Int):Prop:=(st=0∧Am a∧Am b∧Am c)∨(st=1∧((a=1∧b=2∧c=2)∨(a=2∧b=1∧c=2)∨(a=2∧b=2∧c=1)))∨(st=4∧a=2∧b=2∧c=2)
structure wU (n:Nat) (c:bH) (b:Br):Prop where
 may:yN c b.b=true
 ok:xS b.b
 h0:zV n b.o0
 h1:zV n b.o1
 h2:zV n b.o2
 st:WZ b.st b.o0.state b.o1.state b.o2.state
structure vN (n:Nat) (R:Rg):Prop where
 nd:fW R.bills
 few:R.bills.length≤256
 all:∀b∈R.bills,wU n R.carrier b
 dis:∀b1∈R.bills,∀b2∈R.bills,b1.st=0→b2.st=0→∀x∈b1.b.boxes,x∈b2.b.boxes→b1.b.number=b2.b.number
theorem zV.mono {n m:Nat}{o:Og}(h:zV n o) (hm:n≤m):zV m o:=⟨h.name,Nat.le_trans h.len hm,h.kinds⟩
theorem wU.mono {n m:Nat}{c:bH}{b:Br}(h:wU n c b) (hm:n≤m):wU m c b:=⟨h.may,h.ok,h.h0.mono hm,h.h1.mono hm,h.h2.mono hm,h.st⟩
theorem vN.mono {n m:Nat}{R:Rg}(h:vN n R) (hm:n≤m):vN m R:=⟨h.nd,h.few,fun b hb=>(h.all b hb).mono hm,h.dis⟩
theorem vN.perm {n:Nat}{R R':Rg}(h:vN n R) (hc:R.carrier=R'.carrier) (p:R.bills.Perm R'.bills):vN n R':=
 ⟨rA p h.nd,by rw[←p.length_eq];exact h.few,fun b hb=>by rw[←hc];exact h.all b (p.mem_iff.2 hb),fun b1 h1 b2 h2=>h.dis b1 (p.mem_iff.2 h1) b2 (p.mem_iff.2 h2)⟩
theorem vN.inB {n:Nat}{R:Rg}(h:vN n R) (hn:n≤4500):∀b∈R.bills,inB b:=fun b hb=>by
 have:=h.all b hb;exact⟨⟨Nat.le_trans this.h0.len hn,Nat.le_trans this.h1.len hn,Nat.le_trans this.h2.len hn⟩,this.ok⟩
theorem IH (n:Nat) (c:bH):vN n ⟨c,[]⟩:=⟨.nil,by simp,fun b hb=>(by cases hb),fun b hb=>(by cases hb)⟩
structure XC (b:Br) (a:Ak):Prop where
 ix:a.least≤a.index∧a.index < 3
 right:a.wrong=false
 day:a.dated=true→gK a.day=true
 live:b.st=0
 s3:lA a.index b (pB a)=false
 h3:lA a.index b (jG a)=false
 d3:a.dated=true→lA a.index b (BA b a)=false
theorem Jv {b:Br}{a:Ak}(h:nT b a=0):XC b a:=by
 have hx:=mN h;unfold nT at h
 split at h
 ·exact absurd h (by decide)
 split at h
 ·exact absurd h (by decide)
 rename_i h2
 split at h
 ·exact absurd h (by decide)
 rename_i h3
 split at h
 ·exact absurd h (by decide)
 rename_i h4
 split at h
 ·exact absurd h (by decide)
 rename_i h5;unfold k2 at h2;unfold k3 at h3;unfold k4 at h4;unfold k5 at h5;simp only[Bool.or_eq_true,not_or,Bool.not_eq_true,aO,Bool.not_eq_true',decide_eq_false_iff_not,Decidable.not_not,not_and,Bool.not_eq_false]at h2 h3 h4 h5;exact⟨hx,h2.1,fun h=>by simpa using h2.2 h,by simpa using h3.1,h3.2,h4,fun h=>by simpa using h5 h⟩
theorem LV {idx:Int}{b:Br}{p:Og→Bool}(h:lA idx b p=false):(eJ idx 0=true→p b.o0=false)∧(eJ idx 1=true→p b.o1=false)∧(eJ idx 2=true→p b.o2=false):=by
 unfold lA at h;cases h0:eJ idx 0<;>cases h1:eJ idx 1<;>cases h2:eJ idx 2<;>simp[h0,h1,h2]at h⊢<;>simp[h]
theorem tS (idx:Int) (f:Og→Og) (b:Br):(tL idx f b).b=b.b∧(tL idx f b).st=b.st:=by obtain⟨_,_,_,_,_⟩:=b;exact⟨rfl,rfl⟩
theorem Da (s:Int) (b:Br):(Db s b).b=b.b∧(Db s b).st=s:=by obtain⟨_,_,_,_,_⟩:=b;exact⟨rfl,rfl⟩
theorem TY (a:At) (b:Br):(mD a b).b=b.b:=by
 unfold mD
 split
 ·exact(tS _ _ _).1
 split
 ·rw[(tS _ _ _).1,(Da _ _).1]
 split
 ·exact(tS _ _ _).1
 split
 ·exact(tS _ _ _).1
 ·exact(Da _ _).1
theorem K8 (a:At) (b:Br) (h:(mD a b).st=0):b.st=0:=by
 unfold mD at h
 split at h
 ·rwa [(tS _ _ _).2]at h
 split at h
 ·rw[(tS _ _ _).2,(Da _ _).2]at h;cases h
 split at h
 ·rwa [(tS _ _ _).2]at h
 split at h
 ·rwa [(tS _ _ _).2]at h
 ·rw[(Da _ _).2]at h;cases h
theorem gW {n:Nat}{s:Int}{o:Og}(h:zV n o):zV (n+1) (xU s o):=by
 obtain⟨a,b,c⟩:=o;exact⟨h.name,Nat.le_succ_of_le h.len,h.kinds⟩
theorem CT {n:Nat}{f t:bH}{d:Int}{o:Og}(h:zV n o) (ht:bT t=true):zV (n+1) (E3 f t d o):=by
 obtain⟨a,b,c⟩:=o;refine⟨ht,?_,fun e he=>?_⟩
 ·show (c++[_]).length≤n+1;have h1:c.length≤n:=h.len;rw[aM,List.length_singleton];omega
 ·rcases List.mem_append.1 he with h1|h1
  ·exact h.kinds e h1
  ·obtain rfl:=List.mem_singleton.1 h1;rfl
theorem BP {f t:bH}(h:iC f t=false):bT t=true∧¬t=f:=by
 unfold iC at h;simp only[Bool.or_eq_false_iff,Bool.not_eq_false',decide_eq_false_iff_not]at h;exact h
theorem Qe {n:Nat}{c:bH}{b:Br}{a:At}(h:wU n c b) (hk:1≤a.kind∧a.kind≤5) (he:nT b (cX a)=0):wU (n+1) c (mD a b):=by
 have hd:=Jv he;obtain⟨kind,index,day,bill,by_,to,bb⟩:=a;obtain⟨b,st,⟨s0,y0,c0⟩,⟨s1,y1,c1⟩,⟨s2,y2,c2⟩⟩:=b;obtain⟨hmay,hok,h0,h1,h2,hst⟩:=h;obtain⟨hix,hright,hday,hlive,hs3,hh3,hd3⟩:=hd;unfold cX at *;dsimp only at *;subst hlive;have hst:Am s0∧Am s1∧Am s2:=by
  rcases hst with ⟨_,h⟩|⟨h,_⟩|⟨h,_⟩
  ·exact h
  ·exact absurd h (by decide)
  ·exact absurd h (by decide)
 obtain⟨t0,t1,t2⟩:=hst;have g0:=h0.mono (Nat.le_succ n);have g1:=h1.mono (Nat.le_succ n);have g2:=h2.mono (Nat.le_succ n);have hk5:kind=1∨kind=2∨kind=3∨kind=4∨kind=5:=by omega
 rcases hk5 with rfl|rfl|rfl|rfl|rfl
 ·have hw:iC by_ to=false:=hright;have hto:=(BP hw).1;show wU (n+1) c (tL index (E3 by_ to day) ⟨b,0,⟨s0,y0,c0⟩,⟨s1,y1,c1⟩,⟨s2,y2,c2⟩⟩);unfold tL;dsimp only;cases eJ index 0<;>cases eJ index 1<;>cases eJ index 2<;>exact⟨hmay,hok,by first|exact g0|exact CT h0 hto,by first|exact g1|exact CT h1 hto,by first|exact g2|exact CT h2 hto,.inl ⟨rfl,t0,t1,t2⟩⟩
 ·have hix:(0:Int)≤index∧index < 3:=hix;show wU (n+1) c (tL index (xU 1) (Db 1 ⟨b,0,⟨s0,y0,c0⟩,⟨s1,y1,c1⟩,⟨s2,y2,c2⟩⟩));have hi3:index=0∨index=1∨index=2:=by omega
  rcases hi3 with rfl|rfl|rfl
  ·exact⟨hmay,hok,gW (s:=1) h0,gW (s:=2) h1,gW (s:=2) h2,.inr (.inl ⟨rfl,.inl ⟨rfl,rfl,rfl⟩⟩)⟩
  ·exact⟨hmay,hok,gW (s:=2) h0,gW (s:=1) h1,gW (s:=2) h2,.inr (.inl ⟨rfl,.inr (.inl ⟨rfl,rfl,rfl⟩)⟩)⟩
  ·exact⟨hmay,hok,gW (s:=2) h0,gW (s:=2) h1,gW (s:=1) h2,.inr (.inl ⟨rfl,.inr (.inr ⟨rfl,rfl,rfl⟩)⟩)⟩
 ·show wU (n+1) c (tL index (xU 3) ⟨b,0,⟨s0,y0,c0⟩,⟨s1,y1,c1⟩,⟨s2,y2,c2⟩⟩);unfold tL;dsimp only;cases eJ index 0<;>cases eJ index 1<;>cases eJ index 2<;>exact⟨hmay,hok,by first|exact g0|exact gW (s:=3) h0,by first|exact g1|exact gW (s:=3) h1,by first|exact g2|exact gW (s:=3) h2,.inl ⟨rfl,by first|exact t0|exact .inr rfl,by first|exact t1|exact .inr rfl,by first|exact t2|exact .inr rfl⟩⟩
 ·show wU (n+1) c (tL index (xU 0) ⟨b,0,⟨s0,y0,c0⟩,⟨s1,y1,c1⟩,⟨s2,y2,c2⟩⟩);unfold tL;dsimp only;cases eJ index 0<;>cases eJ index 1<;>cases eJ index 2<;>exact⟨hmay,hok,by first|exact g0|exact gW (s:=0) h0,by first|exact g1|exact gW (s:=0) h1,by first|exact g2|exact gW (s:=0) h2,.inl ⟨rfl,by first|exact t0|exact .inl rfl,by first|exact t1|exact .inl rfl,by first|exact t2|exact .inl rfl⟩⟩
 ·exact⟨hmay,hok,gW (s:=2) h0,gW (s:=2) h1,gW (s:=2) h2,.inr (.inr ⟨rfl,rfl,rfl,rfl⟩)⟩
theorem Np {L:List Br}(hn:fW L) {a:Ak}(h:eM L a=0) {b:Br}(hb:b∈L) (hs:b.b.number=a.bill):nT b a=0:=by
 rw[P9,EQ hn hb hs]at h;exact h
theorem uF {L:List Br}(hn:fW L) (a:Ak) (f:Br→Br) (h:eM L a=0):gB L a f=L.map fun b=>if b.b.number=a.bill then f b else b:=by
 unfold gB;rw[aF h,OG hn]
theorem zU {L:List Br}(a:Ak) (f:Br→Br) (h:¬eM L a=0):gB L a f=L:=by unfold gB;rw[aE h]
theorem Je {n:Nat}{R:Rg}(h:vN n R) {a:At}(hk:1≤a.kind∧a.kind≤5):vN (n+1) ⟨R.carrier,gB R.bills (cX a) (mD a)⟩:=by
 by_cases h0:eM R.bills (cX a)=0
 ·rw[uF h.nd _ _ h0];have hnum:∀b:Br,(if b.b.number=(cX a).bill then mD a b else b).b=b.b:=fun b=>by
   split
   ·exact TY a b
   ·rfl
  have hlive:∀b:Br,(if b.b.number=(cX a).bill then mD a b else b).st=0→b.st=0:=fun b=>by
   split
   ·exact K8 a b
   ·exact id
  refine⟨?_,by rw[aJ];exact h.few,fun b hb=>?_,fun b1 h1 b2 h2 l1 l2 x hx1 hx2=>?_⟩
  ·unfold fW;rw[List.map_map];have e:((fun b:Br=>b.b.number) ∘ fun b=>if b.b.number=(cX a).bill then mD a b else b)=fun b=>b.b.number:=by funext b;show (ite _ _ _:Br).b.number=_;rw[hnum]
   rw[e];exact h.nd
  ·obtain⟨y,hy,rfl⟩:=aX.1 hb
   split
   ·rename_i hs;exact Qe (h.all y hy) hk (Np h.nd h0 hy hs)
   ·exact(h.all y hy).mono (Nat.le_succ n)
  ·obtain⟨y1,hy1,rfl⟩:=aX.1 h1;obtain⟨y2,hy2,rfl⟩:=aX.1 h2;rw[hnum]at hx1 hx2⊢;rw[hnum];exact h.dis y1 hy1 y2 hy2 (hlive y1 l1) (hlive y2 l2) x hx1 hx2
 ·rw[zU _ _ h0];exact(h.mono (Nat.le_succ n))
theorem W4 (i:oR):i2 i=(qF i.R.bills i.b.number).isSome:=by
 unfold i2;rcases oH i.R.bills i.b.number with ⟨k,y,h1,h2,h3,_⟩|⟨h1,h3⟩
 ·rw[h1,h3];rfl
 ·rw[h1,h3];rfl
theorem NA (i:oR):i3 i=i.b.boxes.any fun x=>i.R.bills.any (lG x):=by
 unfold i3;congr 1;funext x;exact EJ _ _
theorem KI {i:oR}(h:gP i=0):i1 i=false∧i2 i=false∧i3 i=false∧i4 i=false:=by
 unfold gP at h
 split at h
 ·exact absurd h (by decide)
 rename_i h1
 split at h
 ·exact absurd h (by decide)
 rename_i h2
 split at h
 ·exact absurd h (by decide)
 rename_i h3
 split at h
 ·exact absurd h (by decide)
 rename_i h4;simp only[Bool.not_eq_true]at h1 h2 h3 h4;exact⟨h1,h2,h3,h4⟩
theorem E0 {i:oR}(h:gP i=0):jY i=⟨i.R.carrier,i.R.bills++[Tf i.b i.holder]⟩:=by unfold jY;rw[aF h]
theorem Qt {i:oR}(h:¬gP i=0):jY i=i.R:=by unfold jY;rw[aE h]
theorem M9 (x:bH) (b:Br):lG x b=true↔b.st=0∧x∈b.b.boxes:=by
 unfold lG;simp only[aO,decide_eq_true_eq,List.any_eq_true];constructor
 ·rintro ⟨h1,y,hy,rfl⟩;exact⟨h1,hy⟩
 ·rintro ⟨h1,h2⟩;exact⟨h1,x,h2,rfl⟩
theorem D6 {n:Nat}{i:oR}(h:vN n i.R) (hok:xS i.b):vN n (jY i):=by
 by_cases h0:gP i=0
 ·obtain⟨e1,e2,e3,e4⟩:=KI h0;rw[E0 h0];unfold i1 at e1;simp only[Bool.or_eq_false_iff,Bool.not_eq_false']at e1;rw[W4]at e2;have e2:qF i.R.bills i.b.number=none:=by simpa using e2
  rw[NA]at e3;unfold i4 at e4;have e4:=of_decide_eq_false e4;have hbox:∀x∈i.b.boxes,∀b∈i.R.bills,b.st=0→¬x∈b.b.boxes:=fun x hx b hb hl hin=>by
   have h1:=List.any_eq_false.1 e3 x hx;exact h1 (List.any_eq_true.2 ⟨b,hb,(M9 x b).2 ⟨hl,hin⟩⟩)
  have og:zV n ⟨0,i.holder,[]⟩:=⟨e1.2,aI _,fun e he=>(by cases he)⟩
  refine⟨?_,?_,fun b hb=>?_,fun b1 h1 b2 h2 l1 l2 x hx1 hx2=>?_⟩
  ·unfold fW;rw[List.map_append,List.nodup_append];refine⟨h.nd,List.nodup_cons.2 ⟨by simp,.nil⟩,fun s hs t ht e=>?_⟩;obtain rfl:=List.mem_singleton.1 ht;obtain⟨b,hb,hbs⟩:=aX.1 hs;have:=EQ h.nd hb (hbs.trans e);exact absurd (e2.symm.trans this) (by simp)
  ·show (i.R.bills++[_]).length≤256;rw[aM,List.length_singleton];omega
  ·rcases List.mem_append.1 hb with h1|h1
   ·exact h.all b h1
   ·obtain rfl:=List.mem_singleton.1 h1;exact⟨e1.1,hok,og,og,og,.inl ⟨rfl,.inl rfl,.inl rfl,.inl rfl⟩⟩
  ·rcases List.mem_append.1 h1 with g1|g1<;>rcases List.mem_append.1 h2 with g2|g2
   ·exact h.dis b1 g1 b2 g2 l1 l2 x hx1 hx2
   ·obtain rfl:=List.mem_singleton.1 g2;exact absurd hx1 (hbox x hx2 b1 g1 l1)
   ·obtain rfl:=List.mem_singleton.1 g1;exact absurd hx2 (hbox x hx1 b2 g2 l2)
   ·rw[List.mem_singleton.1 g1,List.mem_singleton.1 g2]
 ·rw[Qt h0];exact h
theorem Jp {R:Rg}{a:At}(h:a.kind=0):kF R a=(jY (pV R a),gP (pV R a)):=by unfold kF;rw[aF h]
theorem Dc {R:Rg}{a:At}(h:¬a.kind=0):kF R a=(⟨R.carrier,gB R.bills (cX a) (mD a)⟩,eM R.bills (cX a)):=by unfold kF;rw[aE h]
theorem O0 {n:Nat}{R:Rg}(h:vN n R) {a:At}(hk:0≤a.kind∧a.kind≤5) (hok:xS a.b):vN (n+1) (kF R a).1:=by
 by_cases h0:a.kind=0
 ·rw[Jp h0];exact(D6 (i:=pV R a) h hok).mono (Nat.le_succ n)
 ·rw[Dc h0];exact Je h (by omega)
def TV (a:At):Br→Br:=if a.kind=1 then tL a.index (tJ a.by_ a.to a.day) else mD a
def xW (R:Rg) (a:At):Rg:=if a.kind=0 then jY (pV R a) else ⟨R.carrier,gB R.bills (cX a) (TV a)⟩
theorem K9 {f t:bH}{d:Int}(hf:bT f=true) (ht:bT t=true) (hn:¬t=f) (hd:gK d=true):(lW f [⟨f,t,0,d⟩]).1=t:=by
 have hm:yB ⟨f,t,0,d⟩=true:=by
  unfold gK at hd;unfold yB;dsimp only;rw[hf,hd,ht,aG hn];rfl
 have hw:mC f [] ⟨f,t,0,d⟩=0:=by
  unfold mC;dsimp only;rw[hm];have k2:pQ [] 2=false:=rfl;have k1:Gl [] d=false:=rfl;rw[k2,k1];simp
 unfold lW;rw[hf,aE (by decide),iH,aF hw,iH]
theorem PS {h f t:bH}{d:Int}{s:Int}{c:List mI}(he:h=f) (hf:bT h=true) (ht:bT t=true) (hn:¬t=f) (hd:gK d=true):tJ f t d ⟨s,h,c⟩=E3 f t d ⟨s,h,c⟩:=by
 subst he;unfold tJ E3;dsimp only;rw[K9 hf ht hn hd]
theorem Qr {n:Nat}{c:bH}{b:Br}{a:At}(h:wU n c b) (he:nT b (cX a)=0):TV a b=mD a b:=by
 unfold TV
 split
 ·rename_i hk;have hd:=Jv he;obtain⟨kind,index,day,bill,by_,to,bb⟩:=a;obtain⟨b,st,⟨s0,y0,c0⟩,⟨s1,y1,c1⟩,⟨s2,y2,c2⟩⟩:=b;obtain⟨hmay,hok,h0,h1,h2,hst⟩:=h;obtain⟨hix,hright,hday,hlive,hs3,hh3,hd3⟩:=hd;obtain rfl:kind=1:=hk;have hw:iC by_ to=false:=hright;obtain⟨w1,w2⟩:=BP hw;have hdy:gK day=true:=hday rfl;obtain⟨q0,q1,q2⟩:=LV hh3;have hpick:∀(q:Bool) (s:Int) (y:bH) (c:List mI),(q=true→jG (cX ⟨1,index,day,bill,by_,to,bb⟩) ⟨s,y,c⟩=false)→bT y=true→(bif q then tJ by_ to day ⟨s,y,c⟩ else ⟨s,y,c⟩)=(bif q then E3 by_ to day ⟨s,y,c⟩ else ⟨s,y,c⟩):=fun q s y c hq hy=>by
   cases q with
   |false=>rfl
   |true=>
    have h1:=hq rfl;unfold jG at h1;simp only[Bool.not_eq_false',decide_eq_true_eq]at h1;exact PS h1 hy w1 w2 hdy
  show tL index (tJ by_ to day) ⟨b,st,⟨s0,y0,c0⟩,⟨s1,y1,c1⟩,⟨s2,y2,c2⟩⟩=tL index (E3 by_ to day) ⟨b,st,⟨s0,y0,c0⟩,⟨s1,y1,c1⟩,⟨s2,y2,c2⟩⟩;have e0:=hpick (eJ index 0) s0 y0 c0 q0 h0.name;have e1:=hpick (eJ index 1) s1 y1 c1 q1 h1.name;have e2:=hpick (eJ index 2) s2 y2 c2 q2 h2.name;unfold tL;dsimp only;rw[e0,e1,e2]
 ·rfl
theorem TC {n:Nat}{R:Rg}(h:vN n R) (a:At):xW R a=(kF R a).1:=by
 unfold xW
 split
 ·rename_i hk;rw[Jp hk]
 ·rename_i hk;rw[Dc hk];by_cases h0:eM R.bills (cX a)=0
  ·rw[uF h.nd _ _ h0,uF h.nd _ _ h0];congr 1;refine List.map_congr_left fun b hb=>?_
   split
   ·rename_i hs;exact Qr (h.all b hb) (Np h.nd h0 hb hs)
   ·rfl
  ·rw[zU _ _ h0,zU _ _ h0]
def leB (a b:bH):Prop:=jM a≤jM b
theorem Cd {a b c:bH}(h:leB a b) (k:leB b c):leB a c:=List.le_trans h k
theorem Nt {a b:bH}(h:leB a b) (k:leB b a):a=b:=by
 have:=List.le_antisymm h k;rw[←mW a,←mW b,this]
theorem Ca {a b:bH}(h:hY a b=true):leB a b:=List.le_of_lt (of_decide_eq_true h)
theorem qR {a b:bH}(h:hY a b=false):leB b a:=List.not_lt.1 (of_decide_eq_false h)
theorem uE (l:List bH):(dN l).Pairwise leB:=by
 have ht:∀a b c:List UInt8,decide (a≤b)=true→decide (b≤c)=true→decide (a≤c)=true:=fun a b c h1 h2=>aH (List.le_trans (of_decide_eq_true h1) (of_decide_eq_true h2))
 have hs:∀a b:List UInt8,(decide (a≤b) || decide (b≤a))=true:=fun a b=>by
  rcases List.le_total a b with h|h
  ·rw[aH h];rfl
  ·rw[aH h];exact Bool.or_true _
 unfold dN;rw[List.pairwise_map];refine(List.pairwise_mergeSort ht hs (l.map jM)).imp fun {a b} h=>?_
 show jM (lV a)≤jM (lV b);exact of_decide_eq_true h
theorem kM (l:List bH):(dN l).Perm l:=by
 unfold dN;have h:=((List.mergeSort_perm (l.map jM) fun x y=>decide (x≤y)).map lV)
 rw[List.map_map]at h;have e:(lV ∘ jM)=id:=funext mW;rw[e,List.map_id]at h;exact h
theorem Cp {l m:List bH}(hl:l.Pairwise leB) (hm:m.Pairwise leB) (h:l.Perm m):l=m:=List.Perm.eq_of_pairwise (le:=leB) (fun a b _ _=>Nt) hl hm h
theorem B3 (l:List bH) (s:bH):(pY l s).Perm (s :: l):=by
 unfold pY;refine List.perm_middle.trans ?_;rw[List.takeWhile_append_dropWhile]
theorem Gc {l:List bH}(s:bH) (h:l.Pairwise leB):(pY l s).Pairwise leB:=by
 induction l with
 |nil=>exact List.pairwise_cons.2 ⟨fun x hx=>(by cases hx),.nil⟩
 |cons x l ih=>
  obtain⟨h1,h2⟩:=List.pairwise_cons.1 h;unfold pY;rw[List.takeWhile_cons,List.dropWhile_cons];cases hx:hY x s with
  |true=>
   refine List.pairwise_cons.2 ⟨fun y hy=>?_,ih h2⟩;have:=(B3 l s).mem_iff.1 hy;rcases List.mem_cons.1 this with rfl|h3
   ·exact Ca hx
   ·exact h1 y h3
  |false=>
   refine List.pairwise_cons.2 ⟨fun y hy=>?_,h⟩;rcases List.mem_cons.1 hy with rfl|h3
   ·exact qR hx
   ·exact Cd (qR hx) (h1 y h3)
theorem JS (l:List bH):qJ l=dN l:=by
 have h:∀(l a:List bH),a.Pairwise leB→(l.foldl pY a).Pairwise leB∧(l.foldl pY a).Perm (a++l):=by
  intro l
  induction l with
  |nil=>intro a ha;rw[List.append_nil];exact⟨ha,.refl _⟩
  |cons x l ih=>
   intro a ha;rw[List.foldl_cons];obtain⟨h1,h2⟩:=ih (pY a x) (Gc x ha);exact⟨h1,h2.trans (((B3 a x).append_right l).trans (List.perm_middle.symm))⟩
 obtain⟨h1,h2⟩:=h l [] .nil;exact Cp h1 (uE l) (h2.trans (kM l).symm)
theorem QM (L:List Br) (p:Br→Bool):Vi L p=gM L p:=JS _
theorem KW {L L':List Br}(h:L.Perm L') (p:Br→Bool):gM L p=gM L' p:=tH (h.filterMap _)
theorem PD {L:List Br}{p:Br→Bool}{s:bH}:s∈gM L p↔ ∃b∈L,p b=true∧b.b.number=s:=by
 unfold gM;rw[(kM _).mem_iff,List.mem_filterMap];constructor
 ·rintro ⟨b,hb,h⟩;unfold gN at h;cases hp:p b<;>rw[hp]at h
  ·cases h
  ·cases h;exact⟨b,hb,hp,rfl⟩
 ·rintro ⟨b,hb,hp,rfl⟩;exact⟨b,hb,by unfold gN;rw[hp];rfl⟩
section
variable {α:Type}
def gL (key:α→bH) (L:List α) (s:bH):Option α:=L.find? fun b=>decide (key b=s)
theorem II (key:α→bH) (L:List α) (s:bH):gL key L s=(kA key L s).bind fun i=>L[i]?:=by
 unfold gL kA;rw[List.find?_eq_bind_findIdx?_getElem?]
theorem mB {key:α→bH}{L:List α}{s:bH}{i:Nat}{y:α}(h:kA key L s=some i) (hy:L[i]?=some y):gL key L s=some y:=by
 rw[II,h];exact hy
theorem qM {key:α→bH}{L:List α}{s:bH}(h:kA key L s=none):gL key L s=none:=by
 rw[II,h];rfl
theorem lQ {key:α→bH}{L:List α}{s:bH}{y:α}(h:gL key L s=some y):y∈L∧key y=s:=⟨List.mem_of_find?_eq_some h,by unfold gL at h;have h2:=List.find?_some h;simpa using h2⟩
theorem jH {key:α→bH}{L:List α}{s:bH}(h:gL key L s=none) {y:α}(hy:y∈L):key y≠s:=by
 unfold gL at h;rw[List.find?_eq_none]at h;have:=h y hy;simpa using this
theorem sR {key:α→bH}{L:List α}(h:(L.map key).Nodup) {y:α}{s:bH}(hy:y∈L) (hs:key y=s):gL key L s=some y:=by
 cases hl:gL key L s with
 |none=>exact absurd hs (jH hl hy)
 |some x=>
  obtain⟨hx,hxs⟩:=lQ hl;congr 1
  induction L with
  |nil=>cases hy
  |cons a L ih=>
   rw[List.map_cons,List.nodup_cons]at h;rcases List.mem_cons.1 hy with rfl|hy1
   ·rcases List.mem_cons.1 hx with rfl|hx1
    ·rfl
    ·exact absurd (aX.2 ⟨x,hx1,hxs.trans hs.symm⟩) h.1
   ·rcases List.mem_cons.1 hx with rfl|hx1
    ·exact absurd (aX.2 ⟨y,hy1,hs.trans hxs.symm⟩) h.1
    ·exact ih h.2 hy1 (by
      cases h3:gL key L s with
      |none=>exact absurd hs (jH h3 hy1)
      |some z=>
       have:key a≠s:=fun e=>h.1 (aX.2 ⟨y,hy1,hs.trans e.symm⟩)
       unfold gL at hl h3;rw[List.find?_cons_of_neg (by simpa using this)]at hl;rw[←h3,hl]) hx1
theorem Aq {key:α→bH}{L L':List α}(p:L.Perm L') (h:(L.map key).Nodup) (s:bH):gL key L s=gL key L' s:=by
 have h':(L'.map key).Nodup:=(p.map key).nodup_iff.1 h;cases hl:gL key L' s with
 |some y=>
  obtain⟨hy,hs⟩:=lQ hl;exact sR h (p.mem_iff.2 hy) hs
 |none=>
  cases hk:gL key L s with
  |none=>rfl
  |some y=>
   obtain⟨hy,hs⟩:=lQ hk;exact absurd hs (jH hl (p.mem_iff.1 hy))
theorem yW (key:α→bH) (L M:List α) (s:bH):gL key (L++M) s=(gL key L s).or (gL key M s):=by
 unfold gL;rw[List.find?_append]
def iT (key:α→bH) (L:List α) (s:bH) (f:α→α):List α:=L.map fun b=>if key b=s then f b else b
theorem wJ {key:α→bH}(L:List α) (s:bH) {f:α→α}(hf:∀b,key (f b)=key b):(iT key L s f).map key=L.map key:=by
 unfold iT;rw[List.map_map];refine List.map_congr_left fun b _=>?_
 show key (if key b=s then f b else b)=key b
 split
 ·exact hf b
 ·rfl
theorem tV {key:α→bH}(L:List α) (s t:bH) {f:α→α}(hf:∀b,key (f b)=key b):gL key (iT key L s f) t=if t=s then (gL key L t).map f else gL key L t:=by
 unfold gL iT;rw[List.find?_map];have e:((fun b=>decide (key b=t)) ∘ fun b=>if key b=s then f b else b)=fun b=>decide (key b=t):=by
  funext b;show decide (key (if key b=s then f b else b)=t)=_
  split
  ·rw[hf b]
  ·rfl
 rw[e];cases hx:L.find? fun b=>decide (key b=t) with
 |none=>split<;>rfl
 |some y=>
  have hy:key y=t:=by have:=List.find?_some hx;simpa using this
  rw[Option.map_some,hy];by_cases h:t=s
  ·rw[aF h,aF h];rfl
  ·rw[aE h,aE h]
theorem nN {key:α→bH}{L:List α}(h:(L.map key).Nodup) {s:bH}{i:Nat}{y:α}(f:α→α) (hi:kA key L s=some i) (hy:L[i]?=some y):iT key L s f=L.set i (f y):=by
 obtain⟨z,hz,hzs⟩:=eA hi;rw[hy]at hz;cases hz;obtain⟨hil,rfl⟩:=aA.1 hy;unfold iT;refine List.ext_getElem (by rw[aJ,bA]) fun j h1 h2=>?_
 rw[List.getElem_map,List.getElem_set];have hjl:j < L.length:=by rw[bA]at h2;exact h2
 by_cases e:i=j
 ·subst e;rw[aF rfl,aF hzs]
 ·rw[aE e,aE fun hk=>e ?_];have:=List.pairwise_iff_getElem.1 h;rcases Nat.lt_trichotomy i j with h3|h3|h3
  ·exact absurd (by rw[List.getElem_map,List.getElem_map,hzs,hk]) (this i j (by rw[aJ];exact hil) (by rw[aJ];exact hjl) h3)
  ·exact h3
  ·exact absurd (by rw[List.getElem_map,List.getElem_map,hzs,hk]) (this j i (by rw[aJ];exact hjl) (by rw[aJ];exact hil) h3)
end
structure eC where
 box:bH
 frm:bH
 to:bH
 place:bH
 day:Int
deriving instance DecidableEq for eC
structure cP where
 box:bH
 hist:List eC
def nE (H:List eC) (s:bH):List eC:=H.filter fun h=>decide (h.box=s)
theorem kK (H:List eC) (x:eC) (s:bH):nE (H++[x]) s=nE H s++if x.box=s then [x] else []:=by
 unfold nE;rw[List.filter_append];congr 1;by_cases h:x.box=s
 ·rw[aF h,List.filter_cons_of_pos (by simpa using h)];rfl
 ·rw[aE h,List.filter_cons_of_neg (by simpa using h)];rfl
structure jV (L:List cP) (H:List eC):Prop where
 nd:(L.map cP.box).Nodup
 no:∀s,gL cP.box L s=none→nE H s=[]
 yes:∀s b,gL cP.box L s=some b→b.hist=nE H s∧nE H s≠[]
theorem jV.nil:jV [] []:=⟨.nil,fun _ _=>rfl,fun s b h=>by cases h⟩
theorem jV.perm {L L':List cP}{H:List eC}(h:jV L H) (p:L.Perm L'):jV L' H:=
 ⟨(p.map _).nodup_iff.1 h.nd,fun s hs=>h.no s (by rw[Aq p h.nd];exact hs),fun s b hs=>h.yes s b (by rw[Aq p h.nd];exact hs)⟩
theorem jV.begin {L:List cP}{H:List eC}(h:jV L H) {x:eC}(hn:gL cP.box L x.box=none):jV (L++[⟨x.box,[x]⟩]) (H++[x]):=by
 refine⟨?_,fun s hs=>?_,fun s b hs=>?_⟩
 ·rw[List.map_append,List.nodup_append];refine⟨h.nd,by simp,fun a ha b hb e=>?_⟩;subst e;obtain⟨y,hy,hya⟩:=aX.1 ha;simp only[List.map_cons,List.map_nil,List.mem_singleton]at hb;exact jH hn hy (hya.trans hb)
 ·rw[yW]at hs;cases h1:gL cP.box L s with
  |some y=>rw[h1]at hs;cases hs
  |none=>
   rw[h1]at hs;have hne:¬x.box=s:=fun e=>by
    have:gL cP.box [(⟨x.box,[x]⟩:cP)] s=some ⟨x.box,[x]⟩:=List.find?_cons_of_pos (by simpa using e);rw[this]at hs;cases hs
   rw[kK,aE hne,h.no s h1];rfl
 ·rw[yW]at hs;cases h1:gL cP.box L s with
  |some y=>
   rw[h1]at hs;cases hs;have hne:¬x.box=s:=fun e=>by rw[e,h1]at hn;cases hn
   rw[kK,aE hne,List.append_nil];exact h.yes s b h1
  |none=>
   rw[h1]at hs;by_cases e:x.box=s
   ·have:gL cP.box [(⟨x.box,[x]⟩:cP)] s=some ⟨x.box,[x]⟩:=List.find?_cons_of_pos (by simpa using e);rw[this]at hs;cases hs;rw[kK,aF e,h.no s h1];exact⟨rfl,by simp⟩
   ·have:gL cP.box [(⟨x.box,[x]⟩:cP)] s=none:=by
     unfold gL;rw[List.find?_cons_of_neg (by simpa using e)];rfl
    rw[this]at hs;cases hs
def hC (x:eC):cP→cP:=fun b=>⟨b.box,b.hist++[x]⟩
theorem nS (x:eC) (b:cP):(hC x b).box=b.box:=rfl
theorem jV.hand {L:List cP}{H:List eC}(h:jV L H) {x:eC}{b:cP}(hb:gL cP.box L x.box=some b):jV (iT cP.box L x.box (hC x)) (H++[x]):=by
 refine⟨by rw[wJ _ _ (nS x)];exact h.nd,fun s hs=>?_,fun s c hs=>?_⟩
 ·rw[tV _ _ _ (nS x)]at hs;by_cases e:s=x.box
  ·subst e;rw[aF rfl,hb]at hs;cases hs
  ·rw[aE e]at hs;rw[kK,aE (fun h=>e h.symm),h.no s hs];rfl
 ·rw[tV _ _ _ (nS x)]at hs;by_cases e:s=x.box
  ·subst e;rw[aF rfl,hb]at hs;cases hs;rw[kK,aF rfl];exact⟨by show b.hist++[x]=_;rw[(h.yes _ b hb).1],by simp⟩
  ·rw[aE e]at hs;rw[kK,aE (fun h=>e h.symm),List.append_nil];exact h.yes s c hs
def mS (s:bH):Bool→List bH→List bH
 |d,[]=>if d=true then [] else [s]
 |d,x :: r=>(if (!d && !hY x s)=true then [s] else [])++((if x=s then [] else [x])++mS s (d || !hY x s) r)
def oF (l:List bH) (s:bH):List bH:=mS s false l
def PI (a b:bH):Prop:=leB a b∧a≠b
theorem oU (s:bH):∀l,mS s true l=l.filter fun x=>!decide (x=s)
 |[]=>rfl
 |x :: r=>by
  unfold mS;rw[show (true || !hY x s)=true from rfl,oU s r];by_cases h:x=s
  ·rw[aF h,List.filter_cons_of_neg (by simp[h])];rfl
  ·rw[aE h,List.filter_cons_of_pos (by simp[h])];rfl
theorem vT (s y:bH):∀(l:List bH) (d:Bool),(d=true→s∈l∨True)→(y∈mS s d l↔(y∈l∧y≠s)∨(d=false∧y=s))
 |[],d,_=>by
  unfold mS;cases d<;>simp
 |x :: r,d,_=>by
  unfold mS;cases d with
  |true=>
   rw[show (true || !hY x s)=true from rfl,oU];by_cases h:x=s
   ·subst h;simp;exact fun a b=>absurd b a
   ·simp[h];constructor
    ·rintro (rfl|⟨a,b⟩)
     ·exact⟨.inl rfl,h⟩
     ·exact⟨.inr a,b⟩
    ·rintro ⟨rfl|a,b⟩
     ·exact .inl rfl
     ·exact .inr ⟨a,b⟩
  |false=>
   cases hl:hY x s with
   |true=>
    rw[show (false || !true)=false from rfl,List.mem_append,List.mem_append,vT s y r false (fun h=>by cases h)];have hne:x≠s:=fun e=>by
     subst e;unfold hY at hl;exact absurd (of_decide_eq_true hl) (List.lt_irrefl _)
    rw[aE (by simp),aE hne];simp;constructor
    ·rintro (rfl|⟨a,b⟩|rfl)
     ·exact .inl ⟨.inl rfl,hne⟩
     ·exact .inl ⟨.inr a,b⟩
     ·exact .inr rfl
    ·rintro (⟨rfl|a,b⟩|rfl)
     ·exact .inl rfl
     ·exact .inr (.inl ⟨a,b⟩)
     ·exact .inr (.inr rfl)
   |false=>
    rw[show (false || !false)=true from rfl,oU,aF (by simp)];by_cases h:x=s
    ·subst h;simp;constructor
     ·rintro (rfl|⟨a,b⟩)
      ·exact .inr rfl
      ·exact .inl ⟨.inr a,b⟩
     ·rintro (⟨rfl|a,b⟩|rfl)
      ·exact .inl rfl
      ·exact .inr ⟨a,b⟩
      ·exact .inl rfl
    ·simp[h];constructor
     ·rintro (rfl|rfl|⟨a,b⟩)
      ·exact .inr rfl
      ·exact .inl ⟨.inl rfl,h⟩
      ·exact .inl ⟨.inr a,b⟩
     ·rintro (⟨rfl|a,b⟩|rfl)
      ·exact .inr (.inl rfl)
      ·exact .inr (.inr ⟨a,b⟩)
      ·exact .inl rfl
theorem Ez {l:List bH}{s y:bH}:y∈oF l s↔y∈l∨y=s:=by
 unfold oF;rw[vT s y l false (fun h=>by cases h)];constructor
 ·rintro (⟨a,_⟩|⟨_,a⟩)
  ·exact .inl a
  ·exact .inr a
 ·rintro (a|a)
  ·by_cases h:y=s
   ·exact .inr ⟨rfl,h⟩
   ·exact .inl ⟨a,h⟩
  ·exact .inr ⟨rfl,a⟩
theorem BX {l:List bH}(s:bH) (h:l.Pairwise PI):(oF l s).Pairwise PI:=by
 unfold oF
 induction l with
 |nil=>unfold mS;simp
 |cons x r ih=>
  obtain⟨h1,h2⟩:=List.pairwise_cons.1 h;unfold mS;cases hl:hY x s with
  |true=>
   have hne:x≠s:=fun e=>by
    subst e;unfold hY at hl;exact absurd (of_decide_eq_true hl) (List.lt_irrefl _)
   rw[aE (by simp),aE hne,show (false || !true)=false from rfl,List.nil_append,List.singleton_append,List.pairwise_cons];refine⟨fun y hy=>?_,ih h2⟩;rcases(vT s y r false (fun h=>by cases h)).1 hy with ⟨a,_⟩|⟨_,rfl⟩
   ·exact h1 y a
   ·exact⟨Ca hl,hne⟩
  |false=>
   rw[aF (by simp),show (false || !false)=true from rfl,oU];have hsx:=qR hl;have h3:(r.filter fun y=>!decide (y=s)).Pairwise PI:=h2.filter _;by_cases e:x=s
   ·subst e;rw[aF rfl,List.nil_append,List.singleton_append,List.pairwise_cons];exact⟨fun y hy=>h1 y ((List.mem_filter.1 hy).1),h3⟩
   ·rw[aE e,List.singleton_append,List.singleton_append,List.pairwise_cons,List.pairwise_cons];refine⟨fun y hy=>?_,fun y hy=>h1 y ((List.mem_filter.1 hy).1),h3⟩;rcases List.mem_cons.1 hy with rfl|hy
    ·exact⟨hsx,fun h=>e h.symm⟩
    ·have:=(List.mem_filter.1 hy).2;exact⟨Cd hsx (h1 y ((List.mem_filter.1 hy).1)).1,fun h=>by subst h;simp at this⟩
theorem Ex {l:List bH}(h:l.Pairwise PI):l.Pairwise leB:=h.imp And.left
theorem Iu {l:List bH}(h:l.Pairwise PI):l.Nodup:=h.imp And.right
theorem JH {l m:List bH}(hl:l.Pairwise PI) (hm:m.Nodup) (h:∀x,x∈l↔x∈m):l=dN m:=by
 refine Cp (Ex hl) (uE m) ?_;exact((List.perm_ext_iff_of_nodup (Iu hl) hm).2 h).trans (kM m).symm
def kP (H:List eC):List bH:=H.foldl (fun l h=>oF l h.box) []
theorem Ci:∀(H:List eC) (l:List bH),l.Pairwise PI→(H.foldl (fun l h=>oF l h.box) l).Pairwise PI∧∀x,x∈H.foldl (fun l h=>oF l h.box) l↔x∈l∨∃h∈H,h.box=x
 |[],l,hl=>⟨hl,fun x=>by simp⟩
 |h :: H,l,hl=>by
  obtain⟨h1,h2⟩:=Ci H (oF l h.box) (BX h.box hl);refine⟨h1,fun x=>?_⟩;rw[List.foldl_cons,h2 x,Ez];constructor
  ·rintro ((a|rfl)|⟨k,hk,e⟩)
   ·exact .inl a
   ·exact .inr ⟨h,bD ..,rfl⟩
   ·exact .inr ⟨k,aW _ hk,e⟩
  ·rintro (a|⟨k,hk,e⟩)
   ·exact .inl (.inl a)
   ·rcases List.mem_cons.1 hk with rfl|hk
    ·exact .inl (.inr e.symm)
    ·exact .inr ⟨k,hk,e⟩
theorem jV.mem {L:List cP}{H:List eC}(h:jV L H) (x:bH):x∈L.map cP.box↔ ∃k∈H,k.box=x:=by
 constructor
 ·intro hx;obtain⟨b,hb,rfl⟩:=aX.1 hx;obtain⟨_,h2⟩:=h.yes _ b (sR h.nd hb rfl);obtain⟨k,hk⟩:=List.exists_mem_of_ne_nil _ h2;unfold nE at hk;obtain⟨h3,h4⟩:=List.mem_filter.1 hk;exact⟨k,h3,by simpa using h4⟩
 ·rintro ⟨k,hk,rfl⟩;cases hl:gL cP.box L k.box with
  |none=>
   have h2:=h.no _ hl;have:k∈nE H k.box:=List.mem_filter.2 ⟨hk,by simp⟩;rw[h2]at this;cases this
  |some b=>
   obtain⟨h1,h2⟩:=lQ hl;exact aX.2 ⟨b,h1,h2⟩
theorem jV.boxes {L:List cP}{H:List eC}(h:jV L H):kP H=dN (L.map cP.box):=by
 obtain⟨h1,h2⟩:=Ci H [] .nil;refine JH h1 h.nd fun x=>?_
 rw[h.mem x];refine(h2 x).trans ?_;simp
theorem jV.len {L:List cP}{H:List eC}(h:jV L H):(kP H).length=L.length:=by
 rw[h.boxes,(kM _).length_eq,aJ]
def vL (H:List eC) (x:eC):Int:=if (!bT x.box || !bT x.to || !bT x.place)=true then 1 else if (!gK x.day)=true then 3 else if nE H x.box≠[] then 5 else if 4096≤(kP H).length then 7 else 0
def rY (L:List cP) (x:eC):Int:=if (!bT x.box || !bT x.to || !bT x.place)=true then 1 else if (!gK x.day)=true then 3 else if (gL cP.box L x.box).isSome=true then 5 else if 4096≤L.length then 7 else 0
theorem jV.begE {L:List cP}{H:List eC}(h:jV L H) (x:eC):rY L x=vL H x:=by
 unfold rY vL;rw[h.len];cases hl:gL cP.box L x.box with
 |none=>rw[h.no _ hl];simp
 |some b=>simp[(h.yes _ b hl).2]
def wM (x:eC):Bool:=(!bT x.box || !bT x.frm || !bT x.to || !bT x.place) || decide (x.frm=x.to)
def BZ (own:List eC) (x:eC):Int:=match own.getLast? with
 |none=>4
 |some l=>if l.to≠x.frm then 8 else if x.day < l.day then 6 else if 4096≤own.length then 7 else 0
def iD (H:List eC) (x:eC):Int:=if wM x=true then 1 else if (!gK x.day)=true then 3 else BZ (nE H x.box) x
def gZ (L:List cP) (x:eC):Int:=if wM x=true then 1 else if (!gK x.day)=true then 3 else match gL cP.box L x.box with
 |none=>4
 |some b=>BZ b.hist x
theorem jV.handE {L:List cP}{H:List eC}(h:jV L H) (x:eC):gZ L x=iD H x:=by
 unfold gZ iD;cases hl:gL cP.box L x.box with
 |none=>rw[h.no _ hl];rfl
 |some b=>dsimp only;rw[(h.yes _ b hl).1]
def eS:bH:=⟨#[]⟩
structure Oo where
 name:bH
 value:bH
structure Lw where
 kind:Int
 number:bH
 issuer:bH
 fields:List Oo
structure dQ where
 frm:bH
 to:bH
 number:Int
 kind:Int
 ack:Int
 deal:bH
 text:bH
 party:bH
 index:Int
 day:Int
 cur:bH
 amt:Int
 docs:List Lw
 boxes:List bH
def oN:dQ:=⟨eS,eS,0,0,0,eS,eS,eS,0,0,eS,0,[],[]⟩
structure De where
 number:bH
 seller:bH
 buyer:bH
 carrier:bH
 house:bH
 frm:bH
 to:bH
 boxes:List bH
structure Su where
 parties:List bH
 deals:List De
structure Dp where
 number:bH
 seller:bH
 buyer:bH
 house:bH
 frm:bH
 to:bH
 boxes:List bH
 state:Int
 rel:Bool
structure Cr where
 name:bH
 parties:List bH
 deals:List Dp
 reg:Rg
 cust:List cP
 deliv:List eC
structure Cs where
 S:List Int
 free:List Bool
 reg:Rg
 H:List eC
 D:List eC
def kY (l:List bH) (s:bH):Bool:=l.any fun q=>decide (q=s)
def PJ:bH:=⟨#[98,108,45]⟩
def gE (n:bH):bH:=PJ++n
def cN (d:De) (st:Int) (fr:Bool):Dp:=⟨d.number,d.seller,d.buyer,d.house,d.frm,d.to,d.boxes,st,fr⟩
def dP (s:Su) (name n:bH):Option Nat:=s.deals.findIdx? fun d=>decide (d.carrier=name) && decide (d.number=n)
def gQ (name:bH) (d:Dp) (day:Int):Bl:=⟨gE d.number,name,d.seller,d.frm,d.to,d.boxes,[],day,true⟩
def cU (frm to place:bH) (day:Int) (b:bH):eC:=⟨b,frm,to,place,day⟩
def cI (n:bH) (day:Int) (l:List dQ):List dQ:=l.map fun x=>{ x with deal:=n,day:=day }
def qC (C:Cr) (n:bH) (f:Dp→Dp):Cr:={ C with deals:=iT Dp.number C.deals n f }
def wW (st:Int) (d:Dp):Dp:={ d with state:=st }
def MI (d:Dp):Dp:={ d with rel:=true }
def fC (name:bH) (d:Dp) (day:Int):List cP→List bH→Option (List cP)
 |L,[]=>some L
 |L,b :: r=>if rY L (cU eS d.seller d.frm day b)≠0 then none else
  if gZ (L++[⟨b,[cU eS d.seller d.frm day b]⟩]) (cU d.seller name d.frm day b)≠0 then none else
  fC name d day (iT cP.box (L++[⟨b,[cU eS d.seller d.frm day b]⟩]) b (hC (cU d.seller name d.frm day b))) r
def eU (f:bH→eC):List cP→List bH→Option (List cP)
 |L,[]=>some L
 |L,b :: r=>if gZ L (f b)≠0 then none else eU f (iT cP.box L (f b).box (hC (f b))) r
def cJ (kind:Int) (d:Dp) (l:dQ) (day:Int):At:=⟨kind,l.index,day,gE d.number,l.frm,l.party,noBl⟩
where noBl:Bl:=⟨eS,eS,eS,eS,eS,[],[],0,false⟩
def eR (nm:Int→bH) (l:dQ):List dQ:=[{ oN with to:=l.frm,kind:=22,text:=nm l.kind,index:=l.index,party:=l.party }]
def sB (C:Cr) (d:Dp) (l:dQ) (day:Int):Cr:=if l.frm≠d.seller∨d.state≠0 then C else match fC C.name d day C.cust d.boxes with
 |none=>C
 |some L=>qC { C with cust:=L } d.number (wW 1)
def jN (R:Rg) (a:At):Int:=eM R.bills (cX a)
def AC (nm:Int→bH) (C:Cr) (d:Dp) (l:dQ) (day:Int):Cr×List dQ:=
 if kY C.parties l.party=false∨l.party=l.frm∨jN C.reg (cJ 1 d l day)≠0 then (C,eR nm l)
 else ({ C with reg:=xW C.reg (cJ 1 d l day) },[{ oN with to:=l.party,kind:=9,index:=l.index,party:=l.party }])
def Fi (nm:Int→bH) (C:Cr) (d:Dp) (l:dQ) (day:Int):Cr×List dQ:=
 if d.state≠3∨d.rel=false then (C,eR nm l) else match eU (cU C.name l.frm d.to day) C.cust d.boxes with
 |none=>(C,eR nm l)
 |some L=>if jN C.reg (cJ 2 d l day)≠0 then (C,eR nm l) else
  (qC { C with cust:=L,deliv:=C.deliv++d.boxes.map (cU C.name l.frm d.to day),reg:=xW C.reg (cJ 2 d l day) } d.number (wW 4),[{ oN with to:=l.frm,kind:=21,boxes:=d.boxes }])
def Fx (C:Cr) (d:Dp) (l:dQ):Cr:=if d.house≠eS∧l.frm=d.house then qC C d.number MI else C
def sL (nm:Int→bH) (C:Cr) (d:Dp) (l:dQ) (day:Int):Cr×List dQ:=
 if jN C.reg (cJ 3 d l day)≠0 then (C,eR nm l) else ({ C with reg:=xW C.reg (cJ 3 d l day) },[])
def sF (nm:Int→bH) (C:Cr) (d:Dp) (l:dQ) (day:Int):Cr×List dQ:=
 if jN C.reg (cJ 4 d l day)≠0 then (C,eR nm l) else ({ C with reg:=xW C.reg (cJ 4 d l day) },[{ oN with to:=l.frm,kind:=25,index:=l.index }])
def rH (nm:Int→bH) (C:Cr) (d:Dp) (l:dQ) (day:Int):Cr×List dQ:=
 if l.kind=4 then (sB C d l day,[])
 else if l.kind=8 then AC nm C d l day
 else if l.kind=20 then Fi nm C d l day
 else if l.kind=19 then (Fx C d l,[])
 else if l.kind=23 then sL nm C d l day
 else if l.kind=24 then sF nm C d l day
 else (C,[])
def nO (nm:Int→bH) (C:Cr) (l:dQ) (day:Int):Cr×List dQ:=match gL Dp.number C.deals l.deal with
 |none=>(C,[])
 |some d=>if kY C.parties l.frm=false then (C,[]) else ((rH nm C d l day).1,cI d.number day (rH nm C d l day).2)
def uR (lad:Bl→Lw) (C:Cr) (d:Dp) (day:Int):Cr×List dQ×Int:=
 if gP ⟨C.reg,gQ C.name d day,d.seller⟩≠0 then (C,[],gP ⟨C.reg,gQ C.name d day,d.seller⟩)
 else (qC { C with reg:=jY ⟨C.reg,gQ C.name d day,d.seller⟩ } d.number (wW 2),cI d.number day [{ oN with to:=d.seller,kind:=5,docs:=[lad (gQ C.name d day)] }],0)
def JB (C:Cr) (d:Dp) (day:Int):Cr×List dQ×Int:=(qC C d.number (wW 3),cI d.number day [{ oN with to:=d.buyer,kind:=26,boxes:=d.boxes }],0)
def lH (lad:Bl→Lw) (C:Cr) (kind:Int) (deal:bH) (day:Int):Cr×List dQ×Int:=
 if kind≠5∧kind≠6 then (C,[],1) else match gL Dp.number C.deals deal with
 |none=>(C,[],4)
 |some d=>if d.state≠(if kind=5 then 1 else 2) then (C,[],9) else if kind=5 then uR lad C d day else JB C d day
def oQ (x:Cs) (i:Nat) (st:Int):Cs:={ x with S:=x.S.set i st }
def kX (name:bH) (d:De) (day:Int):List eC→List bH→Option (List eC)
 |H,[]=>some H
 |H,b :: r=>if vL H (cU eS d.seller d.frm day b)≠0 then none else
  if iD (H++[cU eS d.seller d.frm day b]) (cU d.seller name d.frm day b)≠0 then none else
  kX name d day (H++[cU eS d.seller d.frm day b]++[cU d.seller name d.frm day b]) r
def iE (f:bH→eC):List eC→List bH→Option (List eC)
 |H,[]=>some H
 |H,b :: r=>if iD H (f b)≠0 then none else iE f (H++[f b]) r
def eY (kind:Int) (d:De) (l:dQ) (day:Int):At:=⟨kind,l.index,day,gE d.number,l.frm,l.party,cJ.noBl⟩
def fA (nm:Int→bH) (s:Su) (name:bH) (x:Cs) (l:dQ) (day:Int):Cs×List dQ:=match dP s name l.deal with
 |none=>(x,[])
 |some i=>if kY s.parties l.frm=false then (x,[]) else match s.deals[i]?,x.S[i]?,x.free[i]? with
  |some d,some st,some fr=>
   if l.kind=4 then (if l.frm=d.seller∧st=0 then (match kX name d day x.H d.boxes with
    |none=>x
    |some H=>oQ { x with H:=H } i 1) else x,[])
   else if l.kind=19 then (if d.house≠eS∧l.frm=d.house then { x with free:=x.free.set i true } else x,[])
   else if l.kind=8∨l.kind=20∨l.kind=23∨l.kind=24 then
    let k:Int:=if l.kind=8 then 1 else if l.kind=20 then 2 else if l.kind=23 then 3 else 4
    let a:=eY k d l day
    if (kF x.reg a).2≠0∨(k=1∧(kY s.parties l.party=false∨l.party=l.frm)) then (x,cI l.deal day (eR nm l))
    else if k=2 then match iE (cU name l.frm d.to day) x.H d.boxes with
     |none=>(x,cI l.deal day (eR nm l))
     |some H=>if st≠3∨fr=false then (x,cI l.deal day (eR nm l)) else
      (oQ { x with D:=x.D++H.drop x.H.length,H:=H,reg:=(kF x.reg a).1 } i 4,cI l.deal day [{ oN with to:=l.frm,kind:=21,boxes:=d.boxes }])
    else ({ x with reg:=(kF x.reg a).1 },cI l.deal day (if k=1 then [{ oN with to:=l.party,kind:=9,index:=l.index,party:=l.party }] else if k=4 then [{ oN with to:=l.frm,kind:=25,index:=l.index }] else []))
   else (x,[])
  |_,_,_=>(x,[])
def kZ (lad:Bl→Lw) (s:Su) (name:bH) (x:Cs) (kind:Int) (deal:bH) (day:Int):Cs×List dQ×Int:=
 if kind≠5∧kind≠6 then (x,[],1) else match dP s name deal with
 |none=>(x,[],4)
 |some i=>match s.deals[i]?,x.S[i]? with
  |some d,some st=>
   if kind=6 then (if st≠2 then (x,[],9) else (oQ x i 3,cI d.number day [{ oN with to:=d.buyer,kind:=26,boxes:=d.boxes }],0))
   else if st≠1 then (x,[],9) else
    let b:Bl:=gQ name (cN d st true) day
    if gP ⟨x.reg,b,d.seller⟩≠0 then (x,[],gP ⟨x.reg,b,d.seller⟩)
    else ({ oQ x i 2 with reg:=jY ⟨x.reg,b,d.seller⟩ },cI d.number day [{ oN with to:=d.seller,kind:=5,docs:=[lad b] }],0)
  |_,_=>(x,[],4)
structure fJ (s:Su) (C:Cr) (x:Cs):Prop where
 par:∀p,kY C.parties p=kY s.parties p
 nd:(C.deals.map Dp.number).Nodup
 lenS:x.S.length=s.deals.length
 lenF:x.free.length=s.deals.length
 no:∀n,dP s C.name n=none→gL Dp.number C.deals n=none
 yes:∀n i d st fr,dP s C.name n=some i→s.deals[i]?=some d→x.S[i]?=some st→x.free[i]?=some fr→gL Dp.number C.deals n=some (cN d st fr)
 reg:C.reg=x.reg
 inv:∃n,vN n x.reg
 cust:jV C.cust x.H
 del:C.deliv=x.D
theorem nW {s:Su}{name n:bH}{i:Nat}(h:dP s name n=some i):∃d,s.deals[i]?=some d∧d.carrier=name∧d.number=n:=by
 unfold dP at h;rw[List.findIdx?_eq_some_iff_getElem]at h;obtain⟨hi,h1,_⟩:=h;simp only[aO,decide_eq_true_eq]at h1;exact⟨_,aB hi,h1.1,h1.2⟩
theorem fJ.at {s:Su}{C:Cr}{x:Cs}(h:fJ s C x) {n:bH}{i:Nat}(hi:dP s C.name n=some i):∃d st fr,s.deals[i]?=some d∧x.S[i]?=some st∧x.free[i]?=some fr∧d.number=n∧gL Dp.number C.deals n=some (cN d st fr):=by
 obtain⟨d,hd,_,hn⟩:=nW hi;have hil:=(aA.1 hd).1;obtain⟨st,h1⟩:∃st,x.S[i]?=some st:=⟨_,aB (by rw[h.lenS];exact hil)⟩
 obtain⟨fr,h2⟩:∃fr,x.free[i]?=some fr:=⟨_,aB (by rw[h.lenF];exact hil)⟩
 exact⟨d,_,_,hd,h1,h2,hn,h.yes n i d _ _ hi hd h1 h2⟩
theorem fJ.perm {s:Su}{C:Cr}{x:Cs}(h:fJ s C x) {L:List cP}(p:C.cust.Perm L):fJ s { C with cust:=L } x:=⟨h.par,h.nd,h.lenS,h.lenF,h.no,h.yes,h.reg,h.inv,h.cust.perm p,h.del⟩
theorem fJ.upd {s:Su}{C:Cr}{x:Cs}(h:fJ s C x) {n:bH}{i:Nat}(hi:dP s C.name n=some i) {f:Dp→Dp}(hf:∀b,(f b).number=b.number) {S:List Int}{F:List Bool}(hS:S.length=s.deals.length) (hF:F.length=s.deals.length)
  (ho:∀j,j≠i→S[j]?=x.S[j]?∧F[j]?=x.free[j]?)
  (he:∀d st fr st' fr',s.deals[i]?=some d→x.S[i]?=some st→x.free[i]?=some fr→S[i]?=some st'→F[i]?=some fr'→f (cN d st fr)=cN d st' fr'):fJ s (qC C n f) { x with S:=S,free:=F }:=by
 refine⟨h.par,?_,hS,hF,fun m hm=>?_,fun m j d st fr hj hd hs hf2=>?_,h.reg,h.inv,h.cust,h.del⟩
 ·show ((iT Dp.number C.deals n f).map Dp.number).Nodup;rw[wJ _ _ hf];exact h.nd
 ·show gL Dp.number (iT Dp.number C.deals n f) m=none;rw[tV _ _ _ hf,h.no m hm]
  split<;>rfl
 ·show gL Dp.number (iT Dp.number C.deals n f) m=some (cN d st fr);have hj2:dP s C.name m=some j:=hj;clear hj;rw[tV _ _ _ hf];by_cases e:m=n
  ·subst e;cases hi.symm.trans hj2;obtain⟨d0,st0,fr0,g1,g2,g3,g4,g5⟩:=h.at hi;rw[aF rfl,g5,Option.map_some];rw[hd]at g1;cases g1;rw[he d st0 fr0 st fr hd g2 g3 hs hf2]
  ·rw[aE e];have hji:j≠i:=fun e2=>by
    subst e2;obtain⟨_,g1,_,g2⟩:=nW hj2;obtain⟨_,g3,_,g4⟩:=nW hi;rw[g1]at g3;cases g3;exact e (g2.symm.trans g4)
   obtain⟨e1,e2⟩:=ho j hji;exact h.yes m j d st fr hj2 hd (by rw[←e1];exact hs) (by rw[←e2];exact hf2)
theorem Nw {α:Type}{l:List α}{i:Nat}{a b:α}(h:(l.set i a)[i]?=some b):b=a:=by
 rw[List.getElem?_set_self' ]at h;cases hl:l[i]? with
 |none=>rw[hl]at h;cases h
 |some y=>rw[hl]at h;cases h;rfl
theorem fJ.state {s:Su}{C:Cr}{x:Cs}(h:fJ s C x) {n:bH}{i:Nat}(hi:dP s C.name n=some i) (st:Int):fJ s (qC C n (wW st)) (oQ x i st):=by
 refine h.upd (f:=wW st) hi (fun _=>rfl) (S:=x.S.set i st) (F:=x.free) (by rw[bA];exact h.lenS) h.lenF (fun j hj=>⟨aU (fun e=>hj e.symm),rfl⟩) fun d st0 fr st' fr' _ _ h3 h4 h5=>?_
 rw[Nw h4];rw[h3]at h5;cases h5;rfl
theorem fJ.free {s:Su}{C:Cr}{x:Cs}(h:fJ s C x) {n:bH}{i:Nat}(hi:dP s C.name n=some i):fJ s (qC C n MI) { x with free:=x.free.set i true }:=by
 refine h.upd (f:=MI) hi (fun _=>rfl) (S:=x.S) (F:=x.free.set i true) h.lenS (by rw[bA];exact h.lenF) (fun j hj=>⟨rfl,aU (fun e=>hj e.symm)⟩) fun d st0 fr st' fr' _ h2 _ h4 h5=>?_
 rw[Nw h5];rw[h2]at h4;cases h4;rfl
theorem zR (name:bH) (d:De) (st:Int) (fr:Bool) (day:Int):∀(bs:List bH) (L:List cP) (H:List eC),jV L H →
  (fC name (cN d st fr) day L bs=none∧kX name d day H bs=none)∨∃L' H',fC name (cN d st fr) day L bs=some L'∧kX name d day H bs=some H'∧jV L' H'
 |[],L,H,h=>.inr ⟨L,H,rfl,rfl,h⟩
 |b :: r,L,H,h=>by
  obtain⟨x1,hx1⟩:∃x,x=cU eS d.seller d.frm day b:=⟨_,rfl⟩
  obtain⟨x2,hx2⟩:∃x,x=cU d.seller name d.frm day b:=⟨_,rfl⟩
  have b1:x1.box=b:=by rw[hx1];rfl
  have b2:x2.box=b:=by rw[hx2];rfl
  have g1:fC name (cN d st fr) day L (b :: r)=if rY L x1≠0 then none else if gZ (L++[⟨b,[x1]⟩]) x2≠0 then none else fC name (cN d st fr) day (iT cP.box (L++[⟨b,[x1]⟩]) b (hC x2)) r:=by subst hx1 hx2;rfl
  have g2:kX name d day H (b :: r)=if vL H x1≠0 then none else if iD (H++[x1]) x2≠0 then none else kX name d day (H++[x1]++[x2]) r:=by subst hx1 hx2;rfl
  clear hx1 hx2;rw[g1,g2,h.begE x1];by_cases h1:vL H x1≠0
  ·rw[aF h1,aF h1];exact .inl ⟨rfl,rfl⟩
  ·rw[aE h1,aE h1];have hn:gL cP.box L x1.box=none:=by
    have h0:vL H x1=0:=Decidable.not_not.1 h1;unfold vL at h0;cases hl:gL cP.box L x1.box with
    |none=>rfl
    |some y=>
     exfalso;have h3:=(h.yes _ y hl).2;rw[aF h3]at h0
     split at h0
     ·cases h0
     split at h0<;>cases h0
   have hc:=h.begin (x:=x1) hn;rw[b1]at hc;rw[hc.handE x2];by_cases h2:iD (H++[x1]) x2≠0
   ·rw[aF h2,aF h2];exact .inl ⟨rfl,rfl⟩
   ·rw[aE h2,aE h2];have hl2:gL cP.box (L++[⟨b,[x1]⟩]) x2.box=some ⟨b,[x1]⟩:=by
     rw[yW,b2];rw[b1]at hn;rw[hn];show gL cP.box [(⟨b,[x1]⟩:cP)] b=_;unfold gL;exact List.find?_cons_of_pos (p:=fun c:cP=>decide (c.box=b)) (aH rfl)
    have hc2:=hc.hand (x:=x2) hl2;rw[b2]at hc2;exact zR name d st fr day r _ _ hc2
theorem KU {L:List cP}{x:eC}(h:gZ L x=0):∃b,gL cP.box L x.box=some b:=by
 unfold gZ at h
 split at h
 ·cases h
 split at h
 ·cases h
 split at h
 ·cases h
 ·rename_i b hb;exact⟨b,hb⟩
theorem qG (f:bH→eC):∀(bs:List bH) (L:List cP) (H:List eC),jV L H →
  (eU f L bs=none∧iE f H bs=none)∨∃L',eU f L bs=some L'∧iE f H bs=some (H++bs.map f)∧jV L' (H++bs.map f)
 |[],L,H,h=>.inr ⟨L,rfl,by rw[List.map_nil,List.append_nil];rfl,by rw[List.map_nil,List.append_nil];exact h⟩
 |b :: r,L,H,h=>by
  have g1:eU f L (b :: r)=if gZ L (f b)≠0 then none else eU f (iT cP.box L (f b).box (hC (f b))) r:=rfl
  have g2:iE f H (b :: r)=if iD H (f b)≠0 then none else iE f (H++[f b]) r:=rfl
  rw[g1,g2,h.handE (f b)];by_cases h1:iD H (f b)≠0
  ·rw[aF h1,aF h1];exact .inl ⟨rfl,rfl⟩
  ·rw[aE h1,aE h1];obtain⟨y,hy⟩:=KU ((h.handE (f b)).trans (Decidable.not_not.1 h1));have:=qG f r _ _ (h.hand hy);rw[List.map_cons,show H++f b :: r.map f=H++[f b]++r.map f by simp];exact this
set_option maxHeartbeats 2000000
theorem fJ.reg_act {s:Su}{C:Cr}{x:Cs}(h:fJ s C x) (a:At) (hk:0≤a.kind∧a.kind≤5) (hb:xS a.b):fJ s { C with reg:=xW C.reg a } { x with reg:=(kF x.reg a).1 }:=by
 obtain⟨n,hn⟩:=h.inv;refine⟨h.par,h.nd,h.lenS,h.lenF,h.no,h.yes,?_,⟨n+1,O0 hn hk hb⟩,h.cust,h.del⟩;show xW C.reg a=(kF x.reg a).1;rw[h.reg,TC hn]
theorem CO {R:Rg}{a:At}(h:¬a.kind=0):jN R a=(kF R a).2:=by rw[Dc h];rfl
theorem mZ:xS cJ.noBl:=⟨aI _,aI _⟩
theorem fJ.take {s:Su}{C:Cr}{x:Cs}(nm:Int→bH) (h:fJ s C x) (l:dQ) (day:Int) :
  fJ s (nO nm C l day).1 (fA nm s C.name x l day).1∧(nO nm C l day).2=(fA nm s C.name x l day).2∧(nO nm C l day).1.name=C.name:=by
 unfold nO fA;cases hi:dP s C.name l.deal with
 |none=>
  rw[h.no _ hi];exact⟨h,rfl,rfl⟩
 |some i=>
  obtain⟨d,st,fr,h1,h2,h3,h4,h5⟩:=h.at hi;rw[h5];dsimp only;rw[h1,h2,h3,h.par];dsimp only;cases hp:kY s.parties l.frm with
  |false=>
   rw[aF rfl,aF rfl];exact⟨h,rfl,rfl⟩
  |true=>
  rw[aE (by decide),aE (by decide)];dsimp only;unfold rH;have hnum:(cN d st fr).number=l.deal:=h4;have hbn:gE d.number=gE l.deal:=by rw[h4]
  rw[hnum];by_cases k4:l.kind=4
  ·rw[aF k4,aF k4];refine⟨?_,rfl,?_⟩
   ·show fJ s (sB C (cN d st fr) l day) _;unfold sB;by_cases hc:l.frm=d.seller∧st=0
    ·rw[aE (show ¬(l.frm≠(cN d st fr).seller∨(cN d st fr).state≠0) from fun k=>k.elim (fun k=>k hc.1) fun k=>k hc.2),aF hc];rcases zR C.name d st fr day d.boxes C.cust x.H h.cust with ⟨e1,e2⟩|⟨L,H,e1,e2,e3⟩
     ·rw[show fC C.name (cN d st fr) day C.cust (cN d st fr).boxes=none from e1,e2];exact h
     ·rw[show fC C.name (cN d st fr) day C.cust (cN d st fr).boxes=some L from e1,e2];have h9:fJ s { C with cust:=L } { x with H:=H }:=⟨h.par,h.nd,h.lenS,h.lenF,h.no,h.yes,h.reg,h.inv,e3,h.del⟩
      rw[show (cN d st fr).number=l.deal from h4];exact h9.state hi 1
    ·rw[aF (show l.frm≠(cN d st fr).seller∨(cN d st fr).state≠0 from by
      by_cases k:l.frm=d.seller
      ·exact .inr fun k2=>hc ⟨k,k2⟩
      ·exact .inl k),aE hc]
     exact h
   ·show (sB C (cN d st fr) l day).name=C.name;unfold sB
    split
    ·rfl
    ·split<;>rfl
  rw[aE k4,aE k4];by_cases k8:l.kind=8
  ·rw[aF k8,aE (by omega),aF (.inl k8),aF k8];show fJ s (AC nm C (cN d st fr) l day).1 _∧cI l.deal day (AC nm C (cN d st fr) l day).2=_∧_;unfold AC;have e0:cJ 1 (cN d st fr) l day=eY 1 d l day:=rfl;have ea:jN C.reg (cJ 1 (cN d st fr) l day)=(kF x.reg (eY 1 d l day)).2:=by rw[e0,h.reg];exact CO (show ¬(1:Int)=0 by decide)
   rw[ea,h.par];by_cases hc:kY s.parties l.party=false∨l.party=l.frm∨(kF x.reg (eY 1 d l day)).2≠0
   ·rw[aF hc,aF (by
     rcases hc with hc|hc|hc
     ·exact .inr ⟨rfl,.inl hc⟩
     ·exact .inr ⟨rfl,.inr hc⟩
     ·exact .inl hc)]
    exact⟨h,rfl,rfl⟩
   ·rw[aE hc,aE (by
     rintro (k|⟨_,k|k⟩)
     ·exact hc (.inr (.inr k))
     ·exact hc (.inl k)
     ·exact hc (.inr (.inl k))),aE (by decide),aF rfl]
    exact⟨e0 ▸ h.reg_act (eY 1 d l day) ⟨show (0:Int)≤1 by decide,show (1:Int)≤5 by decide⟩ mZ,rfl,rfl⟩
  rw[aE k8];by_cases k20:l.kind=20
  ·rw[aF k20,aE (by omega),aF (.inr (.inl k20)),aE k8,aF k20];show fJ s (Fi nm C (cN d st fr) l day).1 _∧cI l.deal day (Fi nm C (cN d st fr) l day).2=_∧_;unfold Fi;have e0:cJ 2 (cN d st fr) l day=eY 2 d l day:=rfl;have ea:jN C.reg (cJ 2 (cN d st fr) l day)=(kF x.reg (eY 2 d l day)).2:=by rw[e0,h.reg];exact CO (show ¬(2:Int)=0 by decide)
   rw[ea];have hs:=qG (cU C.name l.frm d.to day) d.boxes C.cust x.H h.cust;have er:¬((2:Int)=1∧(kY s.parties l.party=false∨l.party=l.frm)):=fun k=>absurd k.1 (by decide)
   by_cases hst:st≠3∨fr=false
   ·rw[aF (show (cN d st fr).state≠3∨(cN d st fr).rel=false from hst)];by_cases hd:(kF x.reg (eY 2 d l day)).2≠0
    ·rw[aF (.inl hd)];exact⟨h,rfl,rfl⟩
    ·rw[aE (fun k=>k.elim hd er),aF rfl];rcases hs with ⟨_,e2⟩|⟨L,_,e2,_⟩
     ·rw[e2];exact⟨h,rfl,rfl⟩
     ·rw[e2];dsimp only;rw[aF hst];exact⟨h,rfl,rfl⟩
   ·rw[aE (show ¬((cN d st fr).state≠3∨(cN d st fr).rel=false) from hst)];rcases hs with ⟨e1,e2⟩|⟨L,e1,e2,e3⟩
    ·rw[show eU (cU C.name l.frm (cN d st fr).to day) C.cust (cN d st fr).boxes=none from e1];by_cases hd:(kF x.reg (eY 2 d l day)).2≠0
     ·rw[aF (.inl hd)];exact⟨h,rfl,rfl⟩
     ·rw[aE (fun k=>k.elim hd er),aF rfl,e2];exact⟨h,rfl,rfl⟩
    ·rw[show eU (cU C.name l.frm (cN d st fr).to day) C.cust (cN d st fr).boxes=some L from e1];dsimp only;by_cases hd:(kF x.reg (eY 2 d l day)).2≠0
     ·rw[aF hd,aF (.inl hd)];exact⟨h,rfl,rfl⟩
     ·rw[aE hd,aE (fun k=>k.elim hd er),aF rfl,e2];dsimp only;rw[aE hst];have hr:=h.reg_act (eY 2 d l day) ⟨show (0:Int)≤2 by decide,show (2:Int)≤5 by decide⟩ mZ;have h9:fJ s { C with cust:=L,deliv:=C.deliv++d.boxes.map (cU C.name l.frm d.to day),reg:=xW C.reg (eY 2 d l day) } { x with D:=x.D++(x.H++d.boxes.map (cU C.name l.frm d.to day)).drop x.H.length,H:=x.H++d.boxes.map (cU C.name l.frm d.to day),reg:=(kF x.reg (eY 2 d l day)).1 }:=
       ⟨h.par,h.nd,h.lenS,h.lenF,h.no,h.yes,hr.reg,hr.inv,e3,by show C.deliv++_=_;rw[h.del,List.drop_left]⟩
      refine⟨?_,rfl,rfl⟩;rw[show (cN d st fr).number=l.deal from h4];exact h9.state hi 4
  rw[aE k20];by_cases k19:l.kind=19
  ·rw[aF k19,aF k19];refine⟨?_,rfl,?_⟩
   ·show fJ s (Fx C (cN d st fr) l) _;unfold Fx;by_cases hc:d.house≠eS∧l.frm=d.house
    ·rw[aF (show (cN d st fr).house≠eS∧l.frm=(cN d st fr).house from hc),aF hc,show (cN d st fr).number=l.deal from h4];exact h.free hi
    ·rw[aE (show ¬((cN d st fr).house≠eS∧l.frm=(cN d st fr).house) from hc),aE hc];exact h
   ·show (Fx C (cN d st fr) l).name=C.name;unfold Fx
    split<;>rfl
  rw[aE k19,aE k19];by_cases k23:l.kind=23
  ·rw[aF k23,aF (.inr (.inr (.inl k23))),aE k8,aE k20,aF k23];show fJ s (sL nm C (cN d st fr) l day).1 _∧cI l.deal day (sL nm C (cN d st fr) l day).2=_∧_;unfold sL;have e0:cJ 3 (cN d st fr) l day=eY 3 d l day:=rfl;have ea:jN C.reg (cJ 3 (cN d st fr) l day)=(kF x.reg (eY 3 d l day)).2:=by rw[e0,h.reg];exact CO (show ¬(3:Int)=0 by decide)
   rw[ea];by_cases hd:(kF x.reg (eY 3 d l day)).2≠0
   ·rw[aF hd,aF (.inl hd)];exact⟨h,rfl,rfl⟩
   ·rw[aE hd,aE (fun k=>k.elim hd fun k=>absurd k.1 (by decide)),aE (by decide),aE (by decide),aE (by decide)];exact⟨e0 ▸ h.reg_act (eY 3 d l day) ⟨show (0:Int)≤3 by decide,show (3:Int)≤5 by decide⟩ mZ,rfl,rfl⟩
  rw[aE k23];by_cases k24:l.kind=24
  ·rw[aF k24,aF (.inr (.inr (.inr k24))),aE k8,aE k20,aE k23];show fJ s (sF nm C (cN d st fr) l day).1 _∧cI l.deal day (sF nm C (cN d st fr) l day).2=_∧_;unfold sF;have e0:cJ 4 (cN d st fr) l day=eY 4 d l day:=rfl;have ea:jN C.reg (cJ 4 (cN d st fr) l day)=(kF x.reg (eY 4 d l day)).2:=by rw[e0,h.reg];exact CO (show ¬(4:Int)=0 by decide)
   rw[ea];by_cases hd:(kF x.reg (eY 4 d l day)).2≠0
   ·rw[aF hd,aF (.inl hd)];exact⟨h,rfl,rfl⟩
   ·rw[aE hd,aE (fun k=>k.elim hd fun k=>absurd k.1 (by decide)),aE (by decide),aE (by decide),aF rfl];exact⟨e0 ▸ h.reg_act (eY 4 d l day) ⟨show (0:Int)≤4 by decide,show (4:Int)≤5 by decide⟩ mZ,rfl,rfl⟩
  ·rw[aE k24,aE (fun k=>by rcases k with k|k|k|k<;>contradiction)];exact⟨h,rfl,rfl⟩
def UO (d:De):Prop:=d.boxes.length≤70
theorem fJ.car {s:Su}{C:Cr}{x:Cs}(lad:Bl→Lw) (h:fJ s C x) (hb:∀d∈s.deals,UO d) (kind:Int) (deal:bH) (day:Int) :
  fJ s (lH lad C kind deal day).1 (kZ lad s C.name x kind deal day).1∧(lH lad C kind deal day).2=(kZ lad s C.name x kind deal day).2∧(lH lad C kind deal day).1.name=C.name:=by
 unfold lH kZ;by_cases hk:kind≠5∧kind≠6
 ·rw[aF hk,aF hk];exact⟨h,rfl,rfl⟩
 rw[aE hk,aE hk];cases hi:dP s C.name deal with
 |none=>
  rw[h.no _ hi];exact⟨h,rfl,rfl⟩
 |some i=>
  obtain⟨d,st,fr,h1,h2,h3,h4,h5⟩:=h.at hi;have hbd:=hb d (aC h1);unfold UO at hbd;rw[h5];dsimp only;rw[h1,h2];dsimp only;by_cases k6:kind=6
  ·subst k6;simp only[aE (show ¬(6:Int)=5 by decide),↓reduceIte];by_cases hs:st=2
   ·rw[aE (show ¬(cN d st fr).state≠2 from fun k=>k hs),aE (show ¬st≠2 from fun k=>k hs)];refine⟨?_,rfl,rfl⟩;show fJ s (qC C (cN d st fr).number (wW 3)) _;rw[show (cN d st fr).number=deal from h4];exact h.state hi 3
   ·rw[aF (show (cN d st fr).state≠2 from hs),aF hs];exact⟨h,rfl,rfl⟩
  ·have k5:kind=5:=by
    by_cases k:kind=5
    ·exact k
    ·exact absurd ⟨k,k6⟩ hk
   subst k5;simp only[aE (show ¬(5:Int)=6 by decide),↓reduceIte];by_cases hs:st=1
   ·rw[aE (show ¬(cN d st fr).state≠1 from fun k=>k hs),aE (show ¬st≠1 from fun k=>k hs)];unfold uR;have eb:gQ C.name (cN d st fr) day=gQ C.name (cN d st true) day:=rfl;rw[eb,h.reg];show fJ s (ite _ _ _:Cr×List dQ×Int).1 (ite (gP ⟨x.reg,gQ C.name (cN d st true) day,d.seller⟩≠0) _ _:Cs×List dQ×Int).1∧_;have es:(cN d st fr).seller=d.seller:=rfl;rw[es];by_cases he:gP ⟨x.reg,gQ C.name (cN d st true) day,d.seller⟩=0
    ·rw[aE (fun k=>k he),aE (fun k=>k he)];refine⟨?_,rfl,rfl⟩;obtain⟨n,hn⟩:=h.inv;have hi2:vN n (jY ⟨x.reg,gQ C.name (cN d st true) day,d.seller⟩):=D6 hn ⟨by show d.boxes.length≤5000;omega,by show ([]:List bH).length≤5000;exact aI _⟩;have h9:fJ s { C with reg:=jY ⟨x.reg,gQ C.name (cN d st true) day,d.seller⟩ } { x with reg:=jY ⟨x.reg,gQ C.name (cN d st true) day,d.seller⟩ }:=⟨h.par,h.nd,h.lenS,h.lenF,h.no,h.yes,rfl,⟨n,hi2⟩,h.cust,h.del⟩
     rw[show (cN d st fr).number=deal from h4];exact h9.state hi 2
    ·rw[aF he,aF he];exact⟨h,rfl,rfl⟩
   ·rw[aF (show (cN d st fr).state≠1 from hs),aF hs];exact⟨h,rfl,rfl⟩
set_option maxHeartbeats 1000000
def R6:List UInt8:=[100,101,97,108,32]
def Sc:List UInt8:=[111,114,105,103,105,110,97,108,32]
def Xq:List UInt8:=[98,111,120,32]
def Oc (b:Bool):List UInt8:=if b=true then [114,101,108,101,97,115,101,100] else [104,101,108,100]
def vX (z:Int):List UInt8:=if z=0 then [110,111,116,104,105,110,103] else if z=1 then [116,97,107,101,110] else if z=2 then [97,98,111,97,114,100] else if z=3 then [108,97,110,100,101,100] else [100,101,108,105,118,101,114,101,100]
def zZ (z:Int):List UInt8:=if z=0 then [108,105,118,101] else if z=1 then [100,111,110,101] else if z=2 then [118,111,105,100] else if z=3 then [108,111,115,116] else [114,101,116,105,114,101,100]
def xX (d:Dp):List UInt8:=R6++(jM d.number++(32 :: (vX d.state++(32 :: (Oc d.rel++[10])))))
def lM (n:bH) (k:UInt8) (o:Og):List UInt8:=Sc++(jM n++(32 :: k :: 32 :: (zZ o.state++(32 :: (jM o.holder++[10])))))
def Ef (y:Br):List UInt8:=lM y.b.number 48 y.o0++(lM y.b.number 49 y.o1++lM y.b.number 50 y.o2)
def T6 (b:bH) (own:List eC):List UInt8:=match own.getLast? with
 |some h=>Xq++(jM b++(32 :: (jM h.to++(32 :: (jM h.place++[10])))))
 |none=>[]
def FY (L:List Dp) (n:bH):List UInt8:=match gL Dp.number L n with
 |some d=>xX d
 |none=>[]
def Pc (L:List Br) (n:bH):List UInt8:=match qF L n with
 |some y=>Ef y
 |none=>[]
def Rf (L:List cP) (b:bH):List UInt8:=match gL cP.box L b with
 |some c=>T6 b c.hist
 |none=>[]
def OI (C:Cr):List UInt8:=(dN (C.deals.map Dp.number)).flatMap (FY C.deals)++((gM C.reg.bills fun _=>true).flatMap (Pc C.reg.bills)++(dN (C.cust.map cP.box)).flatMap (Rf C.cust))
def Wc (s:Su) (name:bH):List bH:=s.deals.foldl (fun l d=>if d.carrier=name then oF l d.number else l) []
theorem An (name:bH):∀(D:List De) (l:List bH),l.Pairwise PI→(D.foldl (fun l d=>if d.carrier=name then oF l d.number else l) l).Pairwise PI∧∀x,x∈D.foldl (fun l d=>if d.carrier=name then oF l d.number else l) l↔x∈l∨∃d∈D,d.carrier=name∧d.number=x
 |[],l,hl=>⟨hl,fun x=>by simp⟩
 |d :: D,l,hl=>by
  rw[List.foldl_cons];by_cases hc:d.carrier=name
  ·rw[aF hc];obtain⟨h1,h2⟩:=An name D (oF l d.number) (BX d.number hl);refine⟨h1,fun x=>(h2 x).trans ?_⟩;rw[Ez];constructor
   ·rintro ((a|rfl)|⟨k,hk,e⟩)
    ·exact .inl a
    ·exact .inr ⟨d,bD ..,hc,rfl⟩
    ·exact .inr ⟨k,aW _ hk,e⟩
   ·rintro (a|⟨k,hk,e1,e2⟩)
    ·exact .inl (.inl a)
    ·rcases List.mem_cons.1 hk with rfl|hk
     ·exact .inl (.inr e2.symm)
     ·exact .inr ⟨k,hk,e1,e2⟩
  ·rw[aE hc];obtain⟨h1,h2⟩:=An name D l hl;refine⟨h1,fun x=>(h2 x).trans ?_⟩;constructor
   ·rintro (a|⟨k,hk,e⟩)
    ·exact .inl a
    ·exact .inr ⟨k,aW _ hk,e⟩
   ·rintro (a|⟨k,hk,e1,e2⟩)
    ·exact .inl a
    ·rcases List.mem_cons.1 hk with rfl|hk
     ·exact absurd e1 hc
     ·exact .inr ⟨k,hk,e1,e2⟩
theorem Gy {s:Su}{name n:bH}:(∃i,dP s name n=some i)↔ ∃d∈s.deals,d.carrier=name∧d.number=n:=by
 constructor
 ·rintro ⟨i,hi⟩;obtain⟨d,h1,h2,h3⟩:=nW hi;exact⟨d,aC h1,h2,h3⟩
 ·rintro ⟨d,hd,h2,h3⟩;cases hi:dP s name n with
  |some i=>exact⟨i,rfl⟩
  |none=>
   unfold dP at hi;rw[List.findIdx?_eq_none_iff]at hi;have:=hi d hd;simp[h2,h3]at this
theorem jO {a b:bH}(h:jM a=jM b):a=b:=by rw[←mW a,←mW b,h]
end Go.Proofs.YtigdiekbiphhmaaGreatDoor
end
