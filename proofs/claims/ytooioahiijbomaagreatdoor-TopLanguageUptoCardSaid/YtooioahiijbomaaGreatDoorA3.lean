/-
  Texts of this proof,joined: VE,VF,VG,VH,VI,VJ,VK,VL,VM,VN,VQ,VU,VW,VX,VY,VZ,VBJ,Name.
-/
import Derived.Test.YtooioahiijbomaaGreatDoorA2
import Derived.ScopeJumps
import Derived.IntWalk
import Derived.Shelf.Strings.OnBuilder
set_option linter.unusedVariables false
set_option linter.unusedSimpArgs false
noncomputable section
namespace Go.Proofs.YtooioahiijbomaaGreatDoor
open Go.RowKit
section
variable {P:bG}{N M:Nat}
theorem NR:∀(code:Code) (x:gQ) (Q:AF→St→Prop) (C:kN) (st:St) (a:Act) (w:World) (r:cF) (pub:cI),hX P N code=some x→C.n=N→C.m=M→bM C st a w r pub→XW P N M x Q st→code.wp P (QX C Q) a w:=by
 intro code
 induction code with
 |skip=>
  intro x Q C st a w r pub hx hN hM h hK;cases hx;exact wp_skip ⟨st,r,pub,hK,h⟩
 |region id ops draw=>
  intro x Q C st a w r pub hx hN hM h hK;unfold hX at hx;cases draw with
  |false=>
   simp only[aY,if_false]at hx;obtain⟨l,hl,rfl⟩:=map_some hx;exact wp_region_list (Au (fun a w h=>h) hN _ _ st a w r pub hl h hK)
  |true=>
   simp only[if_true]at hx
   split at hx
   ·rename_i hc;obtain⟨p,hp,rfl⟩:=map_some hx;have hd:=h.draws.room (Da ops);have hks:=lM h (p.dry st) [];have m:MQ (rP p st) C r pub w.drew false true ⟨st.T,st.H++List.replicate (Da ops) .dead⟩ a w.drew r pub:=⟨hd,fun _=>eG.refl _ _ _,fun _=>rfl,lV.refl _ _,fun k hk=>.inl (hks k hk)⟩
    have hsort:∀a w,BG C (if p.forky=true then KO (Q .norm) else Q .norm) a w→QX C Q .normal a w:=fun a w ⟨st,r,pub,hk,hh⟩=>by
     split at hk
     ·exact⟨_,r,pub,hk,⟨hh.mod,hh.own,hh.fr,fun n=>by dsimp only;rw[wR];exact hh.slots n,hh.defers,hh.size,hh.stab,hh.low⟩⟩
     ·exact⟨st,r,pub,hk,hh⟩
    have:=(LS (P:=P) (N:=N) (Q:=QX C Q) (K:=if p.forky=true then KO (Q .norm) else Q .norm) hc.1 (fun c a d v w h=>h.elim) hsort hN p (AA P ops (BT ops) (tA P ops (BT ops)) 0) _ _ _ _ hd.mod.there false true ops.size (Array.replicate ops.size false) _ a w.drew r pub
     (fE _ _ _ _ _ hp) (Az _) (by simp) m (fun h=>by cases h) hK).1 (fH _ _ _ _ _ _ hc.2.2 (FY.zero _) (by rw[←Mu];exact hp))
    exact wp_region_any hc.2.1 (tW _ _ _ _ this)
   ·cases hx
 |seq c1 c2 ih1 ih2=>
  intro x Q C st a w r pub hx hN hM h hK;unfold hX at hx
  split at hx
  ·rename_i x1 x2 h1 h2;cases hx;refine wp_seq (wp_mono (ih1 x1 _ C st a w r pub h1 hN hM h hK) fun e a' w' hq=>?_);cases e with
   |normal=>
    obtain⟨st',r',pub',hk,hh⟩:=hq;exact ih2 x2 Q C st' a' w' r' pub' h2 hN hM hh hk
   |exit id=>exact hq
   |ret=>exact hq
   |goto l=>exact hq
   |panic ch=>exact hq.elim
   |outgrown=>exact hq.elim
  ·cases hx
 |cond c c1 c2 ih1 ih2=>
  intro x Q C st a w r pub hx hN hM h hK;unfold hX at hx
  split at hx
  ·rename_i z x1 x2 hz h1 h2;cases hx;unfold XW at hK;have hv:=h.ev hz;generalize hev:st.ev z=y at hK hv;cases y with
   |bl t=>
    generalize hva:a.eval c=v at hv;cases hv;dsimp only at hK;refine wp_cond hva ?_;cases t with
    |true=>exact ih1 x1 Q C st a w r pub h1 hN hM h hK
    |false=>exact ih2 x2 Q C st a w r pub h2 hN hM h hK
   |_=>exact hK.elim
  ·cases hx
 |block id c ih=>
  intro x Q C st a w r pub hx hN hM h hK;unfold hX at hx;obtain⟨y,hy,rfl⟩:=map_some hx;refine wp_block (wp_mono (ih y _ C st a w r pub hy hN hM h hK) fun e a' w' hq=>?_);cases e with
  |normal=>exact hq
  |exit id'=>
   show if id'=id then _ else _
   obtain⟨st',r',pub',hk,hh⟩:=hq;have hk:if id'=id then Q .norm st' else Q (.exit id') st':=hk
   split
   ·rename_i e;rw[aF e]at hk;exact⟨st',r',pub',hk,hh⟩
   ·rename_i e;rw[aE e]at hk;exact⟨st',r',pub',hk,hh⟩
  |ret=>exact hq
  |goto l=>exact hq
  |panic ch=>exact hq.elim
  |outgrown=>exact hq.elim
 |loop c ih=>
  intro x Q C st a w r pub hx hN hM h hK;unfold hX at hx;obtain⟨y,hy,rfl⟩:=map_some hx;exact hK.out c C a w r pub hy hN hM h
 |exit id=>
  intro x Q C st a w r pub hx hN hM h hK;cases hx;exact wp_exit ⟨st,r,pub,hK,h⟩
 |ret=>
  intro x Q C st a w r pub hx hN hM h hK;cases hx;exact wp_ret ⟨st,r,pub,hK,h⟩
 |scope c ih=>
  intro x Q C st a w r pub hx hN hM h hK;unfold hX at hx;obtain⟨y,hy,rfl⟩:=map_some hx;exact hK.out c C a w r pub hy hN hM h
 |label l=>
  intro x Q C st a w r pub hx hN hM h hK;cases hx;exact wp_label ⟨st,r,pub,hK,h⟩
 |goto l=>
  intro x Q C st a w r pub hx hN hM h hK;cases hx;exact wp_goto ⟨st,r,pub,hK,h⟩
 |_=>intro x Q C st a w r pub hx;cases hx
end
def Gh (M:Nat) (st st':St):Prop:=∀(C:kN) (a:Act) (w:World) (r:cF) (pub:cI),C.m=M→bM C st a w r pub→∃r' pub',bM C st' a w r' pub'
section
variable {M:Nat}
theorem Gh.refl (st:St):Gh M st st:=fun _ _ _ r pub _ h=>⟨r,pub,h⟩
theorem Gh.trans {s1 s2 s3:St}(h:Gh M s1 s2) (k:Gh M s2 s3):Gh M s1 s3:=fun C a w r pub hM hh=>by
 obtain⟨r1,p1,h1⟩:=h C a w r pub hM hh;exact k C a w r1 p1 hM h1
def tD:Option cC→Option (Nat×Nat×List AV)
 |some (.row t sz xs)=>some (t,sz,xs)
 |_=>none
theorem Gh.publish {st:St}(k:Nat) {t sz:Nat}{xs:List AV}(hk:tD st.H[k]?=some (t,sz,xs)):Gh M st ⟨st.T,st.H.set k (.tip t sz xs)⟩:=fun C a w r pub _ h=>by
 have hk':st.H[k]?=some (.row t sz xs):=by
  cases he:st.H[k]? with
  |none=>rw[he]at hk;cases hk
  |some e=>cases e<;>rw[he]at hk<;>cases hk<;>rfl
 obtain⟨pub',h',_⟩:=h.publish hk';exact⟨r,pub',h'⟩
theorem Gh.adopt {st:St}(n t sz:Nat) (hn:dN st.T n=.v (.slice none 0 0)):Gh M st ⟨MY st.T n (.hd st.H.length),st.H++[.row t sz []]⟩:=fun C a w r pub _ h=>by
 have hd:=h.room 1;have hq:(st.H++List.replicate 1 cC.dead)[st.H.length]?=some .dead:=by simp
 have h1:=hd.adopt hq t sz;have hset:(st.H++List.replicate 1 cC.dead).set st.H.length (.row t sz [])=st.H++[.row t sz []]:=by simp
 dsimp only at h1;rw[hset]at h1;refine⟨eN r st.H.length (.slice none 0 0),pub,h1.mod,h1.own,h1.fr,fun m=>?_,h1.defers,h1.size,h1.stab,h1.low⟩;dsimp only;rw[vQ]
 split
 ·rename_i e;subst e;have:=h.slots n;rw[hn]at this;rw[Ey this];exact .hd (bW _ _ _) rfl
 ·exact h1.slots m
def rQ (T:List (Nat×AV)):List (Nat×AV)→Prop
 |[]=>True
 |(n,x) :: l=>(dN T n=x∨x=.any)∧rQ T l
def Aj (n:Nat):List (Nat×AV)→Bool
 |[]=>true
 |(_,x) :: l=>AV.bnd n x && Aj n l
def lD (n:Nat):List cC→Bool
 |[]=>true
 |e :: l=>zN n e && lD n l
theorem wS {T:List (Nat×AV)}:∀{T':List (Nat×AV)},rQ T T'→∀m,dN T' m=.any∨dN T' m=dN T m
 |[],_,m=>.inl rfl
 |(n,x) :: l,h,m=>by
  simp only[dN]
  split
  ·rename_i e;subst e;rcases h.1 with h1|h1
   ·exact .inr h1.symm
   ·exact .inl h1
  ·exact wS h.2 m
theorem vB {n:Nat}:∀{T:List (Nat×AV)},Aj n T=true→∀m,AV.bnd n (dN T m)=true
 |[],_,m=>by simp[dN,AV.bnd]
 |(k,x) :: l,h,m=>by
  unfold Aj at h;simp only[aO]at h;simp only[dN]
  split
  ·exact h.1
  ·exact vB h.2 m
theorem mW {n:Nat}:∀{H:List cC},lD n H=true→∀(k:Nat) (e:cC),H[k]?=some e→zN n e=true
 |[],_,k,e,h=>by simp at h
 |x :: l,h,0,e,he=>by
  unfold lD at h;simp only[aO]at h;simp at he;subst he;exact h.1
 |x :: l,h,k+1,e,he=>by
  unfold lD at h;simp only[aO]at h;exact mW h.2 k e (by simpa using he)
theorem Gh.weak {st st':St}(hT:rQ st.T st'.T) (hH:st.H.take st'.H.length=st'.H) (hb:Aj st'.H.length st'.T=true) (hbH:lD st'.H.length st'.H=true) (hM:M≤st'.H.length):Gh M st st':=fun C a w r pub hCm h=>by
 have hget:∀k e,st'.H[k]?=some e→st.H[k]?=some e:=fun k e he=>by
  have hk:=(aA.1 he).1;rw[←hH,List.getElem?_take,aF hk]at he;exact he
 let r':cF:=fun k=>if k < st'.H.length then r k else none
 have hr':∀k,k < st'.H.length→r' k=r k:=fun k hk=>aF hk
 have hsome:∀k y,r' k=some y→r k=some y:=fun k y hy=>by
  by_cases hk:k < st'.H.length
  ·rw[hr' k hk]at hy;exact hy
  ·simp only[r',aE hk]at hy;cases hy
 refine⟨r',pub,⟨fun k e he=>?_,fun k hk=>aE (by omega),fun i j x y hij hx hy=>h.mod.disj i j x y hij (hsome _ _ hx) (hsome _ _ hy),h.mod.fresh,h.mod.there,h.mod.glob⟩,fun k x hx=>h.own k x (hsome _ _ hx),h.fr,fun m=>?_,h.defers,h.size,fun k y hy hs=>?_,⟨h.low.1,by omega⟩⟩
 ·have hk:=(aA.1 he).1;have h0:=h.mod.ent k e (hget k e he);have hbe:=mW hbH k e he;rw[hr' k hk];exact h0.congr hbe hr'
 ·rcases wS hT m with e|e
  ·rw[e];exact .any _
  ·have hbm:=vB hb m;rw[e]at hbm⊢;exact(h.slots m).congr fun n hn=>hr' n (AV.bnd_has _ hbm hn)
 ·have hk:k < st'.H.length:=by
   rcases aL k C.m with h1|h1
   ·omega
   ·rw[h.low.1 k h1]at hy;cases hy
  rw[hr' k hk];exact h.stab k y hy hs
end
theorem Bg {P:bG}{Q:Exit→Act→World→Prop}{c:Code}(I:Nat→Act→World→Prop)
  (round:∀n a w,I n a w→c.wp P (Exit.then (fun a' w'=>∃m,m < n∧I m a' w') Q) a w) {n0:Nat}{a:Act}{w:World}(h₀:I n0 a w):(Code.loop c).wp P Q a w:=by
 intro b k cs;have key:∀n a w,I n a w →
   ∃e a' w',Q e a' w'∧Arrives P (lone (b.at a (.code c :: .inLoop c :: k)) cs w) b k cs e a' w':=by
  intro n
  induction n using Nat.strongRecOn with
  |_ n ih=>
   intro a w hI;obtain⟨e,a₁,w₁,hq,harr⟩:=round n a w hI b (.inLoop c :: k) cs;cases e with
   |normal=>
    obtain⟨m,hlt,hI₁⟩:=hq;obtain⟨e₂,a₂,w₂,hq₂,harr₂⟩:=ih m hlt a₁ w₁ hI₁;exact⟨e₂,a₂,w₂,hq₂,.of_steps (Steps.trans harr (.one step_inLoop)) harr₂⟩
   |exit id=>exact⟨_,a₁,w₁,hq,.pass (x:=.inLoop c) rfl (fun _ _=>.inl (by simp)) harr⟩
   |goto l=>exact⟨_,a₁,w₁,hq,.pass (x:=.inLoop c) rfl (fun _ _=>.inl (by simp)) harr⟩
   |ret=>exact⟨_,a₁,w₁,hq,.pass (x:=.inLoop c) rfl (fun _ _=>.inl (by simp)) harr⟩
   |panic ch=>exact⟨_,a₁,w₁,hq,.pass (x:=.inLoop c) rfl (fun _ _=>.inl (by simp)) harr⟩
   |outgrown=>exact⟨_,a₁,w₁,hq,.pass (x:=.inLoop c) rfl (fun _ _=>.inl (by simp)) harr⟩
 obtain⟨e,a',w',hq,harr⟩:=key n0 a w h₀;exact⟨e,a',w',hq,.of_steps (.one step_loop) harr⟩
structure Ms where
 n:Nat
 i:Nat
def Ms.val (m:Ms):Nat:=m.n - m.i
structure Zj {ι:Type}(M:Nat) (F:ι→St) (μ:ι→Ms) (n:Ms) (st:St):Prop where
 out:∃st' j,Gh M st st'∧F j=st'∧(μ j).val < n.val
def Es {ι:Type}(M:Nat) (F:ι→St) (μ:ι→Ms) (n:Ms) (Q:AF→St→Prop):AF→St→Prop
 |.norm,st=>Zj M F μ n st
 |.exit id,st=>Q (.exit id) st
 |.ret,st=>Q .ret st
 |.goto l,st=>Q (.goto l) st
theorem Ro {P:bG}{N M:Nat}{c:gQ}{Q:AF→St→Prop}{st:St}{ι:Type}(F:ι→St) (μ:ι→Ms) (i0:ι) (h0:Gh M st (F i0)) (hr:∀i,XW P N M c (Es M F μ (μ i) Q) (F i)):pS P N M c Q st:=by
 refine⟨fun code C a w r pub hc hN hM h=>?_⟩;obtain⟨r1,p1,h1⟩:=h0 C a w r pub hM h;refine Bg (fun n a w=>∃i r pub,(μ i).val=n∧bM C (F i) a w r pub) (fun n a w hI=>?_) (n0:=(μ i0).val) ⟨i0,r1,p1,rfl,h1⟩;obtain⟨i,r,pub,rfl,hh⟩:=hI;refine wp_mono (NR code c _ C (F i) a w r pub hc hN hM hh (hr i)) fun e a' w' hq=>?_
 cases e with
 |normal=>
  obtain⟨st',r',pub',⟨⟨st2,j,hg,rfl,hlt⟩⟩,hh'⟩:=hq;obtain⟨r2,p2,h2⟩:=hg C a' w' r' pub' hM hh';exact⟨(μ j).val,hlt,j,r2,p2,rfl,h2⟩
 |exit id=>exact hq
 |ret=>exact hq
 |goto l=>exact hq
 |panic ch=>exact hq.elim
 |outgrown=>exact hq.elim
inductive Bq where
 |tmp (t:Nat)
 |cell (t:Nat) (ag:Bool) (n:Nat)
def Dk (P:bG):List ResultVar→Option (List Bq)
 |[]=>some []
 |.tmp t :: l=>(Dk P l).map (.tmp t :: ·)
 |.cell t ty :: l=>match P.info? ty,iZ P ty,Dk P l with
  |some i,some ag,some r=>if ag=false∧i.size≠1 then none else some (.cell t ag i.size :: r)
  |_,_,_=>none
def CR (st:St):List Bq→(List AV→Prop)→Prop
 |[],K=>K []
 |.tmp t :: l,K=>CR st l fun r=>K (dN st.T t :: r)
 |.cell t ag n :: l,K=>match dN st.T t with
  |.ptr k off=>match st.H[k]? with
   |some (.blk _ cs)=>if ag=true then off+n≤cs.length∧CR st l fun r=>K (.agg ((cs.drop off).take n) :: r) else match cs[off]? with
    |some x=>CR st l fun r=>K (x :: r)
    |none=>False
   |_=>False
  |_=>False
def wU:List AV→AV
 |[x]=>x
 |l=>.tup l
structure dD where
 n:Nat
 body:gQ
 res:List Bq
def Sd (P:bG) (f:Nat):Option dD:=
 match P.funcs[f]? with
 |some fn=>match fn.body with
  |some c=>match hX P fn.ntmps c,Dk P fn.results.toList with
   |some x,some r=>some ⟨fn.ntmps,x,r⟩
   |_,_=>none
  |none=>none
 |none=>none
def Fw (st:St):AV→AV
 |.tup l=>.tup (l.map st.view)
 |x=>st.view x
structure nF (M:Nat) (res:List Bq) (K:AV→List cC→Prop) (st:St):Prop where
 out:∃st',Gh M st st'∧CR st' res fun l=>K (wU l) st'.H∨K (Fw st' (wU l)) st'.H
def Mq (M:Nat) (res:List Bq) (K:AV→List cC→Prop):AF→St→Prop
 |.norm=>nF M res K
 |.ret=>nF M res K
 |.exit _=>fun _=>False
 |.goto _=>fun _=>False
def xX:Nat→List AV→List (Nat×AV)
 |_,[]=>[]
 |n,x :: l=>(n,x) :: xX (n+1) l
abbrev cQ:=List AV→List cC→(AV→List cC→Prop)→Prop
def qC (r:cF) (b:Nat):Prop:=∃k y,r k=some y∧b∈bY y
def qA (K:AV→List cC→Prop) (H:List cC) (w:World) (r:cF) (pub:cI) (e:Ending) (w':World):Prop:=
 ∃v x H' r' pub',e=.returned v∧K x H'∧bS pub' w' r' x v∧kW pub' w' r' H'∧Fr (qC r) pub w pub' w'∧(∀b,qC r' b→qC r b∨w.heap.size≤b)∧(∀k y,r k=some y→agB y=false→r' k=some y)∧H.length≤H'.length
def bH (P:bG) (f:Nat) (c:cQ):Prop:=
 ∀(args:List AV) (H:List cC) (K:AV→List cC→Prop),c args H K→∀(w:World) (r:cF) (pub:cI) (vals:Array Value),kW pub w r H→bO pub w r args vals.toList→Calls P f vals w (qA K H w r pub)
theorem Kw {l:List AV}:∀(k n:Nat),dN (xX k l) n=if k≤n then l.getD (n - k) .any else .any:=by
 induction l with
 |nil=>intro k n;simp[xX,dN]
 |cons x l ih=>
  intro k n;simp only[xX,dN];by_cases h:k=n
  ·subst h;simp
  ·rw[aE h,ih];by_cases h2:k+1≤n
   ·rw[aF h2,aF (by omega)];have:n - k=(n - (k+1))+1:=by omega
    rw[this,List.getD_cons_succ]
   ·rw[aE h2]
    split
    ·exfalso;omega
    ·rfl
def vJ (tmps:Array Value):ResultVar→Sem Value
 |.tmp t=>pure (tmps.getD t undef)
 |.cell b t=>do loadVar t (←asAddr (tmps.getD b undef))
theorem uC {P:bG}{tmps:Array Value}{w:World}{x:ResultVar}{l:List ResultVar}{v:Value}{vs:List Value}(h:(vJ tmps x).run P w=.ok v w) (hl:(l.mapM (vJ tmps)).run P w=.ok vs w):((x :: l).mapM (vJ tmps)).run P w=.ok (v :: vs) w:=by
 rw[List.mapM_cons,Sem.run_bind,h,Result.andThen_ok,Sem.run_bind,hl,Result.andThen_ok];rfl
theorem xZ {P:bG}{C:kN}{st:St}{a:Act}{w:World}{r:cF}{pub:cI}(h:bM C st a w r pub):∀(l:List ResultVar) (xs:List Bq) (K:List AV→Prop),Dk P l=some xs→CR st xs K →
  ∃vs ys,(l.mapM (vJ a.tmps)).run P w=.ok vs w∧bO pub w r ys vs∧K ys
 |[],xs,K,hx,hK=>by
  cases hx;exact⟨[],[],by simp,.nil,hK⟩
 |.tmp t :: l,xs,K,hx,hK=>by
  unfold Dk at hx;obtain⟨y,hy,rfl⟩:=map_some hx;obtain⟨vs,ys,hr,hv,hk⟩:=xZ h l y _ hy hK;exact⟨a.tmps.getD t undef :: vs,dN st.T t :: ys,uC rfl hr,.cons (h.slots t) hv,hk⟩
 |.cell t ty :: l,xs,K,hx,hK=>by
  unfold Dk at hx
  split at hx
  ·rename_i i ag y hi ha hy
   split at hx
   ·cases hx
   ·rename_i h0;cases hx;unfold CR at hK;have hs:=h.slots t;generalize dN st.T t=z at hK hs;cases z with
    |ptr k off=>
     dsimp only at hK;generalize hva:a.tmps.getD t undef=va at hs;cases hs with
     |@ptr _ _ b _ hr=>
      cases hk:st.H[k]? with
      |none=>rw[hk]at hK;exact hK.elim
      |some e=>
       rw[hk]at hK;cases e with
       |blk t' cs=>
        obtain⟨b',arr,hr2,hb,hc,_⟩:=h.ent_blk hk;rw[hr2]at hr;simp only[bD,Value.pointer.injEq,Addr.mk.injEq,and_true]at hr;subst hr;have hal:arr.size=cs.length:=by have:=hc.len;simpa using this
        have hcell:∀q u,arr[q]?=some u→w.cell? ⟨b',q,none⟩=some u:=fun q u hq=>by rw[hb.all];exact hq
        cases ag with
        |true=>
         simp only[if_true]at hK;obtain⟨hle,hK⟩:=hK;obtain⟨vs,ys,hr3,hv,hkk⟩:=xZ h l y _ hy hK;have hload:(loadVar ty ⟨b',off,none⟩).run P w=.ok (.agg ((arr.toList.drop off).take i.size).toArray) w:=by
          have hlen:((arr.toList.drop off).take i.size).length=i.size:=by simp;omega
          have hl:(loadCells ⟨b',off,none⟩ i.size).run P w=.ok ((arr.toList.drop off).take i.size).toArray w:=by
           have:=run_loadCells_list (P:=P) w ⟨b',off,none⟩ ((arr.toList.drop off).take i.size) (fun j v hj=>by
            rw[Addr.add_lit];rw[List.getElem?_take]at hj
            split at hj
            ·rw[List.getElem?_drop,aX]at hj;exact hcell _ _ hj
            ·cases hj)
           rw[hlen]at this;exact this
          simp[loadVar,Sem.run_bind,fD ha,sizeOf,typeInfo,hi,hl]
         refine⟨_,_,uC (by show (asAddr (a.tmps.getD t undef) >>= fun b=>loadVar ty b).run P w=_;rw[hva];simp only[asAddr,Sem.run_bind,Sem.run_pure,Result.andThen_ok];exact hload) hr3,.cons (.agg ?_ fun q x u hx hu=>?_) hv,hkk⟩
         ·simp;omega
         ·rw[List.getElem?_toArray]at hu;exact((hc.drop off).take i.size).at_ q x u hx hu
        |false=>
         simp only[aY,if_false]at hK;cases hy2:cs[off]? with
         |none=>rw[hy2]at hK;exact hK.elim
         |some z=>
          rw[hy2]at hK;obtain⟨vs,ys,hr3,hv,hkk⟩:=xZ h l y _ hy hK;obtain⟨u,hu,hvu⟩:=hc.get hy2;rw[aX]at hu;have hload:(loadVar ty ⟨b',off,none⟩).run P w=.ok u w:=by
           simp[loadVar,Sem.run_bind,fD ha,run_load,hcell off u hu]
          exact⟨u :: vs,z :: ys,uC (by show (asAddr (a.tmps.getD t undef) >>= fun b=>loadVar ty b).run P w=_;rw[hva];simp only[asAddr,Sem.run_bind,Sem.run_pure,Result.andThen_ok];exact hload) hr3,.cons hvu hv,hkk⟩
       |_=>exact hK.elim
    |_=>exact hK.elim
  ·cases hx
structure Pu (P:bG) (N M:Nat) (c:gQ) (Q:AF→St→Prop) (st:St):Prop where
 out:∀(code:Code) (C:kN) (a:Act) (w:World) (r:cF) (pub:cI),hX P N code=some c→C.n=N→C.m=M→bM C st a w r pub→code.wp P (QX C Q) a w
section
variable {P:bG}{N M:Nat}
theorem Pu.of {c:gQ}{Q:AF→St→Prop}{st:St}(h:XW P N M c Q st):Pu P N M c Q st:=⟨fun code C a w r pub hx hN hM hh=>NR code c Q C st a w r pub hx hN hM hh h⟩
end
theorem Pi {P:bG}{f:Nat}{fn:Func}{code:Code}{z:List Bq}(c:cQ) (hf:P.funcs[f]?=some fn) (hb:fn.body=some code) (hz:Dk P fn.results.toList=some z) (h:∀args H K,c args H K→args.length≤fn.ntmps∧∀(C:kN) (a:Act) (w:World) (r:cF) (pub:cI),C.n=fn.ntmps→C.m=H.length→bM C ⟨xX 0 args,H⟩ a w r pub→code.wp P (QX C (Mq H.length z K)) a w):bH P f c:=by
  intro args H K hc w r pub vals hm hv;obtain⟨hn,hw⟩:=h args H K hc;have hlen:vals.size=args.length:=by have:=hv.len;simpa using this
  have hh:bM ⟨qC r,pub,w,fn.ntmps,H.length,r⟩ ⟨xX 0 args,H⟩ { tmps:=vals++Array.replicate (fn.ntmps - vals.size) undef,defers:=[] } w r pub:=by
   refine⟨hm,fun k x hx b hb=>.inl ⟨k,x,hx,hb⟩,Fr.refl _ _ _,fun n=>?_,rfl,by have hn':args.length≤fn.ntmps:=hn;show (vals++Array.replicate (fn.ntmps - vals.size) undef).size=fn.ntmps;rw[Array.size_append,Array.size_replicate];omega,fun k y hy _=>hy,hm.none_,aN _⟩;rw[Kw,aF (aI _),Nat.sub_zero];by_cases hna:n < args.length
   ·have e1:(vals++Array.replicate (fn.ntmps - vals.size) undef).getD n undef=vals[n]'(by omega):=by
     rw[Array.getD_eq_getD_getElem?,Array.getElem?_append_left (by omega),aK (by omega)];rfl
    rw[List.getD_eq_getElem?_getD,aB hna];dsimp only;rw[e1];exact hv.at_ n _ _ (aB hna) (by rw[aX];exact aK (by omega))
   ·rw[List.getD_eq_getElem?_getD,List.getElem?_eq_none (by omega)];exact .any _
  refine calls_of_wp hf hb (wp_mono (hw _ _ w r pub rfl rfl hh) fun e a' w' hq=>?_);have fin:BG ⟨qC r,pub,w,fn.ntmps,H.length,r⟩ (nF H.length z K) a' w'→a'.defers=[]∧∃v,(results fn a'.tmps).run P w'=.ok v w'∧qA K H w r pub (.returned v) w':=fun⟨st,r1,p1,⟨⟨st',hg,hres⟩⟩,hh1⟩=>by
   obtain⟨r2,p2,h2⟩:=hg _ _ _ _ _ rfl hh1;refine⟨h2.defers,?_⟩;obtain⟨vs,ys,hrun,hvs,hk⟩:=xZ h2 fn.results.toList z _ hz hres;have hr:(results fn a'.tmps).run P w'=.ok (if h:vs.toArray.size=1 then vs.toArray[0] else .tuple vs.toArray) w':=by
    have e1:results fn a'.tmps=(do
      let vs ←fn.results.mapM (vJ a'.tmps)
      pure (if h:vs.size=1 then vs[0] else .tuple vs)):=by
     unfold results;congr 1
    rw[e1,Array.mapM_eq_mapM_toList,Sem.run_bind,Sem.run_map,hrun];rfl
   have hval:bS p2 w' r2 (wU ys) (if h:vs.toArray.size=1 then vs.toArray[0] else .tuple vs.toArray):=by
    have hl:=hvs.len
    split
    ·rename_i h1;cases ys with
     |nil=>have k1:vs.length=1:=(by simpa using h1);have k2:vs.length=0:=hl;omega
     |cons y1 ys=>
      cases ys with
      |nil=>
       obtain⟨u,us',rfl,hu,hu'⟩:=hvs.cons_inv;exact hu
      |cons y2 ys=>have k1:vs.length=1:=(by simpa using h1);have k2:vs.length=ys.length+2:=hl;omega
    ·rename_i h1;have:wU ys=.tup ys:=by
      cases ys with
      |nil=>rfl
      |cons y1 ys=>
       cases ys with
       |nil=>have k1:¬vs.length=1:=(by simpa using h1);have k2:vs.length=1:=hl;omega
       |cons y2 ys=>rfl
     rw[this];exact .tup (by simpa using hl) fun i x u hx hu=>hvs.at_ i x u hx (by simpa using hu)
   have hview:∀{y:AV}{v:Value},bS p2 w' r2 y v→bS p2 w' r2 (Fw st' y) v:=fun {y v} hyv=>by
    have hyv0:=hyv;cases hyv with
    |@tup _ l arr hl hc=>
     unfold Fw;refine .tup (by simpa using hl) fun i x u hx hu=>?_
     rw[aD]at hx;cases hq:l[i]? with
     |none=>rw[hq]at hx;cases hx
     |some q=>rw[hq]at hx;cases hx;exact h2.view (hc i q u hq hu)
    |_=>exact h2.view hyv0
   refine⟨_,hr,?_⟩;have own:∀b,qC r2 b→qC r b∨w.heap.size≤b:=fun b ⟨k,y,hy,hb⟩=>h2.own k y hy b hb
   rcases hk with hk|hk
   ·exact⟨_,_,_,r2,p2,rfl,hk,hval,h2.mod,h2.fr,own,h2.stab,h2.low.2⟩
   ·exact⟨_,_,_,r2,p2,rfl,hk,hview hval,h2.mod,h2.fr,own,h2.stab,h2.low.2⟩
  cases e with
  |normal=>exact fin hq
  |ret=>exact fin hq
  |exit id=>obtain⟨_,_,_,hk,_⟩:=hq;exact hk.elim
  |goto l=>obtain⟨_,_,_,hk,_⟩:=hq;exact hk.elim
  |panic ch=>exact hq.elim
  |outgrown=>exact hq.elim
theorem Or {P:bG}{f:Nat}{x:dD}(c:cQ) (hx:Sd P f=some x) (h:∀args H K,c args H K→args.length≤x.n∧Pu P x.n H.length x.body (Mq H.length x.res K) ⟨xX 0 args,H⟩):bH P f c:=by
 unfold Sd at hx;cases hf:P.funcs[f]? with
 |none=>rw[hf]at hx;cases hx
 |some fn=>
  rw[hf]at hx;cases hb:fn.body with
  |none=>simp only[hb]at hx;cases hx
  |some code=>
   simp only[hb]at hx
   split at hx
   ·rename_i y z hy hz;cases hx;exact Pi c hf hb hz fun args H K hc=>⟨(h args H K hc).1,fun C a w r pub hN hM hh=>(h args H K hc).2.out code C a w r pub hy hN hM hh⟩
   ·cases hx
theorem QN {P:bG}{f:Nat}{x:dD}(c:cQ) (hx:Sd P f=some x) (h:∀args H K,c args H K→args.length≤x.n∧XW P x.n H.length x.body (Mq H.length x.res K) ⟨xX 0 args,H⟩):bH P f c:=
 Or c hx fun args H K hc=>⟨(h args H K hc).1,.of (h args H K hc).2⟩
def eR:List Nat→List cC→List Nat
 |k :: s,e :: l=>match e.turns with
  |true=>k :: eR s l
  |false=>eR s l
 |_,_=>[]
def iY (T:List (Nat×AV)):List Nat→List (Nat×AV)
 |[]=>T
 |k :: s=>iY (Ws k .any T) s
def gK (H:List cC):List Nat→List cC
 |[]=>H
 |k :: s=>gK (H.map (cC.kill k .any)) s
def fN (r:cF) (l:List Nat):cF:=fun k=>if k∈l then none else r k
theorem uD:∀(l:List Nat) (H:List cC),(gK H l).length=H.length
 |[],H=>rfl
 |k :: s,H=>by unfold gK;rw[uD s];simp
theorem oS (r:cF) (k:Nat) (l:List Nat):fN r (k :: l)=fN (fN r [k]) l:=by
 funext n;simp only[fN,List.mem_cons,List.not_mem_nil,or_false];by_cases h1:n=k<;>by_cases h2:n∈l<;>simp[h1,h2]
theorem yU {pub:cI}{w:World}{r:cF}{x:AV}{v:Value}(k:Nat) (h:bS pub w r x v):bS pub w (fN r [k]) (x.kill k .any) v:=
 h.kill (fun m hm=>by simp[fN,hm]) (fun z _=>.any _)
theorem uH {pub:cI}{w:World}{v:Value}{n:Nat}:∀(l:List Nat) (T:List (Nat×AV)) (r:cF),bS pub w r (dN T n) v→bS pub w (fN r l) (dN (iY T l) n) v
 |[],T,r,h=>by
  unfold iY;exact h.mono fun m y hy=>by simpa [fN]using hy
 |k :: s,T,r,h=>by
  unfold iY;rw[oS];refine uH s _ _ ?_;rw[qB];exact yU k h
theorem vI {pub:cI}{w:World}{hd:Option Value}:∀(l:List Nat) (H:List cC) (r:cF) (n:Nat) (e:cC),(gK H l)[n]?=some e→∃e0,H[n]?=some e0∧(dR pub w r hd e0→dR pub w (fN r l) hd e)
 |[],H,r,n,e,h=>⟨e,h,fun he=>he.frm (S:=fun _=>False) (Fr.refl _ _ _) (fun _ _ _ _ h=>h) (fun m y hy=>by simpa [fN]using hy)⟩
 |k :: s,H,r,n,e,h=>by
  unfold gK at h;obtain⟨e1,h1,h2⟩:=vI (pub:=pub) (w:=w) (hd:=hd) s _ (fN r [k]) n e h;rw[aD]at h1;cases h0:H[n]? with
  |none=>rw[h0]at h1;cases h1
  |some e0=>
   rw[h0]at h1;cases h1;refine⟨e0,rfl,fun he=>?_⟩;rw[oS];refine h2 ?_;exact he.kill (S:=fun _=>False) (Fr.refl _ _ _) (fun _ _ _ _ h=>h) (fun m hm=>by simp[fN,hm]) (fun z _=>.any _)
def nC:List cC→List Nat→List cC→List cC
 |H,[],L=>H++L
 |H,k :: s,e :: L=>nC (H.set k e) s L
 |H,_ :: _,[]=>H
theorem B9:∀(s:List Nat) (L H:List cC),s.length≤L.length→(nC H s L).length=H.length+(L.length - s.length)
 |[],L,H,_=>by simp[nC]
 |k :: s,e :: L,H,h=>by
  unfold nC;rw[B9 s L _ (by simpa using h)];simp
 |k :: s,[],H,h=>by simp at h
theorem uA {s:List Nat}{base i:Nat}(h:i < s.length):dY s base i=s[i]:=by
 induction s generalizing i with
 |nil=>simp at h
 |cons k s ih=>
  cases i with
  |zero=>rfl
  |succ i=>simp only[dY];exact ih (by simpa using h)
theorem kZ {s:List Nat}{base i:Nat}(h:s.length≤i):dY s base i=base+(i - s.length):=by
 induction s generalizing i with
 |nil=>rfl
 |cons k s ih=>
  cases i with
  |zero=>simp at h
  |succ i=>simp only[dY];rw[ih (by simpa using h)];simp
theorem BS:∀(s:List Nat) (L H:List cC) (n:Nat) (e:cC),s.Nodup→(∀k∈s,k < H.length)→s.length≤L.length→(nC H s L)[n]?=some e→(∃i,dY s H.length i=n∧L[i]?=some e)∨(n∉s∧n < H.length∧H[n]?=some e)
 |[],L,H,n,e,_,_,_,h=>by
  unfold nC at h;by_cases hn:n < H.length
  ·rw[List.getElem?_append_left hn]at h;exact .inr ⟨by simp,hn,h⟩
  ·rw[List.getElem?_append_right (by omega)]at h;exact .inl ⟨n - H.length,by simp[dY];omega,h⟩
 |k :: s,[],H,n,e,_,_,hl,_=>by simp at hl
 |k :: s,e0 :: L,H,n,e,hd,hlt,hl,h=>by
  unfold nC at h;obtain⟨hd1,hd2⟩:=List.nodup_cons.1 hd;rcases BS s L (H.set k e0) n e hd2 (fun q hq=>by simpa using hlt q (by simp[hq])) (by simpa using hl) h with ⟨i,hi,hL⟩|⟨hn,hnl,hH⟩
  ·rw[aZ]at hi;exact .inl ⟨i+1,hi,by simpa using hL⟩
  ·rw[aZ]at hnl;by_cases hkn:k=n
   ·subst hkn;rw[aP hnl]at hH;cases hH;exact .inl ⟨0,rfl,rfl⟩
   ·rw[aT hkn]at hH;exact .inr ⟨by simp[hn,Ne.symm hkn],hnl,hH⟩
theorem qH {l:List Nat}(h:l.Nodup) {i j:Nat}{hi:i < l.length}{hj:j < l.length}(e:l[i]=l[j]):i=j:=by
 rcases Nat.lt_trichotomy i j with h1|h1|h1
 ·exact absurd e (List.pairwise_iff_getElem.1 h i j hi hj h1)
 ·exact h1
 ·exact absurd e.symm (List.pairwise_iff_getElem.1 h j i hj hi h1)
theorem Hn {s:List Nat}{H0:List cC}{i:Nat}{e:cC}(h:H0[i]?=some e) (ht:e.turns=true) (hi:i < s.length):s[i]∈eR s H0:=by
 induction s generalizing i H0 with
 |nil=>simp at hi
 |cons k s ih=>
  cases H0 with
  |nil=>simp at h
  |cons d l=>
   cases i with
   |zero=>
    simp at h;subst h;simp[eR,ht]
   |succ i=>
    have:=ih (i:=i) (H0:=l) (by simpa using h) (by simpa using hi);unfold eR;cases d.turns
    ·exact this
    ·exact aV _ this
theorem pM {P:bG}{f:Nat}{c:cQ}(hf:bH P f c) (sel:List Nat) {args0:List AV}{H0:List cC}{keep:List Nat}{args:List AV}{st:St}{K:AV→St→Prop}
  (ha:args=AV.renL sel st.H.length args0) (hlen:sel.length=H0.length) (hnd:sel.Nodup) (hlt:∀k∈sel,k < st.H.length) (hH:sel.map (fun k=>st.H[k]?)=(gY sel st.H.length H0).map some)
  (hb:AV.bndL H0.length args0=true) (hbH:lD H0.length H0=true) (hkeep:∀k∈keep,k∉sel∧k < st.H.length)
  (hc:c args0 H0 fun x H'=>K (x.ren sel st.H.length) ⟨iY st.T (eR sel H0),nC (gK st.H (eR sel H0)) sel (gY sel st.H.length H')⟩):fZ P keep f args st K:=by
 refine⟨fun C a w r pub vals h hv=>?_⟩
 let r0:cF:=fun i=>if i < sel.length then r (dY sel st.H.length i) else none
 have hr0:∀i y,r0 i=some y→i < sel.length∧r (dY sel st.H.length i)=some y:=fun i y hy=>by
  by_cases hi:i < sel.length
  ·simp only[r0,aF hi]at hy;exact⟨hi,hy⟩
  ·simp only[r0,aE hi]at hy;cases hy
 have hr0':∀i,i < sel.length→r0 i=r (dY sel st.H.length i):=fun i hi=>aF hi
 have hsi:∀i (hi:i < sel.length),dY sel st.H.length i=sel[i]:=fun i hi=>uA hi
 have hinj:∀i j,i < sel.length→j < sel.length→dY sel st.H.length i=dY sel st.H.length j→i=j:=fun i j hi hj e=>by
  rw[hsi i hi,hsi j hj]at e;exact qH hnd e
 have hent:∀i e,H0[i]?=some e→st.H[dY sel st.H.length i]?=some (e.ren sel st.H.length):=fun i e he=>by
  have hi:i < sel.length:=by rw[hlen];exact(aA.1 he).1
  have h1:=congrArg (fun l=>l[i]?) hH;simp only[aD,gP,he,Option.map_some,aB hi]at h1;rw[hsi i hi];simpa using h1
 -- what the callee is handed
 have hm0:kW pub w r0 H0:=by
  refine⟨fun i e he=>?_,fun i hi=>aE (by omega),fun i j x y hij hx hy=>?_,h.mod.fresh,h.mod.there,h.mod.glob⟩
  ·have hi:i < sel.length:=by rw[hlen];exact(aA.1 he).1
   have he1:=h.mod.ent _ _ (hent i e he);have hbe:=mW hbH i e he;rw[hr0' i hi];exact he1.unren hbe fun k y hkb hy=>by rw[hr0' k (by omega)];exact hy
  ·obtain⟨hi,hx⟩:=hr0 i x hx;obtain⟨hj,hy⟩:=hr0 j y hy;exact h.mod.disj _ _ x y (fun e=>hij (hinj i j hi hj e)) hx hy
 have hv0:bO pub w r0 args0 vals.toList:=by
  subst ha;refine⟨by have:=hv.len;rw[AV.renL_map,aJ]at this;exact this,fun q x u hx hu=>?_⟩;refine(hv.at_ q (x.ren sel st.H.length) u (by rw[AV.renL_map,aD,hx];rfl) hu).unren x rfl fun k y hk hy=>?_
  have hkb:k < H0.length:=AV.bnd_has _ (AV.bndL_mem hx hb) hk;rw[hr0' k (by omega)];exact hy
 refine(hf args0 H0 _ hc w r0 pub vals hm0 hv0).mono fun e w' hpost=>?_
 obtain⟨v,x,H',r1,pub',rfl,hK,hvx,hm1,hfr,hown,hstab,hlen'⟩:=hpost
 -- the handles behind the call
 let r':cF:=fun k=>match sel.idxOf? k with
  |some i=>r1 i
  |none=>if st.H.length≤k then r1 (sel.length+(k - st.H.length)) else r k
 have hr'sel:∀i (hi:i < sel.length),r' sel[i]=r1 i:=fun i hi=>by
  have:sel.idxOf? sel[i]=some i:=by
   rw[List.idxOf?_eq_some_iff];exact⟨hi,rfl,fun j hj=>by
    intro e;have:=qH hnd e;omega⟩
  simp only[r',this]
 have hidx:∀k,k∉sel→sel.idxOf? k=none:=fun k hk=>by rw[List.idxOf?_eq_none_iff];exact hk
 have hr'new:∀k,st.H.length≤k→r' k=r1 (sel.length+(k - st.H.length)):=fun k hk=>by
  have hkn:k∉sel:=fun hk'=>by have:=hlt k hk';omega
  simp only[r',hidx k hkn,aF hk]
 have hr'old:∀k,k∉sel→k < st.H.length→r' k=r k:=fun k hk hkl=>by
  simp only[r',hidx k hk,aE (by omega:¬st.H.length≤k)]
 have hsig:∀i,r' (dY sel st.H.length i)=r1 i:=fun i=>by
  by_cases hi:i < sel.length
  ·rw[hsi i hi];exact hr'sel i hi
  ·rw[kZ (by omega),hr'new _ (by omega)];congr 1;omega
 have hcase:∀k,(∃i,dY sel st.H.length i=k)∨(k∉sel∧k < st.H.length):=fun k=>by
  by_cases hk:k∈sel
  ·obtain⟨i,hi,rfl⟩:=List.getElem_of_mem hk;exact .inl ⟨i,hsi i hi⟩
  ·by_cases hkl:k < st.H.length
   ·exact .inr ⟨hk,hkl⟩
   ·exact .inl ⟨sel.length+(k - st.H.length),by rw[kZ (by omega)];omega⟩
 have hsinj:∀i j,dY sel st.H.length i=dY sel st.H.length j→i=j:=fun i j e=>by
  by_cases hi:i < sel.length
  ·by_cases hj:j < sel.length
   ·exact hinj i j hi hj e
   ·rw[hsi i hi,kZ (by omega)]at e;have:=hlt sel[i] (List.getElem_mem hi);omega
  ·by_cases hj:j < sel.length
   ·rw[hsi j hj,kZ (by omega)]at e;have:=hlt sel[j] (List.getElem_mem hj);omega
   ·rw[kZ (by omega),kZ (by omega)]at e;omega
 -- the other entries' blocks
 have hfoot:∀k y,k∉sel→r k=some y→∀b∈bY y,¬qC r0 b:=fun k y hk hy b hb' ⟨i,z,hz,hbz⟩=>by
  obtain⟨hi,hz⟩:=hr0 i z hz;rw[hsi i hi]at hz;exact h.mod.disj k sel[i] y z (fun e=>hk (by rw[e];exact List.getElem_mem hi)) hy hz b hb' hbz
 have hkeepr:∀n y,fN r (eR sel H0) n=some y→r' n=some y:=fun n y hy=>by
  unfold fN at hy
  split at hy
  ·cases hy
  ·rename_i hnr;by_cases hn:n∈sel
   ·obtain⟨i,hi,rfl⟩:=List.getElem_of_mem hn;rw[hr'sel i hi];refine hstab i y (by rw[hr0' i hi,hsi i hi];exact hy) ?_
    -- a slice's handle is a row's
    have hi0:i < H0.length:=by omega
    have he:=hm0.ent i _ (aB hi0);rw[hr0' i hi,hsi i hi,hy]at he;refine he.turns ?_;cases ht:H0[i].turns with
    |false=>rfl
    |true=>exact absurd (Hn (aB hi0) ht hi) hnr
   ·have hnl:n < st.H.length:=by
     rcases aL n st.H.length with h1|h1
     ·exact h1
     ·rw[h.mod.none_ n h1]at hy;cases hy
    rw[hr'old n hn hnl];exact hy
 have hsl:sel.length≤(gY sel st.H.length H').length:=by rw[gP,aJ];omega
 have hkl:=uD (eR sel H0) st.H;have hnl:(nC (gK st.H (eR sel H0)) sel (gY sel st.H.length H')).length=st.H.length+(H'.length - sel.length):=by
  rw[B9 _ _ _ hsl,hkl,gP,aJ]
 have hownb:∀b,qC r0 b→C.S b∨C.w.heap.size≤b:=fun b ⟨i,z,hz,hbz⟩=>by
  obtain⟨hi,hz⟩:=hr0 i z hz;exact h.own _ z hz b hbz
 have hmod:kW pub' w' r' (nC (gK st.H (eR sel H0)) sel (gY sel st.H.length H')):=by
  refine⟨fun k e he=>?_,fun k hk=>?_,fun i j x y hij hx hy=>?_,hm1.fresh,hm1.there,hm1.glob⟩
  ·rcases BS sel _ _ k e hnd (fun q hq=>by rw[hkl];exact hlt q hq) hsl he with ⟨i,hi,hL⟩|⟨hk,hkl2,he2⟩
   ·rw[hkl]at hi;subst hi;rw[hsig i];rw[gP,aD]at hL;cases hq:H'[i]? with
    |none=>rw[hq]at hL;cases hL
    |some e1=>
     rw[hq]at hL;cases hL;have he1:=hm1.ent i e1 hq;exact he1.ren fun m y hy=>by rw[hsig m];exact hy
   ·rw[hkl]at hkl2;rw[hr'old k hk hkl2];obtain⟨e0,h0,h1⟩:=vI (pub:=pub') (w:=w') (hd:=r k) (eR sel H0) st.H r k e he2;have he0:=(h.mod.ent k e0 h0).frm (r':=r) hfr (fun y hy b hb=>hfoot k y hk hy b hb) (fun _ _ h=>h);exact(h1 he0).frm (S:=fun _=>False) (Fr.refl _ _ _) (fun _ _ _ _ h=>h) hkeepr
  ·rw[hnl]at hk;rw[hr'new k (by omega)];exact hm1.none_ _ (by omega)
  ·-- apart
   have far:∀i k y z,r1 i=some y→k∉sel→k < st.H.length→r k=some z→∀b∈bY y,b∉bY z:=fun i k y z hy hk hkl hz b hb' hbz=>by
    rcases hown b ⟨i,y,hy,hb'⟩with h1|h1
    ·exact hfoot k z hk hz b hbz h1
    ·have:=h.mod.foot_lt hz b hbz;omega
   rcases hcase i with ⟨i0,rfl⟩|⟨hi1,hi2⟩
   ·rw[hsig i0]at hx;rcases hcase j with ⟨j0,rfl⟩|⟨hj1,hj2⟩
    ·rw[hsig j0]at hy;exact hm1.disj i0 j0 x y (fun e=>hij (by rw[e])) hx hy
    ·rw[hr'old j hj1 hj2]at hy;exact far i0 j x y hx hj1 hj2 hy
   ·rw[hr'old i hi1 hi2]at hx;rcases hcase j with ⟨j0,rfl⟩|⟨hj1,hj2⟩
    ·rw[hsig j0]at hy;exact fun b hb' hby=>far j0 i y x hy hi1 hi2 hx b hby hb'
    ·rw[hr'old j hj1 hj2]at hy;exact h.mod.disj i j x y hij hx hy
 refine⟨v,_,_,r',pub',rfl,hvx.ren (fun k y hy=>by rw[hsig k];exact hy),hK,⟨hmod,fun k y hy b hb'=>?_,h.fr.trans hfr (fun b hb'=>hownb b hb'),fun n=>?_,h.defers,h.size,fun k y hy hs=>?_,⟨h.low.1,by dsimp only;rw[hnl];have:=h.low.2;omega⟩⟩,hfr.ext,fun k hk=>?_⟩
 ·rcases hcase k with ⟨i0,rfl⟩|⟨hk1,hk2⟩
  ·rw[hsig i0]at hy;rcases hown b ⟨i0,y,hy,hb'⟩with h1|h1
   ·exact hownb b h1
   ·right;have:=h.fr.size;omega
  ·rw[hr'old k hk1 hk2]at hy;exact h.own k y hy b hb'
 ·exact((uH (eR sel H0) st.T r (h.slots n)).ext hfr.ext).mono hkeepr
 ·have h1:=h.stab k y hy hs;have hkl3:k < st.H.length:=by
   rcases aL k st.H.length with h2|h2
   ·exact h2
   ·rw[h.mod.none_ k h2]at h1;cases h1
  by_cases hk:k∈sel
  ·obtain⟨i,hi,rfl⟩:=List.getElem_of_mem hk;rw[hr'sel i hi];exact hstab i y (by rw[hr0' i hi,hsi i hi];exact h1) hs
  ·rw[hr'old k hk hkl3];exact h1
 ·obtain⟨hk1,hk2⟩:=hkeep k hk;refine⟨hr'old k hk1 hk2,fun y hy b hb'=>(hfr.keep b (h.mod.foot_lt hy b hb') (hfoot k y hk1 hy b hb')).1⟩
mutual
theorem AV.ren_id {s:List Nat}{base:Nat}:∀(x:AV),x.bnd 0=true→x.ren s base=x
 |.any,_=>by unfold AV.ren;rfl
 |.bl _,_=>by unfold AV.ren;rfl
 |.int _ _,_=>by unfold AV.ren;rfl
 |.str _,_=>by unfold AV.ren;rfl
 |.v _,_=>by unfold AV.ren;rfl
 |.sl _ _,_=>by unfold AV.ren;rfl
 |.rp _ _,_=>by unfold AV.ren;rfl
 |.ptr k _,h=>by simp[AV.bnd]at h
 |.hd k,h=>by simp[AV.bnd]at h
 |.ph k,h=>by simp[AV.bnd]at h
 |.re k _ _ _,h=>by simp[AV.bnd]at h
 |.agg l,h=>by unfold AV.ren;rw[AV.renL_id l (by simpa [AV.bnd]using h)]
 |.tup l,h=>by unfold AV.ren;rw[AV.renL_id l (by simpa [AV.bnd]using h)]
 |.clo f l,h=>by unfold AV.ren;rw[AV.renL_id l (by simpa [AV.bnd]using h)]
 |.mth f l,h=>by unfold AV.ren;rw[AV.renL_id l (by simpa [AV.bnd]using h)]
theorem AV.renL_id {s:List Nat}{base:Nat}:∀(l:List AV),AV.bndL 0 l=true→AV.renL s base l=l
 |[],_=>by unfold AV.renL;rfl
 |x :: l,h=>by
  simp only[AV.bndL,aO]at h;unfold AV.renL;rw[AV.ren_id x h.1,AV.renL_id l h.2]
end
theorem Em {P:bG}{f:Nat}{c:cQ}(hf:bH P f c) (hmono:∀args H (K K':AV→List cC→Prop),(∀x H,K x H→K' x H)→c args H K→c args H K') {keep:List Nat}{args:List AV}{st:St}{K:AV→St→Prop}(hb:AV.bndL 0 args=true) (hk:∀k∈keep,k < st.H.length)
  (hc:c args [] fun x H'=>H'=[]∧x.bnd 0=true∧K x st):fZ P keep f args st K:=by
 refine pM hf [] (args0:=args) (H0:=[]) (AV.renL_id args hb).symm rfl List.nodup_nil (by simp) rfl hb rfl (fun k hkk=>⟨by simp,hk k hkk⟩) (hmono _ _ _ _ (fun x H' h=>?_) hc);obtain⟨rfl,hx,hK⟩:=h;rw[AV.ren_id x hx];simpa [eR,iY,gK,nC,gY]using hK
def spec {ι:Type}(a:ι→List AV) (h:ι→List cC) (p:ι→Prop) (r:ι→AV) (h':ι→List cC):cQ:=fun args H K=>∃i,args=a i∧H=h i∧p i∧K (r i) (h' i)
theorem Gv {ι:Type}{a:ι→List AV}{h:ι→List cC}{p:ι→Prop}{r:ι→AV}{h':ι→List cC}:∀args H (K K':AV→List cC→Prop),(∀x H,K x H→K' x H)→spec a h p r h' args H K→spec a h p r h' args H K':=
 fun _ _ _ _ hk ⟨i,h1,h2,h3,h4⟩=>⟨i,h1,h2,h3,hk _ _ h4⟩
theorem N5 {P:bG}{f:Nat}{ι:Type}{a:ι→List AV}{p:ι→Prop}{r:ι→AV}(hf:bH P f (spec a (fun _=>[]) p r fun _=>[])) (i:ι) {keep:List Nat}{st:St}{K:AV→St→Prop}(hp:p i) (hb:AV.bndL 0 (a i)=true) (hr:(r i).bnd 0=true) (hk:(keep.all fun k=>Nat.blt k st.H.length)=true) (hK:K (r i) st):fZ P keep f (a i) st K:=
 Em hf Gv hb (fun k hkk=>by have:=aS.1 hk k hkk;simpa [Nat.blt_eq]using this) ⟨i,rfl,rfl,hp,rfl,hr,hK⟩
inductive LO:AV→AV→Prop
 |refl (x:AV):LO x x
 |nil (sz:Nat):LO (.v (.slice none 0 0)) (.sl sz [])
inductive rW:List AV→List AV→Prop
 |nil:rW [] []
 |cons {x y:AV}{l m:List AV}(h:LO x y) (hl:rW l m):rW (x :: l) (y :: m)
inductive FW:AV→AV→Prop
 |one {x y:AV}(h:LO x y):FW x y
 |agg {l m:List AV}(h:rW l m):FW (.agg l) (.agg m)
inductive mG:List AV→List AV→Prop
 |nil:mG [] []
 |cons {x y:AV}{l m:List AV}(h:FW x y) (hl:mG l m):mG (x :: l) (y :: m)
inductive Le:AV→AV→Prop
 |one {x y:AV}(h:FW x y):Le x y
 |tup {l m:List AV}(h:mG l m):Le (.tup l) (.tup m)
inductive Gt:cC→cC→Prop
 |refl (e:cC):Gt e e
 |blk {t:TypeId}{l m:List AV}(h:rW l m):Gt (.blk t l) (.blk t m)
 |row {t:TypeId}{sz:Nat}{l m:List AV}(h:mG l m):Gt (.row t sz l) (.row t sz m)
inductive sK:List cC→List cC→Prop
 |nil:sK [] []
 |cons {x y:cC}{l m:List cC}(h:Gt x y) (hl:sK l m):sK (x :: l) (y :: m)
section
variable {pub:cI}{w:World}{r:cF}
theorem Le.refl (x:AV):Le x x:=.one (.one (.refl x))
theorem sK.refl:∀l,sK l l
 |[]=>.nil
 |e :: l=>.cons (.refl e) (sK.refl l)
theorem LO.to {x y:AV}(h:LO x y) {v:Value}(hv:bS pub w r x v):bS pub w r y v:=by
 cases h with
 |refl=>exact hv
 |nil sz=>
  cases hv;exact .sl (A:=none) (c:=0) (xs:=[]) (aN _) (by unfold maxLen;omega) (fun _=>⟨rfl,rfl⟩) (fun x hx=>by cases hx) (fun _ _=>undef) (fun i x j u hx=>by simp at hx) (fun i x j u hx=>by simp at hx)
theorem rW.to {l m:List AV}(h:rW l m):∀{us:List Value},bO pub w r l us→bO pub w r m us:=by
 induction h with
 |nil=>exact fun h=>h
 |cons h1 _ ih=>
  intro us hu;obtain⟨u,us',rfl,h2,h3⟩:=hu.cons_inv;exact .cons (h1.to h2) (ih h3)
theorem FW.to {x y:AV}(h:FW x y) {v:Value}(hv:bS pub w r x v):bS pub w r y v:=by
 cases h with
 |one h=>exact h.to hv
 |agg h=>
  cases hv with
  |agg hl h1=>
   have:=h.to (us:=_) ⟨(bA).trans hl,fun i x u hx hu=>h1 i x u hx (by simpa using hu)⟩;exact .agg (by simpa using this.len) fun i x u hx hu=>this.at_ i x u hx (by simpa using hu)
theorem mG.to {l m:List AV}(h:mG l m):∀{us:List Value},bO pub w r l us→bO pub w r m us:=by
 induction h with
 |nil=>exact fun h=>h
 |cons h1 _ ih=>
  intro us hu;obtain⟨u,us',rfl,h2,h3⟩:=hu.cons_inv;exact .cons (h1.to h2) (ih h3)
theorem Le.to {x y:AV}(h:Le x y) {v:Value}(hv:bS pub w r x v):bS pub w r y v:=by
 cases h with
 |one h=>exact h.to hv
 |tup h=>
  cases hv with
  |tup hl h1=>
   have:=h.to (us:=_) ⟨(bA).trans hl,fun i x u hx hu=>h1 i x u hx (by simpa using hu)⟩;exact .tup (by simpa using this.len) fun i x u hx hu=>this.at_ i x u hx (by simpa using hu)
theorem rW.refl:∀l,rW l l
 |[]=>.nil
 |x :: l=>.cons (.refl x) (rW.refl l)
theorem rW.app {a b:List AV}(h:rW a b) {c d:List AV}(k:rW c d):rW (a++c) (b++d):=by
 induction h with
 |nil=>exact k
 |cons h1 _ ih=>exact .cons h1 ih
theorem rW.len {a b:List AV}(h:rW a b):b.length=a.length:=by
 induction h with
 |nil=>rfl
 |cons _ _ ih=>simp[ih]
theorem rW.one {a b:List AV}(h:rW a b):a.all AV.one=true→b.all AV.one=true:=by
 induction h with
 |nil=>exact fun h=>h
 |cons h1 _ ih=>
  intro h2;simp only[List.all_cons,aO]at h2⊢;exact⟨by cases h1 with|refl=>exact h2.1|nil=>rfl,ih h2.2⟩
theorem FW.cells {x y:AV}(h:FW x y):rW x.cells y.cells:=by
 cases h with
 |one h=>cases h with
  |refl=>exact rW.refl _
  |nil sz=>exact .cons (.nil sz) .nil
 |agg h=>exact h
theorem mG.flat {a b:List AV}(h:mG a b):rW (a.flatMap AV.cells) (b.flatMap AV.cells):=by
 induction h with
 |nil=>exact .nil
 |cons h1 _ ih=>simp only[List.flatMap_cons];exact h1.cells.app ih
theorem mG.len {a b:List AV}(h:mG a b):b.length=a.length:=by
 induction h with
 |nil=>rfl
 |cons _ _ ih=>simp[ih]
theorem mG.each {a b:List AV}(h:mG a b) {sz:Nat}:(∀x∈a,x.cells.length=sz∧x.cells.all AV.one=true)→∀x∈b,x.cells.length=sz∧x.cells.all AV.one=true:=by
 induction h with
 |nil=>exact fun h=>h
 |cons h1 _ ih=>
  intro h2 y hy;rcases List.mem_cons.1 hy with rfl|hy
  ·have:=h2 _ (bC ..);exact⟨by rw[h1.cells.len];exact this.1,h1.cells.one this.2⟩
  ·exact ih (fun x hx=>h2 x (aV _ hx)) y hy
theorem Gt.to {x y:cC}(h:Gt x y) {v:Option Value}(hv:dR pub w r v x):dR pub w r v y:=by
 cases h with
 |refl=>exact hv
 |blk h=>cases hv with|blk hb hc hp=>exact .blk hb (h.to hc) hp
 |row h=>cases hv with|row ho hc hs hp=>rw[←h.len]at ho⊢;exact .row ho (h.flat.to hc) (h.each hs) hp
theorem sK.get {l m:List cC}(h:sK l m):∀{i:Nat}{e:cC},m[i]?=some e→∃d,l[i]?=some d∧Gt d e:=by
 induction h with
 |nil=>intro i e h;simp at h
 |cons h1 _ ih=>
  intro i e he;cases i with
  |zero=>simp at he;subst he;exact⟨_,rfl,h1⟩
  |succ i=>simpa using ih (by simpa using he)
theorem sK.len {l m:List cC}(h:sK l m):m.length=l.length:=by
 induction h with
 |nil=>rfl
 |cons _ _ ih=>simp[ih]
theorem kW.le {H H2:List cC}(h:kW pub w r H) (hl:sK H H2):kW pub w r H2:=by
 refine⟨fun i e he=>?_,fun i hi=>h.none_ i (by rw[←hl.len];exact hi),h.disj,h.fresh,h.there,h.glob⟩;obtain⟨d,hd,hde⟩:=hl.get he;exact hde.to (h.ent i d hd)
end
def xD (s:List Nat):Nat→List cC→Bool
 |_,[]=>true
 |n,e :: H=>((match s[n]? with|some k=>k == n|none=>false) || e.turns) && xD s (n+1) H
theorem BC {s:List Nat}:∀{n:Nat}{H:List cC},xD s n H=true→∀(k:Nat) (e:cC),H[k]?=some e→s[n+k]?=some (n+k)∨e.turns=true
 |n,[],h,k,e,he=>by simp at he
 |n,d :: H,h,k,e,he=>by
  unfold xD at h;simp only[aO]at h;cases k with
  |zero=>
   simp at he;subst he;rw[Bool.or_eq_true]at h;rcases h.1 with h1|h1
   ·left
    split at h1
    ·rename_i q hq;simp at h1;subst h1;exact hq
    ·cases h1
   ·exact .inr h1
  |succ k=>
   have:=BC h.2 k e (by simpa using he);rw[show n+(k+1)=n+1+k by omega];exact this
structure mH (H:List cC) (K:AV→List cC→Prop) (x:AV) (H':List cC):Prop where
 out:∃(s:List Nat) (x2:AV) (H2:List cC) (x3:AV) (H3:List cC),x=x2.ren s 0∧s.map (fun k=>H'[k]?)=(gY s 0 H2).map some∧s.Nodup∧xD s 0 H=true∧H.length≤s.length∧x2.bnd H2.length=true∧lD H2.length H2=true∧Le x2 x3∧sK H2 H3∧K x3 H3
theorem qA.cut {K:AV→List cC→Prop}{H:List cC}{w w':World}{r:cF}{pub:cI}{e:Ending}(hm:kW pub w r H) (h:qA (mH H K) H w r pub e w'):qA K H w r pub e w':=by
 obtain⟨v,x,H',r1,pub',rfl,⟨⟨s,x2,H2,x3,H3,rfl,hH,hnd,htk,hM,hbx,hbH,hx3,hH3,hK⟩⟩,hvx,hm1,hfr,hown,hstab,hlen'⟩:=h;have hlen:s.length=H2.length:=by have:=congrArg List.length hH;simpa [gP]using this
 have hsi:∀i (hi:i < s.length),dY s 0 i=s[i]:=fun i hi=>uA hi
 let r0:cF:=fun i=>if i < s.length then r1 (dY s 0 i) else none
 have hr0:∀i y,r0 i=some y→i < s.length∧r1 (dY s 0 i)=some y:=fun i y hy=>by
  by_cases hi:i < s.length
  ·simp only[r0,aF hi]at hy;exact⟨hi,hy⟩
  ·simp only[r0,aE hi]at hy;cases hy
 have hr0':∀i,i < s.length→r0 i=r1 (dY s 0 i):=fun i hi=>aF hi
 have hinj:∀i j,i < s.length→j < s.length→dY s 0 i=dY s 0 j→i=j:=fun i j hi hj e=>by
  rw[hsi i hi,hsi j hj]at e;exact qH hnd e
 have hent:∀i e,H2[i]?=some e→H'[dY s 0 i]?=some (e.ren s 0):=fun i e he=>by
  have hi:i < s.length:=by rw[hlen];exact(aA.1 he).1
  have h1:=congrArg (fun l=>l[i]?) hH;simp only[aD,gP,he,Option.map_some,aB hi]at h1;rw[hsi i hi];simpa using h1
 have hm0:kW pub' w' r0 H2:=by
  refine⟨fun i e he=>?_,fun i hi=>aE (by omega),fun i j x y hij hx hy=>?_,hm1.fresh,hm1.there,hm1.glob⟩
  ·have hi:i < s.length:=by rw[hlen];exact(aA.1 he).1
   have he1:=hm1.ent _ _ (hent i e he);have hbe:=mW hbH i e he;rw[hr0' i hi];exact he1.unren hbe fun k y hkb hy=>by rw[hr0' k (by omega)];exact hy
  ·obtain⟨hi,hx⟩:=hr0 i x hx;obtain⟨hj,hy⟩:=hr0 j y hy;exact hm1.disj _ _ x y (fun e=>hij (hinj i j hi hj e)) hx hy
 refine⟨v,x3,H3,r0,pub',rfl,hK,hx3.to (hvx.unren x2 rfl fun k y hk hy=>?_),hm0.le hH3,hfr,fun b ⟨k,y,hy,hb⟩=>hown b ⟨_,y,(hr0 k y hy).2,hb⟩,fun k y hy hs=>?_,by have:=hH3.len;omega⟩
 ·have hkb:=AV.bnd_has _ hbx hk;rw[hr0' k (by omega)];exact hy
 ·have h1:=hstab k y hy hs;have hk:k < H.length:=by
   rcases aL k H.length with h2|h2
   ·exact h2
   ·rw[hm.none_ k h2]at hy;cases hy
  have he:=aB hk;rcases BC htk k _ he with h2|h2
  ·rw[Nat.zero_add]at h2;have hks:=(aA.1 h2)
   obtain⟨h3,h4⟩:=hks;rw[hr0' k h3,hsi k h3,h4];exact h1
  ·exfalso;have h3:=hm.ent k _ he;rw[hy]at h3;generalize H[k]=en at h2 h3;cases h3<;>first|(cases h2;done)|(cases hs;done)
theorem jX {n k:Nat}(h:k < n):dY (List.range n) 0 k=k:=by
 rw[uA (by rw[List.length_range];exact h),List.getElem_range]
mutual
theorem AV.ren_range {n:Nat}:∀(x:AV),x.bnd n=true→x.ren (List.range n) 0=x
 |.any,_=>by unfold AV.ren;rfl
 |.bl _,_=>by unfold AV.ren;rfl
 |.int _ _,_=>by unfold AV.ren;rfl
 |.str _,_=>by unfold AV.ren;rfl
 |.v _,_=>by unfold AV.ren;rfl
 |.sl _ _,_=>by unfold AV.ren;rfl
 |.rp _ _,_=>by unfold AV.ren;rfl
 |.ptr k o,h=>by unfold AV.ren;rw[jX (by simpa [AV.bnd]using h)]
 |.hd k,h=>by unfold AV.ren;rw[jX (by simpa [AV.bnd]using h)]
 |.ph k,h=>by unfold AV.ren;rw[jX (by simpa [AV.bnd]using h)]
 |.re k _ _ _,h=>by unfold AV.ren;rw[jX (by simpa [AV.bnd]using h)]
 |.agg l,h=>by unfold AV.ren;rw[AV.renL_range l (by simpa [AV.bnd]using h)]
 |.tup l,h=>by unfold AV.ren;rw[AV.renL_range l (by simpa [AV.bnd]using h)]
 |.clo f l,h=>by unfold AV.ren;rw[AV.renL_range l (by simpa [AV.bnd]using h)]
 |.mth f l,h=>by unfold AV.ren;rw[AV.renL_range l (by simpa [AV.bnd]using h)]
theorem AV.renL_range {n:Nat}:∀(l:List AV),AV.bndL n l=true→AV.renL (List.range n) 0 l=l
 |[],_=>by unfold AV.renL;rfl
 |x :: l,h=>by
  simp only[AV.bndL,aO]at h;unfold AV.renL;rw[AV.ren_range x h.1,AV.renL_range l h.2]
end
theorem uO {n:Nat}:∀(l:List cC),lD n l=true→gY (List.range n) 0 l=l
 |[],_=>by unfold gY;rfl
 |e :: l,h=>by
  simp only[lD,aO]at h;unfold gY;rw[uO l h.2];congr 1;cases e with
  |blk t cs=>show cC.blk t (AV.renL (List.range n) 0 cs)=_;rw[AV.renL_range cs (by simpa [zN]using h.1)]
  |hrow t sz m cs=>show cC.hrow t sz m (AV.renL (List.range n) 0 cs)=_;rw[AV.renL_range cs (by simpa [zN]using h.1)]
  |iter x a b=>show cC.iter (AV.ren (List.range n) 0 x) a b=_;rw[AV.ren_range x (by simpa [zN]using h.1)]
  |pool t es outs=>
   show cC.pool t es (outs.map fun p=>(p.1,AV.ren (List.range n) 0 p.2))=_;have h1:AV.bndL n (outs.map fun(p:Nat×AV)=>p.2)=true:=h.1;clear h;congr 1
   induction outs with
   |nil=>rfl
   |cons p outs ih=>
    simp only[List.map_cons,AV.bndL,aO]at h1⊢;rw[ih h1.2,AV.ren_range p.2 h1.1]
  |_=>rfl
theorem mH.pre {H:List cC}{K:AV→List cC→Prop}{x:AV}{H':List cC}(H2:List cC) {x3:AV}{H3:List cC}(hH:H'.take H2.length=H2) (hM:H.length≤H2.length) (hb:x.bnd H2.length=true) (hbH:lD H2.length H2=true) (hx:Le x x3) (hl:sK H2 H3) (hK:K x3 H3):mH H K x H':=by
 refine⟨⟨List.range H2.length,x,H2,x3,H3,(AV.ren_range x hb).symm,?_,List.nodup_range,?_,by rw[List.length_range];exact hM,hb,hbH,hx,hl,hK⟩⟩
 ·rw[uO _ hbH];refine List.ext_getElem? fun i=>?_
  rw[aD,aD];by_cases hi:i < H2.length
  ·rw[List.getElem?_range hi];have:=congrArg (fun l=>l[i]?) hH;simp only[List.getElem?_take,aF hi]at this;rw[aB hi]at this⊢;simpa using this
  ·rw[List.getElem?_eq_none (by rw[List.length_range];omega),List.getElem?_eq_none (by omega)];rfl
 ·have key:∀(n:Nat) (L:List cC),n+L.length≤H2.length→xD (List.range H2.length) n L=true:=fun n L=>by
   induction L generalizing n with
   |nil=>intro _;rfl
   |cons e L ih=>
    intro hl;simp only[List.length_cons]at hl;unfold xD;rw[List.getElem?_range (by omega),ih (n+1) (by omega)];simp
  exact key 0 H (by omega)
theorem mH.val {K:AV→List cC→Prop}{x:AV}{H':List cC}{x3:AV}(hb:x.bnd 0=true) (hx:Le x x3) (hK:K x3 []):mH [] K x H':=.pre [] (by simp) (aN _) hb rfl hx .nil hK
def bL (P:bG) (x:dD) (c:cQ):Prop:=∀args H K,c args H K→args.length≤x.n∧XW P x.n H.length x.body (Mq H.length x.res (mH H K)) ⟨xX 0 args,H⟩
theorem bJ {P:bG}{f:Nat}{x:dD}{c:cQ}(hx:Sd P f=some x) (h:bL P x c):bH P f c:=fun args H K hc w r pub vals hm hv=>
 Calls.mono (QN (fun args H K'=>∃K,c args H K∧K'=mH H K) hx (fun args H K' ⟨K,hc,e⟩=>by subst e;exact h args H K hc) args H _ ⟨K,hc,rfl⟩ w r pub vals hm hv) fun _ _ hp=>qA.cut hm hp
abbrev bK {α β:Type}(f:α→β) (l:List α):List β:=List.rec (motive:=fun _=>List β) [] (fun a _=>List.cons (f a)) l
theorem dC {α β:Type}(f:α→β) (l:List α):bK f l=l.map f:=by
 induction l with
 |nil=>rfl
 |cons a l ih=>
  show f a :: bK f l=f a :: l.map f;rw[ih]
theorem bN {α β:Type}(f:α→β) (l:List α):(bK f l).length=l.length:=by rw[dC];exact aJ f
theorem cP {α β:Type}(f:α→β) (l m:List α):bK f (l++m)=bK f l++bK f m:=by rw[dC,dC,dC];exact List.map_append
theorem cS {α β:Type}(f:α→β) (x:α):bK f [x]=[f x]:=rfl
theorem Hh {P:bG}{f:Nat}{ι:Type}{a:ι→List AV}{p:ι→Prop}{r:ι→AV}{h':ι→List cC}(hf:bH P f (spec a (fun _=>[]) p r h')) (i:ι) {keep:List Nat}{st:St}{K:AV→St→Prop}(hp:p i) (hb:AV.bndL 0 (a i)=true) (hk:(keep.all fun k=>Nat.blt k st.H.length)=true)
  (hK:K ((r i).ren [] st.H.length) ⟨st.T,st.H++gY [] st.H.length (h' i)⟩):fZ P keep f (a i) st K:=by
 refine pM hf [] (args0:=a i) (H0:=[]) (AV.renL_id _ hb).symm rfl List.nodup_nil (by simp) rfl hb rfl (fun k hkk=>⟨by simp,by have:=aS.1 hk k hkk;simpa [Nat.blt_eq]using this⟩) ⟨i,rfl,rfl,hp,?_⟩;simpa [eR,iY,gK,nC]using hK
abbrev nI (n:Nat):Int:=Int.ofNat n
abbrev iH (n i:Nat):Ms:=⟨n,i⟩
theorem bQ {n i:Nat}(h:i < n):(iH n (i+1)).val < (iH n i).val:=by unfold Ms.val;dsimp only;omega
theorem qV {α β:Type}(f:α→β) (l:List α) (i:Nat) (y:α):(bK f l).set i (f y)=bK f (l.set i y):=by rw[dC,dC,List.map_set]
theorem cU {P:bG}{f:Nat}{ι:Type}{a:ι→List AV}{h:ι→List cC}{p:ι→Prop}{r:ι→AV}{h':ι→List cC}(hf:bH P f (spec a h p r h')) (i:ι) (sel:List Nat) {keep:List Nat}{args:List AV}{st:St}{K:AV→St→Prop}
  (hp:p i) (ha:args=AV.renL sel st.H.length (a i)) (hlen:sel.length=(h i).length) (hnd:sel.Nodup) (hlt:(sel.all fun k=>Nat.blt k st.H.length)=true) (hH:sel.map (fun k=>st.H[k]?)=(gY sel st.H.length (h i)).map some)
  (hb:AV.bndL (h i).length (a i)=true) (hbH:lD (h i).length (h i)=true) (hkeep:(keep.all fun k=>!sel.contains k && Nat.blt k st.H.length)=true)
  (hK:K ((r i).ren sel st.H.length) ⟨iY st.T (eR sel (h i)),nC (gK st.H (eR sel (h i))) sel (gY sel st.H.length (h' i))⟩):fZ P keep f args st K:=
 pM hf sel ha hlen hnd (fun k hk=>by simpa [Nat.blt_eq]using aS.1 hlt k hk) hH hb hbH (fun k hk=>by
  have:=aS.1 hkeep k hk;simp only[aO,Bool.not_eq_true',Nat.blt_eq]at this;exact⟨fun h=>by rw[List.contains_eq_mem]at this;simp[h]at this,this.2⟩) ⟨i,rfl,rfl,hp,hK⟩
theorem AP {pub:cI}{w:World}{r:cF}(h:kW pub w r []):r=cM:=funext fun k=>h.none_ k (aI _)
theorem bO.str_inv {pub:cI}{w:World}{r:cF}{s:bF}{l:List AV}{us:List Value}(h:bO pub w r (.str s :: l) us):∃us',us=.string s :: us'∧bO pub w r l us':=by
 obtain⟨u,us',rfl,h1,h2⟩:=h.cons_inv;cases h1;exact⟨us',rfl,h2⟩
theorem bO.int_inv {pub:cI}{w:World}{r:cF}{k:IntKind}{n:Int}{l:List AV}{us:List Value}(h:bO pub w r (.int k n :: l) us):∃us',us=.int k n :: us'∧bO pub w r l us':=by
 obtain⟨u,us',rfl,h1,h2⟩:=h.cons_inv;cases h1;exact⟨us',rfl,h2⟩
theorem Gh.adoptC {M:Nat}{st:St}(k j t sz:Nat) {t0:TypeId}{cs:List AV}(hk:st.H[k]?=some (.blk t0 cs)) (hj:cs[j]?=some (.v (.slice none 0 0))) :
  Gh M st ⟨st.T,(st.H++[cC.row t sz []]).set k (.blk t0 (cs.set j (.hd st.H.length)))⟩:=fun C a w r pub _ h=>by
 have hkl:=(aA.1 hk).1;have hd:=h.room 1;have hq:(st.H++List.replicate 1 cC.dead)[st.H.length]?=some .dead:=by simp
 have h1:=hd.adopt hq t sz;have hset:(st.H++List.replicate 1 cC.dead).set st.H.length (.row t sz [])=st.H++[.row t sz []]:=by simp
 dsimp only at h1;rw[hset]at h1;have hk1:(st.H++[cC.row t sz []])[k]?=some (.blk t0 cs):=by rw[List.getElem?_append_left hkl];exact hk
 obtain⟨b,arr,hr,hb,hc,hp⟩:=h1.ent_blk hk1;have he:dR pub w (eN r st.H.length (.slice none 0 0)) (some (.pointer (some ⟨b,0,none⟩))) (.blk t0 (cs.set j (.hd st.H.length))):=by
  refine .blk hb ⟨by rw[aZ];exact hc.len,fun i x u hx hu=>?_⟩ hp;rw[List.getElem?_set]at hx
  split at hx
  ·rename_i e;subst e;have:=hc.at_ j _ u hj hu;cases this
   split at hx
   ·cases hx;exact .hd (bW _ _ _) rfl
   ·cases hx
  ·exact hc.at_ i x u hx hu
 exact⟨_,pub,h1.mod.set hr (Fr.refl (fun _=>False) _ _) (fun b hb=>hb.elim) h1.mod.fresh h1.mod.there he,h1.own,h1.fr,h1.slots,h1.defers,h1.size,h1.stab,by simpa using h1.low⟩
def Lp (s:hU):List Nat:=match s.d with
 |some d=>[d]
 |none=>[]
def cJ.wr:cJ→List Nat
 |.nil=>[]
 |.take _ s p=>Lp s++p.wr
 |.eff _ _ _ s p=>Lp s++p.wr
 |.fork p q=>p.wr++q.wr
 |.phase p=>p.wr
 |.more p=>p.wr
def Un:List hU→List Nat
 |[]=>[]
 |s :: l=>Lp s++Un l
def gQ.wr:gQ→List Nat
 |.reg l=>Un l
 |.dreg p _ _=>p.wr
 |.seq a b=>a.wr++b.wr
 |.cond _ a b=>a.wr++b.wr
 |.block _ a=>a.wr
 |.loop a=>a.wr
 |.scope a=>a.wr
 |_=>[]
def I7:List Nat→AV→Bool
 |[],_=>false
 |h :: l,x=>x.has h || I7 l x
def jM (hs:List Nat):List Nat→List (Nat×AV)→List (Nat×AV)
 |_,[]=>[]
 |ws,(n,x) :: T=>if ws.contains n=true then jM hs ws T else if I7 hs x=true then jM hs (n :: ws) T else (n,x) :: jM hs (n :: ws) T
def weakG (T T':List (Nat×AV)):Prop:=∀m,dN T' m=.any∨dN T' m=dN T m
theorem nQ (hs:List Nat):∀(T:List (Nat×AV)) (ws:List Nat) (m:Nat),dN (jM hs ws T) m=.any∨(m∉ws∧dN (jM hs ws T) m=dN T m)
 |[],ws,m=>.inl rfl
 |(n,x) :: T,ws,m=>by
  unfold jM
  split
  ·rename_i h;rw[List.contains_eq_mem]at h;simp only[decide_eq_true_eq]at h;rcases nQ hs T ws m with h1|⟨h1,h2⟩
   ·exact .inl h1
   ·refine .inr ⟨h1,h2.trans ?_⟩;show _=if n=m then x else dN T m
    rw[aE (by rintro rfl;exact h1 h)]
  ·rename_i h;rw[List.contains_eq_mem]at h;simp only[decide_eq_true_eq]at h
   split
   ·rcases nQ hs T (n :: ws) m with h1|⟨h1,h2⟩
    ·exact .inl h1
    ·simp only[List.mem_cons,not_or]at h1;refine .inr ⟨h1.2,h2.trans ?_⟩;show _=if n=m then x else dN T m
     rw[aE (fun e=>h1.1 e.symm)]
   ·show (if n=m then x else dN (jM hs (n :: ws) T) m)=.any∨m∉ws∧(if n=m then x else dN (jM hs (n :: ws) T) m)=if n=m then x else dN T m
    by_cases e:n=m
    ·subst e;rw[aF rfl,aF rfl];exact .inr ⟨h,rfl⟩
    ·rw[aE e,aE e];rcases nQ hs T (n :: ws) m with h1|⟨h1,h2⟩
     ·exact .inl h1
     ·simp only[List.mem_cons,not_or]at h1;exact .inr ⟨h1.2,h2⟩
theorem H5 {T F G:List (Nat×AV)}(h:rQ T F) (hg:weakG T G):weakG T (F++G):=by
 induction F with
 |nil=>exact hg
 |cons p F ih=>
  obtain⟨n,x⟩:=p;intro m;show (if n=m then x else dN (F++G) m)=.any∨(if n=m then x else dN (F++G) m)=dN T m
  split
  ·rename_i e;subst e;rcases h.1 with h1|h1
   ·exact .inr h1.symm
   ·exact .inl h1
  ·exact ih h.2 m
theorem Gh.weakG {M:Nat}{st st':St}(hT:weakG st.T st'.T) (hH:st.H.take st'.H.length=st'.H) (hb:Aj st'.H.length st'.T=true) (hbH:lD st'.H.length st'.H=true) (hM:M≤st'.H.length):Gh M st st':=fun C a w r pub hCm h=>by
 obtain⟨r',pub',h1⟩:=Gh.weak (M:=M) (st:=⟨[],st.H⟩) (st':=⟨[],st'.H⟩) trivial hH rfl hbH hM C a w r pub hCm ⟨h.mod,h.own,h.fr,fun n=>.any _,h.defers,h.size,h.stab,h.low⟩;have hget:∀k e,st'.H[k]?=some e→st.H[k]?=some e:=fun k e he=>by
  have hk:=(aA.1 he).1;rw[←hH,List.getElem?_take,aF hk]at he;exact he
 let r2:cF:=fun k=>if k < st'.H.length then r k else none
 have hr2:∀k,k < st'.H.length→r2 k=r k:=fun k hk=>aF hk
 have hsome:∀k y,r2 k=some y→r k=some y:=fun k y hy=>by
  by_cases hk:k < st'.H.length
  ·rw[hr2 k hk]at hy;exact hy
  ·simp only[r2,aE hk]at hy;cases hy
 refine⟨r2,pub,⟨fun k e he=>?_,fun k hk=>aE (by omega),fun i j x y hij hx hy=>h.mod.disj i j x y hij (hsome _ _ hx) (hsome _ _ hy),h.mod.fresh,h.mod.there,h.mod.glob⟩,fun k x hx=>h.own k x (hsome _ _ hx),h.fr,fun m=>?_,h.defers,h.size,fun k y hy hs=>?_,⟨h.low.1,by omega⟩⟩
 ·have hk:=(aA.1 he).1;have h0:=h.mod.ent k e (hget k e he);have hbe:=mW hbH k e he;rw[hr2 k hk];exact h0.congr hbe hr2
 ·rcases hT m with e|e
  ·rw[e];exact .any _
  ·have hbm:=vB hb m;rw[e]at hbm⊢;exact(h.slots m).congr fun n hn=>hr2 n (AV.bnd_has _ hbm hn)
 ·have hk:k < st'.H.length:=by
   rcases aL k C.m with h1|h1
   ·omega
   ·rw[h.low.1 k h1]at hy;cases hy
  rw[hr2 k hk];exact h.stab k y hy hs
theorem mH.sel {H:List cC}{K:AV→List cC→Prop}{x:AV}{H':List cC}(s:List Nat) (H2:List cC) (x2:AV) {x3:AV}{H3:List cC}(hx:x=x2.ren s 0) (hH:s.map (fun k=>H'[k]?)=(gY s 0 H2).map some) (hnd:s.Nodup) (hs:xD s 0 H=true) (hl:H.length≤s.length)
  (hb:x2.bnd H2.length=true) (hbH:lD H2.length H2=true) (h1:Le x2 x3) (h2:sK H2 H3) (hK:K x3 H3):mH H K x H':=⟨s,x2,H2,x3,H3,hx,hH,hnd,hs,hl,hb,hbH,h1,h2,hK⟩
theorem vP {P:bG}{keep:List Nat}{f:Nat}{args:List AV}(args2:List AV) {st:St}{K:AV→St→Prop}(h:mG args args2) (hc:fZ P keep f args2 st K):fZ P keep f args st K:=
 ⟨fun C a w r pub vals hh hv=>hc.out C a w r pub vals hh (h.to hv)⟩
theorem PV {P:bG}{N M:Nat}{c:gQ}{Q:AF→St→Prop}{T:List (Nat×AV)}{H:List cC}{ι:Type}(hs:List Nat) (F:ι→List (Nat×AV)) (G:ι→List cC) (μ:ι→Ms) (i0:ι)
  (hw:rQ T (F i0)) (hH:H.take (G i0).length=G i0) (hb:Aj (G i0).length (F i0++jM hs c.wr T)=true) (hbH:lD (G i0).length (G i0)=true) (hM:M≤(G i0).length)
  (hr:∀i,XW P N M c (Es M (fun i=>⟨F i++jM hs c.wr T,G i⟩) μ (μ i) Q) ⟨F i++jM hs c.wr T,G i⟩):pS P N M c Q ⟨T,H⟩:=
 Ro (fun i=>⟨F i++jM hs c.wr T,G i⟩) μ i0 (Gh.weakG (H5 hw fun m=>by rcases nQ hs T c.wr m with h|h;(· exact .inl h);exact .inr h.2) hH hb hbH hM) hr
theorem iD {P:bG}{N M:Nat}{c:gQ}{Q:AF→St→Prop}{st st1:St}(hg:Gh M st st1) (h:pS P N M c Q st1):pS P N M c Q st:=
 ⟨fun code C a w r pub hc hN hM hh=>by
  obtain⟨r1,p1,h1⟩:=hg C a w r pub hM hh;exact h.out code C a w r1 p1 hc hN hM h1⟩
theorem P9 {ι:Type}{M:Nat}{F:ι→St}{μ:ι→Ms}{n:Ms}{st:St}(j:ι) (hw:rQ st.T (F j).T) (hH:st.H.take (F j).H.length=(F j).H) (hb:Aj (F j).H.length (F j).T=true) (hbH:lD (F j).H.length (F j).H=true) (hM:M≤(F j).H.length) (hl:(μ j).val < n.val):Zj M F μ n st:=
 ⟨_,j,Gh.weak hw hH hb hbH hM,rfl,hl⟩
theorem pI.mk' {xs ys:List AV}{bytes:Nat}{K:List AV→Prop}(owed:xs.length+ys.length≤maxLen∧(xs.length+ys.length) * bytes≤140737488355328) (rest:∀zs,zs=xs++ys→zs.length=xs.length+ys.length→K zs):pI xs ys bytes K:=
 ⟨owed,fun zs h=>rest zs h (by rw[h,aM])⟩
theorem Gq {α:Type}{f:α→AV}{L L2:List α}{bytes:Nat}{K:List AV→Prop}(owed:L.length+L2.length≤maxLen∧(L.length+L2.length) * bytes≤140737488355328)
  (rest:∀L',L'=L++L2→L'.length=L.length+L2.length→K (bK f L')):pI (bK f L) (bK f L2) bytes K:=
 ⟨by rw[bN,bN];exact owed,fun zs h=>by rw[h,←cP];exact rest _ rfl aM⟩
theorem Jl.pos {m n:Int}{K:Int→Prop}(hm:0≤m) (hn:0 < n) (hM:m≤9223372036854775807) (rest:∀z,z=m.tdiv n→0≤z→z≤m→K z):Jl .i64 m n K:=by
 have h0:0≤m.tdiv n:=Int.tdiv_nonneg hm (by omega);have h1:m.tdiv n≤m:=Int.tdiv_le_self _ hm;exact⟨⟨by omega,IntWalk.i64_in _ (by omega)⟩,fun z hz=>rest z hz (by omega) (by omega)⟩
theorem Lt.mk' {s t:bF}{K:bF→Prop}(owed:s.size+t.size≤maxLen) (rest:∀u,u=s++t→u.size=s.size+t.size→K u):Lt s t K:=
 ⟨owed,fun u hu=>rest u hu (by rw[hu,ByteArray.size_append])⟩
theorem tC {α:Type}{f:α→AV}{L:List α}{i:Nat}{l:α}{K:Nat→AV→Prop}(h:L[i]?=some l) (hk:K i (f l)):kR (bK f L) (nI i) K:=
 ⟨i,_,rfl,by rw[dC,aD,h];rfl,hk⟩
theorem rE {α:Type}{f:α→AV}{L:List α}{i:Nat}{l:α}{K:Nat→Prop}(h:L[i]?=some l) (hk:K i):yP (bK f L) (nI i) K:=
 ⟨i,rfl,by rw[bN];exact(aA.1 h).1,hk⟩
theorem cE {α:Type}{L:List α}{i:Nat}{l:α}(h:L[i]?=some l):L.take (i+1)=L.take i++[l]:=by
 obtain⟨hi,rfl⟩:=aA.1 h;exact List.take_succ_eq_append_getElem hi
theorem cY {α:Type}{L:List α}{i:Nat}(h:i < L.length):∃l,L[i]?=some l:=⟨_,aB h⟩
theorem dS {s:bF}{i:Nat}{K:Int→Prop}(h:i < s.size) (hk:∀z:Int,z=(s.data[i]'h).toNat→K z):FX s (nI i) K:=
 ⟨i,rfl,h,fun c hc z hz=>hk z (by rw[aK h]at hc;cases hc;exact hz)⟩
theorem Gh.freeze {M:Nat}{st:St}(k:Nat) {t sz:Nat}{xs:List AV}(hk:st.H[k]?=some (.tip t sz xs)):Gh M st ⟨Ws k (.sl sz xs) st.T,st.H.map (cC.kill k (.sl sz xs))⟩:=fun C a w r pub _ h=>by
 have hy:∀z,r k=some z→bS pub w r (.sl sz xs) z:=fun z hz=>by
  obtain⟨A,d,c,x,us,hr,_⟩:=h.ent_tip hk;rw[hr]at hz;cases hz;have h1:=h.view1 (x:=.hd k) (.hd hr rfl);simp only[St.view1,hk]at h1;exact h1
 refine⟨r,pub,⟨fun j e he=>?_,fun j hj=>h.mod.none_ j (by simpa using hj),h.mod.disj,h.mod.fresh,h.mod.there,h.mod.glob⟩,h.own,h.fr,h.slots.kill (fun _ _=>rfl) hy,h.defers,h.size,h.stab,by simpa using h.low⟩;rw[aD]at he;cases hj:st.H[j]? with
 |none=>rw[hj]at he;cases he
 |some e0=>
  rw[hj]at he;cases he;exact(h.mod.ent j e0 hj).kill (Fr.refl (fun _=>False) _ _) (fun _ _ _ _ h=>h) (fun _ _=>rfl) hy
theorem Gh.plain {M:Nat}{st:St}(k:Nat) {t sz:Nat}{xs:List AV}(hk:tD st.H[k]?=some (t,sz,xs)):Gh M st ⟨Ws k (.sl sz xs) st.T,(st.H.set k (.tip t sz xs)).map (cC.kill k (.sl sz xs))⟩:=
 (Gh.publish k hk).trans (Gh.freeze (st:=⟨st.T,st.H.set k (.tip t sz xs)⟩) (t:=t) k (by
  have hl:k < st.H.length:=by
   unfold tD at hk
   split at hk
   ·rename_i he;exact(aA.1 he).1
   ·cases hk
  exact aP hl))
theorem vn:(∀n:Nat,(NatCast.natCast n:Int)=(n:Int))∧(∀{α β:Type}(f:α→β) (l:List α),(bK f l).length=l.length)∧(∀n:Nat,nI n=(n:Int))∧(∀{α:Type},([]:List α).length=0)∧
  (∀{α:Type}(a:α) (l:List α),(a :: l).length=l.length+1)∧(∀{α:Type}(a b:α),(some a).getD b=a)∧(∀{α:Type}(b:α),(none:Option α).getD b=b):=
 ⟨fun _=>rfl,fun f l=>bN f l,fun _=>rfl,rfl,fun _ _=>rfl,fun _ _=>rfl,fun _=>rfl⟩
section
variable {a b:Unit→Prop}{x1 x2:Int}{K:Int→Prop}
theorem C6.n (k:x1≠x2→b ()) (d:x1≠x2:=by(try simp only[vn]at *)<;>omega):C6 x1 x2 a b:=⟨fun h=>absurd h d,k⟩
theorem C6.y (k:x1=x2→a ()) (d:x1=x2:=by(try simp only[vn]at *)<;>omega):C6 x1 x2 a b:=⟨k,fun h=>absurd d h⟩
theorem Hz.n (k:x2≤x1→b ()) (d:x2≤x1:=by(try simp only[vn]at *)<;>omega):Hz x1 x2 a b:=⟨fun h=>absurd h (by omega),k⟩
theorem Hz.y (k:x1 < x2→a ()) (d:x1 < x2:=by(try simp only[vn]at *)<;>omega):Hz x1 x2 a b:=⟨k,fun h=>absurd h (by omega)⟩
theorem Gs.n (k:x2 < x1→b ()) (d:x2 < x1:=by(try simp only[vn]at *)<;>omega):Gs x1 x2 a b:=⟨fun h=>absurd h (by omega),k⟩
theorem Gs.y (k:x1≤x2→a ()) (d:x1≤x2:=by(try simp only[vn]at *)<;>omega):Gs x1 x2 a b:=⟨k,fun h=>absurd h (by omega)⟩
theorem Uw.n {s t:Bool}(k:s≠t→b ()) (d:s≠t:=by decide):Uw s t a b:=⟨fun h=>absurd h d,k⟩
theorem Uw.y {s t:Bool}(k:s=t→a ()) (d:s=t:=by decide):Uw s t a b:=⟨k,fun h=>absurd d h⟩
theorem Np.k {xs:List AV}(k:∀z:Int,z=(xs.length:Int)→K z):Np xs K:=⟨k⟩
theorem Mf.k {xs:List (AV×AV)}(k:∀z:Int,z=(xs.length:Int)→K z):Mf xs K:=⟨k⟩
theorem PN.k {s:bF}(k:∀z:Int,z=(s.size:Int)→K z):PN s K:=⟨k⟩
theorem Am.k (k:∀z,z=x1+x2→K z) (d:-9223372036854775808≤x1+x2∧x1+x2≤9223372036854775807:=by(try simp only[vn]at *)<;>omega):Am .i64 x1 x2 K:=⟨fun z hz=>k z (hz.trans (IntWalk.i64_in _ d))⟩
theorem Am.w {i:IntKind}(k:∀z,z=i.wrap (x1+x2)→K z):Am i x1 x2 K:=⟨k⟩
theorem LH.k (k:∀z,z=x1 * x2→K z) (d:-9223372036854775808≤x1 * x2∧x1 * x2≤9223372036854775807:=by(try simp only[vn]at *)<;>omega):LH .i64 x1 x2 K:=⟨fun z hz=>k z (hz.trans (IntWalk.i64_in _ d))⟩
theorem Ok.k (k:∀z,z=x1 - x2→K z) (d:-9223372036854775808≤x1 - x2∧x1 - x2≤9223372036854775807:=by(try simp only[vn]at *)<;>omega):Ok .i64 x1 x2 K:=⟨fun z hz=>k z (hz.trans (IntWalk.i64_in _ d))⟩
theorem TF.o {K:Prop}(k:K) (d:-9223372036854775808≤x1∧x1≤9223372036854775807:=by(try simp only[vn]at *)<;>omega):TF .i64 x1 K:=⟨IntWalk.i64_in _ d,k⟩
theorem Pf.k (k:∀z,z=min x1 x2→K z):Pf x1 x2 K:=⟨k⟩
theorem SB.k (k:∀z,z=max x1 x2→K z):SB x1 x2 K:=⟨k⟩
theorem JX.k {i:IntKind}(k:∀z,z=i.wrap (x1 - x2)→K z):JX i x1 x2 K:=⟨k⟩
theorem Jl.q (k:∀z,z=x1.tdiv x2→0≤z→z≤x1→K z) (d:0≤x1∧0 < x2∧x1≤9223372036854775807:=by(try simp only[vn]at *)<;>omega):Jl .i64 x1 x2 K:=.pos d.1 d.2.1 d.2.2 k
theorem Ma.o {ys:List AV}{bytes:Nat}{K:Unit→Prop}(k:K ()) (d:ys.length≤maxLen∧ys.length * bytes≤140737488355328:=by(try simp only[vn]at *)<;>(try unfold maxLen)<;>omega):Ma ys bytes K:=⟨d,k⟩
theorem pI.l {α:Type}{f:α→AV}{L L2:List α}{bytes:Nat}{K:List AV→Prop}(k:∀L',L'=L++L2→L'.length=L.length+L2.length→K (bK f L')) (d:L.length+L2.length≤maxLen∧(L.length+L2.length) * bytes≤140737488355328:=by(try simp only[vn]at *)<;>(try unfold maxLen)<;>omega):pI (bK f L) (bK f L2) bytes K:=Gq d k
theorem pI.zl {xs ys:List AV}{bytes:Nat}{K:List AV→Prop}(k:∀zs,zs=xs++ys→zs.length=xs.length+ys.length→K zs) (d:xs.length+ys.length≤maxLen∧(xs.length+ys.length) * bytes≤140737488355328:=by(try simp only[vn]at *)<;>(try unfold maxLen)<;>omega):pI xs ys bytes K:=.mk' d k
theorem Lt.u {s t:bF}{K:bF→Prop}(k:∀u,u=s++t→u.size=s.size+t.size→K u) (d:s.size+t.size≤maxLen:=by(try simp only[vn]at *)<;>(try unfold maxLen)<;>omega):Lt s t K:=.mk' d k
theorem Ps.z {xs:List AV}{i:Nat}{x2:AV}{K:List AV→Prop}(k:∀zs,zs=xs.set i x2→K zs):Ps xs i x2 K:=⟨k⟩
theorem Ql.ms {es:List (AV×AV)}{i:Nat}{e:AV×AV}{K:List (AV×AV)→Prop}(k:∀ms,ms=es.set i e→K ms):Ql es i e K:=⟨k⟩
theorem OT.ms {es:List (AV×AV)}{e:AV×AV}{K:List (AV×AV)→Prop}(k:∀ms,ms=es++[e]→K ms):OT es e K:=⟨k⟩
theorem OC.u {s:bF}{lo hi:Option Int}{K:bF→Prop}(k:∀u,u=s.extract (lo.getD 0).toNat (hi.getD s.size).toNat→(u.size:Int)=hi.getD s.size - lo.getD 0→K u)
  (d:0≤lo.getD 0∧lo.getD 0≤hi.getD s.size∧hi.getD s.size≤s.size:=by(try dsimp only[Option.getD]);(try simp only[vn]at *)<;>omega):OC s lo hi K:=
 ⟨d,fun u hu=>k u hu (by rw[hu,ByteArray.size_extract];omega)⟩
theorem kR.e {α:Type}{f:α→AV}{L:List α}{i:Nat}{l:α}{K:Nat→AV→Prop}(k:K i (f l)) (h:L[i]?=some l:=by assumption):kR (bK f L) (nI i) K:=tC h k
end
theorem cZ {α:Type}{f:α→AV}{L:List α}{z:Int}{K:Nat→AV→Prop}(h0:0≤z) (h1:z < L.length) (k:∀i l,z=nI i→L[i]?=some l→K i (f l)):kR (bK f L) z K:=by
 obtain⟨i,rfl⟩:=Int.eq_ofNat_of_zero_le h0;obtain⟨l,hl⟩:=cY (L:=L) (i:=i) (by omega);exact tC hl (k i l rfl hl)
theorem bP {ι:Type}{M:Nat}{F:ι→St}{μ:ι→Ms}{n:Ms}{st:St}(j:ι) (hl:(μ j).val < n.val) (hw:rQ st.T (F j).T:=by repeat'(first|exact trivial|refine⟨.inl rfl,?_⟩|refine⟨.inr rfl,?_⟩))
  (hH:st.H.take (F j).H.length=(F j).H:=by rfl) (hb:Aj (F j).H.length (F j).T=true:=by rfl) (hbH:lD (F j).H.length (F j).H=true:=by rfl) (hM:M≤(F j).H.length:=by exact Nat.le_of_ble_eq_true rfl):Zj M F μ n st:=
 P9 j hw hH hb hbH hM hl
theorem bZ {P:bG}{N M:Nat}{c:gQ}{Q:AF→St→Prop}{T:List (Nat×AV)}{H:List cC}{ι:Type}(hs:List Nat) (F:ι→List (Nat×AV)) (G:ι→List cC) (μ:ι→Ms) (i0:ι)
  (hr:∀i,XW P N M c (Es M (fun i=>⟨F i++jM hs c.wr T,G i⟩) μ (μ i) Q) ⟨F i++jM hs c.wr T,G i⟩)
  (hw:rQ T (F i0):=by repeat'(first|exact trivial|refine⟨.inl rfl,?_⟩|refine⟨.inr rfl,?_⟩)) (hH:H.take (G i0).length=G i0:=by rfl) (hb:Aj (G i0).length (F i0++jM hs c.wr T)=true:=by rfl) (hbH:lD (G i0).length (G i0)=true:=by rfl) (hM:M≤(G i0).length:=by exact Nat.le_of_ble_eq_true rfl):pS P N M c Q ⟨T,H⟩:=
 PV hs F G μ i0 hw hH hb hbH hM hr
theorem bR {p:Prop}(h:p:=by(try simp only[vn]at *)<;>omega):p:=h
theorem Si {p:Prop}(h:p:=by repeat'(first|exact rW.nil|exact mG.nil|exact sK.nil|exact Gt.refl _|exact Le.refl _|exact FW.one (.refl _)|exact FW.one (.nil _)|exact LO.refl _|exact LO.nil _|refine sK.cons ?_ ?_|refine Gt.row ?_|refine Gt.blk ?_|refine mG.cons ?_ ?_|refine rW.cons ?_ ?_|refine FW.agg ?_|refine Le.tup ?_|exact Le.one (.one (.nil _))|refine Le.one (.agg ?_))):p:=h
theorem cW {a b:Nat}(h:Nat.ble a b=true:=by rfl):a≤b:=Nat.le_of_ble_eq_true h
theorem nF.r9 {M:Nat}{res:List Bq}{K:AV→List cC→Prop}{st st':St}(g:Gh M st st') (h:CR st' res fun l=>K (wU l) st'.H∨K (Fw st' (wU l)) st'.H):nF M res K st:=⟨_,g,h⟩
theorem nF.q9 {M:Nat}{res:List Bq}{K:AV→List cC→Prop}{st:St}(h:CR st res fun l=>K (wU l) st.H∨K (Fw st (wU l)) st.H):nF M res K st:=.r9 (Gh.refl _) h
theorem mH.f9 {H:List cC}{K:AV→List cC→Prop}{x:AV}{H' H2:List cC}(hK:K x H2) (hH:H'.take H2.length=H2:=by rfl) (hM:H.length≤H2.length:=by exact Nat.le_of_ble_eq_true rfl) (hb:x.bnd H2.length=true:=by rfl) (hbH:lD H2.length H2=true:=by rfl):mH H K x H':=.pre H2 hH hM hb hbH (Le.refl _) (sK.refl _) hK
theorem mH.g9 {H:List cC}{K:AV→List cC→Prop}{x x3:AV}{H' H2:List cC}(hK:K x3 H2) (hH:H'.take H2.length=H2:=by rfl) (hM:H.length≤H2.length:=by exact Nat.le_of_ble_eq_true rfl) (hb:x.bnd H2.length=true:=by rfl) (hbH:lD H2.length H2=true:=by rfl) (hx:Le x x3:=by repeat'(first|exact rW.nil|exact mG.nil|exact sK.nil|exact Gt.refl _|exact Le.refl _|exact FW.one (.refl _)|exact FW.one (.nil _)|exact LO.refl _|exact LO.nil _|refine sK.cons ?_ ?_|refine Gt.row ?_|refine Gt.blk ?_|refine mG.cons ?_ ?_|refine rW.cons ?_ ?_|refine FW.agg ?_|refine Le.tup ?_|exact Le.one (.one (.nil _))|refine Le.one (.agg ?_))):mH H K x H':=.pre H2 hH hM hb hbH hx (sK.refl _) hK
theorem mH.v9 {K:AV→List cC→Prop}{x:AV}{H':List cC}(hK:K x []) (hb:x.bnd 0=true:=by rfl):mH [] K x H':=.val hb (Le.refl _) hK
theorem hP {P:bG}{f:Nat}{ι:Type}{a:ι→List AV}{p:ι→Prop}{r:ι→AV}(hf:bH P f (spec a (fun _=>[]) p r fun _=>[])) (i:ι) {keep:List Nat}{st:St}{K:AV→St→Prop}(hp:p i) (hK:K (r i) st) (hb:AV.bndL 0 (a i)=true:=by rfl) (hr:(r i).bnd 0=true:=by rfl) (hk:(keep.all fun k=>Nat.blt k st.H.length)=true:=by rfl):fZ P keep f (a i) st K:=N5 hf i hp hb hr hk hK
theorem Sm {P:bG}{f:Nat}{ι:Type}{a:ι→List AV}{p:ι→Prop}{r:ι→AV}{h':ι→List cC}(hf:bH P f (spec a (fun _=>[]) p r h')) (i:ι) {keep:List Nat}{st:St}{K:AV→St→Prop}(hp:p i) (hK:K ((r i).ren [] st.H.length) ⟨st.T,st.H++gY [] st.H.length (h' i)⟩) (hb:AV.bndL 0 (a i)=true:=by rfl) (hk:(keep.all fun k=>Nat.blt k st.H.length)=true:=by rfl):fZ P keep f (a i) st K:=Hh hf i hp hb hk hK
theorem jR {P:bG}{f:Nat}{ι:Type}{a:ι→List AV}{h:ι→List cC}{p:ι→Prop}{r:ι→AV}{h':ι→List cC}(hf:bH P f (spec a h p r h')) (i:ι) (sel:List Nat) {keep:List Nat}{args:List AV}{st:St}{K:AV→St→Prop}(hp:p i) (hK:K ((r i).ren sel st.H.length) ⟨iY st.T (eR sel (h i)),nC (gK st.H (eR sel (h i))) sel (gY sel st.H.length (h' i))⟩)
 (ha:args=AV.renL sel st.H.length (a i):=by rfl) (hlen:sel.length=(h i).length:=by rfl) (hnd:sel.Nodup:=by decide) (hlt:(sel.all fun k=>Nat.blt k st.H.length)=true:=by rfl) (hH:sel.map (fun k=>st.H[k]?)=(gY sel st.H.length (h i)).map some:=by rfl) (hb:AV.bndL (h i).length (a i)=true:=by rfl) (hbH:lD (h i).length (h i)=true:=by rfl) (hkeep:(keep.all fun k=>!sel.contains k && Nat.blt k st.H.length)=true:=by rfl):fZ P keep f args st K:=cU hf i sel hp ha hlen hnd hlt hH hb hbH hkeep hK
section
variable {x1 x2:Int}{K:Int→Prop}
theorem Gl.o {n:Nat}{K:Prop}(k:K) (d:0≤x1∧x1 < n:=by(try simp only[vn]at *)<;>omega):Gl n x1 K:=⟨d,k⟩
theorem O0.o {n:Nat}{K:Nat→Prop}(k:K x1.toNat) (d:0≤x1∧x1 < n:=by(try simp only[vn]at *)<;>omega):O0 n x1 K:=⟨d,k⟩
theorem Qd.zl {bytes:Nat}{x:AV}{K:List AV→Prop}(k:∀zs,zs=List.replicate x1.toNat x→zs.length=x1.toNat→K zs) (d:0≤x1∧x1≤x2∧x2≤maxLen∧bytes * x2≤140737488355328:=by(try simp only[vn]at *)<;>(try unfold maxLen)<;>omega):Qd x1 x2 bytes x K:=
 ⟨d,fun zs h=>k zs h (by rw[h,List.length_replicate])⟩
end
section
variable {α:Type}{f:α→Qh}{L:List α}
end
section
variable {P:bG}{N M:Nat}
end
section
variable {P:bG}{N M:Nat}
end
mutual
def AV.pb (n:Nat):AV→List AV→AV
 |.ptr k o,cs=>if k=n then .rp cs o else .ptr k o
 |.hd k,_=>if k=n then .any else .hd k
 |.ph k,_=>if k=n then .any else .ph k
 |.re k a b c,_=>if k=n then .any else .re k a b c
 |.agg l,cs=>.agg (AV.pbL n l cs)
 |.tup l,cs=>.tup (AV.pbL n l cs)
 |.clo f l,cs=>.clo f (AV.pbL n l cs)
 |.mth f l,cs=>.mth f (AV.pbL n l cs)
 |.any,_=>.any
 |.bl b,_=>.bl b
 |.int k x,_=>.int k x
 |.str s,_=>.str s
 |.v x,_=>.v x
 |.sl a b,_=>.sl a b
 |.rp a b,_=>.rp a b
def AV.pbL (n:Nat):List AV→List AV→List AV
 |[],_=>[]
 |x :: l,cs=>AV.pb n x cs :: AV.pbL n l cs
end
def cC.pb (k:Nat) (cs:List AV):cC→cC
 |.blk t l=>.blk t (AV.pbL k l cs)
 |.row t sz xs=>.row t sz xs
 |.map t es=>.map t es
 |.dead=>.dead
 |.tip t sz xs=>.tip t sz xs
 |.hrow t sz n l=>.hrow t sz n (AV.pbL k l cs)
 |.pool t es outs=>.pool t es (outs.map fun p=>(p.1,AV.pb k p.2 cs))
 |.iter x since seen=>.iter (x.pb k cs) since seen
def QG (k:Nat) (cs:List AV):List (Nat×AV)→List (Nat×AV)
 |[]=>[]
 |(n,x) :: l=>(n,x.pb k cs) :: QG k cs l
theorem AV.pbL_map (n:Nat) (cs:List AV):∀l,AV.pbL n l cs=l.map (fun x=>AV.pb n x cs)
 |[]=>by unfold AV.pbL;rfl
 |x :: l=>by unfold AV.pbL;rw[AV.pbL_map n cs l];rfl
theorem AV.pbL_get {n:Nat}{cs l:List AV}{i:Nat}{z:AV}(h:(AV.pbL n l cs)[i]?=some z):∃x,l[i]?=some x∧z=x.pb n cs:=by
 rw[AV.pbL_map,aD]at h;cases hx:l[i]? with
 |none=>rw[hx]at h;cases h
 |some x=>rw[hx]at h;cases h;exact⟨x,rfl,rfl⟩
theorem bS.pb {pub:cI}{w:World}{r r':cF}{a:AV}{x:Value}{n:Nat}{cs:List AV}(h:bS pub w r a x) :
  (∀m,m≠n→r' m=r m)→(∀b o,r n=some (.pointer (some ⟨b,0,none⟩))→bS pub w r' (.rp cs o) (.pointer (some ⟨b,o,none⟩)))→bS pub w r' (a.pb n cs) x:=by
 induction h with
 |any x=>exact fun _ _=>by unfold AV.pb;exact .any x
 |bl b=>exact fun _ _=>by unfold AV.pb;exact .bl b
 |int k x=>exact fun _ _=>by unfold AV.pb;exact .int k x
 |str s=>exact fun _ _=>by unfold AV.pb;exact .str s
 |v x h=>exact fun _ _=>by unfold AV.pb;exact .v x h
 |agg hl _ ih=>
  intro h1 h2;unfold AV.pb;refine .agg (by rw[AV.pbL_map,aJ];exact hl) fun i z u hz hu=>?_
  obtain⟨y,hy,rfl⟩:=AV.pbL_get hz;exact ih i y u hy hu h1 h2
 |tup hl _ ih=>
  intro h1 h2;unfold AV.pb;refine .tup (by rw[AV.pbL_map,aJ];exact hl) fun i z u hz hu=>?_
  obtain⟨y,hy,rfl⟩:=AV.pbL_get hz;exact ih i y u hy hu h1 h2
 |clo f hl _ ih=>
  intro h1 h2;unfold AV.pb;refine .clo f (by rw[AV.pbL_map,aJ];exact hl) fun i z u hz hu=>?_
  obtain⟨y,hy,rfl⟩:=AV.pbL_get hz;exact ih i y u hy hu h1 h2
 |mth f hl _ ih=>
  intro h1 h2;unfold AV.pb;refine .mth f (by rw[AV.pbL_map,aJ];exact hl) fun i z u hz hu=>?_
  obtain⟨y,hy,rfl⟩:=AV.pbL_get hz;exact ih i y u hy hu h1 h2
 |@ptr r k b off h=>
  intro h1 h2;unfold AV.pb
  split
  ·rename_i e;subst e;exact h2 b off h
  ·rename_i e;exact .ptr off (by rw[h1 k e];exact h)
 |@hd r k x h h0=>
  intro h1 h2;unfold AV.pb
  split
  ·exact .any _
  ·rename_i e;exact .hd (by rw[h1 k e];exact h) h0
 |@ph r k a x h h0 h3=>
  intro h1 h2;unfold AV.pb
  split
  ·exact .any _
  ·rename_i e;exact .ph (by rw[h1 k e];exact h) h0 h3
 |@re r k b n c sz i j h=>
  intro h1 h2;unfold AV.pb
  split
  ·exact .any _
  ·rename_i e;exact .re sz i j (by rw[h1 k e];exact h)
 |sl hc hm hn hs g hr hg _=>exact fun _ _=>by unfold AV.pb;exact .sl hc hm hn hs g hr hg
 |rp j ho g hr hg _=>exact fun _ _=>by unfold AV.pb;exact .rp j ho g hr hg
theorem bO.pb {pub:cI}{w:World}{r r':cF}{l:List AV}{us:List Value}{n:Nat}{cs:List AV}(h:bO pub w r l us) (h1:∀m,m≠n→r' m=r m) (h2:∀b o,r n=some (.pointer (some ⟨b,0,none⟩))→bS pub w r' (.rp cs o) (.pointer (some ⟨b,o,none⟩))):bO pub w r' (AV.pbL n l cs) us:=
 ⟨by rw[AV.pbL_map,aJ];exact h.len,fun i z u hz hu=>by
  obtain⟨x,hx,rfl⟩:=AV.pbL_get hz;exact(h.at_ i x u hx hu).pb h1 h2⟩
theorem dR.pb {pub:cI}{w:World}{r r':cF}{h:Option Value}{e:cC}{k:Nat}{cs:List AV}(he:dR pub w r h e) (h1:∀m,m≠k→r' m=r m)
  (h2:∀b o,r k=some (.pointer (some ⟨b,0,none⟩))→bS pub w r' (.rp cs o) (.pointer (some ⟨b,o,none⟩))):dR pub w r' h (e.pb k cs):=by
 cases he with
 |dead=>exact .dead
 |blk hb hc hp=>exact .blk hb (hc.pb h1 h2) hp
 |row ho hc hs hp=>exact .row ho hc hs hp
 |tip ho hc hs hp=>exact .tip ho hc hs hp
 |map hb hl hk hv hp hbo=>exact .map hb hl hk hv hp hbo
 |hrow ho hc hp=>exact .hrow ho (hc.pb h1 h2) hp
 |iter hb hx hp=>exact .iter hb (hx.pb h1 h2) hp
 |@pool _ t es outs b ms inner hb hl hn hborn hk1 hout hin hie hnd hp=>
  refine .pool hb hl hn hborn hk1 (fun i x hx=>?_) (fun i e vs m ho=>hin i e vs m fun x hx=>ho _ (aW.2 ⟨(i,x),hx,rfl⟩)) (fun i e vs j d ho=>hie i e vs j d fun x hx=>ho _ (aW.2 ⟨(i,x),hx,rfl⟩)) hnd hp;obtain⟨⟨i',x'⟩,hx',e⟩:=aW.1 hx;cases e;exact⟨(hout _ _ hx').1,fun m hm=>((hout _ _ hx').2 m hm).pb h1 h2⟩
theorem E7 (k:Nat) (cs:List AV):∀(T:List (Nat×AV)) (n:Nat),dN (QG k cs T) n=(dN T n).pb k cs∨dN (QG k cs T) n=.any
 |[],_=>.inr rfl
 |(m,x) :: T,n=>by
  simp only[QG,dN]
  split
  ·exact .inl rfl
  ·exact E7 k cs T n
def Jg:Option cC→Option (Nat×List AV)
 |some (.blk t cs)=>some (t,cs)
 |_=>none
theorem Gk {e:Option cC}{t:Nat}{cs:List AV}(h:Jg e=some (t,cs)):e=some (.blk t cs):=by
 cases e with
 |none=>cases h
 |some e=>cases e<;>cases h;rfl
theorem Gh.pubB {M:Nat}{st:St}(k:Nat) {t:Nat}{cs:List AV}(hk:Jg st.H[k]?=some (t,cs)) (ho:cs.all AV.one=true:=by rfl) (hb0:AV.bndL 0 cs=true:=by rfl) (hM:Nat.ble M k=true:=by rfl):Gh M st ⟨QG k cs st.T,(st.H.map (cC.pb k cs)).set k .dead⟩:=fun C a w r pub hCm h=>by
 have hk:=Gk hk;have hM:M≤k:=Nat.le_of_ble_eq_true hM;obtain⟨b,arr,hr,hb,hc,hp⟩:=h.ent_blk hk;have hkl:=(aA.1 hk).1
 let pub':cI:=fun n=>if n=b then arr.size else pub n
 have hpb:pub' b=arr.size:=aF rfl;have hpn:∀n,n≠b→pub' n=pub n:=fun n hn=>aE hn
 let r':cF:=fun n=>if n=k then none else r n
 have hrk:r' k=none:=aF rfl;have hrn:∀n,n≠k→r' n=r n:=fun n hn=>aE hn
 have hf:Fr (fun n=>n=b) pub w pub' w:=⟨rfl,rfl,rfl,aN _,fun n _ hn=>⟨rfl,hpn n hn⟩,fun n=>by
   by_cases e:n=b
   ·subst e;rw[hp];exact aI _
   ·rw[hpn n e];exact aN _,fun _ _ _ _ h=>h,fun _ _ _ h=>h⟩
 have hcl:cs.length=arr.size:=by have:=hc.len;simpa using this.symm
 have hrp:∀r2 o,bS pub' w r2 (.rp cs o) (.pointer (some ⟨b,o,none⟩)):=fun r2 o=>by
  have:=bS.rp (pub:=pub') (w:=w) (r:=r2) (cs:=cs) (b:=b) (o:=0) o ho (fun i=>arr.toList.getD i undef) (fun i u hu=>?_) (fun i u hu=>?_)
  ·rw[Nat.zero_add]at this;exact this
  ·have hi:i < arr.toList.length:=by rw[←hc.len.symm]at *;exact(aA.1 hu).1
   have h1:=hc.at_ i u _ hu (aB hi);rw[List.getD_eq_getElem?_getD,aB hi];exact(h1.ext hf.ext).congr fun n hn=>absurd (AV.bnd_has u (AV.bndL_mem hu hb0) hn) (Nat.not_lt_zero n)
  ·have hi:i < arr.size:=by rw[←hcl];exact(aA.1 hu).1
   refine⟨by rw[hpb];omega,hb.cell _ _ ?_⟩;rw[Nat.zero_add,List.getD_eq_getElem?_getD,aX,aK hi];rfl
 have hrp2:∀b' o,r k=some (.pointer (some ⟨b',0,none⟩))→bS pub' w r' (.rp cs o) (.pointer (some ⟨b',o,none⟩)):=fun b' o hb'=>by
  rw[hr]at hb';cases hb';exact hrp r' o
 refine⟨r',pub',⟨fun j e he=>?_,fun j hj=>?_,fun i j x y hij hx hy=>?_,fun n hn=>?_,fun n i hi=>?_,h.mod.glob.ext hf.ext⟩,fun j x hx=>?_,h.fr.trans hf (fun n hn=>by subst hn;exact h.own k _ hr n (by simp[bY])),fun n=>?_,h.defers,h.size,fun j y hy hs=>?_,⟨h.low.1,by simpa using h.low.2⟩⟩
 ·by_cases e1:k=j
  ·subst e1;rw[aP (by rw[aJ];exact hkl)]at he;cases he;rw[hrk];exact .dead
  ·rw[aT e1,aD]at he;cases hz:st.H[j]? with
   |none=>rw[hz]at he;cases he
   |some z=>
    rw[hz]at he;cases he;rw[hrn j (Ne.symm e1)];exact((h.mod.ent j z hz).frm (r':=r) hf (fun y hy n hn e=>by subst e;exact h.mod.disj k j _ y e1 hr hy n (by simp[bY]) hn) (fun _ _ h=>h)).pb hrn hrp2
 ·by_cases e1:j=k
  ·subst e1;exact hrk
  ·rw[hrn j e1];exact h.mod.none_ j (by simpa using hj)
 ·by_cases e1:i=k
  ·subst e1;rw[hrk]at hx;cases hx
  ·by_cases e2:j=k
   ·subst e2;rw[hrk]at hy;cases hy
   ·rw[hrn i e1]at hx;rw[hrn j e2]at hy;exact h.mod.disj i j x y hij hx hy
 ·by_cases e1:n=b
  ·subst e1;have:=hb.lt;omega
  ·rw[hpn n e1];exact h.mod.fresh n hn
 ·by_cases e1:n=b
  ·subst e1;rw[hpb]at hi;exact⟨arr[i],hb.cell _ _ (aK hi)⟩
  ·rw[hpn n e1]at hi;exact h.mod.there n i hi
 ·by_cases e1:j=k
  ·subst e1;rw[hrk]at hx;cases hx
  ·rw[hrn j e1]at hx;exact h.own j x hx
 ·rcases E7 k cs st.T n with e|e
  ·dsimp only;rw[e];exact((h.slots n).ext hf.ext).pb hrn hrp2
  ·dsimp only;rw[e];exact .any _
 ·have hj:j < C.m:=by
   rcases aL j C.m with h1|h1
   ·exact h1
   ·rw[h.low.1 j h1]at hy;cases hy
  rw[hrn j (by omega)];exact h.stab j y hy hs
def ZG:Option cC→Option (Nat×Nat×Nat×List AV)
 |some (.hrow t sz n cs)=>some (t,sz,n,cs)
 |_=>none
theorem Zh {e:Option cC}{t sz n:Nat}{cs:List AV}(h:ZG e=some (t,sz,n,cs)):e=some (.hrow t sz n cs):=by
 cases e with
 |none=>cases h
 |some e=>cases e<;>cases h;rfl
theorem bM.freeze_ {C:kN}{st:St}{a:Act}{w:World}{r:cF}{pub:cI}(h:bM C st a w r pub) (k:Nat) {t sz:Nat}{xs:List AV}(hk:st.H[k]?=some (.tip t sz xs)) :
  bM C ⟨Ws k (.sl sz xs) st.T,st.H.map (cC.kill k (.sl sz xs))⟩ a w r pub∧∀z,r k=some z→bS pub w r (.sl sz xs) z:=by
 have hy:∀z,r k=some z→bS pub w r (.sl sz xs) z:=fun z hz=>by
  obtain⟨A,d,c,x,us,hr,_⟩:=h.ent_tip hk;rw[hr]at hz;cases hz;have h1:=h.view1 (x:=.hd k) (.hd hr rfl);simp only[St.view1,hk]at h1;exact h1
 refine⟨⟨⟨fun j e he=>?_,fun j hj=>h.mod.none_ j (by simpa using hj),h.mod.disj,h.mod.fresh,h.mod.there,h.mod.glob⟩,h.own,h.fr,h.slots.kill (fun _ _=>rfl) hy,h.defers,h.size,h.stab,by simpa using h.low⟩,hy⟩;rw[aD]at he;cases hj:st.H[j]? with
 |none=>rw[hj]at he;cases he
 |some e0=>
  rw[hj]at he;cases he;exact(h.mod.ent j e0 hj).kill (Fr.refl (fun _=>False) _ _) (fun _ _ _ _ h=>h) (fun _ _=>rfl) hy
theorem bO.kill_ {pub:cI}{w:World}{r:cF}{n:Nat}{y:AV}{l:List AV}{us:List Value}(h:bO pub w r l us) (hy:∀z,r n=some z→bS pub w r y z):bO pub w r (AV.killL n l y) us:=
 ⟨by rw[AV.killL_map,aJ];exact h.len,fun i z u hz hu=>by
  obtain⟨x,hx,rfl⟩:=AV.killL_get hz;exact(h.at_ i x u hx hu).kill (fun _ _=>rfl) hy⟩
theorem bT {P:bG}{f:Nat}{keep:List Nat}{args:List AV}{st:St}{K:AV→St→Prop}(k:Nat) {t sz:Nat}{xs:List AV}(hk:tD st.H[k]?=some (t,sz,xs))
  (h:fZ P keep f (AV.killL k args (.sl sz xs)) ⟨Ws k (.sl sz xs) st.T,(st.H.set k (.tip t sz xs)).map (cC.kill k (.sl sz xs))⟩ K):fZ P keep f args st K:=by
 have hk':st.H[k]?=some (.row t sz xs):=by
  cases he:st.H[k]? with
  |none=>rw[he]at hk;cases hk
  |some e=>cases e<;>rw[he]at hk<;>cases hk<;>rfl
 refine⟨fun C a w r pub vals hh hv=>?_⟩;obtain⟨pub1,h1,hext⟩:=hh.publish hk';have hkl:=(aA.1 hk').1;obtain⟨h2,hy⟩:=h1.freeze_ (t:=t) (sz:=sz) (xs:=xs) k (aP hkl);refine(h.out C a w r pub1 vals h2 ((hv.ext hext).kill_ hy)).mono fun e w' hw=>?_
 obtain⟨v,x,st',r',pub',e1,e2,e3,e4,e5,e6⟩:=hw;exact⟨v,x,st',r',pub',e1,e2,e3,e4,hext.trans e5,e6⟩
end Go.Proofs.YtooioahiijbomaaGreatDoor
namespace Go.Proofs.YtooioahiijbomaaGreatDoor
open Go.RowKit Go.Shelf
theorem Bc {P:bG}{f:Nat}{ι:Type}{a:ι→List AV}{p:ι→Prop}{r:ι→AV}
  (h:∀i,p i→∀(pub:cI) (w:World) (vals:Array Value),bO pub w cM (a i) vals.toList→Calls P f vals w fun e w'=>Below w.heap.size w w'∧∃v,e=.returned v∧∀pub' w',bS pub' w' cM (r i) v) :
  bH P f (spec a (fun _=>[]) p r fun _=>[]):=by
 intro args H K ⟨i,ha,hH,hp,hK⟩ w rh pub vals hm hv;subst ha;subst hH;have:=AP hm;subst this;refine(h i hp pub w vals hv).mono fun e w' ⟨hw,v,he,hr⟩=>?_
 have hfr:Fr (fun _=>False) pub w pub w':=⟨hw.os,hw.tape,hw.output,hw.size,fun b hb _=>⟨hw.block b hb,rfl⟩,fun _=>aN _,fun b i u hi hu=>by
  rw[World.cell?_of_block (w:=w) (a:=⟨b,i,none⟩) (hw.block b (World.block_lt_of_cell? w _ hu))];exact hu,fun b n _ hn=>jB (hw.block b (lX hn)) hn⟩
 exact⟨v,r i,[],cM,pub,he,hK,hr _ _,hm.frm hfr (fun _ _ _ _ _ h=>h) (fun b hb=>hm.fresh b (Nat.le_trans hw.size hb)) (fun b i hi=>by
  obtain⟨u,hu⟩:=hm.there b i hi;exact⟨u,hfr.ext.cell b i u hi hu⟩),hfr.mono (fun _ h=>h.elim),fun b hb=>.inl hb,fun _ _ h _=>h,aN _⟩
def eS (xs:List bF) (sep:bF):bF:=⟨(Lib.join (xs.map (·.data.toList)) sep.data.toList).toArray⟩
theorem LV {P:bG}{ρ:Ren}(L:Lays.n156 P ρ) (X:Builder.Extra P ρ):bH P (ρ.f 156) (spec (fun i:List bF×bF=>[.sl 1 (bK (fun s=>.str s) i.1),.str i.2]) (fun _=>[]) (fun i=>(eS i.1 i.2).size≤140737488355328∧i.1.length≤140737488355328) (fun i=>.str (eS i.1 i.2)) fun _=>[]):=
 Bc fun⟨xs,sep⟩ ⟨hlen,hN⟩ pub w vals hv=>by
  obtain⟨u,us,he,q1,q2⟩:=hv.cons_inv;obtain⟨us',he',q3⟩:=q2.str_inv;have q4:=q3.nil_inv;subst q4;dsimp only at *;cases q1 with
  |@sl _ _ _ A c hc hm hn hs g hr hg=>
   have hl:(bK (fun s=>AV.str s) xs).length=xs.length:=by simp[dC]
   rw[hl]at hc he;have hvals:vals=#[.slice A xs.length c,.string sep]:=Array.toList_inj.1 (by rw[he,he']);subst hvals;have hl2:(Lib.join (xs.map (·.data.toList)) sep.data.toList).length≤140737488355328:=by
    have:(eS xs sep).size=(Lib.join (xs.map (·.data.toList)) sep.data.toList).length:=by simp[eS,ByteArray.size]
    omega
   cases A with
   |none=>
    obtain⟨h0,_⟩:=hn rfl;have h0':xs=[]:=aQ (by rw[←hl,h0];rfl);subst h0';refine(Any.strings_Join_none L X none c sep w).mono fun e w' ⟨he,hw⟩=>⟨hw ▸ Below.refl _ _,_,he,fun _ _=>?_⟩
    exact .str _
   |some ad=>
    cases hx:xs with
    |nil=>
     refine(Any.strings_Join_none L X (some ad) c sep w).mono fun e w' ⟨he,hw⟩=>⟨hw ▸ Below.refl _ _,_,he,fun _ _=>?_⟩
     exact .str _
    |cons x0 r0=>
     rw[←hx];have cell:∀(j:Nat) (x:bF),xs[j]?=some x→∃b o,some ad=some ⟨b,o,none⟩∧w.cell? ⟨b,o+j,none⟩=some (.string x):=fun j x hj=>by
      have hj':(bK (fun s=>AV.str s) xs)[j]?=some (.str x):=by simp[dC,hj]
      obtain⟨b,o,h1,_,h3⟩:=hg j _ 0 (.str x) hj' rfl;have h4:=hr j _ 0 (.str x) hj' rfl;generalize g j 0=gj at h3 h4;cases h4;exact⟨b,o,h1,by simpa using h3⟩
     obtain⟨b,o,h1,h2⟩:=cell 0 x0 (by rw[hx];rfl);cases h1;refine(Any.strings_Join L X b o c xs sep w (fun j x hj=>?_) (World.block_lt_of_cell? w _ h2) hN hc hl2).mono fun e w' ⟨he,hw⟩=>⟨hw,_,he,fun _ _=>.str _⟩
     obtain⟨b',o',h1',h2'⟩:=cell j x hj;cases h1';exact h2'
end Go.Proofs.YtooioahiijbomaaGreatDoor
namespace Go.Proofs.YtooioahiijbomaaGreatDoor
open Go.RowKit
def tS (n:Int):Bool:=decide (97≤n) && decide (n≤122)
def qM (n:Int):Bool:=decide (48≤n) && decide (n≤57)
def OW (c:UInt8):Bool:=tS c.toNat || qM c.toNat || decide ((c.toNat:Int)=45)
def Wt (s:bF):Bool:=decide (1≤s.size) && decide (s.size≤16) && s.data.toList.all OW
def lA (s:bF) (k:Nat):Prop:=∀j (h:j < s.size),j < k→OW s[j]=true
theorem wG (s:bF):lA s 0:=fun _ _ h=>absurd h (by omega)
theorem kI {s:bF}{k:Nat}(hk:k < s.size) (h:lA s k) (hc:OW s[k]=true):lA s (k+1):=fun j hj hjk=>by
  by_cases e:j=k
  · subst e;exact hc
  · exact h j hj (by omega)
theorem GL {s:bF}(h:lA s s.size):Wt s=(decide (1≤s.size) && decide (s.size≤16)):=by
  have:s.data.toList.all OW=true:=by
    rw[aS];intro c hc;obtain⟨j,hj,rfl⟩:=List.getElem_of_mem hc;exact h j (by simpa using hj) (by simpa using hj)
  simp[Wt,this]
theorem Gr {s:bF}{k:Nat}(hk:k < s.size) (h:OW s[k]=false):Wt s=false:=by
  have:s.data.toList.all OW=false:=by
    rw[←Bool.not_eq_true,aS];intro hh;have:=hh (s[k]) (by exact List.getElem_mem (l:=s.data.toList) (by simpa using hk));rw[h]at this;cases this
  simp[Wt,this]
end Go.Proofs.YtooioahiijbomaaGreatDoor
end
