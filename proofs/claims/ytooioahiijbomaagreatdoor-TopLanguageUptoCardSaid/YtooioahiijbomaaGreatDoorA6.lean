/-
  Texts of this proof,joined: II,IP,IJ,FH,FI,VBD,VBW,EW,VBV,FJ,FK,IB,IK,IL,IC,ID,IE,IM,IN,IO,IQ,IR,IS,EU.
-/
import Derived.Test.YtooioahiijbomaaGreatDoorA5
import Derived.Shelf.Strings.Builder1
import Derived.Shelf.SlSortCmp.NoneTotal
import Derived.Sort.OwnSorted
import Derived.KernelRfl
import Derived.Test.YtooioahiijbomaaGreatDoorChecked
set_option linter.unusedVariables false
set_option linter.unusedSimpArgs false
noncomputable section
namespace Go.Proofs.YtooioahiijbomaaGreatDoor
open Go.RowKit
set_option maxHeartbeats 8000000
set_option maxRecDepth 100000
def At (L:List Tk) (k:Nat) (ts:List (Int×bF)):Prop:=∀(j:Nat) (kd:Int) (tx:bF),ts[j]?=some (kd,tx)→∃a,L[k+j]?=some ⟨kd,a,tx⟩
theorem At.app {L:List Tk}{k:Nat}{a b:List (Int×bF)}(h:At L k (a++b)):At L k a∧At L (k+a.length) b:=by
 refine⟨fun j kd tx hj=>h j kd tx (by rw[List.getElem?_append_left (aA.1 hj).1];exact hj),fun j kd tx hj=>?_⟩;have:=h (a.length+j) kd tx (by rw[List.getElem?_append_right (by omega),show a.length+j - a.length=j by omega];exact hj);rw[show k+a.length+j=k+(a.length+j) by omega];exact this
theorem At.z {L:List Tk}{k:Nat}{kd:Int}{tx:bF}{ts:List (Int×bF)}(h:At L k ((kd,tx) :: ts)):(∃a,L[k]?=some ⟨kd,a,tx⟩)∧At L (k+1) ts:=by
 have h2:=At.app (a:=[(kd,tx)]) h;exact⟨h 0 kd tx rfl,h2.2⟩
theorem HC.on {L:List Tk}{k:Nat}{sz:Int}{t:Tk}(h:HC ⟨L,k,sz⟩) (ht:L[k]?=some t):HC ⟨L,k+1,sz⟩:=⟨h.l,(aA.1 ht).1⟩
theorem Sp (w:bF) (a:Nat):wB [w] ⟨0,a,w⟩=true:=by simp[wB,Xf]
theorem anB (w:bF) (a:Nat):sB [w] ⟨5,a,w⟩=true:=by simp[sB,Xf]
def W0:bF:=⟨#[59]⟩
structure EnI where
 p:Pa
structure auY (i:EnI):Prop where
 p:HC i.p
 t:At i.p.L i.p.k [(5,W0)]
def amK:cQ:=spec (fun _:EnI=>[.ptr 0 0]) (fun i=>hR i.p) auY (fun _=>.tup []) fun i=>hR ⟨i.p.L,i.p.k+1,i.p.sz⟩
theorem agC (P:bG) (hm:bH P 230 MkS) (ht:bH P 155 ZB):bL P atO amK:=by
 intro args H K hc;obtain⟨⟨⟨L,k,sz⟩⟩,rfl,rfl,hp,hK⟩:=hc;refine⟨cW,?_⟩;dsimp only at hp hK⊢;obtain⟨hp1,hat⟩:=hp
 try dsimp only at hp1 hat
 obtain⟨⟨a,h0⟩,_⟩:=hat.z;unfold hR at hK⊢;dsimp only at hK⊢;cbv;refine bT 1 rfl ?_;cbv
 (refine hP hm ([⟨#[59]⟩]:List bF) trivial ?_;try dsimp only)
 cbv
 (refine jR ht (⟨⟨L,k,sz⟩,[⟨#[59]⟩],⟨5,a,⟨#[59]⟩⟩⟩:TaS) [0] ⟨hp1,(by decide:(1:Nat)≤64),h0,anB _ _⟩ ?_;try dsimp only)
 unfold hR;cbv
 (refine .q9 ?_;cbv;exact .inl (.f9 hK))
def ajI:cQ:=spec (fun i:bF×Int=>[.str i.1,.i 10,.i 64]) (fun _=>[]) (fun i=>i.1.size≤1000∧Lib.parseIntB 64 i.1.data.toList=.ok i.2) (fun i=>.tup [.i i.2,.v .nilIface]) fun _=>[]
theorem YO {n:Int}(h:CM n):Lib.parseIntB 64 (cT n).data.toList=.ok n:=by
 have e:sA (cT n).data.toList=some n:=by
  show sA (Lib.itoa n)=some n;exact(Bv _ _).2 ⟨h,rfl⟩
 unfold sA at e
 split at e
 ·split at e
  ·rename_i v hv _;rw[hv,Option.some.inj e]
  ·cases e
 ·cases e
structure NuI where
 p:Pa
 n:Int
 lo:Int
 hi:Int
structure auD (i:NuI):Prop where
 p:HC i.p
 t:At i.p.L i.p.k [(2,cT i.n)]
 lo:i.lo≤i.n
 hi:i.n≤i.hi
 n:0≤i.n∧i.n≤1099511627776
def ahU:cQ:=spec (fun i:NuI=>[.ptr 0 0,.i i.lo,.i i.hi]) (fun i=>hR i.p) auD (fun i=>.i i.n) fun i=>hR ⟨i.p.L,i.p.k+1,i.p.sz⟩
theorem ZQ (P:bG) (hpl:bH P 161 PlX) (hm:bH P 228 MkK) (ht:bH P 155 ZD) (hi:bH P 98 ajI):bL P atF ahU:=by
 intro args H K hc;obtain⟨⟨⟨L,k,sz⟩,n,lo,hi2⟩,rfl,rfl,hp,hK⟩:=hc;refine⟨cW,?_⟩;dsimp only at hp hK⊢;obtain⟨hp1,hat,hlo,hhi,hn⟩:=hp
 try dsimp only at hp1 hat hlo hhi hn
 obtain⟨⟨a,h0⟩,_⟩:=hat.z;have hr:CM n:=⟨by omega,by omega⟩
 have hz:=eF n ⟨by omega,by omega⟩;have hpi:=YO hr;obtain⟨w,hw⟩:∃w,w=cT n:=⟨_,rfl⟩
 rw[←hw]at h0 hz hpi;unfold hR at hK⊢;dsimp only at hK⊢;cbv;refine bI hpl (⟨L,k,sz⟩:Pa) [0] hp1 rfl rfl (by decide) rfl rfl rfl rfl rfl fun z0 _=>?_
 unfold hR;cbv
 (refine hP hm (2:Int) trivial ?_;try dsimp only)
 cbv
 (refine jR ht (⟨⟨L,k,sz⟩,2,⟨2,a,w⟩⟩:TaK) [0] ⟨hp1,trivial,h0,rfl⟩ ?_;try dsimp only)
 unfold hR;cbv;repeat'((first|refine .y fun h=>?_|fail)<;>cbv)
 (refine hP hi ((w,n):bF×Int) ⟨(by(try dsimp only);omega),hpi⟩ ?_;try dsimp only)
 cbv;repeat'((first|refine .n fun h=>?_|fail)<;>cbv)
 (refine .q9 ?_;cbv;exact .inl (.f9 hK))
structure DaI where
 p:Pa
 n:Int
 lo:Int
structure atZ (i:DaI):Prop where
 p:HC i.p
 t:At i.p.L i.p.k [(2,cT i.n)]
 lo:i.lo≤i.n
 n:0≤i.n∧i.n≤1048576
def X9:cQ:=spec (fun i:DaI=>[.ptr 0 0,.i i.lo]) (fun i=>hR i.p) atZ (fun i=>.i i.n) fun i=>hR ⟨i.p.L,i.p.k+1,i.p.sz⟩
theorem Zg (P:bG) (hn:bH P 229 ahU):bL P atU X9:=by
 intro args H K hc;obtain⟨⟨⟨L,k,sz⟩,n,lo⟩,rfl,rfl,hp,hK⟩:=hc;refine⟨cW,?_⟩;dsimp only at hp hK⊢;obtain⟨hp1,hat,hlo,hn1⟩:=hp
 try dsimp only at hp1 hat hlo hn1
 unfold hR at hK⊢;dsimp only at hK⊢;cbv
 (refine jR hn (⟨⟨L,k,sz⟩,n,lo,1048576⟩:NuI) [0] ⟨hp1,hat,hlo,hn1.2,hn1.1,by(try dsimp only);omega⟩ ?_;try dsimp only)
 unfold hR;cbv
 (refine .q9 ?_;cbv;exact .inl (.f9 hK))
structure TkF (P:bG):Prop where
 mw:bH P 152 MkW
 ms:bH P 230 MkS
 mq:bH P 228 MkK
 tw:bH P 155 adU
 ts:bH P 155 ZB
 tk:bH P 155 ZD
 tn:bH P 155 afY
 tp:bH P 155 afP
 tc:bH P 155 aeA
 sw:bH P 151 ZL
 ss:bH P 151 ZF
 sp:bH P 151 ZE
 en:bH P 157 amK
 nu:bH P 229 ahU
theorem apY (b:Bool) (a:Nat):wB [⟨#[121,101,115]⟩,⟨#[110,111]⟩] ⟨0,a,yn b⟩=true:=by cases b<;>rfl
structure LnI where
 p:Pa
 f:bF
 kd:Int
 n:bF
structure auW (i:LnI):Prop where
 p:HC i.p
 t:At i.p.L i.p.k [(0,i.f),(i.kd,i.n),(5,W0)]
 k:0≤i.kd∧i.kd≤2
def aeK:cQ:=spec (fun i:LnI=>[.ptr 0 0,.str i.f]) (fun i=>hR i.p) auW (fun i=>.str i.n) fun i=>hR ⟨i.p.L,i.p.k+3,i.p.sz⟩
theorem YT (P:bG) (F:TkF P):bL P atV aeK:=by
 intro args H K hc;obtain⟨⟨⟨L,k,sz⟩,f,kd,n⟩,rfl,rfl,hp,hK⟩:=hc;refine⟨cW,?_⟩;dsimp only at hp hK⊢;obtain⟨hp1,hat,hkd⟩:=hp
 try dsimp only at hp1 hat hkd
 obtain⟨⟨a0,h0⟩,hat0⟩:=hat.z;obtain⟨⟨a1,h1⟩,hat1⟩:=hat0.z;have q1:=hp1.on h0;have q2:=q1.on h1;unfold hR at hK⊢;dsimp only at hK⊢;cbv;refine bT 1 rfl ?_;cbv
 (refine hP F.mw ([f]:List bF) trivial ?_;try dsimp only)
 cbv
 (refine jR F.tw (⟨⟨L,k,sz⟩,[f],⟨0,a0,f⟩⟩:YG) [0] ⟨hp1,(by decide:(1:Nat)≤64),h0,Sp _ _⟩ ?_;try dsimp only)
 unfold hR;cbv
 (refine jR F.tn (⟨⟨L,k+1,sz⟩,(),⟨kd,a1,n⟩⟩:TaN) [0] ⟨q1,trivial,h1,by unfold nB WZ;simp;omega⟩ ?_;try dsimp only)
 unfold hR;cbv
 (refine jR F.en (⟨⟨L,k+1+1,sz⟩⟩:EnI) [0] ⟨q2,hat1⟩ ?_;try dsimp only)
 unfold hR;cbv
 (refine .q9 ?_;cbv;exact .inl (.f9 hK))
structure DyI where
 p:Pa
 f:bF
 n:Int
structure auZ (i:DyI):Prop where
 p:HC i.p
 t:At i.p.L i.p.k [(0,i.f),(2,cT i.n),(5,W0)]
 n:0≤i.n∧i.n≤1048576
def amY:cQ:=spec (fun i:DyI=>[.ptr 0 0,.str i.f]) (fun i=>hR i.p) auZ (fun i=>.i i.n) fun i=>hR ⟨i.p.L,i.p.k+3,i.p.sz⟩
theorem abO (P:bG) (F:TkF P) (hd:bH P 156 X9):bL P asH amY:=by
 intro args H K hc;obtain⟨⟨⟨L,k,sz⟩,f,n⟩,rfl,rfl,hp,hK⟩:=hc;refine⟨cW,?_⟩;dsimp only at hp hK⊢;obtain⟨hp1,hat,hn⟩:=hp
 try dsimp only at hp1 hat hn
 obtain⟨⟨a0,h0⟩,hat0⟩:=hat.z;obtain⟨⟨a1,h1⟩,hat1⟩:=hat0.z;have q1:=hp1.on h0;have q2:=q1.on h1;unfold hR at hK⊢;dsimp only at hK⊢;cbv;refine bT 1 rfl ?_;cbv
 (refine hP F.mw ([f]:List bF) trivial ?_;try dsimp only)
 cbv
 (refine jR F.tw (⟨⟨L,k,sz⟩,[f],⟨0,a0,f⟩⟩:YG) [0] ⟨hp1,(by decide:(1:Nat)≤64),h0,Sp _ _⟩ ?_;try dsimp only)
 unfold hR;cbv
 (refine jR hd (⟨⟨L,k+1,sz⟩,n,0⟩:DaI) [0] ⟨q1,(At.app (a:=[(2,cT n)]) hat0).1,hn.1,hn⟩ ?_;try dsimp only)
 unfold hR;cbv
 (refine jR F.en (⟨⟨L,k+1+1,sz⟩⟩:EnI) [0] ⟨q2,hat1⟩ ?_;try dsimp only)
 unfold hR;cbv
 (refine .q9 ?_;cbv;exact .inl (.f9 hK))
structure ChI where
 p:Pa
 f:bF
 b:Bool
structure auP (i:ChI):Prop where
 p:HC i.p
 t:At i.p.L i.p.k [(0,i.f),(0,yn i.b),(5,W0)]
def anG:cQ:=spec (fun i:ChI=>[.ptr 0 0,.str i.f]) (fun i=>hR i.p) auP (fun i=>.bl i.b) fun i=>hR ⟨i.p.L,i.p.k+3,i.p.sz⟩
theorem abQ (P:bG) (F:TkF P):bL P auT anG:=by
 intro args H K hc;obtain⟨⟨⟨L,k,sz⟩,f,b⟩,rfl,rfl,hp,hK⟩:=hc;refine⟨cW,?_⟩;dsimp only at hp hK⊢;obtain⟨hp1,hat⟩:=hp
 try dsimp only at hp1 hat
 obtain⟨⟨a0,h0⟩,hat0⟩:=hat.z;obtain⟨⟨a1,h1⟩,hat1⟩:=hat0.z;have q1:=hp1.on h0;have q2:=q1.on h1;have hyy:wB [⟨#[121,101,115]⟩,⟨#[110,111]⟩] ⟨0,a1,yn b⟩=true:=apY b a1;obtain⟨w,hw⟩:∃w,w=yn b:=⟨_,rfl⟩
 rw[←hw]at h1 hyy;have hwb:(w=⟨#[121,101,115]⟩→b=true)∧(w≠⟨#[121,101,115]⟩→b=false):=by
  rw[hw];cases b
  ·exact⟨fun e=>absurd (congrArg ByteArray.size e) (by decide),fun _=>rfl⟩
  ·exact⟨fun _=>rfl,fun e=>absurd rfl e⟩
 unfold hR at hK⊢;dsimp only at hK⊢;cbv;refine bT 1 rfl ?_;cbv
 (refine hP F.mw ([f]:List bF) trivial ?_;try dsimp only)
 cbv
 (refine jR F.tw (⟨⟨L,k,sz⟩,[f],⟨0,a0,f⟩⟩:YG) [0] ⟨hp1,(by decide:(1:Nat)≤64),h0,Sp _ _⟩ ?_;try dsimp only)
 unfold hR;cbv;refine bT 2 rfl ?_;cbv
 (refine hP F.mw ([⟨#[121,101,115]⟩,⟨#[110,111]⟩]:List bF) trivial ?_;try dsimp only)
 cbv
 (refine jR F.tw (⟨⟨L,k+1,sz⟩,[⟨#[121,101,115]⟩,⟨#[110,111]⟩],⟨0,a1,w⟩⟩:YG) [0] ⟨q1,(by decide:(2:Nat)≤64),h1,hyy⟩ ?_;try dsimp only)
 unfold hR;cbv;repeat'((first|refine .mk (fun h=>?_) fun h=>?_|fail)<;>cbv)
 all_goals
  (refine jR F.en (⟨⟨L,k+1+1,sz⟩⟩:EnI) [0] ⟨q2,hat1⟩ ?_;try dsimp only)
  unfold hR
  (cbv)
 ·obtain rfl:=hwb.1 (by assumption)
  (refine .q9 ?_;cbv;exact .inl (.f9 hK))
 ·obtain rfl:=hwb.2 (by assumption)
  (refine .q9 ?_;cbv;exact .inl (.f9 hK))
set_option maxHeartbeats 4000000
def HD (s:bF) (a:Nat):List UInt8:=s.data.toList.drop a
def bz (c:UInt8):Int:=(c.toNat:Int)
theorem WR {s:bF}{a:Nat}(h:HD s a=[]):s.size≤a:=by
 unfold HD at h;have:=List.drop_eq_nil_iff.1 h;exact this
theorem HB {s:bF}{a:Nat}{c:UInt8}{r:List UInt8}(h:HD s a=c :: r):∃hl:a < s.size,s[a]=c∧HD s (a+1)=r:=by
 unfold HD at h⊢;have hl:a < s.data.toList.length:=by
  rcases aL a s.data.toList.length with h1|h1
  ·exact h1
  ·rw[List.drop_eq_nil_of_le h1]at h;cases h
 rw[List.drop_eq_getElem_cons hl]at h;injection h with h1 h2
 exact⟨hl,h1,h2⟩
theorem XH {s:bF}:∀(x:List UInt8) (a:Nat) (r:List UInt8),HD s a=x++r→HD s (a+x.length)=r∧a+x.length≤s.size∨(x=[]∧HD s a=r)
 |[],a,r,h=>.inr ⟨rfl,h⟩
 |c :: x,a,r,h=>by
  obtain⟨hl,_,h2⟩:=HB (r:=x++r) h;refine .inl ?_;rcases XH x (a+1) r h2 with ⟨h3,h4⟩|⟨rfl,h3⟩
  ·rw[List.length_cons,show a+(x.length+1)=a+1+x.length by omega];exact⟨h3,h4⟩
  ·exact⟨h3,hl⟩
theorem Wq {s:bF}{x:List UInt8}{a:Nat}{r:List UInt8}(h:HD s a=x++r):HD s (a+x.length)=r:=by
 rcases XH x a r h with ⟨h1,_⟩|⟨rfl,h1⟩
 ·exact h1
 ·exact h1
theorem HJ {g:Int→Bool}{s:bF}:∀(x:List UInt8) (a:Nat) (r:List UInt8),HD s a=x++r→(∀c∈x,g (bz c)=true)→(∀c r',r=c :: r'→g (bz c)=false)→eZ g s a=a+x.length
 |[],a,r,h,_,hr=>by
  cases r with
  |nil=>exact CI (WR h)
  |cons c r=>
   obtain⟨hl,h1,_⟩:=HB h;exact Fo hl (by rw[h1];exact hr c r rfl)
 |c :: x,a,r,h,hx,hr=>by
  obtain⟨hl,h1,h2⟩:=HB (r:=x++r) h;rw[tK hl (by rw[h1];exact hx c bC),HJ x (a+1) r h2 (fun d hd=>hx d (aV _ hd)) hr,List.length_cons];omega
theorem WC {s:bF}{a:Nat}{x r:List UInt8}(h:HD s a=x++r):s.extract a (a+x.length)=⟨⟨x⟩⟩:=by
 apply ByteArray.ext;apply Array.ext';rw[ByteArray.data_extract,Array.toList_extract];show List.take (a+x.length - a) (List.drop a s.data.toList)=x;rw[show a+x.length - a=x.length by omega];unfold HD at h;rw[h,List.take_left'];rfl
theorem HF {s:bF}{a:Nat}{c:UInt8}{r:List UInt8}(h:HD s a=c :: r):gJ s a=bz c∧a < s.size:=by
 obtain⟨hl,h1,_⟩:=HB h;rw[kT hl];exact⟨by rw[←h1];rfl,hl⟩
structure Tok (s:bF) (a b:Nat) (kd:Int) (tx:bF):Prop where
 p:eZ CN s a < s.size
 e:(jZ s (eZ CN s a)).e=0
 t:(jZ s (eZ CN s a)).t=⟨kd,eZ CN s a,tx⟩
 a:(jZ s (eZ CN s a)).a=b
def W4 (sp:List UInt8):Prop:=∀c∈sp,CN (bz c)=true
theorem XN {c:UInt8}(h:AE (bz c)=true):CN (bz c)=false:=by
 unfold AE tS qM at h;unfold CN;simp only[Bool.or_eq_true,aO,decide_eq_true_eq]at h;simp only[Bool.or_eq_false_iff,decide_eq_false_iff_not];omega
theorem ahL {s:bF}{a:Nat}{sp:List UInt8}{c:UInt8}{w r:List UInt8}(h:HD s a=sp++(c :: w++r)) (hsp:W4 sp) (hw:∀d∈c :: w,AE (bz d)=true) (hr:∀d r',r=d :: r'→AE (bz d)=false) (he:rJ ⟨⟨c :: w⟩⟩=0):Tok s a (a+sp.length+(c :: w).length) (rB ⟨⟨c :: w⟩⟩) ⟨⟨c :: w⟩⟩∧HD s (a+sp.length+(c :: w).length)=r:=by
 have h1:=HJ (g:=CN) sp a _ h hsp (fun d r' hd=>by injection hd with hd _;subst hd;exact XN (hw c bC));have h2:=Wq h;have h3:=HJ (g:=AE) (c :: w) _ _ h2 hw hr;have h4:=WC h2;obtain⟨h5,h6⟩:=HF h2;refine⟨⟨by rw[h1];exact h6,?_,?_,?_⟩,Wq h2⟩ <;>
  (rw[h1];unfold jZ;rw[h5,aF (hw c bC),h3,h4])
 exact he
theorem acS {c:UInt8}(h:AG (bz c)=true):CN (bz c)=false∧AE (bz c)=false:=by
 unfold AG at h;unfold CN AE tS qM;simp only[aO,decide_eq_true_eq]at h;simp only[Bool.or_eq_false_iff,Bool.and_eq_false_iff,decide_eq_false_iff_not];omega
theorem afJ {s:bF}{a:Nat}{sp:List UInt8}{c:UInt8}{w r:List UInt8}(h:HD s a=sp++(c :: w++r)) (hsp:W4 sp) (hw:∀d∈c :: w,AG (bz d)=true) (hr:∀d r',r=d :: r'→AG (bz d)=false) (h3l:(c :: w).length=3):Tok s a (a+sp.length+(c :: w).length) 4 ⟨⟨c :: w⟩⟩∧HD s (a+sp.length+(c :: w).length)=r:=by
 have hc:=acS (hw c bC);have h1:=HJ (g:=CN) sp a _ h hsp (fun d r' hd=>by injection hd with hd _;subst hd;exact hc.1);have h2:=Wq h;have h3:=HJ (g:=AG) (c :: w) _ _ h2 hw hr;have h4:=WC h2;obtain⟨h5,h6⟩:=HF h2;have h7:(ByteArray.mk ⟨c :: w⟩).size=3:=h3l;refine⟨⟨by rw[h1];exact h6,?_,?_,?_⟩,Wq h2⟩ <;>
  (rw[h1];unfold jZ;rw[h5,aE (by rw[hc.2];exact Bool.false_ne_true),aF (hw c bC),h3,h4,aF h7])
theorem acE {s:bF}{a:Nat}{sp x r:List UInt8}(h:HD s a=sp++(34 :: (x++34 :: r))) (hsp:W4 sp) (hx:∀d∈x,Dz (bz d)=true):Tok s a (a+sp.length+1+x.length+1) 3 ⟨⟨x⟩⟩∧HD s (a+sp.length+1+x.length+1)=r:=by
 have h1:=HJ (g:=CN) sp a _ h hsp (fun d r' hd=>by injection hd with hd _;subst hd;rfl);have h2:=Wq h;obtain⟨h5,h6⟩:=HF h2;obtain⟨_,_,h7⟩:=HB h2;have h3:=HJ (g:=Dz) x _ _ h7 hx (fun d r' hd=>by injection hd with hd _;subst hd;rfl);have h4:=WC h7;have h8:=Wq h7;obtain⟨h9,_⟩:=HF h8;obtain⟨_,_,h10⟩:=HB h8;refine⟨⟨by rw[h1];exact h6,?_,?_,?_⟩,h10⟩ <;>
  (rw[h1];unfold jZ;rw[h5,aE (by decide),aE (by decide),aF (show bz 34=34 from rfl)];unfold uY;rw[h3,h9,aF (show bz 34=34 from rfl)])
 rw[h4]
theorem Yq {s:bF}{a:Nat}{sp:List UInt8}{c:UInt8}{r:List UInt8}(h:HD s a=sp++(c :: r)) (hsp:W4 sp) (hc:c=59∨c=61):Tok s a (a+sp.length+1) 5 ⟨⟨[c]⟩⟩∧HD s (a+sp.length+1)=r:=by
 have h1:=HJ (g:=CN) sp a _ h hsp (fun d r' hd=>by injection hd with hd _;subst hd;rcases hc with rfl|rfl<;>rfl);have h2:=Wq h;have h4:=WC (x:=[c]) h2;obtain⟨h5,h6⟩:=HF h2;obtain⟨_,_,h7⟩:=HB h2;have hs:iV (bz c):=by unfold iV;rcases hc with rfl|rfl<;>decide
 have n1:¬AE (bz c)=true:=by rcases hc with rfl|rfl<;>decide
 have n2:¬AG (bz c)=true:=by rcases hc with rfl|rfl<;>decide
 have n3:¬bz c=34:=by rcases hc with rfl|rfl<;>decide
 refine⟨⟨by rw[h1];exact h6,?_,?_,?_⟩,h7⟩ <;>
  (rw[h1];unfold jZ;rw[h5,aE n1,aE n2,aE n3];unfold rN;rw[h5,aF hs])
 rw[show [c].length=1 from rfl]at h4;rw[h4]
theorem XJ {s:bF}{a:Nat}{sp:List UInt8}{c:UInt8}{r:List UInt8}(h:HD s a=sp++(c :: 61 :: r)) (hsp:W4 sp) (hc:c=60∨c=62):Tok s a (a+sp.length+2) 5 ⟨⟨[c,61]⟩⟩∧HD s (a+sp.length+2)=r:=by
 have h1:=HJ (g:=CN) sp a _ h hsp (fun d r' hd=>by injection hd with hd _;subst hd;rcases hc with rfl|rfl<;>rfl);have h2:=Wq h;have h4:=WC (x:=[c,61]) (r:=r) h2;obtain⟨h5,h6⟩:=HF h2;obtain⟨_,_,h7⟩:=HB h2;obtain⟨h8,_⟩:=HF h7;obtain⟨_,_,h9⟩:=HB h7;have hs:¬iV (bz c):=by unfold iV;rcases hc with rfl|rfl<;>decide
 have n1:¬AE (bz c)=true:=by rcases hc with rfl|rfl<;>decide
 have n2:¬AG (bz c)=true:=by rcases hc with rfl|rfl<;>decide
 have n3:¬bz c=34:=by rcases hc with rfl|rfl<;>decide
 have n4:bz c=60∨bz c=62:=by rcases hc with rfl|rfl<;>decide
 refine⟨⟨by rw[h1];exact h6,?_,?_,?_⟩,h9⟩ <;>
  (rw[h1];unfold jZ;rw[h5,aE n1,aE n2,aE n3];unfold rN;rw[h5,aE hs,aF n4,h8,aF (show bz 61=61 from rfl)])
 rw[show [c,61].length=2 from rfl]at h4;rw[h4]
inductive Xb (s:bF):Nat→List (Int×bF)→Nat→Prop where
 |nil (a:Nat):Xb s a [] a
 |cons {a b c:Nat}{kd:Int}{tx:bF}{ts:List (Int×bF)}(h:Tok s a b kd tx) (ht:Xb s b ts c):Xb s a ((kd,tx) :: ts) c
theorem Xb.app {s:bF}{a b c:Nat}{t1 t2:List (Int×bF)}(h1:Xb s a t1 b) (h2:Xb s b t2 c):Xb s a (t1++t2) c:=by
 induction h1 with
 |nil _=>exact h2
 |cons h _ ih=>exact .cons h (ih h2)
theorem acK {s:bF}{a c:Nat}{ts:List (Int×bF)}(h:Xb s a ts c) (hc:s.size≤eZ CN s c):∀(f:Nat) (acc:List Tk),ts.length < f→acc.length+ts.length≤4096→∃l,F9 s f acc a=⟨acc++l,s.size,0⟩∧At l 0 ts∧l.length=ts.length:=by
 induction h with
 |nil a=>
  intro f acc hf _;obtain _|f:=f
  ·exact absurd hf (Nat.not_lt_zero _)
  refine⟨[],?_,fun j kd tx hj=>by simp at hj,rfl⟩;unfold F9;rw[aF hc,List.append_nil]
 |@cons a b c kd tx ts h ht ih=>
  intro f acc hf hm;obtain _|f:=f
  ·exact absurd hf (Nat.not_lt_zero _)
  rw[List.length_cons]at hf hm;obtain⟨l,h1,h2,h3⟩:=ih hc f (acc++[⟨kd,eZ CN s a,tx⟩]) (by omega) (by rw[aM,List.length_singleton];omega);refine⟨⟨kd,eZ CN s a,tx⟩ :: l,?_,fun j k2 t2 hj=>?_,by rw[List.length_cons,List.length_cons,h3]⟩
  ·unfold F9;have hp:=h.p;rw[aE (by omega),aE (by omega),aF h.e,h.t,h.a,h1,bE];rfl
  ·cases j with
   |zero=>cases hj;exact⟨_,rfl⟩
   |succ j=>
    obtain⟨x,hx⟩:=h2 j k2 t2 (by simpa using hj);refine⟨x,?_⟩;rw[Nat.zero_add]at hx⊢;simpa using hx
def Sep (r:List UInt8):Prop:=∀c r',r=c :: r'→c=32∨c=59
structure LxR (s:bF) (a:Nat) (ts:List (Int×bF)) (r:List UInt8):Prop where
 h:∃b,Xb s a ts b∧HD s b=r
def D2 (w:List UInt8) (ts:List (Int×bF)):Prop:=∀(s:bF) (a:Nat) (sp r:List UInt8),HD s a=sp++(w++r)→W4 sp→Sep r→LxR s a ts r
theorem aoO:W4 [32]:=fun c hc=>by rw[List.mem_singleton.1 hc];rfl
theorem D2.join {w1 w2:List UInt8}{t1 t2:List (Int×bF)}(h1:D2 w1 t1) (h2:D2 w2 t2):D2 (w1++32 :: w2) (t1++t2):=fun s a sp r h hsp hr=>by
 obtain⟨b,h3,h4⟩:=(h1 s a sp (32 :: (w2++r)) (by rw[h];simp) hsp (fun c r' hc=>by injection hc with hc _;exact .inl hc.symm)).h;obtain⟨c,h5,h6⟩:=(h2 s b [32] r h4 aoO hr).h;exact⟨c,h3.app h5,h6⟩
theorem Zy {g:Int→Bool}(h1:g 32=false) (h2:g 59=false) {r:List UInt8}(hr:Sep r):∀d r',r=d :: r'→g (bz d)=false:=fun d r' hd=>by
 rcases hr d r' hd with rfl|rfl
 ·exact h1
 ·exact h2
theorem W7 {c:UInt8}{w:List UInt8}(hw:∀d∈c :: w,AE (bz d)=true) (he:rJ ⟨⟨c :: w⟩⟩=0):D2 (c :: w) [(rB ⟨⟨c :: w⟩⟩,⟨⟨c :: w⟩⟩)]:=fun s a sp r h hsp hr=>by
 obtain⟨h1,h2⟩:=ahL h hsp hw (Zy rfl rfl hr) he;exact⟨_,.cons h1 (.nil _),h2⟩
theorem Y8 {c:UInt8}{w:List UInt8}(hw:∀d∈c :: w,AG (bz d)=true) (h3:(c :: w).length=3):D2 (c :: w) [(4,⟨⟨c :: w⟩⟩)]:=fun s a sp r h hsp hr=>by
 obtain⟨h1,h2⟩:=afJ h hsp hw (Zy rfl rfl hr) h3;exact⟨_,.cons h1 (.nil _),h2⟩
theorem Yg {x:List UInt8}(hx:∀d∈x,Dz (bz d)=true):D2 (34 :: (x++[34])) [(3,⟨⟨x⟩⟩)]:=fun s a sp r h hsp hr=>by
 obtain⟨h1,h2⟩:=acE (x:=x) (r:=r) (by rw[h];simp) hsp hx;exact⟨_,.cons h1 (.nil _),h2⟩
theorem agP:D2 [61] [(5,⟨⟨[61]⟩⟩)]:=fun s a sp r h hsp _=>by
 obtain⟨h1,h2⟩:=Yq h hsp (.inr rfl);exact⟨_,.cons h1 (.nil _),h2⟩
theorem afS:D2 [60,61] [(5,⟨⟨[60,61]⟩⟩)]:=fun s a sp r h hsp _=>by
 obtain⟨h1,h2⟩:=XJ h hsp (.inl rfl);exact⟨_,.cons h1 (.nil _),h2⟩
theorem afO:D2 [62,61] [(5,⟨⟨[62,61]⟩⟩)]:=fun s a sp r h hsp _=>by
 obtain⟨h1,h2⟩:=XJ h hsp (.inr rfl);exact⟨_,.cons h1 (.nil _),h2⟩
set_option maxHeartbeats 8000000
def opS (kind:Int):bF:=if kind=3 then ⟨#[61]⟩ else if kind=5 then ⟨#[60,61]⟩ else ⟨#[62,61]⟩
def Za:Nd→List (Int×bF)
 |⟨kind,field,text,num⟩=>[(rB field,field),(5,opS kind),if kind=3 then (3,text) else (2,cT num)]
theorem HO (s:bF):0≤rB s∧rB s≤2:=by
 unfold rB
 split
 ·decide
 ·split<;>decide
structure aeG (n:Nd):Prop where
 p:dG n
 a:n.kind=3→n.num=0
 b:n.kind≠3→n.text=⟨#[]⟩∧0≤n.num∧n.num≤1099511627776
 f:n.field≠⟨#[110,111,116]⟩
structure RuI where
 p:Pa
 n:Nd
structure apW (i:RuI):Prop where
 p:HC i.p
 t:At i.p.L i.p.k (Za i.n)
 n:aeG i.n
theorem HK {s:bF}{a b:Unit→Prop}(k:a ()):Ut s s a b:=⟨fun _=>k,fun h=>absurd rfl h⟩
theorem HL {s t:bF}{a b:Unit→Prop}(h:decide (s=t)=false) (k:b ()):Ut s t a b:=⟨fun e=>absurd e (of_decide_eq_false h),fun _=>k⟩
def agD:cQ:=spec (fun _:RuI=>[.ptr 0 0]) (fun i=>hR i.p) apW (fun i=>jW i.n) fun i=>hR ⟨i.p.L,i.p.k+3,i.p.sz⟩
theorem aqA (a:Nat):cB () ⟨5,a,⟨#[61]⟩⟩=true∧cB () ⟨5,a,⟨#[60,61]⟩⟩=true∧cB () ⟨5,a,⟨#[62,61]⟩⟩=true:=by
 refine⟨?_,?_,?_⟩<;>simp[cB,sB,Xf]
theorem YX (P:bG) (F:TkF P):bL P atN agD:=by
 intro args H K hc;obtain⟨⟨⟨L,k,sz⟩,⟨kind,field,text,num⟩⟩,rfl,rfl,hp,hK⟩:=hc;refine⟨cW,?_⟩;dsimp only at hp hK⊢;obtain⟨hp1,hat,hpl,ha,hb,hf⟩:=hp;unfold Za at hat
 unfold dG at hpl
 try dsimp only at hp1 hat hpl ha hb hf
 obtain⟨⟨a0,h0⟩,hat0⟩:=hat.z;obtain⟨⟨a1,h1⟩,hat1⟩:=hat0.z;obtain⟨⟨a2,h2⟩,_⟩:=hat1.z;have q1:=hp1.on h0;have q2:=q1.on h1;have hrk:=HO field;obtain⟨rk,hrkk⟩:∃r,r=rB field:=⟨_,rfl⟩
 rw[←hrkk]at h0 hrk;obtain⟨c1,c2,c3⟩:=aqA a1;have hn0:nB () ⟨rk,a0,field⟩=true:=by unfold nB WZ;simp;omega
 have hK:=hK;unfold hR at hK⊢;dsimp only at hK⊢;rcases hpl with rfl|rfl|rfl
 ·obtain rfl:=ha rfl;change L[k+1]?=some ⟨5,a1,⟨#[61]⟩⟩at h1;change L[k+1+1]?=some ⟨3,a2,text⟩at h2;have hsp:WL (pB ()) L (k+1+1)=false:=(FL h2).trans rfl;cbv;repeat'((first|refine HK ?_|refine HL rfl ?_|(first|fail))<;>cbv)
  (refine jR F.tn (⟨⟨L,k,sz⟩,(),⟨rk,a0,field⟩⟩:TaN) [0] ⟨hp1,trivial,h0,hn0⟩ ?_;try dsimp only)
  unfold hR;cbv;repeat'((first|refine HK ?_|refine HL rfl ?_|(first|fail))<;>cbv)
  (refine jR F.tc (⟨⟨L,k+1,sz⟩,(),⟨5,a1,⟨#[61]⟩⟩⟩:TaC) [0] ⟨q1,trivial,h1,c1⟩ ?_;try dsimp only)
  unfold hR;cbv;repeat'((first|refine HK ?_|refine HL rfl ?_|(first|fail))<;>cbv)
  (refine jR F.sp (⟨⟨L,k+1+1,sz⟩,()⟩:SeP) [0] ⟨q2,trivial⟩ ?_;try dsimp only)
  rw[hsp];unfold hR;cbv;repeat'((first|refine HK ?_|refine HL rfl ?_|(first|fail))<;>cbv)
  (refine hP F.mq (3:Int) trivial ?_;try dsimp only)
  cbv;repeat'((first|refine HK ?_|refine HL rfl ?_|(first|fail))<;>cbv)
  (refine jR F.tk (⟨⟨L,k+1+1,sz⟩,3,⟨3,a2,text⟩⟩:TaK) [0] ⟨q2,trivial,h2,rfl⟩ ?_;try dsimp only)
  unfold hR;cbv;repeat'((first|refine HK ?_|refine HL rfl ?_|(first|fail))<;>cbv)
  (refine .q9 ?_;cbv;exact .inl (.f9 hK))
 ·obtain⟨rfl,hn1,hn2⟩:=hb (by decide);change L[k+1]?=some ⟨5,a1,⟨#[60,61]⟩⟩at h1;have hat2:At L (k+1+1) [(2,cT num)]:=hat1;cbv;repeat'((first|refine HK ?_|refine HL rfl ?_|(first|fail))<;>cbv)
  (refine jR F.tn (⟨⟨L,k,sz⟩,(),⟨rk,a0,field⟩⟩:TaN) [0] ⟨hp1,trivial,h0,hn0⟩ ?_;try dsimp only)
  unfold hR;cbv;repeat'((first|refine HK ?_|refine HL rfl ?_|(first|fail))<;>cbv)
  (refine jR F.tc (⟨⟨L,k+1,sz⟩,(),⟨5,a1,⟨#[60,61]⟩⟩⟩:TaC) [0] ⟨q1,trivial,h1,c2⟩ ?_;try dsimp only)
  unfold hR;cbv;repeat'((first|refine HK ?_|refine HL rfl ?_|(first|fail))<;>cbv)
  (refine jR F.nu (⟨⟨L,k+1+1,sz⟩,num,0,1099511627776⟩:NuI) [0] ⟨q2,hat2,hn1,hn2,hn1,hn2⟩ ?_;try dsimp only)
  unfold hR;cbv;repeat'((first|refine HK ?_|refine HL rfl ?_|(first|fail))<;>cbv)
  (refine .q9 ?_;cbv;exact .inl (.f9 hK))
 ·obtain⟨rfl,hn1,hn2⟩:=hb (by decide);change L[k+1]?=some ⟨5,a1,⟨#[62,61]⟩⟩at h1;have hat2:At L (k+1+1) [(2,cT num)]:=hat1;cbv;repeat'((first|refine HK ?_|refine HL rfl ?_|(first|fail))<;>cbv)
  (refine jR F.tn (⟨⟨L,k,sz⟩,(),⟨rk,a0,field⟩⟩:TaN) [0] ⟨hp1,trivial,h0,hn0⟩ ?_;try dsimp only)
  unfold hR;cbv;repeat'((first|refine HK ?_|refine HL rfl ?_|(first|fail))<;>cbv)
  (refine jR F.tc (⟨⟨L,k+1,sz⟩,(),⟨5,a1,⟨#[62,61]⟩⟩⟩:TaC) [0] ⟨q1,trivial,h1,c3⟩ ?_;try dsimp only)
  unfold hR;cbv;repeat'((first|refine HK ?_|refine HL rfl ?_|(first|fail))<;>cbv)
  (refine jR F.nu (⟨⟨L,k+1+1,sz⟩,num,0,1099511627776⟩:NuI) [0] ⟨q2,hat2,hn1,hn2,hn1,hn2⟩ ?_;try dsimp only)
  unfold hR;cbv;repeat'((first|refine HK ?_|refine HL rfl ?_|(first|fail))<;>cbv)
  (refine .q9 ?_;cbv;exact .inl (.f9 hK))
def alS:cQ:=spec (fun _:RuI=>[.ptr 0 0]) (fun i=>hR i.p) apW (fun i=>jW i.n) fun i=>hR ⟨i.p.L,i.p.k+3,i.p.sz⟩
theorem Z5 (P:bG) (F:TkF P) (ha:bH P 334 agD):bL P arS alS:=by
 intro args H K hc;obtain⟨⟨⟨L,k,sz⟩,⟨kind,field,text,num⟩⟩,rfl,rfl,hp,hK⟩:=hc;refine⟨cW,?_⟩;dsimp only at hp hK⊢;have hp0:=hp;obtain⟨hp1,hat,hpl,ha1,hb,hf⟩:=hp;unfold Za at hat
 try dsimp only at hp1 hat hpl ha1 hb hf
 obtain⟨⟨a0,h0⟩,hat0⟩:=hat.z;have hrk:=HO field;have s1:WL (wB [⟨#[110,111,116]⟩]) L k=false:=(FL h0).trans (by unfold wB;simp[Xf,Ne.symm hf]);have s2:WL (sB [⟨#[40]⟩]) L k=false:=(FL h0).trans (by unfold sB;rw[aG (show ¬rB field=5 by omega)];rfl);unfold hR at hK⊢;dsimp only at hK⊢;cbv;refine bT 2 rfl ?_;cbv
 (refine hP F.mw ([⟨#[110,111,116]⟩]:List bF) trivial ?_;try dsimp only)
 cbv
 (refine jR F.sw (⟨⟨L,k,sz⟩,[⟨#[110,111,116]⟩]⟩:SeW) [0] ⟨hp1,(by decide:(1:Nat)≤64)⟩ ?_;try dsimp only)
 rw[s1];unfold hR;cbv;refine bT 3 rfl ?_;cbv
 (refine hP F.ms ([⟨#[40]⟩]:List bF) trivial ?_;try dsimp only)
 cbv
 (refine jR F.ss (⟨⟨L,k,sz⟩,[⟨#[40]⟩]⟩:SeS) [0] ⟨hp1,(by decide:(1:Nat)≤64)⟩ ?_;try dsimp only)
 rw[s2];unfold hR;cbv
 (refine jR ha (⟨⟨L,k,sz⟩,⟨kind,field,text,num⟩⟩:RuI) [0] hp0 ?_;try dsimp only)
 unfold hR;cbv
 (refine .q9 ?_;cbv;exact .inl (.f9 hK))
structure GZ (l:List Nd):Prop where
 n:∀n∈l,Bs n
 mx:l.length≤64
 mn:2≤l.length
structure Uf (l:List Ne):Prop where
 n:∀n∈l,B0 n
 mx:l.length≤8
end Go.Proofs.YtooioahiijbomaaGreatDoor
namespace Go.Proofs.YtooioahiijbomaaGreatDoor
open Go.RowKit Go.Shelf
def eQ (s:bF):List AV:=s.data.toList.map fun b=>.int .u8 b.toNat
theorem A9 (s:bF):(eQ s).length=s.size:=by rw[eQ,aJ,bA];rfl
theorem wK:∀s:bF,(eQ s).flatMap AV.cells=eQ s:=fun s=>by
 unfold eQ
 induction s.data.toList with
 |nil=>rfl
 |cons x l ih=>simpa [AV.cells]using ih
theorem Jp (pub:cI) (w:World) (r:cF) (s:bF):bO pub w r (eQ s) (Lib.strCells s):=by
 unfold eQ Lib.strCells
 induction s.data.toList with
 |nil=>exact .nil
 |cons x l ih=>exact .cons (.int _ _) ih
theorem Jc {pub:cI}{w:World}{r:cF}{s:bF}{us:List Value}(h:bO pub w r (eQ s) us):us=Lib.strCells s:=by
 unfold eQ at h;unfold Lib.strCells;generalize s.data.toList=l at h⊢
 induction l generalizing us with
 |nil=>exact h.nil_inv
 |cons x l ih=>
  obtain⟨u,us',rfl,h1,h2⟩:=h.cons_inv;cases h1;rw[ih h2];rfl
theorem Lk (s:bF):∀x∈eQ s,x.cells.length=1∧x.cells.all AV.one=true:=fun x hx=>by
 unfold eQ at hx;obtain⟨b,_,rfl⟩:=aW.1 hx;exact⟨rfl,rfl⟩
theorem Fr.of_frm {S:List Nat}{pub:cI}{w w':World}(hf:gX S w w') (hp:∀b∈S,pub b=0):Fr (·∈S) pub w pub w':=
 ⟨hf.os,hf.tape,hf.output,hf.size,fun b hb hn=>⟨hf.block b hb hn,rfl⟩,fun _=>aN _,fun b i u hi hu=>by
  have hn:b∉S:=fun h=>by rw[hp b h]at hi;omega
  exact hf.cell hu hn,fun b n hpb hn=>jB (hf.block b (lX hn) (fun h=>by rw[hp b h]at hpb;omega)) hn⟩
theorem H7 {P:bG}{w:World}(t u ty e:TypeId) (i:TypeInfo) (ht:P.underlying t=some (.slice e)) (hu:P.underlying u=some .string) (hi:P.info? e=some i) (hz:i.zero=some (.int .u8 0))
  (hsize:i.size=1) (hby:i.bytes=1) {A:Option Addr}{n c:Nat}{us:List Value}(ho:fP w e 1 A n c us) (s:bF) (h63:n+s.size≤maxLen) (hbytes:n+s.size≤140737488355328) :
  ∃A2 c2 w',(Builtin.append_ #[t,u] ty #[.slice A n c,.string s]).run P w=.ok (.slice A2 (n+s.size) c2) w'∧fP w' e 1 A2 (n+s.size) c2 (us++Lib.strCells s)∧
   ((A2=A∧c2=c∧w'=w∧Lib.strCells s=[])∨(∃g cur,A=some ⟨g,0,none⟩∧A2=A∧c≠0∧gF w g e cur∧w'=w.setRow g (cur.toList.take (0+n * 1)++Lib.strCells s++cur.toList.drop (0+n * 1+(Lib.strCells s).length)).toArray∧0+n * 1+(Lib.strCells s).length≤cur.size)∨
     (A2=some ⟨w.heap.size,0,none⟩∧∃arr,w'=w.drew.alloc (.cells arr e))):=by
 have hsmall:n+s.size≤9223372036854775807:=by simp only[maxLen]at h63;omega
 have hl0:=ho.len;have hlen:(us++Lib.strCells s).length=(n+s.size) * 1:=by rw[aM,hl0,Lib.strCells_length];omega
 have grown:∀(old:Nat),old < n+s.size →
   fP (w.drew.alloc (.cells (us.toArray++(Lib.strCells s).toArray++Builtin.zeroCells (Value.int .u8 0).cells (grownCap w (n+s.size) old e - (n+s.size))) e)) e 1 (some ⟨w.heap.size,0,none⟩) (n+s.size) (grownCap w (n+s.size) old e) (us++Lib.strCells s):=by
  intro old hold;have hge:=grownCap_ge w (n+s.size) old e;have hcm:grownCap w (n+s.size) old e≤maxLen:=grownCap_le_maxLen w (n+s.size) old e h63;refine fP.of_blk (heap_alloc_new w.drew _) hge hcm ?_ ?_
  ·have hz1:(Value.int IntKind.u8 0).cells.size=1:=rfl;simp only[Array.size_append,List.size_toArray,size_zeroCells,hz1,hl0,Lib.strCells_length];omega
  ·simp only[Array.toList_append,bE];rw[←bE,←hlen];exact List.take_left
 have ho0:=ho;rcases ho.cases_ with ⟨rfl,rfl,rfl,rfl⟩|⟨g,cur,rfl,hb,r1,r2,r3,r4⟩
 ·by_cases hm:s.size=0
  ·have hn:Lib.strCells s=[]:=aQ (by rw[Lib.strCells_length];exact hm);have hf:=Lib.run_firstCells_string (P:=P) w 1 s;rw[hm]at hf;refine⟨none,0,w,?_,by rw[hm,hn];exact ho0,.inl ⟨rfl,rfl,rfl,hn⟩⟩;simp[Builtin.append_,run_underlying ht,run_underlying hu,sizeOf,typeInfo,hi,hsize,Builtin.lenOf,hm,hf]
  ·have hr:=run_append_nil_string (P:=P) w t u ty e i (.int .u8 0) ht hu hi hz s (by omega) (by omega) (by rw[hby];omega);have hgr:=grown 0 (by omega);simp only[Nat.zero_add,List.nil_append,Array.empty_append]at hgr⊢;have e1:(s.data.map fun b=>Value.int .u8 b.toNat)=(Lib.strCells s).toArray:=by
    apply Array.ext';simp[Lib.strCells]
   rw[e1]at hr;exact⟨_,_,_,hr,hgr,.inr (.inr ⟨rfl,_,rfl⟩)⟩
 ·by_cases hroom:n+s.size≤c
  ·have hr:=Lib.run_append_room_string (P:=P) w t u ty e i ht hu hi hsize g n c cur hb s hroom (by omega);by_cases hne:s.size=0
   ·have hn:Lib.strCells s=[]:=aQ (by rw[Lib.strCells_length];exact hne);rw[hn,hne]at hr;have hself:(cur.toList.take n++[]++cur.toList.drop (n+0)).toArray=cur:=by simp
    rw[hself,setRow_self w g cur e _ hb]at hr;exact⟨_,_,_,by rw[hne];exact hr,by rw[hn,hne];simpa using ho0,.inl ⟨rfl,rfl,rfl,hn⟩⟩
   ·refine⟨_,_,_,hr,fP.of_blk (setRow_heap w g cur _ e _ hb) hroom r2 ?_ ?_,.inr (.inl ⟨g,cur,rfl,rfl,by omega,hb,by rw[Lib.strCells_length];simp,by rw[Lib.strCells_length];omega⟩)⟩
    ·simp only[List.size_toArray,aM,aR,List.length_drop,bA,Lib.strCells_length];omega
    ·have ht':cur.toList.take n=us:=by simpa using r4
     rw[ht',←hlen];exact List.take_left
  ·have holds:∀j u,us[j]?=some u→w.cell? ((⟨g,0,none⟩:Addr).add j)=some u:=fun j u hu=>by
    obtain⟨b,o,he,hcell⟩:=ho0.cells_.get j u hu;simp only[bD]at he;rw[he,Addr.add_lit];exact hcell
   have hr:=Lib.run_append_grow_string (P:=P) w t u ty e i (.int .u8 0) ht hu hi hz ⟨g,0,none⟩ n c us (by rw[hsize];exact hl0) holds s (by omega) (by omega) (by rw[hby];exact growslice_fits (by omega) (by omega));exact⟨_,_,_,hr,grown c (by omega),.inr (.inr ⟨rfl,_,rfl⟩)⟩
theorem zI {P:bG}{w:World}{ops:Array Oper}{rest:List Oper}{o:Oper}{a:Act}{Q:Exit→Act→World→Prop}(hgd:o.guard=none) (sl x:Operand) (t u:TypeId)
  (ho:o.op=.call { callee:=.builtin .append,args:=#[sl,x],argTypes:=#[t,u] }) (e:TypeId) (i:TypeInfo) (ht:P.underlying t=some (.slice e)) (hu:P.underlying u=some .string) (hi:P.info? e=some i) (hz:i.zero=some (.int .u8 0))
  (hsize:i.size=1) (hby:i.bytes=1) {A:Option Addr}{n c:Nat}{us:List Value}(hs:a.eval sl=.slice A n c) (hown:fP w e 1 A n c us) (s:bF) (hx:a.eval x=.string s) (h63:n+s.size≤maxLen) (hbytes:n+s.size≤140737488355328)
  (h:∀A2 c2 w',fP w' e 1 A2 (n+s.size) c2 (us++Lib.strCells s)→gX (gC A) w w'→(∀b∈gC A2,b∈gC A∨w.heap.size≤b)→wpList P ops Q rest (a.put o.dst (.slice A2 (n+s.size) c2)) w'):wpList P ops Q (o :: rest) a w:=by
 refine wpList_plain hgd fun K hK=>?_
 obtain⟨A2,c2,w',hr,h2,hcase⟩:=H7 (P:=P) t u o.type e i ht hu hi hz hsize hby hown s h63 hbytes;have h3:gX (gC A) w w'∧(∀b∈gC A2,b∈gC A∨w.heap.size≤b):=by
  rcases hcase with ⟨rfl,_,rfl,_⟩|⟨g,cur,rfl,rfl,_,hb,rfl,_⟩|⟨rfl,arr,rfl⟩
  ·exact⟨gX.refl _ _,fun b hb=>.inl hb⟩
  ·exact⟨⟨rfl,rfl,rfl,by simp[World.setRow],fun k _ hk=>setRow_other w g k _ (by simpa using hk)⟩,fun b hb=>.inl hb⟩
  ·exact⟨⟨rfl,rfl,rfl,by simp,fun k hk _=>Below.heap_alloc w.drew _ k hk⟩,fun b hb=>.inr (by simp at hb;omega)⟩
 unfold Oper.wp execOp;simp only[ho,resolve,invoke,builtin,Sem.run_bind,Sem.run_pure,Result.andThen_ok,List.map_toArray,List.map_cons,List.map_nil,hs,hx,hr];exact hK _ _ (h A2 c2 w' h2 h3.1 h3.2)
def rT (s:bF):AV:=if s.size=0 then .v (.pointer none) else .ptr 0 0
section
variable {P:bG}{ρ:Ren}
set_option maxHeartbeats 1000000 in
set_option maxRecDepth 100000 in
theorem B1 (L:Lays.n240 P ρ) (X:Builder.X72 P ρ) (b:Nat) (p v:Value) (w:World) (hb:gF w b (ρ.t 72) #[p,v]) (hp:p=.pointer none∨p=.pointer (some ⟨b,0,none⟩)) :
  Calls P (ρ.f 240) #[.pointer (some ⟨b,0,none⟩)] w fun e w'=>e=.returned (.tuple #[])∧gF w' b (ρ.t 72) #[.pointer (some ⟨b,0,none⟩),v]∧gX [b] w w'∧w'.heap.size=w.heap.size:=by
 rcases hp with rfl|rfl
 ·refine(Any.Builder_copyCheck_fresh L X b w (hb.cell 0 _ rfl) (by unfold gF at hb;simp[World.shape?,hb]) (hb.free 0)).mono ?_;rintro e w' ⟨rfl,rfl⟩;exact⟨rfl,hb.set_ 0 _,(gX.refl _ _).setCell (.inl (by simp)) _,by simp[World.setCell]⟩
 ·refine(Any.Builder_copyCheck_used L X b w (hb.cell 0 _ rfl)).mono ?_;rintro e w' ⟨rfl,rfl⟩;exact⟨rfl,hb,gX.refl _ _,rfl⟩
set_option maxHeartbeats 2000000 in
set_option maxRecDepth 100000 in
theorem G4 (L:Lays.n166 P ρ) (X:Builder.Extra P ρ) (b:Nat) (p:Value) {A:Option Addr}{n c:Nat}{us:List Value}(s:bF) (w:World) (hb:gF w b (ρ.t 72) #[p,.slice A n c]) (hp:p=.pointer none∨p=.pointer (some ⟨b,0,none⟩))
  (hown:fP w (ρ.t 5) 1 A n c us) (hd:b∉gC A) (hlen:n+s.size≤140737488355328) :
  Calls P (ρ.f 166) #[.pointer (some ⟨b,0,none⟩),.string s] w fun e w'=>e=.returned (.tuple #[.int .i64 s.size,.nilIface])∧∃A2 c2,gF w' b (ρ.t 72) #[.pointer (some ⟨b,0,none⟩),.slice A2 (n+s.size) c2]∧fP w' (ρ.t 5) 1 A2 (n+s.size) c2 (us++Lib.strCells s)∧
   gX (b :: gC A) w w'∧∀g∈gC A2,g∈gC A∨w.heap.size≤g:=by
 obtain⟨i0,hi,hz0,hz1,hz2⟩:=info_parts X.infoByte;have mixed:=L.mixed;have t72:=L.t72;have a72:=L.a72;have z72:=L.z72;have v72:=L.v72;have u72:=run_underlying L.t72;have t70:=L.t70;have a70:=L.a70;have z70:=L.z70;have v70:=L.v70;have u70:=run_underlying L.t70;have t37:=L.t37;have a37:=L.a37;have z37:=L.z37;have v37:=L.v37;have u37:=run_underlying L.t37;have t3:=L.t3;have a3:=L.a3;have z3:=L.z3;have v3:=L.v3;have u3:=run_underlying L.t3;have t9:=L.t9;have a9:=L.a9;have z9:=L.z9;have v9:=L.v9;have u9:=run_underlying L.t9;have t4:=L.t4;have a4:=L.a4;have z4:=L.z4;have v4:=L.v4;have u4:=run_underlying L.t4;have t164:=L.t164;have a164:=L.a164;have z164:=L.z164;have v164:=L.v164;have u164:=run_underlying L.t164;have t5:=X.t5;have a5:=X.a5;have z5:=X.z5;have v5:=X.v5;have u5:=run_underlying X.t5;have e240:∀args w,(callFunc (ρ.f 240) args).run P w=.ok (.enter (ρ.f 240) args) w:=enters_of L.f240 (by kernel_rfl) rfl;have c1a:w.cell? ⟨b,1,none⟩=some (.slice A n c):=hb.cell 1 _ rfl
 go_enter L.f166,Body.n166_ntmps ρ
 go_wp2_with (go_at_fn (ρ.f 240);refine(B1 { L with } X.toX72 b p _ _ hb hp).mono ?_)
 rintro e w1 ⟨rfl,hb1,hf1,hsz⟩;have c0:w1.cell? ⟨b,0,none⟩=some (.pointer (some ⟨b,0,none⟩)):=hb1.cell 0 _ rfl;have c1:w1.cell? ⟨b,1,none⟩=some (.slice A n c):=hb1.cell 1 _ rfl;have hown1:fP w1 (ρ.t 5) 1 A n c us:=hown.frS (S:=(·∈[b])) (pub:=fun _=>0) (Fr.of_frm hf1 (fun _ _=>rfl)) (fun g hg=>by simp;rintro rfl;exact hd hg)
 go_wp2_with (at_builtin;refine zI rfl _ _ (ρ.t 37) (ρ.t 9) rfl (ρ.t 5) i0 L.t37 L.t9 hi hz0 hz1 hz2 rfl hown1 s rfl ?c3 ?c4 ?_)
 case c3=>unfold maxLen;omega
 case c4=>omega
 intro A2 c2 w2 hown2 hf2 hfp;have hb2:gF w2 b (ρ.t 72) #[.pointer (some ⟨b,0,none⟩),.slice A n c]:=hb1.frm hf2 hd;have d0:w2.cell? ⟨b,0,none⟩=some (.pointer (some ⟨b,0,none⟩)):=hb2.cell 0 _ rfl;have d1:w2.cell? ⟨b,1,none⟩=some (.slice A n c):=hb2.cell 1 _ rfl;have f1:w2.frozen? ⟨b,1,none⟩=false:=hb2.free 1;have hd2:b∉gC A2:=fun h=>by
  rcases hfp b h with h1|h1
  ·exact hd h1
  ·have:=hb1.lt;omega
 go_wp2
 go_ret2
 refine⟨rfl,A2,c2,hb2.set_ 1 _,hown2.frS (S:=(·∈[b])) (pub:=fun _=>0) (Fr.of_frm ((gX.refl [b] w2).setCell (.inl (by simp)) _) (fun _ _=>rfl)) (fun g hg=>by simp;rintro rfl;exact hd2 hg),?_,fun g hg=>?_⟩
 ·exact((hf1.mono (by simp)).trans (hf2.mono (S':=b :: gC A) (by simp +contextual)) (by simp +contextual)).setCell (.inl (by simp)) _
 ·rcases hfp g hg with h1|h1
  ·exact .inl h1
  ·exact .inr (by omega)
theorem tF {pub:cI}{w:World}{r:cF}{T U:TypeId}{x:AV}{out:bF}(h:kW pub w r [.blk T [x,.hd 1],.row U 1 (eQ out)]) :
  ∃b A c p,r 0=some (.pointer (some ⟨b,0,none⟩))∧r 1=some (.slice A out.size c)∧gF w b T #[p,.slice A out.size c]∧bS pub w r x p∧fP w U 1 A out.size c (Lib.strCells out)∧b∉gC A∧pub b=0∧∀g∈gC A,pub g=0:=by
 have h0:=h.ent 0 _ rfl;have h1:=h.ent 1 _ rfl;generalize hr0:r 0=v0 at h0;generalize hr1:r 1=v1 at h1;cases h0 with
 |@blk _ _ _ b arr hb hc hp=>
  cases h1 with
  |@row _ _ _ _ A c us ho hu hs hp1=>
   rw[wK]at hu;have hus:=Jc hu;subst hus;rw[A9]at ho hr1⊢;obtain⟨p,us1,he1,q1,q2⟩:=hc.cons_inv;obtain⟨v,us2,he2,q3,q4⟩:=q2.cons_inv;have q5:=q4.nil_inv;subst q5;cases q3 with
   |hd q6 _=>
    rw[hr1]at q6;cases q6;have ha:arr=#[p,.slice A out.size c]:=Array.toList_inj.1 (by rw[he1,he2]);subst ha;refine⟨b,A,c,p,rfl,rfl,hb,q1,ho,fun hm=>?_,hp,hp1⟩;exact h.disj 0 1 _ _ (by decide) hr0 hr1 b (by simp[bY]) (by simpa [bY]using hm)
theorem xO {pub:cI}{w w':World}{r:cF}{T U T' U':TypeId}{x y:AV}{xs:List AV}{t:bF}{b:Nat}{A A2:Option Addr}{n c c2:Nat}{q:Value}(h:kW pub w r [.blk T' [x,y],.row U' 1 xs]) (h0:r 0=some (.pointer (some ⟨b,0,none⟩))) (h1:r 1=some (.slice A n c))
  (hb:gF w' b T #[q,.slice A2 t.size c2]) (hq:∀r':cF,r' 0=r 0→bS pub w' r' (rT t) q) (ho:fP w' U 1 A2 t.size c2 (Lib.strCells t)) (hf:gX (b :: gC A) w w') (hA:∀g∈gC A2,g∈gC A∨w.heap.size≤g) (hp:pub b=0) (hp2:∀g∈gC A,pub g=0) (hd:b∉gC A2) :
  kW pub w' (eN r 1 (.slice A2 t.size c2)) [.blk T [rT t,.hd 1],.row U 1 (eQ t)]∧Fr (qC r) pub w pub w'∧(∀g,qC (eN r 1 (.slice A2 t.size c2)) g→qC r g∨w.heap.size≤g)∧(∀k z,r k=some z→agB z=false→eN r 1 (.slice A2 t.size c2) k=some z):=by
 have hfr:Fr (·∈b :: gC A) pub w pub w':=Fr.of_frm hf (fun g hg=>by
  rcases List.mem_cons.1 hg with rfl|hg
  ·exact hp
  ·exact hp2 g hg)
 have hk2:∀k,2≤k→r k=none:=fun k hk=>h.none_ k (by simpa using hk)
 have r10:eN r 1 (.slice A2 t.size c2) 0=r 0:=cG _ _ (by decide);refine⟨⟨fun k e he=>?_,fun k hk=>?_,fun i j u v hij hu hv=>?_,fun g hg=>h.fresh g (Nat.le_trans hf.size hg),fun g i hi=>?_,h.glob.ext hfr.ext⟩,hfr.mono (fun g hg=>.inl ?_),fun g hg=>?_,fun k z hz hs=>?_⟩
 ·match k,he with
  |0,he=>
   cases he;rw[r10,h0];exact .blk hb (.cons (hq _ r10) (.cons (.hd (bW _ _ _) rfl) .nil)) hp
  |1,he=>
   cases he;rw[bW];have hl:t.size=(eQ t).length:=(A9 t).symm;rw[hl];refine .row (by rw[←hl];exact ho) (by rw[wK];exact Jp _ _ _ _) (Lk t) (fun g hg=>?_);rcases hA g hg with h3|h3
   ·exact hp2 g h3
   ·exact h.fresh g h3
  |k+2,he=>simp at he
 ·rw[cG _ _ (by(have:2≤k:=(by simpa using hk));omega)];exact hk2 k (by simpa using hk)
 ·have cases2:∀k z,eN r 1 (.slice A2 t.size c2) k=some z→(k=0∧z=.pointer (some ⟨b,0,none⟩))∨(k=1∧z=.slice A2 t.size c2):=fun k z hz=>by
   match k,hz with
   |0,hz=>rw[r10,h0]at hz;cases hz;exact .inl ⟨rfl,rfl⟩
   |1,hz=>rw[bW]at hz;cases hz;exact .inr ⟨rfl,rfl⟩
   |k+2,hz=>rw[cG _ _ (by omega),hk2 _ (by omega)]at hz;cases hz
  intro g hg hg';rcases cases2 i u hu with ⟨rfl,rfl⟩|⟨rfl,rfl⟩<;>rcases cases2 j v hv with ⟨rfl,rfl⟩|⟨rfl,rfl⟩
  ·exact hij rfl
  ·simp[bY]at hg;subst hg;exact hd (by simpa [bY]using hg')
  ·simp[bY]at hg';subst hg';exact hd (by simpa [bY]using hg)
  ·exact hij rfl
 ·obtain⟨u,hu⟩:=h.there g i hi;exact⟨u,hfr.ext.cell g i u hi hu⟩
 ·rcases List.mem_cons.1 hg with rfl|hg
  ·exact⟨0,_,h0,by simp[bY]⟩
  ·exact⟨1,_,h1,by simpa [bY]using hg⟩
 ·obtain⟨k,z,hz,hg⟩:=hg;by_cases hk:k=1
  ·subst hk;rw[bW]at hz;cases hz;rcases hA g (by simpa [bY]using hg)with h3|h3
   ·exact .inl ⟨1,_,h1,by simpa [bY]using h3⟩
   ·exact .inr h3
  ·rw[cG _ _ hk]at hz;exact .inl ⟨k,z,hz,hg⟩
 ·by_cases hk:k=1
  ·subst hk;rw[h1]at hz;cases hz;cases hs
  ·rw[cG _ _ hk];exact hz
theorem AN (L:Lays.n166 P ρ) (X:Builder.Extra P ρ):bH P (ρ.f 166) (spec (fun i:bF×bF=>[.ptr 0 0,.str i.2]) (fun i=>[.blk (ρ.t 72) [rT i.1,.hd 1],.row (ρ.t 5) 1 (eQ i.1)])
  (fun i=>i.1.size+i.2.size≤140737488355328∧i.2.size≠0) (fun i=>.tup [.int .i64 i.2.size,.v .nilIface]) fun i=>[.blk (ρ.t 72) [rT (i.1++i.2),.hd 1],.row (ρ.t 5) 1 (eQ (i.1++i.2))]):=by
 intro args H K ⟨⟨out,s⟩,ha,hH,⟨hlen,hs0⟩,hK⟩ w r pub vals hm hv;subst ha;subst hH;obtain⟨b,A,c,p,h0,h1,hb,hp,hown,hd,hpb,hpA⟩:=tF hm;obtain⟨u,us,he,q1,q2⟩:=hv.cons_inv;obtain⟨us',he',q3⟩:=q2.str_inv;have q4:=q3.nil_inv;subst q4;have hu:u=.pointer (some ⟨b,0,none⟩):=by
  cases q1 with
  |ptr _ h2=>rw[h0]at h2;cases h2;rfl
 have hvals:vals=#[.pointer (some ⟨b,0,none⟩),.string s]:=Array.toList_inj.1 (by rw[he,he',hu]);subst hvals;have hp':p=.pointer none∨p=.pointer (some ⟨b,0,none⟩):=by
  unfold rT at hp
  split at hp
  ·cases hp;exact .inl rfl
  ·cases hp with
   |ptr _ h2=>rw[h0]at h2;cases h2;exact .inr rfl
 dsimp only at hlen hs0;refine(G4 L X b p s w hb hp' hown hd hlen).mono fun e w' ⟨he,A2,c2,hb2,hown2,hf,hA⟩=>?_
 have hsz:(out++s).size=out.size+s.size:=ByteArray.size_append;have hd2:b∉gC A2:=fun h=>by
  rcases hA b h with h3|h3
  ·exact hd h3
  ·have:=hb.lt;omega
 rw[←hsz]at hb2 hown2;have hcat:Lib.strCells out++Lib.strCells s=Lib.strCells (out++s):=by simp[Lib.strCells]
 rw[hcat]at hown2;obtain⟨k1,k2,k3,k4⟩:=xO (q:=.pointer (some ⟨b,0,none⟩)) hm h0 h1 hb2 (fun r' hr'=>by
  unfold rT;rw[aE (by rw[hsz];omega)];exact .ptr 0 (by rw[hr',h0])) hown2 hf hA hpb hpA hd2
 exact⟨_,_,_,_,pub,he,hK,.tup rfl (fun i x u hx hu=>by
  match i,hx,hu with
  |0,hx,hu=>cases hx;cases hu;exact .int _ _
  |1,hx,hu=>cases hx;cases hu;exact .v _ rfl
  |i+2,hx,hu=>simp at hx),k1,k2,k3,k4,aN _⟩
theorem gX.freeze {S:List Nat}{a b:World}(h:gX S a b) {p:Addr}(hp:p.block∈S) (n:Nat):gX S a (b.freeze p n):=by
 unfold World.freeze
 split
 ·exact h
 ·refine⟨h.os,h.tape,h.output,by simpa using h.size,fun k hk hn=>?_⟩;have hne:¬p.block=k:=fun e=>hn (e ▸ hp)
  simpa [Array.getElem?_modify,hne]using h.block k hk hn
set_option maxHeartbeats 2000000 in
set_option maxRecDepth 100000 in
theorem Hg (L:Lays.n169 P ρ) (X:Builder.Extra P ρ) (b g cap:Nat) (p:Value) (cur:Array Value) (out:bF) (w:World) (hb:gF w b (ρ.t 72) #[p,.slice (some ⟨g,0,none⟩) out.size cap]) (hg:gF w g (ρ.t 5) cur) (h0:out.size≠0) (hnc:out.size≤cap) (hcm:cap≤maxLen)
  (hcs:cur.size=cap) (hcur:∀(j:Nat) (u:Value),(Lib.strCells out)[j]?=some u→cur[j]?=some u):Calls P (ρ.f 169) #[.pointer (some ⟨b,0,none⟩)] w fun e w'=>e=.returned (.string out)∧gX [g] w w':=by
 have c1:w.drew.cell? ⟨b,1,none⟩=some (.slice (some ⟨g,0,none⟩) out.size cap):=hb.drew.cell 1 _ rfl;have hl:out.data.toList.length=out.size:=by rw[bA];rfl
 have hSD:(Builtin.unsafeSliceData_ #[(ρ.t 37)] (ρ.t 127) #[.slice (some ⟨g,0,none⟩) out.size cap]).run P w.drew=.ok (.pointer (some ⟨g,0,none⟩)) w.drew:=
  Lib.run_unsafeSliceData_row _ _ _ _ _ _ (by omega)
 have hUS:(Builtin.unsafeString_ #[(ρ.t 127),(ρ.t 3)] (ρ.t 9) #[.pointer (some ⟨g,0,none⟩),.int .i64 out.size]).run P w.drew=.ok (.string out) (w.drew.freeze ⟨g,0,none⟩ out.size):=by
  have:=Lib.run_unsafeString_row (P:=P) w.drew (ρ.t 127) (ρ.t 3) (ρ.t 9) (ρ.t 5) L.t127 X.cellsByte g cur.size (by have hg':w.drew.heap[g]?=some (.cells cur (ρ.t 5) (0,0)):=hg;simp[World.shape?,hg']) out.data.toList (by intro h;rw[h]at hl;simp at hl;omega) (by omega) (by unfold maxLen at hcm;omega) (fun j x hx=>by rw[Addr.add_lit,Nat.zero_add];exact hg.drew.cell j _ (hcur j (.int .u8 x.toNat) (by simp[Lib.strCells,hx])));rw[hl]at this;simpa using this
 have mixed:=L.mixed;have t72:=L.t72;have a72:=L.a72;have z72:=L.z72;have v72:=L.v72;have u72:=run_underlying L.t72;have t70:=L.t70;have a70:=L.a70;have z70:=L.z70;have v70:=L.v70;have u70:=run_underlying L.t70;have t37:=L.t37;have a37:=L.a37;have z37:=L.z37;have v37:=L.v37;have u37:=run_underlying L.t37;have t127:=L.t127;have a127:=L.a127;have z127:=L.z127;have v127:=L.v127;have u127:=run_underlying L.t127;have t3:=L.t3;have a3:=L.a3;have z3:=L.z3;have v3:=L.v3;have u3:=run_underlying L.t3;have t9:=L.t9;have a9:=L.a9;have z9:=L.z9;have v9:=L.v9;have u9:=run_underlying L.t9;have t5:=X.t5;have a5:=X.a5;have z5:=X.z5;have v5:=X.v5;have u5:=run_underlying X.t5
 go_enter L.f169,Body.n169_ntmps ρ
 go_wp2
 go_region_o
 all_goals(go_wp2;go_ret;exact⟨rfl,((gX.refl [g] w).drew).freeze (by simp) _⟩)
set_option maxHeartbeats 2000000 in
set_option maxRecDepth 100000 in
theorem Gj (L:Lays.n169 P ρ) (X:Builder.Extra P ρ) (b:Nat) (p:Value) (w:World) (hb:gF w b (ρ.t 72) #[p,.slice none 0 0]):Calls P (ρ.f 169) #[.pointer (some ⟨b,0,none⟩)] w fun e w'=>e=.returned (.string ⟨#[]⟩)∧gX [] w w':=by
 have hUS:=Any.unsafeString_none L X;have c1:w.drew.cell? ⟨b,1,none⟩=some (.slice none 0 0):=hb.drew.cell 1 _ rfl;have hSD:(Builtin.unsafeSliceData_ #[(ρ.t 37)] (ρ.t 127) #[.slice none 0 0]).run P w.drew=.ok (.pointer none) w.drew:=rfl;have mixed:=L.mixed;have t72:=L.t72;have a72:=L.a72;have z72:=L.z72;have v72:=L.v72;have u72:=run_underlying L.t72;have t70:=L.t70;have a70:=L.a70;have z70:=L.z70;have v70:=L.v70;have u70:=run_underlying L.t70;have t37:=L.t37;have a37:=L.a37;have z37:=L.z37;have v37:=L.v37;have u37:=run_underlying L.t37;have t127:=L.t127;have a127:=L.a127;have z127:=L.z127;have v127:=L.v127;have u127:=run_underlying L.t127;have t3:=L.t3;have a3:=L.a3;have z3:=L.z3;have v3:=L.v3;have u3:=run_underlying L.t3;have t9:=L.t9;have a9:=L.a9;have z9:=L.z9;have v9:=L.v9;have u9:=run_underlying L.t9;have t5:=X.t5;have a5:=X.a5;have z5:=X.z5;have v5:=X.v5;have u5:=run_underlying X.t5
 go_enter L.f169,Body.n169_ntmps ρ
 go_wp2
 go_region_o
 all_goals(go_wp2;go_ret;exact⟨rfl,(gX.refl [] w).drew⟩)
set_option maxHeartbeats 2000000 in
set_option maxRecDepth 100000 in
theorem Gw (L:Lays.n169 P ρ) (X:Builder.Extra P ρ) (b g:Nat) (p:Value) (cur:Array Value) (w:World) (hb:gF w b (ρ.t 72) #[p,.slice (some ⟨g,0,none⟩) 0 0]) (hg:gF w g (ρ.t 5) cur):Calls P (ρ.f 169) #[.pointer (some ⟨b,0,none⟩)] w fun e w'=>e=.returned (.string ⟨#[]⟩)∧gX [] w w':=by
 have hUS:=Any.unsafeString_none L X;have c1:w.drew.cell? ⟨b,1,none⟩=some (.slice (some ⟨g,0,none⟩) 0 0):=hb.drew.cell 1 _ rfl;have hSD:(Builtin.unsafeSliceData_ #[(ρ.t 37)] (ρ.t 127) #[.slice (some ⟨g,0,none⟩) 0 0]).run P w.drew=.ok (.pointer (some ⟨w.drew.heap.size,0,none⟩)) (w.drew.alloc (.view ⟨g,0,none⟩ (ρ.t 5))):=
  Lib.run_unsafeSliceData_zero w.drew _ _ (ρ.t 5) L.t127 ⟨g,0,none⟩ 0 ((ρ.t 5),cur.size) (by have hg':w.drew.heap[g]?=some (.cells cur (ρ.t 5) (0,0)):=hg;simp[World.shape?,hg'])
 have c2:(w.drew.alloc (.view ⟨g,0,none⟩ (ρ.t 5))).cell? ⟨b,1,none⟩=some (.slice (some ⟨g,0,none⟩) 0 0):=(hb.drew.alloc _).cell 1 _ rfl;have c3:(w.alloc (.view ⟨g,0,none⟩ (ρ.t 5))).drew.cell? ⟨b,1,none⟩=some (.slice (some ⟨g,0,none⟩) 0 0):=c2;have c0:w.cell? ⟨b,1,none⟩=some (.slice (some ⟨g,0,none⟩) 0 0):=c1;have mixed:=L.mixed;have t72:=L.t72;have a72:=L.a72;have z72:=L.z72;have v72:=L.v72;have u72:=run_underlying L.t72;have t70:=L.t70;have a70:=L.a70;have z70:=L.z70;have v70:=L.v70;have u70:=run_underlying L.t70;have t37:=L.t37;have a37:=L.a37;have z37:=L.z37;have v37:=L.v37;have u37:=run_underlying L.t37;have t127:=L.t127;have a127:=L.a127;have z127:=L.z127;have v127:=L.v127;have u127:=run_underlying L.t127;have t3:=L.t3;have a3:=L.a3;have z3:=L.z3;have v3:=L.v3;have u3:=run_underlying L.t3;have t9:=L.t9;have a9:=L.a9;have z9:=L.z9;have v9:=L.v9;have u9:=run_underlying L.t9;have t5:=X.t5;have a5:=X.a5;have z5:=X.z5;have v5:=X.v5;have u5:=run_underlying X.t5
 go_enter L.f169,Body.n169_ntmps ρ
 go_wp2
 go_region_o
 all_goals(go_wp2;go_ret;exact⟨rfl,((gX.refl [] w).drew).alloc _⟩)
set_option maxHeartbeats 2000000 in
set_option maxRecDepth 100000 in
theorem Ip (L:Lays.n169 P ρ) (X:Builder.Extra P ρ) (b g cap:Nat) (p:Value) (w:World) (hc0:cap≠0) (hb:gF w b (ρ.t 72) #[p,.slice (some ⟨g,0,none⟩) 0 cap]):Calls P (ρ.f 169) #[.pointer (some ⟨b,0,none⟩)] w fun e w'=>e=.returned (.string ⟨#[]⟩)∧gX [] w w':=by
 have hUS:=Any.unsafeString_none L X;have c1:w.drew.cell? ⟨b,1,none⟩=some (.slice (some ⟨g,0,none⟩) 0 cap):=hb.drew.cell 1 _ rfl;have hSD:(Builtin.unsafeSliceData_ #[(ρ.t 37)] (ρ.t 127) #[.slice (some ⟨g,0,none⟩) 0 cap]).run P w.drew=.ok (.pointer (some ⟨g,0,none⟩)) w.drew:=
  Lib.run_unsafeSliceData_row _ _ _ _ _ _ hc0
 clear hc0;have mixed:=L.mixed;have t72:=L.t72;have a72:=L.a72;have z72:=L.z72;have v72:=L.v72;have u72:=run_underlying L.t72;have t70:=L.t70;have a70:=L.a70;have z70:=L.z70;have v70:=L.v70;have u70:=run_underlying L.t70;have t37:=L.t37;have a37:=L.a37;have z37:=L.z37;have v37:=L.v37;have u37:=run_underlying L.t37;have t127:=L.t127;have a127:=L.a127;have z127:=L.z127;have v127:=L.v127;have u127:=run_underlying L.t127;have t3:=L.t3;have a3:=L.a3;have z3:=L.z3;have v3:=L.v3;have u3:=run_underlying L.t3;have t9:=L.t9;have a9:=L.a9;have z9:=L.z9;have v9:=L.v9;have u9:=run_underlying L.t9;have t5:=X.t5;have a5:=X.a5;have z5:=X.z5;have v5:=X.v5;have u5:=run_underlying X.t5
 go_enter L.f169,Body.n169_ntmps ρ
 go_wp2
 go_region_o
 all_goals(go_wp2;go_ret;exact⟨rfl,(gX.refl [] w).drew⟩)
theorem KY (L:Lays.n169 P ρ) (X:Builder.Extra P ρ) (b:Nat) (p:Value) {A:Option Addr}{c:Nat}(out:bF) (w:World) (hb:gF w b (ρ.t 72) #[p,.slice A out.size c]) (hown:fP w (ρ.t 5) 1 A out.size c (Lib.strCells out)) :
  Calls P (ρ.f 169) #[.pointer (some ⟨b,0,none⟩)] w fun e w'=>e=.returned (.string out)∧gX (gC A) w w':=by
 have hemp:out.size=0→out=⟨#[]⟩:=fun h=>by
  cases out with
  |mk d=>
   have:d.size=0:=h;rw[Array.eq_empty_of_size_eq_zero this]
 rcases hown.cases_ with ⟨rfl,h0,rfl,_⟩|⟨g,cur,rfl,hg,r1,r2,r3,r4⟩
 ·rw[h0]at hb;rw[hemp h0];exact Gj L X b p w hb
 ·by_cases h0:out.size=0
  ·rw[h0]at hb;rw[hemp h0];by_cases hc:c=0
   ·subst hc;exact(Gw L X b g p cur w hb hg).mono fun e w' h=>⟨h.1,h.2.mono (by simp)⟩
   ·exact(Ip L X b g c p w hc hb).mono fun e w' h=>⟨h.1,h.2.mono (by simp)⟩
  ·refine Hg L X b g c p cur out w hb hg h0 r1 r2 (by simpa using r3) fun j u hu=>?_
   rw[←r4,List.getElem?_take]at hu
   split at hu
   ·rw[aX]at hu;exact hu
   ·cases hu
theorem Ay (L:Lays.n169 P ρ) (X:Builder.Extra P ρ):bH P (ρ.f 169) (spec (fun _:bF×AV=>[.ptr 0 0]) (fun i=>[.blk (ρ.t 72) [i.2,.hd 1],.row (ρ.t 5) 1 (eQ i.1)]) (fun _=>True) (fun i=>.str i.1) fun _=>[.blk (ρ.t 72) [.any,.any],.dead]):=by
 intro args H K ⟨⟨out,x⟩,ha,hH,_,hK⟩ w r pub vals hm hv;subst ha;subst hH;obtain⟨b,A,c,p,h0,h1,hb,hp,hown,hd,hpb,hpA⟩:=tF hm;obtain⟨u,us,he,q1,q2⟩:=hv.cons_inv;have q4:=q2.nil_inv;subst q4;have hu:u=.pointer (some ⟨b,0,none⟩):=by
  cases q1 with
  |ptr _ h2=>rw[h0]at h2;cases h2;rfl
 have hvals:vals=#[.pointer (some ⟨b,0,none⟩)]:=Array.toList_inj.1 (by rw[he,hu]);subst hvals;refine(KY L X b p out w hb hown).mono fun e w' ⟨he,hf⟩=>?_
 have hfr:Fr (·∈gC A) pub w pub w':=Fr.of_frm hf hpA;have hk0:∀k,k≠0→(fun k=>if k=0 then r 0 else none:cF) k=none:=fun k hk=>aE hk
 refine⟨_,_,_,fun k=>if k=0 then r 0 else none,pub,he,hK,.str _,⟨fun k e he=>?_,fun k hk=>aE (by simp at hk;omega),fun i j u v hij hu hv=>?_,fun g hg=>hm.fresh g (Nat.le_trans hf.size hg),fun g i hi=>?_,hm.glob.ext hfr.ext⟩,hfr.mono (fun g hg=>.inl ⟨1,_,h1,by simpa [bY]using hg⟩),fun g hg=>?_,fun k z hz hs=>?_,aN _⟩
 ·match k,he with
  |0,he=>
   cases he;simp only[if_true];rw[h0];exact .blk (hb.frm hf hd) (.cons (.any _) (.cons (.any _) .nil)) hpb
  |1,he=>
   cases he;exact .dead
  |k+2,he=>simp at he
 ·exfalso;have a1:i=0:=Classical.byContradiction fun h=>by rw[aE h]at hu;cases hu
  have a2:j=0:=Classical.byContradiction fun h=>by rw[aE h]at hv;cases hv
  exact hij (a1.trans a2.symm)
 ·obtain⟨u,hu⟩:=hm.there g i hi;exact⟨u,hfr.ext.cell g i u hi hu⟩
 ·obtain⟨k,z,hz,hg⟩:=hg;replace hz:(if k=0 then r 0 else none)=some z:=hz;have a1:k=0:=Classical.byContradiction fun h=>by rw[aE h]at hz;cases hz
  subst a1;exact .inl ⟨0,z,by simpa using hz,hg⟩
 ·match k,hz with
  |0,hz=>simpa using hz
  |1,hz=>rw[h1]at hz;cases hz;cases hs
  |k+2,hz=>rw[hm.none_ (k+2) (by simp)]at hz;cases hz
end
end Go.Proofs.YtooioahiijbomaaGreatDoor
namespace Go.Proofs.YtooioahiijbomaaGreatDoor
open Go.RowKit Go.Shelf
section
variable {P:bG}{ρ:Ren}
set_option maxHeartbeats 2000000 in
set_option maxRecDepth 100000 in
theorem Ea (L:Lays.n167 P ρ) (X:Builder.Extra P ρ) (b:Nat) (p:Value) {A:Option Addr}{n c:Nat}{us:List Value}(ch:Int) (w:World) (hb:gF w b (ρ.t 72) #[p,.slice A n c]) (hp:p=.pointer none∨p=.pointer (some ⟨b,0,none⟩))
  (hown:fP w (ρ.t 5) 1 A n c us) (hd:b∉gC A) (hlen:n+1≤140737488355328) :
  Calls P (ρ.f 167) #[.pointer (some ⟨b,0,none⟩),.int .u8 ch] w fun e w'=>e=.returned .nilIface∧∃A2 c2,gF w' b (ρ.t 72) #[.pointer (some ⟨b,0,none⟩),.slice A2 (n+1) c2]∧fP w' (ρ.t 5) 1 A2 (n+1) c2 (us++[.int .u8 ch])∧
   gX (b :: gC A) w w'∧∀g∈gC A2,g∈gC A∨w.heap.size≤g:=by
 obtain⟨i0,hi,hz0,hz1,hz2⟩:=info_parts X.infoByte;have mixed:=L.mixed;have t72:=L.t72;have a72:=L.a72;have z72:=L.z72;have v72:=L.v72;have u72:=run_underlying L.t72;have t70:=L.t70;have a70:=L.a70;have z70:=L.z70;have v70:=L.v70;have u70:=run_underlying L.t70;have t5:=L.t5;have a5:=L.a5;have z5:=L.z5;have v5:=L.v5;have u5:=run_underlying L.t5;have t37:=L.t37;have a37:=L.a37;have z37:=L.z37;have v37:=L.v37;have u37:=run_underlying L.t37;have t9:=L.t9;have a9:=L.a9;have z9:=L.z9;have v9:=L.v9;have u9:=run_underlying L.t9;have t4:=L.t4;have a4:=L.a4;have z4:=L.z4;have v4:=L.v4;have u4:=run_underlying L.t4;have t164:=L.t164;have a164:=L.a164;have z164:=L.z164;have v164:=L.v164;have u164:=run_underlying L.t164;have e240:∀args w,(callFunc (ρ.f 240) args).run P w=.ok (.enter (ρ.f 240) args) w:=enters_of L.f240 (by kernel_rfl) rfl
 go_enter L.f167,Body.n167_ntmps ρ
 go_wp2_with (go_at_fn (ρ.f 240);refine(B1 { L with } X.toX72 b p _ _ hb hp).mono ?_)
 rintro e w1 ⟨rfl,hb1,hf1,hsz⟩;have c0:w1.cell? ⟨b,0,none⟩=some (.pointer (some ⟨b,0,none⟩)):=hb1.cell 0 _ rfl;have c1:w1.cell? ⟨b,1,none⟩=some (.slice A n c):=hb1.cell 1 _ rfl;have hown1:fP w1 (ρ.t 5) 1 A n c us:=hown.frS (S:=(·∈[b])) (pub:=fun _=>0) (Fr.of_frm hf1 (fun _ _=>rfl)) (fun g hg=>by simp;rintro rfl;exact hd hg)
 go_wp2_with (at_builtin;go_loud (refine En _ rfl _ _ (ρ.t 37) rfl (ρ.t 5) i0 (.int .u8 0) 1 1 L.t37 hi hz0 hz1 hz2 rfl (by decide) rfl rfl (hown1.alloc _) (Rd.lit w1 (ρ.t 5) 1 #[.int .u8 ch] 1 (by simp[maxLen]) rfl _ hsz.symm) ?c2 (n+1) rfl (us++[.int .u8 ch]) rfl ?c3 ?c4 ?_))
 case c2=>first|rfl|(intro u hu;simp at hu;subst hu;rfl)|simp
 case c3=>unfold maxLen;omega
 case c4=>omega
 intro A2 c2 w2 hown2 hf2 hfp;have hb2:gF w2 b (ρ.t 72) #[.pointer (some ⟨b,0,none⟩),.slice A n c]:=(hb1.alloc _).frm hf2 hd;have d0:w2.cell? ⟨b,0,none⟩=some (.pointer (some ⟨b,0,none⟩)):=hb2.cell 0 _ rfl;have d1:w2.cell? ⟨b,1,none⟩=some (.slice A n c):=hb2.cell 1 _ rfl;have f1:w2.frozen? ⟨b,1,none⟩=false:=hb2.free 1;have hd2:b∉gC A2:=fun h=>by
  rcases hfp b h with h1|h1
  ·exact hd h1
  ·have:=hb1.lt;(try simp at h1);omega
 go_wp2
 go_ret
 refine⟨rfl,A2,c2,hb2.set_ 1 _,hown2.frS (S:=(·∈[b])) (pub:=fun _=>0) (Fr.of_frm ((gX.refl [b] w2).setCell (.inl (by simp)) _) (fun _ _=>rfl)) (fun g hg=>by simp;rintro rfl;exact hd2 hg),?_,fun g hg=>?_⟩
 ·exact(((hf1.mono (by simp)).alloc _).trans (hf2.mono (S':=b :: gC A) (by simp +contextual)) (by simp +contextual)).setCell (.inl (by simp)) _
 ·rcases hfp g hg with h1|h1
  ·exact .inl h1
  ·exact .inr (by(try simp at h1);omega)
theorem Ap (L:Lays.n167 P ρ) (X:Builder.Extra P ρ):bH P (ρ.f 167) (spec (fun i:bF×UInt8=>[.ptr 0 0,.int .u8 i.2.toNat]) (fun i=>[.blk (ρ.t 72) [rT i.1,.hd 1],.row (ρ.t 5) 1 (eQ i.1)])
  (fun i=>i.1.size+1≤140737488355328) (fun _=>.v .nilIface) fun i=>[.blk (ρ.t 72) [rT (i.1++⟨#[i.2]⟩),.hd 1],.row (ρ.t 5) 1 (eQ (i.1++⟨#[i.2]⟩))]):=by
 intro args H K ⟨⟨out,ch⟩,ha,hH,hlen,hK⟩ w r pub vals hm hv;subst ha;subst hH;obtain⟨b,A,c,p,h0,h1,hb,hp,hown,hd,hpb,hpA⟩:=tF hm;obtain⟨u,us,he,q1,q2⟩:=hv.cons_inv;obtain⟨u2,us',he',q3,q4⟩:=q2.cons_inv;have q5:=q4.nil_inv;subst q5;cases q3;have hu:u=.pointer (some ⟨b,0,none⟩):=by
  cases q1 with
  |ptr _ h2=>rw[h0]at h2;cases h2;rfl
 have hvals:vals=#[.pointer (some ⟨b,0,none⟩),.int .u8 ch.toNat]:=Array.toList_inj.1 (by rw[he,he',hu]);subst hvals;have hp':p=.pointer none∨p=.pointer (some ⟨b,0,none⟩):=by
  unfold rT at hp
  split at hp
  ·cases hp;exact .inl rfl
  ·cases hp with
   |ptr _ h2=>rw[h0]at h2;cases h2;exact .inr rfl
 dsimp only at hlen;refine(Ea L X b p ch.toNat w hb hp' hown hd hlen).mono fun e w' ⟨he,A2,c2,hb2,hown2,hf,hA⟩=>?_
 have hsz:(out++⟨#[ch]⟩).size=out.size+1:=ByteArray.size_append;have hd2:b∉gC A2:=fun h=>by
  rcases hA b h with h3|h3
  ·exact hd h3
  ·have:=hb.lt;omega
 rw[←hsz]at hb2 hown2;have hcat:Lib.strCells out++[.int .u8 ch.toNat]=Lib.strCells (out++⟨#[ch]⟩):=by simp[Lib.strCells]
 rw[hcat]at hown2;obtain⟨k1,k2,k3,k4⟩:=xO (q:=.pointer (some ⟨b,0,none⟩)) hm h0 h1 hb2 (fun r' hr'=>by
  unfold rT;rw[aE (by rw[hsz];omega)];exact .ptr 0 (by rw[hr',h0])) hown2 hf hA hpb hpA hd2
 exact⟨_,_,_,_,pub,he,hK,.v _ rfl,k1,k2,k3,k4,aN _⟩
end
end Go.Proofs.YtooioahiijbomaaGreatDoor
namespace Go.Proofs.YtooioahiijbomaaGreatDoor
open Go.RowKit
set_option maxHeartbeats 4000000
set_option maxRecDepth 100000
def yS (s:bF):List cC:=[.blk 133 [rT s,.hd 1],.row 5 1 (eQ s)]
def Db:cQ:=spec (fun i:bF×bF=>[.ptr 0 0,.str i.2]) (fun i=>yS i.1) (fun i=>i.1.size+i.2.size≤140737488355328∧i.2.size≠0) (fun i=>.tup [.int .i64 i.2.size,.v .nilIface]) fun i=>yS (i.1++i.2)
def FC:cQ:=spec (fun i:bF×UInt8=>[.ptr 0 0,.int .u8 i.2.toNat]) (fun i=>yS i.1) (fun i=>i.1.size+1≤140737488355328) (fun _=>.v .nilIface) fun i=>yS (i.1++⟨#[i.2]⟩)
def Ad:cQ:=spec (fun _:bF×AV=>[.ptr 0 0]) (fun i=>[.blk 133 [i.2,.hd 1],.row 5 1 (eQ i.1)]) (fun _=>True) (fun i=>.str i.1) fun _=>[.blk 133 [.any,.any],.dead]
def CH:List cC:=[.blk 133 [.v (.pointer none),.hd 1],.row 5 1 []]
def iW (xs:List AV):List cC:=[.blk 133 [.ptr 0 0,.hd 1],.row 5 1 xs]
structure BI where
 o:bF
 xs:List AV
 s:bF
structure Vj (i:BI):Prop where
 x:i.xs=eQ i.o
 o:i.o.size≠0
 s:i.s.size≠0
 l:i.o.size+i.s.size≤140737488355328
def KJ:cQ:=dJ (fun s:bF=>[.ptr 0 0,.str s]) (fun _=>CH) (fun s=>s.size≠0∧s.size≤140737488355328) (fun s (ys:List AV)=>ys=eQ s) (fun s _=>.tup [.int .i64 s.size,.v .nilIface]) fun _ ys=>iW ys
def Px:cQ:=dJ (fun i:BI=>[.ptr 0 0,.str i.s]) (fun i=>iW i.xs) Vj (fun i (ys:List AV)=>ys=eQ (i.o++i.s)) (fun i _=>.tup [.int .i64 i.s.size,.v .nilIface]) fun _ ys=>iW ys
structure TJ where
 o:bF
 xs:List AV
 c:UInt8
structure SK (i:TJ):Prop where
 x:i.xs=eQ i.o
 o:i.o.size≠0
 l:i.o.size+1≤140737488355328
def Uk (c:Int):cQ:=dJ (fun _:TJ=>[.ptr 0 0,.int .u8 c]) (fun i=>iW i.xs) (fun i=>SK i∧c=i.c.toNat) (fun i (ys:List AV)=>ys=eQ (i.o++⟨#[i.c]⟩)) (fun _ _=>.v .nilIface) fun _ ys=>iW ys
def Bn:cQ:=spec (fun _:BI=>[.ptr 0 0]) (fun i=>iW i.xs) (fun i=>i.xs=eQ i.o) (fun i=>.str i.o) fun _=>[.blk 133 [.any,.any],.dead]
theorem Q5:yS ⟨#[]⟩=CH:=rfl
theorem Ck {s:bF}(h:s.size≠0):yS s=iW (eQ s):=by
 unfold yS iW rT;rw[aE h]
theorem Ac {P:bG}{f:Nat}(h:bH P f Db):bH P f KJ:=fun args H K ⟨s,ha,hH,⟨h1,h2⟩,hK⟩=>h args H K ⟨(⟨#[]⟩,s),ha,hH.trans Q5.symm,⟨by dsimp only;rw[show (ByteArray.mk #[]).size=0 from rfl];omega,h1⟩,by
 have e:(ByteArray.mk #[])++s=s:=ByteArray.empty_append;dsimp only;rw[e,Ck h1];exact hK _ rfl⟩
theorem wN {P:bG}{f:Nat}(h:bH P f Db):bH P f Px:=fun args H K ⟨i,ha,hH,hp,hK⟩=>h args H K ⟨(i.o,i.s),ha,hH.trans (show iW i.xs=yS i.o by rw[hp.x,Ck hp.o]),⟨hp.l,hp.s⟩,by
 have e:(i.o++i.s).size≠0:=by have:=hp.o;rw[ByteArray.size_append];omega
 dsimp only;rw[Ck e];exact hK _ rfl⟩
theorem RB {P:bG}{f:Nat}(c:Int) (h:bH P f FC):bH P f (Uk c):=fun args H K ⟨i,ha,hH,⟨hp,hc⟩,hK⟩=>h args H K ⟨(i.o,i.c),by rw[ha,hc],hH.trans (show iW i.xs=yS i.o by rw[hp.x,Ck hp.o]),hp.l,by
 have e:(i.o++⟨#[i.c]⟩).size≠0:=by have:=hp.o;rw[ByteArray.size_append];omega
 dsimp only;rw[Ck e];exact hK _ rfl⟩
theorem sN {P:bG}{f:Nat}(h:bH P f Ad):bH P f Bn:=fun args H K ⟨i,ha,hH,hp,hK⟩=>h args H K ⟨(i.o,.ptr 0 0),ha,hH.trans (show iW i.xs=iW (eQ i.o) by rw[show i.xs=eQ i.o from hp]),trivial,hK⟩
theorem bM.adoptC {C:kN}{st:St}{a:Act}{w:World}{r:cF}{pub:cI}(h:bM C st a w r pub) (k j t sz:Nat) {t0:TypeId}{cs:List AV}(hk:st.H[k]?=some (.blk t0 cs)) (hj:cs[j]?=some (.v (.slice none 0 0))) :
  bM C ⟨st.T,(st.H++[cC.row t sz []]).set k (.blk t0 (cs.set j (.hd st.H.length)))⟩ a w (eN r st.H.length (.slice none 0 0)) pub:=by
 have hkl:=(aA.1 hk).1;have hd:=h.room 1;have hq:(st.H++List.replicate 1 cC.dead)[st.H.length]?=some .dead:=by simp
 have h1:=hd.adopt hq t sz;have hset:(st.H++List.replicate 1 cC.dead).set st.H.length (.row t sz [])=st.H++[.row t sz []]:=by simp
 dsimp only at h1;rw[hset]at h1;have hk1:(st.H++[cC.row t sz []])[k]?=some (.blk t0 cs):=by rw[List.getElem?_append_left hkl];exact hk
 obtain⟨b,arr,hr,hb,hc,hp⟩:=h1.ent_blk hk1;have he:dR pub w (eN r st.H.length (.slice none 0 0)) (some (.pointer (some ⟨b,0,none⟩))) (.blk t0 (cs.set j (.hd st.H.length))):=by
  refine .blk hb ⟨by rw[aZ];exact hc.len,fun i x u hx hu=>?_⟩ hp;rw[List.getElem?_set]at hx
  split at hx
  ·rename_i e;subst e;have:=hc.at_ j _ u hj hu;cases this
   split at hx
   ·cases hx;exact .hd (bW _ _ _) rfl
   ·cases hx
  ·exact hc.at_ i x u hx hu
 exact⟨h1.mod.set hr (Fr.refl (fun _=>False) _ _) (fun b hb=>hb.elim) h1.mod.fresh h1.mod.there he,h1.own,h1.fr,h1.slots,h1.defers,h1.size,h1.stab,by simpa using h1.low⟩
theorem pN {P:bG}{f:Nat}{keep:List Nat}{args:List AV}{st:St}{K:AV→St→Prop}(k j t sz:Nat) {t0:TypeId}{cs:List AV}(hk:st.H[k]?=some (.blk t0 cs)) (hj:cs[j]?=some (.v (.slice none 0 0))) (hkeep:(keep.all fun q=>q != st.H.length)=true)
  (h:fZ P keep f args ⟨st.T,(st.H++[cC.row t sz []]).set k (.blk t0 (cs.set j (.hd st.H.length)))⟩ K):fZ P keep f args st K:=by
 refine⟨fun C a w r pub vals hh hv=>?_⟩;have h1:=hh.adoptC k j t sz hk hj;have hnone:r st.H.length=none:=hh.mod.none_ _ (aN _);have hmono:∀n y,r n=some y→eN r st.H.length (.slice none 0 0) n=some y:=fun n y hn=>by
  rw[cG _ _ (fun e=>by rw[e,hnone]at hn;cases hn)];exact hn
 refine(h.out C a w _ pub vals h1 ⟨hv.len,fun i x u hx hu=>(hv.at_ i x u hx hu).mono hmono⟩).mono fun e w' hw=>?_
 obtain⟨v,x,st',r',pub',e1,e2,e3,e4,e5,e6⟩:=hw;refine⟨v,x,st',r',pub',e1,e2,e3,e4,e5,fun q hq=>?_⟩;have hne:q≠st.H.length:=by
  have:=aS.1 hkeep q hq;simpa using this
 have h6:=e6 q hq;rw[cG _ _ hne]at h6;exact h6
set_option maxHeartbeats 8000000
structure OX where
 o:bF
 xs:List AV
structure PF (k:OX):Prop where
 x:k.xs=eQ k.o
 z:k.o.size≠0
 l:k.o.size≤1099511627776
structure rU (n:Nat) (k:OX):Prop where
 x:k.xs=eQ k.o
 z:k.o.size≠0
 l:k.o.size≤n
theorem Od:(ByteArray.mk #[32,61,32,34]).size=4∧(ByteArray.mk #[34]).size=1∧(ByteArray.mk #[32,60,61,32]).size=4∧(ByteArray.mk #[32,62,61,32]).size=4:=⟨rfl,rfl,rfl,rfl⟩
theorem D8:∀(l:List bF) (sep:bF) (n:Nat),(∀s∈l,s.size≤n)→(eS l sep).size≤l.length * (n+sep.size)
 |[],sep,n,_=>aI _
 |y :: r,sep,n,h=>by
  have e:(eS (y :: r) sep).size=y.size+(Lib.joinTail sep.data.toList (r.map (·.data.toList))).length:=by
   show (List.toArray _).size=_;rw[List.size_toArray,List.map_cons,Lib.join_cons,aM,bA];rfl
  have h2:∀r:List bF,(∀s∈r,s.size≤n)→(Lib.joinTail sep.data.toList (r.map (·.data.toList))).length≤r.length * (n+sep.size):=by
   intro r
   induction r with
   |nil=>intro _;exact aI _
   |cons a r ih=>
    intro hr;have h3:=ih fun s hs=>hr s (aV _ hs)
    have h4:=hr a (bC ..);have e2:(Lib.joinTail sep.data.toList ((a :: r).map (·.data.toList))).length=sep.size+a.size+(Lib.joinTail sep.data.toList (r.map (·.data.toList))).length:=by
     unfold Lib.joinTail;rw[List.map_cons,List.map_cons,List.flatten_cons,aM,aM,bA,bA];rfl
    rw[e2,List.length_cons,Nat.add_mul,Nat.one_mul];omega
  have h5:=h2 r fun s hs=>h s (aV _ hs)
  have h6:=h y (bC ..);rw[e,List.length_cons,Nat.add_mul,Nat.one_mul];omega
structure KW (ws:List bF):Prop where
 n:ws.length≤16
 z:∀w∈ws,w.size≤1073741824
theorem KW.j {ws:List bF}(h:KW ws):(eS ws ⟨#[32]⟩).size≤17179869200:=by
 have h1:=D8 ws ⟨#[32]⟩ 1073741824 h.z;have h2:(ByteArray.mk #[32]).size=1:=rfl;rw[h2]at h1;have h3:ws.length * (1073741824+1)≤16 * (1073741824+1):=Nat.mul_le_mul h.n (aN _);omega
def T5:cQ:=spec (fun b:Bool=>[.bl b]) (fun _=>[]) (fun _=>True) (fun b=>.str (yn b)) fun _=>[]
theorem Ei (P:bG):bL P TW T5:=by
 intro args H K hc;obtain⟨b,rfl,rfl,hp,hK⟩:=hc;refine⟨cW,?_⟩;dsimp only at hp hK⊢;cases b
 all_goals
  cbv
  (refine .q9 ?_;cbv;exact .inl (.f9 hK))
def O4:cQ:=spec (fun l:List Nd=>[vW l]) (fun _=>[]) GZ (fun _=>.bl false) fun _=>[]
theorem yX (P:bG):bL P RX O4:=by
 intro args H K hc;obtain⟨l,rfl,rfl,hp,hK⟩:=hc;refine⟨cW,?_⟩;dsimp only at hp hK⊢;obtain⟨_,_,hl2⟩:=hp;have hml:=bN jW l;cbv;repeat'((first|refine .n fun h=>?_|refine .y fun h=>?_|refine .mk (fun h=>?_) fun h=>?_|refine .k fun z hz=>?_|fail)<;>cbv)
 all_goals first
  |(refine .q9 ?_;cbv;exact .inl (.f9 hK))
  |(exfalso;exact absurd rfl ‹¬_›)
  |(exfalso;((try simp only[vn]at *)<;>omega))
structure PE (n:Nat) (ws:List bF):Prop where
 n:ws.length=n
 z:∀w∈ws,w.size≤1073741824
theorem wV:PE 0 []:=⟨rfl,fun w h=>nomatch h⟩
theorem pK {n:Nat}{a:bF}{ws:List bF}(ha:a.size≤1073741824) (h:PE n ws):PE (n+1) (a :: ws):=⟨by rw[List.length_cons,h.n],fun w hw=>by
 rcases List.mem_cons.1 hw with rfl|hw
 ·exact ha
 ·exact h.z w hw⟩
theorem kL {n:Nat}{l:List UInt8}{ws:List bF}(h:PE n ws) (ha:Nat.ble l.length 1073741824=true:=by rfl):PE (n+1) (⟨⟨l⟩⟩ :: ws):=pK (Nat.le_of_ble_eq_true ha) h
theorem PE.ok {n:Nat}{ws:List bF}(h:PE n ws) (hn:n≤16:=by decide):KW ws:=⟨by rw[h.n];exact hn,h.z⟩
theorem N8 (b:Bool):(yn b).size≤3:=by cases b<;>decide
def rmB (n:Nd):Bool:=if n.kind=3 then decide (n.num=0) && (WM n.field && XG n.text) else decide (n.text=⟨#[]⟩) && (WM n.field && (decide (0≤n.num) && decide (n.num≤1099511627776)))
def alO:cQ:=WG (fun n:Nd=>[jW n]) Bs rmB
theorem Xj (P:bG) (hn:bH P 141 Zw) (ht:bH P 200 afB):bL P Rw alO:=by
 intro args H K hc;obtain⟨⟨kind,field,text,num⟩,rfl,rfl,hp,hK⟩:=hc;refine⟨cW,?_⟩;dsimp only at hp hK⊢;obtain⟨hk,hf,hx,hi⟩:=hp;obtain⟨g,hg⟩:∃g,g=rmB ⟨kind,field,text,num⟩:=⟨_,rfl⟩
 rw[←hg]at hK;unfold rmB at hg;obtain⟨bn,hbn⟩:∃b,b=WM field:=⟨_,rfl⟩
 obtain⟨bt,hbt⟩:∃b,b=XG text:=⟨_,rfl⟩
 unfold dG at hk
 try dsimp only at hk hf hx hi hg
 rw[←hbn,←hbt]at hg;rcases hk with h1|h1|h1<;>subst h1
 all_goals
  cbv;repeat'((first|refine .n fun h=>?_|refine .y fun h=>?_|refine .mk (fun h=>?_) fun h=>?_|fail)<;>cbv)
  all_goals repeat'(first
   |exact nF.mk ⟨_,Gh.refl _,.inl (.v9 (mT hK (by(rw[hg];clear hbn hbt;simp_all<;>omega))))⟩
   |((refine hP hn field (show field.size≤1099511627776 by omega) ?_;try dsimp only);rw[←hbn];cases bn<;>cbv;repeat'((first|refine .y fun h=>?_|refine .mk (fun h=>?_) fun h=>?_|fail)<;>cbv))
   |((refine hP ht text (show text.size≤1099511627776 by omega) ?_;try dsimp only);rw[←hbt];cases bt<;>cbv))
  all_goals skip
def Xp (n:Nd):Bool:=!rmB n
def aoJ:cQ:=WG (fun n:Nd=>[jW n]) Bs Xp
theorem abR (P:bG) (hr:bH P 111 alO):bL P TM aoJ:=by
 intro args H K hc;obtain⟨⟨kind,field,text,num⟩,rfl,rfl,hp,hK⟩:=hc;refine⟨cW,?_⟩;dsimp only at hp hK⊢;obtain⟨g,hg⟩:∃g,g=Xp ⟨kind,field,text,num⟩:=⟨_,rfl⟩
 rw[←hg]at hK;unfold Xp at hg;obtain⟨b,hb⟩:∃b,b=rmB ⟨kind,field,text,num⟩:=⟨_,rfl⟩
 rw[←hb]at hg;subst hg;cbv
 (refine hP hr (⟨kind,field,text,num⟩:Nd) hp ?_;try dsimp only)
 rw[←hb];cases b
 all_goals
  cbv
  (refine .q9 ?_;cbv;exact .inl (.f9 hK))
def akE:cQ:=spec (fun l:List Nd=>[.sl 6 (bK jW l),.clo 199 []]) (fun _=>[]) GZ (fun l=>.i (Ww Xp l)) fun _=>[]
theorem acB (P:bG) (m:cL P 199) (hf:bH P 199 aoJ):bL P QO akE:=by
 intro args H K hc;obtain⟨l,rfl,rfl,hp,hK⟩:=hc;refine⟨cW,?_⟩;dsimp only at hp hK⊢;obtain⟨hn,hl,hl2⟩:=hp;have hml:=bN jW l;have hat:=fun k (x:Nd) (h:lJ Xp l k) (hx:l[k]?=some x) (hp:Xp x=true)=>Mo h hx hp
 have hno:=fun(h:lJ Xp l l.length)=>GR h
 obtain⟨g,hg⟩:∃g,g=Ww Xp l:=⟨_,rfl⟩
 rw[←hg]at hK hat hno;cbv;repeat'((first|refine .k fun z hz=>?_|fail)<;>cbv)
 refine bZ [] (fun q:{ k:Nat // k≤l.length∧lJ Xp l k }=>[(8,.i (nI q.1))]) (fun _=>[]) (fun q=>iH 65 q.1) ⟨0,aI _,.zero⟩ ?_;rintro ⟨k,hk,hkn⟩
 try dsimp only at hk hkn⊢
 rcases aL k l.length with hks|hks
 ·obtain⟨x,hx⟩:=cY hks;have hxs:=hn x (aC hx);have hs:=hkn.succ hx;have ha:=hat k x hkn hx;obtain⟨b,hb⟩:∃b,b=Xp x:=⟨_,rfl⟩
  rw[←hb]at hs ha;obtain⟨kind,field,text,num⟩:=x;cbv;repeat'((first|refine .e ?_|refine .y fun h=>?_|refine And.intro ?_ ?_|fail)<;>cbv)
  ·exact m
  (refine hP hf (⟨kind,field,text,num⟩:Nd) hxs ?_;try dsimp only)
  rw[←hb];cases b
  ·cbv;repeat'((first|refine .k fun z hz=>?_|fail)<;>cbv)
   obtain rfl:z=nI (k+1):=bR;exact bP ⟨k+1,by exact bR,hs rfl⟩ (bQ bR)
  ·obtain rfl:=ha rfl;cbv
   (refine .q9 ?_;cbv;exact .inl (.f9 hK))
 ·have hke:k=l.length:=by omega
  obtain rfl:=hno (by rw[←hke];exact hkn);cbv;repeat'((first|refine .n fun h=>?_|fail)<;>cbv)
  (refine .q9 ?_;cbv;exact .inl (.f9 hK))
def amH:cQ:=WG (fun l:List Nd=>[.sl 6 (bK jW l),.clo 199 []]) GZ (fun l=>l.any Xp)
theorem aaK (P:bG) (hf:bH P 267 akE):bL P R6 amH:=by
 intro args H K hc;obtain⟨l,rfl,rfl,hp,hK⟩:=hc;refine⟨cW,?_⟩;dsimp only at hp hK⊢;have ha:=Xs Xp l;obtain⟨g,hg⟩:∃g,g=l.any Xp:=⟨_,rfl⟩
 obtain⟨i,hi⟩:∃i,i=Ww Xp l:=⟨_,rfl⟩
 rw[←hg]at hK ha;rw[←hi]at ha;cbv
 (refine hP hf l hp ?_;try dsimp only)
 rw[←hi];cbv;repeat'((first|refine .mk (fun h=>?_) fun h=>?_|fail)<;>cbv)
 all_goals exact nF.mk ⟨_,Gh.refl _,.inl (.v9 (mT hK (by(rw[←ha];simp;omega))))⟩
def aiR:cQ:=WG (fun l:List Nd=>[vW l]) GZ (fun l=>!l.any Xp)
theorem Xt (P:bG) (hf:bH P 198 amH):bL P Rw aiR:=by
 intro args H K hc;obtain⟨l,rfl,rfl,hp,hK⟩:=hc;refine⟨cW,?_⟩;dsimp only at hp hK⊢;obtain⟨hn,hl,hl2⟩:=hp;have hml:=bN jW l;obtain⟨b,hb⟩:∃b,b=l.any Xp:=⟨_,rfl⟩
 rw[←hb]at hK;cbv;repeat'((first|refine .y fun h=>?_|refine .mk (fun h=>?_) fun h=>?_|refine .k fun z hz=>?_|fail)<;>cbv)
 all_goals repeat'(first
  |(refine .q9 ?_;cbv;exact .inl (.f9 hK))
  |(exfalso;exact absurd rfl ‹¬_›)
  |(exfalso;((try simp only[vn]at *)<;>omega))
  |((refine hP hf l ⟨hn,hl,hl2⟩ ?_;try dsimp only);rw[←hb];cases b<;>cbv))
def anK:cQ:=WG (fun i:Nd×Int=>[jW i.1,.i i.2]) (fun _=>True) fun _=>true
theorem XD (P:bG):bL P RS anK:=by
 intro args H K hc;obtain⟨⟨⟨kind,field,text,num⟩,d⟩,rfl,rfl,hp,hK⟩:=hc;refine⟨cW,?_⟩;dsimp only at hp hK⊢;cbv;repeat'((first|refine .y fun h=>?_|fail)<;>cbv)
 all_goals(refine .q9 ?_;cbv;exact .inl (.f9 hK))
def akC:cQ:=spec (fun i:Nd×Int=>[jW i.1,.ptr 0 0]) (fun i=>[.blk 3 [.i i.2]]) (fun _=>True) (fun _=>.bl false) fun i=>[.blk 3 [.i i.2]]
theorem abA (P:bG) (hw:bH P 225 anK):bL P Ud akC:=by
 intro args H K hc;obtain⟨⟨⟨kind,field,text,num⟩,d⟩,rfl,rfl,hp,hK⟩:=hc;refine⟨cW,?_⟩;dsimp only at hp hK⊢;cbv;refine⟨fun z hz=>?_⟩;cbv
 (refine hP hw ((⟨kind,field,text,num⟩,z):Nd×Int) trivial ?_;try dsimp only)
 cbv
 (refine .q9 ?_;cbv;exact .inl (.f9 hK))
def anM:cQ:=spec (fun i:List Nd×Int=>[.sl 6 (bK jW i.1),.clo 285 [.ptr 0 0]]) (fun i=>[.blk 3 [.i i.2]]) (fun i=>GZ i.1) (fun _=>.i (-1)) fun i=>[.blk 3 [.i i.2]]
theorem aaG (P:bG) (m:cL P 285) (hf:bH P 285 akC):bL P QO anM:=by
 intro args H K hc;obtain⟨⟨l,d⟩,rfl,rfl,hp,hK⟩:=hc;refine⟨cW,?_⟩;dsimp only at hp hK⊢;obtain⟨hn,hl,hl2⟩:=hp
 try dsimp only at hn hl hl2
 have hml:=bN jW l;cbv;repeat'((first|refine .k fun z hz=>?_|fail)<;>cbv)
 refine bZ [] (fun q:{ k:Nat // k≤l.length }=>[(8,.i (nI q.1))]) (fun _=>[.blk 3 [.i d]]) (fun q=>iH 65 q.1) ⟨0,aI _⟩ ?_;rintro ⟨k,hk⟩
 try dsimp only at hk⊢
 rcases aL k l.length with hks|hks
 ·obtain⟨⟨kind,field,text,num⟩,hx⟩:=cY hks;cbv;repeat'((first|refine .e ?_|refine .y fun h=>?_|refine And.intro ?_ ?_|fail)<;>cbv)
  ·exact m
  (refine jR hf ((⟨kind,field,text,num⟩,d):Nd×Int) [0] trivial ?_;try dsimp only)
  cbv;repeat'((first|refine .k fun z hz=>?_|fail)<;>cbv)
  obtain rfl:z=nI (k+1):=bR;exact bP ⟨k+1,by exact bR⟩ (bQ bR)
 ·cbv;repeat'((first|refine .n fun h=>?_|fail)<;>cbv)
  (refine .q9 ?_;cbv;exact .inl (.f9 hK))
def alF:cQ:=spec (fun i:List Nd×Int=>[.sl 6 (bK jW i.1),.clo 285 [.ptr 0 0]]) (fun i=>[.blk 3 [.i i.2]]) (fun i=>GZ i.1) (fun _=>.bl false) fun i=>[.blk 3 [.i i.2]]
theorem ZV (P:bG) (hf:bH P 267 anM):bL P R6 alF:=by
 intro args H K hc;obtain⟨⟨l,d⟩,rfl,rfl,hp,hK⟩:=hc;refine⟨cW,?_⟩;dsimp only at hp hK⊢;cbv
 (refine jR hf ((l,d):List Nd×Int) [0] hp ?_;try dsimp only)
 cbv;repeat'((first|refine .n fun h=>?_|fail)<;>cbv)
 (refine .q9 ?_;cbv;exact .inl (.f9 hK))
def aiE:cQ:=WG (fun l:List Nd=>[vW l,.i 16]) GZ fun _=>true
theorem XB (P:bG) (hf:bH P 198 alF):bL P RS aiE:=by
 intro args H K hc;obtain⟨l,rfl,rfl,hp,hK⟩:=hc;refine⟨cW,?_⟩;dsimp only at hp hK⊢;have hp':=hp;obtain⟨hn,hl,hl2⟩:=hp;have hml:=bN jW l;cbv;repeat'((first|refine .n fun h=>?_|refine .y fun h=>?_|refine .k fun z hz=>?_|fail)<;>cbv)
 all_goals first
  |(refine .q9 ?_;cbv;exact .inl (.f9 hK))
  |((refine jR hf ((l,16):List Nd×Int) [1] hp' ?_;try dsimp only)
    (cbv)
    (refine .q9 ?_;cbv;exact .inl (.f9 hK)))
def nmB (n:Ne):Bool:=Xq n.kind && !n.rules.any Xp
def NmX:cQ:=WG (fun n:Ne=>[iQ n]) B0 nmB
structure atE (P:bG):Prop where
 pa:bH P 201 aeE
 bt:bH P 143 Mc
 al:bH P 149 O4
 wi:bH P 225 aiE
 rm:bH P 111 aiR
theorem Xz (P:bG) (F:atE P):bL P S3 NmX:=by
 intro args H K hc;obtain⟨⟨kind,l⟩,rfl,rfl,hp,hK⟩:=hc;refine⟨cW,?_⟩;dsimp only at hp hK⊢;obtain⟨hk,hr,hl⟩:=hp
 try dsimp only at hk hr hl
 have hL:GZ l:=⟨hr,by omega,hl.1⟩
 obtain⟨g,hg⟩:∃g,g=nmB ⟨kind,l⟩:=⟨_,rfl⟩
 rw[←hg]at hK;unfold nmB at hg;obtain⟨b,hb⟩:∃b,b=Xq kind:=⟨_,rfl⟩
 obtain⟨c,hc⟩:∃c,c=l.any Xp:=⟨_,rfl⟩
 dsimp only at hg;rw[←hb,←hc]at hg;subst hg;cbv
 (refine hP F.pa kind trivial ?_;try dsimp only)
 rw[←hb];cases b
 ·cbv
  (refine .q9 ?_;cbv;exact .inl (.f9 hK))
 cbv
 (refine hP F.bt ((1,1,9):Int×Int×Int) trivial ?_;try dsimp only)
 rw[show CW (1,1,9)=true from rfl];cbv
 (refine hP F.al l hL ?_;try dsimp only)
 cbv
 (refine hP F.wi l hL ?_;try dsimp only)
 cbv
 (refine hP F.rm l hL ?_;try dsimp only)
 rw[←hc];cases c
 all_goals
  cbv
  (refine .q9 ?_;cbv;exact .inl (.f9 hK))
def Ya (n:Ne):Bool:=!nmB n
def anJ:cQ:=WG (fun n:Ne=>[iQ n]) B0 Ya
theorem aaN (P:bG) (hr:bH P 146 NmX):bL P T2 anJ:=by
 intro args H K hc;obtain⟨⟨kind,l⟩,rfl,rfl,hp,hK⟩:=hc;refine⟨cW,?_⟩;dsimp only at hp hK⊢;obtain⟨g,hg⟩:∃g,g=Ya ⟨kind,l⟩:=⟨_,rfl⟩
 rw[←hg]at hK;unfold Ya at hg;obtain⟨b,hb⟩:∃b,b=nmB ⟨kind,l⟩:=⟨_,rfl⟩
 rw[←hb]at hg;subst hg;cbv
 (refine hP hr (⟨kind,l⟩:Ne) hp ?_;try dsimp only)
 rw[←hb];cases b
 all_goals
  cbv
  (refine .q9 ?_;cbv;exact .inl (.f9 hK))
def agK:cQ:=spec (fun l:List Ne=>[.sl 8 (bK iQ l),.clo 145 []]) (fun _=>[]) Uf (fun l=>.i (Ww Ya l)) fun _=>[]
theorem Zo (P:bG) (m:cL P 145) (hf:bH P 145 anJ):bL P QY agK:=by
 intro args H K hc;obtain⟨l,rfl,rfl,hp,hK⟩:=hc;refine⟨cW,?_⟩;dsimp only at hp hK⊢;obtain⟨hn,hl⟩:=hp;have hml:=bN iQ l;have hat:=fun k (x:Ne) (h:lJ Ya l k) (hx:l[k]?=some x) (hp:Ya x=true)=>Mo h hx hp
 have hno:=fun(h:lJ Ya l l.length)=>GR h
 obtain⟨g,hg⟩:∃g,g=Ww Ya l:=⟨_,rfl⟩
 rw[←hg]at hK hat hno;cbv;repeat'((first|refine .k fun z hz=>?_|fail)<;>cbv)
 refine bZ [] (fun q:{ k:Nat // k≤l.length∧lJ Ya l k }=>[(8,.i (nI q.1))]) (fun _=>[]) (fun q=>iH 65 q.1) ⟨0,aI _,.zero⟩ ?_;rintro ⟨k,hk,hkn⟩
 try dsimp only at hk hkn⊢
 rcases aL k l.length with hks|hks
 ·obtain⟨x,hx⟩:=cY hks;have hxs:=hn x (aC hx);have hs:=hkn.succ hx;have ha:=hat k x hkn hx;obtain⟨b,hb⟩:∃b,b=Ya x:=⟨_,rfl⟩
  rw[←hb]at hs ha;obtain⟨kind,rules⟩:=x;cbv;repeat'((first|refine .e ?_|refine .y fun h=>?_|refine And.intro ?_ ?_|fail)<;>cbv)
  ·exact m
  (refine hP hf (⟨kind,rules⟩:Ne) hxs ?_;try dsimp only)
  rw[←hb];cases b
  ·cbv;repeat'((first|refine .k fun z hz=>?_|fail)<;>cbv)
   obtain rfl:z=nI (k+1):=bR;exact bP ⟨k+1,by exact bR,hs rfl⟩ (bQ bR)
  ·obtain rfl:=ha rfl;cbv
   (refine .q9 ?_;cbv;exact .inl (.f9 hK))
 ·have hke:k=l.length:=by omega
  obtain rfl:=hno (by rw[←hke];exact hkn);cbv;repeat'((first|refine .n fun h=>?_|fail)<;>cbv)
  (refine .q9 ?_;cbv;exact .inl (.f9 hK))
def afI:cQ:=WG (fun l:List Ne=>[.sl 8 (bK iQ l),.clo 145 []]) Uf (fun l=>l.any Ya)
theorem YZ (P:bG) (hf:bH P 224 agK):bL P Rh afI:=by
 intro args H K hc;obtain⟨l,rfl,rfl,hp,hK⟩:=hc;refine⟨cW,?_⟩;dsimp only at hp hK⊢;have ha:=Xs Ya l;obtain⟨g,hg⟩:∃g,g=l.any Ya:=⟨_,rfl⟩
 obtain⟨i,hi⟩:∃i,i=Ww Ya l:=⟨_,rfl⟩
 rw[←hg]at hK ha;rw[←hi]at ha;cbv
 (refine hP hf l hp ?_;try dsimp only)
 rw[←hi];cbv;repeat'((first|refine .mk (fun h=>?_) fun h=>?_|fail)<;>cbv)
 all_goals exact nF.mk ⟨_,Gh.refl _,.inl (.v9 (mT hK (by(rw[←ha];simp;omega))))⟩
structure XE where
 p:Pa
 l:List Nd
structure Yk (L:List Tk) (k:Nat) (l:List Nd):Prop where
 n:∀j n,l[j]?=some n→At L (k+4 * j) (Za n)
 a:∀j,1≤j→j < l.length→At L (k+4 * j - 1) [(0,⟨#[97,110,100]⟩)]
 e:At L (k+4 * l.length - 1) [(5,W0)]
structure Yl (i:XE):Prop where
 p:HC i.p
 t:Yk i.p.L i.p.k i.l
 m:2≤i.l.length∧i.l.length≤8
 r:∀n∈i.l,aeG n
def afD:cQ:=spec (fun _:XE=>[.ptr 0 0,.mth 324 [.ptr 0 0],.str ⟨#[97,110,100]⟩,.i 0]) (fun i=>hR i.p) Yl (fun i=>vW i.l) fun i=>hR ⟨i.p.L,i.p.k+4 * i.l.length - 1,i.p.sz⟩
theorem YU (P:bG) (F:TkF P) (m:cL P 324) (ho:bH P 324 alS):bL P apU afD:=by
 intro args H K hc;obtain⟨⟨⟨L,k,sz⟩,l⟩,rfl,rfl,hp,hK⟩:=hc;refine⟨cW,?_⟩;dsimp only at hp hK⊢;obtain⟨hp1,⟨htn,hta,hte⟩,hm,hr⟩:=hp
 try dsimp only at hp1 htn hta hte hm hr
 have hkl:k≤L.length:=hp1.k;have hLl:=hp1.l;dsimp only at hLl;obtain⟨n,hn⟩:∃n,n=l.length:=⟨_,rfl⟩
 obtain⟨e,he⟩:∃e,e=k+4 * l.length - 1:=⟨_,rfl⟩
 rw[←he]at hK;obtain⟨n0,hn0⟩:=cY (L:=l) (i:=0) (by omega);have hr0:=hr n0 (aC hn0);have ht0:=htn 0 n0 hn0;have htk:l.take 1=[n0]:=by rw[cE hn0,List.take_zero];rfl
 have hq3:HC ⟨L,k+3,sz⟩:=by
  obtain⟨q0,q1,q2,q3⟩:=n0;unfold Za at ht0;obtain⟨⟨_,h0⟩,ht1⟩:=ht0.z;obtain⟨⟨_,h1⟩,ht2⟩:=ht1.z;obtain⟨⟨_,h2⟩,_⟩:=ht2.z;exact((hp1.on h0).on h1).on h2
 unfold hR at hK⊢;dsimp only at hK⊢;obtain⟨kind,field,text,num⟩:=n0;cbv;repeat'((first|refine And.intro ?_ ?_|fail)<;>cbv)
 ·exact m
 (refine jR ho (⟨⟨L,k,sz⟩,⟨kind,field,text,num⟩⟩:RuI) [0] ⟨hp1,ht0,hr0⟩ ?_;try dsimp only)
 unfold hR;cbv;refine bZ [0,2] (fun q:{ q:Nat×Nat×List Nd // 1≤q.1∧q.1≤n∧q.2.1+1=k+4 * q.1∧HC ⟨L,q.2.1,sz⟩∧q.2.2=l.take q.1 }=>[(0,.ptr 0 0),(1,.mth 324 [.ptr 0 0]),(9,.hd 2)]) (fun q=>[.blk 172 [.sl 3 (bK LQ L),.i (nI q.1.2.1),.i sz,.i 0,.i 0],.blk 100 [.i 0,.i 0,.str ⟨#[]⟩,.str ⟨#[]⟩,.i 0,.v (.slice none 0 0)],.row 100 6 (bK jW q.1.2.2)]) (fun q=>iH n q.1.1) ⟨(1,k+3,[⟨kind,field,text,num⟩]),aN _,by(try dsimp only);first|done|omega,by(try dsimp only);first|done|omega,hq3,htk.symm⟩ ?_;rintro ⟨⟨j,pos,ls⟩,hj1,hj,hpos,hps,hls⟩
 try dsimp only at hj1 hj hpos hps hls⊢
 have hmls:=bN jW ls;have hlsl:ls.length=j:=by rw[hls,aR];omega
 rcases aL j n with hjs|hjs
 ·obtain⟨x,hx⟩:=cY (L:=l) (i:=j) (by omega);have hrx:=hr x (aC hx);have htx:=htn j x hx;obtain⟨⟨a0,h0⟩,_⟩:=(hta j hj1 (by omega)).z;rw[show k+4 * j - 1=pos by omega]at h0;rw[show k+4 * j=pos+1 by omega]at htx;have hp2:=hps.on h0;have hq4:HC ⟨L,pos+4,sz⟩:=by
   obtain⟨q0,q1,q2,q3⟩:=x;unfold Za at htx;obtain⟨⟨_,h0⟩,ht1⟩:=htx.z;obtain⟨⟨_,h1⟩,ht2⟩:=ht1.z;obtain⟨⟨_,h2⟩,_⟩:=ht2.z;exact((hp2.on h0).on h1).on h2
  have s1:WL (wB [⟨#[97,110,100]⟩]) L pos=true:=(FL h0).trans (Sp _ _);have htk2:=cE hx;rw[←hls]at htk2;obtain⟨kind2,field2,text2,num2⟩:=x;cbv;refine bT 3 rfl ?_;cbv
  (refine hP F.mw ([⟨#[97,110,100]⟩]:List bF) trivial ?_;try dsimp only)
  cbv
  (refine jR F.sw (⟨⟨L,pos,sz⟩,[⟨#[97,110,100]⟩]⟩:SeW) [0] ⟨hps,(by decide:(1:Nat)≤64)⟩ ?_;try dsimp only)
  rw[s1];unfold hR;cbv;repeat'((first|refine .k fun z hz=>?_|refine And.intro ?_ ?_|fail)<;>cbv)
  ·exact m
  obtain rfl:z=nI (pos+1):=bR
  (refine jR ho (⟨⟨L,pos+1,sz⟩,⟨kind2,field2,text2,num2⟩⟩:RuI) [0] ⟨hp2,htx,hrx⟩ ?_;try dsimp only)
  unfold hR;cbv;repeat'((first|refine .zl fun zs hzs hzl=>?_|fail)<;>cbv)
  obtain⟨ls2,hls2⟩:∃q,q=ls++[(⟨kind2,field2,text2,num2⟩:Nd)]:=⟨_,rfl⟩
  rw[←hls2]at htk2;obtain rfl:zs=bK jW ls2:=by rw[hls2,cP,cS];exact hzs
  exact bP ⟨(j+1,pos+4,ls2),by(try dsimp only);omega,by(try dsimp only);omega,by(try dsimp only);omega,hq4,htk2.symm⟩ (bQ (by omega))
 ·have hje:j=n:=by omega
  obtain⟨⟨a0,h0⟩,_⟩:=hte.z;rw[show k+4 * l.length - 1=pos by omega]at h0;have s1:WL (wB [⟨#[97,110,100]⟩]) L pos=false:=(FL h0).trans rfl;obtain rfl:ls=l:=by rw[hls,hje,hn,List.take_length]
  obtain rfl:pos=e:=by omega
  cbv;refine bT 3 rfl ?_;cbv
  (refine hP F.mw ([⟨#[97,110,100]⟩]:List bF) trivial ?_;try dsimp only)
  cbv
  (refine jR F.sw (⟨⟨L,pos,sz⟩,[⟨#[97,110,100]⟩]⟩:SeW) [0] ⟨hps,(by decide:(1:Nat)≤64)⟩ ?_;try dsimp only)
  rw[s1];unfold hR;cbv;repeat'((first|refine .n fun h=>?_|refine .k fun z hz=>?_|fail)<;>cbv)
  (refine .r9 (Gh.plain 2 rfl) ?_;cbv;exact .inl (.g9 hK))
def akA:cQ:=spec (fun _:XE=>[.ptr 0 0]) (fun i=>hR i.p) Yl (fun i=>vW i.l) fun i=>hR ⟨i.p.L,i.p.k+4 * i.l.length - 1,i.p.sz⟩
theorem acD (P:bG) (hr:bH P 314 afD):bL P auQ akA:=by
 intro args H K hc;obtain⟨⟨⟨L,k,sz⟩,l⟩,rfl,rfl,hp,hK⟩:=hc;refine⟨cW,?_⟩;dsimp only at hp hK⊢;unfold hR at hK⊢;dsimp only at hK⊢;obtain⟨e,he⟩:∃e,e=k+4 * l.length - 1:=⟨_,rfl⟩
 rw[←he]at hK;cbv
 (refine jR hr (⟨⟨L,k,sz⟩,l⟩:XE) [0] hp ?_;try dsimp only)
 rw[←he];unfold hR;cbv
 (refine .q9 ?_;cbv;exact .inl (.f9 hK))
def adV:cQ:=spec (fun _:XE=>[.ptr 0 0,.mth 315 [.ptr 0 0],.str ⟨#[111,114]⟩,.i 1]) (fun i=>hR i.p) Yl (fun i=>vW i.l) fun i=>hR ⟨i.p.L,i.p.k+4 * i.l.length - 1,i.p.sz⟩
theorem Y6 (P:bG) (F:TkF P) (m:cL P 315) (ho:bH P 315 akA):bL P apU adV:=by
 intro args H K hc;obtain⟨⟨⟨L,k,sz⟩,l⟩,rfl,rfl,hp,hK⟩:=hc;refine⟨cW,?_⟩;dsimp only at hp hK⊢;have hp0:=hp;obtain⟨hp1,⟨htn,hta,hte⟩,hm,hr⟩:=hp
 try dsimp only at hp1 htn hta hte hm hr
 have hLl:=hp1.l;dsimp only at hLl;obtain⟨e,he⟩:∃e,e=k+4 * l.length - 1:=⟨_,rfl⟩
 rw[←he]at hK hte;obtain⟨⟨a0,h0⟩,_⟩:=hte.z;have hpe:HC ⟨L,e,sz⟩:=⟨hp1.l,Nat.le_of_lt (aA.1 h0).1⟩
 have s1:WL (wB [⟨#[111,114]⟩]) L e=false:=(FL h0).trans rfl;unfold hR at hK⊢;dsimp only at hK⊢;unfold vW at hK;cbv;repeat'((first|refine And.intro ?_ ?_|fail)<;>cbv)
 ·exact m
 (refine jR ho (⟨⟨L,k,sz⟩,l⟩:XE) [0] hp0 ?_;try dsimp only)
 rw[←he];unfold hR vW;cbv;refine bZ [0,2] (fun q:Unit=>[(0,.ptr 0 0),(9,.hd 2)]) (fun q=>[.blk 172 [.sl 3 (bK LQ L),.i (nI e),.i sz,.i 0,.i 0],.blk 100 [.i 0,.i 0,.str ⟨#[]⟩,.str ⟨#[]⟩,.i 0,.v (.slice none 0 0)],.row 100 6 [.agg [.i 0,.i 0,.str ⟨#[]⟩,.str ⟨#[]⟩,.i 0,.sl 6 (bK jW l)]]]) (fun q=>iH 1 0) () ?_;rintro ⟨⟩;cbv;refine bT 3 rfl ?_;cbv
 (refine hP F.mw ([⟨#[111,114]⟩]:List bF) trivial ?_;try dsimp only)
 cbv
 (refine jR F.sw (⟨⟨L,e,sz⟩,[⟨#[111,114]⟩]⟩:SeW) [0] ⟨hpe,(by decide:(1:Nat)≤64)⟩ ?_;try dsimp only)
 rw[s1];unfold hR;cbv;repeat'((first|refine .y fun h=>?_|refine .k fun z hz=>?_|refine kR.i0 ?_|refine yP.i0 ?_|fail)<;>cbv)
 (refine .q9 ?_;cbv;exact .inl (.f9 hK))
def afE:cQ:=spec (fun _:XE=>[.ptr 0 0]) (fun i=>hR i.p) Yl (fun i=>vW i.l) fun i=>hR ⟨i.p.L,i.p.k+4 * i.l.length - 1,i.p.sz⟩
theorem YP (P:bG) (hr:bH P 314 adV):bL P auA afE:=by
 intro args H K hc;obtain⟨⟨⟨L,k,sz⟩,l⟩,rfl,rfl,hp,hK⟩:=hc;refine⟨cW,?_⟩;dsimp only at hp hK⊢;unfold hR at hK⊢;dsimp only at hK⊢;obtain⟨e,he⟩:∃e,e=k+4 * l.length - 1:=⟨_,rfl⟩
 rw[←he]at hK;cbv
 (refine jR hr (⟨⟨L,k,sz⟩,l⟩:XE) [0] hp ?_;try dsimp only)
 rw[←he];unfold hR;cbv
 (refine .q9 ?_;cbv;exact .inl (.f9 hK))
def agA:cQ:=WG (fun n:Nd=>[jW n]) (fun _=>True) fun _=>false
def amS:cQ:=spec (fun _:Unit=>[.v (.slice none 0 0),.clo 289 []]) (fun _=>[]) (fun _=>True) (fun _=>.i (-1)) fun _=>[]
theorem acI (P:bG):bL P QO amS:=by
 intro args H K hc;obtain⟨u,rfl,rfl,hp,hK⟩:=hc;refine⟨cW,?_⟩;dsimp only at hp hK⊢;cbv;refine bZ [] (fun q:Unit=>[(8,.i 0)]) (fun q=>[]) (fun q=>iH 1 0) () ?_;rintro ⟨⟩;cbv;repeat'((first|refine .n fun h=>?_|fail)<;>cbv)
 all_goals(refine .q9 ?_;cbv;exact .inl (.f9 hK))
def alA:cQ:=spec (fun _:Unit=>[.v (.slice none 0 0),.clo 289 []]) (fun _=>[]) (fun _=>True) (fun _=>.bl false) fun _=>[]
theorem abU (P:bG) (hf:bH P 267 amS):bL P R6 alA:=by
 intro args H K hc;obtain⟨u,rfl,rfl,hp,hK⟩:=hc;refine⟨cW,?_⟩;dsimp only at hp hK⊢;cbv
 (refine hP hf () trivial ?_;try dsimp only)
 cbv;repeat'((first|refine .n fun h=>?_|fail)<;>cbv)
 (refine .q9 ?_;cbv;exact .inl (.f9 hK))
theorem YM (P:bG) (hf:bH P 198 alA):bL P apS agA:=by
 intro args H K hc;obtain⟨⟨kind,field,text,num⟩,rfl,rfl,hp,hK⟩:=hc;refine⟨cW,?_⟩;dsimp only at hp hK⊢;cbv;repeat'((first|refine .n fun h=>?_|fail)<;>cbv)
 (refine hP hf () trivial ?_;try dsimp only)
 cbv
 (refine .q9 ?_;cbv;exact .inl (.f9 hK))
def aoN:cQ:=spec (fun l:List Nd=>[.sl 6 (bK jW l),.clo 289 []]) (fun _=>[]) (fun l=>l.length≤64) (fun _=>.i (-1)) fun _=>[]
theorem abW (P:bG) (m:cL P 289) (hf:bH P 289 agA):bL P QO aoN:=by
 intro args H K hc;obtain⟨l,rfl,rfl,hp,hK⟩:=hc;refine⟨cW,?_⟩;dsimp only at hp hK⊢;have hml:=bN jW l;cbv;repeat'((first|refine .k fun z hz=>?_|fail)<;>cbv)
 refine bZ [] (fun q:{ k:Nat // k≤l.length }=>[(8,.i (nI q.1))]) (fun _=>[]) (fun q=>iH 65 q.1) ⟨0,aI _⟩ ?_;rintro ⟨k,hk⟩
 try dsimp only at hk⊢
 rcases aL k l.length with hks|hks
 ·obtain⟨⟨kind,field,text,num⟩,hx⟩:=cY hks;cbv;repeat'((first|refine .e ?_|refine .y fun h=>?_|refine And.intro ?_ ?_|fail)<;>cbv)
  ·exact m
  (refine hP hf (⟨kind,field,text,num⟩:Nd) trivial ?_;try dsimp only)
  cbv;repeat'((first|refine .k fun z hz=>?_|fail)<;>cbv)
  obtain rfl:z=nI (k+1):=bR;exact bP ⟨k+1,by exact bR⟩ (bQ bR)
 ·cbv;repeat'((first|refine .n fun h=>?_|fail)<;>cbv)
  (refine .q9 ?_;cbv;exact .inl (.f9 hK))
def ajV:cQ:=WG (fun l:List Nd=>[.sl 6 (bK jW l),.clo 289 []]) (fun l=>l.length≤64) fun _=>false
theorem Z4 (P:bG) (hf:bH P 267 aoN):bL P R6 ajV:=by
 intro args H K hc;obtain⟨l,rfl,rfl,hp,hK⟩:=hc;refine⟨cW,?_⟩;dsimp only at hp hK⊢;cbv
 (refine hP hf l hp ?_;try dsimp only)
 cbv;repeat'((first|refine .n fun h=>?_|fail)<;>cbv)
 (refine .q9 ?_;cbv;exact .inl (.f9 hK))
def aeJ:cQ:=WG (fun l:List Nd=>[vW l]) (fun l=>l.length≤64) fun _=>false
theorem Y5 (P:bG) (hf:bH P 198 ajV):bL P apS aeJ:=by
 intro args H K hc;obtain⟨l,rfl,rfl,hp,hK⟩:=hc;refine⟨cW,?_⟩;dsimp only at hp hK⊢;have hml:=bN jW l;cbv;repeat'((first|refine .n fun h=>?_|refine .k fun z hz=>?_|fail)<;>cbv)
 (refine hP hf l hp ?_;try dsimp only)
 cbv
 (refine .q9 ?_;cbv;exact .inl (.f9 hK))
structure WhI where
 i:XE
structure arX (x:WhI):Prop where
 o:Yl x.i
 n:GZ x.i.l
def ajN:cQ:=spec (fun _:WhI=>[.ptr 0 0]) (fun x=>hR x.i.p) arX (fun x=>vW x.i.l) fun x=>hR ⟨x.i.p.L,x.i.p.k+4 * x.i.l.length - 1,x.i.p.sz⟩
theorem abM (P:bG) (hpl:bH P 161 PlX) (hr:bH P 288 afE) (hw:bH P 225 aiE) (hc:bH P 289 aeJ):bL P auJ ajN:=by
 intro args H K hc;obtain⟨⟨⟨⟨L,k,sz⟩,l⟩⟩,rfl,rfl,hp,hK⟩:=hc;refine⟨cW,?_⟩;dsimp only at hp hK⊢;obtain⟨hp1,hn⟩:=hp;have hps:=hp1.p
 try dsimp only at hps hn
 have hl64:=hn.mx;obtain⟨e,he⟩:∃e,e=k+4 * l.length - 1:=⟨_,rfl⟩
 rw[←he]at hK;unfold hR at hK⊢;dsimp only at hK⊢;unfold vW at hK;cbv;refine bI hpl (⟨L,k,sz⟩:Pa) [0] hps rfl rfl (by decide) rfl rfl rfl rfl rfl fun z0 _=>?_
 unfold hR;cbv
 (refine jR hr (⟨⟨L,k,sz⟩,l⟩:XE) [0] hp1 ?_;try dsimp only)
 rw[←he];unfold hR vW;cbv;repeat'((first|refine .y fun h=>?_|fail)<;>cbv)
 (refine hP hw l hn ?_;try dsimp only)
 cbv
 (refine hP hc l hl64 ?_;try dsimp only)
 cbv
 (refine .q9 ?_;cbv;exact .inl (.f9 hK))
theorem adE {α:Type}{p:α→Bool}{l:List α}(h:lJ p l l.length):l.any p=false:=by
 rw[List.any_eq_false];intro x hx;obtain⟨i,hi,rfl⟩:=List.getElem_of_mem hx;rw[h i _ hi (aB hi)];decide
theorem ZO {α:Type}{p:α→Bool}{l:List α}{k:Nat}{x:α}(hx:l[k]?=some x) (h:p x=true):l.any p=true:=by
 rw[List.any_eq_true];exact⟨x,aC hx,h⟩
def nNm (s:bF):Bool:=!WM s
def acH (z:Int):Bool:=!CW (z,0,1048576)
def cmB (c:Cr):Bool:=!([c.number,c.applicant,c.beneficiary,c.issuer,c.frm,c.to].any nNm) && (W2 c.cur && (decide (1≤c.amt∧c.amt≤1099511627776) && (!([c.latest,c.expiry,21,c.tenor].any acH) && !c.needs.any Ya)))
structure asZ (P:bG):Prop where
 nm:bH P 141 Zw
 cd:bH P 142 adD
 bt:bH P 143 Mc
 cf:bH P 144 afI
def YS:cQ:=WG (fun c:Cr=>[vS c]) Iq cmB
theorem Xc (P:bG) (F:asZ P):bL P Vo YS:=by
 intro args H K hc;obtain⟨⟨number,applicant,beneficiary,issuer,confirmer,frm,to,cur,amt,above,below,latest,expiry,within,tenor,partial_,change,needs⟩,rfl,rfl,hp,hK⟩:=hc;refine⟨cW,?_⟩;dsimp only at hp hK⊢;obtain⟨hnu,hap,hbe,his,hcf,hfr,hto,hcu,hamt,hab,hbw,hla,hex,hwi,hte,hm,hn⟩:=hp
 try dsimp only at hnu hap hbe his hcf hfr hto hcu hamt hab hbw hla hex hwi hte hm hn hK
 subst hcf hab hbw hwi;obtain⟨g,hg⟩:∃g,g=cmB ⟨number,applicant,beneficiary,issuer,⟨#[]⟩,frm,to,cur,amt,0,0,latest,expiry,21,tenor,partial_,change,needs⟩:=⟨_,rfl⟩
 rw[←hg]at hK;unfold cmB at hg;dsimp only at hg;obtain⟨a1,ha1⟩:∃b,b=[number,applicant,beneficiary,issuer,frm,to].any nNm:=⟨_,rfl⟩
 obtain⟨a2,ha2⟩:∃b,b=W2 cur:=⟨_,rfl⟩
 obtain⟨a4,ha4⟩:∃b,b=[latest,expiry,21,tenor].any acH:=⟨_,rfl⟩
 obtain⟨a5,ha5⟩:∃b,b=needs.any Ya:=⟨_,rfl⟩
 rw[←ha1,←ha2,←ha4,←ha5]at hg;have hmn:=bN iQ needs;have hnsz:∀s∈[number,applicant,beneficiary,issuer,frm,to],s.size≤1048576:=fun s hs=>by
  simp only[List.mem_cons,List.not_mem_nil,or_false]at hs;rcases hs with rfl|rfl|rfl|rfl|rfl|rfl
  ·exact hnu
  ·exact hap
  ·exact hbe
  ·exact his
  ·exact hfr
  ·exact hto
 cbv;repeat'((first|refine .k fun z hz=>?_|fail)<;>cbv)
 refine iD (Gh.plain 1 rfl) ?_;cbv;refine bZ [] (fun q:{ k:Nat // k≤6∧lJ nNm [number,applicant,beneficiary,issuer,frm,to] k }=>[(21,.i (nI q.1))]) (fun q=>[.blk 33 [.str number,.str applicant,.str beneficiary,.str issuer,.str ⟨#[]⟩,.str frm,.str to,.str cur,.i amt,.i 0,.i 0,.i latest,.i expiry,.i 21,.i tenor,.bl partial_,.bl change,.sl 8 (bK iQ needs)]]) (fun q=>iH 7 q.1) ⟨0,aI _,.zero⟩ ?_;rintro ⟨k,hk,hkn⟩
 try dsimp only at hk hkn⊢
 cbv;repeat'((first|refine .mk (fun h=>?_) fun h=>?_|fail)<;>cbv)
 ·refine cZ (f:=fun s=>AV.str s) (L:=[number,applicant,beneficiary,issuer,frm,to]) bR (by(try simp only[List.length_cons,List.length_nil]);((try simp only[vn]at *)<;>omega)) fun j s hj hx=>?_
  obtain rfl:k=j:=bR;have hsz:=hnsz s (aC hx);have hs:=hkn.succ hx;have hy:nNm s=true→a1=true:=fun h=>by rw[ha1];exact ZO hx h
  clear hx;unfold nNm at hs hy;obtain⟨b,hb⟩:∃b,b=WM s:=⟨_,rfl⟩
  rw[←hb]at hs hy;cbv
  (refine hP F.nm s (show s.size≤1099511627776 by omega) ?_;try dsimp only)
  rw[←hb];cases b
  ·obtain rfl:=hy rfl;cbv;exact nF.mk ⟨_,Gh.refl _,.inl (.v9 (mT hK (by(rw[hg];rfl))))⟩
  ·cbv;repeat'((first|refine .k fun z hz=>?_|fail)<;>cbv)
   obtain rfl:z=nI (k+1):=bR;exact bP ⟨k+1,by exact bR,hs rfl⟩ (bQ bR)
 have hk6:k=6:=bR;subst hk6;obtain rfl:a1=false:=by rw[ha1];exact adE hkn
 clear ha1 hkn;rw[Bool.not_false,Bool.true_and]at hg;cbv
 rotate_left 1
 ·exact absurd rfl ‹¬_›
 (refine hP F.cd cur (show cur.size≤1099511627776 by omega) ?_;try dsimp only)
 rw[←ha2];cases a2
 ·cbv;exact nF.mk ⟨_,Gh.refl _,.inl (.v9 (mT hK (by(rw[hg];rfl))))⟩
 rw[Bool.true_and]at hg;cbv;repeat'((first|refine .mk (fun h=>?_) fun h=>?_|fail)<;>cbv)
 ·exact nF.mk ⟨_,Gh.refl _,.inl (.v9 (mT hK (by(rw[hg,aG (by omega)];rfl))))⟩
 ·exact nF.mk ⟨_,Gh.refl _,.inl (.v9 (mT hK (by(rw[hg,aG (by omega)];rfl))))⟩
 rw[aH (by omega),Bool.true_and]at hg
 (refine hP F.bt ((0,0,1000):Int×Int×Int) trivial ?_;try dsimp only)
 rw[show CW (0,0,1000)=true from rfl];cbv
 (refine hP F.bt ((0,0,1000):Int×Int×Int) trivial ?_;try dsimp only)
 rw[show CW (0,0,1000)=true from rfl];cbv;repeat'((first|refine .k fun z hz=>?_|fail)<;>cbv)
 refine iD (Gh.plain 1 rfl) ?_;cbv;refine bZ [] (fun q:{ k:Nat // k≤4∧lJ acH [latest,expiry,21,tenor] k }=>[(75,.i (nI q.1))]) (fun q=>[.blk 33 [.str number,.str applicant,.str beneficiary,.str issuer,.str ⟨#[]⟩,.str frm,.str to,.str cur,.i amt,.i 0,.i 0,.i latest,.i expiry,.i 21,.i tenor,.bl partial_,.bl change,.sl 8 (bK iQ needs)]]) (fun q=>iH 5 q.1) ⟨0,aI _,.zero⟩ ?_;rintro ⟨k2,hk2,hin⟩
 try dsimp only at hk2 hin⊢
 cbv;repeat'((first|refine .y fun h=>?_|refine .mk (fun h=>?_) fun h=>?_|refine .k fun z hz=>?_|fail)<;>cbv)
 ·refine cZ (f:=fun s=>AV.i s) (L:=[latest,expiry,21,tenor]) bR (by(try simp only[List.length_cons,List.length_nil]);((try simp only[vn]at *)<;>omega)) fun j s hj hx=>?_
  obtain rfl:k2=j:=bR;cbv;have hs:=hin.succ hx;have hy:acH s=true→a4=true:=fun h=>by rw[ha4];exact ZO hx h
  clear hx;unfold acH at hs hy;obtain⟨b,hb⟩:∃b,b=CW (s,0,1048576):=⟨_,rfl⟩
  rw[←hb]at hs hy
  (refine hP F.bt ((s,0,1048576):Int×Int×Int) trivial ?_;try dsimp only)
  rw[←hb];cases b
  ·obtain rfl:=hy rfl;cbv;exact nF.mk ⟨_,Gh.refl _,.inl (.v9 (mT hK (by(rw[hg];rfl))))⟩
  ·cbv;repeat'((first|refine .k fun z hz=>?_|fail)<;>cbv)
   obtain rfl:z=nI (k2+1):=bR;exact bP ⟨k2+1,by exact bR,hs rfl⟩ (bQ bR)
 have hk4:k2=4:=bR;subst hk4;obtain rfl:a4=false:=by rw[ha4];exact adE hin
 clear hin;rw[Bool.not_false,Bool.true_and]at hg;subst hg;cbv
 (refine hP F.cf needs ⟨hn,hm⟩ ?_;try dsimp only)
 rw[←ha5];cases a5
 all_goals
  cbv
  (refine .q9 ?_;cbv;exact .inl (.f9 hK))
structure XZ (n:Nat) (t:bF) (k:OX):Prop where
 x:k.xs=eQ k.o
 z:k.o.size≠0
 l:k.o.size≤n
 e:k.o=t
def Wy:Nd→bF
 |⟨kind,field,text,num⟩=>if kind=3 then field++⟨#[32,61,32,34]⟩++text++⟨#[34]⟩ else if kind=5 then field++⟨#[32,60,61,32]⟩++cT num else field++⟨#[32,62,61,32]⟩++cT num
def adT:bF:=⟨#[32,97,110,100,32]⟩
def akU (o:bF) (l:List Nd):bF:=l.foldl (fun o n=>o++adT++Wy n) o
def Yp:List Nd→bF
 |[]=>⟨#[]⟩
 |n :: l=>akU (Wy n) l
theorem abP {l:List Nd}{k:Nat}{n:Nd}(h:l[k]?=some n):Yp (l.take (k+1))=if k=0 then Wy n else Yp (l.take k)++adT++Wy n:=by
 obtain _|⟨m,l⟩:=l
 ·simp at h
 cases k with
 |zero=>
  rw[aF rfl];obtain rfl:m=n:=by simpa using h
  rw[List.take_succ_cons,List.take_zero];rfl
 |succ k=>
  rw[aE (by omega),List.take_succ_cons,List.take_succ_cons];unfold Yp akU;dsimp only;rw[cE (show l[k]?=some n by simpa using h),List.foldl_append];rfl
def Yf (l:List Nd):bF:=if l.any Xp=true then ⟨#[]⟩ else Yp l
def ahA:cQ:=dJ (fun n:Nd=>[.ptr 0 0,jW n]) (fun _=>CH) Bs (fun n k=>XZ 4194304 (Wy n) k) (fun _ _=>.tup []) fun _ k=>iW k.xs
def agX:cQ:=dJ (fun i:Nd×OX=>[.ptr 0 0,jW i.1]) (fun i=>iW i.2.xs) (fun i=>Bs i.1∧PF i.2) (fun i k=>XZ (i.2.o.size+4194304) (i.2.o++Wy i.1) k) (fun _ _=>.tup []) fun _ k=>iW k.xs
theorem XY (P:bG) (hf:bH P 99 H9) (hw:bH P 56 KJ):bL P Qt ahA:=by
 intro args H K hcc;obtain⟨⟨kind,field,text,num⟩,rfl,rfl,⟨hk,hfs,hts,hi⟩,hK⟩:=hcc;refine⟨cW,?_⟩;unfold dG at hk
 try dsimp only at hk hfs hts hi hK
 obtain⟨s1,s2,s3,s4⟩:=Od;have hz:=eF num hi;obtain⟨w,hw1⟩:∃w,w=cT num:=⟨_,rfl⟩
 rw[←hw1]at hz;rcases hk with h1|h1|h1<;>subst h1
 ·cbv;repeat'((first|refine .n fun h=>?_|refine .y fun h=>?_|refine .u fun u hu hul=>?_|fail)<;>cbv)
  refine bI hw u [0,1] ⟨by omega,by omega⟩ rfl rfl (by decide) rfl rfl rfl rfl rfl fun ys hys=>?_
  have hK:=hK ⟨u,ys⟩ ⟨hys,by(try dsimp only);omega,by(try dsimp only);omega,by(try dsimp only);subst_vars;rfl⟩;cbv
  (refine .q9 ?_;cbv;exact .inl (.f9 hK))
 all_goals
  cbv;repeat'((first|refine .n fun h=>?_|refine .y fun h=>?_|refine .u fun u hu hul=>?_|fail)<;>cbv)
  (refine hP hf num hi ?_;try dsimp only)
  rw[←hw1];cbv;repeat'((first|refine .u fun u hu hul=>?_|fail)<;>cbv)
  refine bI hw u [0,1] ⟨by omega,by omega⟩ rfl rfl (by decide) rfl rfl rfl rfl rfl fun ys hys=>?_
  have hK:=hK ⟨u,ys⟩ ⟨hys,by(try dsimp only);omega,by(try dsimp only);omega,by(try dsimp only);subst_vars;rfl⟩;cbv
  (refine .q9 ?_;cbv;exact .inl (.f9 hK))
theorem XT (P:bG) (hf:bH P 99 H9) (hw:bH P 56 Px):bL P Qt agX:=by
 intro args H K hcc;obtain⟨⟨⟨kind,field,text,num⟩,⟨o,xs⟩⟩,rfl,rfl,⟨⟨hk,hfs,hts,hi⟩,⟨hx,ho,hl⟩⟩,hK⟩:=hcc;refine⟨cW,?_⟩;unfold dG at hk
 try dsimp only at hk hfs hts hi hx ho hl hK
 obtain⟨s1,s2,s3,s4⟩:=Od;have hz:=eF num hi;obtain⟨w,hw1⟩:∃w,w=cT num:=⟨_,rfl⟩
 rw[←hw1]at hz;rcases hk with h1|h1|h1<;>subst h1
 ·cbv;repeat'((first|refine .n fun h=>?_|refine .y fun h=>?_|refine .u fun u hu hul=>?_|fail)<;>cbv)
  refine bI hw (⟨o,xs,u⟩:BI) [0,1] ⟨hx,ho,by(try dsimp only);omega,by(try dsimp only);omega⟩ rfl rfl (by decide) rfl rfl rfl rfl rfl fun ys hys=>?_
  obtain⟨o2,ho2⟩:∃o2,o2=o++u:=⟨_,rfl⟩
  have hz2:o2.size=o.size+u.size:=by rw[ho2];exact ByteArray.size_append
  have hK:=hK ⟨o2,ys⟩ ⟨by rw[ho2];exact hys,by(try dsimp only);omega,by(try dsimp only);omega,by(try dsimp only);subst_vars;rfl⟩;cbv
  (refine .q9 ?_;cbv;exact .inl (.f9 hK))
 all_goals
  cbv;repeat'((first|refine .n fun h=>?_|refine .y fun h=>?_|refine .u fun u hu hul=>?_|fail)<;>cbv)
  (refine hP hf num hi ?_;try dsimp only)
  rw[←hw1];cbv;repeat'((first|refine .u fun u hu hul=>?_|fail)<;>cbv)
  refine bI hw (⟨o,xs,u⟩:BI) [0,1] ⟨hx,ho,by(try dsimp only);omega,by(try dsimp only);omega⟩ rfl rfl (by decide) rfl rfl rfl rfl rfl fun ys hys=>?_
  obtain⟨o2,ho2⟩:∃o2,o2=o++u:=⟨_,rfl⟩
  have hz2:o2.size=o.size+u.size:=by rw[ho2];exact ByteArray.size_append
  have hK:=hK ⟨o2,ys⟩ ⟨by rw[ho2];exact hys,by(try dsimp only);omega,by(try dsimp only);omega,by(try dsimp only);subst_vars;rfl⟩;cbv
  (refine .q9 ?_;cbv;exact .inl (.f9 hK))
def adO:cQ:=dJ (fun n:Nd=>[.ptr 0 0,.i 0,jW n]) (fun _=>CH) Bs (fun n k=>XZ 4194304 (Wy n) k) (fun _ _=>.tup []) fun _ k=>iW k.xs
def agN:cQ:=dJ (fun i:Nd×OX=>[.ptr 0 0,.i 0,jW i.1]) (fun i=>iW i.2.xs) (fun i=>Bs i.1∧PF i.2) (fun i k=>XZ (i.2.o.size+4194304) (i.2.o++Wy i.1) k) (fun _ _=>.tup []) fun _ k=>iW k.xs
theorem Zc (P:bG) (hs:bH P 112 ahA):bL P RW adO:=by
 intro args H K hcc;obtain⟨⟨kind,field,text,num⟩,rfl,rfl,hp,hK⟩:=hcc;refine⟨cW,?_⟩;have hk:=hp.p;unfold dG at hk
 try dsimp only at hk hK
 rcases hk with h1|h1|h1<;>subst h1
 all_goals
  cbv;repeat'((first|refine .n fun h=>?_|fail)<;>cbv)
  first
   |refine bI hs (⟨3,field,text,num⟩:Nd) [0,1] hp rfl rfl (by decide) rfl rfl rfl rfl rfl fun k hk=>?_
   |refine bI hs (⟨5,field,text,num⟩:Nd) [0,1] hp rfl rfl (by decide) rfl rfl rfl rfl rfl fun k hk=>?_
   |refine bI hs (⟨6,field,text,num⟩:Nd) [0,1] hp rfl rfl (by decide) rfl rfl rfl rfl rfl fun k hk=>?_
   |fail
  have hK:=hK k hk;obtain⟨o,xs⟩:=k;cbv
  (refine .q9 ?_;cbv;exact .inl (.f9 hK))
theorem Zk (P:bG) (hs:bH P 112 agX):bL P RW agN:=by
 intro args H K hcc;obtain⟨⟨⟨kind,field,text,num⟩,⟨o,xs⟩⟩,rfl,rfl,hp,hK⟩:=hcc;refine⟨cW,?_⟩;have hk:=hp.1.p;unfold dG at hk
 try dsimp only at hk hK
 rcases hk with h1|h1|h1<;>subst h1
 all_goals
  cbv;repeat'((first|refine .n fun h=>?_|fail)<;>cbv)
  first
   |refine bI hs ((⟨3,field,text,num⟩,⟨o,xs⟩):Nd×OX) [0,1] hp rfl rfl (by decide) rfl rfl rfl rfl rfl fun k hk=>?_
   |refine bI hs ((⟨5,field,text,num⟩,⟨o,xs⟩):Nd×OX) [0,1] hp rfl rfl (by decide) rfl rfl rfl rfl rfl fun k hk=>?_
   |refine bI hs ((⟨6,field,text,num⟩,⟨o,xs⟩):Nd×OX) [0,1] hp rfl rfl (by decide) rfl rfl rfl rfl rfl fun k hk=>?_
   |fail
  have hK:=hK k hk;obtain⟨o,xs⟩:=k;cbv
  (refine .q9 ?_;cbv;exact .inl (.f9 hK))
def RwX:cQ:=dJ (fun l:List Nd=>[.ptr 0 0,vW l,.str ⟨#[32,97,110,100,32]⟩]) (fun _=>CH) GZ (fun l k=>XZ 1073741824 (Yp l) k) (fun _ _=>.tup []) fun _ k=>iW k.xs
inductive amT (l:List Nd):Nat→AV→bF→List AV→Prop where
 |e:amT l 0 (.v (.pointer none)) ⟨#[]⟩ []
 |t {k:Nat}{o:bF}{xs:List AV}(h:XZ (k * 8388608) (Yp (l.take k)) ⟨o,xs⟩) (hk:k≠0):amT l k (.ptr 0 0) o xs
structure atA (l:List Nd) where
 k:Nat
 sl:AV
 o:bF
 xs:List AV
 hk:k≤l.length
 h:amT l k sl o xs
theorem ZP (P:bG) (hw:bH P 56 Px) (he:bH P 203 adO) (ht:bH P 203 agN):bL P Sk RwX:=by
 intro args H K hcc;obtain⟨l,rfl,rfl,⟨hn,hl,hl2⟩,hK⟩:=hcc;refine⟨cW,?_⟩
 try dsimp only at hn hl hl2 hK
 have hml:=bN jW l;have h5:(ByteArray.mk #[32,97,110,100,32]).size=5:=rfl;cbv;repeat'((first|refine .k fun z hz=>?_|fail)<;>cbv)
 refine bZ [0,1] (fun q:atA l=>[(0,.ptr 0 0),(11,.i (nI q.k))]) (fun q=>[.blk 133 [q.sl,.hd 1],.row 5 1 q.xs,.blk 100 [.i 0,.i 0,.str ⟨#[]⟩,.str ⟨#[]⟩,.i 0,.sl 6 (bK jW l)]]) (fun q=>iH 65 q.k) ⟨0,.v (.pointer none),⟨#[]⟩,[],aI _,.e⟩ ?_;rintro ⟨k,sl,o,xs,hk,h⟩
 try dsimp only at hk h⊢
 rcases aL k l.length with hks|hks
 ·obtain⟨x,hx⟩:=cY hks;have hxs:=hn x (aC hx);have hrow:=abP hx;obtain⟨kind,field,text,num⟩:=x;cases h with
  |e=>
   cbv;repeat'((first|refine .e ?_|refine .n fun h=>?_|refine .y fun h=>?_|fail)<;>cbv)
   refine bI he (⟨kind,field,text,num⟩:Nd) [0,1] hxs rfl rfl (by decide) rfl rfl rfl rfl rfl fun k hk=>?_
   obtain⟨o,xs⟩:=k;cbv;repeat'((first|refine .k fun z hz=>?_|fail)<;>cbv)
   obtain rfl:z=nI (0+1):=bR;exact bP ⟨0+1,.ptr 0 0,o,xs,by exact bR,.t ⟨hk.x,hk.z,by have:=hk.l;dsimp only at this⊢;omega,by have:=hk.e;dsimp only at this⊢;rw[hrow,aF rfl];exact this⟩ (by decide)⟩ (bQ bR)
  |t hT hk0=>
   have hTl:=hT.l;have hTz:=hT.z;have hTx:=hT.x;have hTe:=hT.e;dsimp only at hTl hTz hTx hTe;cbv;repeat'((first|refine .e ?_|refine .y fun h=>?_|fail)<;>cbv)
   ·refine bI hw (⟨o,xs,⟨#[32,97,110,100,32]⟩⟩:BI) [0,1] ⟨hTx,hTz,(show (5:Nat)≠0 by decide),(show o.size+5≤140737488355328 by omega)⟩ rfl rfl (by decide) rfl rfl rfl rfl rfl fun ys hys=>?_
    obtain⟨o2,ho2⟩:∃o2,o2=o++⟨#[32,97,110,100,32]⟩:=⟨_,rfl⟩
    have hz2:o2.size=o.size+5:=by rw[ho2];exact ByteArray.size_append
    replace hys:ys=eQ o2:=by rw[ho2];exact hys
    cbv;refine bI ht ((⟨kind,field,text,num⟩,⟨o2,ys⟩):Nd×OX) [0,1] ⟨hxs,hys,by(try dsimp only);omega,by(try dsimp only);omega⟩ rfl rfl (by decide) rfl rfl rfl rfl rfl fun k2 hk2=>?_
    obtain⟨o3,xs3⟩:=k2;cbv;repeat'((first|refine .k fun z hz=>?_|fail)<;>cbv)
    obtain rfl:z=nI (k+1):=bR;exact bP ⟨k+1,.ptr 0 0,o3,xs3,by exact bR,.t ⟨hk2.x,hk2.z,by have:=hk2.l;dsimp only at this⊢;omega,by have:=hk2.e;dsimp only at this⊢;rw[hrow,aE hk0,this,ho2,hTe];rfl⟩ (by omega)⟩ (bQ bR)
 ·cases h with
  |e=>exfalso;omega
  |t hT hk0=>
   have hTl:=hT.l;have hTe:=hT.e;dsimp only at hTl hTe;have hK:=hK ⟨o,xs⟩ ⟨hT.x,hT.z,by(try dsimp only);omega,by(try dsimp only);rw[hTe,bB hks]⟩;cbv;repeat'((first|refine .n fun h=>?_|fail)<;>cbv)
   (refine .q9 ?_;cbv;exact .inl (.f9 hK))
def alP:cQ:=dJ (fun l:List Nd=>[.ptr 0 0,vW l]) (fun _=>CH) GZ (fun l k=>XZ 1073741824 (Yp l) k) (fun _ _=>.tup []) fun _ k=>iW k.xs
theorem Yc (P:bG) (hr:bH P 202 RwX):bL P Qt alP:=by
 intro args H K hcc;obtain⟨l,rfl,rfl,hp,hK⟩:=hcc;refine⟨cW,?_⟩
 try dsimp only at hK
 cbv;repeat'((first|refine .y fun h=>?_|fail)<;>cbv)
 refine bI hr l [0,1] hp rfl rfl (by decide) rfl rfl rfl rfl rfl fun k hk=>?_
 have hK:=hK k hk;obtain⟨o,xs⟩:=k;cbv
 (refine .q9 ?_;cbv;exact .inl (.f9 hK))
def adW:cQ:=dJ (fun l:List Nd=>[vW l]) (fun _=>[]) GZ (fun l (t:bF)=>t.size≤1073741824∧t=Yf l) (fun _ t=>.str t) fun _ _=>[]
theorem YL (P:bG) (hr:bH P 111 aiR) (hs:bH P 112 alP) (ht:bH P 62 Bn):bL P UL adW:=by
 intro args H K hcc;obtain⟨l,rfl,rfl,hp,hK⟩:=hcc;refine⟨cW,?_⟩
 try dsimp only at hK
 cbv;obtain⟨b,hb⟩:∃b,b=l.any Xp:=⟨_,rfl⟩
 (refine hP hr l hp ?_;try dsimp only)
 rw[←hb];cases b
 rotate_left 1
 ·have hK:=hK ⟨#[]⟩ ⟨aI _,(aF hb.symm).symm⟩;cbv
  (refine .q9 ?_;cbv;exact .inl (.f9 hK))
 ·cbv;refine pN 1 1 5 1 rfl rfl rfl ?_;cbv;refine bI hs l [1,2] hp rfl rfl (by decide) rfl rfl rfl rfl rfl fun k hk=>?_
  obtain⟨o,xs⟩:=k;have hx:=hk.x;have hl:=hk.l
  try dsimp only at hx hl
  have hK:=hK o ⟨by omega,by rw[show o=Yp l from hk.e];exact(aE (by rw[←hb];exact Bool.false_ne_true)).symm⟩;cbv
  (refine jR ht (⟨o,xs,⟨#[]⟩⟩:BI) [1,2] hx ?_;try dsimp only)
  cbv
  (refine .q9 ?_;cbv;exact .inl (.f9 hK))
def WE (ws:List bF):bF:=eS ws ⟨#[32]⟩++⟨#[59,10]⟩
def Zf (o:bF) (l:List (List bF)):bF:=l.foldl (fun o ws=>o++WE ws) o
def WN (k:Int):bF:=if k=0 then ⟨#[105,110,118,111,105,99,101]⟩ else if k=1 then ⟨#[112,97,99,107,105,110,103]⟩ else if k=2 then ⟨#[108,97,100,105,110,103]⟩ else if k=3 then ⟨#[105,110,115,117,114,97,110,99,101]⟩ else if k=4 then ⟨#[111,114,105,103,105,110]⟩ else ⟨#[100,114,97,102,116]⟩
def ZH (n:Ne):List bF:=[⟨#[119,97,110,116,115]⟩,WN n.kind,⟨#[99,111,112,105,101,115]⟩,cT 1,⟨#[119,105,116,104]⟩,Yf n.rules]
def Z2 (t:Int):List bF:=if t=0 then [⟨#[116,101,110,111,114]⟩,⟨#[115,105,103,104,116]⟩] else [⟨#[116,101,110,111,114]⟩,cT t,⟨#[100,97,121,115]⟩]
def aeF (c:Cr):List (List bF):=
 [[⟨#[97,112,112,108,105,99,97,110,116]⟩,c.applicant],[⟨#[98,101,110,101,102,105,99,105,97,114,121]⟩,c.beneficiary],[⟨#[105,115,115,117,101,114]⟩,c.issuer],[⟨#[102,114,111,109]⟩,c.frm],[⟨#[116,111]⟩,c.to],
  [⟨#[115,117,109]⟩,c.cur,cT c.amt,⟨#[97,98,111,118,101]⟩,cT 0,⟨#[98,101,108,111,119]⟩,cT 0],[⟨#[108,97,116,101,115,116]⟩,cT c.latest],[⟨#[101,120,112,105,114,121]⟩,cT c.expiry],[⟨#[119,105,116,104,105,110]⟩,cT 21,⟨#[100,97,121,115]⟩],
  Z2 c.tenor,[⟨#[112,97,114,116,105,97,108]⟩,yn c.partial_],[⟨#[99,104,97,110,103,101]⟩,yn c.change]]
def ajC (c:Cr):bF:=Zf (WE [⟨#[99,114,101,100,105,116]⟩,c.number]) (aeF c)
def wrP (c:Cr) (k:Nat):bF:=Zf (ajC c) ((c.needs.take k).map ZH)
def Xa (c:Cr):bF:=Zf (ajC c) (c.needs.map ZH)
theorem afK {c:Cr}{k:Nat}{n:Ne}(h:c.needs[k]?=some n):wrP c (k+1)=wrP c k++WE (ZH n):=by
 unfold wrP Zf;rw[cE h,List.map_append,List.foldl_append];rfl
theorem ahP {c:Cr}{k:Nat}(h:c.needs.length≤k):wrP c k=Xa c:=by
 unfold wrP Xa;rw[bB h]
def akO:cQ:=dJ (fun ws:List bF=>[.sl 1 (bK (fun s=>.str s) ws),.ptr 0 0]) (fun _=>CH) KW (fun ws k=>XZ 17179869210 (WE ws) k) (fun _ _=>.tup []) fun _ k=>iW k.xs
def anN:cQ:=dJ (fun i:List bF×OX=>[.sl 1 (bK (fun s=>.str s) i.1),.ptr 0 0]) (fun i=>iW i.2.xs) (fun i=>KW i.1∧PF i.2) (fun i k=>XZ (i.2.o.size+17179869210) (i.2.o++WE i.1) k) (fun _ _=>.tup []) fun _ k=>iW k.xs
theorem Yn (P:bG) (hj:bH P 110 xH) (hw:bH P 56 KJ):bL P R3 akO:=by
 intro args H K hcc;obtain⟨ws,rfl,rfl,hp,hK⟩:=hcc;refine⟨cW,?_⟩
 try dsimp only at hK
 have hjs:=hp.j;have hn:=hp.n;obtain⟨j,hj1⟩:∃j,j=eS ws ⟨#[32]⟩:=⟨_,rfl⟩
 rw[←hj1]at hjs;have h2:(ByteArray.mk #[59,10]).size=2:=rfl;cbv
 (refine hP hj ((ws,⟨#[32]⟩):List bF×bF) ⟨by(try dsimp only);rw[←hj1];omega,by(try dsimp only);omega⟩ ?_;try dsimp only)
 rw[←hj1];cbv;repeat'((first|refine .u fun u hu hul=>?_|fail)<;>cbv)
 refine bI hw u [0,1] ⟨by omega,by omega⟩ rfl rfl (by decide) rfl rfl rfl rfl rfl fun ys hys=>?_
 have hK:=hK ⟨u,ys⟩ ⟨hys,by(try dsimp only);omega,by(try dsimp only);omega,by(try dsimp only);subst_vars;rfl⟩;cbv
 (refine .q9 ?_;cbv;exact .inl (.f9 hK))
theorem Ye (P:bG) (hj:bH P 110 xH) (hw:bH P 56 Px):bL P R3 anN:=by
 intro args H K hcc;obtain⟨⟨ws,⟨o,xs⟩⟩,rfl,rfl,⟨hp,hx,ho,hl⟩,hK⟩:=hcc;refine⟨cW,?_⟩
 try dsimp only at hp hx ho hl hK
 have hjs:=hp.j;have hn:=hp.n;obtain⟨j,hj1⟩:∃j,j=eS ws ⟨#[32]⟩:=⟨_,rfl⟩
 rw[←hj1]at hjs;have h2:(ByteArray.mk #[59,10]).size=2:=rfl;cbv
 (refine hP hj ((ws,⟨#[32]⟩):List bF×bF) ⟨by(try dsimp only);rw[←hj1];omega,by(try dsimp only);omega⟩ ?_;try dsimp only)
 rw[←hj1];cbv;repeat'((first|refine .u fun u hu hul=>?_|fail)<;>cbv)
 refine bI hw (⟨o,xs,u⟩:BI) [0,1] ⟨hx,ho,(show u.size≠0 by omega),(show o.size+u.size≤140737488355328 by omega)⟩ rfl rfl (by decide) rfl rfl rfl rfl rfl fun ys hys=>?_
 obtain⟨o2,ho2⟩:∃o2,o2=o++u:=⟨_,rfl⟩
 have hz2:o2.size=o.size+u.size:=by rw[ho2];exact ByteArray.size_append
 have hK:=hK ⟨o2,ys⟩ ⟨by rw[ho2];exact hys,by(try dsimp only);omega,by(try dsimp only);omega,by(try dsimp only);subst_vars;rfl⟩;cbv
 (refine .q9 ?_;cbv;exact .inl (.f9 hK))
structure auX (P:bG):Prop where
 ml:cL P 147
 le:bH P 147 akO
 lt:bH P 147 anN
 fm:bH P 99 H9
 it:bH P 109 kP
 yn:bH P 148 T5
 al:bH P 149 O4
 sh:bH P 59 adW
 st:bH P 62 Bn
def akS:cQ:=dJ (fun c:Cr=>[vS c]) (fun _=>[]) Iq (fun c (t:bF)=>t.size≤1099511627776∧t=Xa c) (fun _ t=>.str t) fun _ _=>[]
structure asG (c:Cr) where
 k:Nat
 o:bF
 xs:List AV
 hk:k≤c.needs.length
 x:xs=eQ o
 z:o.size≠0
 l:o.size≤274877907360+k * 17179869210
 e:o=wrP c k
theorem YE (P:bG) (F:auX P):bL P Vl akS:=by
 intro args H K hcc;obtain⟨⟨number,applicant,beneficiary,issuer,confirmer,frm,to,cur,amt,above,below,latest,expiry,within,tenor,partial_,change,needs⟩,rfl,rfl,hp,hK⟩:=hcc;refine⟨cW,?_⟩;obtain⟨hnu,hap,hbe,his,hcf,hfr,hto,hcu,hamt,hab,hbw,hla,hex,hwi,hte,hm,hn⟩:=hp
 try dsimp only at hnu hap hbe his hcf hfr hto hcu hamt hab hbw hla hex hwi hte hm hn hK
 subst hcf hab hbw hwi;have hmn:=bN iQ needs;have zA:=eF amt hamt;have zL:=eF latest hla;have zE:=eF expiry hex;have zT:=eF tenor hte;have z0:=eF 0 ⟨by decide,by decide⟩;have z1:=eF 1 ⟨by decide,by decide⟩;have z21:=eF 21 ⟨by decide,by decide⟩;obtain⟨wA,hwA⟩:∃w,w=cT amt:=⟨_,rfl⟩
 obtain⟨wL,hwL⟩:∃w,w=cT latest:=⟨_,rfl⟩
 obtain⟨wE,hwE⟩:∃w,w=cT expiry:=⟨_,rfl⟩
 obtain⟨wT,hwT⟩:∃w,w=cT tenor:=⟨_,rfl⟩
 obtain⟨w0,hw0⟩:∃w,w=cT 0:=⟨_,rfl⟩
 obtain⟨w1,hw1⟩:∃w,w=cT 1:=⟨_,rfl⟩
 obtain⟨w21,hw21⟩:∃w,w=cT 21:=⟨_,rfl⟩
 obtain⟨wP,hwP⟩:∃w,w=yn partial_:=⟨_,rfl⟩
 obtain⟨wC,hwC⟩:∃w,w=yn change:=⟨_,rfl⟩
 have zP:wP.size≤3:=by rw[hwP];exact N8 partial_
 have zC:wC.size≤3:=by rw[hwC];exact N8 change
 rw[←hwA]at zA;rw[←hwL]at zL;rw[←hwE]at zE;rw[←hwT]at zT;rw[←hw0]at z0;rw[←hw1]at z1;rw[←hw21]at z21;cbv;repeat'((first|refine And.intro ?_ ?_|fail)<;>cbv)
 ·exact F.ml
 refine bT 2 rfl ?_;cbv;refine pN 1 1 5 1 rfl rfl rfl ?_;cbv;refine bI F.le ([⟨#[99,114,101,100,105,116]⟩,number]:List bF) [1,3] (kL (pK (by omega) wV)).ok rfl rfl (by decide) rfl rfl rfl rfl rfl fun⟨o1,xs1⟩ ho1=>?_
 try dsimp only
 have hl1:=ho1.l;dsimp only at hl1;cbv;repeat'((first|refine And.intro ?_ ?_|fail)<;>cbv)
 ·exact F.ml
 (refine bT 4 rfl ?_;cbv;refine bI F.lt (([⟨#[97,112,112,108,105,99,97,110,116]⟩,applicant],⟨o1,xs1⟩):List bF×OX) [1,3] ⟨(kL (pK (by omega) wV)).ok,⟨ho1.x,ho1.z,(show o1.size≤1099511627776 by omega)⟩⟩ rfl rfl (by decide) rfl rfl rfl rfl rfl fun⟨o2,xs2⟩ ho2=>?_;try dsimp only;have hl2:=ho2.l;dsimp only at hl2)
 cbv;repeat'((first|refine And.intro ?_ ?_|fail)<;>cbv)
 ·exact F.ml
 (refine bT 5 rfl ?_;cbv;refine bI F.lt (([⟨#[98,101,110,101,102,105,99,105,97,114,121]⟩,beneficiary],⟨o2,xs2⟩):List bF×OX) [1,3] ⟨(kL (pK (by omega) wV)).ok,⟨ho2.x,ho2.z,(show o2.size≤1099511627776 by omega)⟩⟩ rfl rfl (by decide) rfl rfl rfl rfl rfl fun⟨o3,xs3⟩ ho3=>?_;try dsimp only;have hl3:=ho3.l;dsimp only at hl3)
 cbv;repeat'((first|refine And.intro ?_ ?_|fail)<;>cbv)
 ·exact F.ml
 (refine bT 6 rfl ?_;cbv;refine bI F.lt (([⟨#[105,115,115,117,101,114]⟩,issuer],⟨o3,xs3⟩):List bF×OX) [1,3] ⟨(kL (pK (by omega) wV)).ok,⟨ho3.x,ho3.z,(show o3.size≤1099511627776 by omega)⟩⟩ rfl rfl (by decide) rfl rfl rfl rfl rfl fun⟨o4,xs4⟩ ho4=>?_;try dsimp only;have hl4:=ho4.l;dsimp only at hl4)
 cbv;repeat'((first|refine .mk (fun h=>?_) fun h=>?_|refine And.intro ?_ ?_|fail)<;>cbv)
 rotate_left 1
 rotate_left 1
 ·exact absurd rfl ‹¬_›
 ·exact absurd rfl ‹¬_›
 ·exact F.ml
 (refine bT 7 rfl ?_;cbv;refine bI F.lt (([⟨#[102,114,111,109]⟩,frm],⟨o4,xs4⟩):List bF×OX) [1,3] ⟨(kL (pK (by omega) wV)).ok,⟨ho4.x,ho4.z,(show o4.size≤1099511627776 by omega)⟩⟩ rfl rfl (by decide) rfl rfl rfl rfl rfl fun⟨o5,xs5⟩ ho5=>?_;try dsimp only;have hl5:=ho5.l;dsimp only at hl5)
 cbv;repeat'((first|refine And.intro ?_ ?_|fail)<;>cbv)
 ·exact F.ml
 (refine bT 8 rfl ?_;cbv;refine bI F.lt (([⟨#[116,111]⟩,to],⟨o5,xs5⟩):List bF×OX) [1,3] ⟨(kL (pK (by omega) wV)).ok,⟨ho5.x,ho5.z,(show o5.size≤1099511627776 by omega)⟩⟩ rfl rfl (by decide) rfl rfl rfl rfl rfl fun⟨o6,xs6⟩ ho6=>?_;try dsimp only;have hl6:=ho6.l;dsimp only at hl6)
 cbv
 (refine hP F.fm amt hamt ?_;try dsimp only)
 rw[←hwA];cbv
 (refine hP F.it 0 ⟨by decide,by decide⟩ ?_;try dsimp only)
 rw[←hw0];cbv
 (refine hP F.it 0 ⟨by decide,by decide⟩ ?_;try dsimp only)
 rw[←hw0];cbv;repeat'((first|refine And.intro ?_ ?_|fail)<;>cbv)
 ·exact F.ml
 (refine bT 9 rfl ?_;cbv;refine bI F.lt (([⟨#[115,117,109]⟩,cur,wA,⟨#[97,98,111,118,101]⟩,w0,⟨#[98,101,108,111,119]⟩,w0],⟨o6,xs6⟩):List bF×OX) [1,3] ⟨(kL (pK (by omega) (pK (by omega) (kL (pK (by omega) (kL (pK (by omega) wV))))))).ok,⟨ho6.x,ho6.z,(show o6.size≤1099511627776 by omega)⟩⟩ rfl rfl (by decide) rfl rfl rfl rfl rfl fun⟨o7,xs7⟩ ho7=>?_;try dsimp only;have hl7:=ho7.l;dsimp only at hl7)
 cbv
 (refine hP F.it latest hla ?_;try dsimp only)
 rw[←hwL];cbv;repeat'((first|refine And.intro ?_ ?_|fail)<;>cbv)
 ·exact F.ml
 (refine bT 10 rfl ?_;cbv;refine bI F.lt (([⟨#[108,97,116,101,115,116]⟩,wL],⟨o7,xs7⟩):List bF×OX) [1,3] ⟨(kL (pK (by omega) wV)).ok,⟨ho7.x,ho7.z,(show o7.size≤1099511627776 by omega)⟩⟩ rfl rfl (by decide) rfl rfl rfl rfl rfl fun⟨o8,xs8⟩ ho8=>?_;try dsimp only;have hl8:=ho8.l;dsimp only at hl8)
 cbv
 (refine hP F.it expiry hex ?_;try dsimp only)
 rw[←hwE];cbv;repeat'((first|refine And.intro ?_ ?_|fail)<;>cbv)
 ·exact F.ml
 (refine bT 11 rfl ?_;cbv;refine bI F.lt (([⟨#[101,120,112,105,114,121]⟩,wE],⟨o8,xs8⟩):List bF×OX) [1,3] ⟨(kL (pK (by omega) wV)).ok,⟨ho8.x,ho8.z,(show o8.size≤1099511627776 by omega)⟩⟩ rfl rfl (by decide) rfl rfl rfl rfl rfl fun⟨o9,xs9⟩ ho9=>?_;try dsimp only;have hl9:=ho9.l;dsimp only at hl9)
 cbv
 (refine hP F.it 21 ⟨by decide,by decide⟩ ?_;try dsimp only)
 rw[←hw21];cbv;repeat'((first|refine And.intro ?_ ?_|fail)<;>cbv)
 ·exact F.ml
 (refine bT 12 rfl ?_;cbv;refine bI F.lt (([⟨#[119,105,116,104,105,110]⟩,w21,⟨#[100,97,121,115]⟩],⟨o9,xs9⟩):List bF×OX) [1,3] ⟨(kL (pK (by omega) (kL wV))).ok,⟨ho9.x,ho9.z,(show o9.size≤1099511627776 by omega)⟩⟩ rfl rfl (by decide) rfl rfl rfl rfl rfl fun⟨o10,xs10⟩ ho10=>?_;try dsimp only;have hl10:=ho10.l;dsimp only at hl10)
 cbv;repeat'((first|refine .mk (fun h=>?_) fun h=>?_|refine And.intro ?_ ?_|fail)<;>cbv)
 ·exact F.ml
 rotate_left 1
 (refine hP F.it tenor hte ?_;try dsimp only)
 rw[←hwT];cbv;repeat'((first|refine And.intro ?_ ?_|fail)<;>cbv)
 ·exact F.ml
 (refine bT 13 rfl ?_;cbv;refine bI F.lt (([⟨#[116,101,110,111,114]⟩,wT,⟨#[100,97,121,115]⟩],⟨o10,xs10⟩):List bF×OX) [1,3] ⟨(kL (pK (by omega) (kL wV))).ok,⟨ho10.x,ho10.z,(show o10.size≤1099511627776 by omega)⟩⟩ rfl rfl (by decide) rfl rfl rfl rfl rfl fun⟨o11,xs11⟩ ho11=>?_;try dsimp only;have hl11:=ho11.l;dsimp only at hl11)
 cbv
 rotate_left 1
 (refine bT 13 rfl ?_;cbv;refine bI F.lt (([⟨#[116,101,110,111,114]⟩,⟨#[115,105,103,104,116]⟩],⟨o10,xs10⟩):List bF×OX) [1,3] ⟨(kL (kL wV)).ok,⟨ho10.x,ho10.z,(show o10.size≤1099511627776 by omega)⟩⟩ rfl rfl (by decide) rfl rfl rfl rfl rfl fun⟨o11,xs11⟩ ho11=>?_;try dsimp only;have hl11:=ho11.l;dsimp only at hl11)
 cbv
 all_goals
  (refine hP F.yn partial_ trivial ?_;try dsimp only)
  rw[←hwP];cbv;repeat'((first|refine And.intro ?_ ?_|fail)<;>cbv)
  ·exact F.ml
  (refine bT 14 rfl ?_;cbv;refine bI F.lt (([⟨#[112,97,114,116,105,97,108]⟩,wP],⟨o11,xs11⟩):List bF×OX) [1,3] ⟨(kL (pK (by omega) wV)).ok,⟨ho11.x,ho11.z,(show o11.size≤1099511627776 by omega)⟩⟩ rfl rfl (by decide) rfl rfl rfl rfl rfl fun⟨o12,xs12⟩ ho12=>?_;try dsimp only;have hl12:=ho12.l;dsimp only at hl12)
  cbv
  (refine hP F.yn change trivial ?_;try dsimp only)
  rw[←hwC];cbv;repeat'((first|refine And.intro ?_ ?_|fail)<;>cbv)
  ·exact F.ml
  (refine bT 15 rfl ?_;cbv;refine bI F.lt (([⟨#[99,104,97,110,103,101]⟩,wC],⟨o12,xs12⟩):List bF×OX) [1,3] ⟨(kL (pK (by omega) wV)).ok,⟨ho12.x,ho12.z,(show o12.size≤1099511627776 by omega)⟩⟩ rfl rfl (by decide) rfl rfl rfl rfl rfl fun⟨o13,xs13⟩ ho13=>?_;try dsimp only;have hl13:=ho13.l;dsimp only at hl13)
  cbv;repeat'((first|refine .k fun z hz=>?_|fail)<;>cbv)
 all_goals
  have hx13:=ho13.x;have hz13:=ho13.z;dsimp only at hx13 hz13;have hl14:o13.size≤274877907360:=by omega
  have hE:o13=wrP ⟨number,applicant,beneficiary,issuer,⟨#[]⟩,frm,to,cur,amt,0,0,latest,expiry,21,tenor,partial_,change,needs⟩ 0:=by
   have e1:=ho1.e;have e2:=ho2.e;have e3:=ho3.e;have e4:=ho4.e;have e5:=ho5.e;have e6:=ho6.e;have e7:=ho7.e;have e8:=ho8.e;have e9:=ho9.e;have e10:=ho10.e;have e11:=ho11.e;have e12:=ho12.e;have e13:=ho13.e;dsimp only at e1 e2 e3 e4 e5 e6 e7 e8 e9 e10 e11 e12 e13;have e11t:o11=o10++WE (Z2 tenor):=by
    first
     |exact e11.trans (congrArg (fun t=>o10++WE t) (show Z2 tenor=_ from aF (by assumption)).symm)
     |(rw[hwT]at e11;exact e11.trans (congrArg (fun t=>o10++WE t) (show Z2 tenor=_ from aE (by assumption)).symm))
   rw[e13,e12,e11t,e10,e9,e8,e7,e6,e5,e4,e3,e2,e1,hwA,hwL,hwE,hw0,hw21,hwP,hwC];rfl
  clear hl1 hl2 hl3 hl4 hl5 hl6 hl7 hl8 hl9 hl10 hl11 hl12 hl13 ho1 ho2 ho3 ho4 ho5 ho6 ho7 ho8 ho9 ho10 ho11 ho12 ho13;refine bZ [3] (fun q:asG ⟨number,applicant,beneficiary,issuer,⟨#[]⟩,frm,to,cur,amt,0,0,latest,expiry,21,tenor,partial_,change,needs⟩=>[(4,.clo 147 [.ptr 1 0]),(108,.i (nI q.k))]) (fun q=>[.blk 33 [.str number,.str applicant,.str beneficiary,.str issuer,.str ⟨#[]⟩,.str frm,.str to,.str cur,.i amt,.i 0,.i 0,.i latest,.i expiry,.i 21,.i tenor,.bl partial_,.bl change,.sl 8 (bK iQ needs)],.blk 133 [.ptr 1 0,.hd 3],.tip 9 1 [.str ⟨#[99,114,101,100,105,116]⟩,.str number],.row 5 1 q.xs]) (fun q=>iH 9 q.k) ⟨0,o13,xs13,aI _,hx13,hz13,by omega,hE⟩ ?_;rintro ⟨k,o,xs,hk,hx,hz,hl,hoe⟩
  try dsimp only at hk hx hz hl hoe⊢
  rcases aL k needs.length with hks|hks
  ·obtain⟨ne,hne⟩:=cY hks;have hns:=hn ne (aC hne);have hst:=afK (c:=⟨number,applicant,beneficiary,issuer,⟨#[]⟩,frm,to,cur,amt,0,0,latest,expiry,21,tenor,partial_,change,needs⟩) hne;obtain⟨kind,l⟩:=ne;obtain⟨hnk,hnr,hnl⟩:=hns
   try dsimp only at hnk hnr hnl
   have hL:GZ l:=⟨hnr,by omega,hnl.1⟩
   obtain rfl|rfl|rfl|rfl|rfl|rfl:kind=0∨kind=1∨kind=2∨kind=3∨kind=4∨kind=5:=by omega
   all_goals
    (cbv;repeat'((first|refine .e ?_|refine .n fun h=>?_|refine .y fun h=>?_|refine .o ?_|fail)<;>cbv))
    (refine hP F.it 1 ⟨by decide,by decide⟩ ?_;try dsimp only)
    rw[←hw1];cbv
    (refine hP F.al l hL ?_;try dsimp only)
    cbv;refine bI F.sh l [] hL rfl rfl (by decide) rfl rfl rfl rfl rfl fun t htt=>?_
    obtain⟨ht,hte⟩:=htt;cbv;repeat'((first|refine .zl fun zs hzs hzl=>?_|refine And.intro ?_ ?_|fail)<;>cbv)
    ·exact F.ml
    subst hzs;refine bT 5 rfl ?_;cbv
    first
     |refine bI F.lt (([⟨#[119,97,110,116,115]⟩,⟨#[105,110,118,111,105,99,101]⟩,⟨#[99,111,112,105,101,115]⟩,w1,⟨#[119,105,116,104]⟩,t],⟨o,xs⟩):List bF×OX) [1,3] ⟨(kL (kL (kL (pK (by omega) (kL (pK (by omega) wV)))))).ok,⟨hx,hz,(show o.size≤1099511627776 by omega)⟩⟩ rfl rfl (by decide) rfl rfl rfl rfl rfl fun⟨o2,xs2⟩ ho2=>?_
     |refine bI F.lt (([⟨#[119,97,110,116,115]⟩,⟨#[112,97,99,107,105,110,103]⟩,⟨#[99,111,112,105,101,115]⟩,w1,⟨#[119,105,116,104]⟩,t],⟨o,xs⟩):List bF×OX) [1,3] ⟨(kL (kL (kL (pK (by omega) (kL (pK (by omega) wV)))))).ok,⟨hx,hz,(show o.size≤1099511627776 by omega)⟩⟩ rfl rfl (by decide) rfl rfl rfl rfl rfl fun⟨o2,xs2⟩ ho2=>?_
     |refine bI F.lt (([⟨#[119,97,110,116,115]⟩,⟨#[108,97,100,105,110,103]⟩,⟨#[99,111,112,105,101,115]⟩,w1,⟨#[119,105,116,104]⟩,t],⟨o,xs⟩):List bF×OX) [1,3] ⟨(kL (kL (kL (pK (by omega) (kL (pK (by omega) wV)))))).ok,⟨hx,hz,(show o.size≤1099511627776 by omega)⟩⟩ rfl rfl (by decide) rfl rfl rfl rfl rfl fun⟨o2,xs2⟩ ho2=>?_
     |refine bI F.lt (([⟨#[119,97,110,116,115]⟩,⟨#[105,110,115,117,114,97,110,99,101]⟩,⟨#[99,111,112,105,101,115]⟩,w1,⟨#[119,105,116,104]⟩,t],⟨o,xs⟩):List bF×OX) [1,3] ⟨(kL (kL (kL (pK (by omega) (kL (pK (by omega) wV)))))).ok,⟨hx,hz,(show o.size≤1099511627776 by omega)⟩⟩ rfl rfl (by decide) rfl rfl rfl rfl rfl fun⟨o2,xs2⟩ ho2=>?_
     |refine bI F.lt (([⟨#[119,97,110,116,115]⟩,⟨#[111,114,105,103,105,110]⟩,⟨#[99,111,112,105,101,115]⟩,w1,⟨#[119,105,116,104]⟩,t],⟨o,xs⟩):List bF×OX) [1,3] ⟨(kL (kL (kL (pK (by omega) (kL (pK (by omega) wV)))))).ok,⟨hx,hz,(show o.size≤1099511627776 by omega)⟩⟩ rfl rfl (by decide) rfl rfl rfl rfl rfl fun⟨o2,xs2⟩ ho2=>?_
     |refine bI F.lt (([⟨#[119,97,110,116,115]⟩,⟨#[100,114,97,102,116]⟩,⟨#[99,111,112,105,101,115]⟩,w1,⟨#[119,105,116,104]⟩,t],⟨o,xs⟩):List bF×OX) [1,3] ⟨(kL (kL (kL (pK (by omega) (kL (pK (by omega) wV)))))).ok,⟨hx,hz,(show o.size≤1099511627776 by omega)⟩⟩ rfl rfl (by decide) rfl rfl rfl rfl rfl fun⟨o2,xs2⟩ ho2=>?_
     |fail
    have hx2:=ho2.x;have hz2:=ho2.z;have hl2:=ho2.l;dsimp only at hx2 hz2 hl2;cbv;repeat'((first|refine .k fun z hz=>?_|fail)<;>cbv)
    obtain rfl:z=nI (k+1):=bR;have he2:=ho2.e;dsimp only at he2;exact bP ⟨k+1,o2,xs2,by exact bR,hx2,hz2,by omega,by rw[hst,he2,hoe,hte,hw1];rfl⟩ (bQ bR)
  ·cbv;repeat'((first|refine .n fun h=>?_|fail)<;>cbv)
   (refine jR F.st (⟨o,xs,⟨#[]⟩⟩:BI) [1,3] hx ?_;try dsimp only)
   have hK:=hK o ⟨by omega,by rw[hoe];exact ahP (by(try dsimp only);omega)⟩;cbv
   (refine .q9 ?_;cbv;exact .inl (.f9 hK))
def Yy (t:Int):List (Int×bF):=if t=0 then [(0,⟨#[116,101,110,111,114]⟩),(0,⟨#[115,105,103,104,116]⟩),(5,W0)] else [(0,⟨#[116,101,110,111,114]⟩),(2,cT t),(0,⟨#[100,97,121,115]⟩),(5,W0)]
def WD (t:Int):Nat:=if t=0 then 3 else 4
structure anW where
 p:Pa
 t:Int
structure auN (i:anW):Prop where
 p:HC i.p
 t:At i.p.L i.p.k (Yy i.t)
 n:0≤i.t∧i.t≤1048576
def amM:cQ:=spec (fun _:anW=>[.ptr 0 0]) (fun i=>hR i.p) auN (fun i=>.i i.t) fun i=>hR ⟨i.p.L,i.p.k+WD i.t,i.p.sz⟩
theorem aaL (P:bG) (F:TkF P) (hd:bH P 156 X9):bL P asX amM:=by
 intro args H K hc;obtain⟨⟨⟨L,k,sz⟩,t⟩,rfl,rfl,hp,hK⟩:=hc;refine⟨cW,?_⟩;dsimp only at hp hK⊢;obtain⟨hp1,hat,hn⟩:=hp;unfold Yy at hat
 unfold WD at hK
 try dsimp only at hp1 hat hn hK
 unfold hR at hK⊢;dsimp only at hK⊢;by_cases ht:t=0
 ·subst ht;rw[aF rfl]at hat hK;obtain⟨⟨a0,h0⟩,hat0⟩:=hat.z;obtain⟨⟨a1,h1⟩,hat1⟩:=hat0.z;have q1:=hp1.on h0;have q2:=q1.on h1;have s1:WL (wB [⟨#[115,105,103,104,116]⟩]) L (k+1)=true:=(FL h1).trans (Sp _ _);obtain⟨k1,e1⟩:∃q,q=k+1:=⟨_,rfl⟩
  rw[←e1]at s1 q1 q2 hat1;have hLl:L.length≤4096:=hp1.l;have hk1:k1≤L.length:=q1.k;rw[show k+3=k1+1+1 by omega]at hK;cbv;refine bT 1 rfl ?_;cbv
  (refine hP F.mw ([⟨#[116,101,110,111,114]⟩]:List bF) trivial ?_;try dsimp only)
  cbv
  (refine jR F.tw (⟨⟨L,k,sz⟩,[⟨#[116,101,110,111,114]⟩],⟨0,a0,⟨#[116,101,110,111,114]⟩⟩⟩:YG) [0] ⟨hp1,(by decide:(1:Nat)≤64),h0,Sp _ _⟩ ?_;try dsimp only)
  rw[←e1];unfold hR;cbv;refine bT 2 rfl ?_;cbv
  (refine hP F.mw ([⟨#[115,105,103,104,116]⟩]:List bF) trivial ?_;try dsimp only)
  cbv
  (refine jR F.sw (⟨⟨L,k1,sz⟩,[⟨#[115,105,103,104,116]⟩]⟩:SeW) [0] ⟨q1,(by decide:(1:Nat)≤64)⟩ ?_;try dsimp only)
  rw[s1];unfold hR;cbv;repeat'((first|refine .k fun z hz=>?_|fail)<;>cbv)
  obtain rfl:z=nI (k1+1):=bR
  (refine jR F.en (⟨⟨L,k1+1,sz⟩⟩:EnI) [0] ⟨q2,hat1⟩ ?_;try dsimp only)
  unfold hR;cbv
  (refine .q9 ?_;cbv;exact .inl (.f9 hK))
 ·rw[aE ht]at hat hK;obtain⟨⟨a0,h0⟩,hat0⟩:=hat.z;obtain⟨⟨a1,h1⟩,hat1⟩:=hat0.z;obtain⟨⟨a2,h2⟩,hat2⟩:=hat1.z;have q1:=hp1.on h0;have q2:=q1.on h1;have q3:=q2.on h2;have s1:WL (wB [⟨#[115,105,103,104,116]⟩]) L (k+1)=false:=(FL h1).trans rfl;cbv;refine bT 1 rfl ?_;cbv
  (refine hP F.mw ([⟨#[116,101,110,111,114]⟩]:List bF) trivial ?_;try dsimp only)
  cbv
  (refine jR F.tw (⟨⟨L,k,sz⟩,[⟨#[116,101,110,111,114]⟩],⟨0,a0,⟨#[116,101,110,111,114]⟩⟩⟩:YG) [0] ⟨hp1,(by decide:(1:Nat)≤64),h0,Sp _ _⟩ ?_;try dsimp only)
  unfold hR;cbv;refine bT 2 rfl ?_;cbv
  (refine hP F.mw ([⟨#[115,105,103,104,116]⟩]:List bF) trivial ?_;try dsimp only)
  cbv
  (refine jR F.sw (⟨⟨L,k+1,sz⟩,[⟨#[115,105,103,104,116]⟩]⟩:SeW) [0] ⟨q1,(by decide:(1:Nat)≤64)⟩ ?_;try dsimp only)
  rw[s1];unfold hR;cbv
  (refine jR hd (⟨⟨L,k+1,sz⟩,t,1⟩:DaI) [0] ⟨q1,(At.app (a:=[(2,cT t)]) hat0).1,by(try dsimp only);omega,hn⟩ ?_;try dsimp only)
  unfold hR;cbv;refine bT 3 rfl ?_;cbv
  (refine hP F.mw ([⟨#[100,97,121,115]⟩]:List bF) trivial ?_;try dsimp only)
  cbv
  (refine jR F.tw (⟨⟨L,k+1+1,sz⟩,[⟨#[100,97,121,115]⟩],⟨0,a2,⟨#[100,97,121,115]⟩⟩⟩:YG) [0] ⟨q2,(by decide:(1:Nat)≤64),h2,Sp _ _⟩ ?_;try dsimp only)
  unfold hR;cbv
  (refine jR F.en (⟨⟨L,k+1+1+1,sz⟩⟩:EnI) [0] ⟨q3,hat2⟩ ?_;try dsimp only)
  unfold hR;cbv
  (refine .q9 ?_;cbv;exact .inl (.f9 hK))
def CrE (c:Cr):cC:=.blk 33 [.str c.number,.str c.applicant,.str c.beneficiary,.str c.issuer,.str ⟨#[]⟩,.str c.frm,.str c.to,.str c.cur,.i c.amt,.i 0,.i 0,.i 0,.i 0,.i 0,.i 0,.bl false,.bl false,.v (.slice none 0 0)]
structure SuI where
 p:Pa
 c:Cr
def anH (c:Cr):List (Int×bF):=[(0,⟨#[115,117,109]⟩),(4,c.cur),(2,cT c.amt),(0,⟨#[97,98,111,118,101]⟩),(2,cT 0),(0,⟨#[98,101,108,111,119]⟩),(2,cT 0),(5,W0)]
structure asO (i:SuI):Prop where
 p:HC i.p
 t:At i.p.L i.p.k (anH i.c)
 n:1≤i.c.amt∧i.c.amt≤1099511627776
def anT:cQ:=spec (fun _:SuI=>[.ptr 0 0,.ptr 1 0]) (fun i=>hR i.p++[.blk 33 [.str i.c.number,.str i.c.applicant,.str i.c.beneficiary,.str i.c.issuer,.str ⟨#[]⟩,.str i.c.frm,.str i.c.to,.str ⟨#[]⟩,.i 0,.i 0,.i 0,.i 0,.i 0,.i 0,.i 0,.bl false,.bl false,.v (.slice none 0 0)]]) asO (fun _=>.tup []) fun i=>hR ⟨i.p.L,i.p.k+8,i.p.sz⟩++[CrE i.c]
theorem acL (P:bG) (F:TkF P):bL P atW anT:=by
 intro args H K hc;obtain⟨⟨⟨L,k,sz⟩,⟨number,applicant,beneficiary,issuer,confirmer,frm,to,cur,amt,above,below,latest,expiry,within,tenor,partial_,change,needs⟩⟩,rfl,rfl,hp,hK⟩:=hc;refine⟨cW,?_⟩;dsimp only at hp hK⊢;obtain⟨hp1,hat,hn⟩:=hp;unfold anH at hat
 try dsimp only at hp1 hat hn hK
 unfold hR CrE at hK;unfold hR;dsimp only at hK⊢;obtain⟨⟨a0,h0⟩,hat0⟩:=hat.z;obtain⟨⟨a1,h1⟩,hat1⟩:=hat0.z;obtain⟨⟨a2,h2⟩,hat2⟩:=hat1.z;obtain⟨⟨a3,h3⟩,hat3⟩:=hat2.z;obtain⟨⟨a4,h4⟩,hat4⟩:=hat3.z;obtain⟨⟨a5,h5⟩,hat5⟩:=hat4.z;obtain⟨⟨a6,h6⟩,hat6⟩:=hat5.z;have q1:=hp1.on h0;have q2:=q1.on h1;have q3:=q2.on h2;have q4:=q3.on h3;have q5:=q4.on h4;have q6:=q5.on h5;have q7:=q6.on h6;cbv;refine bT 2 rfl ?_;cbv
 (refine hP F.mw ([⟨#[115,117,109]⟩]:List bF) trivial ?_;try dsimp only)
 cbv
 (refine jR F.tw (⟨⟨L,k,sz⟩,[⟨#[115,117,109]⟩],⟨0,a0,⟨#[115,117,109]⟩⟩⟩:YG) [0] ⟨hp1,(by decide:(1:Nat)≤64),h0,Sp _ _⟩ ?_;try dsimp only)
 unfold hR;cbv
 (refine hP F.mq (4:Int) trivial ?_;try dsimp only)
 cbv
 (refine jR F.tk (⟨⟨L,k+1,sz⟩,4,⟨4,a1,cur⟩⟩:TaK) [0] ⟨q1,trivial,h1,rfl⟩ ?_;try dsimp only)
 unfold hR;cbv
 (refine jR F.nu (⟨⟨L,k+1+1,sz⟩,amt,1,1099511627776⟩:NuI) [0] ⟨q2,(At.app (a:=[(2,cT amt)]) hat1).1,hn.1,hn.2,by(try dsimp only);omega,hn.2⟩ ?_;try dsimp only)
 unfold hR;cbv;refine bT 3 rfl ?_;cbv
 (refine hP F.mw ([⟨#[97,98,111,118,101]⟩]:List bF) trivial ?_;try dsimp only)
 cbv
 (refine jR F.tw (⟨⟨L,k+1+1+1,sz⟩,[⟨#[97,98,111,118,101]⟩],⟨0,a3,⟨#[97,98,111,118,101]⟩⟩⟩:YG) [0] ⟨q3,(by decide:(1:Nat)≤64),h3,Sp _ _⟩ ?_;try dsimp only)
 unfold hR;cbv
 (refine jR F.nu (⟨⟨L,k+1+1+1+1,sz⟩,0,0,1000⟩:NuI) [0] ⟨q4,(At.app (a:=[(2,cT 0)]) hat3).1,by(try dsimp only);omega,by(try dsimp only);omega,by(try dsimp only);omega⟩ ?_;try dsimp only)
 unfold hR;cbv;refine bT 4 rfl ?_;cbv
 (refine hP F.mw ([⟨#[98,101,108,111,119]⟩]:List bF) trivial ?_;try dsimp only)
 cbv
 (refine jR F.tw (⟨⟨L,k+1+1+1+1+1,sz⟩,[⟨#[98,101,108,111,119]⟩],⟨0,a5,⟨#[98,101,108,111,119]⟩⟩⟩:YG) [0] ⟨q5,(by decide:(1:Nat)≤64),h5,Sp _ _⟩ ?_;try dsimp only)
 unfold hR;cbv
 (refine jR F.nu (⟨⟨L,k+1+1+1+1+1+1,sz⟩,0,0,1000⟩:NuI) [0] ⟨q6,(At.app (a:=[(2,cT 0)]) hat5).1,by(try dsimp only);omega,by(try dsimp only);omega,by(try dsimp only);omega⟩ ?_;try dsimp only)
 unfold hR;cbv
 (refine jR F.en (⟨⟨L,k+1+1+1+1+1+1+1,sz⟩⟩:EnI) [0] ⟨q7,hat6⟩ ?_;try dsimp only)
 unfold hR;cbv
 (refine .q9 ?_;cbv;exact .inl (.f9 hK))
theorem afV {k:Int}(h:0≤k∧k≤5):W5 (WN k)=k:=by
 obtain rfl|rfl|rfl|rfl|rfl|rfl:k=0∨k=1∨k=2∨k=3∨k=4∨k=5:=by omega
 all_goals decide
def neT (n:Ne):List (Int×bF):=[(0,⟨#[119,97,110,116,115]⟩),(0,WN n.kind),(0,⟨#[99,111,112,105,101,115]⟩),(2,cT 1),(0,⟨#[119,105,116,104]⟩)]
structure NwI where
 p:Pa
 n:Ne
structure arW (i:NwI):Prop where
 p:HC i.p
 t:At i.p.L i.p.k (neT i.n)
 r:Yk i.p.L (i.p.k+5) i.n.rules
 k:0≤i.n.kind∧i.n.kind≤5
 m:2≤i.n.rules.length∧i.n.rules.length≤8
 o:∀n∈i.n.rules,aeG n
 l:GZ i.n.rules
def agQ:cQ:=spec (fun _:NwI=>[.ptr 0 0]) (fun i=>hR i.p) arW (fun i=>iQ i.n) fun i=>hR ⟨i.p.L,i.p.k+(5+4 * i.n.rules.length),i.p.sz⟩
theorem YK (P:bG) (F:TkF P) (hpo:bH P 231 ZN) (hw:bH P 233 ajN):bL P auC agQ:=by
 intro args H K hc;obtain⟨⟨⟨L,k,sz⟩,⟨kind,rules⟩⟩,rfl,rfl,hp,hK⟩:=hc;refine⟨cW,?_⟩;dsimp only at hp hK⊢;obtain⟨hp1,hat,hr,hk,hm,ho,hl⟩:=hp;have hpi:=afV hk;unfold neT at hat
 try dsimp only at hp1 hat hr hk hm ho hl hK hpi
 obtain⟨pw,hpw⟩:∃w,w=WN kind:=⟨_,rfl⟩
 rw[←hpw]at hat hpi;obtain⟨⟨a0,h0⟩,hat0⟩:=hat.z;obtain⟨⟨a1,h1⟩,hat1⟩:=hat0.z;obtain⟨⟨a2,h2⟩,hat2⟩:=hat1.z;obtain⟨⟨a3,h3⟩,hat3⟩:=hat2.z;obtain⟨⟨a4,h4⟩,hat4⟩:=hat3.z;have q1:=hp1.on h0;have q2:=q1.on h1;have q3:=q2.on h2;have q4:=q3.on h3;have q5:=q4.on h4;have hpB:pB () ⟨0,a1,pw⟩=true:=by unfold pB;simp;omega
 have s1:WL (wB [⟨#[119,105,116,104]⟩]) L (k+1+1+1+1)=true:=(FL h4).trans (Sp _ _);obtain⟨k4,e4⟩:∃q,q=k+1+1+1+1:=⟨_,rfl⟩
 have hr4:Yk L (k4+1) rules:=by rw[e4];exact hr
 rw[←e4]at s1 q4 q5;have hLl:L.length≤4096:=hp1.l;have hk4:k4≤L.length:=q4.k;have hre:=hr.e;obtain⟨e,he⟩:∃e,e=k+5+4 * rules.length - 1:=⟨_,rfl⟩
 rw[←he]at hre;obtain⟨⟨ae,hae⟩,_⟩:=hre.z;have qe:HC ⟨L,e,sz⟩:=⟨hp1.l,Nat.le_of_lt (aA.1 hae).1⟩
 rw[show k+(5+4 * rules.length)=e+1 by omega]at hK;unfold hR at hK⊢;dsimp only at hK⊢;cbv;refine bT 3 rfl ?_;cbv
 (refine hP F.mw ([⟨#[119,97,110,116,115]⟩]:List bF) trivial ?_;try dsimp only)
 cbv
 (refine jR F.tw (⟨⟨L,k,sz⟩,[⟨#[119,97,110,116,115]⟩],⟨0,a0,⟨#[119,97,110,116,115]⟩⟩⟩:YG) [0] ⟨hp1,(by decide:(1:Nat)≤64),h0,Sp _ _⟩ ?_;try dsimp only)
 unfold hR;cbv
 (refine jR F.tp (⟨⟨L,k+1,sz⟩,(),⟨0,a1,pw⟩⟩:TaP) [0] ⟨q1,trivial,h1,hpB⟩ ?_;try dsimp only)
 unfold hR;cbv
 (refine hP hpo pw trivial ?_;try dsimp only)
 rw[hpi];cbv;repeat'((first|refine .k fun z hz=>?_|fail)<;>cbv)
 obtain rfl:z=kind:=by omega
 refine bT 4 rfl ?_;cbv
 (refine hP F.mw ([⟨#[99,111,112,105,101,115]⟩]:List bF) trivial ?_;try dsimp only)
 cbv
 (refine jR F.tw (⟨⟨L,k+1+1,sz⟩,[⟨#[99,111,112,105,101,115]⟩],⟨0,a2,⟨#[99,111,112,105,101,115]⟩⟩⟩:YG) [0] ⟨q2,(by decide:(1:Nat)≤64),h2,Sp _ _⟩ ?_;try dsimp only)
 unfold hR;cbv
 (refine jR F.nu (⟨⟨L,k+1+1+1,sz⟩,1,1,9⟩:NuI) [0] ⟨q3,(At.app (a:=[(2,cT 1)]) hat2).1,by(try dsimp only);omega,by(try dsimp only);omega,by(try dsimp only);omega⟩ ?_;try dsimp only)
 rw[←e4];unfold hR;cbv;refine bT 5 rfl ?_;cbv
 (refine hP F.mw ([⟨#[119,105,116,104]⟩]:List bF) trivial ?_;try dsimp only)
 cbv
 (refine jR F.sw (⟨⟨L,k4,sz⟩,[⟨#[119,105,116,104]⟩]⟩:SeW) [0] ⟨q4,(by decide:(1:Nat)≤64)⟩ ?_;try dsimp only)
 rw[s1];unfold hR;cbv;repeat'((first|refine .k fun z hz=>?_|fail)<;>cbv)
 obtain rfl:z=nI (k4+1):=bR
 (refine jR hw (⟨⟨⟨L,k4+1,sz⟩,rules⟩⟩:WhI) [0] ⟨⟨q5,hr4,hm,ho⟩,hl⟩ ?_;try dsimp only)
 rw[show k4+1+4 * rules.length - 1=e by omega];unfold hR vW;cbv
 (refine jR F.en (⟨⟨L,e,sz⟩⟩:EnI) [0] ⟨qe,hre⟩ ?_;try dsimp only)
 unfold hR;cbv
 (refine .q9 ?_;cbv;exact .inl (.f9 hK))
theorem Wx {L:List Tk}{k:Nat}{sz kd:Int}{tx:bF}{ts:List (Int×bF)}(hl:L.length≤4096) (h:At L k ((kd,tx) :: ts)):HC ⟨L,k,sz⟩:=by
 obtain⟨⟨a,ha⟩,_⟩:=h.z;exact⟨hl,Nat.le_of_lt (aA.1 ha).1⟩
def lnT (f n:bF):List (Int×bF):=[(0,f),(rB n,n),(5,W0)]
def dyT (f:bF) (n:Int):List (Int×bF):=[(0,f),(2,cT n),(5,W0)]
def chT (f:bF) (b:Bool):List (Int×bF):=[(0,f),(0,yn b),(5,W0)]
def wiT:List (Int×bF):=[(0,⟨#[119,105,116,104,105,110]⟩),(2,cT 21),(0,⟨#[100,97,121,115]⟩),(5,W0)]
def neN (n:Ne):Nat:=5+4 * n.rules.length
def WY (l:List Ne):Nat:=(l.map neN).sum
theorem aaO {l:List Ne}{j:Nat}{n:Ne}(h:l[j]?=some n):WY (l.take (j+1))=WY (l.take j)+neN n:=by
 unfold WY;rw[cE h,List.map_append,List.sum_append];simp
structure CeI where
 L:List Tk
 sz:Int
 c:Cr
structure apO (L:List Tk) (c:Cr) (n:Nat):Prop where
 a0:At L (0) (lnT ⟨#[99,114,101,100,105,116]⟩ c.number)
 a1:At L (3) (lnT ⟨#[97,112,112,108,105,99,97,110,116]⟩ c.applicant)
 a2:At L (6) (lnT ⟨#[98,101,110,101,102,105,99,105,97,114,121]⟩ c.beneficiary)
 a3:At L (9) (lnT ⟨#[105,115,115,117,101,114]⟩ c.issuer)
 a4:At L (12) (lnT ⟨#[102,114,111,109]⟩ c.frm)
 a5:At L (15) (lnT ⟨#[116,111]⟩ c.to)
 a6:At L (18) (anH c)
 a7:At L (26) (dyT ⟨#[108,97,116,101,115,116]⟩ c.latest)
 a8:At L (29) (dyT ⟨#[101,120,112,105,114,121]⟩ c.expiry)
 a9:At L (32) wiT
 a10:At L (36) (Yy c.tenor)
 a11:At L (36+WD c.tenor) (chT ⟨#[112,97,114,116,105,97,108]⟩ c.partial_)
 a12:At L (39+WD c.tenor) (chT ⟨#[99,104,97,110,103,101]⟩ c.change)
 an:∀j m,c.needs[j]?=some m→At L (42+WD c.tenor+WY (c.needs.take j)) (neT m)∧Yk L (42+WD c.tenor+WY (c.needs.take j)+5) m.rules
 ae:n=42+WD c.tenor+WY c.needs
structure apG (i:CeI):Prop where
 l:i.L.length≤4096
 t:apO i.L i.c i.L.length
 cf:i.c.confirmer=⟨#[]⟩
 ab:i.c.above=0
 be:i.c.below=0
 wi:i.c.within=21
 amt:1≤i.c.amt∧i.c.amt≤1099511627776
 la:0≤i.c.latest∧i.c.latest≤1048576
 ex:0≤i.c.expiry∧i.c.expiry≤1048576
 te:0≤i.c.tenor∧i.c.tenor≤1048576
 ne:i.c.needs.length≤63
 nd:∀n∈i.c.needs,(0≤n.kind∧n.kind≤5)∧(2≤n.rules.length∧n.rules.length≤8)∧(∀r∈n.rules,aeG r)∧GZ n.rules
def alJ:cQ:=spec (fun _:CeI=>[.ptr 0 0]) (fun i=>hR ⟨i.L,0,i.sz⟩) apG (fun i=>vS i.c) fun i=>hR ⟨i.L,i.L.length,i.sz⟩
structure CeF (P:bG):Prop where
 t:TkF P
 ln:bH P 150 aeK
 su:bH P 153 anT
 dy:bH P 154 amY
 ds:bH P 156 X9
 te:bH P 158 amM
 ch:bH P 159 anG
 ne:bH P 162 agQ
theorem aaS (P:bG) (F:CeF P):bL P x77 alJ:=by
 intro args H K hc;obtain⟨⟨L,sz,⟨number,applicant,beneficiary,issuer,confirmer,frm,to,cur,amt,above,below,latest,expiry,within,tenor,partial_,change,needs⟩⟩,rfl,rfl,hp,hK⟩:=hc;refine⟨cW,?_⟩;dsimp only at hp hK⊢;obtain⟨hl,hat,hcf,hab,hbe,hwi,hamt,hla,hex,hte,hne,hnd⟩:=hp
 try dsimp only at hl hat hcf hab hbe hwi hamt hla hex hte hne hnd hK
 subst hcf hab hbe hwi;obtain⟨a0,a1,a2,a3,a4,a5,a6,a7,a8,a9,a10,a11,a12,an,ae⟩:=hat
 try dsimp only at a0 a1 a2 a3 a4 a5 a6 a7 a8 a9 a10 a11 a12 an ae
 obtain⟨k1,e1⟩:∃q,q=3:=⟨_,rfl⟩
 obtain⟨k2,e2⟩:∃q,q=6:=⟨_,rfl⟩
 obtain⟨k3,e3⟩:∃q,q=9:=⟨_,rfl⟩
 obtain⟨k4,e4⟩:∃q,q=12:=⟨_,rfl⟩
 obtain⟨k5,e5⟩:∃q,q=15:=⟨_,rfl⟩
 obtain⟨k6,e6⟩:∃q,q=18:=⟨_,rfl⟩
 obtain⟨k7,e7⟩:∃q,q=26:=⟨_,rfl⟩
 obtain⟨k8,e8⟩:∃q,q=29:=⟨_,rfl⟩
 obtain⟨k9,e9⟩:∃q,q=32:=⟨_,rfl⟩
 obtain⟨k10,e10⟩:∃q,q=36:=⟨_,rfl⟩
 obtain⟨k11,e11⟩:∃q,q=36+WD tenor:=⟨_,rfl⟩
 obtain⟨k12,e12⟩:∃q,q=39+WD tenor:=⟨_,rfl⟩
 obtain⟨k13,e13⟩:∃q,q=42+WD tenor:=⟨_,rfl⟩
 have p0:HC ⟨L,0,sz⟩:=Wx hl a0;rw[←e1]at a1;have p1:HC ⟨L,k1,sz⟩:=Wx hl a1;rw[←e2]at a2;have p2:HC ⟨L,k2,sz⟩:=Wx hl a2;rw[←e3]at a3;have p3:HC ⟨L,k3,sz⟩:=Wx hl a3;rw[←e4]at a4;have p4:HC ⟨L,k4,sz⟩:=Wx hl a4;rw[←e5]at a5;have p5:HC ⟨L,k5,sz⟩:=Wx hl a5;rw[←e6]at a6;have p6:HC ⟨L,k6,sz⟩:=Wx hl a6;rw[←e7]at a7;have p7:HC ⟨L,k7,sz⟩:=Wx hl a7;rw[←e8]at a8;have p8:HC ⟨L,k8,sz⟩:=Wx hl a8;rw[←e9]at a9;have p9:HC ⟨L,k9,sz⟩:=Wx hl a9;rw[←e10]at a10;have p10:HC ⟨L,k10,sz⟩:=by
  unfold Yy at a10
  split at a10
  ·exact Wx hl a10
  ·exact Wx hl a10
 rw[←e11]at a11;have p11:HC ⟨L,k11,sz⟩:=Wx hl a11;rw[←e12]at a12;have p12:HC ⟨L,k12,sz⟩:=Wx hl a12;rw[←e13]at an ae;obtain⟨⟨b0,g0⟩,w1⟩:=a9.z;obtain⟨⟨b1,g1⟩,w2⟩:=w1.z;obtain⟨⟨b2,g2⟩,w3⟩:=w2.z;have u1:=p9.on g0;have u2:=u1.on g1;have u3:=u2.on g2;have s4:WL (wB [⟨#[99,111,110,102,105,114,109,101,114]⟩]) L k4=false:=by
  obtain⟨⟨c0,g⟩,_⟩:=a4.z;exact(FL g).trans rfl
 obtain⟨n,hn⟩:∃n,n=L.length:=⟨_,rfl⟩
 rw[←hn]at ae hK;unfold hR at hK⊢;dsimp only at hK⊢;cbv
 (refine jR F.ln (⟨⟨L,0,sz⟩,⟨#[99,114,101,100,105,116]⟩,rB number,number⟩:LnI) [0] ⟨p0,a0,HO _⟩ ?_;try dsimp only)
 rw[show 0+3=k1 by omega];unfold hR;cbv
 (refine jR F.ln (⟨⟨L,k1,sz⟩,⟨#[97,112,112,108,105,99,97,110,116]⟩,rB applicant,applicant⟩:LnI) [0] ⟨p1,a1,HO _⟩ ?_;try dsimp only)
 rw[show k1+3=k2 by omega];unfold hR;cbv
 (refine jR F.ln (⟨⟨L,k2,sz⟩,⟨#[98,101,110,101,102,105,99,105,97,114,121]⟩,rB beneficiary,beneficiary⟩:LnI) [0] ⟨p2,a2,HO _⟩ ?_;try dsimp only)
 rw[show k2+3=k3 by omega];unfold hR;cbv
 (refine jR F.ln (⟨⟨L,k3,sz⟩,⟨#[105,115,115,117,101,114]⟩,rB issuer,issuer⟩:LnI) [0] ⟨p3,a3,HO _⟩ ?_;try dsimp only)
 rw[show k3+3=k4 by omega];unfold hR;cbv;refine bT 3 rfl ?_;cbv
 (refine hP F.t.mw ([⟨#[99,111,110,102,105,114,109,101,114]⟩]:List bF) trivial ?_;try dsimp only)
 cbv
 (refine jR F.t.sw (⟨⟨L,k4,sz⟩,[⟨#[99,111,110,102,105,114,109,101,114]⟩]⟩:SeW) [0] ⟨p4,(by decide:(1:Nat)≤64)⟩ ?_;try dsimp only)
 rw[s4];unfold hR;cbv
 (refine jR F.ln (⟨⟨L,k4,sz⟩,⟨#[102,114,111,109]⟩,rB frm,frm⟩:LnI) [0] ⟨p4,a4,HO _⟩ ?_;try dsimp only)
 rw[show k4+3=k5 by omega];unfold hR;cbv
 (refine jR F.ln (⟨⟨L,k5,sz⟩,⟨#[116,111]⟩,rB to,to⟩:LnI) [0] ⟨p5,a5,HO _⟩ ?_;try dsimp only)
 rw[show k5+3=k6 by omega];unfold hR;cbv
 (refine jR F.su (⟨⟨L,k6,sz⟩,⟨number,applicant,beneficiary,issuer,⟨#[]⟩,frm,to,cur,amt,0,0,latest,expiry,21,tenor,partial_,change,needs⟩⟩:SuI) [0,2] ⟨p6,a6,hamt⟩ ?_;try dsimp only)
 rw[show k6+8=k7 by omega];unfold hR CrE;cbv
 (refine jR F.dy (⟨⟨L,k7,sz⟩,⟨#[108,97,116,101,115,116]⟩,latest⟩:DyI) [0] ⟨p7,a7,hla⟩ ?_;try dsimp only)
 rw[show k7+3=k8 by omega];unfold hR;cbv
 (refine jR F.dy (⟨⟨L,k8,sz⟩,⟨#[101,120,112,105,114,121]⟩,expiry⟩:DyI) [0] ⟨p8,a8,hex⟩ ?_;try dsimp only)
 rw[show k8+3=k9 by omega];unfold hR;cbv;refine bT 4 rfl ?_;cbv
 (refine hP F.t.mw ([⟨#[119,105,116,104,105,110]⟩]:List bF) trivial ?_;try dsimp only)
 cbv
 (refine jR F.t.tw (⟨⟨L,k9,sz⟩,[⟨#[119,105,116,104,105,110]⟩],⟨0,b0,⟨#[119,105,116,104,105,110]⟩⟩⟩:YG) [0] ⟨p9,(by decide:(1:Nat)≤64),g0,Sp _ _⟩ ?_;try dsimp only)
 unfold hR;cbv
 (refine jR F.ds (⟨⟨L,k9+1,sz⟩,21,0⟩:DaI) [0] ⟨u1,(At.app (a:=[(2,cT 21)]) w1).1,by(try dsimp only);omega,by(try dsimp only);omega⟩ ?_;try dsimp only)
 unfold hR;cbv;refine bT 5 rfl ?_;cbv
 (refine hP F.t.mw ([⟨#[100,97,121,115]⟩]:List bF) trivial ?_;try dsimp only)
 cbv
 (refine jR F.t.tw (⟨⟨L,k9+1+1,sz⟩,[⟨#[100,97,121,115]⟩],⟨0,b2,⟨#[100,97,121,115]⟩⟩⟩:YG) [0] ⟨u2,(by decide:(1:Nat)≤64),g2,Sp _ _⟩ ?_;try dsimp only)
 unfold hR;cbv
 (refine jR F.t.en (⟨⟨L,k9+1+1+1,sz⟩⟩:EnI) [0] ⟨u3,w3⟩ ?_;try dsimp only)
 rw[show k9+1+1+1+1=k10 by omega];unfold hR;cbv
 (refine jR F.te (⟨⟨L,k10,sz⟩,tenor⟩:anW) [0] ⟨p10,a10,hte⟩ ?_;try dsimp only)
 rw[show k10+WD tenor=k11 by omega];unfold hR;cbv
 (refine jR F.ch (⟨⟨L,k11,sz⟩,⟨#[112,97,114,116,105,97,108]⟩,partial_⟩:ChI) [0] ⟨p11,a11⟩ ?_;try dsimp only)
 rw[show k11+3=k12 by omega];unfold hR;cbv
 (refine jR F.ch (⟨⟨L,k12,sz⟩,⟨#[99,104,97,110,103,101]⟩,change⟩:ChI) [0] ⟨p12,a12⟩ ?_;try dsimp only)
 rw[show k12+3=k13 by omega];unfold hR;cbv;refine iD (Gh.adoptC 2 17 102 8 rfl rfl) ?_;cbv;obtain⟨mn,hmn⟩:∃q,q=needs.length:=⟨_,rfl⟩
 refine bZ [0,6] (fun q:{ q:Nat×Nat×List Ne // q.1≤mn∧q.2.1=k13+WY (needs.take q.1)∧q.2.2=needs.take q.1 }=>[(0,.ptr 0 0),(2,.ptr 1 0),(3,.ptr 2 0)]) (fun q=>[.blk 172 [.sl 3 (bK LQ L),.i (nI q.1.2.1),.i sz,.i 0,.i 0],.blk 33 [.str ⟨#[]⟩,.str ⟨#[]⟩,.str ⟨#[]⟩,.str ⟨#[]⟩,.str ⟨#[]⟩,.str ⟨#[]⟩,.str ⟨#[]⟩,.str ⟨#[]⟩,.i 0,.i 0,.i 0,.i 0,.i 0,.i 0,.i 0,.bl false,.bl false,.v (.slice none 0 0)],.blk 33 [.str number,.str applicant,.str beneficiary,.str issuer,.str ⟨#[]⟩,.str frm,.str to,.str cur,.i amt,.i 0,.i 0,.i latest,.i expiry,.i 21,.i tenor,.bl partial_,.bl change,.hd 6],.tip 9 1 [.str ⟨#[99,111,110,102,105,114,109,101,114]⟩],.tip 9 1 [.str ⟨#[119,105,116,104,105,110]⟩],.tip 9 1 [.str ⟨#[100,97,121,115]⟩],.row 102 8 (bK iQ q.1.2.2)]) (fun q=>iH mn q.1.1) ⟨(0,k13,[]),aI _,(by show k13=k13+0;rfl),rfl⟩ ?_;rintro ⟨⟨j,pos,ls⟩,hj,hpos,hls⟩
 try dsimp only at hj hpos hls⊢
 have hmls:=bN iQ ls;have hlsl:ls.length=j:=by rw[hls,aR];omega
 rcases aL j mn with hjs|hjs
 ·obtain⟨x,hx⟩:=cY (L:=needs) (i:=j) (by omega);obtain⟨ha,hr⟩:=an j x hx;obtain⟨hn1,hn2,hn3,hn4⟩:=hnd x (aC hx);rw[←hpos]at ha hr;have hps:HC ⟨L,pos,sz⟩:=Wx hl ha;have hlt:pos < L.length:=by
   unfold neT at ha;obtain⟨⟨c0,g⟩,_⟩:=ha.z;exact(aA.1 g).1
  have htk2:=cE hx;rw[←hls]at htk2;have hof:=aaO hx;unfold neN at hof;obtain⟨kind,rules⟩:=x
  try dsimp only at hof hr ha hn1 hn2 hn3 hn4
  cbv;repeat'((first|refine .n fun h=>?_|refine .y fun h=>?_|refine .k fun z hz=>?_|fail)<;>cbv)
  (refine jR F.ne (⟨⟨L,pos,sz⟩,⟨kind,rules⟩⟩:NwI) [0] ⟨hps,ha,hr,hn1,hn2,hn3,hn4⟩ ?_;try dsimp only)
  obtain⟨pos2,hpos2⟩:∃q,q=pos+(5+4 * rules.length):=⟨_,rfl⟩
  rw[←hpos2];unfold hR iQ;cbv;repeat'((first|refine .zl fun zs hzs hzl=>?_|fail)<;>cbv)
  obtain⟨ls2,hls2⟩:∃q,q=ls++[(⟨kind,rules⟩:Ne)]:=⟨_,rfl⟩
  rw[←hls2]at htk2;obtain rfl:zs=bK iQ ls2:=by rw[hls2,cP,cS];exact hzs
  exact bP ⟨(j+1,pos2,ls2),by(try dsimp only);omega,by(try dsimp only);omega,htk2.symm⟩ (bQ (by omega))
 ·have hje:j=mn:=by omega
  obtain rfl:ls=needs:=by rw[hls,hje,hmn,List.take_length]
  have hpe:pos=n:=by rw[hpos,ae,hje,hmn,List.take_length]
  have hnl:L.length≤pos:=by omega
  subst hpe;cbv;repeat'((first|refine .n fun h=>?_|refine .y fun h=>?_|refine .k fun z hz=>?_|fail)<;>cbv)
  (refine .r9 (Gh.plain 6 rfl) ?_;cbv;exact .inl (.g9 hK))
structure BeI where
 s:bF
 L:List Tk
 sz:Int
structure aqR (i:BeI):Prop where
 z:i.s.size≤4096
 l:(Il i.s).l=i.L
 e:(Il i.s).e=0
 q:((i.s.size:Nat):Int)=i.sz
def alR:cQ:=spec (fun i:BeI=>[.str i.s]) (fun _=>[]) aqR (fun _=>.ptr 0 0) fun i=>hR ⟨i.L,0,i.sz⟩
theorem acV (P:bG) (hs:bH P 27 Fq):bL P x76 alR:=by
 intro args H K hc;obtain⟨⟨s,L,sz⟩,rfl,rfl,hp,hK⟩:=hc;refine⟨cW,?_⟩;dsimp only at hp hK⊢;obtain⟨hz0,hl0,he,q⟩:=hp
 try dsimp only at hz0 hl0 he q hK
 unfold hR at hK;dsimp only at hK;obtain⟨a,ha⟩:∃a,a=(Il s).at_:=⟨_,rfl⟩
 cbv;repeat'((first|refine .n fun h=>?_|refine .k fun z hz=>?_|fail)<;>cbv)
 (refine hP hs s (by omega) ?_;try dsimp only)
 rw[hl0,he,←ha];cbv;repeat'((first|refine .y fun h=>?_|fail)<;>cbv)
 rename_i z1 hz1 h1;obtain rfl:z1=sz:=hz1.trans q
 (refine .q9 ?_;cbv;exact .inl (.f9 hK))
structure PrI where
 s:bF
 L:List Tk
 sz:Int
 c:Cr
structure ajO (i:PrI):Prop where
 b:aqR ⟨i.s,i.L,i.sz⟩
 c:apG ⟨i.L,i.sz,i.c⟩
def Zn:cQ:=spec (fun i:PrI=>[.str i.s]) (fun _=>[]) ajO (fun i=>.tup [vS i.c,.i 0,.i 0]) fun _=>[]
theorem X8 (P:bG) (hb:bH P 76 alR) (hc:bH P 77 alJ):bL P x26 Zn:=by
 intro args H K hc;obtain⟨⟨s,L,sz,⟨number,applicant,beneficiary,issuer,confirmer,frm,to,cur,amt,above,below,latest,expiry,within,tenor,partial_,change,needs⟩⟩,rfl,rfl,hp,hK⟩:=hc;refine⟨cW,?_⟩;dsimp only at hp hK⊢;obtain⟨hb0,hc0⟩:=hp
 try dsimp only at hb0 hc0
 cbv
 (refine Sm hb (⟨s,L,sz⟩:BeI) hb0 ?_;try dsimp only)
 unfold hR;cbv
 (refine jR hc (⟨L,sz,⟨number,applicant,beneficiary,issuer,confirmer,frm,to,cur,amt,above,below,latest,expiry,within,tenor,partial_,change,needs⟩⟩:CeI) [1] hc0 ?_;try dsimp only)
 unfold hR;cbv;repeat'((first|refine .y fun h=>?_|fail)<;>cbv)
 (refine .q9 ?_;cbv;exact .inl (.f9 hK))
def anE:cQ:=WG (fun _:Unit=>[.v (.slice none 0 0),.v (.slice none 0 0),.clo 124 []]) (fun _=>True) fun _=>true
theorem aaD (P:bG):bL P aqK anE:=by
 intro args H K hc;obtain⟨u,rfl,rfl,hp,hK⟩:=hc;refine⟨cW,?_⟩;dsimp only at hp hK⊢;cbv;repeat'((first|refine .y fun h=>?_|fail)<;>cbv)
 refine bZ [] (fun q:Unit=>[(17,.i 0)]) (fun q=>[]) (fun q=>iH 1 0) () ?_;rintro ⟨⟩;cbv;repeat'((first|refine .n fun h=>?_|fail)<;>cbv)
 all_goals(refine .q9 ?_;cbv;exact .inl (.f9 hK))
def aoP:cQ:=WG (fun n:Nd=>[jW n,jW n]) (fun _=>True) fun _=>true
theorem acC (P:bG) (hf:bH P 214 anE):bL P arF aoP:=by
 intro args H K hc;obtain⟨⟨kind,field,text,num⟩,rfl,rfl,hp,hK⟩:=hc;refine⟨cW,?_⟩;dsimp only at hp hK⊢;cbv;repeat'((first|refine HK ?_|refine HL rfl ?_|(first|refine .y fun h=>?_|fail))<;>cbv)
 all_goals first
  |exact absurd rfl ‹_›
  |((refine hP hf () trivial ?_;try dsimp only);(cbv;repeat'((first|refine HK ?_|refine HL rfl ?_|(first|fail))<;>cbv));(refine .q9 ?_;cbv;exact .inl (.f9 hK)))
  |skip
def amV:cQ:=WG (fun l:List Nd=>[.sl 6 (bK jW l),.sl 6 (bK jW l),.clo 124 []]) (fun l=>l.length≤64) fun _=>true
theorem aaF (P:bG) (m:cL P 124) (hf:bH P 124 aoP):bL P aqK amV:=by
 intro args H K hc;obtain⟨l,rfl,rfl,hp,hK⟩:=hc;refine⟨cW,?_⟩;dsimp only at hp hK⊢;have hml:=bN jW l;cbv;repeat'((first|refine .y fun h=>?_|refine .k fun z hz=>?_|fail)<;>cbv)
 all_goals first|(exfalso;omega)|skip
 refine bZ [] (fun q:{ k:Nat // k≤l.length }=>[(17,.i (nI q.1))]) (fun _=>[]) (fun q=>iH 65 q.1) ⟨0,aI _⟩ ?_;rintro ⟨k,hk⟩
 try dsimp only at hk⊢
 rcases aL k l.length with hks|hks
 ·obtain⟨⟨kind,field,text,num⟩,hx⟩:=cY hks;cbv;repeat'((first|refine .e ?_|refine .y fun h=>?_|refine And.intro ?_ ?_|fail)<;>cbv)
  ·exact m
  (refine hP hf (⟨kind,field,text,num⟩:Nd) trivial ?_;try dsimp only)
  cbv;repeat'((first|refine .k fun z hz=>?_|fail)<;>cbv)
  obtain rfl:z=nI (k+1):=bR;exact bP ⟨k+1,by exact bR⟩ (bQ bR)
 ·cbv;repeat'((first|refine .n fun h=>?_|fail)<;>cbv)
  (refine .q9 ?_;cbv;exact .inl (.f9 hK))
def akP:cQ:=WG (fun l:List Nd=>[vW l,vW l]) (fun l=>l.length≤64) fun _=>true
theorem abT (P:bG) (hf:bH P 214 amV):bL P arF akP:=by
 intro args H K hc;obtain⟨l,rfl,rfl,hp,hK⟩:=hc;refine⟨cW,?_⟩;dsimp only at hp hK⊢;unfold vW;cbv;repeat'((first|refine HK ?_|refine HL rfl ?_|(first|refine .y fun h=>?_|fail))<;>cbv)
 all_goals first
  |exact absurd rfl ‹_›
  |((refine hP hf l hp ?_;try dsimp only);(cbv;repeat'((first|refine HK ?_|refine HL rfl ?_|(first|fail))<;>cbv));(refine .q9 ?_;cbv;exact .inl (.f9 hK)))
  |skip
def SnX:cQ:=WG (fun n:Ne=>[iQ n,iQ n]) (fun n=>n.rules.length≤64) fun _=>true
theorem aeQ (P:bG) (hf:bH P 124 akP):bL P x71 SnX:=by
 intro args H K hc;obtain⟨⟨kind,rules⟩,rfl,rfl,hp,hK⟩:=hc;refine⟨cW,?_⟩;dsimp only at hp hK⊢
 try dsimp only at hp
 cbv;repeat'((first|refine HK ?_|refine HL rfl ?_|(first|refine .y fun h=>?_|fail))<;>cbv)
 all_goals first
  |exact absurd rfl ‹_›
  |((refine hP hf rules hp ?_;try dsimp only);(cbv;repeat'((first|refine HK ?_|refine HL rfl ?_|(first|fail))<;>cbv));(refine .q9 ?_;cbv;exact .inl (.f9 hK)))
  |skip
def amL:cQ:=WG (fun l:List Ne=>[.sl 8 (bK iQ l),.sl 8 (bK iQ l),.clo 71 []]) (fun l=>l.length≤64∧∀n∈l,n.rules.length≤64) fun _=>true
theorem Z0 (P:bG) (m:cL P 71) (hf:bH P 71 SnX):bL P x70 amL:=by
 intro args H K hc;obtain⟨l,rfl,rfl,hp,hK⟩:=hc;refine⟨cW,?_⟩;dsimp only at hp hK⊢;obtain⟨hl,hr⟩:=hp;have hml:=bN iQ l;cbv;repeat'((first|refine .y fun h=>?_|refine .k fun z hz=>?_|fail)<;>cbv)
 all_goals first|(exfalso;omega)|skip
 refine bZ [] (fun q:{ k:Nat // k≤l.length }=>[(17,.i (nI q.1))]) (fun _=>[]) (fun q=>iH 65 q.1) ⟨0,aI _⟩ ?_;rintro ⟨k,hk⟩
 try dsimp only at hk⊢
 rcases aL k l.length with hks|hks
 ·obtain⟨x,hx⟩:=cY hks;have hrx:=hr x (aC hx);obtain⟨kind,rules⟩:=x
  try dsimp only at hrx
  cbv;repeat'((first|refine .e ?_|refine .y fun h=>?_|refine And.intro ?_ ?_|fail)<;>cbv)
  ·exact m
  (refine hP hf (⟨kind,rules⟩:Ne) hrx ?_;try dsimp only)
  cbv;repeat'((first|refine .k fun z hz=>?_|fail)<;>cbv)
  obtain rfl:z=nI (k+1):=bR;exact bP ⟨k+1,by exact bR⟩ (bQ bR)
 ·cbv;repeat'((first|refine .n fun h=>?_|fail)<;>cbv)
  (refine .q9 ?_;cbv;exact .inl (.f9 hK))
def anR:cQ:=spec (fun c:Cr=>[vS c]) (fun _=>[]) (fun _=>True) (fun c=>.agg [.str c.number,.str c.applicant,.str c.beneficiary,.str c.issuer,.str c.confirmer,.str c.frm,.str c.to]) fun _=>[]
theorem abY (P:bG):bL P x68 anR:=by
 intro args H K hc;obtain⟨⟨number,applicant,beneficiary,issuer,confirmer,frm,to,cur,amt,above,below,latest,expiry,within,tenor,partial_,change,needs⟩,rfl,rfl,hp,hK⟩:=hc;refine⟨cW,?_⟩;dsimp only at hp hK⊢;cbv
 (refine .q9 ?_;cbv;exact .inl (.f9 hK))
def anU:cQ:=spec (fun c:Cr=>[vS c]) (fun _=>[]) (fun _=>True) (fun c=>.agg [.i c.above,.i c.below,.i c.latest,.i c.expiry,.i c.within,.i c.tenor]) fun _=>[]
theorem abB (P:bG):bL P x69 anU:=by
 intro args H K hc;obtain⟨⟨number,applicant,beneficiary,issuer,confirmer,frm,to,cur,amt,above,below,latest,expiry,within,tenor,partial_,change,needs⟩,rfl,rfl,hp,hK⟩:=hc;refine⟨cW,?_⟩;dsimp only at hp hK⊢;cbv
 (refine .q9 ?_;cbv;exact .inl (.f9 hK))
def adR:cQ:=WG (fun c:Cr=>[vS c,vS c]) (fun c=>c.needs.length≤64∧∀n∈c.needs,n.rules.length≤64) fun _=>true
theorem YY (P:bG) (m1:cL P 68) (m2:cL P 69) (h1:bH P 68 anR) (h2:bH P 69 anU) (hn:bH P 70 amL):bL P x23 adR:=by
 intro args H K hc;obtain⟨⟨number,applicant,beneficiary,issuer,confirmer,frm,to,cur,amt,above,below,latest,expiry,within,tenor,partial_,change,needs⟩,rfl,rfl,hp,hK⟩:=hc;refine⟨cW,?_⟩;dsimp only at hp hK⊢
 try dsimp only at hp
 cbv;repeat'((first|refine HK ?_|refine HL rfl ?_|(first|refine And.intro ?_ ?_|fail))<;>cbv)
 ·exact m1
 (refine hP h1 (⟨number,applicant,beneficiary,issuer,confirmer,frm,to,cur,amt,above,below,latest,expiry,within,tenor,partial_,change,needs⟩:Cr) trivial ?_;try dsimp only)
 cbv;repeat'((first|refine HK ?_|refine HL rfl ?_|(first|refine And.intro ?_ ?_|fail))<;>cbv)
 ·exact m1
 (refine hP h1 (⟨number,applicant,beneficiary,issuer,confirmer,frm,to,cur,amt,above,below,latest,expiry,within,tenor,partial_,change,needs⟩:Cr) trivial ?_;try dsimp only)
 cbv;repeat'((first|refine HK ?_|refine HL rfl ?_|(first|refine .mk (fun h=>?_) fun h=>?_|refine And.intro ?_ ?_|fail))<;>cbv)
 all_goals repeat'(first
  |exact m2
  |exact absurd trivial ‹_›
  |exact absurd rfl ‹_›
  |((refine hP h2 (⟨number,applicant,beneficiary,issuer,confirmer,frm,to,cur,amt,above,below,latest,expiry,within,tenor,partial_,change,needs⟩:Cr) trivial ?_;try dsimp only);(cbv;repeat'((first|refine HK ?_|refine HL rfl ?_|(first|refine .mk (fun h=>?_) fun h=>?_|refine And.intro ?_ ?_|fail))<;>cbv)))
  |((refine hP hn needs hp ?_;try dsimp only);(cbv;repeat'((first|refine HK ?_|refine HL rfl ?_|(first|fail))<;>cbv)))
  |(refine .q9 ?_;cbv;exact .inl (.f9 hK)))
def W3 (k:Int):List bF:=if k=0 then [⟨#[115,101,108,108,101,114]⟩,⟨#[98,117,121,101,114]⟩,⟨#[99,117,114,114,101,110,99,121]⟩,⟨#[115,117,109]⟩,⟨#[102,114,111,109]⟩,⟨#[116,111]⟩,⟨#[98,111,120,101,115]⟩,⟨#[116,101,114,109]⟩] else if k=1 then [⟨#[115,101,108,108,101,114]⟩,⟨#[102,114,111,109]⟩,⟨#[116,111]⟩,⟨#[98,111,120,101,115]⟩,⟨#[109,97,114,107,115]⟩,⟨#[99,111,110,116,101,110,116]⟩] else if k=2 then [⟨#[99,97,114,114,105,101,114]⟩,⟨#[115,104,105,112,112,101,114]⟩,⟨#[102,114,111,109]⟩,⟨#[116,111]⟩,⟨#[98,111,120,101,115]⟩,⟨#[109,97,114,107,115]⟩,⟨#[105,115,115,117,101,100]⟩,⟨#[99,108,101,97,110]⟩,⟨#[112,97,114,101,110,116,115]⟩] else if k=3 then [⟨#[115,101,108,108,101,114]⟩,⟨#[102,114,111,109]⟩,⟨#[116,111]⟩,⟨#[99,117,114,114,101,110,99,121]⟩,⟨#[115,117,109]⟩] else if k=4 then [⟨#[115,101,108,108,101,114]⟩,⟨#[99,111,117,110,116,114,121]⟩,⟨#[98,111,120,101,115]⟩] else [⟨#[100,114,97,119,101,114]⟩,⟨#[100,114,97,119,101,101]⟩,⟨#[112,97,121,101,101]⟩,⟨#[99,117,114,114,101,110,99,121]⟩,⟨#[115,117,109]⟩]
def akR:cQ:=spec (fun k:Int=>[.i k]) (fun _=>[]) (fun k=>0≤k∧k≤5) (fun k=>.sl 1 (bK (fun s=>.str s) (W3 k))) fun _=>[]
theorem abJ (P:bG):bL P asN akR:=by
 intro args H K hc;obtain⟨k,rfl,rfl,hp,hK⟩:=hc;refine⟨cW,?_⟩;dsimp only at hp hK⊢;obtain rfl|rfl|rfl|rfl|rfl|rfl:k=0∨k=1∨k=2∨k=3∨k=4∨k=5:=by omega
 all_goals
  cbv;repeat'((first|refine .n fun h=>?_|refine .y fun h=>?_|fail)<;>cbv)
  all_goals first
   |exact absurd rfl ‹_›
   |exact absurd ‹_› (by decide)
   |(refine .r9 (Gh.plain 0 rfl) ?_;cbv;exact .inl (.g9 hK))
def W6 (k:Int) (s:bF):Bool:=(W3 k).any (Xf s)
theorem YA (k:Int):(W3 k).length≤64:=by
 unfold W3
 repeat' split
 all_goals decide
def ahJ:cQ:=WG (fun i:Int×bF=>[.i i.1,.str i.2]) (fun i=>0≤i.1∧i.1≤5) fun i=>W6 i.1 i.2
theorem aaA (P:bG) (hf:bH P 291 akR) (hc:bH P 64 Yv):bL P auO ahJ:=by
 intro args H K hc;obtain⟨⟨k,s⟩,rfl,rfl,hp,hK⟩:=hc;refine⟨cW,?_⟩;dsimp only at hp hK⊢
 try dsimp only at hp
 have hl:=YA k;obtain⟨b,hb⟩:∃b,b=W6 k s:=⟨_,rfl⟩
 rw[←hb]at hK;unfold W6 at hb;obtain⟨fs,hfs⟩:∃f,f=W3 k:=⟨_,rfl⟩
 rw[←hfs]at hb hl;cbv
 (refine hP hf k hp ?_;try dsimp only)
 rw[←hfs];cbv
 (refine hP hc ((fs,s):List bF×bF) (by(try dsimp only);omega) ?_;try dsimp only)
 rw[←hb];cbv
 (refine .q9 ?_;cbv;exact .inl (.f9 hK))
def WS (s:bF):Int:=if s=⟨#[115,117,109]⟩∨s=⟨#[98,111,120,101,115]⟩∨s=⟨#[116,101,114,109]⟩ then 1 else if s=⟨#[105,115,115,117,101,100]⟩ then 2 else 0
def aoS:cQ:=spec (fun s:bF=>[.str s]) (fun _=>[]) (fun s=>∃k:Nat,k < 6∧W6 (nI k) s=true) (fun s=>.i (WS s)) fun _=>[]
theorem ZU (P:bG) (hh:bH P 241 ahJ):bL P auI aoS:=by
 intro args H K hc;obtain⟨s,rfl,rfl,hp,hK⟩:=hc;refine⟨cW,?_⟩;dsimp only at hp hK⊢;obtain⟨k0,hk0,hb0⟩:=hp;obtain⟨t,ht⟩:∃t,t=WS s:=⟨_,rfl⟩
 rw[←ht]at hK;unfold WS at ht;cbv;repeat'((first|refine .mk (fun h=>?_) fun h=>?_|fail)<;>cbv)
 all_goals first
  |exact nF.mk ⟨_,Gh.refl _,.inl (.v9 (Uh hK (by(rw[ht];simp_all))))⟩
  |skip
 refine bZ [] (fun q:{ k:Nat // k≤6∧∀j,j < k→W6 (nI j) s=false }=>[(0,.str s),(11,.i (nI q.1))]) (fun _=>[]) (fun q=>iH 7 q.1) ⟨0,aI _,fun j h=>absurd h (Nat.not_lt_zero _)⟩ ?_;rintro ⟨k,hk,hn⟩
 try dsimp only at hk hn⊢
 rcases aL k 6 with hks|hks
 ·obtain⟨b,hb⟩:∃b,b=W6 (nI k) s:=⟨_,rfl⟩
  cbv;repeat'((first|refine .y fun h=>?_|fail)<;>cbv)
  (refine hP hh ((nI k,s):Int×bF) ⟨(show (0:Int)≤((k:Nat):Int) by omega),(show ((k:Nat):Int)≤5 by omega)⟩ ?_;try dsimp only)
  rw[←hb];cases b
  ·cbv;repeat'((first|refine .k fun z hz=>?_|fail)<;>cbv)
   obtain rfl:z=nI (k+1):=bR;exact bP ⟨k+1,by exact bR,fun j hj=>by(rcases aL j k with h|h;exact hn j h;obtain rfl:j=k:=(by omega);exact hb.symm)⟩ (bQ bR)
  ·cbv;exact nF.mk ⟨_,Gh.refl _,.inl (.v9 (Uh hK (by(rw[ht];simp_all))))⟩
 ·have:=hn k0 (by omega);rw[this]at hb0;cases hb0
def Yt (i:bF×Int):Int×Bool:=if i.2=1∧lO i.1=true∧0≤iU i.1 then (iU i.1,true) else (0,false)
def ahY:cQ:=spec (fun i:bF×Int=>[.str i.1,.i i.2]) (fun _=>[]) (fun i=>i.1.size≤281474976710656∧(i.2=0∨i.2=1)) (fun i=>.tup [.i (Yt i).1,.bl (Yt i).2]) fun _=>[]
theorem abC (P:bG) (hn:bH P 41 HY):bL P arP ahY:=by
 intro args H K hc;obtain⟨⟨v,t⟩,rfl,rfl,hp,hK⟩:=hc;refine⟨cW,?_⟩;dsimp only at hp hK⊢;obtain⟨hz,ht⟩:=hp
 try dsimp only at hz ht
 obtain⟨r,hr⟩:∃r,r=Yt (v,t):=⟨_,rfl⟩
 rw[←hr]at hK;unfold Yt at hr;obtain⟨n,hnn⟩:∃n,n=iU v:=⟨_,rfl⟩
 obtain⟨b,hbb⟩:∃n,n=lO v:=⟨_,rfl⟩
 try dsimp only at hr
 rw[←hnn,←hbb]at hr;rcases ht with rfl|rfl
 ·rw[aE (by omega)]at hr;subst hr;cbv;repeat'((first|refine .n fun h=>?_|fail)<;>cbv)
  all_goals first
   |exact absurd rfl ‹_›
   |exact absurd ‹_› (by decide)
   |(refine .q9 ?_;cbv;exact .inl (.f9 hK))
 ·cases b
  ·rw[aE (by simp)]at hr;subst hr;cbv;repeat'((first|refine .y fun h=>?_|fail)<;>cbv)
   all_goals first
    |exact absurd rfl ‹_›
    |exact absurd ‹_› (by decide)
    |((refine hP hn v hz ?_;try dsimp only);rw[←hnn,←hbb];(cbv);(refine .q9 ?_;cbv;exact .inl (.f9 hK)))
    |skip
  ·by_cases h0:0≤n
   ·rw[aF (by simp[h0])]at hr;subst hr;cbv;repeat'((first|refine .y fun h=>?_|fail)<;>cbv)
    all_goals first
     |exact absurd rfl ‹_›
     |exact absurd ‹_› (by decide)
     |((refine hP hn v hz ?_;try dsimp only);rw[←hnn,←hbb])
    cbv;repeat'((first|refine .n fun h=>?_|fail)<;>cbv)
    all_goals first
     |exact absurd rfl ‹_›
     |exact absurd ‹_› (by decide)
     |(exfalso;omega)
     |(refine .q9 ?_;cbv;exact .inl (.f9 hK))
   ·rw[aE (by simp[h0])]at hr;subst hr;cbv;repeat'((first|refine .y fun h=>?_|fail)<;>cbv)
    all_goals first
     |exact absurd rfl ‹_›
     |exact absurd ‹_› (by decide)
     |((refine hP hn v hz ?_;try dsimp only);rw[←hnn,←hbb])
    cbv;repeat'((first|refine .y fun h=>?_|fail)<;>cbv)
    all_goals first
     |exact absurd rfl ‹_›
     |exact absurd ‹_› (by decide)
     |(exfalso;omega)
     |(refine .q9 ?_;cbv;exact .inl (.f9 hK))
def aiN:cQ:=WG (fun n:Nd=>[jW n]) (fun n=>dG n) fun _=>true
theorem acP (P:bG):bL P apN aiN:=by
 intro args H K hc;obtain⟨⟨kind,field,text,num⟩,rfl,rfl,hp,hK⟩:=hc;refine⟨cW,?_⟩;dsimp only at hp hK⊢;unfold dG at hp;dsimp only at hp;rcases hp with rfl|rfl|rfl
 all_goals
  cbv;repeat'((first|refine .n fun h=>?_|refine .y fun h=>?_|fail)<;>cbv)
  all_goals first
   |exact absurd rfl ‹_›
   |exact absurd ‹_› (by decide)
   |(refine .q9 ?_;cbv;exact .inl (.f9 hK))
def ahV:cQ:=WG (fun l:List Nd=>[vW l]) (fun _=>True) fun _=>false
theorem abL (P:bG):bL P apN ahV:=by
 intro args H K hc;obtain⟨l,rfl,rfl,hp,hK⟩:=hc;refine⟨cW,?_⟩;dsimp only at hp hK⊢;unfold vW;cbv;repeat'((first|refine .n fun h=>?_|fail)<;>cbv)
 all_goals first
  |exact absurd rfl ‹_›
  |exact absurd ‹_› (by decide)
  |(refine .q9 ?_;cbv;exact .inl (.f9 hK))
structure amA where
 c:Cr
 k:Int
 n:Nd
structure ajD (i:amA):Prop where
 k:0≤i.k∧i.k≤5
 h:W6 i.k i.n.field=true
 p:dG i.n
 a:i.n.kind=3→WS i.n.field=0∨(WS i.n.field=1∧lO i.n.text=true∧0≤iU i.n.text)
 b:i.n.kind≠3→WS i.n.field≠0
 z:i.n.text.size≤281474976710656
def aoQ:cQ:=spec (fun i:amA=>[vS i.c,.i i.k,jW i.n]) (fun _=>[]) ajD (fun _=>.i 0) fun _=>[]
theorem aaI (P:bG) (hh:bH P 241 ahJ) (ht:bH P 242 aoS) (hv:bH P 243 ahY):bL P asI aoQ:=by
 intro args H K hc;obtain⟨⟨⟨number,applicant,beneficiary,issuer,confirmer,frm,to,cur,amt,above,below,latest,expiry,within,tenor,partial_,change,needs⟩,k,⟨kind,field,text,num⟩⟩,rfl,rfl,hp,hK⟩:=hc;refine⟨cW,?_⟩;dsimp only at hp hK⊢;obtain⟨hk,hhs,hpl,ha,hb,hz⟩:=hp;unfold dG at hpl
 try dsimp only at hk hhs hpl ha hb hz
 have hty:∃j:Nat,j < 6∧W6 (nI j) field=true:=⟨k.toNat,by omega,by rw[show nI k.toNat=k by(show ((k.toNat:Nat):Int)=k);omega];exact hhs⟩
 obtain⟨t,htt⟩:∃t,t=WS field:=⟨_,rfl⟩
 rw[←htt]at ha hb;cbv
 (refine hP hh ((k,field):Int×bF) hk ?_;try dsimp only)
 rw[hhs];cbv
 (refine hP ht field hty ?_;try dsimp only)
 rw[←htt];rcases hpl with rfl|rfl|rfl
 ·have hva:t≠0→(Yt (text,t)).2=true:=fun h=>by
   rcases ha rfl with h2|⟨h2,h3,h4⟩
   ·exact absurd h2 h
   ·unfold Yt;rw[aF ⟨h2,h3,h4⟩]
  have ht01:t=0∨t=1:=by rcases ha rfl with h2|⟨h2,_,_⟩;exact .inl h2;exact .inr h2
  obtain⟨r,hr⟩:∃r,r=Yt (text,t):=⟨_,rfl⟩
  rw[←hr]at hva;obtain⟨v1,v2⟩:=r;dsimp only at hva;cbv;repeat'((first|refine .n fun h=>?_|refine .y fun h=>?_|fail)<;>cbv)
  all_goals first
   |exact absurd rfl ‹_›
   |exact absurd ‹_› (by decide)
   |((refine hP hv ((text,t):bF×Int) ⟨hz,ht01⟩ ?_;try dsimp only);rw[←hr])
   |skip
  rcases ht01 with rfl|rfl
  ·cbv;repeat'((first|refine .y fun h=>?_|fail)<;>cbv)
   all_goals first
    |exact absurd rfl ‹_›
    |exact absurd ‹_› (by decide)
    |(refine .q9 ?_;cbv;exact .inl (.f9 hK))
  ·obtain rfl:=hva (by decide);cbv;repeat'((first|refine .n fun h=>?_|fail)<;>cbv)
   all_goals first
    |exact absurd rfl ‹_›
    |exact absurd ‹_› (by decide)
    |(refine .q9 ?_;cbv;exact .inl (.f9 hK))
 all_goals
  have hb2:=hb (by decide);cbv;repeat'((first|refine .n fun h=>?_|refine .y fun h=>?_|fail)<;>cbv)
  all_goals first
   |exact absurd rfl ‹_›
   |exact absurd ‹_› hb2
   |exact absurd ‹_› (by decide)
   |(refine .q9 ?_;cbv;exact .inl (.f9 hK))
def anZ:cQ:=spec (fun i:List Fa×Fa=>[mD i.2,.ptr 1 0,.ptr 0 0]) (fun i=>[.blk 38 [.hd 3],.blk 91 [.hd 2],.map 91 (bK nZ i.1),.row 44 4 (bK mD i.1)]) (fun i=>i.1.length≤1000000) (fun _=>.tup []) fun i=>[.blk 38 [.hd 3],.blk 91 [.hd 2],.map 91 (bK nZ (eD i.1 i.2)),.row 44 4 (bK mD (eD i.1 i.2))]
theorem abN (P:bG):bL P atD anZ:=by
 intro args H K hc;obtain⟨⟨F,⟨paper,kind,field,why⟩⟩,rfl,rfl,hp,hK⟩:=hc;refine⟨cW,?_⟩;dsimp only at hp hK⊢
 try dsimp only at hp
 unfold eD at hK;obtain⟨b,hb⟩:∃b,b=lH F ⟨paper,kind,field,why⟩:=⟨_,rfl⟩
 rw[←hb]at hK;cbv;refine uI (f:=⟨paper,kind,field,why⟩) (fun h1 i=>?_) (fun h1=>?_)
 ·obtain rfl:b=true:=hb.trans h1;cbv
  (refine .q9 ?_;cbv;exact .inl (.f9 hK))
 ·obtain rfl:b=false:=hb.trans h1;cbv;refine uI (f:=⟨paper,kind,field,why⟩) (fun h2 i=>by rw[h1]at h2;cases h2) (fun h2=>?_);cbv;repeat'((first|refine .zl fun zs hzs hzl=>?_|refine .ms fun ms hms=>?_|fail)<;>cbv)
  obtain⟨F2,hF2⟩:∃F2,F2=F++[(⟨paper,kind,field,why⟩:Fa)]:=⟨_,rfl⟩
  rw[aE (by decide),←hF2]at hK;obtain rfl:ms=bK nZ F2:=by rw[hF2,cP,cS];exact hms
  obtain rfl:zs=bK mD F2:=by rw[hF2,cP,cS];exact hzs
  (refine .q9 ?_;cbv;exact .inl (.f9 hK))
structure CkI where
 c:Cr
 F:List Fa
 j:Nat
 n:Ne
def CkH:CkI→List cC
 |⟨⟨number,applicant,beneficiary,issuer,confirmer,frm,to,cur,amt,above,below,latest,expiry,within,tenor,partial_,change,needs⟩,F,j,⟨kind,rules⟩⟩=>[.blk 33 [.str number,.str applicant,.str beneficiary,.str issuer,.str confirmer,.str frm,.str to,.str cur,.i amt,.i above,.i below,.i latest,.i expiry,.i within,.i tenor,.bl partial_,.bl change,.sl 8 (bK iQ needs)],.blk 38 [.hd 5],.map 91 (bK nZ F),.blk 91 [.hd 2],.blk 93 [.clo 168 [.ptr 3 0,.ptr 1 0]],.row 44 4 (bK mD F),.blk 3 [.i (nI j)],.blk 102 [.i kind,.i 1,.i 0,.i 0,.str ⟨#[]⟩,.str ⟨#[]⟩,.i 0,.sl 6 (bK jW rules)]]
def adP (k:Int) (n:Nd):Prop:=∀c,ajD ⟨c,k,n⟩
def clG:AV:=.clo 170 [.ptr 0 0,.ptr 7 0,.ptr 4 0,.ptr 6 0]
def alM:cQ:=spec (fun i:CkI×Nd=>[jW i.2,.ptr 0 0,.ptr 7 0,.ptr 4 0,.ptr 6 0]) (fun i=>CkH i.1) (fun i=>adP i.1.n.kind i.2) (fun _=>.tup []) fun i=>CkH i.1
theorem aaE (P:bG) (hw:bH P 171 aoQ):bL P atG alM:=by
 intro args H K hc;obtain⟨⟨⟨⟨number,applicant,beneficiary,issuer,confirmer,frm,to,cur,amt,above,below,latest,expiry,within,tenor,partial_,change,needs⟩,F,j,⟨nk,rules⟩⟩,⟨kind,field,text,num⟩⟩,rfl,rfl,hp,hK⟩:=hc;refine⟨cW,?_⟩;dsimp only at hp hK⊢;unfold CkH at hK⊢;dsimp only at hK⊢;cbv
 (refine hP hw (⟨⟨number,applicant,beneficiary,issuer,confirmer,frm,to,cur,amt,above,below,latest,expiry,within,tenor,partial_,change,needs⟩,nk,⟨kind,field,text,num⟩⟩:amA) (hp _) ?_;try dsimp only)
 cbv;repeat'((first|refine .y fun h=>?_|fail)<;>cbv)
 all_goals first
  |exact absurd rfl ‹_›
  |exact absurd ‹_› (by decide)
  |(refine .q9 ?_;cbv;exact .inl (.f9 hK))
def aeV:cQ:=spec (fun i:CkI×Nd=>[jW i.2,clG]) (fun i=>CkH i.1) (fun i=>adP i.1.n.kind i.2) (fun _=>.tup []) fun i=>CkH i.1
theorem Zs (P:bG) (ha:bH P 240 aiN) (m:cL P 170) (hg:bH P 170 alM):bL P aqV aeV:=by
 intro args H K hc;obtain⟨⟨⟨⟨number,applicant,beneficiary,issuer,confirmer,frm,to,cur,amt,above,below,latest,expiry,within,tenor,partial_,change,needs⟩,F,j,⟨nk,rules⟩⟩,⟨kind,field,text,num⟩⟩,rfl,rfl,hp,hK⟩:=hc;refine⟨cW,?_⟩;dsimp only at hp hK⊢;have hpl:dG ⟨kind,field,text,num⟩:=(hp ⟨number,applicant,beneficiary,issuer,confirmer,frm,to,cur,amt,above,below,latest,expiry,within,tenor,partial_,change,needs⟩).p;unfold CkH at hK⊢;dsimp only at hK⊢;unfold clG;cbv
 (refine hP ha (⟨kind,field,text,num⟩:Nd) hpl ?_;try dsimp only)
 cbv;repeat'((first|refine And.intro ?_ ?_|fail)<;>cbv)
 ·exact m
 (refine jR hg ((⟨⟨number,applicant,beneficiary,issuer,confirmer,frm,to,cur,amt,above,below,latest,expiry,within,tenor,partial_,change,needs⟩,F,j,⟨nk,rules⟩⟩,⟨kind,field,text,num⟩):CkI×Nd) [0,1,2,3,4,5,6,7] hp ?_;try dsimp only)
 unfold CkH;cbv
 (refine .q9 ?_;cbv;exact .inl (.f9 hK))
def aeC:cQ:=spec (fun i:CkI=>[vW i.n.rules,clG]) (fun i=>CkH i) (fun i=>i.n.rules.length≤64∧∀n∈i.n.rules,adP i.n.kind n) (fun _=>.tup []) fun i=>CkH i
theorem Y1 (P:bG) (ha:bH P 240 ahV) (hg:bH P 169 aeV):bL P aqV aeC:=by
 intro args H K hc;obtain⟨⟨⟨number,applicant,beneficiary,issuer,confirmer,frm,to,cur,amt,above,below,latest,expiry,within,tenor,partial_,change,needs⟩,F,j,⟨kind,rules⟩⟩,rfl,rfl,hp,hK⟩:=hc;refine⟨cW,?_⟩;dsimp only at hp hK⊢;obtain⟨hl,hr⟩:=hp
 try dsimp only at hl hr
 have hml:=bN jW rules;unfold CkH at hK⊢;dsimp only at hK⊢;unfold clG vW;cbv
 (refine hP ha rules trivial ?_;try dsimp only)
 cbv;repeat'((first|refine .y fun h=>?_|refine .k fun z hz=>?_|fail)<;>cbv)
 all_goals first
  |exact absurd rfl ‹_›
  |exact absurd ‹_› (by decide)
  |skip
 refine bZ [] (fun q:{ k:Nat // k≤rules.length }=>[(29,.i (nI q.1))]) (fun _=>[.blk 33 [.str number,.str applicant,.str beneficiary,.str issuer,.str confirmer,.str frm,.str to,.str cur,.i amt,.i above,.i below,.i latest,.i expiry,.i within,.i tenor,.bl partial_,.bl change,.sl 8 (bK iQ needs)],.blk 38 [.hd 5],.map 91 (bK nZ F),.blk 91 [.hd 2],.blk 93 [.clo 168 [.ptr 3 0,.ptr 1 0]],.row 44 4 (bK mD F),.blk 3 [.i (nI j)],.blk 102 [.i kind,.i 1,.i 0,.i 0,.str ⟨#[]⟩,.str ⟨#[]⟩,.i 0,.sl 6 (bK jW rules)],.blk 100 [.i 0,.i 0,.str ⟨#[]⟩,.str ⟨#[]⟩,.i 0,.sl 6 (bK jW rules)]]) (fun q=>iH 65 q.1) ⟨0,aI _⟩ ?_;rintro ⟨k,hk⟩
 try dsimp only at hk⊢
 rcases aL k rules.length with hks|hks
 ·obtain⟨x,hx⟩:=cY hks;have hrx:=hr x (aC hx);obtain⟨kd,field,text,num⟩:=x;cbv;repeat'((first|refine .e ?_|refine .y fun h=>?_|fail)<;>cbv)
  (refine jR hg ((⟨⟨number,applicant,beneficiary,issuer,confirmer,frm,to,cur,amt,above,below,latest,expiry,within,tenor,partial_,change,needs⟩,F,j,⟨kind,rules⟩⟩,⟨kd,field,text,num⟩):CkI×Nd) [0,1,2,3,4,5,6,7] hrx ?_;try dsimp only)
  unfold CkH;cbv;repeat'((first|refine .k fun z hz=>?_|fail)<;>cbv)
  obtain rfl:z=nI (k+1):=bR;exact bP ⟨k+1,by exact bR⟩ (bQ bR)
 ·cbv;repeat'((first|refine .n fun h=>?_|fail)<;>cbv)
  (refine .q9 ?_;cbv;exact .inl (.f9 hK))
set_option maxHeartbeats 2000000
def A8:Go.Shelf.Ren:=⟨fun|6=>326|14=>335|15=>205|20=>339|21=>340|22=>341|23=>342|24=>343|25=>344|26=>345|27=>346|28=>276|29=>277|46=>347|47=>310|48=>311|49=>348|50=>349|57=>350|n=>n,fun|0=>0|3=>3|4=>4|5=>5|9=>9|22=>81|24=>295|25=>359|39=>209|45=>313|46=>314|50=>289|53=>269|55=>271|66=>339|70=>343|76=>354|77=>355|n=>n,fun|n=>n⟩
theorem FZ:Go.Proofs.SlLaysF0.n6 Tryz.prog A8:={
 mixed:=by kernel_rfl
 f6 := ⟨"slices.SortFunc[[]supercargo/api.Lot,supercargo/api.Lot]", by kernel_rfl, Tryz.func326.trans (congrArg some (by kernel_rfl))⟩
 f14 := ⟨"slices.pdqsortCmpFunc[supercargo/api.Lot]", by kernel_rfl, Tryz.func335.trans (congrArg some (by kernel_rfl))⟩
 f15:=Tryz.func205.trans (congrArg some (by kernel_rfl))
 f20 := ⟨"slices.insertionSortCmpFunc[supercargo/api.Lot]", by kernel_rfl, Tryz.func339.trans (congrArg some (by kernel_rfl))⟩
 f21 := ⟨"slices.heapSortCmpFunc[supercargo/api.Lot]", by kernel_rfl, Tryz.func340.trans (congrArg some (by kernel_rfl))⟩
 f22 := ⟨"slices.breakPatternsCmpFunc[supercargo/api.Lot]", by kernel_rfl, Tryz.func341.trans (congrArg some (by kernel_rfl))⟩
 f23 := ⟨"slices.choosePivotCmpFunc[supercargo/api.Lot]", by kernel_rfl, Tryz.func342.trans (congrArg some (by kernel_rfl))⟩
 f24 := ⟨"slices.reverseRangeCmpFunc[supercargo/api.Lot]", by kernel_rfl, Tryz.func343.trans (congrArg some (by kernel_rfl))⟩
 f25 := ⟨"slices.partialInsertionSortCmpFunc[supercargo/api.Lot]", by kernel_rfl, Tryz.func344.trans (congrArg some (by kernel_rfl))⟩
 f26 := ⟨"slices.partitionEqualCmpFunc[supercargo/api.Lot]", by kernel_rfl, Tryz.func345.trans (congrArg some (by kernel_rfl))⟩
 f27 := ⟨"slices.partitionCmpFunc[supercargo/api.Lot]", by kernel_rfl, Tryz.func346.trans (congrArg some (by kernel_rfl))⟩
 f28:=Tryz.func276.trans (congrArg some (by kernel_rfl))
 f29:=Tryz.func277.trans (congrArg some (by kernel_rfl))
 f46 := ⟨"slices.siftDownCmpFunc[supercargo/api.Lot]", by kernel_rfl, Tryz.func347.trans (congrArg some (by kernel_rfl))⟩
 f47:=Tryz.func310.trans (congrArg some (by kernel_rfl))
 f48:=Tryz.func311.trans (congrArg some (by kernel_rfl))
 f49 := ⟨"slices.medianAdjacentCmpFunc[supercargo/api.Lot]", by kernel_rfl, Tryz.func348.trans (congrArg some (by kernel_rfl))⟩
 f50 := ⟨"slices.medianCmpFunc[supercargo/api.Lot]", by kernel_rfl, Tryz.func349.trans (congrArg some (by kernel_rfl))⟩
 f57 := ⟨"slices.order2CmpFunc[supercargo/api.Lot]", by kernel_rfl, Tryz.func350.trans (congrArg some (by kernel_rfl))⟩
 t0:=Tryz.underlying0
 a0:=Tryz.isAgg0
 z0:=Tryz.sizeOf0
 v0:=Tryz.zeroValue0
 t3:=Tryz.underlying3
 a3:=Tryz.isAgg3
 z3:=Tryz.sizeOf3
 v3:=Tryz.zeroValue3
 t4:=Tryz.underlying4
 a4:=Tryz.isAgg4
 z4:=Tryz.sizeOf4
 v4:=Tryz.zeroValue4
 t5:=Tryz.underlying5
 a5:=Tryz.isAgg5
 z5:=Tryz.sizeOf5
 v5:=Tryz.zeroValue5
 t9:=Tryz.underlying9
 a9:=Tryz.isAgg9
 z9:=Tryz.sizeOf9
 v9:=Tryz.zeroValue9
 t22:=Tryz.underlying81
 a22:=Tryz.isAgg81
 z22:=Tryz.sizeOf81
 v22:=Tryz.zeroValue81
 t25:=Tryz.underlying359
 a25:=Tryz.isAgg359
 z25:=Tryz.sizeOf359
 v25:=Tryz.zeroValue359
 t39:=Tryz.underlying209
 a39:=Tryz.isAgg209
 z39:=Tryz.sizeOf209
 v39:=Tryz.zeroValue209
 t45:=Tryz.underlying313
 a45:=Tryz.isAgg313
 z45:=Tryz.sizeOf313
 v45:=Tryz.zeroValue313
 t46:=Tryz.underlying314
 a46:=Tryz.isAgg314
 z46:=Tryz.sizeOf314
 v46:=Tryz.zeroValue314
 t50:=Tryz.underlying289
 a50:=Tryz.isAgg289
 z50:=Tryz.sizeOf289
 v50:=Tryz.zeroValue289
 t53:=Tryz.underlying269
 a53:=Tryz.isAgg269
 z53:=Tryz.sizeOf269
 v53:=Tryz.zeroValue269
 t55:=Tryz.underlying271
 a55:=Tryz.isAgg271
 z55:=Tryz.sizeOf271
 v55:=Tryz.zeroValue271
 t66:=Tryz.underlying339
 a66:=Tryz.isAgg339
 z66:=Tryz.sizeOf339
 v66:=Tryz.zeroValue339
 t70:=Tryz.underlying343
 a70:=Tryz.isAgg343
 z70:=Tryz.sizeOf343
 v70:=Tryz.zeroValue343
 t76:=Tryz.underlying354
 a76:=Tryz.isAgg354
 z76:=Tryz.sizeOf354
 v76:=Tryz.zeroValue354
 t77:=Tryz.underlying355
 a77:=Tryz.isAgg355
 z77:=Tryz.sizeOf355
 v77:=Tryz.zeroValue355 }
def eY (x:Lo):List Value:=[.string x.good,.int .i64 x.count]
instance:Inhabited Lo:=⟨⟨⟨#[]⟩,0⟩⟩
def aeN (x y:bF):Int:=if Op.bytesLess x.toList y.toList=true then -1 else if (x.toList == y.toList)=true then 0 else 1
def tI (x y:Lo):Int:=aeN x.good y.good
theorem Jy:∀l:List UInt8,Op.bytesLess l l=false
 |[]=>rfl
 |a :: l=>by
  show (decide (a < a) || (a == a && Op.bytesLess l l))=false;rw[Jy l];simp
theorem D9:∀l m:List UInt8,Op.bytesLess l m=true↔l < m
 |[],[]=>by simp[Op.bytesLess]
 |[],b :: m=>by simp[Op.bytesLess]
 |a :: l,[]=>by simp[Op.bytesLess]
 |a :: l,b :: m=>by
  show (decide (a < b) || (a == b && Op.bytesLess l m))=true↔_;rw[List.cons_lt_cons_iff,←D9 l m];simp
theorem Pb:Sort.SWO (ltOf tI):=by
 have key:∀x y:Lo,ltOf tI x y=Op.bytesLess x.good.toList y.good.toList:=fun x y=>by
  unfold ltOf tI aeN
  split
  ·rename_i h;rw[h];rfl
  ·rename_i h;rw[Bool.eq_false_iff.2 h]
   split<;>rfl
 refine⟨fun x=>?_,fun x y z h1 h2=>?_,fun x y z h1 h2=>?_⟩
 ·rw[key];exact Jy _
 ·rw[key]at h1 h2⊢;rw[D9]at h1 h2⊢;exact List.lt_trans h1 h2
 ·rw[key]at h1 h2⊢;rw[Bool.eq_false_iff,ne_eq,D9]at h1 h2⊢;exact fun h=>by
   have h3:=List.not_lt.1 h1;have h4:=List.not_lt.1 h2;exact List.not_lt.2 (List.le_trans h4 h3) h
end Go.Proofs.YtooioahiijbomaaGreatDoor
end
