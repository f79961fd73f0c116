/-
  Texts of this proof,joined: CWN,CWV,CYA,CYB,CYC,CYD,CYE,CYF,CYG,CYN,CYO,CYP,CJS,CYH,CAV,CYM,SGA,SGB,SG3,CJA,CYI,CYJ,VO,CYZ,JF.
-/
import Derived.Test.YtigdiekbiphhmaaGreatDoorP7
import Derived.KernelRfl
import Derived.Deep.Slices
import Derived.Deep.Fields
import Derived.ChangeSame
import Derived.ProofKit
import Derived.OpenShut
import Derived.ChangeOld
import Derived.Below
import Derived.Test.YtigdiekbiphhmaaGreatDoorChecked
import Derived.Test.YtigdiekbiphhmaaGreatDoorRows
import Derived.JoinedOf
set_option linter.unusedVariables false
set_option linter.unusedSimpArgs false
noncomputable section
namespace Go.Proofs.YtigdiekbiphhmaaGreatDoor
open Go.RowKit
set_option maxHeartbeats 8000000
set_option maxRecDepth 100000
structure UE (b:Br):Prop where
 n:b.b.number.size≤1000
 h0:b.o0.holder.size≤1000
 h1:b.o1.holder.size≤1000
 h2:b.o2.holder.size≤1000
 s0:0≤b.o0.state∧b.o0.state≤3
 s1:0≤b.o1.state∧b.o1.state≤3
 s2:0≤b.o2.state∧b.o2.state≤3
structure UU (s:iE) (x:Cs):Prop where
 de:s.deals.length≤8
 S:x.S.length=s.deals.length
 F:x.free.length=s.deals.length
 dz:∀d∈s.deals,d.number.size≤300
 st:∀z∈x.S,0≤z∧z≤4
 few:x.reg.bills.length≤256
 bz:∀b∈x.reg.bills,UE b
 H:x.H.length≤40000
 hz:∀h∈x.H,h.box.size≤1000∧h.to.size≤1000∧h.place.size≤1000
def zO:dO:=spec (fun q:iE×bH×Cs=>[Gy q.1,.str q.2.1,Ei q.2.2]) (fun _=>[]) (fun q=>UU q.1 q.2.2) (fun q=>.str (iC (A6 q.1.su q.2.1 q.2.2))) fun _=>[]
theorem cW (s t:bH):iT (s++t)=iT s++iT t:=by
 obtain⟨⟨l⟩⟩:=s;obtain⟨⟨m⟩⟩:=t;unfold iT;rw[ByteArray.data_append];exact Array.toList_append ..
theorem cP (l:List UInt8):iT (iC l)=l:=rfl
theorem eU (l:List UInt8):(iC l).size=l.length:=rfl
theorem mY (s:bH):(iT s).length=s.size:=rfl
theorem kK {W:List bH}{f:bH→List UInt8}{c:Nat}(h:∀x∈W,(f x).length≤c):(W.flatMap f).length≤c * W.length:=by
 induction W with
 |nil=>exact aI _
 |cons a W ih=>
  rw[List.flatMap_cons,aM,List.length_cons,Nat.mul_succ];have h1:=h a (bD ..);have h2:=ih fun x hx=>h x (aW _ hx)
  omega
theorem sW (z:Int):(pB z).length≤9:=by unfold pB;(repeat' split)<;>decide
theorem wV (z:Int):(tO z).length≤7:=by unfold tO;(repeat' split)<;>decide
theorem Ar (b:Bool):(K5 b).length≤8:=by cases b<;>decide
theorem BQ (d:Dp):(sH d).length≤d.number.size+30:=by
 unfold sH;have h1:=sW d.state;have h2:=Ar d.rel;have h3:=mY d.number;have h4:IU.length=5:=rfl;simp only[aM,List.length_cons,List.length_nil];omega
theorem iM (n:bH) (k:UInt8) (o:Og):(iS n k o).length≤n.size+o.holder.size+30:=by
 unfold iS;have h1:=wV o.state;have h2:=mY n;have h3:=mY o.holder;have h4:Rf.length=9:=rfl;simp only[aM,List.length_cons,List.length_nil];omega
def Am (name:bH) (D:List jM):List bH:=(D.map jM.de).foldl (fun l d=>if d.carrier=name then nP l d.number else l) []
theorem wL (name:bH) (D:List jM):(Am name D).length≤D.length:=by
 have h:∀(D:List De) (l:List bH),(D.foldl (fun l d=>if d.carrier=name then nP l d.number else l) l).length≤l.length+D.length:=by
  intro D
  induction D with
  |nil=>intro l;exact aN _
  |cons a D ih=>
   intro l;rw[List.foldl_cons,List.length_cons];refine Nat.le_trans (ih _) ?_
   split
   ·have:=El l a.number;omega
   ·omega
 have:=h (D.map jM.de) [];rw[aJ]at this;exact Nat.le_trans this (by simp)
theorem QH {z:Int}(h:0≤z∧z≤4):∃m w,z=Int.ofNat m∧([.str ⟨#[110,111,116,104,105,110,103]⟩,.str ⟨#[116,97,107,101,110]⟩,.str ⟨#[97,98,111,97,114,100]⟩,.str ⟨#[108,97,110,100,101,100]⟩,.str ⟨#[100,101,108,105,118,101,114,101,100]⟩]:List AV)[m]?=some (.str w)∧w=iC (pB z)∧w.size≤9:=by
 obtain⟨m,rfl⟩:∃m:Nat,z=Int.ofNat m:=⟨z.toNat,by simp;omega⟩
 refine⟨m,iC (pB (Int.ofNat m)),rfl,?_,rfl,sW _⟩;have hm:m≤4:=by have:=h.2;simp at this;omega
 match m,hm with
 |0,_=>rfl
 |1,_=>rfl
 |2,_=>rfl
 |3,_=>rfl
 |4,_=>rfl
theorem Dv {z:Int}(h:0≤z∧z≤3):∃m w,z=Int.ofNat m∧([.str ⟨#[108,105,118,101]⟩,.str ⟨#[100,111,110,101]⟩,.str ⟨#[118,111,105,100]⟩,.str ⟨#[108,111,115,116]⟩]:List AV)[m]?=some (.str w)∧w=iC (tO z)∧w.size≤7:=by
 obtain⟨m,rfl⟩:∃m:Nat,z=Int.ofNat m:=⟨z.toNat,by simp;omega⟩
 refine⟨m,iC (tO (Int.ofNat m)),rfl,?_,rfl,wV _⟩;have hm:m≤3:=by have:=h.2;simp at this;omega
 match m,hm with
 |0,_=>rfl
 |1,_=>rfl
 |2,_=>rfl
 |3,_=>rfl
theorem Hu:eN 0=⟨#[48]⟩:=by kernel_rfl
theorem GA:eN 1=⟨#[49]⟩:=by kernel_rfl
theorem Ip:eN 2=⟨#[50]⟩:=by kernel_rfl
def JX (o:bH) (y:Br):Nat→bH
 |0=>o
 |1=>o++iC (iS y.b.number 48 y.o0)
 |2=>o++iC (iS y.b.number 48 y.o0)++iC (iS y.b.number 49 y.o1)
 |_=>o++iC (iS y.b.number 48 y.o0)++iC (iS y.b.number 49 y.o1)++iC (iS y.b.number 50 y.o2)
theorem Q7 (o:bH) (y:Br):JX o y 3=o++iC (xI y):=by
 apply eD;show iT (o++iC (iS y.b.number 48 y.o0)++iC (iS y.b.number 49 y.o1)++iC (iS y.b.number 50 y.o2))=_;unfold xI;simp only[cW,cP,bG]
theorem IZ (o:bH) (y:Br) (h:UE y) (j:Nat):(JX o y j).size≤o.size+6200:=by
 have h1:=iM y.b.number 48 y.o0;have h2:=iM y.b.number 49 y.o1;have h3:=iM y.b.number 50 y.o2;have g0:=h.n;have g1:=h.h0;have g2:=h.h1;have g3:=h.h2
 match j with
 |0=>show o.size≤_;omega
 |1=>show (o++_).size≤_;rw[ByteArray.size_append,eU];omega
 |2=>show (o++_++_).size≤_;rw[ByteArray.size_append,ByteArray.size_append,eU,eU];omega
 |j+3=>show (o++_++_++_).size≤_;rw[ByteArray.size_append,ByteArray.size_append,ByteArray.size_append,eU,eU,eU];omega
theorem EG (L:List Br) (p:Br→Bool):(gR L p).length≤L.length:=by
 unfold gR eA;rw[aJ,List.length_mergeSort,aJ];exact List.length_filterMap_le ..
theorem Pu {L:List Br}{n:bH}(h:n∈gR L fun _=>true):∃i y,nN (fun b:Br=>decide (b.b.number=n)) L=Int.ofNat i∧L[i]?=some y∧y.b.number=n∧uX L n=xI y:=by
 obtain⟨b,hb,-,hn⟩:=Gt.1 h;rw[kU];cases hl:Ch L n with
 |none=>
  unfold Ch at hl;rw[List.find?_eq_none]at hl;exact absurd hn (by simpa using hl b hb)
 |some y=>
  have hy:y.b.number=n:=by have:=List.find?_some hl;simpa using this
  have h2:=hl;rw[O6]at h2;cases hi:qK L n with
  |none=>rw[hi]at h2;cases h2
  |some i=>
   rw[hi]at h2;refine⟨i,y,rfl,h2,hy,?_⟩;unfold uX;rw[hl]
theorem JS {H:List eF}{b:bH}(h:b∈iZ H):∃x∈H,x.box=b:=by
 rcases((wO H [] .nil).2 b).1 h with h|h
 ·cases h
 ·exact h
theorem EM (P:bI) (hput:bK P 62 Jk) (hde:bK P 13 mW) (hbi:bK P 36 D5) (hfi:bK P 63 rA) (hdi:bK P 64 (BD eN)) (hbx:bK P 39 yZ) (how:bK P 41 E2):bO P Zq zO:=by
 intro args H0 K hc;obtain⟨⟨s,name,x⟩,rfl,rfl,hp,hK⟩:=hc;refine⟨cM,?_⟩;dsimp only at hp hK⊢;obtain⟨hde8,hS,hF,hdz,hst,hfew,hbz,hH,hhz⟩:=hp;obtain⟨l1,hl1⟩:∃l,l=(BV s.su name).flatMap (BF s.su name x):=⟨_,rfl⟩
 obtain⟨l2,hl2⟩:∃l,l=(gR x.reg.bills fun _=>true).flatMap (uX x.reg.bills):=⟨_,rfl⟩
 obtain⟨l3,hl3⟩:∃l,l=(iZ x.H).flatMap fun b=>Fq b (iW x.H b):=⟨_,rfl⟩
 have htx:A6 s.su name x=l1++(l2++l3):=by rw[hl1,hl2,hl3];rfl
 rw[htx]at hK;clear htx;have hnk:BV s.su name=Am name s.deals:=rfl;obtain⟨nums,hnu⟩:∃l,l=BV s.su name:=⟨_,rfl⟩
 have hnul:nums.length≤8:=by rw[hnu,hnk];exact Nat.le_trans (wL _ _) hde8
 obtain⟨dT,hdT⟩:∃f,f=BF s.su name x:=⟨_,rfl⟩
 have hdat:∀n,n∈nums→∃i d st fr w m,dP s.su name n=some i∧x.S[i]?=some st∧x.free[i]?=some fr∧st=Int.ofNat m∧([.str ⟨#[110,111,116,104,105,110,103]⟩,.str ⟨#[116,97,107,101,110]⟩,.str ⟨#[97,98,111,97,114,100]⟩,.str ⟨#[108,97,110,100,101,100]⟩,.str ⟨#[100,101,108,105,118,101,114,101,100]⟩]:List AV)[m]?=some (.str w)∧w.size≤9∧n.size≤300∧dT n=IU++(iT n++(32 :: (iT w++(32 :: (K5 fr++[10])))))∧d=i:=fun n hn=>by
  rw[hnu]at hn;obtain⟨-,h2⟩:=qP name s.su.deals [] .nil;rcases(h2 n).1 hn with h|h
  ·cases h
  obtain⟨i,hi⟩:=sK.2 h;obtain⟨d,h1,h3,h4⟩:=nM hi;have hil:=(aA.1 h1).1;obtain⟨st,h5⟩:∃st,x.S[i]?=some st:=⟨_,aB (by rw[hS];exact hil)⟩
  obtain⟨fr,h6⟩:∃fr,x.free[i]?=some fr:=⟨_,aB (by rw[hF];exact hil)⟩
  obtain⟨m,w,h7,h8,h9,h10⟩:=QH (hst st (aC h5));refine⟨i,i,st,fr,w,m,hi,h5,h6,h7,h8,h10,?_,?_,rfl⟩
  ·rw[←h4];exact hdz d (aC h1)
  ·have h11:s.su.deals[i]?=some d.de:=by show (s.deals.map jM.de)[i]?=_;rw[aD,h1];rfl
   have h12:BF s.su name x n=sH (cN d.de st fr):=by unfold BF;rw[hi];dsimp only;rw[h11,h5,h6]
   have h13:iT w=pB st:=by rw[h9];rfl
   rw[hdT,h12,←h4,h13];rfl
 have hl1':l1=nums.flatMap dT:=by rw[hl1,hnu,hdT]
 have hdTl:∀n,n∈nums→(dT n).length≤400:=fun n hn=>by
  obtain⟨i,d,st,fr,w,m,-,-,-,-,-,h1,h2,h3,-⟩:=hdat n hn;rw[h3];have g1:=Ar fr;have g2:=mY n;have g3:=mY w;have g4:IU.length=5:=rfl;simp only[aM,List.length_cons,List.length_nil];omega
 clear hdT hl1;have hnu2:nums=Am name s.deals:=hnu.trans hnk;clear hnu hnk hst hdz hS hF;obtain⟨parties,deals,funds,rest,holidays⟩:=s;obtain⟨S,free,⟨c,L⟩,H,D⟩:=x;dsimp only at hde8 hfew hbz hH hhz hdat hl2 hl3 hnu2;obtain⟨nd,hnd⟩:∃n:Nat,n=deals.length:=⟨_,rfl⟩
 cbv;refine fX (Gh.adopt 7 9 1 rfl) ?_;cbv;refine fX (Gh.plain 2 rfl) ?_;cbv;refine bS [] (fun p:{ k:Nat // k≤deals.length }=>[(7,.sl 1 (bJ .str (Am name (deals.take p.1)))),(8,.i (nI p.1))]) (fun p=>[.blk 29 [.sl 3 (bJ jP parties),.sl 17 (bJ iY deals),.sl 3 (bJ kA funds),.sl 1 (bJ dD rest),.sl 1 (bJ dD holidays)],.blk 41 [.sl 1 (bJ dD S),.sl 1 (bJ mK free),.str c,.sl 11 (bJ iL L),.sl 5 (bJ dB H),.sl 5 (bJ dB D)]]) (fun p=>fE nd p.1) ⟨0,aI _⟩ ?_;rintro ⟨k,hk⟩;dsimp only at hk⊢;obtain⟨L1,hL1⟩:∃l,l=Am name (deals.take k):=⟨_,rfl⟩
 have hL1l:L1.length≤8:=by rw[hL1];exact Nat.le_trans (wL _ _) (by rw[aS];omega)
 rw[←hL1];rcases aL k deals.length with hks|hks
 ·obtain⟨d,hx⟩:=cJ hks;have hsn:Am name (deals.take (k+1))=if d.carrier=name then nP L1 d.number else L1:=by
   rw[cY hx,hL1];unfold Am;rw[List.map_append,List.foldl_append];rfl
  clear hdat hdTl hl1' hl2 hl3 hnu2 hhz hbz;obtain⟨dn,dsel,dbuy,dcar,diss,dhou,dins,dfrm,dto,dcur,damt,dbx,dterm,dlat,dexp,dten,dduty⟩:=d;dsimp only at hsn;cbv;repeat'((first|refine .e ?_|refine .y fun h=>?_|refine .mk (fun h=>?_) fun h=>?_|refine .k fun z hz=>?_|fail)<;>cbv)
  ·(refine ZN hput ((L1,dn):List bH×bH) (by dsimp only;omega) ?_;try dsimp only)
   rw[aF (by assumption)]at hsn;rw[←hsn];cbv;repeat'((first|refine .k fun z hz=>?_|fail)<;>cbv)
   obtain rfl:z=nI (k+1):=bQ;exact bM ⟨k+1,hks⟩ (bN (by omega))
  ·rw[aE (by assumption)]at hsn;rw[←hsn];obtain rfl:z=nI (k+1):=bQ;exact bM ⟨k+1,hks⟩ (bN (by omega))
 obtain rfl:L1=nums:=by rw[hL1,hnu2,bC hks]
 clear hL1 hnu2 hL1l;cbv;repeat'((first|refine .n fun h=>?_|refine .k fun z hz=>?_|fail)<;>cbv)
 clear hz;obtain⟨n,hn⟩:∃n:Nat,n=L1.length:=⟨_,rfl⟩
 refine bS [] (fun p:{ k:Nat // k≤L1.length }=>[(9,.str (iC ((L1.take p.1).flatMap dT))),(10,.i (nI p.1))]) (fun p=>[.blk 29 [.sl 3 (bJ jP parties),.sl 17 (bJ iY deals),.sl 3 (bJ kA funds),.sl 1 (bJ dD rest),.sl 1 (bJ dD holidays)],.blk 41 [.sl 1 (bJ dD S),.sl 1 (bJ mK free),.str c,.sl 11 (bJ iL L),.sl 5 (bJ dB H),.sl 5 (bJ dB D)]]) (fun p=>fE n p.1) ⟨0,aI _⟩ ?_;rintro ⟨k,hk⟩;dsimp only at hk⊢;obtain⟨o1,ho1⟩:∃o,o=iC ((L1.take k).flatMap dT):=⟨_,rfl⟩
 have ho1l:o1.size≤3200:=by
  rw[ho1,eU];refine Nat.le_trans (kK (c:=400) fun x hx=>hdTl x (List.mem_of_mem_take hx)) ?_;rw[aS];omega
 rw[←ho1];rcases aL k L1.length with hks|hks
 ·obtain⟨nm,hx⟩:=cJ hks;obtain⟨i,-,st,fr,w,m,hdi,hst,hfr,hm,hw,hwz,hnz,heq,-⟩:=hdat nm (aC hx);have hml:=(aA.1 hw).1;have hsn:iC ((L1.take (k+1)).flatMap dT)=o1++iC (dT nm):=by
   apply eD;rw[cY hx,cW,ho1,cP,cP,cP,List.flatMap_append];simp
  clear hdat hdTl hl1' hl2 hl3 hhz hbz ho1;have hsz1:(ByteArray.mk #[100,101,97,108,32]).size=5:=rfl;have hsz2:(ByteArray.mk #[32]).size=1:=rfl;have hsz3:(ByteArray.mk #[10]).size=1:=rfl;have hsz4:(ByteArray.mk #[104,101,108,100]).size=4:=rfl;have hsz5:(ByteArray.mk #[114,101,108,101,97,115,101,100]).size=8:=rfl;cbv;repeat'((first|refine .e ?_|refine .y fun h=>?_|refine .k fun z hz=>?_|fail)<;>cbv)
  (refine ZN hde ((⟨parties,deals,funds,rest,holidays⟩,name,nm):iE×bH×bH) hde8 ?_;try dsimp only)
  rw[hdi];cases fr with
  |true=>
   cbv;repeat'((first|refine .e ?_|refine .u fun u hu hul=>?_|fail)<;>cbv)
   refine⟨m,hm,hml,?_⟩;cbv;refine⟨m,.str w,rfl,hw,?_⟩;cbv;repeat'((first|refine .k fun z hz=>?_|refine .u fun u hu hul=>?_|fail)<;>cbv)
   obtain rfl:z=nI (k+1):=bQ;obtain rfl:u=iC ((L1.take (k+1)).flatMap dT):=by
    rw[hsn,heq];clear hdi hx hst hfr hw;apply eD
    subst_vars
    simp only[cW,cP,bG];rfl
   exact bM ⟨k+1,hks⟩ (bN (by omega))
  |false=>
   cbv;repeat'((first|refine .e ?_|refine .u fun u hu hul=>?_|fail)<;>cbv)
   refine⟨m,hm,hml,?_⟩;cbv;refine⟨m,.str w,rfl,hw,?_⟩;cbv;repeat'((first|refine .k fun z hz=>?_|refine .u fun u hu hul=>?_|fail)<;>cbv)
   obtain rfl:z=nI (k+1):=bQ;obtain rfl:u=iC ((L1.take (k+1)).flatMap dT):=by
    rw[hsn,heq];clear hdi hx hst hfr hw;apply eD
    subst_vars
    simp only[cW,cP,bG];rfl
   exact bM ⟨k+1,hks⟩ (bN (by omega))
 obtain rfl:k=n:=by omega
 have ho1':o1=iC l1:=by rw[ho1,hl1',bC hks]
 clear hdat hdTl hl1' ho1;clear hks;cbv;repeat'((first|refine .n fun h=>?_|refine .k fun z hz=>?_|fail)<;>cbv)
 (refine ZN hbi (⟨c,L⟩:Rg) hfew ?_;try dsimp only)
 rw[Qp];obtain⟨W,hW⟩:∃W,W=gR L fun _=>true:=⟨_,rfl⟩
 have hWl:W.length≤256:=by rw[hW];exact Nat.le_trans (EG L _) hfew
 have hWat:∀n,n∈W→∃i y,nN (fun b:Br=>decide (b.b.number=n)) L=Int.ofNat i∧L[i]?=some y∧y.b.number=n∧uX L n=xI y:=fun n hn=>Pu (hW ▸ hn)
 obtain⟨bF,hbF⟩:∃f,f=uX L:=⟨_,rfl⟩
 rw[←hbF]at hWat
 have hl2':l2=W.flatMap bF:=by rw[hl2,hW,hbF]
 rw[←hW];clear hl2 hW hbF;obtain⟨n,hn⟩:∃n:Nat,n=W.length:=⟨_,rfl⟩
 obtain⟨BL,hBL⟩:∃f:Nat→bH,f=fun k=>o1++iC ((W.take k).flatMap bF):=⟨_,rfl⟩
 have hB0:o1=BL 0:=by rw[hBL];apply eD;rw[cW];simp[cP]
 have hBs:∀k nm,W[k]?=some nm→BL (k+1)=BL k++iC (bF nm):=fun k nm hx=>by
  rw[hBL];apply eD;dsimp only;rw[cY hx,cW,cW,cW,cP,cP,cP,List.flatMap_append,bG];simp
 have hBl:∀k,(BL k).size≤1700000:=fun k=>by
  rw[hBL];dsimp only;rw[ByteArray.size_append,eU];have:=kK (W:=W.take k) (f:=bF) (c:=6200) fun nm hx=>by
   obtain⟨i,y,-,hy,-,he⟩:=hWat nm (List.mem_of_mem_take hx);rw[he];have h:=hbz y (aC hy);have g1:=iM y.b.number 48 y.o0;have g2:=iM y.b.number 49 y.o1;have g3:=iM y.b.number 50 y.o2;have:=h.n;have:=h.h0;have:=h.h1;have:=h.h2;unfold xI;rw[aM,aM];omega
  rw[aS]at this;omega
 have hBn:BL n=iC (l1++l2):=by
  rw[hBL,ho1',hl2',hn];apply eD;dsimp only;rw[cW,cP,cP,cP,List.take_length]
 have hBnl:(iC (l1++l2)).size≤1700000:=hBn ▸ hBl n;clear hBL hl2' ho1';rw[hB0];clear hB0;cbv;refine bS [] (fun p:{ k:Nat // k≤W.length }=>[(9,.str (BL p.1)),(14,.i (nI p.1))]) (fun p=>[.blk 29 [.sl 3 (bJ jP parties),.sl 17 (bJ iY deals),.sl 3 (bJ kA funds),.sl 1 (bJ dD rest),.sl 1 (bJ dD holidays)],.blk 41 [.sl 1 (bJ dD S),.sl 1 (bJ mK free),.str c,.sl 11 (bJ iL L),.sl 5 (bJ dB H),.sl 5 (bJ dB D)]]) (fun p=>fE n p.1) ⟨0,aI _⟩ ?_;rintro ⟨k,hk⟩;dsimp only at hk⊢;rcases aL k W.length with hks|hks
 ·obtain⟨nm,hx⟩:=cJ hks;obtain⟨i,y,hi,hy,hyn,hye⟩:=hWat nm (aC hx);have hyz:=hbz y (aC hy);have hnx:=hBs k nm hx;have hol:=hBl k;rw[hye]at hnx;obtain⟨oB,hoB⟩:∃o,o=BL k:=⟨_,rfl⟩
  rw[←Q7,←hoB]at hnx;rw[←hoB]at hol⊢;clear hWat hBs hBl hbz hhz;cbv;repeat'((first|refine .e ?_|refine .y fun h=>?_|refine .k fun z hz=>?_|refine And.intro ?_ ?_|fail)<;>cbv)
  all_goals
   (refine ZN hfi ((⟨c,L⟩,nm):Rg×bH) (by dsimp only;omega) ?_;try dsimp only)
   rw[hi];obtain⟨⟨number,carrier,shipper,frm,to,boxes,parents,issued,clean⟩,bst,⟨sa,ha,ca⟩,⟨sb,hb,cb⟩,⟨sc,hc,cc⟩⟩:=y;dsimp only at hyn;subst hyn;cbv;repeat'((first|refine .e ?_|refine And.intro ?_ ?_|fail)<;>cbv)
   all_goals
    obtain⟨y,hyy⟩:∃y:Br,y=⟨⟨number,carrier,shipper,frm,to,boxes,parents,issued,clean⟩,bst,⟨sa,ha,ca⟩,⟨sb,hb,cb⟩,⟨sc,hc,cc⟩⟩:=⟨_,rfl⟩
    rw[←hyy]at hnx hyz;clear hi hye hy hoB;refine bS [] (fun p:{ k:Nat // k≤3 }=>[(9,.str (JX oB y p.1)),(16,.i (nI p.1))]) (fun p=>[.blk 29 [.sl 3 (bJ jP parties),.sl 17 (bJ iY deals),.sl 3 (bJ kA funds),.sl 1 (bJ dD rest),.sl 1 (bJ dD holidays)],.blk 41 [.sl 1 (bJ dD S),.sl 1 (bJ mK free),.str c,.sl 11 (bJ iL L),.sl 5 (bJ dB H),.sl 5 (bJ dB D)],.blk 104 [.str number,.str carrier,.str shipper,.str frm,.str to,.sl 1 (bJ .str boxes),.sl 1 (bJ .str parents),.i issued,.bl clean,.i bst,.sl 3 [.agg [.i sa,.str ha,.sl 4 (bJ bV ca)],.agg [.i sb,.str hb,.sl 4 (bJ bV cb)],.agg [.i sc,.str hc,.sl 4 (bJ bV cc)]]]]) (fun p=>fE 3 p.1) ⟨0,aI _⟩ ?_;rintro ⟨j,hj⟩;dsimp only at hj⊢;obtain⟨o3,ho3⟩:∃o,o=JX oB y j:=⟨_,rfl⟩
    have ho3l:o3.size≤1710000:=by have:=IZ oB y hyz j;rw[ho3];omega
    rw[←ho3];have hyz2:=hyz;rw[hyy]at hyz2;obtain⟨hz1,hz2,hz3,hz4,hs1,hs2,hs3⟩:=hyz2;dsimp only at hz1 hz2 hz3 hz4 hs1 hs2 hs3;clear hyz;have hsz1:(ByteArray.mk #[111,114,105,103,105,110,97,108,32]).size=9:=rfl;have hsz2:(ByteArray.mk #[32]).size=1:=rfl;have hsz3:(ByteArray.mk #[10]).size=1:=rfl;have hsz4:(ByteArray.mk #[48]).size=1:=rfl;have hsz5:(ByteArray.mk #[49]).size=1:=rfl;have hsz6:(ByteArray.mk #[50]).size=1:=rfl;have hj4:j=3∨j=0∨j=1∨j=2:=by omega
    rcases hj4 with rfl|hj4
    ·cbv;repeat'((first|refine .n fun h=>?_|refine .k fun z hz=>?_|fail)<;>cbv)
     obtain rfl:z=nI (k+1):=bQ;rw[←hnx]at ho3;subst ho3;exact bM ⟨k+1,hks⟩ (bN (by omega))
    ·rcases hj4 with rfl|rfl|rfl
     ·have hsT:JX oB y 1=o3++iC (iS number 48 ⟨sa,ha,ca⟩):=by rw[ho3,hyy];rfl
      obtain⟨m,w,hm,hw,hwe,hwz⟩:=Dv hs1;have hml:=(aA.1 hw).1;clear hyy hnx ho3;cbv;repeat'((first|refine .e ?_|refine .y fun h=>?_|refine .u fun u hu hul=>?_|refine And.intro ?_ ?_|refine cC.i0 ?_|fail)<;>cbv)
      repeat'(first
       |((refine ZN hdi (0:Int) (by decide) ?_;try dsimp only)
         rw[Hu];cbv;repeat'((first|refine .k fun z hz=>?_|refine .u fun u hu hul=>?_|fail)<;>cbv))
       |(refine cL.mk ⟨m,hm,hml,?_⟩
         cbv)
       |(refine cC.mk ⟨m,.str w,rfl,hw,?_⟩
         cbv;repeat'((first|refine .k fun z hz=>?_|refine .u fun u hu hul=>?_|fail)<;>cbv)))
      all_goals
          obtain rfl:z=nI 1:=bQ;obtain rfl:u=JX oB y 1:=by
           rw[hsT];clear hsT hw hm;apply eD
           subst_vars
           simp only[cW,cP,bG,iS];rfl
          exact bM ⟨1,by decide⟩ (bN (by decide))
     ·have hsT:JX oB y 2=o3++iC (iS number 49 ⟨sb,hb,cb⟩):=by rw[ho3,hyy];rfl
      obtain⟨m,w,hm,hw,hwe,hwz⟩:=Dv hs2;have hml:=(aA.1 hw).1;clear hyy hnx ho3;cbv;repeat'((first|refine .e ?_|refine .y fun h=>?_|refine .u fun u hu hul=>?_|refine And.intro ?_ ?_|refine cC.i1 ?_|fail)<;>cbv)
      repeat'(first
       |((refine ZN hdi (1:Int) (by decide) ?_;try dsimp only)
         rw[GA];cbv;repeat'((first|refine .k fun z hz=>?_|refine .u fun u hu hul=>?_|fail)<;>cbv))
       |(refine cL.mk ⟨m,hm,hml,?_⟩
         cbv)
       |(refine cC.mk ⟨m,.str w,rfl,hw,?_⟩
         cbv;repeat'((first|refine .k fun z hz=>?_|refine .u fun u hu hul=>?_|fail)<;>cbv)))
      all_goals
          obtain rfl:z=nI 2:=bQ;obtain rfl:u=JX oB y 2:=by
           rw[hsT];clear hsT hw hm;apply eD
           subst_vars
           simp only[cW,cP,bG,iS];rfl
          exact bM ⟨2,by decide⟩ (bN (by decide))
     ·have hsT:JX oB y 3=o3++iC (iS number 50 ⟨sc,hc,cc⟩):=by rw[ho3,hyy];rfl
      obtain⟨m,w,hm,hw,hwe,hwz⟩:=Dv hs3;have hml:=(aA.1 hw).1;clear hyy hnx ho3;cbv;repeat'((first|refine .e ?_|refine .y fun h=>?_|refine .u fun u hu hul=>?_|refine And.intro ?_ ?_|refine cC.i2 ?_|fail)<;>cbv)
      repeat'(first
       |((refine ZN hdi (2:Int) (by decide) ?_;try dsimp only)
         rw[Ip];cbv;repeat'((first|refine .k fun z hz=>?_|refine .u fun u hu hul=>?_|fail)<;>cbv))
       |(refine cL.mk ⟨m,hm,hml,?_⟩
         cbv)
       |(refine cC.mk ⟨m,.str w,rfl,hw,?_⟩
         cbv;repeat'((first|refine .k fun z hz=>?_|refine .u fun u hu hul=>?_|fail)<;>cbv)))
      all_goals
          obtain rfl:z=nI 3:=bQ;obtain rfl:u=JX oB y 3:=by
           rw[hsT];clear hsT hw hm;apply eD
           subst_vars
           simp only[cW,cP,bG,iS];rfl
          exact bM ⟨3,by decide⟩ (bN (by decide))
 have hkn:k=n:=by omega
 rw[hkn,hBn];clear hWat hBs hBl hBn hbz hkn;obtain⟨oC,hoC⟩:∃o,o=iC (l1++l2):=⟨_,rfl⟩
 obtain⟨X,hX⟩:∃X,X=iZ H:=⟨_,rfl⟩
 have hXl:X.length≤40000:=by rw[hX];exact Nat.le_trans (AA _) hH
 have hXat:∀b,b∈X→b.size≤1000∧∃h:eF,(iW H b)[(iW H b).length - 1]?=some h∧h.to.size≤1000∧h.place.size≤1000∧Fq b (iW H b)=Py++(iT b++(32 :: (iT h.to++(32 :: (iT h.place++[10]))))):=fun b hb=>by
  rw[hX]at hb;obtain⟨h0,hh0,he0⟩:=JS hb;refine⟨by rw[←he0];exact(hhz h0 hh0).1,?_⟩;have hne:iW H b≠[]:=fun he=>by
   have:h0∈iW H b:=List.mem_filter.2 ⟨hh0,by simpa using he0⟩;rw[he]at this;cases this
  obtain⟨h,hl⟩:∃h,(iW H b).getLast?=some h:=by
   cases hl:(iW H b).getLast? with
   |none=>exact absurd (List.getLast?_eq_none_iff.1 hl) hne
   |some h=>exact⟨h,rfl⟩
  have hm:h∈H:=(List.mem_filter.1 (List.mem_of_getLast? hl)).1;refine⟨h,by rw[←List.getLast?_eq_getElem?];exact hl,(hhz h hm).2.1,(hhz h hm).2.2,?_⟩;unfold Fq;rw[hl]
 obtain⟨bX,hbX⟩:∃f,f=fun b=>Fq b (iW H b):=⟨_,rfl⟩
 have hXat:∀b,b∈X→b.size≤1000∧∃h:eF,(iW H b)[(iW H b).length - 1]?=some h∧h.to.size≤1000∧h.place.size≤1000∧bX b=Py++(iT b++(32 :: (iT h.to++(32 :: (iT h.place++[10]))))):=by rw[hbX];exact hXat
 have hl3':l3=X.flatMap bX:=by rw[hl3,hX,hbX]
 obtain⟨m,hm⟩:∃m:Nat,m=X.length:=⟨_,rfl⟩
 obtain⟨CL,hCL⟩:∃f:Nat→bH,f=fun k=>oC++iC ((X.take k).flatMap bX):=⟨_,rfl⟩
 have hC0:oC=CL 0:=by rw[hCL];apply eD;rw[cW];simp[cP]
 have hCs:∀k nm,X[k]?=some nm→CL (k+1)=CL k++iC (bX nm):=fun k nm hx=>by
  rw[hCL];apply eD;dsimp only;rw[cY hx,cW,cW,cW,cP,cP,cP,List.flatMap_append,bG];simp
 have hCl:∀k,(CL k).size≤oC.size+124000000:=fun k=>by
  rw[hCL];dsimp only;rw[ByteArray.size_append,eU];have:=kK (W:=X.take k) (f:=bX) (c:=3100) fun nm hx=>by
   obtain⟨h1,h,-,h2,h3,h4⟩:=hXat nm (List.mem_of_mem_take hx);rw[h4];have h5:=mY nm;have h6:=mY h.to;have h7:=mY h.place;have h8:Py.length=4:=rfl;simp only[aM,List.length_cons,List.length_nil];omega
  rw[aS]at this;omega
 have hCn:CL m=iC (l1++(l2++l3)):=by
  rw[hCL,hoC,hl3',hm];apply eD;dsimp only;rw[cW,cP,cP,cP,List.take_length,bG]
 rw[←hCn]at hK;clear hCL hl3' hbX hl3 hCn hhz;rw[←hoC];have hoCl:oC.size≤1700000:=hoC ▸ hBnl;clear hoC;cbv;repeat'((first|refine .n fun h=>?_|refine .k fun z hz=>?_|fail)<;>cbv)
 (refine ZN hbx H (by omega) ?_;try dsimp only)
 rw[←hX];rw[hC0];clear hC0;cbv;refine bS [] (fun p:{ k:Nat // k≤X.length }=>[(9,.str (CL p.1)),(18,.i (nI p.1))]) (fun p=>[.blk 29 [.sl 3 (bJ jP parties),.sl 17 (bJ iY deals),.sl 3 (bJ kA funds),.sl 1 (bJ dD rest),.sl 1 (bJ dD holidays)],.blk 41 [.sl 1 (bJ dD S),.sl 1 (bJ mK free),.str c,.sl 11 (bJ iL L),.sl 5 (bJ dB H),.sl 5 (bJ dB D)]]) (fun p=>fE m p.1) ⟨0,aI _⟩ ?_;rintro ⟨j,hj⟩;dsimp only at hj⊢;rcases aL j X.length with hjs|hjs
 rotate_left
 ·obtain rfl:j=m:=by omega
  cbv;repeat'((first|refine .n fun h=>?_|refine .k fun z hz=>?_|fail)<;>cbv)
  (refine .q9 ?_;cbv;exact .inl (.f9 hK))
 obtain⟨b,hx⟩:=cJ hjs;obtain⟨hbz1,hd,hget,hto,hpl,hbe⟩:=hXat b (aC hx);have hnx:=hCs j b hx;have hol:=hCl j;obtain⟨oD,hoD⟩:∃o,o=CL j:=⟨_,rfl⟩
 rw[←hoD]at hnx hol⊢;rw[hbe]at hnx;obtain⟨own,hown⟩:∃o,o=iW H b:=⟨_,rfl⟩
 rw[←hown]at hget;have hownl:own.length≤40000:=by rw[hown];unfold iW;exact Nat.le_trans (List.length_filter_le _ _) hH
 obtain⟨box,frm,to,place,day⟩:=hd;dsimp only at hto hpl hnx;have hown1:own.length - 1 < own.length:=(aA.1 hget).1;obtain⟨q,hq⟩:∃q,q=own.length - 1:=⟨_,rfl⟩
 rw[←hq]at hget;clear hCs hCl hXat hbe hoD;have hsz1:(ByteArray.mk #[98,111,120,32]).size=4:=rfl;have hsz2:(ByteArray.mk #[32]).size=1:=rfl;have hsz3:(ByteArray.mk #[10]).size=1:=rfl;cbv;repeat'((first|refine .e ?_|refine .y fun h=>?_|refine .k fun z hz=>?_|fail)<;>cbv)
 all_goals
  (refine ZN how ((H,b):List eF×bH) (by dsimp only;omega) ?_;try dsimp only)
  rw[←hown];cbv;repeat'((first|refine .k fun z hz=>?_|fail)<;>cbv)
 all_goals
  obtain rfl:z=nI q:=bQ;cbv;repeat'((first|refine .e ?_|refine .k fun z hz=>?_|refine .u fun u hu hul=>?_|fail)<;>cbv)
  all_goals
   obtain rfl:z=nI (j+1):=bQ;obtain rfl:u=CL (j+1):=by
    rw[hnx];clear hnx hx hget hown hq;apply eD
    subst_vars
    simp only[cW,cP,bG];rfl
   exact bM ⟨j+1,hjs⟩ (bN (by omega))
def Gv:bH:=⟨#[32]⟩
def LV:bH:=⟨#[10]⟩
def Bs (s:bH):List cG:=[.blk 148 [yI s,.hd 1],.row 5 1 (kI s)]
def Ov:dO:=spec (fun i:bH×bH=>[.ptr 0 0,.str i.2]) (fun i=>Bs i.1) (fun i=>i.1.size+i.2.size≤140737488355328∧i.2.size≠0) (fun i=>.tup [.int .i64 i.2.size,.v .nilIface]) fun i=>Bs (i.1++i.2)
def IF:dO:=spec (fun _:bH×AV=>[.ptr 0 0]) (fun i=>[.blk 148 [i.2,.hd 1],.row 5 1 (kI i.1)]) (fun _=>True) (fun i=>.str i.1) fun _=>[.blk 148 [.any,.any],.dead]
def NJ:dO:=spec (fun i:bH×List bH=>[.sl 1 (bJ .str i.2),.ptr 0 0]) (fun i=>Bs i.1) (fun i=>i.1.size+(eB i.2 Gv).size+1≤140737488355328∧i.2.length≤1000) (fun _=>.tup []) fun i=>Bs (i.1++(eB i.2 Gv++LV))
theorem IL (s:bH):fH (Bs s).length (Bs s)=true:=by
 show fH 2 [.blk 148 [yI s,.hd 1],.row 5 1 (kI s)]=true;unfold yI
 split<;>rfl
def yS (a:Nat) (s:bH):AV:=if s.size=0 then .v (.pointer none) else .ptr a 0
theorem Da (a b n:Nat) (s:bH):gH [a,b] n (Bs s)=[.blk 148 [yS a s,.hd b],.row 5 1 (kI s)]:=by
 show gH [a,b] n [.blk 148 [yI s,.hd 1],.row 5 1 (kI s)]=_;unfold yI yS
 split<;>rfl
theorem nY {P:bI}{f:Nat}{ι:Type}{ag:ι→List AV}{o o':ι→bH}{p:ι→Prop}{r:ι→AV}(hf:bK P f (spec ag (fun i=>Bs (o i)) p r fun i=>Bs (o' i))) (i:ι) (a b:Nat) {keep:List Nat}{args:List AV}{st:St}{K:AV→St→Prop}
  (hp:p i) (hargs:args=AV.renL [a,b] st.H.length (ag i)) (hba:AV.bndL 2 (ag i)=true) (hnd:[a,b].Nodup) (hlt:([a,b].all fun k=>Nat.blt k st.H.length)=true) (ha:st.H[a]?=some (.blk 148 [yS a (o i),.hd b])) (hb:st.H[b]?=some (.row 5 1 (kI (o i)))) (hkeep:(keep.all fun k=>![a,b].contains k && Nat.blt k st.H.length)=true)
  (hK:K ((r i).ren [a,b] st.H.length) ⟨iX st.T [b],rY (gP st.H [b]) [a,b] [.blk 148 [yS a (o' i),.hd b],.row 5 1 (kI (o' i))]⟩):gA P keep f args st K:=by
 refine sX hf i [a,b] hp hargs rfl hnd hlt ?_ hba (IL _) hkeep ?_
 ·rw[Da];show [st.H[a]?,st.H[b]?]=_;rw[ha,hb];rfl
 ·rw[Da];exact hK
theorem NS (t u:Nat) (s:bH) (xs:List AV):fH 2 [.blk t [yS 0 s,.hd 1],.row u 1 xs]=true:=by
 unfold yS
 split<;>rfl
theorem K0 (P:bI) (hj:bK P 57 Pe) (hw:bK P 56 Ov):bO P Zl NJ:=by
 intro args H K hc;obtain⟨⟨out,ws⟩,rfl,rfl,hp,hK⟩:=hc;refine⟨cM,?_⟩;dsimp only at hp hK⊢;obtain⟨hsz,hl⟩:=hp
 try dsimp only at hsz hl
 obtain⟨j,hj1⟩:∃j,j=eB ws Gv:=⟨_,rfl⟩
 obtain⟨o2,ho2⟩:∃o,o=out++(j++LV):=⟨_,rfl⟩
 obtain⟨sl2,hsl2⟩:∃a,a=yS 0 o2:=⟨_,rfl⟩
 obtain⟨by2,hby2⟩:∃a,a=kI o2:=⟨_,rfl⟩
 replace hK:K (.tup []) [.blk 148 [sl2,.hd 1],.row 5 1 by2]:=by rw[hsl2,hby2,ho2,hj1];exact hK
 rw[←hj1]at hsz;obtain⟨sl,hsl⟩:∃a,a=yS 0 out:=⟨_,rfl⟩
 obtain⟨by1,hby⟩:∃a,a=kI out:=⟨_,rfl⟩
 have hn1:LV.size=1:=rfl;have hb0:Bs out=[.blk 148 [sl,.hd 1],.row 5 1 by1]:=by rw[hsl,hby];rfl
 rw[hb0];clear hb0;cbv
 (refine ZN hj ((ws,Gv):List bH×bH) ⟨by dsimp only;rw[←hj1];omega,by dsimp only;omega⟩ ?_;try dsimp only)
 rw[←hj1];have z3:(ByteArray.mk (Array.mk [10])).size=1:=rfl;cbv;repeat'((first|refine .u fun u hu hul=>?_|fail)<;>cbv)
 obtain⟨jn,hjn⟩:∃j2,j2=j++LV:=⟨_,rfl⟩
 obtain rfl:u=jn:=by rw[hjn];assumption
 subst hsl hby;refine nY hw ((out,u):bH×bH) 0 1 ⟨by dsimp only;omega,by dsimp only;omega⟩ rfl rfl (by decide) rfl rfl rfl rfl ?_
 try dsimp only
 rw[hjn,←ho2,←hsl2,←hby2];cbv;refine bW.mk ⟨_,Gh.refl _,?_⟩;cbv;exact .inl (eV.pre _ (by rfl) cM (by rfl) (by rw[hsl2];exact NS _ _ _ _) (Le.refl _) (kF.refl _) hK)
structure Rz (C:Cr):Prop where
 nd:(C.deals.map Dp.number).Nodup
 dl:C.deals.length≤8
 dz:∀d∈C.deals,d.number.size≤300∧0≤d.state∧d.state≤4
 few:C.reg.bills.length≤256
 all:∀b∈C.reg.bills,inB b
 bz:∀b∈C.reg.bills,UE b
 rn:mE C.reg.bills
 cu:jL C.cust
def CX:dO:=spec (fun _:Cr=>[.ptr 0 0]) yL Rz (fun C=>.str (iC (AU C))) yL
structure ZB (P:bI):Prop where
 so:AY P
 l7:SlLaysZ.n7 P pH
 ml:dH P 55
 li:bK P 55 NJ
 st:bK P 61 IF
 bi:bK P 35 H8
 ors:bK P 16 sR
 it:bK P 60 (BD eN)
 bo:bK P 38 GS
 no:bK P 42 TZ
theorem wA (a b c d s:bH):iT (eB [a,b,c,d] s)=iT a++(iT s++(iT b++(iT s++(iT c++(iT s++iT d))))):=by
 have h:[a,b,c,d]=a :: [b,c]++[d]:=rfl;have h2:[a,b,c]=a :: [b]++[c]:=rfl;have h3:[a,b]=a :: []++[b]:=rfl;rw[h,mF,h2,mF,h3,mF,Ct];simp only[cW,bG]
theorem J0 (a b c d e s:bH):iT (eB [a,b,c,d,e] s)=iT a++(iT s++(iT b++(iT s++(iT c++(iT s++(iT d++(iT s++iT e))))))):=by
 have h:[a,b,c,d,e]=a :: [b,c,d]++[e]:=rfl;rw[h,mF];have h4:iT (eB (a :: [b,c,d]) s)=_:=wA a b c d s;simp only[cW,h4,bG]
def dS:bH:=⟨#[100,101,97,108]⟩
theorem LE (d:Dp):eB [dS,d.number,iC (pB d.state),iC (K5 d.rel)] Gv++LV=iC (sH d):=by
 apply eD;rw[cW,wA,cP,cP,cP];unfold sH;simp only[bG];rfl
def Wr:bH:=⟨#[111,114,105,103,105,110,97,108]⟩
theorem wZ (n h:bH) (k:UInt8) (o:Og) (d:bH) (hd:d=⟨#[k]⟩) (hh:o.holder=h):eB [Wr,n,d,iC (tO o.state),h] Gv++LV=iC (iS n k o):=by
 subst hd hh;apply eD;rw[cW,J0,cP,cP];unfold iS;simp only[bG];rfl
theorem Me {L:List Br}{bill:bH}{y:Br}(hl:Ch L bill=some y):Bz L bill=My bill y:=by rw[Qn,hl]
theorem NB (o:bH) (y:Br) (hy:UE y) {nm:bH}(hn:y.b.number=nm) (j:Nat) (hj:j < 3):∃s h,(My nm y)[j]?=some ⟨nm,nI j,s,h⟩∧(0≤s∧s≤3)∧h.size≤1000∧(eN (nI j)).size=1∧JX o y (j+1)=JX o y j++(eB [Wr,nm,eN (nI j),iC (tO s),h] Gv++LV):=by
 obtain⟨b,st,⟨sa,ha,ca⟩,⟨sb,hb,cb⟩,⟨sc,hc,cc⟩⟩:=y;dsimp only at hn;subst hn
 match j,hj with
 |0,_=>exact⟨sa,ha,rfl,hy.s0,hy.h0,by rw[show eN (nI 0)=⟨#[48]⟩ from Hu];rfl,by rw[wZ b.number ha 48 ⟨sa,ha,ca⟩ (eN (nI 0)) Hu rfl];rfl⟩
 |1,_=>exact⟨sb,hb,rfl,hy.s1,hy.h1,by rw[show eN (nI 1)=⟨#[49]⟩ from GA];rfl,by rw[wZ b.number hb 49 ⟨sb,hb,cb⟩ (eN (nI 1)) GA rfl];rfl⟩
 |2,_=>exact⟨sc,hc,rfl,hy.s2,hy.h2,by rw[show eN (nI 2)=⟨#[50]⟩ from Ip];rfl,by rw[wZ b.number hc 50 ⟨sc,hc,cc⟩ (eN (nI 2)) Ip rfl];rfl⟩
def Ur:bH:=⟨#[98,111,120]⟩
theorem O0 (b:bH) (own:List eF) (h:eF) (hl:own.getLast?=some h):eB [Ur,b,h.to,h.place] Gv++LV=iC (Fq b own):=by
 apply eD;rw[cW,wA,cP];unfold Fq;rw[hl];simp only[bG];rfl
theorem SN {L:List cZ}(hc:jL L) {b:bH}(hb:b∈eA (L.map cZ.box)):∃h:eF,G5 L b=(h.to,h.place,true)∧b.size≤16∧h.to.size≤16∧h.place.size≤16∧eB [Ur,b,h.to,h.place] Gv++LV=iC (OM L b):=by
 obtain⟨c,hcm,he⟩:=aX.1 ((kV _).mem_iff.1 hb);have hl:gV cZ.box L b=some c:=sT hc.nd hcm he;obtain⟨h,hh⟩:∃h,c.hist.getLast?=some h:=by
  cases hx:c.hist.getLast? with
  |none=>exact absurd (List.getLast?_eq_none_iff.1 hx) (hc.ne c hcm).1
  |some h=>exact⟨h,rfl⟩
 have hsz:=hc.sz c hcm;have hsh:=hsz.2 h (List.mem_of_getLast? hh);refine⟨h,?_,he ▸ hsz.1,hsh.1,hsh.2,?_⟩
 ·unfold G5;cases ha:lM cZ.box L b with
  |none=>exact absurd he (iJ (sM ha) hcm)
  |some i=>
   obtain⟨y,hy,hye⟩:=eL ha;have h2:=nL ha hy;rw[hl]at h2;cases h2;dsimp only;rw[hy];dsimp only;rw[hh]
 ·rw[O0 b c.hist h hh];unfold OM;rw[hl]
theorem HC (P:bI) (F:ZB P):bO P Zb CX:=by
 intro args H K hc;obtain⟨⟨name,parties,deals,⟨rc,rL⟩,cust,deliv⟩,rfl,rfl,hp,hK⟩:=hc;refine⟨cM,?_⟩;dsimp only at hp hK⊢;obtain⟨hnd,hdl,hdz,hfew,hall,hbz,hrn,hcu⟩:=hp
 try dsimp only at hnd hdl hdz hfew hall hbz hrn hcu
 obtain⟨W,hW⟩:∃W,W=eA (deals.map Dp.number):=⟨_,rfl⟩
 have hWl:W.length=deals.length:=by rw[hW,kG,aJ]
 obtain⟨dF,hdF⟩:∃f,f=Cw deals:=⟨_,rfl⟩
 obtain⟨O,hO⟩:∃O:Nat→bH,O=fun k=>iC ((W.take k).flatMap dF):=⟨_,rfl⟩
 obtain⟨SL,hSL⟩:∃f:bH→AV,f=yS 8:=⟨_,rfl⟩
 obtain⟨BY,hBY⟩:∃f:bH→List AV,f=kI:=⟨_,rfl⟩
 cbv;refine xY (ρK:=pH) F.l7 2 rfl rfl ?_;cbv;refine sF (ρK:=pH) (ρS:=jE) F.l7 F.so.l6 F.so.s F.so.e9 rfl 9 2 (f:=gO) (L:=deals) Dp.number (fun _=>rfl) rfl rfl hnd (fun a ha=>by have:=(hdz a ha).1;unfold maxLen;omega) (by omega) rfl ?_;rw[←hW];cbv;repeat'((first|refine .k fun z hz=>?_|fail)<;>cbv)
 refine fX (Gh.plain 10 rfl) ?_;cbv;refine fX (Gh.adoptC 8 1 5 1 rfl rfl) ?_;cbv;have hO0:SL (O 0)=.v (.pointer none):=by rw[hSL,hO];rfl
 have hB0:BY (O 0)=[]:=by rw[hBY,hO];rfl
 refine fX (Gh.cast [.blk 118 [.str name,.hd 1,.ph 2,.ptr 3 0,.ptr 5 0,.hd 7],.map 70 (bJ iP parties),.pool 116 (bJ gO deals) [],.blk 122 [.str rc,.ph 4],.pool 120 (bJ fO rL) [],.blk 174 [.ph 6],.pool 172 (bJ gF cust) [],.tip 77 5 (bJ dB deliv),.blk 148 [SL (O 0),.hd 11],.blk 116 [.ph 2],.tip 9 1 (bJ .str W),.row 5 1 (BY (O 0))] (by rw[hO0,hB0])) ?_;clear hO0 hB0;obtain⟨n,hn⟩:∃n:Nat,n=W.length:=⟨_,rfl⟩
 have hSLc:∀o,SL o=.v (.pointer none)∨SL o=.ptr 8 0:=fun o=>by rw[hSL];unfold yS;split<;>simp
 have hSLe:∀o,SL o=yS 8 o:=fun o=>by rw[hSL]
 have hSLb:∀o,(SL o).bnd 12=true:=fun o=>by rw[hSL];unfold yS;split<;>rfl
 refine bS [] (fun p:{ k:Nat // k≤W.length }=>[(27,.i (nI p.1))]) (fun p=>[.blk 118 [.str name,.hd 1,.ph 2,.ptr 3 0,.ptr 5 0,.hd 7],.map 70 (bJ iP parties),.pool 116 (bJ gO deals) [],.blk 122 [.str rc,.ph 4],.pool 120 (bJ fO rL) [],.blk 174 [.ph 6],.pool 172 (bJ gF cust) [],.tip 77 5 (bJ dB deliv),.blk 148 [SL (O p.1),.hd 11],.blk 116 [.ph 2],.tip 9 1 (bJ .str W),.row 5 1 (BY (O p.1))]) (fun p=>fE n p.1) ⟨0,aI _⟩ ?_ (hbH:=(by show fH 12 _=true;simp only[fH,qD,AV.bndL,hSLb];rfl));rintro ⟨k,hk⟩;dsimp only at hk⊢;have hWat:∀nm,nm∈W→∃d∈deals,d.number=nm:=fun nm hm=>by
  rw[hW]at hm;obtain⟨d,hd,he⟩:=aX.1 ((kV _).mem_iff.1 hm);exact⟨d,hd,he⟩
 have hOs:∀k nm,W[k]?=some nm→O (k+1)=O k++iC (dF nm):=fun k nm hx=>by
  rw[hO];apply eD;dsimp only;rw[cY hx,cW,cP,cP,cP,List.flatMap_append];simp
 rcases aL k W.length with hks|hks
 ·obtain⟨nm,hx⟩:=cJ hks;cbv;repeat'((first|refine .e ?_|refine .y fun h=>?_|fail)<;>cbv)
  refine fB Dp.number (fun _=>rfl) (fun i y hai hy hky=>?_) (fun hai=>?_)<;>try dsimp only at *
  rotate_left
  ·obtain⟨d,hd,he⟩:=hWat nm (aC hx);exact absurd he (iJ (sM hai) hd)
  have hdzy:=hdz y (aC hy);have hdy:dF nm=sH y:=by rw[hdF];unfold Cw;rw[nL hai hy]
  have hln:=LE y;rw[←hdy]at hln;have hOn:=hOs k nm hx;rw[hky]at hln;rw[←hln]at hOn;have hws:(eB [dS,nm,iC (pB y.state),iC (K5 y.rel)] Gv).size≤4 * (300+1):=by
   refine kJ _ _ 300 fun x hx=>?_
   have h1:=sW y.state;have h2:=Ar y.rel;have h3:=hdzy.1;rw[hky]at h3;simp only[List.mem_cons,List.not_mem_nil,or_false]at hx;rcases hx with rfl|rfl|rfl|rfl
   ·decide
   ·exact h3
   ·rw[eU];omega
   ·rw[eU];omega
  have hOl:(O k).size≤3200:=by
   rw[hO];dsimp only;rw[eU];have:=kK (W:=W.take k) (f:=dF) (c:=400) fun nm hm=>by
    obtain⟨d,hd,he⟩:=hWat nm (List.mem_of_mem_take hm);have hl:gV Dp.number deals nm=some d:=sT hnd hd he;have h1:dF nm=sH d:=by rw[hdF];unfold Cw;rw[hl]
    have h2:=BQ d;have h3:=(hdz d hd).1;rw[h1];omega
   rw[aS]at this;omega
  obtain⟨number,seller,buyer,house,dfrm,dto,dboxes,state,rel⟩:=y;dsimp only at hky hdzy hln hOn hws;subst hky;obtain⟨o1,ho1⟩:∃o,o=O k:=⟨_,rfl⟩
  rw[←ho1]at hOn hOl⊢;clear hdy hln hOs hWat hdF hO;obtain⟨ws,hwsE⟩:∃ws,ws=[dS,number,iC (pB state),iC (K5 rel)]:=⟨_,rfl⟩
  rw[←hwsE]at hws hOn;have hwsl:ws.length=4:=by rw[hwsE];rfl
  cases rel with
  |true=>
   cbv;repeat'((first|refine .mk (fun h=>?_) fun h=>?_|refine .o ?_|refine And.intro ?_ ?_|fail)<;>cbv)
   all_goals first
   |exact F.ml
   |skip
   all_goals
    first|(obtain rfl:=‹state=Int.ofNat _›)|(obtain rfl:state=Int.ofNat 0:=by(obtain⟨_,hz1,hz2⟩:=hdzy;((try simp only[vn]at *)<;>omega)))
    rcases hSLc o1 with hs1|hs1
   all_goals
    rw[hs1];refine fS 13 rfl ?_;cbv;refine nY F.li ((o1,ws):bH×List bH) 8 11 ⟨by dsimp only;omega,by dsimp only;omega⟩ (by subst hwsE;rfl) rfl (by decide) rfl (by rw[←hSLe,hs1];rfl) (by subst hBY;rfl) rfl ?_
    try dsimp only
    rw[←hOn,←hSL,←hBY];cbv;repeat'((first|refine .k fun z hz=>?_|fail)<;>cbv)
    obtain rfl:z=nI (k+1):=bQ;rcases hSLc (O (k+1))with hs2|hs2
   all_goals
    rw[hs2];refine dV (Gh.back0 2 [12] gO rfl hy) ?_;cbv;exact bM ⟨k+1,hks⟩ (bN (by omega)) (hH:=(by dsimp only;rw[hs2];rfl)) (hbH:=(by show fH 12 _=true;simp only[fH,qD,AV.bndL,hSLb];rfl))
  |false=>
   cbv;repeat'((first|refine .mk (fun h=>?_) fun h=>?_|refine .o ?_|refine And.intro ?_ ?_|fail)<;>cbv)
   all_goals first
   |exact F.ml
   |skip
   all_goals
    first|(obtain rfl:=‹state=Int.ofNat _›)|(obtain rfl:state=Int.ofNat 0:=by(obtain⟨_,hz1,hz2⟩:=hdzy;((try simp only[vn]at *)<;>omega)))
    rcases hSLc o1 with hs1|hs1
   all_goals
    rw[hs1];refine fS 13 rfl ?_;cbv;refine nY F.li ((o1,ws):bH×List bH) 8 11 ⟨by dsimp only;omega,by dsimp only;omega⟩ (by subst hwsE;rfl) rfl (by decide) rfl (by rw[←hSLe,hs1];rfl) (by subst hBY;rfl) rfl ?_
    try dsimp only
    rw[←hOn,←hSL,←hBY];cbv;repeat'((first|refine .k fun z hz=>?_|fail)<;>cbv)
    obtain rfl:z=nI (k+1):=bQ;rcases hSLc (O (k+1))with hs2|hs2
   all_goals
    rw[hs2];refine dV (Gh.back0 2 [12] gO rfl hy) ?_;cbv;exact bM ⟨k+1,hks⟩ (bN (by omega)) (hH:=(by dsimp only;rw[hs2];rfl)) (hbH:=(by show fH 12 _=true;simp only[fH,qD,AV.bndL,hSLb];rfl))
 have hk9:k=n:=by omega
 have hOn:O n=iC (W.flatMap dF):=by rw[hO,hn];dsimp only;rw[List.take_length]
 have hOnl:(O n).size≤3200:=by
  rw[hOn,eU];have:=kK (W:=W) (f:=dF) (c:=400) fun nm hm=>by
   obtain⟨d,hd,he⟩:=hWat nm hm;have hl:gV Dp.number deals nm=some d:=sT hnd hd he;have h1:dF nm=sH d:=by rw[hdF];unfold Cw;rw[hl]
   have h2:=BQ d;have h3:=(hdz d hd).1;rw[h1];omega
  omega
 rw[hk9];clear hOs hWat
 obtain⟨o1,ho1⟩:∃o,o=O n:=⟨_,rfl⟩
 rw[←ho1]at hOn hOnl⊢;obtain⟨Wb,hWb⟩:∃w,w=gR rL fun _=>true:=⟨_,rfl⟩
 have hWbl:Wb.length≤256:=by rw[hWb];exact Nat.le_trans (EG rL _) hfew
 obtain⟨bF,hbF⟩:∃f,f=uX rL:=⟨_,rfl⟩
 have hWbat:∀nm,nm∈Wb→∃y,y∈rL∧Ch rL nm=some y∧y.b.number=nm∧bF nm=xI y:=fun nm hm=>by
  rw[hWb]at hm;obtain⟨b,hb,-,he⟩:=Gt.1 hm;cases hl:Ch rL nm with
  |none=>
   unfold Ch at hl;rw[List.find?_eq_none]at hl;exact absurd he (by simpa using hl b hb)
  |some y=>
   refine⟨y,List.mem_of_find?_eq_some hl,rfl,by have:=List.find?_some hl;simpa using this,?_⟩;rw[hbF];unfold uX;rw[hl]
 obtain⟨O2,hO2⟩:∃f:Nat→bH,f=fun k=>o1++iC ((Wb.take k).flatMap bF):=⟨_,rfl⟩
 have hO20:O2 0=o1:=by rw[hO2];apply eD;rw[cW];simp[cP]
 have hO2s:∀k nm,Wb[k]?=some nm→O2 (k+1)=O2 k++iC (bF nm):=fun k nm hx=>by
  rw[hO2];apply eD;dsimp only;rw[cY hx,cW,cW,cW,cP,cP,cP,List.flatMap_append,bG];simp
 have hdF2:=hdF;have hO2l:∀k,(O2 k).size≤1700000:=fun k=>by
  rw[hO2];dsimp only;rw[ByteArray.size_append,eU];have:=kK (W:=Wb.take k) (f:=bF) (c:=6200) fun nm hx=>by
   obtain⟨y,hy,-,-,he⟩:=hWbat nm (List.mem_of_mem_take hx);rw[he];have h:=hbz y hy;have g1:=iM y.b.number 48 y.o0;have g2:=iM y.b.number 49 y.o1;have g3:=iM y.b.number 50 y.o2;have:=h.n;have:=h.h0;have:=h.h1;have:=h.h2;unfold xI;rw[aM,aM];omega
  rw[aS]at this;omega
 obtain⟨nw,hnw⟩:∃n:Nat,n=Wb.length:=⟨_,rfl⟩
 have hO2n:O2 nw=iC (W.flatMap dF++Wb.flatMap bF):=by
  rw[hO2,hOn,hnw];apply eD;dsimp only;rw[cW,cP,cP,cP,List.take_length]
 clear hO2;rcases hSLc o1 with hs1|hs1
 all_goals
  rw[hs1];cbv;repeat'((first|refine .n fun h=>?_|fail)<;>cbv)
  (refine fW F.bi (⟨rc,rL⟩:Rg) [3,4] ⟨hfew,hall⟩ ?_;try dsimp only)
  rw[←hWb];cbv;repeat'((first|refine .k fun z hz=>?_|fail)<;>cbv)
  refine bS [] (fun p:{ k:Nat // k≤Wb.length }=>[(59,.i (nI p.1))]) (fun p=>[.blk 118 [.str name,.hd 1,.ph 2,.ptr 3 0,.ptr 5 0,.hd 7],.map 70 (bJ iP parties),.pool 116 (bJ gO deals) [],.blk 122 [.str rc,.ph 4],.pool 120 (bJ fO rL) [],.blk 174 [.ph 6],.pool 172 (bJ gF cust) [],.tip 77 5 (bJ dB deliv),.blk 148 [SL (O2 p.1),.hd 11],.blk 116 [.ph 2],.tip 9 1 (bJ .str W),.row 5 1 (BY (O2 p.1))]) (fun p=>fE nw p.1) ⟨0,aI _⟩ ?_ (hH:=(by dsimp only;rw[hO20,hs1];rfl)) (hbH:=(by show fH 12 _=true;simp only[fH,qD,AV.bndL,hSLb];rfl));rintro ⟨k2,hk2⟩;dsimp only at hk2⊢;rcases aL k2 Wb.length with hks2|hks2
  ·obtain⟨nm,hx⟩:=cJ hks2;obtain⟨y,hy,hyl,hyn,hye⟩:=hWbat nm (aC hx);have hyz:=hbz y hy;have hnx:=hO2s k2 nm hx;have hol:=hO2l k2;obtain⟨oB,hoB⟩:∃o,o=O2 k2:=⟨_,rfl⟩
   rw[hye,←hoB,←Q7]at hnx;rw[←hoB]at hol⊢;have hor:=Me hyl;obtain⟨orl,horl⟩:∃l,l=Bz rL nm:=⟨_,rfl⟩
   have horl3:orl.length=3:=by rw[horl,hor];obtain⟨b,st,⟨sa,ha,ca⟩,⟨sb,hb,cb⟩,⟨sc,hc,cc⟩⟩:=y;rfl
   rw[←horl]at hor;obtain⟨O3,hO3⟩:∃f,f=JX oB y:=⟨_,rfl⟩
   have hst3:∀j,j < 3→∃s h,orl[j]?=some ⟨nm,nI j,s,h⟩∧(0≤s∧s≤3)∧h.size≤1000∧(eN (nI j)).size=1∧O3 (j+1)=O3 j++(eB [Wr,nm,eN (nI j),iC (tO s),h] Gv++LV):=fun j hj=>by rw[hor,hO3];exact NB oB y hyz hyn j hj
   have hO30:O3 0=oB:=by rw[hO3];rfl
   have hO33:O3 3=O2 (k2+1):=by rw[hO3];exact hnx.symm
   have hO3l:∀j,(O3 j).size≤1710000:=fun j=>by have:=IZ oB y hyz j;rw[hO3];omega
   have hnml:nm.size≤1000:=hyn ▸ hyz.n;clear hO3 hor hnx hyz hye hyl hyn hy;rcases hSLc oB with hs2|hs2
   all_goals
    rw[hs2];cbv;repeat'((first|refine .e ?_|refine .y fun h=>?_|fail)<;>cbv)
    (refine fW F.ors ((⟨rc,rL⟩,nm):Rg×bH) [3,4] trivial ?_;try dsimp only)
    rw[←horl];cbv;repeat'((first|refine .k fun z hz=>?_|fail)<;>cbv)
    refine bS [] (fun p:{ k:Nat // k≤3 }=>[(70,.i (nI p.1))]) (fun p=>[.blk 118 [.str name,.hd 1,.ph 2,.ptr 3 0,.ptr 5 0,.hd 7],.map 70 (bJ iP parties),.pool 116 (bJ gO deals) [],.blk 122 [.str rc,.ph 4],.pool 120 (bJ fO rL) [],.blk 174 [.ph 6],.pool 172 (bJ gF cust) [],.tip 77 5 (bJ dB deliv),.blk 148 [SL (O3 p.1),.hd 11],.blk 116 [.ph 2],.tip 9 1 (bJ .str W),.row 5 1 (BY (O3 p.1))]) (fun p=>fE 3 p.1) ⟨0,aI _⟩ ?_ (hH:=(by dsimp only;rw[hO30,hs2];rfl)) (hbH:=(by show fH 12 _=true;simp only[fH,qD,AV.bndL,hSLb];rfl));rintro ⟨j,hj⟩;dsimp only at hj⊢;rcases aL j 3 with hj3|hj3
    rotate_left
    ·obtain rfl:j=3:=by omega
     rw[hO33];cbv;repeat'((first|refine .n fun h=>?_|refine .k fun z hz=>?_|fail)<;>cbv)
     obtain rfl:z=nI (k2+1):=bQ;exact bM ⟨k2+1,hks2⟩ (bN (by omega)) (hbH:=(by show fH 12 _=true;simp only[fH,qD,AV.bndL,hSLb];rfl))
    obtain⟨st,hh,hx3,hs3,hhl,hil,hO3n⟩:=hst3 j hj3;have hO3j:=hO3l j;obtain⟨dg,hdg⟩:∃d,d=eN (nI j):=⟨_,rfl⟩
    rw[←hdg]at hil hO3n;obtain⟨ws,hwsE⟩:∃ws,ws=[Wr,nm,dg,iC (tO st),hh]:=⟨_,rfl⟩
    rw[←hwsE]at hO3n;have hwsl:ws.length=5:=by rw[hwsE];rfl
    have hws:(eB ws Gv).size≤5 * (1000+1):=by
     rw[hwsE];refine kJ _ _ 1000 fun x hx=>?_
     have h1:=wV st;simp only[List.mem_cons,List.not_mem_nil,or_false]at hx;rcases hx with rfl|rfl|rfl|rfl|rfl
     ·decide
     ·exact hnml
     ·omega
     ·rw[eU];omega
     ·exact hhl
    obtain⟨o3,ho3⟩:∃o,o=O3 j:=⟨_,rfl⟩
    rw[←ho3]at hO3n hO3j⊢;clear ho3;cbv;repeat'((first|refine .e ?_|refine .n fun h=>?_|refine .y fun h=>?_|refine .mk (fun h=>?_) fun h=>?_|refine .o ?_|fail)<;>cbv)
    all_goals first|(exfalso;obtain⟨hq1,hq2⟩:=hs3;((try simp only[vn]at *)<;>omega))|skip
    all_goals
     (refine ZN F.it (nI j:Int) ⟨by exact bQ,by exact bQ⟩ ?_;try dsimp only)
     rw[←hdg];cbv;repeat'((first|refine And.intro ?_ ?_|fail)<;>cbv)
    all_goals first
    |exact F.ml
    |skip
    all_goals
     first|(obtain rfl:=‹st=Int.ofNat _›)|(obtain rfl:st=Int.ofNat 0:=by(obtain⟨hz1,hz2⟩:=hs3;((try simp only[vn]at *)<;>omega)))
     rcases hSLc o3 with hs4|hs4
    all_goals
     rw[hs4];refine fS 13 rfl ?_;cbv;refine nY F.li ((o3,ws):bH×List bH) 8 11 ⟨by dsimp only;omega,by dsimp only;omega⟩ (by subst hwsE;rfl) rfl (by decide) rfl (by rw[←hSLe,hs4];rfl) (by subst hBY;rfl) rfl ?_
     try dsimp only
     rw[←hO3n,←hSL,←hBY];cbv;repeat'((first|refine .k fun z hz=>?_|fail)<;>cbv)
     obtain rfl:z=nI (j+1):=bQ;exact bM ⟨j+1,hj3⟩ (bN (by omega)) (hbH:=(by show fH 12 _=true;simp only[fH,qD,AV.bndL,hSLb];rfl))
  have hk29:k2=nw:=by omega
  rw[hk29];obtain⟨oE,hoE⟩:∃o,o=O2 nw:=⟨_,rfl⟩
  have hoEl:=hO2l nw;rw[←hoE]at hO2n hoEl⊢;obtain⟨X,hX⟩:∃X,X=eA (cust.map cZ.box):=⟨_,rfl⟩
  have hXl:X.length≤4096:=by rw[hX,kG,aJ];exact hcu.few
  obtain⟨xF,hxF⟩:∃f,f=OM cust:=⟨_,rfl⟩
  have hXat:∀b,b∈X→∃h:eF,G5 cust b=(h.to,h.place,true)∧b.size≤16∧h.to.size≤16∧h.place.size≤16∧eB [Ur,b,h.to,h.place] Gv++LV=iC (xF b):=fun b hb=>by
   rw[hX]at hb;rw[hxF];exact SN hcu hb
  obtain⟨O4,hO4⟩:∃f:Nat→bH,f=fun k=>oE++iC ((X.take k).flatMap xF):=⟨_,rfl⟩
  have hO40:O4 0=oE:=by rw[hO4];apply eD;rw[cW];simp[cP]
  have hO4s:∀k nm,X[k]?=some nm→O4 (k+1)=O4 k++iC (xF nm):=fun k nm hx=>by
   rw[hO4];apply eD;dsimp only;rw[cY hx,cW,cW,cW,cP,cP,cP,List.flatMap_append,bG];simp
  have hO4l:∀k,(O4 k).size≤3000000:=fun k=>by
   rw[hO4];dsimp only;rw[ByteArray.size_append,eU];have:=kK (W:=X.take k) (f:=xF) (c:=100) fun nm hx=>by
    obtain⟨h,-,h1,h2,h3,h4⟩:=hXat nm (List.mem_of_mem_take hx);have h5:=congrArg ByteArray.size h4;rw[eU]at h5;rw[←h5,ByteArray.size_append];have h6:=kJ [Ur,nm,h.to,h.place] Gv 16 fun x hx=>by
     simp only[List.mem_cons,List.not_mem_nil,or_false]at hx;rcases hx with rfl|rfl|rfl|rfl
     ·decide
     ·exact h1
     ·exact h2
     ·exact h3
    have h7:Gv.size=1:=rfl;have h8:LV.size=1:=rfl;have h9:[Ur,nm,h.to,h.place].length=4:=rfl;rw[h9,h7]at h6;omega
   rw[aS]at this;omega
  obtain⟨nx,hnx⟩:∃n:Nat,n=X.length:=⟨_,rfl⟩
  have hO4n:O4 nx=iC (AU ⟨name,parties,deals,⟨rc,rL⟩,cust,deliv⟩):=by
   rw[hO4,hO2n,hnx,hxF,hX,hWb,hbF,hdF2,hW];apply eD;dsimp only;rw[cW,cP,cP,cP,List.take_length,bG];rfl
  rw[←hO4n]at hK;clear hO4 hO4n;rcases hSLc oE with hs5|hs5
  all_goals
   rw[hs5];cbv;repeat'((first|refine .n fun h=>?_|fail)<;>cbv)
   (refine fW F.bo cust [5,6] hcu ?_;try dsimp only)
   rw[←hX];cbv;repeat'((first|refine .k fun z hz=>?_|fail)<;>cbv)
   refine bS [] (fun p:{ k:Nat // k≤X.length }=>[(104,.i (nI p.1))]) (fun p=>[.blk 118 [.str name,.hd 1,.ph 2,.ptr 3 0,.ptr 5 0,.hd 7],.map 70 (bJ iP parties),.pool 116 (bJ gO deals) [],.blk 122 [.str rc,.ph 4],.pool 120 (bJ fO rL) [],.blk 174 [.ph 6],.pool 172 (bJ gF cust) [],.tip 77 5 (bJ dB deliv),.blk 148 [SL (O4 p.1),.hd 11],.blk 116 [.ph 2],.tip 9 1 (bJ .str W),.row 5 1 (BY (O4 p.1))]) (fun p=>fE nx p.1) ⟨0,aI _⟩ ?_ (hH:=(by dsimp only;rw[hO40,hs5];rfl)) (hbH:=(by show fH 12 _=true;simp only[fH,qD,AV.bndL,hSLb];rfl));rintro ⟨k4,hk4⟩;dsimp only at hk4⊢;rcases aL k4 X.length with hks4|hks4
   ·obtain⟨b,hx⟩:=cJ hks4;obtain⟨h9,hnow,hb1,hb2,hb3,hln⟩:=hXat b (aC hx);have hOn4:=hO4s k4 b hx;have hol4:=hO4l k4;rw[←hln]at hOn4;obtain⟨ws,hwsE⟩:∃ws,ws=[Ur,b,h9.to,h9.place]:=⟨_,rfl⟩
    rw[←hwsE]at hOn4;have hwsl:ws.length=4:=by rw[hwsE];rfl
    have hws:(eB ws Gv).size≤4 * (16+1):=by
     rw[hwsE];refine kJ _ _ 16 fun x hx=>?_
     simp only[List.mem_cons,List.not_mem_nil,or_false]at hx;rcases hx with rfl|rfl|rfl|rfl
     ·decide
     ·exact hb1
     ·exact hb2
     ·exact hb3
    obtain⟨hbox,hfrm,hto,hplace,hday⟩:=h9;dsimp only at hnow hwsE;obtain⟨o5,ho5⟩:∃o,o=O4 k4:=⟨_,rfl⟩
    rw[←ho5]at hOn4 hol4⊢;clear ho5 hXat hO4s hO4l;rcases hSLc o5 with hs6|hs6
    all_goals
     rw[hs6];cbv;repeat'((first|refine .e ?_|refine .y fun h=>?_|fail)<;>cbv)
     (refine fW F.no ((cust,b):List cZ×bH) [5,6] hcu ?_;try dsimp only)
     rw[hnow];cbv;repeat'((first|refine And.intro ?_ ?_|fail)<;>cbv)
     ·exact F.ml
     refine fS 12 rfl ?_;cbv;refine nY F.li ((o5,ws):bH×List bH) 8 11 ⟨by dsimp only;omega,by dsimp only;omega⟩ (by subst hwsE;rfl) rfl (by decide) rfl (by rw[←hSLe,hs6];rfl) (by subst hBY;rfl) rfl ?_
     try dsimp only
     rw[←hOn4,←hSL,←hBY];cbv;repeat'((first|refine .k fun z hz=>?_|fail)<;>cbv)
     obtain rfl:z=nI (k4+1):=bQ;exact bM ⟨k4+1,hks4⟩ (bN (by omega)) (hbH:=(by show fH 12 _=true;simp only[fH,qD,AV.bndL,hSLb];rfl))
   have hk49:k4=nx:=by omega
   rw[hk49];obtain⟨o6,ho6⟩:∃o,o=O4 nx:=⟨_,rfl⟩
   rw[←ho6]at hK⊢;cbv;repeat'((first|refine .n fun h=>?_|fail)<;>cbv)
   refine sX F.st ((o6,yI o6):bH×AV) [8,11] trivial rfl rfl (by decide) rfl (by subst hSL hBY;exact(congrArg (List.map some) (Da 8 11 _ o6)).symm) rfl (IL o6) rfl ?_
   try dsimp only
   cbv
   (refine .q9 ?_;cbv;exact .inl (.f9 hK))
set_option maxHeartbeats 4000000
theorem kH {α:Type}{L:List α}{i:Nat}{x:α}(h:L[i]?=some x):L.set i x=L:=by
 obtain⟨hl,rfl⟩:=aA.1 h;exact List.set_getElem_self hl
section
variable {s:Su}{C:Cr}{x:Cs}{d:Dp}{i:Nat}{l:dR}{day:Int}{L0:List cZ}
def FB (C:Cr) (i:Nat) (d:Dp) (l:dR) (day:Int) (L0:List cZ):Prop:=∃L1,L1.Perm C.cust∧rG fN { C with cust:=L1 } d l day=({ (gB ⟨C,i,d,l,day⟩ L0).2.1 with deals:=C.deals.set i (gB ⟨C,i,d,l,day⟩ L0).2.2.1 },(gB ⟨C,i,d,l,day⟩ L0).2.2.2)
theorem Vd (h:fG s C x) (hd:gV Dp.number C.deals l.deal=some d):∃e st fr,d=cN e st fr:=by
 cases hi:dP s C.name l.deal with
 |none=>rw[h.no _ hi]at hd;cases hd
 |some j=>
  obtain⟨e,st,fr,-,-,-,-,h5⟩:=h.at hi;rw[h5]at hd;cases hd;exact⟨e,st,fr,rfl⟩
theorem Ia (h:fG s C x) (ha:lM Dp.number C.deals l.deal=some i) (hd:C.deals[i]?=some d) (hp:L0.Perm C.cust) (hk:l.kind=4):FB C i d l day L0:=by
 have hlk:=nL ha hd;obtain⟨e,st,fr,rfl⟩:=Vd h hlk;have hnum:(cN e st fr).number=l.deal:=(jY hlk).2;have hX:gB ⟨C,i,cN e st fr,l,day⟩ L0=oL ⟨C,i,cN e st fr,l,day⟩ L0:=aF hk;have hP:∀M,rG fN { C with cust:=M } (cN e st fr) l day=(sA { C with cust:=M } (cN e st fr) l day,[]):=fun M=>aF hk
 unfold FB;rw[hX];by_cases h1:l.frm≠(cN e st fr).seller∨(cN e st fr).state≠0
 ·refine⟨C.cust,.refl _,?_⟩;rw[hP];have g1:oL ⟨C,i,cN e st fr,l,day⟩ L0=(false,C,cN e st fr,[]):=aF h1;have g2:sA { C with cust:=C.cust } (cN e st fr) l day=C:=aF h1;rw[g1,g2,kH hd]
 ·have g1:oL ⟨C,i,cN e st fr,l,day⟩ L0=match fF C.name (cN e st fr) day L0 (cN e st fr).boxes with
   |none=>(false,C,cN e st fr,[])
   |some L=>(true,{ C with cust:=L },wW 1 (cN e st fr),[]):=aE h1
  have g2:∀M,sA { C with cust:=M } (cN e st fr) l day=match fF C.name (cN e st fr) day M (cN e st fr).boxes with
   |none=>{ C with cust:=M }
   |some L=>qC { { C with cust:=M } with cust:=L } (cN e st fr).number (wW 1):=fun M=>aE h1
  rw[g1];rcases zL C.name e st fr day (cN e st fr).boxes L0 x.H (h.cust.perm hp.symm)with ⟨k1,k2⟩|⟨L',H',k1,k2,k3⟩
  ·refine⟨C.cust,.refl _,?_⟩;rw[hP,g2,k1];rcases zL C.name e st fr day (cN e st fr).boxes C.cust x.H h.cust with ⟨k3,k4⟩|⟨L',H',k3,k4,k5⟩
   ·rw[k3];dsimp only;rw[kH hd]
   ·rw[k2]at k4;cases k4
  ·refine⟨L0,hp,?_⟩;rw[hP,g2,k1];dsimp only;unfold qC;dsimp only;rw[hnum,nW h.nd (wW 1) ha hd]
theorem La (h:fG s C x) (ha:lM Dp.number C.deals l.deal=some i) (hd:C.deals[i]?=some d) (hp:L0.Perm C.cust) (hk:l.kind=20):FB C i d l day L0:=by
 have hlk:=nL ha hd;have hnum:d.number=l.deal:=(jY hlk).2;have hX:gB ⟨C,i,d,l,day⟩ L0=pS ⟨C,i,d,l,day⟩ L0:=by
  unfold gB;dsimp only;rw[aE (by omega),aE (by omega),aF hk]
 have hP:∀M,rG fN { C with cust:=M } d l day=Fm fN { C with cust:=M } d l day:=fun M=>by
  unfold rG;rw[aE (by omega),aE (by omega),aF hk]
 unfold FB;rw[hX];by_cases h1:d.state≠3∨d.rel=false
 ·refine⟨C.cust,.refl _,?_⟩;rw[hP];have g1:pS ⟨C,i,d,l,day⟩ L0=(false,C,d,eW fN l):=aF h1;have g2:Fm fN { C with cust:=C.cust } d l day=(C,eW fN l):=aF h1;rw[g1,g2,kH hd]
 ·have g1:pS ⟨C,i,d,l,day⟩ L0=match eX (cV C.name l.frm d.to day) L0 d.boxes with
   |none=>(false,C,d,eW fN l)
   |some L=>if jV C.reg (cK 2 d l day)≠0 then (false,C,d,eW fN l) else (true,{ C with cust:=L,deliv:=C.deliv++d.boxes.map (cV C.name l.frm d.to day),reg:=xU C.reg (cK 2 d l day) },wW 4 d,[{ nR with to:=l.frm,kind:=21,boxes:=d.boxes }]):=aE h1
  have g2:∀M,Fm fN { C with cust:=M } d l day=match eX (cV C.name l.frm d.to day) M d.boxes with
   |none=>({ C with cust:=M },eW fN l)
   |some L=>if jV C.reg (cK 2 d l day)≠0 then ({ C with cust:=M },eW fN l) else
    (qC { C with cust:=L,deliv:=C.deliv++d.boxes.map (cV C.name l.frm d.to day),reg:=xU C.reg (cK 2 d l day) } d.number (wW 4),[{ nR with to:=l.frm,kind:=21,boxes:=d.boxes }]):=fun M=>aE h1
  rw[g1];rcases qE (cV C.name l.frm d.to day) d.boxes L0 x.H (h.cust.perm hp.symm)with ⟨k1,k2⟩|⟨L',k1,k2,k3⟩
  ·refine⟨C.cust,.refl _,?_⟩;rw[hP,g2,k1];rcases qE (cV C.name l.frm d.to day) d.boxes C.cust x.H h.cust with ⟨k3,k4⟩|⟨L',k3,k4,k5⟩
   ·rw[k3];dsimp only;rw[kH hd]
   ·rw[k2]at k4;cases k4
  ·by_cases h2:jV C.reg (cK 2 d l day)≠0
   ·refine⟨C.cust,.refl _,?_⟩;rw[hP,g2,k1];dsimp only;rw[aF h2];rcases qE (cV C.name l.frm d.to day) d.boxes C.cust x.H h.cust with ⟨k4,k5⟩|⟨L'',k4,k5,k6⟩
    ·rw[k2]at k5;cases k5
    ·rw[k4];dsimp only;rw[aF h2,kH hd]
   ·refine⟨L0,hp,?_⟩;rw[hP,g2,k1];dsimp only;rw[aE h2,aE h2];unfold qC;dsimp only;rw[hnum,nW h.nd (wW 4) ha hd]
theorem KP (h:fG s C x) (ha:lM Dp.number C.deals l.deal=some i) (hd:C.deals[i]?=some d) (hp:L0.Perm C.cust):FB C i d l day L0:=by
 by_cases k1:l.kind=4
 ·exact Ia h ha hd hp k1
 by_cases k3:l.kind=20
 ·exact La h ha hd hp k3
 have hlk:=nL ha hd;have hnum:d.number=l.deal:=(jY hlk).2;refine⟨C.cust,.refl _,?_⟩;show rG fN C d l day=_;unfold gB rG;dsimp only;rw[aE k1,aE k1];by_cases k2:l.kind=8
 ·rw[aF k2,aF k2];by_cases h2:lF C.parties l.party=false∨l.party=l.frm∨jV C.reg (cK 1 d l day)≠0
  ·rw[As h2];have:Au fN C d l day=(C,eW fN l):=aF h2;rw[this,kH hd]
  ·have g1:Au fN C d l day=({ C with reg:=xU C.reg (cK 1 d l day) },[{ nR with to:=l.party,kind:=9,index:=l.index,party:=l.party }]):=aE h2;unfold mV;dsimp only;rw[g1,kH hd]
 rw[aE k2,aE k2,aE k3,aE k3];by_cases k4:l.kind=19
 ·rw[aF k4,aF k4];unfold BE FC;dsimp only;by_cases h2:d.house≠eS∧l.frm=d.house
  ·rw[aF h2,aF h2];unfold qC;rw[hnum,nW h.nd Mx ha hd]
  ·rw[aE h2,aE h2,kH hd]
 rw[aE k4,aE k4];by_cases k5:l.kind=23
 ·rw[aF k5,aF k5];by_cases h2:jV C.reg (cK 3 d l day)=0
  ·rw[vH h2];have g1:sJ fN C d l day=({ C with reg:=xU C.reg (cK 3 d l day) },[]):=aE (fun h=>h h2);rw[g1,kH hd]
  ·rw[A7 h2];have g1:sJ fN C d l day=(C,eW fN l):=aF h2;rw[g1,kH hd]
 rw[aE k5,aE k5];by_cases k6:l.kind=24
 ·rw[aF k6,aF k6];by_cases h2:jV C.reg (cK 4 d l day)=0
  ·rw[vY h2];have g1:sD fN C d l day=({ C with reg:=xU C.reg (cK 4 d l day) },[{ nR with to:=l.frm,kind:=25,index:=l.index }]):=aE (fun h=>h h2);rw[g1,kH hd]
  ·rw[Aw h2];have g1:sD fN C d l day=(C,eW fN l):=aF h2;rw[g1,kH hd]
 rw[aE k6,aE k6,kH hd]
theorem JO (h:fG s C x) (l:dR) (day:Int) (hp:L0.Perm C.cust):∃L1,L1.Perm C.cust∧(iG C l day L0).2=nX fN { C with cust:=L1 } l day:=by
 cases ha:lM Dp.number C.deals l.deal with
 |none=>
  refine⟨C.cust,.refl _,?_⟩;rw[sS ha];unfold nX;dsimp only;rw[sM ha]
 |some i=>
  obtain⟨d,hd,hdn⟩:=eL ha;have hlk:=nL ha hd;by_cases hin:lF C.parties l.frm=false
  ·refine⟨C.cust,.refl _,?_⟩;rw[vI hin];unfold nX;dsimp only;rw[hlk];dsimp only;rw[aF hin]
  ·obtain⟨L1,hp1,he⟩:=KP (day:=day) h ha hd hp;refine⟨L1,hp1,?_⟩;unfold iG nX;dsimp only;rw[ha,hlk];dsimp only;rw[hd];dsimp only;rw[aE hin,aE hin,he]
end
set_option maxHeartbeats 8000000
structure DQ where
 C:Cr
 s:iE
 name:bH
 x:Cs
 o:kE
structure YB (q:DQ):Prop where
 c:UQ ⟨q.C,q.o.a.kind,q.o.a.n,q.o.a.deal,q.o.day⟩
 a:Re ⟨q.s,q.name,q.x,q.o.a,q.o.day⟩
 eq:(lO eY q.C q.o.a.kind q.o.a.deal q.o.day).2=(lG eY q.s.su q.name q.x q.o.a.kind q.o.a.deal q.o.day).2
 ok:(lG eY q.s.su q.name q.x q.o.a.kind q.o.a.deal q.o.day).2.1.length≤1000∧∀l∈(lG eY q.s.su q.name q.x q.o.a.kind q.o.a.deal q.o.day).2.1,tM l
structure Yt (q:DQ):Prop where
 c:Tq ⟨q.C,q.o.l,q.o.day⟩
 t:Ro ⟨q.s,q.name,q.x,q.o.l,q.o.day⟩
 eq:∀L0:List cZ,L0.Perm q.C.cust→(iG q.C q.o.l q.o.day L0).2.2=(fD fN q.s.su q.name q.x q.o.l q.o.day).2
 ok:(fD fN q.s.su q.name q.x q.o.l q.o.day).2.length≤1000∧∀l∈(fD fN q.s.su q.name q.x q.o.l q.o.day).2,tM l
def tF (q:DQ):List AV:=[.ptr 0 0,Gy q.s,.str q.name,Ei q.x,mT q.o]
def Vf:dO:=spec tF (fun q=>yL q.C) (fun q=>q.o.kind=0∧YB q) (fun q=>.tup [Ei (lG eY q.s.su q.name q.x q.o.a.kind q.o.a.deal q.o.day).1,.bl true]) fun q=>yL (lO eY q.C q.o.a.kind q.o.a.deal q.o.day).1
def Uw:dO:=sG tF (fun q=>yL q.C) (fun q=>q.o.kind=1∧Yt q) (fun q (L0:List cZ)=>L0.Perm q.C.cust) (fun q _=>.tup [Ei (fD fN q.s.su q.name q.x q.o.l q.o.day).1,.bl true]) fun q L0=>OS (iG q.C q.o.l q.o.day L0).1 (iG q.C q.o.l q.o.day L0).2.1 q.C.cust
def Vh:dO:=spec tF (fun q=>yL q.C) (fun q=>¬q.o.kind=0∧¬q.o.kind=1) (fun q=>.tup [Ei q.x,.bl true]) fun q=>yL q.C
theorem Sj (P:bI) (hac:bK P 23 (xP fun _=>True)) (hra:bK P 65 (TE fun _=>True)) (hal:bK P 66 MH):bO P Wu Vf:=by
 intro args H0 K hc;obtain⟨⟨C,s,name,x,⟨okind,day,⟨ak,an,adeal⟩,l⟩⟩,rfl,rfl,⟨hk,hcq,haq,heq,hok⟩,hK⟩:=hc;refine⟨cM,?_⟩;dsimp only at hk hcq haq heq hok hK⊢;subst hk;obtain⟨r1,hr1⟩:∃r,r=lO eY C ak adeal day:=⟨_,rfl⟩
 obtain⟨r2,hr2⟩:∃r,r=lG eY s.su name x ak adeal day:=⟨_,rfl⟩
 rw[←hr1,←hr2]at heq;rw[←hr2]at hok hK;rw[←hr1]at hK;obtain⟨⟨name1,parties1,deals1,⟨rc1,rL1⟩,cust1,deliv1⟩,l1,e1⟩:=r1;obtain⟨⟨S2,free2,⟨c2,L2⟩,H2,D2⟩,l2,e2⟩:=r2;dsimp only at heq hok hK;cases heq;obtain⟨cname,cparties,cdeals,⟨rc,rL⟩,cust,deliv⟩:=C;obtain⟨parties,deals,funds,rest,holidays⟩:=s;obtain⟨S,free,⟨c,L⟩,H,D⟩:=x;obtain⟨frm,to,number,lkind,ack,ldeal,text,party,index,day0,cur,amt,docs,boxes⟩:=l;unfold tF;dsimp only;cbv;repeat'((first|refine .y fun h=>?_|fail)<;>cbv)
 (refine fW hac (⟨⟨cname,cparties,cdeals,⟨rc,rL⟩,cust,deliv⟩,ak,an,adeal,day⟩:CQ) [0,1,2,3,4,5,6,7] ⟨trivial,hcq⟩ ?_;try dsimp only)
 rw[←hr1];cbv
 (refine ZN hra (⟨⟨parties,deals,funds,rest,holidays⟩,name,⟨S,free,⟨c,L⟩,H,D⟩,⟨ak,an,adeal⟩,day⟩:Ss) ⟨trivial,haq⟩ ?_;try dsimp only)
 rw[←hr2];cbv;repeat'((first|refine .y fun h=>?_|fail)<;>cbv)
 (refine ZN hal l1 hok ?_;try dsimp only)
 cbv
 (refine .q9 ?_;cbv;exact .inl (.g9 hK))
theorem QQ (P:bI) (hti:bK P 24 CK):bO P Wu Vh:=by
 intro args H0 K hc;obtain⟨⟨C,s,name,x,⟨okind,day,⟨ak,an,adeal⟩,l⟩⟩,rfl,rfl,⟨hk0,hk1⟩,hK⟩:=hc;refine⟨cM,?_⟩;dsimp only at hk0 hk1 hK⊢;obtain⟨cname,cparties,cdeals,⟨rc,rL⟩,cust,deliv⟩:=C;obtain⟨parties,deals,funds,rest,holidays⟩:=s;obtain⟨S,free,⟨c,L⟩,H,D⟩:=x;obtain⟨frm,to,number,lkind,ack,ldeal,text,party,index,day0,cur,amt,docs,boxes⟩:=l;unfold tF;dsimp only;cbv;repeat'((first|refine .n fun h=>?_|fail)<;>cbv)
 all_goals
  (refine fW hti ((⟨cname,cparties,cdeals,⟨rc,rL⟩,cust,deliv⟩,day):Cr×Int) [0,1,2,3,4,5,6,7] trivial ?_;try dsimp only)
  cbv;repeat'((first|refine .y fun h=>?_|fail)<;>cbv)
  (refine .q9 ?_;cbv;exact .inl (.g9 hK))
theorem PA (P:bI) (hta:bK P 18 (sU fun _=>True)) (hrt:bK P 67 (N4 fun _=>True)) (hal:bK P 66 MH):bO P Wu Uw:=by
 intro args H0 K hc;obtain⟨⟨C,s,name,x,⟨okind,day,⟨ak,an,adeal⟩,l⟩⟩,rfl,rfl,⟨hk,hcq,htq,heq,hok⟩,hK⟩:=hc;refine⟨cM,?_⟩;dsimp only at hk hcq htq heq hok hK⊢;subst hk;obtain⟨r2,hr2⟩:∃r,r=fD fN s.su name x l day:=⟨_,rfl⟩
 rw[←hr2]at hok hK heq;obtain⟨⟨S2,free2,⟨c2,L2⟩,H2,D2⟩,l2⟩:=r2;dsimp only at heq hok;obtain⟨cname,cparties,cdeals,⟨rc,rL⟩,cust,deliv⟩:=C;obtain⟨parties,deals,funds,rest,holidays⟩:=s;obtain⟨S,free,⟨c,L⟩,H,D⟩:=x;obtain⟨frm,to,number,lkind,ack,ldeal,text,party,index,day0,cur,amt,docs,boxes⟩:=l;unfold tF;dsimp only;cbv;repeat'((first|refine .n fun h=>?_|refine .y fun h=>?_|fail)<;>cbv)
 refine eQ hta (⟨⟨cname,cparties,cdeals,⟨rc,rL⟩,cust,deliv⟩,⟨frm,to,number,lkind,ack,ldeal,text,party,index,day0,cur,amt,docs,boxes⟩,day⟩:TQ) [0,1,2,3,4,5,6,7] ⟨trivial,hcq⟩ rfl rfl (by decide) rfl rfl rfl rfl rfl ?_;intro L0 hp0;have hK:=hK L0 hp0;have heq:=heq L0 hp0;obtain⟨r1,hr1⟩:∃r,r=iG ⟨cname,cparties,cdeals,⟨rc,rL⟩,cust,deliv⟩ ⟨frm,to,number,lkind,ack,ldeal,text,party,index,day0,cur,amt,docs,boxes⟩ day L0:=⟨_,rfl⟩
 rw[←hr1]at hK heq
 try dsimp only
 rw[←hr1];obtain⟨mv,⟨name1,parties1,deals1,⟨rc1,rL1⟩,cust1,deliv1⟩,l1⟩:=r1
 try dsimp only at hK heq
 subst heq;clear hr1;cases mv with
 |false=>
  cbv
  (refine ZN hrt (⟨⟨parties,deals,funds,rest,holidays⟩,name,⟨S,free,⟨c,L⟩,H,D⟩,⟨frm,to,number,lkind,ack,ldeal,text,party,index,day0,cur,amt,docs,boxes⟩,day⟩:Qj) ⟨trivial,htq⟩ ?_;try dsimp only)
  rw[←hr2];cbv
  (refine ZN hal l1 hok ?_;try dsimp only)
  cbv
  (refine .q9 ?_;cbv;exact .inl (.g9 hK))
 |true=>
  cbv
  (refine ZN hrt (⟨⟨parties,deals,funds,rest,holidays⟩,name,⟨S,free,⟨c,L⟩,H,D⟩,⟨frm,to,number,lkind,ack,ldeal,text,party,index,day0,cur,amt,docs,boxes⟩,day⟩:Qj) ⟨trivial,htq⟩ ?_;try dsimp only)
  rw[←hr2];cbv
  (refine ZN hal l1 hok ?_;try dsimp only)
  cbv
  (refine .q9 ?_;cbv;exact .inl (eV.sel [0,1,2,3,4,5,6,7,12,13] _ _ (by rfl) (by rfl) (by decide) (by rfl) cM (by rfl) (by rfl) (Le.refl _) (kF.refl _) hK))
set_option maxHeartbeats 4000000
structure XB (k:Nat) (s:iE) (x:Cs):Prop where
 S:x.S.length=s.deals.length
 F:x.free.length=s.deals.length
 st:∀z∈x.S,0≤z∧z≤4
 inv:C1 k x.reg
 H:x.H.length≤140 * k
 D:x.D.length≤70 * k
theorem pE {L:List Int}{i:Nat}{y z:Int}(h:z∈L.set i y):z∈L∨z=y:=by
 rcases List.mem_or_eq_of_mem_set h with h|h
 ·exact .inl h
 ·exact .inr h
theorem BJ {name:bH}{d:De}{day:Int}:∀{bs:List bH}{H H':List eF},lE name d day H bs=some H'→H'.length=H.length+2 * bs.length
 |[],H,H',h=>by cases h;simp
 |b :: r,H,H',h=>by
  have g:lE name d day H (b :: r)=if vN H (cV eS d.seller d.frm day b)≠0 then none else if iI (H++[cV eS d.seller d.frm day b]) (cV d.seller name d.frm day b)≠0 then none else lE name d day (H++[cV eS d.seller d.frm day b]++[cV d.seller name d.frm day b]) r:=rfl
  rw[g]at h
  split at h
  ·cases h
  split at h
  ·cases h
  have:=BJ h;simp only[aM,List.length_cons,List.length_nil]at this⊢;omega
theorem Af {f:bH→eF}:∀{bs:List bH}{H H':List eF},iK f H bs=some H'→H'.length=H.length+bs.length
 |[],H,H',h=>by cases h;simp
 |b :: r,H,H',h=>by
  have g:iK f H (b :: r)=if iI H (f b)≠0 then none else iK f (H++[f b]) r:=rfl
  rw[g]at h
  split at h
  ·cases h
  have:=Af h;simp only[aM,List.length_cons,List.length_nil]at this⊢;omega
section
variable {k:Nat}{s:iE}{x:Cs}{name:bH}{l:dR}{day:Int}
theorem XB.succ (h:XB k s x):XB (k+1) s x:=⟨h.S,h.F,h.st,h.inv.mono (Nat.le_succ k),by have:=h.H;omega,by have:=h.D;omega⟩
theorem XB.reg (h:XB k s x) {R:Rg}(hR:C1 (k+1) R):XB (k+1) s { x with reg:=R }:=⟨h.S,h.F,h.st,hR,by have:=h.H;show x.H.length≤_;omega,by have:=h.D;show x.D.length≤_;omega⟩
theorem Fe {i:Nat}{d:De}(hs:nK s) (hd:s.su.deals[i]?=some d):d.boxes.length≤70:=by
 have hd:(s.deals.map jM.de)[i]?=some d:=hd;rw[aD]at hd;cases he:s.deals[i]? with
 |none=>rw[he]at hd;cases hd
 |some e=>
  rw[he]at hd;cases hd;have:=(hs.ok e (aC he)).bx;show (e.boxes.map IO.mark).length≤70;rw[aJ];exact this
theorem TU:yF cK.noBl:=⟨aI _,aI _⟩
theorem XB.take (h:XB k s x) (hs:nK s) (nm:Int→bH):XB (k+1) s (fD nm s.su name x l day).1:=by
 unfold fD
 split
 ·exact h.succ
 rename_i i hi
 split
 ·exact h.succ
 split
 rotate_left
 ·exact h.succ
 rename_i d st fr hd hst hfr;have hbx:=Fe hs hd
 split
 ·split
  ·split
   ·exact h.succ
   ·rename_i H hH;have:=BJ hH;have hx:=h.H;refine⟨?_,h.F,fun z hz=>?_,h.inv.mono (Nat.le_succ k),?_,?_⟩
    ·show (x.S.set i 1).length=_;rw[bA];exact h.S
    ·rcases pE (show z∈x.S.set i 1 from hz)with hz|hz
     ·exact h.st z hz
     ·omega
    ·show H.length≤_;omega
    ·have:=h.D;show x.D.length≤_;omega
  ·exact h.succ
 split
 ·split
  ·refine⟨h.S,?_,h.st,h.inv.mono (Nat.le_succ k),?_,?_⟩
   ·show (x.free.set i true).length=_;rw[bA];exact h.F
   ·have:=h.H;show x.H.length≤_;omega
   ·have:=h.D;show x.D.length≤_;omega
  ·exact h.succ
 split
 rotate_left
 ·exact h.succ
 rename_i hk4 hk19 hkk;dsimp only;have hdo:∀k9:Int,0≤k9∧k9≤5→C1 (k+1) (kM x.reg (eZ k9 d l day)).1:=fun k9 hk9=>OI h.inv hk9 TU
 have hk9:0≤(if l.kind=8 then (1:Int) else if l.kind=20 then 2 else if l.kind=23 then 3 else 4)∧(if l.kind=8 then (1:Int) else if l.kind=20 then 2 else if l.kind=23 then 3 else 4)≤5:=by
  repeat' split
  all_goals decide
 obtain⟨k9,hke⟩:∃k9:Int,k9=(if l.kind=8 then (1:Int) else if l.kind=20 then 2 else if l.kind=23 then 3 else 4):=⟨_,rfl⟩
 rw[←hke]at hk9⊢;clear hke
 split
 ·exact h.succ
 split
 ·split
  ·exact h.succ
  ·rename_i H hH
   split
   ·exact h.succ
   ·have h1:=Af hH;have hx:=h.H;have hy:=h.D;refine⟨?_,h.F,fun z hz=>?_,hdo _ hk9,?_,?_⟩
    ·show (x.S.set i 4).length=_;rw[bA];exact h.S
    ·rcases pE (show z∈x.S.set i 4 from hz)with hz|hz
     ·exact h.st z hz
     ·omega
    ·show H.length≤_;omega
    ·show (x.D++H.drop x.H.length).length≤_;rw[aM,List.length_drop];omega
 ·exact h.reg (hdo _ hk9)
theorem XB.car (h:XB k s x) (hs:nK s) (kind:Int) (deal:bH):XB (k+1) s (lG eY s.su name x kind deal day).1:=by
 unfold lG
 split
 ·exact h.succ
 split
 ·exact h.succ
 rename_i i hi
 split
 rotate_left
 ·exact h.succ
 rename_i d st hd hst;have hbx:=Fe hs hd
 split
 ·split
  ·exact h.succ
  ·refine⟨?_,h.F,fun z hz=>?_,h.inv.mono (Nat.le_succ k),?_,?_⟩
   ·show (x.S.set i 3).length=_;rw[bA];exact h.S
   ·rcases pE (show z∈x.S.set i 3 from hz)with hz|hz
    ·exact h.st z hz
    ·omega
   ·have:=h.H;show x.H.length≤_;omega
   ·have:=h.D;show x.D.length≤_;omega
 split
 ·exact h.succ
 dsimp only
 split
 ·exact h.succ
 ·refine⟨?_,h.F,fun z hz=>?_,(Eb h.inv ⟨by show d.boxes.length≤5000;omega,aI _⟩).mono (Nat.le_succ k),?_,?_⟩
  ·show (x.S.set i 2).length=_;rw[bA];exact h.S
  ·rcases pE (show z∈x.S.set i 2 from hz)with hz|hz
   ·exact h.st z hz
   ·omega
  ·have:=h.H;show x.H.length≤_;omega
  ·have:=h.D;show x.D.length≤_;omega
theorem XB.new (s:iE) (name:bH):XB 0 s (Bt s.su name):=by
 refine⟨?_,?_,fun z hz=>?_,IG 0 name,aN _,aN _⟩
 ·show ((s.deals.map jM.de).map fun _=>(0:Int)).length=_;rw[aJ,aJ]
 ·show ((s.deals.map jM.de).map fun d=>decide (d.house=eS)).length=_;rw[aJ,aJ]
 ·obtain⟨d,_,rfl⟩:=aX.1 (show z∈(s.deals.map jM.de).map fun _=>(0:Int) from hz);decide
theorem XB.csOk (h:XB k s x) (hk:k≤100):Uk s x:=⟨h.S,h.F,by have:=h.H;omega,by have:=h.D;omega,h.inv.few,h.inv.inB (by omega)⟩
end
structure PB (C:Cr):Prop where
 cu:jL C.cust
 dz:∀d∈C.deals,d.number.size≤300∧d.boxes.length≤70∧∀b∈d.boxes,b.size≤60
theorem Cm {name:bH}{d:Dp}{day:Int}:∀{bs:List bH}{L L':List cZ},jL L→fF name d day L bs=some L'→jL L'
 |[],L,L',hc,h=>by cases h;exact hc
 |b :: r,L,L',hc,h=>by
  have g:fF name d day L (b :: r)=if rX L (cV eS d.seller d.frm day b)≠0 then none else if iF (L++[⟨b,[cV eS d.seller d.frm day b]⟩]) (cV d.seller name d.frm day b)≠0 then none else fF name d day (jC cZ.box (L++[⟨b,[cV eS d.seller d.frm day b]⟩]) b (hY (cV d.seller name d.frm day b))) r:=rfl
  rw[g]at h
  split at h
  ·cases h
  rename_i h1
  split at h
  ·cases h
  rename_i h2;have e1:rX L (cV eS d.seller d.frm day b)=0:=by omega
  have e2:iF (L++[⟨b,[cV eS d.seller d.frm day b]⟩]) (cV d.seller name d.frm day b)=0:=by omega
  exact Cm ((hc.beg e1).hand (x:=cV d.seller name d.frm day b) e2) h
theorem BS {f:bH→eF}:∀{bs:List bH}{L L':List cZ},jL L→eX f L bs=some L'→jL L'
 |[],L,L',hc,h=>by cases h;exact hc
 |b :: r,L,L',hc,h=>by
  have g:eX f L (b :: r)=if iF L (f b)≠0 then none else eX f (jC cZ.box L (f b).box (hY (f b))) r:=rfl
  rw[g]at h
  split at h
  ·cases h
  rename_i h1;have e1:iF L (f b)=0:=by omega
  exact BS (hc.hand e1) h
section
variable {C:Cr}{l:dR}{day:Int}
theorem PB.perm (h:PB C) {L:List cZ}(p:L.Perm C.cust):PB { C with cust:=L }:=⟨h.cu.perm p.symm,h.dz⟩
theorem PB.upd (h:PB C) (n:bH) {f:Dp→Dp}(hf:∀d,(f d).number=d.number∧(f d).boxes=d.boxes):PB (qC C n f):=⟨h.cu,fun d hd=>by
 obtain⟨e,he,rfl⟩:=aX.1 (show d∈C.deals.map fun b=>if b.number=n then f b else b from hd)
 split
 ·rw[(hf e).1,(hf e).2];exact h.dz e he
 ·exact h.dz e he⟩
theorem uO (st:Int) (d:Dp):(wW st d).number=d.number∧(wW st d).boxes=d.boxes:=⟨rfl,rfl⟩
theorem PB.kind (h:PB C) (nm:Int→bH) (d:Dp):PB (rG nm C d l day).1:=by
 unfold rG
 split
 ·show PB (sA C d l day);unfold sA
  split
  ·exact h
  split
  ·exact h
  ·rename_i L hL;exact PB.upd (C:={ C with cust:=L }) ⟨Cm h.cu hL,h.dz⟩ _ (uO 1)
 split
 ·unfold Au
  split
  ·exact h
  ·exact⟨h.cu,h.dz⟩
 split
 ·unfold Fm
  split
  ·exact h
  split
  ·exact h
  ·rename_i L hL
   split
   ·exact h
   ·exact PB.upd (C:={ C with cust:=L,deliv:=_,reg:=_ }) ⟨BS h.cu hL,h.dz⟩ _ (uO 4)
 split
 ·show PB (FC C d l);unfold FC
  split
  ·exact h.upd _ fun d=>⟨rfl,rfl⟩
  ·exact h
 split
 ·unfold sJ
  split
  ·exact h
  ·exact⟨h.cu,h.dz⟩
 split
 ·unfold sD
  split
  ·exact h
  ·exact⟨h.cu,h.dz⟩
 exact h
theorem PB.take (h:PB C) (nm:Int→bH):PB (nX nm C l day).1:=by
 unfold nX
 split
 ·exact h
 split
 ·exact h
 ·exact h.kind nm _
theorem PB.car (h:PB C) (kind:Int) (deal:bH):PB (lO eY C kind deal day).1:=by
 unfold lO
 split
 ·exact h
 split
 ·exact h
 rename_i d hd;by_cases h1:d.state≠(if kind=5 then 1 else 2)
 ·rw[aF h1];exact h
 rw[aE h1];by_cases hk:kind=5
 ·rw[aF hk];unfold uR
  split
  ·exact h
  ·exact PB.upd (C:={ C with reg:=kD ⟨C.reg,gS C.name d day,d.seller⟩ }) ⟨h.cu,h.dz⟩ _ (uO 2)
 ·rw[aE hk];exact h.upd _ (uO 3)
end
theorem kT {n:bH}{day:Int}{ls:List dR}(h:ls.length≤1∧∀l∈ls,tM l):(cI n day ls).length≤1000∧∀l∈cI n day ls,tM l:=by
 unfold cI;refine⟨by rw[aJ];omega,fun l hl=>?_⟩;obtain⟨x,hx,rfl⟩:=aX.1 hl;exact h.2 x hx
theorem rT {l:dR}(h:tM l):[l].length≤1∧∀x∈[l],tM x:=⟨aN _,fun x hx=>by
 obtain rfl:x=l:=by simpa using hx
 exact h⟩
theorem uN {l:dR}(hd:l.docs=[]) (hb:l.boxes.length≤1000):tM l:=⟨by rw[hd];exact aI _,hb,fun d hm=>by rw[hd]at hm;cases hm⟩
theorem DF (nm:Int→bH) (l:dR):(eW nm l).length≤1∧∀x∈eW nm l,tM x:=rT (uN rfl (aI _))
theorem jB:([]:List dR).length≤1000∧∀x∈([]:List dR),tM x:=⟨aI _,fun x hx=>by cases hx⟩
theorem O8:([]:List dR).length≤1∧∀x∈([]:List dR),tM x:=⟨aI _,fun x hx=>by cases hx⟩
theorem MC {s:iE}(hs:nK s) {x:Cs}{name:bH}{l:dR}{day:Int}(nm:Int→bH):(fD nm s.su name x l day).2.length≤1000∧∀y∈(fD nm s.su name x l day).2,tM y:=by
 unfold fD
 split
 ·exact jB
 split
 ·exact jB
 split
 rotate_left
 ·exact jB
 rename_i d st fr hd hst hfr;have hbx:=Fe hs hd
 split
 ·exact jB
 split
 ·exact jB
 split
 rotate_left
 ·exact jB
 dsimp only;obtain⟨k9,hke⟩:∃k9:Int,k9=(if l.kind=8 then (1:Int) else if l.kind=20 then 2 else if l.kind=23 then 3 else 4):=⟨_,rfl⟩
 rw[←hke];clear hke
 split
 ·exact kT (DF nm l)
 split
 ·split
  ·exact kT (DF nm l)
  ·split
   ·exact kT (DF nm l)
   ·exact kT (rT (uN rfl (by show d.boxes.length≤1000;omega)))
 ·refine kT ?_
  split
  ·exact rT (uN rfl (aI _))
  split
  ·exact rT (uN rfl (aI _))
  ·exact O8
theorem QS {s:iE}(hs:nK s) {x:Cs}{name:bH}{day:Int}(kind:Int) (deal:bH):(lG eY s.su name x kind deal day).2.1.length≤1000∧∀y∈(lG eY s.su name x kind deal day).2.1,tM y:=by
 unfold lG
 split
 ·exact jB
 split
 ·exact jB
 split
 rotate_left
 ·exact jB
 rename_i d st hd hst;have hbx:=Fe hs hd
 split
 ·split
  ·exact jB
  ·exact kT (rT (uN rfl (by show d.boxes.length≤1000;omega)))
 split
 ·exact jB
 dsimp only
 split
 ·exact jB
 ·refine kT (rT ⟨Nat.le_of_ble_eq_true rfl,aI _,fun d2 hd2=>?_⟩);obtain rfl:d2=eY (gS name (cN d st true) day):=by simpa using hd2
  exact Nat.le_of_ble_eq_true rfl
structure Jt (k:Nat) (s:iE) (name:bH) (C:Cr) (x:Cs):Prop where
 rel:fG s.su C x
 nm:C.name=name
 xb:XB k s x
 pb:PB C
structure CW (o:kE):Prop where
 day:-9223372036854775808≤o.day∧o.day≤9223372036854775807
 a:o.a.deal.size≤300
 l:o.l.frm.size≤300∧o.l.deal.size≤300∧o.l.party.size≤300
section
variable {k:Nat}{s:iE}{name:bH}{C:Cr}{x:Cs}{o:kE}{l:dR}{day:Int}{L0:List cZ}
theorem Jt.inv (h:Jt k s name C x):C1 k C.reg:=by rw[h.rel.reg];exact h.xb.inv
theorem Jt.crOk (h:Jt k s name C x) (hk:k≤100):Ty C:=⟨h.rel.nd,h.inv.few,h.inv.inB (by omega),fun d hd=>by have:=(h.pb.dz d hd).1;omega,fun d hd=>(h.pb.dz d hd).2.1,fun d hd=>(h.pb.dz d hd).2.2⟩
theorem Jt.tqOk (h:Jt k s name C x) (hk:k≤100):Tq ⟨C,l,day⟩:=⟨h.crOk hk,h.pb.cu,by
 show C.deliv.length≤40000;rw[h.rel.del];have:=h.xb.D;omega⟩
theorem Vw (hs:nK s):∀d∈s.su.deals,Ua d:=fun d hd=>by
 obtain⟨i,hi⟩:=aV hd;exact Fe hs hi
theorem Jt.act (h:Jt k s name C x) (hs:nK s) (kind:Int) (deal:bH) (day:Int):Jt (k+1) s name (lO eY C kind deal day).1 (lG eY s.su name x kind deal day).1∧(lO eY C kind deal day).2=(lG eY s.su name x kind deal day).2:=by
 obtain⟨h1,h2,h3⟩:=fG.car (day:=day) eY h.rel (Vw hs) kind deal;rw[h.nm]at h1 h2 h3;exact⟨⟨h1,h3,h.xb.car hs kind deal,h.pb.car kind deal⟩,h2⟩
theorem Jt.take (h:Jt k s name C x) (hs:nK s) (l:dR) (day:Int) (hp:L0.Perm C.cust):Jt (k+1) s name (iG C l day L0).2.1 (fD fN s.su name x l day).1∧(iG C l day L0).2.2=(fD fN s.su name x l day).2:=by
 obtain⟨L1,hp1,he⟩:=JO h.rel l day hp;obtain⟨h1,h2,h3⟩:=(h.rel.perm hp1.symm).take fN l day;have h3:(nX fN { C with cust:=L1 } l day).1.name=C.name:=h3;have h1:fG s.su (nX fN { C with cust:=L1 } l day).1 (fD fN s.su C.name x l day).1:=h1;have h2:(nX fN { C with cust:=L1 } l day).2=(fD fN s.su C.name x l day).2:=h2;have h4:=(h.pb.perm hp1).take (l:=l) (day:=day) fN;rw[←he]at h1 h2 h3 h4;rw[h.nm]at h1 h2 h3;exact⟨⟨h1,h3,h.xb.take hs fN,h4⟩,h2⟩
theorem Jt.succ (h:Jt k s name C x):Jt (k+1) s name C x:=⟨h.rel,h.nm,h.xb.succ,h.pb⟩
theorem Jt.doA (h:Jt k s name C x) (hk:k≤100) (hs:nK s) (hn:name.size≤60) (ho:CW o):YB ⟨C,s,name,x,o⟩:=
 ⟨⟨h.crOk hk,ho.day⟩,⟨hs,h.xb.csOk hk,⟨hn,ho.a⟩,ho.day⟩,(h.act hs _ _ _).2,QS hs _ _⟩
theorem Jt.doT (h:Jt k s name C x) (hk:k≤100) (hs:nK s) (hn:name.size≤60) (ho:CW o):Yt ⟨C,s,name,x,o⟩:=
 ⟨h.tqOk hk,⟨hs,h.xb.csOk hk,⟨hn,ho.l.1,ho.l.2.1,ho.l.2.2⟩⟩,fun L0 hp=>(h.take hs _ _ hp).2,MC hs fN⟩
end
def uH (s:iE) (name:bH) (x:Cs) (o:kE):Cs:=if o.kind=0 then (lG eY s.su name x o.a.kind o.a.deal o.day).1 else if o.kind=1 then (fD fN s.su name x o.l o.day).1 else x
structure DJ where
 q:DQ
 k:Nat
structure Sl (j:DJ):Prop where
 jt:Jt j.k j.q.s j.q.name j.q.C j.q.x
 k:j.k≤100
 s:nK j.q.s
 n:j.q.name.size≤60
 o:CW j.q.o
def Qo:dO:=sG (fun j:DJ=>tF j.q) (fun j=>yL j.q.C) Sl (fun j (r:Bool×Cr)=>Jt (j.k+1) j.q.s j.q.name r.2 (uH j.q.s j.q.name j.q.x j.q.o)) (fun j _=>.tup [Ei (uH j.q.s j.q.name j.q.x j.q.o),.bl true]) fun j r=>OS r.1 r.2 j.q.C.cust
theorem TT {P:bI}(hac:bK P 23 (xP fun _=>True)) (hra:bK P 65 (TE fun _=>True)) (hta:bK P 18 (sU fun _=>True)) (hrt:bK P 67 (N4 fun _=>True)) (hti:bK P 24 CK) (hal:bK P 66 MH):bO P Wu Qo:=by
 intro args H0 K hc;obtain⟨⟨⟨C,s,name,x,o⟩,k⟩,h1,h2,⟨hj,hk,hs,hn,ho⟩,hK⟩:=hc;dsimp only at hj hk hs hn ho;by_cases k0:o.kind=0
 ·have e:uH s name x o=(lG eY s.su name x o.a.kind o.a.deal o.day).1:=aF k0;have h5:=hK (false,(lO eY C o.a.kind o.a.deal o.day).1) (by dsimp only;rw[e];exact(hj.act hs _ _ _).1);dsimp only at h5;rw[e]at h5;exact Sj P hac hra hal args H0 K ⟨⟨C,s,name,x,o⟩,h1,h2,⟨k0,hj.doA hk hs hn ho⟩,h5⟩
 by_cases k1:o.kind=1
 ·have e:uH s name x o=(fD fN s.su name x o.l o.day).1:=(aE k0).trans (aF k1);refine PA P hta hrt hal args H0 K ⟨⟨C,s,name,x,o⟩,h1,h2,⟨k1,hj.doT hk hs hn ho⟩,fun L0 hp=>?_⟩;have h5:=hK ((iG C o.l o.day L0).1,(iG C o.l o.day L0).2.1) (by dsimp only;rw[e];exact(hj.take hs _ _ hp).1);dsimp only at h5;rw[e]at h5;exact h5
 ·have e:uH s name x o=x:=(aE k0).trans (aE k1);have h5:=hK (false,C) (by dsimp only;rw[e];exact hj.succ);dsimp only at h5;rw[e]at h5;exact QQ P hti args H0 K ⟨⟨C,s,name,x,o⟩,h1,h2,⟨k0,k1⟩,h5⟩
theorem Jt.new {s:iE}{name:bH}(hs:nK s):Jt 0 s name (KU s.su name) (Bt s.su name):=by
 refine⟨fG.new s.su name,rfl,XB.new s name,⟨⟨aI _,.nil,fun b hb=>(by cases hb),fun b hb=>(by cases hb),fun b hb=>(by cases hb)⟩,?_⟩⟩;have h:∀(l:List De) (L:List Dp),(∀d∈l,d.number.size≤300∧d.boxes.length≤70∧∀b∈d.boxes,b.size≤60)→(∀d∈L,d.number.size≤300∧d.boxes.length≤70∧∀b∈d.boxes,b.size≤60)→∀d∈l.foldl (F3 name) L,d.number.size≤300∧d.boxes.length≤70∧∀b∈d.boxes,b.size≤60:=by
  intro l
  induction l with
  |nil=>intro L _ hL d hd;exact hL d hd
  |cons a l ih=>
   intro L hl hL;rw[List.foldl_cons];refine ih _ (fun d hd=>hl d (aW _ hd)) fun d hd=>?_
   unfold F3 at hd
   split at hd
   ·exact hL d hd
   ·rcases List.mem_append.1 hd with hd|hd
    ·exact hL d hd
    ·obtain rfl:d=cN a 0 (decide (a.house=eS)):=by simpa using hd
     exact hl a (bD ..)
 refine h s.su.deals [] (fun d hd=>?_) fun d hd=>by cases hd
 obtain⟨e,he,rfl⟩:=aX.1 (show d∈s.deals.map jM.de from hd);have hok:=hs.ok e he;refine⟨hok.sz.1,?_,fun b hb=>?_⟩
 ·show (e.boxes.map IO.mark).length≤70;rw[aJ];exact hok.bx
 ·exact kQ hok b hb
set_option maxHeartbeats 8000000
def zU (s:iE) (name:bH) (l:List kE):Cs:=l.foldl (uH s name) (Bt s.su name)
structure X9 where
 s:iE
 name:bH
 l:List kE
structure UR (q:X9):Prop where
 s:nK q.s
 n:q.name.size≤60
 l:q.l.length≤40
 o:∀o∈q.l,CW o
def C7:dO:=sG (fun q:X9=>[Gy q.s,.str q.name,.sl 19 (bJ mT q.l)]) (fun _=>[]) UR (fun q C=>Jt q.l.length q.s q.name C (zU q.s q.name q.l)) (fun q _=>.tup [.ptr 0 0,Ei (zU q.s q.name q.l)]) fun _ C=>yL C
theorem E8 (P:bI) (hn:bK P 21 tV) (hrn:bK P 31 CD) (hdo:bK P 32 Qo):bO P Y1 C7:=by
 intro args H K hc;obtain⟨⟨⟨parties,deals,funds,rest,holidays⟩,name,l⟩,rfl,rfl,hp,hK⟩:=hc;refine⟨cM,?_⟩;dsimp only at hp hK⊢;obtain⟨hs,hnz,hll,hlo⟩:=hp;dsimp only at hs hnz hll hlo;have hjn:=Jt.new (name:=name) hs;obtain⟨n,hnn⟩:∃n:Nat,n=l.length:=⟨_,rfl⟩
 obtain⟨⟨name1,parties1,deals1,⟨rc1,rL1⟩,cust1,deliv1⟩,hC0⟩:∃C,C=KU (iE.su ⟨parties,deals,funds,rest,holidays⟩) name:=⟨_,rfl⟩
 obtain⟨⟨S,free,⟨c,L⟩,H,D⟩,hx0⟩:∃x,x=Bt (iE.su ⟨parties,deals,funds,rest,holidays⟩) name:=⟨_,rfl⟩
 rw[←hC0,←hx0]at hjn;cbv;repeat'((first|refine And.intro ?_ ?_|fail)<;>cbv)
 all_goals
  repeat'(first
   |((refine Bg hn ((name,⟨parties,deals,funds,rest,holidays⟩):bH×iE) hs ?_;try dsimp only)
     rw[←hC0];cbv;repeat'((first|refine And.intro ?_ ?_|fail)<;>cbv))
   |((refine ZN hrn ((⟨parties,deals,funds,rest,holidays⟩,name):iE×bH) hs.de ?_;try dsimp only)
     rw[←hx0];cbv))
 all_goals first
 |refine fX (Gh.sel (st':=⟨[(1,.str name),(2,.sl 19 (bJ mT l)),(3,.ptr 8 0),(7,.ptr 9 0),(8,.ptr 0 0),(9,.ptr 10 0),(10,.i 0)],[.blk 118 [.str name1,.hd 1,.ph 2,.ptr 3 0,.ptr 5 0,.hd 7],.map 70 (bJ iP parties1),.pool 116 (bJ gO deals1) [],.blk 122 [.str rc1,.ph 4],.pool 120 (bJ fO rL1) [],.blk 174 [.ph 6],.pool 172 (bJ gF cust1) [],.tip 77 5 (bJ dB deliv1),.blk 29 [.sl 3 (bJ jP parties),.sl 17 (bJ iY deals),.sl 3 (bJ kA funds),.sl 1 (bJ dD rest),.sl 1 (bJ dD holidays)],.blk 41 [.v (.slice none 0 0),.v (.slice none 0 0),.str ⟨#[]⟩,.v (.slice none 0 0),.v (.slice none 0 0),.v (.slice none 0 0)],.blk 41 [.sl 1 (bJ dD S),.sl 1 (bJ mK free),.str c,.sl 11 (bJ iL L),.sl 5 (bJ dB H),.sl 5 (bJ dB D)]]⟩) [3,4,5,6,7,8,9,10,0,1,2] (by repeat'(first|exact trivial|refine⟨.inl rfl,?_⟩|refine⟨.inr rfl,?_⟩)) rfl (by decide) rfl rfl) ?_
 |refine fX (Gh.sel (st':=⟨[(1,.str name),(2,.sl 19 (bJ mT l)),(3,.ptr 8 0),(7,.ptr 9 0),(8,.ptr 0 0),(9,.ptr 10 0),(10,.i 0)],[.blk 118 [.str name1,.hd 1,.ph 2,.ptr 3 0,.ptr 5 0,.hd 7],.map 70 (bJ iP parties1),.pool 116 (bJ gO deals1) [],.blk 122 [.str rc1,.ph 4],.pool 120 (bJ fO rL1) [],.blk 174 [.ph 6],.pool 172 (bJ gF cust1) [],.tip 77 5 (bJ dB deliv1),.blk 29 [.sl 3 (bJ jP parties),.sl 17 (bJ iY deals),.sl 3 (bJ kA funds),.sl 1 (bJ dD rest),.sl 1 (bJ dD holidays)],.blk 41 [.v (.slice none 0 0),.v (.slice none 0 0),.str ⟨#[]⟩,.v (.slice none 0 0),.v (.slice none 0 0),.v (.slice none 0 0)],.blk 41 [.sl 1 (bJ dD S),.sl 1 (bJ mK free),.str c,.sl 11 (bJ iL L),.sl 5 (bJ dB H),.sl 5 (bJ dB D)]]⟩) [2,3,4,5,6,7,8,9,0,1,10] (by repeat'(first|exact trivial|refine⟨.inl rfl,?_⟩|refine⟨.inr rfl,?_⟩)) rfl (by decide) rfl rfl) ?_
 all_goals
  refine bS [] (fun p:{ p:Nat×Cr×Cs // p.1≤l.length∧Jt p.1 ⟨parties,deals,funds,rest,holidays⟩ name p.2.1 p.2.2∧p.2.2=zU ⟨parties,deals,funds,rest,holidays⟩ name (l.take p.1) }=>[(10,.i (nI p.1.1))]) (fun p=>[.blk 118 [.str p.1.2.1.name,.hd 1,.ph 2,.ptr 3 0,.ptr 5 0,.hd 7],.map 70 (bJ iP p.1.2.1.parties),.pool 116 (bJ gO p.1.2.1.deals) [],.blk 122 [.str p.1.2.1.reg.carrier,.ph 4],.pool 120 (bJ fO p.1.2.1.reg.bills) [],.blk 174 [.ph 6],.pool 172 (bJ gF p.1.2.1.cust) [],.tip 77 5 (bJ dB p.1.2.1.deliv),.blk 29 [.sl 3 (bJ jP parties),.sl 17 (bJ iY deals),.sl 3 (bJ kA funds),.sl 1 (bJ dD rest),.sl 1 (bJ dD holidays)],.blk 41 [.v (.slice none 0 0),.v (.slice none 0 0),.str ⟨#[]⟩,.v (.slice none 0 0),.v (.slice none 0 0),.v (.slice none 0 0)],.blk 41 [.sl 1 (bJ dD p.1.2.2.S),.sl 1 (bJ mK p.1.2.2.free),.str p.1.2.2.reg.carrier,.sl 11 (bJ iL p.1.2.2.reg.bills),.sl 5 (bJ dB p.1.2.2.H),.sl 5 (bJ dB p.1.2.2.D)]]) (fun p=>fE n p.1.1) ⟨(0,⟨name1,parties1,deals1,⟨rc1,rL1⟩,cust1,deliv1⟩,⟨S,free,⟨c,L⟩,H,D⟩),aI _,hjn,hx0⟩ ?_;rintro ⟨⟨k,⟨name2,parties2,deals2,⟨rc2,rL2⟩,cust2,deliv2⟩,⟨S2,free2,⟨c2,L2⟩,H2,D2⟩⟩,hk,hj,hx⟩;dsimp only at hk hj hx⊢;rcases aL k l.length with hks|hks
  ·obtain⟨o,ho⟩:=cJ hks;have hoo:=hlo o (aC ho);have hpx:zU ⟨parties,deals,funds,rest,holidays⟩ name (l.take (k+1))=uH ⟨parties,deals,funds,rest,holidays⟩ name ⟨S2,free2,⟨c2,L2⟩,H2,D2⟩ o:=by
    unfold zU at hx⊢;rw[cY ho,List.foldl_append,←hx];rfl
   obtain⟨⟨S3,free3,⟨c3,L3⟩,H3,D3⟩,hx3⟩:∃y,y=uH ⟨parties,deals,funds,rest,holidays⟩ name ⟨S2,free2,⟨c2,L2⟩,H2,D2⟩ o:=⟨_,rfl⟩
   rw[←hx3]at hpx;have hdj:Sl ⟨⟨⟨name2,parties2,deals2,⟨rc2,rL2⟩,cust2,deliv2⟩,⟨parties,deals,funds,rest,holidays⟩,name,⟨S2,free2,⟨c2,L2⟩,H2,D2⟩,o⟩,k⟩:=⟨hj,by dsimp only;omega,hs,hnz,hoo⟩
   obtain⟨okind,oday,⟨ak,an,adeal⟩,⟨frm,to,number,lkind,ack,ldeal,text,party,index,day0,cur,amt,docs,boxes⟩⟩:=o;cbv;repeat'((first|refine .e ?_|refine .y fun h=>?_|refine .k fun z hz=>?_|refine And.intro ?_ ?_|fail)<;>cbv)
   all_goals
    refine eQ hdo (⟨⟨⟨name2,parties2,deals2,⟨rc2,rL2⟩,cust2,deliv2⟩,⟨parties,deals,funds,rest,holidays⟩,name,⟨S2,free2,⟨c2,L2⟩,H2,D2⟩,⟨okind,oday,⟨ak,an,adeal⟩,⟨frm,to,number,lkind,ack,ldeal,text,party,index,day0,cur,amt,docs,boxes⟩⟩⟩,k⟩:DJ) [0,1,2,3,4,5,6,7] hdj rfl rfl (by decide) rfl rfl rfl rfl rfl ?_;rintro ⟨mv,⟨name3,parties3,deals3,⟨rc3,rL3⟩,cust3,deliv3⟩⟩ hj3;dsimp only at hj3;rw[←hx3]at hj3
    try dsimp only
    rw[←hx3];cases mv with
    |false=>
     cbv;repeat'((first|refine .k fun z hz=>?_|fail)<;>cbv)
     obtain rfl:z=nI (k+1):=bQ;exact bM ⟨(k+1,⟨name3,parties3,deals3,⟨rc3,rL3⟩,cust3,deliv3⟩,⟨S3,free3,⟨c3,L3⟩,H3,D3⟩),hks,hj3,hpx.symm⟩ (bN (by omega))
    |true=>
     cbv;repeat'((first|refine .k fun z hz=>?_|fail)<;>cbv)
     obtain rfl:z=nI (k+1):=bQ
     first
     |refine dV (Gh.sel (st':=⟨[(1,.str name),(2,.sl 19 (bJ mT l)),(3,.ptr 8 0),(7,.ptr 9 0),(8,.ptr 0 0),(9,.ptr 10 0),(10,.i (nI (k+1)))],[.blk 118 [.str name3,.hd 1,.ph 2,.ptr 3 0,.ptr 5 0,.hd 7],.map 70 (bJ iP parties3),.pool 116 (bJ gO deals3) [],.blk 122 [.str rc3,.ph 4],.pool 120 (bJ fO rL3) [],.blk 174 [.ph 6],.pool 172 (bJ gF cust3) [],.tip 77 5 (bJ dB deliv3),.blk 29 [.sl 3 (bJ jP parties),.sl 17 (bJ iY deals),.sl 3 (bJ kA funds),.sl 1 (bJ dD rest),.sl 1 (bJ dD holidays)],.blk 41 [.v (.slice none 0 0),.v (.slice none 0 0),.str ⟨#[]⟩,.v (.slice none 0 0),.v (.slice none 0 0),.v (.slice none 0 0)],.blk 41 [.sl 1 (bJ dD S3),.sl 1 (bJ mK free3),.str c3,.sl 11 (bJ iL L3),.sl 5 (bJ dB H3),.sl 5 (bJ dB D3)]]⟩) [0,1,2,3,4,11,12,7,8,9,10] (by repeat'(first|exact trivial|refine⟨.inl rfl,?_⟩|refine⟨.inr rfl,?_⟩)) rfl (by decide) rfl rfl) ?_
     |refine dV (Gh.sel (st':=⟨[(1,.str name),(2,.sl 19 (bJ mT l)),(3,.ptr 8 0),(7,.ptr 9 0),(8,.ptr 0 0),(9,.ptr 10 0),(10,.i (nI (k+1)))],[.blk 118 [.str name3,.hd 1,.ph 2,.ptr 3 0,.ptr 5 0,.hd 7],.map 70 (bJ iP parties3),.pool 116 (bJ gO deals3) [],.blk 122 [.str rc3,.ph 4],.pool 120 (bJ fO rL3) [],.blk 174 [.ph 6],.pool 172 (bJ gF cust3) [],.tip 77 5 (bJ dB deliv3),.blk 29 [.sl 3 (bJ jP parties),.sl 17 (bJ iY deals),.sl 3 (bJ kA funds),.sl 1 (bJ dD rest),.sl 1 (bJ dD holidays)],.blk 41 [.v (.slice none 0 0),.v (.slice none 0 0),.str ⟨#[]⟩,.v (.slice none 0 0),.v (.slice none 0 0),.v (.slice none 0 0)],.blk 41 [.sl 1 (bJ dD S3),.sl 1 (bJ mK free3),.str c3,.sl 11 (bJ iL L3),.sl 5 (bJ dB H3),.sl 5 (bJ dB D3)]]⟩) [0,1,2,3,4,12,13,7,8,9,10] (by repeat'(first|exact trivial|refine⟨.inl rfl,?_⟩|refine⟨.inr rfl,?_⟩)) rfl (by decide) rfl rfl) ?_
     exact bM ⟨(k+1,⟨name3,parties3,deals3,⟨rc3,rL3⟩,cust3,deliv3⟩,⟨S3,free3,⟨c3,L3⟩,H3,D3⟩),hks,hj3,hpx.symm⟩ (bN (by omega))
  have hkn:k=l.length:=by omega
  have hpl:zU ⟨parties,deals,funds,rest,holidays⟩ name l=⟨S2,free2,⟨c2,L2⟩,H2,D2⟩:=by rw[hx,hkn,List.take_length]
  have hK:=hK ⟨name2,parties2,deals2,⟨rc2,rL2⟩,cust2,deliv2⟩ (by rw[hpl,←hkn];exact hj);rw[hpl]at hK;cbv;repeat'((first|refine .n fun h=>?_|refine .k fun z hz=>?_|fail)<;>cbv)
  (refine .q9 ?_;cbv;exact .inl (.g9 hK))
set_option maxHeartbeats 4000000
theorem A9 {z:Int}(h:Ae z):0≤z∧z≤3:=by rcases h with rfl|rfl<;>decide
theorem R0 {st a b c:Int}(h:Wf st a b c):(0≤a∧a≤3)∧(0≤b∧b≤3)∧(0≤c∧c≤3):=by
 rcases h with ⟨_,h1,h2,h3⟩|⟨_,⟨rfl,rfl,rfl⟩|⟨rfl,rfl,rfl⟩|⟨rfl,rfl,rfl⟩⟩|⟨_,rfl,rfl,rfl⟩
 ·exact⟨A9 h1,A9 h2,A9 h3⟩
 all_goals decide
theorem QD {c:bH}{b:Bl}(h:yJ c b=true):bT b.number=true:=by
 cases hn:bT b.number with
 |true=>rfl
 |false=>
  unfold yJ at h;simp[hn]at h
theorem wR.brT {n:Nat}{c:bH}{b:Br}(h:wR n c b):UE b:=by
 have h1:=jT (QD h.may);have h2:=jT h.h0.name;have h3:=jT h.h1.name;have h4:=jT h.h2.name;obtain⟨h5,h6,h7⟩:=R0 h.st;exact⟨by omega,by omega,by omega,by omega,h5,h6,h7⟩
section
variable {k:Nat}{s:iE}{name:bH}{C:Cr}{x:Cs}
theorem Qs {L:List cZ}{H:List eF}(hc:kY L H) (ho:jL L) {h:eF}(hm:h∈H):h.box.size≤1000∧h.to.size≤1000∧h.place.size≤1000:=by
 have hw:h∈iW H h.box:=List.mem_filter.2 ⟨hm,by simp⟩;cases hl:gV cZ.box L h.box with
 |none=>rw[hc.no _ hl]at hw;cases hw
 |some b=>
  obtain⟨h1,h2⟩:=hc.yes _ b hl;obtain⟨hbm,hbx⟩:=jY hl;have h3:=ho.sz b hbm;rw[←h1]at hw;have h4:=h3.2 h hw;have h5:=h3.1;rw[hbx]at h5;exact⟨by omega,by omega,by omega⟩
theorem Jt.txOk (h:Jt k s name C x) (hs:nK s) (hk:k≤100):UU s x:=by
 have hH:=h.xb.H;exact⟨hs.de,h.xb.S,h.xb.F,fun d hd=>(hs.ok d hd).sz.1,h.xb.st,h.xb.inv.few,fun b hb=>(h.xb.inv.all b hb).brT,by omega,fun g hg=>Qs h.rel.cust h.pb.cu hg⟩
theorem fG.nums {s:Su}{C:Cr}{x:Cs}(h:fG s C x):BV s C.name=eA (C.deals.map Dp.number):=by
 obtain⟨h1,h2⟩:=qP C.name s.deals [] .nil;refine Eh h1 h.nd fun n=>(h2 n).trans ?_
 rw[←sK];constructor
 ·rintro (a|⟨i,hi⟩)
  ·cases a
  ·obtain⟨d,st,fr,g1,g2,g3,g4,g5⟩:=h.at hi;obtain⟨g6,g7⟩:=jY g5;exact aX.2 ⟨_,g6,g7⟩
 ·intro hm;refine .inr ?_;cases hi:dP s C.name n with
  |some i=>exact⟨i,rfl⟩
  |none=>
   obtain⟨d,hd,hn⟩:=aX.1 hm;exact absurd hn (iJ (h.no n hi) hd)
theorem Jt.dlen (h:Jt k s name C x) (hs:nK s):C.deals.length≤8:=by
 have h1:=congrArg List.length h.rel.nums;rw[kG,aJ]at h1;rw[←h1];exact Nat.le_trans (wL _ _) hs.de
theorem Jt.ctxOk (h:Jt k s name C x) (hs:nK s) (hk:k≤100):Rz C:=by
 refine⟨h.rel.nd,h.dlen hs,fun d hd=>?_,h.inv.few,h.inv.inB (by omega),fun b hb=>(h.inv.all b hb).brT,h.inv.nd,h.pb.cu⟩;have hl:gV Dp.number C.deals d.number=some d:=sT h.rel.nd hd rfl;refine⟨(h.pb.dz d hd).1,?_⟩;cases hi:dP s.su C.name d.number with
 |none=>rw[h.rel.no _ hi]at hl;cases hl
 |some i=>
  obtain⟨e,st,fr,h1,h2,h3,h4,h5⟩:=h.rel.at hi;rw[h5]at hl;cases hl;exact h.xb.st st (aC h2)
theorem Jt.text (h:Jt k s name C x):AU C=A6 s.su name x:=by rw[←h.nm];exact h.rel.text
end
set_option maxHeartbeats 2000000
section
variable {T:Int}{k:Nat}{s:iE}{name:bH}{C:Cr}{x:Cs}{o:kE}
end
section
variable {k:Nat}{s:iE}{name:bH}{C:Cr}{x:Cs}{n:bH}{i:Nat}{day:Int}
end
section
variable {k:Nat}{c:bH}{L0 L:List Br}{i m:Nat}{b:Br}
end
set_option maxHeartbeats 8000000
theorem BO:AY Tryz.prog:=⟨HR (fun blk off cap ss W h1 h2 h3=>Any.slices_Sort_string vB blk off cap ss W h1 h2 h3) (fun p cap W=>Any.slices_Sort_string_none vB p cap W),enters_of vB.f190 rfl rfl,TJ⟩
theorem PV:bK Tryz.prog 56 Ov:=EJ Pv Tp
theorem Oi:bK Tryz.prog 61 IF:=DP Qy Tp
theorem I9:bK Tryz.prog 64 (BD eN):=S4 (by kernel_rfl)
def uU:dO:=spec (fun _:Unit=>[]) (fun _=>[]) (fun _=>True) (fun _=>.bl true) fun _=>[]
def FG (d:Int):Prop:=-9223372036854775808≤d∧d≤9223372036854775807
structure YA (q:wJ):Prop where
 f:L8 q
 d:∀o∈q.l,FG o.day
def Wp:dO:=spec (fun q:wJ=>[Gy q.s,.str q.name,.sl 19 (bJ mT q.l)]) (fun _=>[]) YA (fun _=>.bl true) fun _=>[]
theorem OD {s:iE}{name:bH}{l:List kE}(h:Dq s name l) (hd:∀o∈l,FG o.day):UR ⟨s,name,l⟩:=⟨h.s,h.n,h.l.len,fun o ho=>⟨hd o ho,(h.l.sz o ho).1,(h.l.sz o ho).2⟩⟩
theorem Gz (P:bI) (haw:bK P 11 uU) (hfe:bK P 12 Du) (hpl:bK P 14 C7) (hct:bK P 27 CX) (hrt:bK P 28 zO) (hde:bK P 22 I5) (hsa:bK P 29 G6) (hki:bK P 30 Dy):bO P x5 Wp:=by
 intro args H K hc;obtain⟨⟨s,name,l⟩,rfl,rfl,hp,hK⟩:=hc;refine⟨cM,?_⟩;dsimp only at hp hK⊢;obtain⟨hf,hd⟩:=hp
 try dsimp only at hf hd
 obtain⟨parties,deals,funds,rest,holidays⟩:=s;cbv
 (refine ZN haw () trivial ?_;try dsimp only)
 cbv;refine eQ hfe (⟨⟨parties,deals,funds,rest,holidays⟩,name,l⟩:wJ) [] hf rfl rfl (by decide) rfl rfl rfl rfl rfl ?_;intro b hb;cases b with
 |false=>
  cbv
  (refine .q9 ?_;cbv;exact .inl (.f9 hK))
 |true=>
  have hok:=OD (hb rfl) hd;cbv;refine eQ hpl (⟨⟨parties,deals,funds,rest,holidays⟩,name,l⟩:X9) [] hok rfl rfl (by decide) rfl rfl rfl rfl rfl ?_;intro C hj;dsimp only at hj;have hll:=hok.l;dsimp only at hll;have hs:=hok.s;have htx:=hj.txOk hs (by omega);have hctx:=hj.ctxOk hs (by omega);have htt:=hj.text;have hdel:=hj.rel.del;have hD:=hj.xb.D;obtain⟨x,hx⟩:∃x,x=zU ⟨parties,deals,funds,rest,holidays⟩ name l:=⟨_,rfl⟩
  try dsimp only
  rw[←hx]at hj htx htt hdel hD⊢;obtain⟨S,free,⟨c,L⟩,H,D⟩:=x;obtain⟨tP,htP⟩:∃t,t=iC (AU C):=⟨_,rfl⟩
  have htR:tP=iC (A6 (iE.su ⟨parties,deals,funds,rest,holidays⟩) name ⟨S,free,⟨c,L⟩,H,D⟩):=by rw[htP,htt]
  obtain⟨name1,parties1,deals1,⟨rc1,rL1⟩,cust1,deliv1⟩:=C;dsimp only at hdel hD;subst hdel;clear hj htt hx;have hdl:deliv1.length≤100000:=by omega
  cbv
  repeat'(first
   |((refine fW hct (⟨name1,parties1,deals1,⟨rc1,rL1⟩,cust1,deliv1⟩:Cr) [1,2,3,4,5,6,7,8] hctx ?_;try dsimp only)
     rw[←htP];cbv;repeat'((first|refine xN.r ?_|refine yC.r ?_|(first|fail))<;>cbv))
   |((refine ZN hrt ((⟨parties,deals,funds,rest,holidays⟩,name,⟨S,free,⟨c,L⟩,H,deliv1⟩):iE×bH×Cs) htx ?_;try dsimp only)
     rw[←htR];cbv;repeat'((first|refine xN.r ?_|refine yC.r ?_|(first|fail))<;>cbv))
   |((refine fW hde (⟨name1,parties1,deals1,⟨rc1,rL1⟩,cust1,deliv1⟩:Cr) [1,2,3,4,5,6,7,8] (by dsimp only;omega) ?_;try dsimp only)
     cbv;repeat'((first|refine xN.r ?_|refine yC.r ?_|(first|fail))<;>cbv))
   |((refine ZN hsa deliv1 hdl ?_;try dsimp only)
     cbv;repeat'((first|refine xN.r ?_|refine yC.r ?_|(first|fail))<;>cbv))
   |((refine fW hki (⟨name1,parties1,deals1,⟨rc1,rL1⟩,cust1,deliv1⟩:Cr) [1,2,3,4,5,6,7,8] trivial ?_;try dsimp only)
     cbv;repeat'((first|refine xN.r ?_|refine yC.r ?_|(first|refine .y fun h=>?_|fail))<;>cbv)))
  all_goals first
  |((refine .q9 ?_;cbv;exact .inl (.f9 hK)))
  |fail
structure Be (x y:AV):Prop where
 one:x.one=true→y.one=true
 to:∀(pub:dC) (w:World) (r:cU) (v:Value),bU pub w r x v→bU pub w r y v
def I6:List AV→List AV→Prop
 |[],[]=>True
 |x :: l,y :: m=>Be x y∧I6 l m
 |_,_=>False
def Ry:List AV→List AV→Prop
 |[],[]=>True
 |x :: l,y :: m=>I6 x.cells y.cells∧Ry l m
 |_,_=>False
theorem Be.refl (x:AV):Be x x:=⟨id,fun _ _ _ _ h=>h⟩
theorem Be.nil (sz:Nat):Be (.v (.slice none 0 0)) (.sl sz []):=⟨fun _=>rfl,fun _ _ _ _ h=>(NM.nil sz).to h⟩
theorem I6.len:∀{l m:List AV},I6 l m→m.length=l.length
 |[],[],_=>rfl
 |_ :: _,_ :: _,h=>congrArg (· + 1) (I6.len h.2)
 |[],_ :: _,h=>h.elim
 |_ :: _,[],h=>h.elim
theorem I6.at:∀{l m:List AV},I6 l m→∀{i:Nat}{y:AV},m[i]?=some y→∃x,l[i]?=some x∧Be x y
 |[],[],_,i,y,hy=>by simp at hy
 |x :: l,z :: m,h,0,y,hy=>by
  simp only[List.getElem?_cons_zero,bE]at hy;subst hy;exact⟨x,rfl,h.1⟩
 |x :: l,z :: m,h,i+1,y,hy=>by
  simp only[List.getElem?_cons_succ]at hy;obtain⟨u,hu,k⟩:=I6.at h.2 hy;exact⟨u,by simpa using hu,k⟩
 |[],_ :: _,h,_,_,_=>h.elim
 |_ :: _,[],h,_,_,_=>h.elim
theorem I6.ones:∀{l m:List AV},I6 l m→l.all AV.one=true→m.all AV.one=true
 |[],[],_,_=>rfl
 |x :: l,y :: m,h,k=>by
  simp only[List.all_cons,aO]at k⊢;exact⟨h.1.one k.1,I6.ones h.2 k.2⟩
 |[],_ :: _,h,_=>h.elim
 |_ :: _,[],h,_=>h.elim
theorem Be.agg {l m:List AV}(h:I6 l m):Be (.agg l) (.agg m):=⟨fun k=>(by cases k),fun pub w r v hv=>by
 cases hv with
 |agg hl h1=>
  refine .agg (hl.trans h.len.symm) fun i y u hy hu=>?_
  obtain⟨x,hx,k⟩:=h.at hy;exact k.to _ _ _ _ (h1 i x u hx hu)⟩
theorem Ry.len:∀{l m:List AV},Ry l m→m.length=l.length
 |[],[],_=>rfl
 |_ :: _,_ :: _,h=>congrArg (· + 1) (Ry.len h.2)
 |[],_ :: _,h=>h.elim
 |_ :: _,[],h=>h.elim
theorem Ry.at:∀{l m:List AV},Ry l m→∀{i:Nat}{y:AV},m[i]?=some y→∃x,l[i]?=some x∧I6 x.cells y.cells
 |[],[],_,i,y,hy=>by simp at hy
 |x :: l,z :: m,h,0,y,hy=>by
  simp only[List.getElem?_cons_zero,bE]at hy;subst hy;exact⟨x,rfl,h.1⟩
 |x :: l,z :: m,h,i+1,y,hy=>by
  simp only[List.getElem?_cons_succ]at hy;obtain⟨u,hu,k⟩:=Ry.at h.2 hy;exact⟨u,by simpa using hu,k⟩
 |[],_ :: _,h,_,_,_=>h.elim
 |_ :: _,[],h,_,_,_=>h.elim
theorem Be.sl {sz:Nat}{l m:List AV}(h:Ry l m):Be (.sl sz l) (.sl sz m):=⟨fun _=>rfl,fun pub w r v hv=>by
 cases hv with
 |@sl _ _ _ A c hc hm hn hs g hr hg=>
  have hlen:=h.len;rw[show l.length=m.length from hlen.symm];refine .sl (by omega) hm (fun e=>?_) (fun y hy=>?_) g (fun i y j u hy hu=>?_) fun i y j u hy hu=>?_
  ·obtain⟨h1,h2⟩:=hn e;subst h1;exact⟨List.length_eq_zero_iff.1 hlen,h2⟩
  ·obtain⟨i,hi⟩:=aV hy;obtain⟨x,hx,k⟩:=h.at hi;obtain⟨k1,k2⟩:=hs x (aC hx);exact⟨k.len.trans k1,k.ones k2⟩
  ·obtain⟨x,hx,k⟩:=h.at hy;obtain⟨z,hz,k2⟩:=k.at hu;exact k2.to _ _ _ _ (hr i x j z hx hz)
  ·obtain⟨x,hx,k⟩:=h.at hy;obtain⟨z,hz,k2⟩:=k.at hu;exact hg i x j z hx hz⟩
theorem Ba {P:bI}{keep:List Nat}{f:Nat}{args:List AV}(args2:List AV) {st:St}{K:AV→St→Prop}(h:I6 args args2) (hc:gA P keep f args2 st K):gA P keep f args st K:=
 ⟨fun C a w r pub vals hh hv=>hc.out C a w r pub vals hh ⟨hv.len.trans h.len.symm,fun i y u hy hu=>by
  obtain⟨x,hx,k⟩:=h.at hy;exact k.to _ _ _ _ (hv.at_ i x u hx hu)⟩⟩
set_option maxHeartbeats 4000000
def wS:bH:=⟨⟨[115]⟩⟩
def wC:bH:=⟨⟨[99]⟩⟩
def wD:bH:=⟨⟨[100]⟩⟩
def wY:bH:=⟨⟨[121]⟩⟩
def wF:bH:=⟨⟨[102]⟩⟩
def wT:bH:=⟨⟨[116]⟩⟩
def wE:bH:=⟨⟨[]⟩⟩
def wX:bH:=⟨⟨[97,97,97,97,48,48,48,48,48,49,50,48]⟩⟩
def U3:iE:=⟨[⟨wS,wE,0⟩,⟨wC,wE,0⟩],[⟨wD,wS,wY,wC,wE,wE,wE,wF,wT,wE,0,[⟨wX,0,[]⟩],0,0,0,0,0⟩],[],[],[]⟩
def Uo:dR:=⟨wS,wE,0,4,0,wD,wE,wE,0,0,wE,0,[],[]⟩
def UG:dR:=⟨wS,wE,0,20,0,wD,wE,wE,0,0,wE,0,[],[]⟩
def S7 (st:Int):Dp:=⟨wD,wS,wY,wE,wF,wT,[wX],st,true⟩
def VV:List eF:=[⟨wX,eS,wS,wF,1⟩,⟨wX,wS,wC,wF,1⟩]
def wB:Bl:=gS wC (S7 1) 2
def YE:List Br:=[So wB wS]
def wP:Cr:=⟨wC,[wS,wC],[S7 0],⟨wC,[]⟩,[],[]⟩
def Tf:Cr:=⟨wC,[wS,wC],[S7 1],⟨wC,[]⟩,[⟨wX,VV⟩],[]⟩
def Yk:Cr:=⟨wC,[wS,wC],[S7 2],⟨wC,YE⟩,[⟨wX,VV⟩],[]⟩
def Wv:Cr:=⟨wC,[wS,wC],[S7 3],⟨wC,YE⟩,[⟨wX,VV⟩],[]⟩
theorem OT:KU U3.su wC=wP:=by rfl
theorem Rx:iG wP Uo 1 []=(true,Tf,[]):=by rfl
theorem Fj:gQ ⟨⟨wC,[]⟩,wB,wS⟩=0:=by
 have e1:i1 ⟨⟨wC,[]⟩,wB,wS⟩=false:=by decide +kernel
 have e2:i2 ⟨⟨wC,[]⟩,wB,wS⟩=false:=rfl;have e3:i3 ⟨⟨wC,[]⟩,wB,wS⟩=false:=by rw[Nn];rfl
 have e4:i4 ⟨⟨wC,[]⟩,wB,wS⟩=false:=rfl;unfold gQ;rw[e1,e2,e3,e4];rfl
theorem UN:∃l,lO eY Tf 5 wD 2=(Yk,[l],0):=by
 have h:lO eY Tf 5 wD 2=uR eY Tf (S7 1) 2:=by rfl
 have h2:uR eY Tf (S7 1) 2=(qC { Tf with reg:=kD ⟨⟨wC,[]⟩,wB,wS⟩ } wD (wW 2),cI wD 2 [{ nR with to:=wS,kind:=5,docs:=[eY wB] }],0):=by
  unfold uR;exact aE (by
   show ¬gQ ⟨⟨wC,[]⟩,wB,wS⟩≠0;rw[Fj];decide)
 rw[h,h2,E4 Fj];exact⟨_,rfl⟩
theorem Vk:∃l,lO eY Yk 6 wD 3=(Wv,[l],0):=⟨_,rfl⟩
theorem Ux:∃C l,iG Wv UG 4 [⟨wX,VV⟩]=(true,C,[l])∧l.kind=21∧∃h,C.deliv=[h]:=by
 refine⟨_,_,rfl,rfl,_,rfl⟩
theorem DR (P:bI) (hn:bK P 21 tV) (hta:bK P 18 (sU fun _=>True)) (hac:bK P 23 (xP fun _=>True)) (hde:bK P 22 I5) (hki:bK P 30 Dy):bO P Zk uU:=by
 intro args H K hc;obtain⟨u,rfl,rfl,hp,hK⟩:=hc;refine⟨cM,?_⟩;dsimp only at hp hK⊢;obtain⟨l1,hl1⟩:=UN;obtain⟨l2,hl2⟩:=Vk;obtain⟨C4,l3,hl3,hk3,h4,hd4⟩:=Ux;have hsu:nK U3:=⟨by decide,by decide,by decide,by
  intro d hd;obtain rfl:=List.mem_singleton.1 hd;exact⟨by decide,by decide,by decide⟩⟩
 have j0:=Jt.new (name:=wC) hsu;rw[OT]at j0;have j1:=(j0.take (L0:=[]) hsu Uo 1 (.refl _)).1;rw[Rx]at j1;dsimp only at j1;have j2:=(j1.act hsu 5 wD 2).1;rw[hl1]at j2;dsimp only at j2;have j3:=(j2.act hsu 6 wD 3).1;rw[hl2]at j3;dsimp only at j3;have t0:=j0.tqOk (l:=Uo) (day:=1) (by decide);have c1:=j1.crOk (by decide);have c2:=j2.crOk (by decide);have t3:=j3.tqOk (l:=UG) (day:=4) (by decide);clear j0 j1 j2 j3;cbv;refine Ba [.str wC,Gy U3] (by unfold Gy U3;repeat'(first|exact trivial|exact Be.refl _|exact Be.nil _|refine Be.agg ?_|refine Be.sl ?_|refine And.intro ?_ ?_)) ?_
 (refine Bg hn ((wC,U3):bH×iE) hsu ?_;try dsimp only)
 rw[OT];cbv;refine Ba [.ptr 4 0,eM Uo,.i 1] (by unfold eM Uo;repeat'(first|exact trivial|exact Be.refl _|exact Be.nil _|refine Be.agg ?_|refine Be.sl ?_|refine And.intro ?_ ?_)) ?_;refine eQ hta (⟨wP,Uo,1⟩:TQ) [4,5,6,7,8,9,10,11] ⟨trivial,t0⟩ rfl rfl (by decide) rfl rfl rfl rfl rfl ?_;intro L0 hp0;obtain rfl:L0=[]:=List.perm_nil.1 hp0;dsimp only;rw[Rx];cbv
 (refine fW hac (⟨Tf,5,0,wD,2⟩:CQ) [4,5,6,7,8,12,13,11] ⟨trivial,c1,by decide⟩ ?_;try dsimp only)
 rw[hl1];cbv
 (refine fW hac (⟨Yk,6,0,wD,3⟩:CQ) [4,5,6,7,8,12,13,11] ⟨trivial,c2,by decide⟩ ?_;try dsimp only)
 rw[hl2];cbv;refine Ba [.ptr 4 0,eM UG,.i 4] (by unfold eM UG;repeat'(first|exact trivial|exact Be.refl _|exact Be.nil _|refine Be.agg ?_|refine Be.sl ?_|refine And.intro ?_ ?_)) ?_;refine eQ hta (⟨Wv,UG,4⟩:TQ) [4,5,6,7,8,12,13,11] ⟨trivial,t3⟩ rfl rfl (by decide) rfl rfl rfl rfl rfl ?_;intro L1 hp1;obtain rfl:L1=[⟨wX,VV⟩]:=List.perm_singleton.1 hp1;dsimp only;rw[hl3];have hdl:C4.deliv.length≤1000000:=by rw[hd4];exact Nat.le_of_ble_eq_true rfl
 obtain⟨name4,parties4,deals4,⟨rc4,rL4⟩,cust4,deliv4⟩:=C4;dsimp only at hd4;subst hd4;obtain⟨hb4,hf4,ht4,hp4,hy4⟩:=h4;obtain⟨frm3,to3,nq3,kind3,ack3,deal3,text3,party3,index3,day3,cur3,amt3,docs3,bq3⟩:=l3;dsimp only at hk3;subst hk3;cbv;repeat'((first|refine .y fun h=>?_|refine .k fun z hz=>?_|fail)<;>cbv)
 refine cC.i0 ?_;cbv;repeat'((first|refine .y fun h=>?_|fail)<;>cbv)
 (refine fW hde (⟨name4,parties4,deals4,⟨rc4,rL4⟩,cust4,[⟨hb4,hf4,ht4,hp4,hy4⟩]⟩:Cr) [4,5,6,7,8,14,15,11] hdl ?_;try dsimp only)
 cbv;repeat'((first|refine .y fun h=>?_|refine .k fun z hz=>?_|fail)<;>cbv)
 (refine fW hki (⟨name4,parties4,deals4,⟨rc4,rL4⟩,cust4,[⟨hb4,hf4,ht4,hp4,hy4⟩]⟩:Cr) [4,5,6,7,8,14,15,11] trivial ?_;try dsimp only)
 cbv;repeat'((first|refine .y fun h=>?_|fail)<;>cbv)
 (refine .q9 ?_;cbv;exact .inl (.f9 hK))
set_option maxHeartbeats 20000000
def CG:dO:=spec (fun i:Rg×At=>[I8 i.1,Pm i.2]) (fun _=>[]) (fun i=>(i.2.kind=1∨i.2.kind=2∨i.2.kind=4∨i.2.kind=5)∧i.1.bills.length≤256∧(∀b∈i.1.bills,qQ b)∧i.2.to.size≤maxLen) (fun i=>.i (eO i.1.bills (dA i.2))) fun _=>[]
theorem CP (P:bI) (hf:bK P 63 rA) (hd:bK P 175 D7) (hn:bK P 133 (iR (fun s=>s.size≤maxLen) bT)) (hw:bK P 143 oT) (hu:bK P 183 CZ):bO P UT CG:=by
 intro args H K hc;obtain⟨⟨⟨carrier,L⟩,a⟩,rfl,rfl,hp,hK⟩:=hc;refine⟨cM,?_⟩;dsimp only at hp hK⊢;obtain⟨hkind,hp,hch,hto⟩:=hp;rcases hkind with hkind|hkind|hkind|hkind
 all_goals
  obtain⟨q,hq⟩:∃q,q=eO L (dA a):=⟨_,rfl⟩
  obtain⟨e,he⟩:∃e,e=nN (fun b:Br=>decide (b.b.number=a.bill)) L:=⟨_,rfl⟩
  rw[←hq]at hK;obtain⟨q1,hq1⟩:∃q,q=k1 (dA a):=⟨_,rfl⟩
  obtain⟨q2,hq2⟩:∃q,q=k2 (dA a):=⟨_,rfl⟩
  have hwo:=FU (a:=a);have hq1':=hq1;rw[IW]at hq1';have hq2':=hq2;rw[Rw]at hq2';rw[←hq1]at hwo;have hbill:(dA a).bill=a.bill:=rfl;obtain⟨ws,hws⟩:∃ws,ws=jF a:=⟨_,rfl⟩
  have hwl:(if a.kind=5∨(a.kind=1∧a.index=-1) then [AV.i 0,.i 1,.i 2] else [.i a.index])=bJ iA ws:=by
   rw[hws];unfold jF
   split<;>rfl
  obtain⟨ms,hms⟩:∃ms,ms=bJ iA ws:=⟨_,rfl⟩
  rw[←hms]at hwl;have hwlen:ws.length≤3:=by
   rw[hws];unfold jF
   split
   ·exact aN 3
   ·exact Nat.le_add_left 1 2
  rw[←hws]at hwo;have hq0:q=match qK L a.bill with
   |some i=>match L[i]? with
    |some b=>oF b (dA a)
    |none=>4
   |none=>4:=hq
  clear hq;cases hb:qK L a.bill with
  |none=>
   rw[kU,hb]at he;subst he;rw[hb]at hq0;dsimp only at hq0;subst hq0;obtain⟨kind,index,day,bill,by_,to,b⟩:=a;dsimp only at hkind;obtain⟨nq1,cq1,sq1,frm1,to1,bq1,pq1,iq1,lq1⟩:=b;cbv
   (refine ZN hf ((⟨carrier,L⟩:Rg),bill) (by dsimp only;omega) ?_;try dsimp only)
   rw[kU,hb];cbv;repeat'((first|refine .y fun h=>?_|fail)<;>cbv)
   exact bW.mk ⟨_,Gh.refl _,.inl (.v9 (OU hK (by rfl)))⟩
  |some i=>
   obtain⟨x,hx,_⟩:=eL hb;have he2:=he;rw[kU,hb]at he2;rw[hb]at hq0;dsimp only at hq0;rw[hx]at hq0;dsimp only at hq0;have hc:=hch x (aC hx);have hae:oF x (dA a)=if k1 (dA a) then 3 else if k2 (dA a) then 1 else if k3 x (dA a) then 9 else if k4 x (dA a) then 8 else if k5 x (dA a) then 6 else 0:=rfl
   rw[hae,←hq1,←hq2]at hq0;clear hae;obtain⟨w1,hw1⟩:∃w,w=k3 x (dA a):=⟨_,rfl⟩
   obtain⟨w2,hw2⟩:∃w,w=k4 x (dA a):=⟨_,rfl⟩
   obtain⟨w3,hw3⟩:∃w,w=k5 x (dA a):=⟨_,rfl⟩
   rw[←hw1,←hw2,←hw3]at hq0;have hww:q1=false→w1=ws.any (UD x (if a.kind=4 then 3 else 0))∧w2=ws.any (UM x a.by_)∧w3=ws.any (Uq x a.kind a.day):=fun h=>by
    rw[hq1]at h;rw[hws,hw1,hw2,hw3];exact⟨F4 h x,EQ h x,Gj h x⟩
   clear hw1 hw2 hw3;obtain⟨d5,hd5⟩:∃d,d=gM a.day:=⟨_,rfl⟩
   obtain⟨n5,hn5⟩:∃d,d=bT a.to:=⟨_,rfl⟩
   unfold iH at hq2';rw[←hd5,←hn5]at hq2';obtain⟨kind,index,day,bill,by_,to,b⟩:=a;dsimp only at hkind;obtain⟨nq2,cq2,sq2,frm2,to2,bq2,pq2,iq2,lq2⟩:=b;dsimp only at hq1' hq2' hto he he2 hd5 hn5 hwl hww;cbv
   (refine ZN hf ((⟨carrier,L⟩:Rg),bill) (by dsimp only;omega) ?_;try dsimp only)
   rw[←he,he2];cbv;repeat'((first|refine .n fun h=>?_|refine .y fun h=>?_|refine .mk (fun h=>?_) fun h=>?_|fail)<;>cbv)
   all_goals try
    ((refine ZN hd day trivial ?_;try dsimp only)
     rw[←hd5];cases d5<;>(cbv;repeat'((first|refine .e ?_|refine .n fun h=>?_|refine .y fun h=>?_|refine And.intro ?_ ?_|fail)<;>cbv)))
   all_goals try
    ((refine ZN hn to hto ?_;try dsimp only)
     rw[←hn5];cases n5<;>(cbv;repeat'((first|refine .e ?_|refine .mk (fun h=>?_) fun h=>?_|refine And.intro ?_ ?_|fail)<;>cbv)))
   all_goals try
    (have f1:q1=true:=by(rw[hq1'];exact aH (by omega))
     (refine .q9 ?_;cbv;exact .inl (.f9 (fU hK (by rw[hq0,f1];rfl))))
     done)
   all_goals have f1:q1=false:=by(rw[hq1'];exact aG (by omega))
   all_goals try
    (have f2:q2=true:=by
      rw[hq2']
      first
       |(rw[aG (by omega:¬kind=3)];rfl)
       |(rw[aH (by omega:kind=1)];exact Bool.or_true _)
       |(rw[aH (by omega:kind=1),aH (by assumption:to=by_)];exact Bool.or_true _)
     (refine .q9 ?_;cbv;exact .inl (.f9 (fU hK (by rw[hq0,f1,f2];rfl))))
     done)
   all_goals
    (have f2:q2=false:=by
      rw[hq2']
      first
       |(rw[aH (by omega:kind=3),aG (by omega:¬kind=1)];rfl)
       |(rw[aG (by omega:¬kind=3),aG (by omega:¬kind=1)];rfl)
       |(rw[aG (by omega:¬kind=3),aH (by omega:kind=1),aG (by assumption:¬to=by_)];rfl)
     rw[f1,f2]at hq0)
   all_goals
    (have hwo:=hwo f1
     (refine ZN hw (⟨kind,index,day,bill,by_,to,⟨nq2,cq2,sq2,frm2,to2,bq2,pq2,iq2,lq2⟩⟩:At) trivial ?_;try dsimp only)
     rw[hwl,hms];obtain⟨g1,g2,g3⟩:=hww f1;obtain⟨sv,hsv⟩:∃sv:Int,sv=if kind=4 then 3 else 0:=⟨_,rfl⟩
     rw[←hsv]at g1)
   all_goals
    (first
     |rw[aE (by omega:¬kind=4)]at hsv
     |rw[aF (by omega:kind=4)]at hsv
     obtain⟨⟨nq1,cq1,sq1,frm1,to1,bq1,pq1,iq1,lq1⟩,st1,⟨sa1,ha1,ca1⟩,⟨sb1,hb1,cb1⟩,⟨sc1,hc1,cc1⟩⟩:=x;obtain⟨P1,hP1⟩:∃p,p=UD ⟨⟨nq1,cq1,sq1,frm1,to1,bq1,pq1,iq1,lq1⟩,st1,⟨sa1,ha1,ca1⟩,⟨sb1,hb1,cb1⟩,⟨sc1,hc1,cc1⟩⟩ sv:=⟨_,rfl⟩
     obtain⟨P2,hP2⟩:∃p,p=UM ⟨⟨nq1,cq1,sq1,frm1,to1,bq1,pq1,iq1,lq1⟩,st1,⟨sa1,ha1,ca1⟩,⟨sb1,hb1,cb1⟩,⟨sc1,hc1,cc1⟩⟩ by_:=⟨_,rfl⟩
     obtain⟨P3,hP3⟩:∃p,p=Uq ⟨⟨nq1,cq1,sq1,frm1,to1,bq1,pq1,iq1,lq1⟩,st1,⟨sa1,ha1,ca1⟩,⟨sb1,hb1,cb1⟩,⟨sc1,hc1,cc1⟩⟩ kind day:=⟨_,rfl⟩
     rw[←hP1]at g1;rw[←hP2]at g2;rw[←hP3]at g3;obtain⟨v0,hv0⟩:∃v,v=iV ⟨sa1,ha1,ca1⟩ iq1:=⟨_,rfl⟩
     have a0:P1 0=(!decide (st1=0) || !decide (sa1=sv)):=by rw[hP1];rfl
     have b0:P2 0=(!decide (ha1=by_)):=by rw[hP2];rfl
     have c0:P3 0=(!decide (kind=3) && decide (day < v0)):=by rw[hP3,hv0];rfl
     obtain⟨v1,hv1⟩:∃v,v=iV ⟨sb1,hb1,cb1⟩ iq1:=⟨_,rfl⟩
     have a1:P1 1=(!decide (st1=0) || !decide (sb1=sv)):=by rw[hP1];rfl
     have b1:P2 1=(!decide (hb1=by_)):=by rw[hP2];rfl
     have c1:P3 1=(!decide (kind=3) && decide (day < v1)):=by rw[hP3,hv1];rfl
     obtain⟨v2,hv2⟩:∃v,v=iV ⟨sc1,hc1,cc1⟩ iq1:=⟨_,rfl⟩
     have a2:P1 2=(!decide (st1=0) || !decide (sc1=sv)):=by rw[hP1];rfl
     have b2:P2 2=(!decide (hc1=by_)):=by rw[hP2];rfl
     have c2:P3 2=(!decide (kind=3) && decide (day < v2)):=by rw[hP3,hv2];rfl
     have aP:∀k,P1 k=(!decide (st1=0) || !decide ((N8 k ⟨⟨nq1,cq1,sq1,frm1,to1,bq1,pq1,iq1,lq1⟩,st1,⟨sa1,ha1,ca1⟩,⟨sb1,hb1,cb1⟩,⟨sc1,hc1,cc1⟩⟩).state=sv)):=fun k=>by rw[hP1];rfl
     clear hP1 hP2 hP3;subst hsv;cbv;repeat'((first|refine .n fun h=>?_|refine .y fun h=>?_|fail)<;>cbv)
     refine bS [] (fun q:{ j:Nat // j≤ws.length∧iU P1 ws j }=>[(9,.i (nI q.1))]) (fun q=>[.blk 38 [.str carrier,.sl 11 (bJ iL L)],.blk 204 (yM ⟨kind,index,day,bill,by_,to,⟨nq2,cq2,sq2,frm2,to2,bq2,pq2,iq2,lq2⟩⟩),.blk 104 (yR ⟨⟨nq1,cq1,sq1,frm1,to1,bq1,pq1,iq1,lq1⟩,st1,⟨sa1,ha1,ca1⟩,⟨sb1,hb1,cb1⟩,⟨sc1,hc1,cc1⟩⟩)]) (fun q=>fE 4 q.1) ⟨0,aI _,.zero⟩ ?_;rintro ⟨j1,hj1,hn1⟩;dsimp only at hj1 hn1⊢;cbv;repeat'((first|refine .mk (fun h=>?_) fun h=>?_|refine .k fun z hz=>?_|fail)<;>cbv)
     ·refine cR bQ bQ fun i l hi hl=>?_
      obtain rfl:j1=i:=bQ;rcases hwo l (aC hl)with rfl|rfl|rfl
      ·cbv;repeat'((first|refine .mk (fun h=>?_) fun h=>?_|refine .k fun z hz=>?_|refine cC.i0 ?_|fail)<;>cbv)
       ·have e:P1 0=false:=by rw[a0,aH (by assumption:st1=0),aH (by assumption:sa1=_)];rfl
        obtain rfl:z=nI (j1+1):=bQ;exact bM ⟨j1+1,by exact bQ,hn1.succ hl e⟩ (bN bQ)
       ·have e:P1 0=true:=by rw[a0,aG (by assumption:¬sa1=_)];exact Bool.or_true _
        (refine .q9 ?_;cbv;exact .inl (.f9 (fU hK (by rw[hq0,g1.trans (gJ hl e)];rfl))))
      ·cbv;repeat'((first|refine .mk (fun h=>?_) fun h=>?_|refine .k fun z hz=>?_|refine cC.i1 ?_|fail)<;>cbv)
       ·have e:P1 1=false:=by rw[a1,aH (by assumption:st1=0),aH (by assumption:sb1=_)];rfl
        obtain rfl:z=nI (j1+1):=bQ;exact bM ⟨j1+1,by exact bQ,hn1.succ hl e⟩ (bN bQ)
       ·have e:P1 1=true:=by rw[a1,aG (by assumption:¬sb1=_)];exact Bool.or_true _
        (refine .q9 ?_;cbv;exact .inl (.f9 (fU hK (by rw[hq0,g1.trans (gJ hl e)];rfl))))
      ·cbv;repeat'((first|refine .mk (fun h=>?_) fun h=>?_|refine .k fun z hz=>?_|refine cC.i2 ?_|fail)<;>cbv)
       ·have e:P1 2=false:=by rw[a2,aH (by assumption:st1=0),aH (by assumption:sc1=_)];rfl
        obtain rfl:z=nI (j1+1):=bQ;exact bM ⟨j1+1,by exact bQ,hn1.succ hl e⟩ (bN bQ)
       ·have e:P1 2=true:=by rw[a2,aG (by assumption:¬sc1=_)];exact Bool.or_true _
        (refine .q9 ?_;cbv;exact .inl (.f9 (fU hK (by rw[hq0,g1.trans (gJ hl e)];rfl))))
     ·obtain⟨l,hl⟩:=cJ (L:=ws) (i:=j1) bQ;have e:P1 l=true:=by rw[aP,aG (by assumption:¬st1=0)];rfl
      (refine .q9 ?_;cbv;exact .inl (.f9 (fU hK (by rw[hq0,g1.trans (gJ hl e)];rfl))))
     ·have ej1:j1=ws.length:=bQ;rw[ej1]at hn1;have f1:=g1.trans (jA hn1);rw[f1]at hq0;refine bS [] (fun q:{ j:Nat // j≤ws.length∧iU P2 ws j }=>[(10,.i (nI q.1))]) (fun q=>[.blk 38 [.str carrier,.sl 11 (bJ iL L)],.blk 204 (yM ⟨kind,index,day,bill,by_,to,⟨nq2,cq2,sq2,frm2,to2,bq2,pq2,iq2,lq2⟩⟩),.blk 104 (yR ⟨⟨nq1,cq1,sq1,frm1,to1,bq1,pq1,iq1,lq1⟩,st1,⟨sa1,ha1,ca1⟩,⟨sb1,hb1,cb1⟩,⟨sc1,hc1,cc1⟩⟩)]) (fun q=>fE 4 q.1) ⟨0,aI _,.zero⟩ ?_;rintro ⟨j2,hj2,hn2⟩;dsimp only at hj2 hn2⊢;cbv;repeat'((first|refine .mk (fun h=>?_) fun h=>?_|refine .k fun z hz=>?_|fail)<;>cbv)
      rotate_left
      ·have ej2:j2=ws.length:=bQ;rw[ej2]at hn2;have f2:=g2.trans (jA hn2);rw[f2]at hq0;refine bS [] (fun q:{ j:Nat // j≤ws.length∧iU P3 ws j }=>[(11,.i (nI q.1))]) (fun q=>[.blk 38 [.str carrier,.sl 11 (bJ iL L)],.blk 204 (yM ⟨kind,index,day,bill,by_,to,⟨nq2,cq2,sq2,frm2,to2,bq2,pq2,iq2,lq2⟩⟩),.blk 104 (yR ⟨⟨nq1,cq1,sq1,frm1,to1,bq1,pq1,iq1,lq1⟩,st1,⟨sa1,ha1,ca1⟩,⟨sb1,hb1,cb1⟩,⟨sc1,hc1,cc1⟩⟩)]) (fun q=>fE 4 q.1) ⟨0,aI _,.zero⟩ ?_;rintro ⟨j3,hj3,hn3⟩;dsimp only at hj3 hn3⊢;cbv;repeat'((first|refine .n fun h=>?_|refine .mk (fun h=>?_) fun h=>?_|refine .k fun z hz=>?_|fail)<;>cbv)
       rotate_left
       ·have ej3:j3=ws.length:=bQ;rw[ej3]at hn3;have f3:=g3.trans (jA hn3);rw[f3]at hq0
        (refine .q9 ?_;cbv;exact .inl (.f9 (fU hK (by rw[hq0];rfl))))
       ·refine cR bQ bQ fun i l hi hl=>?_
        obtain rfl:j3=i:=bQ;rcases hwo l (aC hl)with rfl|rfl|rfl
        ·have e3:¬kind=3:=by omega
         cbv
         (refine ZN hu ((⟨⟨nq1,cq1,sq1,frm1,to1,bq1,pq1,iq1,lq1⟩,st1,⟨sa1,ha1,ca1⟩,⟨sb1,hb1,cb1⟩,⟨sc1,hc1,cc1⟩⟩:Br),0) ⟨.inl rfl,hc⟩ ?_;try dsimp only)
         have ev:iV (N8 0 ⟨⟨nq1,cq1,sq1,frm1,to1,bq1,pq1,iq1,lq1⟩,st1,⟨sa1,ha1,ca1⟩,⟨sb1,hb1,cb1⟩,⟨sc1,hc1,cc1⟩⟩) iq1=v0:=hv0.symm;rw[ev];cbv;repeat'((first|refine .mk (fun h=>?_) fun h=>?_|refine .k fun z hz=>?_|fail)<;>cbv)
         ·have e:P3 0=true:=by rw[c0,aG e3,aH (by assumption:day < v0)];rfl
          (refine .q9 ?_;cbv;exact .inl (.f9 (fU hK (by rw[hq0,g3.trans (gJ hl e)];rfl))))
         ·have e:P3 0=false:=by rw[c0,aG (by omega:¬day < v0)];exact Bool.and_false _
          obtain rfl:z=nI (j3+1):=bQ;exact bM ⟨j3+1,by exact bQ,hn3.succ hl e⟩ (bN bQ)
        ·have e3:¬kind=3:=by omega
         cbv
         (refine ZN hu ((⟨⟨nq1,cq1,sq1,frm1,to1,bq1,pq1,iq1,lq1⟩,st1,⟨sa1,ha1,ca1⟩,⟨sb1,hb1,cb1⟩,⟨sc1,hc1,cc1⟩⟩:Br),1) ⟨.inr (.inl rfl),hc⟩ ?_;try dsimp only)
         have ev:iV (N8 1 ⟨⟨nq1,cq1,sq1,frm1,to1,bq1,pq1,iq1,lq1⟩,st1,⟨sa1,ha1,ca1⟩,⟨sb1,hb1,cb1⟩,⟨sc1,hc1,cc1⟩⟩) iq1=v1:=hv1.symm;rw[ev];cbv;repeat'((first|refine .mk (fun h=>?_) fun h=>?_|refine .k fun z hz=>?_|fail)<;>cbv)
         ·have e:P3 1=true:=by rw[c1,aG e3,aH (by assumption:day < v1)];rfl
          (refine .q9 ?_;cbv;exact .inl (.f9 (fU hK (by rw[hq0,g3.trans (gJ hl e)];rfl))))
         ·have e:P3 1=false:=by rw[c1,aG (by omega:¬day < v1)];exact Bool.and_false _
          obtain rfl:z=nI (j3+1):=bQ;exact bM ⟨j3+1,by exact bQ,hn3.succ hl e⟩ (bN bQ)
        ·have e3:¬kind=3:=by omega
         cbv
         (refine ZN hu ((⟨⟨nq1,cq1,sq1,frm1,to1,bq1,pq1,iq1,lq1⟩,st1,⟨sa1,ha1,ca1⟩,⟨sb1,hb1,cb1⟩,⟨sc1,hc1,cc1⟩⟩:Br),2) ⟨.inr (.inr rfl),hc⟩ ?_;try dsimp only)
         have ev:iV (N8 2 ⟨⟨nq1,cq1,sq1,frm1,to1,bq1,pq1,iq1,lq1⟩,st1,⟨sa1,ha1,ca1⟩,⟨sb1,hb1,cb1⟩,⟨sc1,hc1,cc1⟩⟩) iq1=v2:=hv2.symm;rw[ev];cbv;repeat'((first|refine .mk (fun h=>?_) fun h=>?_|refine .k fun z hz=>?_|fail)<;>cbv)
         ·have e:P3 2=true:=by rw[c2,aG e3,aH (by assumption:day < v2)];rfl
          (refine .q9 ?_;cbv;exact .inl (.f9 (fU hK (by rw[hq0,g3.trans (gJ hl e)];rfl))))
         ·have e:P3 2=false:=by rw[c2,aG (by omega:¬day < v2)];exact Bool.and_false _
          obtain rfl:z=nI (j3+1):=bQ;exact bM ⟨j3+1,by exact bQ,hn3.succ hl e⟩ (bN bQ)
      ·refine cR bQ bQ fun i l hi hl=>?_
       obtain rfl:j2=i:=bQ;rcases hwo l (aC hl)with rfl|rfl|rfl
       ·cbv;repeat'((first|refine .mk (fun h=>?_) fun h=>?_|refine .k fun z hz=>?_|refine cC.i0 ?_|fail)<;>cbv)
        ·have e:P2 0=false:=by rw[b0,aH (by assumption:ha1=by_)];rfl
         obtain rfl:z=nI (j2+1):=bQ;exact bM ⟨j2+1,by exact bQ,hn2.succ hl e⟩ (bN bQ)
        ·have e:P2 0=true:=by rw[b0,aG (by assumption:¬ha1=by_)];rfl
         (refine .q9 ?_;cbv;exact .inl (.f9 (fU hK (by rw[hq0,g2.trans (gJ hl e)];rfl))))
       ·cbv;repeat'((first|refine .mk (fun h=>?_) fun h=>?_|refine .k fun z hz=>?_|refine cC.i1 ?_|fail)<;>cbv)
        ·have e:P2 1=false:=by rw[b1,aH (by assumption:hb1=by_)];rfl
         obtain rfl:z=nI (j2+1):=bQ;exact bM ⟨j2+1,by exact bQ,hn2.succ hl e⟩ (bN bQ)
        ·have e:P2 1=true:=by rw[b1,aG (by assumption:¬hb1=by_)];rfl
         (refine .q9 ?_;cbv;exact .inl (.f9 (fU hK (by rw[hq0,g2.trans (gJ hl e)];rfl))))
       ·cbv;repeat'((first|refine .mk (fun h=>?_) fun h=>?_|refine .k fun z hz=>?_|refine cC.i2 ?_|fail)<;>cbv)
        ·have e:P2 2=false:=by rw[b2,aH (by assumption:hc1=by_)];rfl
         obtain rfl:z=nI (j2+1):=bQ;exact bM ⟨j2+1,by exact bQ,hn2.succ hl e⟩ (bN bQ)
        ·have e:P2 2=true:=by rw[b2,aG (by assumption:¬hc1=by_)];rfl
         (refine .q9 ?_;cbv;exact .inl (.f9 (fU hK (by rw[hq0,g2.trans (gJ hl e)];rfl)))))
theorem Ht {P:bI}{f:Nat}(hA:bK P f CG) (h3:bK P f (mR 3)):bK P f mX:=by
 intro args H K hc;obtain⟨i,rfl,rfl,⟨hk,hp⟩,hK⟩:=hc;by_cases h:i.2.kind=3
 ·exact h3 _ _ K ⟨i,rfl,rfl,⟨h,hp⟩,hK⟩
 ·exact hA _ _ K ⟨i,rfl,rfl,⟨by omega,hp⟩,hK⟩
set_option maxHeartbeats 4000000
theorem Dm (P:bI) (hf:bK P 63 rA) (hd:bK P 175 D7) (hn:bK P 133 (iR (fun s=>s.size≤maxLen) bT)) (hw:bK P 143 oT) (hu:bK P 183 CZ):bO P UT (mR 3):=by
 intro args H K hc;obtain⟨⟨⟨carrier,L⟩,a⟩,rfl,rfl,hp,hK⟩:=hc;refine⟨cM,?_⟩;dsimp only at hp hK⊢;obtain⟨hkind,hp,hch,hto⟩:=hp;obtain⟨q,hq⟩:∃q,q=eO L (dA a):=⟨_,rfl⟩
 obtain⟨e,he⟩:∃e,e=nN (fun b:Br=>decide (b.b.number=a.bill)) L:=⟨_,rfl⟩
 rw[←hq]at hK;obtain⟨q1,hq1⟩:∃q,q=k1 (dA a):=⟨_,rfl⟩
 obtain⟨q2,hq2⟩:∃q,q=k2 (dA a):=⟨_,rfl⟩
 have hwo:=FU (a:=a);have hq1':=hq1;rw[IW]at hq1';have hq2':=hq2;rw[Rw]at hq2';rw[←hq1]at hwo;have hbill:(dA a).bill=a.bill:=rfl;obtain⟨ws,hws⟩:∃ws,ws=jF a:=⟨_,rfl⟩
 have hwl:(if a.kind=5∨(a.kind=1∧a.index=-1) then [AV.i 0,.i 1,.i 2] else [.i a.index])=bJ iA ws:=by
  rw[hws];unfold jF
  split<;>rfl
 obtain⟨ms,hms⟩:∃ms,ms=bJ iA ws:=⟨_,rfl⟩
 rw[←hms]at hwl;have hwlen:ws.length≤3:=by
  rw[hws];unfold jF
  split
  ·exact aN 3
  ·exact Nat.le_add_left 1 2
 rw[←hws]at hwo;have hq0:q=match qK L a.bill with
  |some i=>match L[i]? with
   |some b=>oF b (dA a)
   |none=>4
  |none=>4:=hq
 clear hq;cases hb:qK L a.bill with
 |none=>
  rw[kU,hb]at he;subst he;rw[hb]at hq0;dsimp only at hq0;subst hq0;obtain⟨kind,index,day,bill,by_,to,b⟩:=a;obtain rfl:kind=3:=hkind;obtain⟨nq1,cq1,sq1,frm1,to1,bq1,pq1,iq1,lq1⟩:=b;cbv
  (refine ZN hf ((⟨carrier,L⟩:Rg),bill) (by dsimp only;omega) ?_;try dsimp only)
  rw[kU,hb];cbv;repeat'((first|refine .y fun h=>?_|fail)<;>cbv)
  exact bW.mk ⟨_,Gh.refl _,.inl (.v9 (OU hK (by rfl)))⟩
 |some i=>
  obtain⟨x,hx,_⟩:=eL hb;have he2:=he;rw[kU,hb]at he2;rw[hb]at hq0;dsimp only at hq0;rw[hx]at hq0;dsimp only at hq0;have hc:=hch x (aC hx);have hae:oF x (dA a)=if k1 (dA a) then 3 else if k2 (dA a) then 1 else if k3 x (dA a) then 9 else if k4 x (dA a) then 8 else if k5 x (dA a) then 6 else 0:=rfl
  rw[hae,←hq1,←hq2]at hq0;clear hae;obtain⟨w1,hw1⟩:∃w,w=k3 x (dA a):=⟨_,rfl⟩
  obtain⟨w2,hw2⟩:∃w,w=k4 x (dA a):=⟨_,rfl⟩
  obtain⟨w3,hw3⟩:∃w,w=k5 x (dA a):=⟨_,rfl⟩
  rw[←hw1,←hw2,←hw3]at hq0;have hww:q1=false→w1=ws.any (UD x (if a.kind=4 then 3 else 0))∧w2=ws.any (UM x a.by_)∧w3=ws.any (Uq x a.kind a.day):=fun h=>by
   rw[hq1]at h;rw[hws,hw1,hw2,hw3];exact⟨F4 h x,EQ h x,Gj h x⟩
  clear hw1 hw2 hw3;obtain⟨d5,hd5⟩:∃d,d=gM a.day:=⟨_,rfl⟩
  obtain⟨n5,hn5⟩:∃d,d=bT a.to:=⟨_,rfl⟩
  unfold iH at hq2';rw[←hd5,←hn5]at hq2';obtain⟨kind,index,day,bill,by_,to,b⟩:=a;obtain rfl:kind=3:=hkind;obtain⟨nq2,cq2,sq2,frm2,to2,bq2,pq2,iq2,lq2⟩:=b;dsimp only at hq1' hq2' hto he he2 hd5 hn5 hwl hww;cbv
  (refine ZN hf ((⟨carrier,L⟩:Rg),bill) (by dsimp only;omega) ?_;try dsimp only)
  rw[←he,he2];cbv;repeat'((first|refine .e ?_|refine .n fun h=>?_|refine .y fun h=>?_|refine .mk (fun h=>?_) fun h=>?_|refine And.intro ?_ ?_|fail)<;>cbv)
  all_goals try
   ((refine ZN hd day trivial ?_;try dsimp only)
    rw[←hd5];cases d5<;>(cbv))
  all_goals try
   ((refine ZN hn to hto ?_;try dsimp only)
    rw[←hn5];cases n5<;>(cbv))
  all_goals try
   (have f1:q1=true:=by(rw[hq1'];exact aH (by omega))
    (refine .q9 ?_;cbv;exact .inl (.f9 (fU hK (by rw[hq0,f1];rfl))))
    done)
  all_goals have f1:q1=false:=by(rw[hq1'];exact aG (by omega))
  all_goals try
   (have f2:q2=true:=by
     rw[hq2']
     first
      |(rw[aG (by decide:¬(3:Int)=3)];rfl)
      |(rw[aH (by decide:(3:Int)=1)];exact Bool.or_true _)
      |(rw[aH (by decide:(3:Int)=1),aH (by assumption:to=by_)];exact Bool.or_true _)
    (refine .q9 ?_;cbv;exact .inl (.f9 (fU hK (by rw[hq0,f1,f2];rfl))))
    done)
  all_goals
   (have f2:q2=false:=by
     rw[hq2']
     first
      |(rw[aH (by decide:(3:Int)=3),aG (by decide:¬(3:Int)=1)];rfl)
      |(rw[aG (by decide:¬(3:Int)=3),aG (by decide:¬(3:Int)=1)];rfl)
      |(rw[aG (by decide:¬(3:Int)=3),aH (by decide:(3:Int)=1),aG (by assumption:¬to=by_)];rfl)
    rw[f1,f2]at hq0)
  all_goals
   (have hwo:=hwo f1
    (refine ZN hw (⟨3,index,day,bill,by_,to,⟨nq2,cq2,sq2,frm2,to2,bq2,pq2,iq2,lq2⟩⟩:At) trivial ?_;try dsimp only)
    rw[hwl,hms];obtain⟨g1,g2,g3⟩:=hww f1;obtain⟨sv,hsv⟩:∃sv:Int,sv=if (3:Int)=4 then 3 else 0:=⟨_,rfl⟩
    rw[←hsv]at g1)
  all_goals
   (rw[aE (by decide)]at hsv
    obtain⟨⟨nq1,cq1,sq1,frm1,to1,bq1,pq1,iq1,lq1⟩,st1,⟨sa1,ha1,ca1⟩,⟨sb1,hb1,cb1⟩,⟨sc1,hc1,cc1⟩⟩:=x;obtain⟨P1,hP1⟩:∃p,p=UD ⟨⟨nq1,cq1,sq1,frm1,to1,bq1,pq1,iq1,lq1⟩,st1,⟨sa1,ha1,ca1⟩,⟨sb1,hb1,cb1⟩,⟨sc1,hc1,cc1⟩⟩ sv:=⟨_,rfl⟩
    obtain⟨P2,hP2⟩:∃p,p=UM ⟨⟨nq1,cq1,sq1,frm1,to1,bq1,pq1,iq1,lq1⟩,st1,⟨sa1,ha1,ca1⟩,⟨sb1,hb1,cb1⟩,⟨sc1,hc1,cc1⟩⟩ by_:=⟨_,rfl⟩
    obtain⟨P3,hP3⟩:∃p,p=Uq ⟨⟨nq1,cq1,sq1,frm1,to1,bq1,pq1,iq1,lq1⟩,st1,⟨sa1,ha1,ca1⟩,⟨sb1,hb1,cb1⟩,⟨sc1,hc1,cc1⟩⟩ (3:Int) day:=⟨_,rfl⟩
    rw[←hP1]at g1;rw[←hP2]at g2;rw[←hP3]at g3;obtain⟨v0,hv0⟩:∃v,v=iV ⟨sa1,ha1,ca1⟩ iq1:=⟨_,rfl⟩
    have a0:P1 0=(!decide (st1=0) || !decide (sa1=sv)):=by rw[hP1];rfl
    have b0:P2 0=(!decide (ha1=by_)):=by rw[hP2];rfl
    have c0:P3 0=(!decide ((3:Int)=3) && decide (day < v0)):=by rw[hP3,hv0];rfl
    obtain⟨v1,hv1⟩:∃v,v=iV ⟨sb1,hb1,cb1⟩ iq1:=⟨_,rfl⟩
    have a1:P1 1=(!decide (st1=0) || !decide (sb1=sv)):=by rw[hP1];rfl
    have b1:P2 1=(!decide (hb1=by_)):=by rw[hP2];rfl
    have c1:P3 1=(!decide ((3:Int)=3) && decide (day < v1)):=by rw[hP3,hv1];rfl
    obtain⟨v2,hv2⟩:∃v,v=iV ⟨sc1,hc1,cc1⟩ iq1:=⟨_,rfl⟩
    have a2:P1 2=(!decide (st1=0) || !decide (sc1=sv)):=by rw[hP1];rfl
    have b2:P2 2=(!decide (hc1=by_)):=by rw[hP2];rfl
    have c2:P3 2=(!decide ((3:Int)=3) && decide (day < v2)):=by rw[hP3,hv2];rfl
    have aP:∀k,P1 k=(!decide (st1=0) || !decide ((N8 k ⟨⟨nq1,cq1,sq1,frm1,to1,bq1,pq1,iq1,lq1⟩,st1,⟨sa1,ha1,ca1⟩,⟨sb1,hb1,cb1⟩,⟨sc1,hc1,cc1⟩⟩).state=sv)):=fun k=>by rw[hP1];rfl
    have hp3:∀k,P3 k=false:=fun k=>by rw[hP3];rfl
    clear hP1 hP2 hP3;subst hsv;cbv;repeat'((first|refine .n fun h=>?_|fail)<;>cbv)
    refine bS [] (fun q:{ j:Nat // j≤ws.length∧iU P1 ws j }=>[(9,.i (nI q.1))]) (fun q=>[.blk 38 [.str carrier,.sl 11 (bJ iL L)],.blk 204 (yM ⟨(3:Int),index,day,bill,by_,to,⟨nq2,cq2,sq2,frm2,to2,bq2,pq2,iq2,lq2⟩⟩),.blk 104 (yR ⟨⟨nq1,cq1,sq1,frm1,to1,bq1,pq1,iq1,lq1⟩,st1,⟨sa1,ha1,ca1⟩,⟨sb1,hb1,cb1⟩,⟨sc1,hc1,cc1⟩⟩)]) (fun q=>fE 4 q.1) ⟨0,aI _,.zero⟩ ?_;rintro ⟨j1,hj1,hn1⟩;dsimp only at hj1 hn1⊢;cbv;repeat'((first|refine .mk (fun h=>?_) fun h=>?_|refine .k fun z hz=>?_|fail)<;>cbv)
    ·refine cR bQ bQ fun i l hi hl=>?_
     obtain rfl:j1=i:=bQ;rcases hwo l (aC hl)with rfl|rfl|rfl
     ·cbv;repeat'((first|refine .mk (fun h=>?_) fun h=>?_|refine .k fun z hz=>?_|refine cC.i0 ?_|fail)<;>cbv)
      ·have e:P1 0=false:=by rw[a0,aH (by assumption:st1=0),aH (by assumption:sa1=_)];rfl
       obtain rfl:z=nI (j1+1):=bQ;exact bM ⟨j1+1,by exact bQ,hn1.succ hl e⟩ (bN bQ)
      ·have e:P1 0=true:=by rw[a0,aG (by assumption:¬sa1=_)];exact Bool.or_true _
       (refine .q9 ?_;cbv;exact .inl (.f9 (fU hK (by rw[hq0,g1.trans (gJ hl e)];rfl))))
     ·cbv;repeat'((first|refine .mk (fun h=>?_) fun h=>?_|refine .k fun z hz=>?_|refine cC.i1 ?_|fail)<;>cbv)
      ·have e:P1 1=false:=by rw[a1,aH (by assumption:st1=0),aH (by assumption:sb1=_)];rfl
       obtain rfl:z=nI (j1+1):=bQ;exact bM ⟨j1+1,by exact bQ,hn1.succ hl e⟩ (bN bQ)
      ·have e:P1 1=true:=by rw[a1,aG (by assumption:¬sb1=_)];exact Bool.or_true _
       (refine .q9 ?_;cbv;exact .inl (.f9 (fU hK (by rw[hq0,g1.trans (gJ hl e)];rfl))))
     ·cbv;repeat'((first|refine .mk (fun h=>?_) fun h=>?_|refine .k fun z hz=>?_|refine cC.i2 ?_|fail)<;>cbv)
      ·have e:P1 2=false:=by rw[a2,aH (by assumption:st1=0),aH (by assumption:sc1=_)];rfl
       obtain rfl:z=nI (j1+1):=bQ;exact bM ⟨j1+1,by exact bQ,hn1.succ hl e⟩ (bN bQ)
      ·have e:P1 2=true:=by rw[a2,aG (by assumption:¬sc1=_)];exact Bool.or_true _
       (refine .q9 ?_;cbv;exact .inl (.f9 (fU hK (by rw[hq0,g1.trans (gJ hl e)];rfl))))
    ·obtain⟨l,hl⟩:=cJ (L:=ws) (i:=j1) bQ;have e:P1 l=true:=by rw[aP,aG (by assumption:¬st1=0)];rfl
     (refine .q9 ?_;cbv;exact .inl (.f9 (fU hK (by rw[hq0,g1.trans (gJ hl e)];rfl))))
    ·have ej1:j1=ws.length:=bQ;rw[ej1]at hn1;have f1:=g1.trans (jA hn1);rw[f1]at hq0;refine bS [] (fun q:{ j:Nat // j≤ws.length∧iU P2 ws j }=>[(10,.i (nI q.1))]) (fun q=>[.blk 38 [.str carrier,.sl 11 (bJ iL L)],.blk 204 (yM ⟨(3:Int),index,day,bill,by_,to,⟨nq2,cq2,sq2,frm2,to2,bq2,pq2,iq2,lq2⟩⟩),.blk 104 (yR ⟨⟨nq1,cq1,sq1,frm1,to1,bq1,pq1,iq1,lq1⟩,st1,⟨sa1,ha1,ca1⟩,⟨sb1,hb1,cb1⟩,⟨sc1,hc1,cc1⟩⟩)]) (fun q=>fE 4 q.1) ⟨0,aI _,.zero⟩ ?_;rintro ⟨j2,hj2,hn2⟩;dsimp only at hj2 hn2⊢;cbv;repeat'((first|refine .mk (fun h=>?_) fun h=>?_|refine .k fun z hz=>?_|fail)<;>cbv)
     rotate_left
     ·have ej2:j2=ws.length:=bQ;rw[ej2]at hn2;have f2:=g2.trans (jA hn2);rw[f2]at hq0;refine bS [] (fun q:{ j:Nat // j≤ws.length∧iU P3 ws j }=>[(11,.i (nI q.1))]) (fun q=>[.blk 38 [.str carrier,.sl 11 (bJ iL L)],.blk 204 (yM ⟨(3:Int),index,day,bill,by_,to,⟨nq2,cq2,sq2,frm2,to2,bq2,pq2,iq2,lq2⟩⟩),.blk 104 (yR ⟨⟨nq1,cq1,sq1,frm1,to1,bq1,pq1,iq1,lq1⟩,st1,⟨sa1,ha1,ca1⟩,⟨sb1,hb1,cb1⟩,⟨sc1,hc1,cc1⟩⟩)]) (fun q=>fE 4 q.1) ⟨0,aI _,.zero⟩ ?_;rintro ⟨j3,hj3,hn3⟩;dsimp only at hj3 hn3⊢;cbv;repeat'((first|refine .y fun h=>?_|refine .mk (fun h=>?_) fun h=>?_|refine .k fun z hz=>?_|fail)<;>cbv)
      rotate_left
      ·have ej3:j3=ws.length:=bQ;rw[ej3]at hn3;have f3:=g3.trans (jA hn3);rw[f3]at hq0
       (refine .q9 ?_;cbv;exact .inl (.f9 (fU hK (by rw[hq0];rfl))))
      ·obtain⟨l,hl⟩:=cJ (L:=ws) (i:=j3) bQ;obtain rfl:z=nI (j3+1):=bQ;exact bM ⟨j3+1,by exact bQ,hn3.succ hl (hp3 l)⟩ (bN bQ)
     ·refine cR bQ bQ fun i l hi hl=>?_
      obtain rfl:j2=i:=bQ;rcases hwo l (aC hl)with rfl|rfl|rfl
      ·cbv;repeat'((first|refine .mk (fun h=>?_) fun h=>?_|refine .k fun z hz=>?_|refine cC.i0 ?_|fail)<;>cbv)
       ·have e:P2 0=false:=by rw[b0,aH (by assumption:ha1=by_)];rfl
        obtain rfl:z=nI (j2+1):=bQ;exact bM ⟨j2+1,by exact bQ,hn2.succ hl e⟩ (bN bQ)
       ·have e:P2 0=true:=by rw[b0,aG (by assumption:¬ha1=by_)];rfl
        (refine .q9 ?_;cbv;exact .inl (.f9 (fU hK (by rw[hq0,g2.trans (gJ hl e)];rfl))))
      ·cbv;repeat'((first|refine .mk (fun h=>?_) fun h=>?_|refine .k fun z hz=>?_|refine cC.i1 ?_|fail)<;>cbv)
       ·have e:P2 1=false:=by rw[b1,aH (by assumption:hb1=by_)];rfl
        obtain rfl:z=nI (j2+1):=bQ;exact bM ⟨j2+1,by exact bQ,hn2.succ hl e⟩ (bN bQ)
       ·have e:P2 1=true:=by rw[b1,aG (by assumption:¬hb1=by_)];rfl
        (refine .q9 ?_;cbv;exact .inl (.f9 (fU hK (by rw[hq0,g2.trans (gJ hl e)];rfl))))
      ·cbv;repeat'((first|refine .mk (fun h=>?_) fun h=>?_|refine .k fun z hz=>?_|refine cC.i2 ?_|fail)<;>cbv)
       ·have e:P2 2=false:=by rw[b2,aH (by assumption:hc1=by_)];rfl
        obtain rfl:z=nI (j2+1):=bQ;exact bM ⟨j2+1,by exact bQ,hn2.succ hl e⟩ (bN bQ)
       ·have e:P2 2=true:=by rw[b2,aG (by assumption:¬hc1=by_)];rfl
        (refine .q9 ?_;cbv;exact .inl (.f9 (fU hK (by rw[hq0,g2.trans (gJ hl e)];rfl)))))
theorem Rl:bK Tryz.prog 50 Tz:=bL (by kernel_rfl) (MD _)
theorem Oa:bK Tryz.prog 51 Jn:=bL (by kernel_rfl) (Kl _)
theorem AG:bK Tryz.prog 21 tV:=bL (by kernel_rfl) (F6 _ Rl Oa)
theorem Lz:bK Tryz.prog 48 rD:=bL (by kernel_rfl) (Dx _)
theorem JB:bK Tryz.prog 49 qT:=bL (by kernel_rfl) (HH _)
theorem JP:bK Tryz.prog 52 (DM 77 5 72):=bL (by kernel_rfl) (CU _)
theorem CE:bK Tryz.prog 68 DY:=bL (by kernel_rfl) (Hv _ Oa JP)
theorem Qq:bK Tryz.prog 104 (iR (fun _=>True) bT):=bL (by kernel_rfl) (GF _)
theorem FN:bK Tryz.prog 74 zD:=bL (by kernel_rfl) (Fo _ Qq)
theorem OX:bK Tryz.prog 75 xL:=bL (by kernel_rfl) (LA _)
theorem Pz:bK Tryz.prog 118 HD:=bL (by kernel_rfl) (HU _ FN OX)
theorem NT:bK Tryz.prog 43 I3:=bL (by kernel_rfl) (KJ _ FN OX)
theorem Qf:bK Tryz.prog 79 (uA (fun k=>k=4) oL):=bL (by kernel_rfl) (G0 _ CE Pz NT)
theorem zK:bK Tryz.prog 120 Cq:=bL (by kernel_rfl) (HM _)
theorem zR:bK Tryz.prog 184 (FE lQ):=bL (by kernel_rfl) (Bv _)
theorem Cn:bK Tryz.prog 185 (FE jD):=bL (by kernel_rfl) (CR _)
theorem wQ:bK Tryz.prog 144 (iR (fun _=>True) bT):=bL (by kernel_rfl) (Kd _ zR Cn)
theorem Tj:bK Tryz.prog 106 (pV [.ptr 1 0] fun _ _=>false):=bL (by kernel_rfl) (Ki _)
theorem RU:bK Tryz.prog 107 (B4 k1):=bL (by kernel_rfl) (KF _)
theorem JC:bK Tryz.prog 109 D7:=bL (by kernel_rfl) (ID _)
theorem Sv:bK Tryz.prog 108 (B4 k2):=bL (by kernel_rfl) (Lc _ JC)
theorem Vu:bK Tryz.prog 112 (OV pC):=bL (by kernel_rfl) (OZ _)
theorem K7:bK Tryz.prog 111 (EN 112 pC):=bL (by kernel_rfl) (zS _ 112 pC ⟨by kernel_rfl⟩ Vu)
theorem Uc:bK Tryz.prog 110 (pV [.ptr 1 0,.ptr 0 0] k3):=bL (by kernel_rfl) (KO _ K7)
theorem Vq:bK Tryz.prog 114 (OV jQ):=bL (by kernel_rfl) (Nm _)
theorem Lu:bK Tryz.prog 111 (EN 114 jQ):=bL (by kernel_rfl) (zS _ 114 jQ ⟨by kernel_rfl⟩ Vq)
theorem Sd:bK Tryz.prog 113 (pV [.ptr 1 0,.ptr 0 0] k4):=bL (by kernel_rfl) (Kv _ Lu)
theorem Uh:bK Tryz.prog 117 OO:=bL (by kernel_rfl) (JZ _)
theorem Vl:bK Tryz.prog 116 SZ:=bL (by kernel_rfl) (MV _ Uh)
theorem Lb:bK Tryz.prog 111 (NL 116):=bL (by kernel_rfl) (Hz _ 116 ⟨by kernel_rfl⟩ Vl)
theorem TL:bK Tryz.prog 115 (pV [.ptr 0 0,.ptr 1 0] k5):=bL (by kernel_rfl) (KS _ Lb)
theorem PI:bK Tryz.prog 105 R7:=bL (by kernel_rfl) (Io _ ⟨⟨by kernel_rfl⟩,⟨by kernel_rfl⟩,⟨by kernel_rfl⟩,⟨by kernel_rfl⟩,⟨by kernel_rfl⟩,⟨by kernel_rfl⟩,Tj,RU,Sv,Uc,Sd,TL⟩)
theorem QC:bK Tryz.prog 106 (spec (fun _:Unit=>[.ptr 0 0]) (fun _=>[.blk 119 [.v (.pointer none)]]) (fun _=>True) (fun _=>.bl true) fun _=>[.blk 119 [.v (.pointer none)]]):=bL (by kernel_rfl) (HZ _)
theorem MZ:bK Tryz.prog 105 TG:=bL (by kernel_rfl) (Ew _ ⟨by kernel_rfl⟩ QC)
theorem IK:bK Tryz.prog 78 K9:=bL (by kernel_rfl) (NK _ PI MZ)
theorem PQ:bK Tryz.prog 212 H6:=bL (by kernel_rfl) (He _ wQ)
theorem Po:bK Tryz.prog 214 (BT 1):=bL (by kernel_rfl) (GX _)
theorem OL:bK Tryz.prog 213 (BT 2):=bL (by kernel_rfl) (FV _)
theorem PT:bK Tryz.prog 205 IC:=bL (by kernel_rfl) (Hi _ PQ Po OL)
theorem Q6:bK Tryz.prog 186 G8:=bL (by kernel_rfl) (HG _ wQ PT)
theorem Kn:bK Tryz.prog 145 DZ:=bL (by kernel_rfl) (DG _ Q6)
theorem Lm:bK Tryz.prog 119 A5:=bL (by kernel_rfl) (C2 _ wQ IK Kn)
theorem Q1:bK Tryz.prog 146 GH:=bL (by kernel_rfl) (Ik _)
theorem uT:bK Tryz.prog 121 KB:=bL (by kernel_rfl) (Er _ Q1)
theorem G2:bK Tryz.prog 80 (gL (fun k=>k=8) mV):=bL (by kernel_rfl) (BA _ zK Lm uT)
theorem UK:bK Tryz.prog 147 TB:=bL (by kernel_rfl) (Oj _)
theorem qS:bK Tryz.prog 87 (mD 1 16):=bL (by kernel_rfl) (FP _)
theorem Es:bK Tryz.prog 122 sL:=bL (by kernel_rfl) (Ap _ UK qS IK)
theorem CM:bK Tryz.prog 81 (AB (fun k=>k=20) pS):=bL (by kernel_rfl) (yB _ CE NT zK Es qS uT)
theorem Iv:bK Tryz.prog 82 (gL (fun k=>k=19) BE):=bL (by kernel_rfl) (Bn _)
theorem Sc:bK Tryz.prog 46 MS:=bL (by kernel_rfl) (Lq _ IK)
theorem PC:bK Tryz.prog 83 (gL (fun k=>k=23) qI):=bL (by kernel_rfl) (Ib _ zK Sc uT)
theorem Ll:bK Tryz.prog 123 AK:=bL (by kernel_rfl) (DK _ IK)
theorem GI:bK Tryz.prog 84 (gL (fun k=>k=24) qX):=bL (by kernel_rfl) (Bq _ zK Ll uT)
theorem Jq:bK Tryz.prog 18 (sU fun _=>True):=bL (by kernel_rfl) (JW Lz JB ⟨⟨by kernel_rfl⟩,Qf,⟨by kernel_rfl⟩,G2,⟨by kernel_rfl⟩,CM,⟨by kernel_rfl⟩,Iv,⟨by kernel_rfl⟩,PC,⟨by kernel_rfl⟩,GI⟩)
theorem Se:bK Tryz.prog 53 Cf:=bL (by kernel_rfl) (KA _)
theorem Q4:bK Tryz.prog 120 GJ:=bL (by kernel_rfl) (Hx _)
theorem Vs:bK Tryz.prog 206 LL:=bL (by kernel_rfl) (MQ _ zR Cn)
theorem QK:bK Tryz.prog 170 pF:=bL (by kernel_rfl) (HV _)
theorem UJ:bK Tryz.prog 131 SU:=bL (by kernel_rfl) (LZ _ QK)
theorem Pq:bK Tryz.prog 93 pF:=bL (by kernel_rfl) (IA _ UJ)
theorem QW:bK Tryz.prog 60 pF:=bL (by kernel_rfl) (Kr _ Pq)
theorem Nl:bK Tryz.prog 207 T0:=bL (by kernel_rfl) (Ft _ QW)
theorem QF:bK Tryz.prog 187 (iR (fun _=>True) lK):=bL (by kernel_rfl) (Ix _ Vs Nl)
theorem Sa:bK Tryz.prog 188 (R3 fun s=>!bT s):=bL (by kernel_rfl) (LI _ wQ)
theorem Ni:bK Tryz.prog 189 (OQ 188 fun s=>!bT s):=bL (by kernel_rfl) (KI _ 188 (fun s=>!bT s) ⟨by kernel_rfl⟩ Sa)
theorem ON:bK Tryz.prog 152 (Nw 188 fun s=>!bT s):=bL (by kernel_rfl) (LR _ 188 (fun s=>!bT s) Ni)
theorem Vm:bK Tryz.prog 149 SJ:=bL (by kernel_rfl) (Md _ wQ QF JC ON)
theorem S6:bK Tryz.prog 148 (yD [.ptr 2 0,.ptr 3 0,.ptr 4 0] i1):=bL (by kernel_rfl) (Ly _ Vm wQ)
theorem TD:bK Tryz.prog 150 (yD [.ptr 2 0,.ptr 3 0] i2):=bL (by kernel_rfl) (Ld _)
theorem QR:bK Tryz.prog 208 HP:=bL (by kernel_rfl) (Is _)
theorem Im:bK Tryz.prog 191 xD:=bL (by kernel_rfl) (Bj _ QR)
theorem ST:bK Tryz.prog 190 (Nr lN):=bL (by kernel_rfl) (Lt _ Im)
theorem DO:bK Tryz.prog 69 (T4 190 lN):=bL (by kernel_rfl) (Bh _ 190 lN ⟨by kernel_rfl⟩ ST JE)
theorem U0:bK Tryz.prog 154 Ui:=bL (by kernel_rfl) (Oh _ DO)
theorem PF:bK Tryz.prog 153 (spec (fun i:oV×bH=>[.str i.2,.ptr 2 0]) (fun i=>uJ i.1) (fun i=>Db i.1) (fun i=>.bl (DD i.1 i.2)) fun i=>uJ i.1):=bL (by kernel_rfl) (HX _ U0)
theorem SO:bK Tryz.prog 189 Pa:=bL (by kernel_rfl) (Lh _ ⟨by kernel_rfl⟩ PF)
theorem Tn:bK Tryz.prog 152 Ot:=bL (by kernel_rfl) (JQ _ SO)
theorem T2:bK Tryz.prog 151 (yD [.ptr 3 0,.ptr 2 0] i3):=bL (by kernel_rfl) (LF _ Tn)
theorem TY:bK Tryz.prog 155 (yD [.ptr 2 0] i4):=bL (by kernel_rfl) (Lf _)
theorem NP:bK Tryz.prog 105 Pf:=bL (by kernel_rfl) (FI _ ⟨⟨by kernel_rfl⟩,⟨by kernel_rfl⟩,⟨by kernel_rfl⟩,⟨by kernel_rfl⟩,S6,TD,T2,TY⟩)
theorem sO:bK Tryz.prog 54 GZ:=bL (by kernel_rfl) (Bo _ qS)
theorem Q0:bK Tryz.prog 124 HB:=bL (by kernel_rfl) (Iz _ NP sO)
theorem Q5:bK Tryz.prog 157 (BD eN):=bL (by kernel_rfl) (HI _ Mr)
theorem Kc:bK Tryz.prog 156 AO:=bL (by kernel_rfl) (Dr _)
theorem NU:bK Tryz.prog 125 GC:=bL (by kernel_rfl) (Ge _ Q5 Ma Kc)
theorem QP:bK Tryz.prog 85 (qJ sB):=bL (by kernel_rfl) (G7 _ Q4 qS Q0 NU)
theorem Qg:bK Tryz.prog 86 (qJ F8):=bL (by kernel_rfl) (GN _ qS)
theorem Mq:bK Tryz.prog 23 (xP fun _=>True):=bL (by kernel_rfl) (M7 Se ⟨by kernel_rfl⟩ QP ⟨by kernel_rfl⟩ Qg JB)
theorem Cy:bK Tryz.prog 52 (mD 5 72):=bL (by kernel_rfl) (Ea _)
theorem OC:bK Tryz.prog 22 I5:=bL (by kernel_rfl) (Lw _ Cy)
theorem Jp:bK Tryz.prog 30 Dy:=bL (by kernel_rfl) (HO _)
theorem B2:bK Tryz.prog 11 uU:=bL (by kernel_rfl) (DR _ AG Jq Mq OC Jp)
theorem Ja:bK Tryz.prog 31 CD:=bL (by kernel_rfl) (Id _)
theorem GV:bK Tryz.prog 13 mW:=bL (by kernel_rfl) (Ls _)
theorem DB:bK Tryz.prog 94 qN:=bL (by kernel_rfl) (GE _)
theorem uK:bK Tryz.prog 20 pQ:=bL (by kernel_rfl) (G4 _)
theorem LX:bK Tryz.prog 95 zJ:=bL (by kernel_rfl) (Gp _ uK)
theorem BN:bK Tryz.prog 178 (FE lQ):=bL (by kernel_rfl) (Dh _)
theorem AL:bK Tryz.prog 179 (FE jD):=bL (by kernel_rfl) (E0 _)
theorem yV:bK Tryz.prog 133 (iR (fun s=>s.size≤maxLen) bT):=bL (by kernel_rfl) (Iy _ BN AL)
theorem Pr:bK Tryz.prog 174 Hn:=bL (by kernel_rfl) (Ig _ yV)
theorem GP:bK Tryz.prog 175 D7:=bL (by kernel_rfl) (Kf _)
theorem IJ:bK Tryz.prog 202 (iR (fun _=>True) mP):=bL (by kernel_rfl) (HT _ BN AL)
theorem TV:bK Tryz.prog 203 LL:=bL (by kernel_rfl) (Li _ IJ)
theorem Mb:bK Tryz.prog 176 (iR (fun _=>True) lK):=bL (by kernel_rfl) (EY _ IJ AL TV)
theorem Uy:bK Tryz.prog 177 Wo:=bL (by kernel_rfl) (PH _)
theorem Tl:bK Tryz.prog 132 Ml:=bL (by kernel_rfl) (J3 _ Pr GP Mb Uy)
theorem pJ:bK Tryz.prog 63 rA:=bL (by kernel_rfl) (KD _)
theorem TK:bK Tryz.prog 134 Na:=bL (by kernel_rfl) (LC _ Uy)
theorem Pw:bK Tryz.prog 135 H7:=bL (by kernel_rfl) (Iq _)
theorem Fi:bK Tryz.prog 96 tU:=bL (by kernel_rfl) (EV _ Tl yV pJ TK Pw)
theorem BI:bK Tryz.prog 136 DV:=bL (by kernel_rfl) (C5 _)
theorem HY:bK Tryz.prog 137 N9:=bL (by kernel_rfl) (Bx _ I9 BI)
theorem Qz:bK Tryz.prog 138 Ii:=bL (by kernel_rfl) (HK _)
theorem LP:bK Tryz.prog 97 GC:=bL (by kernel_rfl) (CH _ HY Qz BI)
theorem P0:bK Tryz.prog 65 (TE fun _=>True):=bL (by kernel_rfl) (JM GV DB uK LX Fi LP)
theorem Qr:bK Tryz.prog 17 nH:=bL (by kernel_rfl) (HA _)
theorem Mu:bK Tryz.prog 204 (iR (fun s=>s.size≤maxLen) bT):=bL (by kernel_rfl) (Fv _)
theorem BZ:bK Tryz.prog 181 (iR (fun s=>s.size≤maxLen) bT):=bL (by kernel_rfl) (D8 _ Mu)
theorem Ey:bK Tryz.prog 182 xL:=bL (by kernel_rfl) (Fs _)
theorem DS:bK Tryz.prog 41 E2:=bL (by kernel_rfl) (Hj _)
theorem IV:bK Tryz.prog 62 Jk:=bL (by kernel_rfl) (Ha _)
theorem BW:bK Tryz.prog 39 yZ:=bL (by kernel_rfl) (Dz _ IV)
theorem OY:bK Tryz.prog 140 CJ:=bL (by kernel_rfl) (FL _ BZ Ey DS BW)
theorem Cb:bK Tryz.prog 141 C0:=bL (by kernel_rfl) (CC _ BZ Ey DS)
theorem Od:bK Tryz.prog 99 zG:=bL (by kernel_rfl) (EE _ uK OY Cb DB)
theorem Ub:bK Tryz.prog 100 (qA 0):=bL (by kernel_rfl) (Kk _ Fi)
theorem pM:bK Tryz.prog 143 oT:=bL (by kernel_rfl) (HN _)
theorem I1:bK Tryz.prog 183 CZ:=bL (by kernel_rfl) (IE _)
theorem LB:bK Tryz.prog 142 CG:=bL (by kernel_rfl) (CP _ pJ GP yV pM I1)
theorem Kh:bK Tryz.prog 142 (mR 3):=bL (by kernel_rfl) (Dm _ pJ GP yV pM I1)
theorem jS:bK Tryz.prog 142 mX:=Ht LB Kh
theorem Sy:bK Tryz.prog 100 (qA 1):=bL (by kernel_rfl) (JV _ jS pJ pM)
theorem SX:bK Tryz.prog 100 (qA 2):=Pc (by kernel_rfl) (Kw _ jS pJ pM)
theorem Tb:bK Tryz.prog 100 (qA 3):=bL (by kernel_rfl) (Lg _ jS pJ pM)
theorem RZ:bK Tryz.prog 100 (qA 4):=bL (by kernel_rfl) (LM _ jS pJ pM)
theorem RV:bK Tryz.prog 100 (qA 5):=bL (by kernel_rfl) (J8 _ jS pJ pM)
theorem Mt:bK Tryz.prog 100 Hf:=TH Ub Sy SX Tb RZ RV
theorem Pi:bK Tryz.prog 33 D6:=bL (by kernel_rfl) (Fb _)
theorem PU:bK Tryz.prog 101 tC:=bL (by kernel_rfl) (H4 _ Pi)
theorem JY:bK Tryz.prog 102 tY:=bL (by kernel_rfl) (DU _ uK Cb)
theorem Nu:bK Tryz.prog 67 (N4 fun _=>True):=bL (by kernel_rfl) (HL GV Qr Od Mt PU JY DB uK)
theorem PZ:bK Tryz.prog 24 CK:=bL (by kernel_rfl) (GO _)
theorem PG:bK Tryz.prog 180 G3:=bL (by kernel_rfl) (Ic _)
theorem O7:bK Tryz.prog 139 Ih:=bL (by kernel_rfl) (EZ _ PG)
theorem Qm:bK Tryz.prog 98 HW:=bL (by kernel_rfl) (Hc _ O7)
theorem Sk:bK Tryz.prog 66 MH:=bL (by kernel_rfl) (KH _ Qm)
theorem We:bK Tryz.prog 32 Qo:=bL (by kernel_rfl) (TT Mq P0 Jq Nu PZ Sk)
theorem NV:bK Tryz.prog 14 C7:=bL (by kernel_rfl) (E8 _ AG Ja We)
theorem RT:bK Tryz.prog 12 Du:=bL (by kernel_rfl) (MJ _)
theorem Uf:bK Tryz.prog 55 NJ:=bL (by kernel_rfl) (K0 _ Ma PV)
theorem OK:bK Tryz.prog 70 (Sb fun _=>true):=bL (by kernel_rfl) (EL _)
theorem E1:bK Tryz.prog 69 (R6 70 fun _=>true):=bL (by kernel_rfl) (Dc _ 70 (fun _=>true) ⟨by kernel_rfl⟩ OK JE)
theorem QM:bK Tryz.prog 35 H8:=bL (by kernel_rfl) (Ij _ E1)
theorem EU:bK Tryz.prog 16 sR:=bL (by kernel_rfl) (zZ _)
theorem Ql:bK Tryz.prog 38 GS:=bL (by kernel_rfl) (GY _ BO Ue)
theorem Yo:bK Tryz.prog 73 X0:=bL (by kernel_rfl) (QB _)
theorem UX:bK Tryz.prog 42 TZ:=bL (by kernel_rfl) (MM _ Yo)
theorem Jo:bK Tryz.prog 27 CX:=bL (by kernel_rfl) (HC _ ⟨BO,Sq,⟨by kernel_rfl⟩,Uf,Oi,QM,EU,Mr,Ql,UX⟩)
theorem UI:bK Tryz.prog 71 TC:=bL (by kernel_rfl) (Pb _)
theorem Oe:bK Tryz.prog 36 D5:=bL (by kernel_rfl) (E3 _ UI)
theorem Fd:bK Tryz.prog 28 zO:=bL (by kernel_rfl) (EM _ IV GV Oe pJ I9 BW DS)
theorem Mw:bK Tryz.prog 29 G6:=bL (by kernel_rfl) (EK _)
set_option maxHeartbeats 8000000
theorem Hm (P:bI) (haw:bK P 11 uU) (hfe:bK P 12 Du) (hn:bK P 21 tV) (hrn:bK P 31 CD) (hdo:bK P 32 Qo) (hct:bK P 27 CX) (hrt:bK P 28 zO):bO P x6 Wp:=by
 intro args H K hc;obtain⟨⟨s,name,l⟩,rfl,rfl,hp,hK⟩:=hc;refine⟨cM,?_⟩;dsimp only at hp hK⊢;obtain⟨hf,hd⟩:=hp
 try dsimp only at hf hd
 obtain⟨parties,deals,funds,rest,holidays⟩:=s;cbv
 (refine ZN haw () trivial ?_;try dsimp only)
 cbv;refine eQ hfe (⟨⟨parties,deals,funds,rest,holidays⟩,name,l⟩:wJ) [] hf rfl rfl (by decide) rfl rfl rfl rfl rfl ?_;intro b hb;cases b with
 |false=>
  cbv
  (refine .q9 ?_;cbv;exact .inl (.f9 hK))
 |true=>
  obtain⟨hs,hnz,hll,hlo⟩:=OD (hb rfl) hd;dsimp only at hs hnz hll hlo;have hjn:=Jt.new (name:=name) hs;obtain⟨n,hnn⟩:∃n:Nat,n=l.length:=⟨_,rfl⟩
  obtain⟨⟨name1,parties1,deals1,⟨rc1,rL1⟩,cust1,deliv1⟩,hC0⟩:∃C,C=KU (iE.su ⟨parties,deals,funds,rest,holidays⟩) name:=⟨_,rfl⟩
  obtain⟨⟨S,free,⟨c,L⟩,H,D⟩,hx0⟩:∃x,x=Bt (iE.su ⟨parties,deals,funds,rest,holidays⟩) name:=⟨_,rfl⟩
  rw[←hC0,←hx0]at hjn;cbv;repeat'((first|refine .mk (fun h=>?_) fun h=>?_|refine .k fun z hz=>?_|refine And.intro ?_ ?_|fail)<;>cbv)
  all_goals
   repeat'(first
    |((refine Bg hn ((name,⟨parties,deals,funds,rest,holidays⟩):bH×iE) hs ?_;try dsimp only)
      rw[←hC0];cbv;repeat'((first|refine And.intro ?_ ?_|fail)<;>cbv))
    |((refine ZN hrn ((⟨parties,deals,funds,rest,holidays⟩,name):iE×bH) hs.de ?_;try dsimp only)
      rw[←hx0];cbv))
  all_goals first
  |((refine .q9 ?_;cbv;exact .inl (.f9 hK)))
  |refine fX (Gh.sel (st':=⟨[(1,.str name),(2,.sl 19 (bJ mT l)),(3,.ptr 8 0),(7,.ptr 0 0),(8,.ptr 9 0),(9,.i 0)],[.blk 118 [.str name1,.hd 1,.ph 2,.ptr 3 0,.ptr 5 0,.hd 7],.map 70 (bJ iP parties1),.pool 116 (bJ gO deals1) [],.blk 122 [.str rc1,.ph 4],.pool 120 (bJ fO rL1) [],.blk 174 [.ph 6],.pool 172 (bJ gF cust1) [],.tip 77 5 (bJ dB deliv1),.blk 29 [.sl 3 (bJ jP parties),.sl 17 (bJ iY deals),.sl 3 (bJ kA funds),.sl 1 (bJ dD rest),.sl 1 (bJ dD holidays)],.blk 41 [.sl 1 (bJ dD S),.sl 1 (bJ mK free),.str c,.sl 11 (bJ iL L),.sl 5 (bJ dB H),.sl 5 (bJ dB D)]]⟩) [2,3,4,5,6,7,8,9,0,1] (by repeat'(first|exact trivial|refine⟨.inl rfl,?_⟩|refine⟨.inr rfl,?_⟩)) rfl (by decide) rfl rfl) ?_
  |refine fX (Gh.sel (st':=⟨[(1,.str name),(2,.sl 19 (bJ mT l)),(3,.ptr 8 0),(7,.ptr 0 0),(8,.ptr 9 0),(9,.i 0)],[.blk 118 [.str name1,.hd 1,.ph 2,.ptr 3 0,.ptr 5 0,.hd 7],.map 70 (bJ iP parties1),.pool 116 (bJ gO deals1) [],.blk 122 [.str rc1,.ph 4],.pool 120 (bJ fO rL1) [],.blk 174 [.ph 6],.pool 172 (bJ gF cust1) [],.tip 77 5 (bJ dB deliv1),.blk 29 [.sl 3 (bJ jP parties),.sl 17 (bJ iY deals),.sl 3 (bJ kA funds),.sl 1 (bJ dD rest),.sl 1 (bJ dD holidays)],.blk 41 [.sl 1 (bJ dD S),.sl 1 (bJ mK free),.str c,.sl 11 (bJ iL L),.sl 5 (bJ dB H),.sl 5 (bJ dB D)]]⟩) [1,2,3,4,5,6,7,8,0,9] (by repeat'(first|exact trivial|refine⟨.inl rfl,?_⟩|refine⟨.inr rfl,?_⟩)) rfl (by decide) rfl rfl) ?_
  all_goals
   refine bS [] (fun p:{ p:Nat×Cr×Cs // p.1≤l.length∧Jt p.1 ⟨parties,deals,funds,rest,holidays⟩ name p.2.1 p.2.2 }=>[(9,.i (nI p.1.1))]) (fun p=>[.blk 118 [.str p.1.2.1.name,.hd 1,.ph 2,.ptr 3 0,.ptr 5 0,.hd 7],.map 70 (bJ iP p.1.2.1.parties),.pool 116 (bJ gO p.1.2.1.deals) [],.blk 122 [.str p.1.2.1.reg.carrier,.ph 4],.pool 120 (bJ fO p.1.2.1.reg.bills) [],.blk 174 [.ph 6],.pool 172 (bJ gF p.1.2.1.cust) [],.tip 77 5 (bJ dB p.1.2.1.deliv),.blk 29 [.sl 3 (bJ jP parties),.sl 17 (bJ iY deals),.sl 3 (bJ kA funds),.sl 1 (bJ dD rest),.sl 1 (bJ dD holidays)],.blk 41 [.sl 1 (bJ dD p.1.2.2.S),.sl 1 (bJ mK p.1.2.2.free),.str p.1.2.2.reg.carrier,.sl 11 (bJ iL p.1.2.2.reg.bills),.sl 5 (bJ dB p.1.2.2.H),.sl 5 (bJ dB p.1.2.2.D)]]) (fun p=>fE n p.1.1) ⟨(0,⟨name1,parties1,deals1,⟨rc1,rL1⟩,cust1,deliv1⟩,⟨S,free,⟨c,L⟩,H,D⟩),aI _,hjn⟩ ?_;rintro ⟨⟨k,⟨name2,parties2,deals2,⟨rc2,rL2⟩,cust2,deliv2⟩,⟨S2,free2,⟨c2,L2⟩,H2,D2⟩⟩,hk,hj⟩;dsimp only at hk hj⊢;rcases aL k l.length with hks|hks
   rotate_left
   ·cbv;repeat'((first|refine .n fun h=>?_|refine .k fun z hz=>?_|fail)<;>cbv)
    (refine .q9 ?_;cbv;exact .inl (.f9 hK))
   obtain⟨o,ho⟩:=cJ hks;have hoo:=hlo o (aC ho);obtain⟨⟨S3,free3,⟨c3,L3⟩,H3,D3⟩,hx3⟩:∃y,y=uH ⟨parties,deals,funds,rest,holidays⟩ name ⟨S2,free2,⟨c2,L2⟩,H2,D2⟩ o:=⟨_,rfl⟩
   have hdj:Sl ⟨⟨⟨name2,parties2,deals2,⟨rc2,rL2⟩,cust2,deliv2⟩,⟨parties,deals,funds,rest,holidays⟩,name,⟨S2,free2,⟨c2,L2⟩,H2,D2⟩,o⟩,k⟩:=⟨hj,by dsimp only;omega,hs,hnz,hoo⟩
   obtain⟨okind,oday,⟨ak,an,adeal⟩,⟨frm,to,number,lkind,ack,ldeal,text,party,index,day0,cur,amt,docs,boxes⟩⟩:=o;cbv;repeat'((first|refine .e ?_|refine .y fun h=>?_|refine .k fun z hz=>?_|refine And.intro ?_ ?_|fail)<;>cbv)
   all_goals
    refine eQ hdo (⟨⟨⟨name2,parties2,deals2,⟨rc2,rL2⟩,cust2,deliv2⟩,⟨parties,deals,funds,rest,holidays⟩,name,⟨S2,free2,⟨c2,L2⟩,H2,D2⟩,⟨okind,oday,⟨ak,an,adeal⟩,⟨frm,to,number,lkind,ack,ldeal,text,party,index,day0,cur,amt,docs,boxes⟩⟩⟩,k⟩:DJ) [0,1,2,3,4,5,6,7] hdj rfl rfl (by decide) rfl rfl rfl rfl rfl ?_;rintro ⟨mv,C3⟩ hj3;dsimp only at hj3;rw[←hx3]at hj3
    try dsimp only
    rw[←hx3];have htx:=hj3.txOk hs (by omega);have hctx:=hj3.ctxOk hs (by omega);have htt:=hj3.text;obtain⟨tP,htP⟩:∃t,t=iC (AU C3):=⟨_,rfl⟩
    have htR:tP=iC (A6 (iE.su ⟨parties,deals,funds,rest,holidays⟩) name ⟨S3,free3,⟨c3,L3⟩,H3,D3⟩):=by rw[htP,htt]
    obtain⟨name3,parties3,deals3,⟨rc3,rL3⟩,cust3,deliv3⟩:=C3;clear htt;cases mv with
    |false=>
     cbv;repeat'((first|refine xN.r ?_|refine yC.r ?_|(first|fail))<;>cbv)
     repeat'(first
      |((refine fW hct (⟨name3,parties3,deals3,⟨rc3,rL3⟩,cust3,deliv3⟩:Cr) [0,1,2,3,4,5,6,7] hctx ?_;try dsimp only)
        rw[←htP];cbv;repeat'((first|refine xN.r ?_|refine yC.r ?_|(first|fail))<;>cbv))
      |((refine ZN hrt ((⟨parties,deals,funds,rest,holidays⟩,name,⟨S3,free3,⟨c3,L3⟩,H3,D3⟩):iE×bH×Cs) htx ?_;try dsimp only)
        rw[←htR];cbv;repeat'((first|refine xN.r ?_|refine yC.r ?_|(first|refine .k fun z hz=>?_|fail))<;>cbv)))
     all_goals
      obtain rfl:z=nI (k+1):=bQ;exact bM ⟨(k+1,⟨name3,parties3,deals3,⟨rc3,rL3⟩,cust3,deliv3⟩,⟨S3,free3,⟨c3,L3⟩,H3,D3⟩),hks,hj3⟩ (bN (by omega))
    |true=>
     cbv;repeat'((first|refine xN.r ?_|refine yC.r ?_|(first|fail))<;>cbv)
     repeat'(first
      |((refine fW hct (⟨name3,parties3,deals3,⟨rc3,rL3⟩,cust3,deliv3⟩:Cr) [0,1,2,3,4,11,12,7] hctx ?_;try dsimp only)
        rw[←htP];cbv;repeat'((first|refine xN.r ?_|refine yC.r ?_|(first|fail))<;>cbv))
      |((refine fW hct (⟨name3,parties3,deals3,⟨rc3,rL3⟩,cust3,deliv3⟩:Cr) [0,1,2,3,4,10,11,7] hctx ?_;try dsimp only)
        rw[←htP];cbv;repeat'((first|refine xN.r ?_|refine yC.r ?_|(first|fail))<;>cbv))
      |((refine ZN hrt ((⟨parties,deals,funds,rest,holidays⟩,name,⟨S3,free3,⟨c3,L3⟩,H3,D3⟩):iE×bH×Cs) htx ?_;try dsimp only)
        rw[←htR];cbv;repeat'((first|refine xN.r ?_|refine yC.r ?_|(first|refine .k fun z hz=>?_|fail))<;>cbv)))
     all_goals
      obtain rfl:z=nI (k+1):=bQ
      first
      |refine dV (Gh.sel (st':=⟨[(1,.str name),(2,.sl 19 (bJ mT l)),(3,.ptr 8 0),(7,.ptr 0 0),(8,.ptr 9 0),(9,.i (nI (k+1)))],[.blk 118 [.str name3,.hd 1,.ph 2,.ptr 3 0,.ptr 5 0,.hd 7],.map 70 (bJ iP parties3),.pool 116 (bJ gO deals3) [],.blk 122 [.str rc3,.ph 4],.pool 120 (bJ fO rL3) [],.blk 174 [.ph 6],.pool 172 (bJ gF cust3) [],.tip 77 5 (bJ dB deliv3),.blk 29 [.sl 3 (bJ jP parties),.sl 17 (bJ iY deals),.sl 3 (bJ kA funds),.sl 1 (bJ dD rest),.sl 1 (bJ dD holidays)],.blk 41 [.sl 1 (bJ dD S3),.sl 1 (bJ mK free3),.str c3,.sl 11 (bJ iL L3),.sl 5 (bJ dB H3),.sl 5 (bJ dB D3)]]⟩) [0,1,2,3,4,11,12,7,8,9] (by repeat'(first|exact trivial|refine⟨.inl rfl,?_⟩|refine⟨.inr rfl,?_⟩)) rfl (by decide) rfl rfl) ?_
      |refine dV (Gh.sel (st':=⟨[(1,.str name),(2,.sl 19 (bJ mT l)),(3,.ptr 8 0),(7,.ptr 0 0),(8,.ptr 9 0),(9,.i (nI (k+1)))],[.blk 118 [.str name3,.hd 1,.ph 2,.ptr 3 0,.ptr 5 0,.hd 7],.map 70 (bJ iP parties3),.pool 116 (bJ gO deals3) [],.blk 122 [.str rc3,.ph 4],.pool 120 (bJ fO rL3) [],.blk 174 [.ph 6],.pool 172 (bJ gF cust3) [],.tip 77 5 (bJ dB deliv3),.blk 29 [.sl 3 (bJ jP parties),.sl 17 (bJ iY deals),.sl 3 (bJ kA funds),.sl 1 (bJ dD rest),.sl 1 (bJ dD holidays)],.blk 41 [.sl 1 (bJ dD S3),.sl 1 (bJ mK free3),.str c3,.sl 11 (bJ iL L3),.sl 5 (bJ dB H3),.sl 5 (bJ dB D3)]]⟩) [0,1,2,3,4,10,11,7,8,9] (by repeat'(first|exact trivial|refine⟨.inl rfl,?_⟩|refine⟨.inr rfl,?_⟩)) rfl (by decide) rfl rfl) ?_
      exact bM ⟨(k+1,⟨name3,parties3,deals3,⟨rc3,rL3⟩,cust3,deliv3⟩,⟨S3,free3,⟨c3,L3⟩,H3,D3⟩),hks,hj3⟩ (bN (by omega))
end Go.Proofs.YtigdiekbiphhmaaGreatDoor
namespace Go.Proofs.YtigdiekbiphhmaaGreatDoor
open Go.ChangeShapes Go.WideShapes Go.Deep Go.RowKit
inductive Sh where
 |int (k:IntKind)
 |str
 |bl
 |sl (sz:Nat) (e:Sh)
 |st (l:List Sh)
mutual
def Sh.width:Sh→Nat
 |.int _=>1
 |.str=>1
 |.bl=>1
 |.sl _ _=>1
 |.st l=>Sh.widthL l
def Sh.widthL:List Sh→Nat
 |[]=>0
 |s :: l=>s.width+Sh.widthL l
end
mutual
def Op (B:Nat):Sh→List AV→Prop
 |.int k,cs=>∃n,cs=[.int k n]∧(Lit.int k n).wf=true
 |.str,cs=>∃s,cs=[.str s]∧s.size≤maxLen∧s.size≤B
 |.bl,cs=>∃b,cs=[.bl b]
 |.sl sz e,cs=>∃xs,cs=[.sl sz xs]∧xs.length≤maxLen∧∀x∈xs,x=dK sz x.cells∧Op B e x.cells
 |.st l,cs=>fM B l cs
def fM (B:Nat):List Sh→List AV→Prop
 |[],cs=>cs=[]
 |s :: l,cs=>∃a b,cs=a++b∧Op B s a∧fM B l b
end
mutual
theorem Op.one {B:Nat}:∀(s:Sh) (cs:List AV),Op B s cs→cs.all AV.one=true
 |.int k,cs,h=>by unfold Op at h;obtain⟨n,rfl,_⟩:=h;rfl
 |.str,cs,h=>by unfold Op at h;obtain⟨n,rfl,_⟩:=h;rfl
 |.bl,cs,h=>by unfold Op at h;obtain⟨n,rfl⟩:=h;rfl
 |.sl sz e,cs,h=>by unfold Op at h;obtain⟨xs,rfl,_⟩:=h;rfl
 |.st l,cs,h=>by unfold Op at h;exact fM.one l cs h
theorem fM.one {B:Nat}:∀(l:List Sh) (cs:List AV),fM B l cs→cs.all AV.one=true
 |[],cs,h=>by unfold fM at h;subst h;rfl
 |s :: l,cs,h=>by
  unfold fM at h;obtain⟨a,b,rfl,h1,h2⟩:=h;rw[List.all_append,Op.one s a h1,fM.one l b h2];rfl
end
def Pd (P:bI) (g:TypeId→Option Sh):List Field→Nat→Nat→Option (List Sh)
 |[],off,tot=>if off=tot then some [] else none
 |f :: l,off,tot=>if f.offset=off then match g f.type,Pd P g l (off+P.cellsOf f.type) tot with
  |some s,some r=>some (s :: r)
  |_,_=>none
  else none
mutual
theorem Op.len {B:Nat}:∀(s:Sh) (cs:List AV),Op B s cs→cs.length=s.width
 |.int k,cs,h=>by unfold Op at h;obtain⟨n,rfl,_⟩:=h;rfl
 |.str,cs,h=>by unfold Op at h;obtain⟨n,rfl,_⟩:=h;rfl
 |.bl,cs,h=>by unfold Op at h;obtain⟨n,rfl⟩:=h;rfl
 |.sl sz e,cs,h=>by unfold Op at h;obtain⟨xs,rfl,_⟩:=h;rfl
 |.st l,cs,h=>by unfold Op at h;exact fM.len l cs h
theorem fM.len {B:Nat}:∀(l:List Sh) (cs:List AV),fM B l cs→cs.length=Sh.widthL l
 |[],cs,h=>by unfold fM at h;subst h;rfl
 |s :: l,cs,h=>by
  unfold fM at h;obtain⟨a,b,rfl,h1,h2⟩:=h;rw[aM,Op.len s a h1,fM.len l b h2];rfl
end
def Fc (P:bI):Nat→TypeId→Option Sh
 |0,_=>none
 |n+1,t=>match P.underlying t with
  |some .bool=>some .bl
  |some (.int k)=>some (.int k)
  |some .string=>some .str
  |some (.slice e)=>match Fc P n e with
   |some s=>if s.width=P.cellsOf e then some (.sl (P.cellsOf e) s) else none
   |none=>none
  |some (.struct fs)=>(Pd P (Fc P n) fs.toList 0 (P.cellsOf t)).map .st
  |_=>none
def nJ (w:World):dC:=fun b=>match w.heap[b]? with
 |some (.cells arr _ _)=>arr.size
 |_=>0
theorem Kg {w:World}{b i:Nat}{u:Value}(h:w.cell? ⟨b,i,none⟩=some u):i < nJ w b:=by
 unfold World.cell? at h;unfold nJ;cases hb:w.heap[b]? with
 |none=>simp[hb]at h
 |some o=>
  cases o<;>simp[hb]at h⊢;rename_i arr _ _;rcases aL i arr.size with h1|h1
  ·exact h1
  ·rw[Array.getElem?_eq_none h1]at h;simp at h
theorem HE {w:World}{b i:Nat}(h:i < nJ w b):∃u,w.cell? ⟨b,i,none⟩=some u:=by
 unfold nJ at h;cases hb:w.heap[b]? with
 |none=>simp[hb]at h
 |some o=>
  cases o<;>simp[hb]at h;rename_i arr _ _;exact⟨arr[i],by unfold World.cell?;simp[hb,aK h]⟩
theorem oG.door (w:World) (hg:kL (nJ w) w):oG (nJ w) w dI []:=
 ⟨fun k e he=>(by simp at he),fun _ _=>rfl,(fun _ _ _ _ _ h=>by cases h),(fun b hb=>by unfold nJ;rw[Array.getElem?_eq_none hb]),fun b i hi=>HE hi,hg⟩
theorem BC {sz:Nat}{l:List AV}(hl:l.length=sz) (h1:l.all AV.one=true):(dK sz l).cells=l:=fR hl h1
theorem Fh {α:Type}{p:Nat→α→Prop}:∀(n:Nat),(∀i,i < n→∃a,p i a)→∃l:List α,l.length=n∧∀i (h:i < l.length),p i l[i]
 |0,_=>⟨[],rfl,fun i h=>by simp at h⟩
 |n+1,h=>by
  obtain⟨l,hl,hp⟩:=Fh n (fun i hi=>h i (by omega));obtain⟨a,ha⟩:=h n (by omega);refine⟨l++[a],by simp[hl],fun i hi=>?_⟩;by_cases h1:i < l.length
  ·rw[List.getElem_append_left h1];exact hp i h1
  ·simp at hi;obtain rfl:i=n:=by omega
   subst hl;simpa using ha
theorem sC (b o n:Nat):(⟨b,o,none⟩:Addr).add n=⟨b,o+n,none⟩:=by unfold Addr.add;split<;>simp_all
def ML (B:Nat) (P:bI) {H:Type}(t:TypeId) (d:DataW H):Prop:=maxLen≤B∨(reachBytes≤B∧∀n∈d.weights P t,n≤reachBytes)
theorem lJ {P:bI}{H:Type}:∀{ts:List TypeId}{ds:List (DataW H)}{i:Nat}{t:TypeId}{d:DataW H},ts[i]?=some t→ds[i]?=some d→∀n∈d.weights P t,n∈DataW.weightsEach P ts ds
 |[],_,i,t,d,h,_=>by simp at h
 |_ :: _,[],i,t,d,_,h=>by simp at h
 |u :: ts,e :: ds,0,t,d,h,k=>by
  intro n hn;simp at h k;subst h k;unfold DataW.weightsEach;exact List.mem_append_left _ hn
 |u :: ts,e :: ds,i+1,t,d,h,k=>by
  intro n hn;unfold DataW.weightsEach;exact List.mem_append_right _ (lJ (by simpa using h) (by simpa using k) n hn)
theorem JA {P:bI}{H:Type}{e:TypeId}:∀{ds:List (DataW H)}{i:Nat}{d:DataW H},ds[i]?=some d→∀n∈d.weights P e,n∈DataW.weightsAll P e ds
 |[],i,d,h=>by simp at h
 |x :: ds,0,d,h=>by
  intro n hn;simp at h;subst h;unfold DataW.weightsAll;exact List.mem_append_left _ hn
 |x :: ds,i+1,d,h=>by
  intro n hn;unfold DataW.weightsAll;exact List.mem_append_right _ (JA (by simpa using h) n hn)
section
variable {B:Nat}
variable {H:Type}{enc:TypeId×Value→H}{P:bI}{w:World}{base:Nat}{spare:Nat→Bool}{held:Bool}
theorem Jx {g:TypeId→Option Sh}{cs:List Value}(hg:∀t s,g t=some s→∀fuel cs x,DataW.trod enc P w base spare held fuel t cs=some x→ML B P t x.1→∃cz,Op B s cz∧bR (nJ w) w dI cz cs) :
  ∀(l:List Field) (off tot:Nat) (ss:List Sh),Pd P g l off tot=some ss→cs.length=tot→(∀f∈l,∃fuel y,DataW.trod enc P w base spare held fuel f.type ((cs.drop f.offset).take (P.cellsOf f.type))=some y∧ML B P f.type y.1) →
   ∃cz,fM B ss cz∧bR (nJ w) w dI cz (cs.drop off)
 |[],off,tot,ss,h,hl,_=>by
  unfold Pd at h
  split at h
  ·cases h;rename_i e;refine⟨[],by unfold fM;rfl,?_⟩;rw[List.drop_eq_nil_of_le (by omega)];exact .nil
  ·cases h
 |f :: l,off,tot,ss,h,hl,hf=>by
  unfold Pd at h
  split at h
  ·rename_i e
   split at h
   ·rename_i s r hs hr;cases h;obtain⟨fuel,y,hy,hly⟩:=hf f (bD ..);obtain⟨cz1,h1,h2⟩:=hg _ _ hs _ _ _ hy hly;obtain⟨cz2,h3,h4⟩:=Jx hg l _ tot r hr hl (fun f hm=>hf f (aW _ hm));refine⟨cz1++cz2,by unfold fM;exact⟨cz1,cz2,rfl,h1,h3⟩,?_⟩;rw[e]at h2;have:=h2.app h4;rw[←List.drop_drop,List.take_append_drop]at this;exact this
   ·cases h
  ·cases h
theorem bR.single {x:AV}{u:Value}{pub:dC}{r:cU}(h:bU pub w r x u):bR pub w r [x] [u]:=.cons h .nil
theorem Ay:∀(n:Nat) (t:TypeId) (s:Sh),Fc P n t=some s→∀(fuel:Nat) (cs:List Value) (x:DataW H×List MemPlace),DataW.trod enc P w base spare held fuel t cs=some x→ML B P t x.1→∃cz,Op B s cz∧bR (nJ w) w dI cz cs
 |0,t,s,h=>by cases h
 |n+1,t,s,h=>by
  intro fuel cs x hx hlt;have ih:=Ay n;unfold Fc at h
  split at h
  ·rename_i ht;cases h;obtain⟨b,rfl,_⟩:=DataW.trod_bool ht hx;exact⟨[.bl b],by unfold Op;exact⟨b,rfl⟩,.single (.bl b)⟩
  ·rename_i k ht;cases h;obtain⟨b,rfl,_,hw⟩:=DataW.trod_int ht hx;exact⟨[.int k b],by unfold Op;exact⟨b,rfl,hw⟩,.single (.int k b)⟩
  ·rename_i ht;cases h;obtain⟨b,rfl,rfl,hw⟩:=DataW.trod_string ht hx;have hb:b.size≤B:=by
    rcases hlt with h1|⟨h1,h2⟩
    ·omega
    ·have h3:=h2 b.data.toList.length (by dsimp only;unfold DataW.weights;exact bD ..);have h4:b.data.toList.length=b.size:=by rw[bB];rfl
     omega
   exact⟨[.str b],by unfold Op;exact⟨b,rfl,hw,hb⟩,.single (.str b)⟩
  ·rename_i e ht
   split at h
   ·rename_i se hse
    split at h
    ·rename_i hwd;cases h;rcases open_slice ht hx with ⟨rfl,_⟩|⟨a,len,cap,m,n',D,Pl,rfl,_,hl,hm,hmm,rfl,hi⟩
     ·refine⟨[.sl (P.cellsOf e) []],by unfold Op;exact⟨[],rfl,aI _,fun x hx=>by cases hx⟩,.single (.sl (A:=none) (c:=0) (xs:=[]) (aN _) (by unfold maxLen;omega) (fun _=>⟨rfl,rfl⟩) (fun x hx=>by cases hx) (fun _ _=>undef) (fun i x j u hx=>by simp at hx) (fun i x j u hx=>by simp at hx))⟩
     ·have hle:len≤m:=by rw[hmm];split<;>omega
      have each:∀i,i < len→∃cz,Op B se cz∧∃vs:List Value,bR (nJ w) w dI cz vs∧∀j v,vs[j]?=some v→w.cell? ((a.add (i * P.cellsOf e)).add j)=some v:=fun i hil=>by
       obtain⟨cs',hc,ht'⟩:=hi i (by omega);have hli:ML B P e (D i):=by
        rcases hlt with h1|⟨h1,h2⟩
        ·exact .inl h1
        ·refine .inr ⟨h1,fun n hn=>h2 n ?_⟩;unfold DataW.weights;rw[ht];refine aW _ (List.mem_append_left _ (JA (i:=i) (d:=D i) ?_ n hn));rw[aD,List.getElem?_range hil];rfl
       obtain⟨cz,h1,h2⟩:=ih e se hse _ _ _ ht' hli;obtain⟨_,hcl,hat⟩:=World.cells?_some hc;exact⟨cz,h1,cs',h2,fun j v hv=>by rw[hat j (by rw[←hcl];exact(aA.1 hv).1),hv]⟩
      obtain⟨A,hAl,hA⟩:∃A:List (List AV),A.length=len∧∀i (h:i < A.length),Op B se A[i]∧∃vs:List Value,bR (nJ w) w dI A[i] vs∧∀j v,vs[j]?=some v→w.cell? ((a.add (i * P.cellsOf e)).add j)=some v:=Fh len (p:=fun i cz=>Op B se cz∧∃vs:List Value,bR (nJ w) w dI cz vs∧∀j v,vs[j]?=some v→w.cell? ((a.add (i * P.cellsOf e)).add j)=some v) each;have hcells:∀(cz:List AV),Op B se cz→(dK (P.cellsOf e) cz).cells=cz:=fun cz ho=>BC ((Op.len _ _ ho).trans hwd) (Op.one _ _ ho)
      refine⟨[.sl (P.cellsOf e) (A.map (dK (P.cellsOf e)))],?_,?_⟩
      ·unfold Op;refine⟨_,rfl,by rw[aJ,hAl];omega,fun x hx=>?_⟩;obtain⟨cz,has,rfl⟩:=aX.1 hx;obtain⟨i,hil,rfl⟩:=List.getElem_of_mem has;rw[hcells _ (hA i hil).1];exact⟨rfl,(hA i hil).1⟩
      ·refine .single ?_;rw[←hAl,←aJ (f:=dK (P.cellsOf e))];have get:∀(i:Nat) (x:AV) (j:Nat) (u:AV),(A.map (dK (P.cellsOf e)))[i]?=some x→x.cells[j]?=some u→∃v,w.cell? ((a.add (i * P.cellsOf e)).add j)=some v∧bU (nJ w) w dI u v:=fun i x j u hx hu=>by
        rw[aD]at hx;rcases aL i A.length with hil|hil
        ·rw[aB hil]at hx;cases hx;obtain⟨ho,vs,hvs,hc⟩:=hA i hil;rw[hcells _ ho]at hu;obtain⟨v,hv,hr⟩:=hvs.get hu;exact⟨v,hc j v hv,hr⟩
        ·rw[List.getElem?_eq_none hil]at hx;cases hx
       refine .sl (by rw[aJ];omega) (by omega) (fun h=>by cases h) (fun x hx=>?_) (fun i j=>(w.cell? ((a.add (i * P.cellsOf e)).add j)).getD undef) (fun i x j u hx hu=>?_) (fun i x j u hx hu=>?_)
       ·obtain⟨cz,has,rfl⟩:=aX.1 hx;obtain⟨i,hil,rfl⟩:=List.getElem_of_mem has;rw[hcells _ (hA i hil).1];exact⟨(Op.len _ _ (hA i hil).1).trans hwd,Op.one _ _ (hA i hil).1⟩
       ·obtain⟨v,hv,hr⟩:=get i x j u hx hu;rw[hv];exact hr
       ·obtain⟨v,hv,hr⟩:=get i x j u hx hu;have hsp:a.spot=none:=by
         rw[aD]at hx;cases hAi:A[i]? with
         |none=>rw[hAi]at hx;cases hx
         |some cz=>
          rw[hAi]at hx;cases hx;obtain⟨hil,rfl⟩:=aA.1 hAi;have hju:j < A[i].length:=by rw[hcells _ (hA i hil).1]at hu;exact(aA.1 hu).1
          have hli:=Op.len _ _ (hA i hil).1;obtain⟨ho,vs,hvs,hc⟩:=hA 0 (by omega);have hl0:=Op.len _ _ ho;have hv0:0 < vs.length:=by rw[hvs.len];omega
          have:=World.cell?_spot (hc 0 vs[0] (aB hv0));simpa [Addr.add]using this
        obtain⟨b,o,spot⟩:=a;dsimp only at hsp;subst hsp;rw[hv];have e1:((⟨b,o,none⟩:Addr).add (i * P.cellsOf e)).add j=⟨b,o+i * P.cellsOf e+j,none⟩:=by
         rw[sC,sC]
        rw[e1]at hv;exact⟨b,o,rfl,Kg hv,hv⟩
    ·cases h
   ·cases h
  ·rename_i fs ht;obtain⟨ss,hss,rfl⟩:=map_some h;obtain⟨xs,n',_,hxa,hl,hlen,hf⟩:=DataW.trod_struct ht hx;obtain⟨cz,h1,h2⟩:=Jx (cs:=cs) ih fs.toList 0 _ ss hss hl (fun f hm=>by
    obtain⟨j,hj⟩:=aV hm;have hjl:j < xs.length:=by rw[hlen];simpa using(aA.1 hj).1
    refine⟨n',xs[j],by rw[hf j f (by simpa using hj),aB hjl],?_⟩;rcases hlt with h1|⟨h1,h2⟩
    ·exact .inl h1
    ·refine .inr ⟨h1,fun n hn=>h2 n ?_⟩;rw[hxa];unfold DataW.weights;rw[ht];exact lJ (i:=j) (t:=f.type) (d:=xs[j].1) (by rw[aD,hj];rfl) (by rw[aD,aB hjl];rfl) n hn)
   exact⟨cz,by unfold Op;exact h1,by simpa using h2⟩
  ·cases h
def MO:Sh→List AV→AV
 |.st _,cz=>.agg cz
 |_,cz=>cz.headD .any
theorem GT {v:Value}(h:∀cs,v≠.agg cs):v.cells.toList=[v]:=by
 cases v with
 |agg cs=>exact absurd rfl (h cs)
 |_=>rfl
theorem oA {n:Nat}{t:TypeId}{s:Sh}{r:Reach}{b0:Nat}{v:Value}{d:DataW H}{p:List MemPlace}(hs:Fc P n t=some s) (hv:Value.okWide P w r b0 t v) (hd:DataW.Trod enc P w base spare held t v d p) (hlt:ML B P t d) :
  ∃cz,Op B s cz∧bU (nJ w) w dI (MO s cz) v:=by
 obtain⟨fuel,hf⟩:=hd;obtain⟨cz,h1,h2⟩:=Ay (B:=B) n t s hs _ _ _ hf hlt;refine⟨cz,h1,?_⟩;have scal:(∀cs,v≠.agg cs)→∀a,cz=[a]→bU (nJ w) w dI a v:=fun hne a ha=>by
  rw[GT hne,ha]at h2;exact h2.at_ 0 a v rfl rfl
 cases n with
 |zero=>cases hs
 |succ n=>
  unfold Fc at hs
  split at hs
  ·rename_i ht;cases hs;unfold Op at h1;obtain⟨b,rfl⟩:=h1;exact scal (fun cs hc=>by subst hc;simp[Value.okWide,ht,Cell.okWide,Cell.ok]at hv) _ rfl
  ·rename_i k ht;cases hs;unfold Op at h1;obtain⟨b,rfl,_⟩:=h1;exact scal (fun cs hc=>by subst hc;simp[Value.okWide,ht,Cell.okWide,Cell.ok]at hv) _ rfl
  ·rename_i ht;cases hs;unfold Op at h1;obtain⟨b,rfl,_⟩:=h1;exact scal (fun cs hc=>by subst hc;simp[Value.okWide,ht,Cell.okWide,Cell.ok]at hv) _ rfl
  ·rename_i e ht
   split at hs
   ·split at hs
    ·cases hs;unfold Op at h1;obtain⟨b,rfl,_⟩:=h1;exact scal (fun cs hc=>by subst hc;simp[Value.okWide,ht,Cell.okWide,Cell.ok]at hv) _ rfl
    ·cases hs
   ·cases hs
  ·rename_i fs ht;obtain⟨ss,hss,rfl⟩:=map_some hs;simp only[Value.okWide,ht]at hv;obtain⟨cs,rfl,_⟩:=hv;exact .agg (by simpa [Value.cells]using h2.len) fun i x u hx hu=>h2.at_ i x u hx (by simpa [Value.cells]using hu)
  ·cases hs
theorem lB {α:Type}{sz:Nat}{e:Sh}{f:α→AV}{q:α→Prop}(h:∀cz,Op B e cz→∃x:α,dK sz cz=f x∧q x) {cs:List AV}(ho:Op B (.sl sz e) cs):∃L:List α,cs=[.sl sz (bJ f L)]∧L.length≤maxLen∧∀x∈L,q x:=by
 unfold Op at ho;obtain⟨xs,rfl,hl,hx⟩:=ho;have key:∀xs:List AV,(∀x∈xs,x=dK sz x.cells∧Op B e x.cells)→∃L:List α,xs=bJ f L∧∀x∈L,q x:=fun xs=>by
  induction xs with
  |nil=>exact fun _=>⟨[],rfl,fun x hx=>by cases hx⟩
  |cons y ys ih=>
   intro hx;obtain⟨L,rfl,hL⟩:=ih fun x hm=>hx x (aW _ hm)
   obtain⟨e1,e2⟩:=hx y (bD ..);obtain⟨x,hf,hq⟩:=h _ e2;refine⟨x :: L,?_,fun z hz=>?_⟩
   ·show y :: bJ f L=f x :: bJ f L;rw[e1,hf]
   ·rcases List.mem_cons.1 hz with rfl|hz
    ·exact hq
    ·exact hL z hz
 obtain⟨L,rfl,hL⟩:=key xs hx;exact⟨L,rfl,by rwa [cD]at hl,hL⟩
theorem MY {n:Int}(h:(Lit.int .i64 n).wf=true):-9223372036854775808≤n∧n≤9223372036854775807:=by
 simp only[Lit.wf,aO,decide_eq_true_eq]at h;have h1:IntKind.i64.min=-9223372036854775808:=rfl;have h2:IntKind.i64.max=9223372036854775807:=rfl;omega
theorem Ju {f:Nat}{c:dO}(hf:bK P f c) {args:List AV}{vals:Array Value}(hv:bR (nJ w) w dI args vals.toList) (hc:c args [] fun x _=>x=.bl true) (hg:kL (nJ w) w) :
  Calls P f vals w fun e w'=>e=.returned (.bool true)∧Below w.heap.size w w':=by
 refine(hf args [] _ hc w dI (nJ w) vals (oG.door w hg) hv).mono fun e w' ⟨v,x,H',r',pub',he,hx,hvx,_,hfr,_⟩=>?_
 subst he;subst hx;cases hvx;exact⟨rfl,hfr.os,hfr.tape,hfr.output,hfr.size,fun j hj=>(hfr.keep j hj (fun⟨_,_,h,_⟩=>by cases h)).1⟩
end
end Go.Proofs.YtigdiekbiphhmaaGreatDoor
namespace Go.Proofs.YtigdiekbiphhmaaGreatDoor
open Go.RowKit
def C9:Sh:=.st [.str,.str]
def Oc:Sh:=.st [.int .i64,.str,.str,.sl 2 C9]
def zX:Sh:=.st [.str,.str,.int .i64,.int .i64,.int .i64,.str,.str,.str,.int .i64,.int .i64,.st [.str,.int .i64],.sl 4 Oc,.sl 1 .str]
def CY:Sh:=.st [.int .i64,.int .i64,.st [.int .i64,.int .i64,.str],zX]
def DH:Sh:=.st [.str,.str,.int .i64]
def NC:Sh:=.st [.str,.int .i64]
def OE:Sh:=.st [.str,.int .i64,.sl 2 NC]
def Ho:Sh:=.st [.str,.str,.str,.str,.str,.str,.str,.str,.str,.st [.str,.int .i64],.sl 3 OE,.int .i64,.int .i64,.int .i64,.int .i64,.int .i64]
def CN:Sh:=.st [.str,.str,.int .i64]
def uD:Sh:=.st [.sl 3 DH,.sl 17 Ho,.sl 3 CN,.st [.sl 1 (.int .i64),.sl 1 (.int .i64)]]
theorem IP:reachBytes≤140737488355328:=by decide
theorem oJ {s:bH}(h:s.size≤maxLen∧s.size≤reachBytes):fC s:=Nat.le_trans h.2 IP
theorem Jf {B:Nat}{cs:List AV}(h:Op B (.sl 1 (.int .i64)) cs):∃L:List Int,cs=[.sl 1 (bJ dD L)]∧L.length≤maxLen∧∀z∈L,FG z:=
 lB (f:=dD) (q:=FG) (fun cz h=>by
  unfold Op at h;obtain⟨n,rfl,h1⟩:=h;exact⟨n,rfl,MY h1⟩) h
theorem S0 (cz:List AV) (h:Op reachBytes C9 cz):∃x:N6,dK 2 cz=Bu x∧True:=by
 unfold C9 Op at h
 (unfold fM at h;obtain⟨_,_,rfl,h1,h⟩:=h;unfold Op at h1;obtain⟨a0,rfl,w0⟩:=h1)
 (unfold fM at h;obtain⟨_,_,rfl,h1,h⟩:=h;unfold Op at h1;obtain⟨a1,rfl,w1⟩:=h1)
 (unfold fM at h;subst h)
 exact⟨⟨a0,a1⟩,rfl,trivial⟩
theorem Tt (cz:List AV) (h:Op reachBytes Oc cz):∃x:Lr,dK 4 cz=tI x∧True:=by
 unfold Oc Op at h
 (unfold fM at h;obtain⟨_,_,rfl,h1,h⟩:=h;unfold Op at h1;obtain⟨a0,rfl,w0⟩:=h1)
 (unfold fM at h;obtain⟨_,_,rfl,h1,h⟩:=h;unfold Op at h1;obtain⟨a1,rfl,w1⟩:=h1)
 (unfold fM at h;obtain⟨_,_,rfl,h1,h⟩:=h;unfold Op at h1;obtain⟨a2,rfl,w2⟩:=h1)
 unfold fM at h;obtain⟨_,_,rfl,h1,h⟩:=h;obtain⟨L,rfl,hl,hL⟩:=lB S0 h1
 (unfold fM at h;subst h)
 exact⟨⟨a0,a1,a2,L⟩,rfl,trivial⟩
def XT:dR→List AV
 |⟨frm,to,number,kind,ack,deal,text,party,index,day,cur,amt,docs,boxes⟩=>[.str frm,.str to,.i number,.i kind,.i ack,.str deal,.str text,.str party,.i index,.i day,.str cur,.i amt,.sl 4 (bJ tI docs),.sl 1 (bJ .str boxes)]
def Xl (x:dR):Prop:=fC x.frm∧fC x.deal∧fC x.party
theorem Ud (cz:List AV) (h:Op reachBytes zX cz):∃x:dR,cz=XT x∧Xl x:=by
 unfold zX Op at h
 (unfold fM at h;obtain⟨_,_,rfl,h1,h⟩:=h;unfold Op at h1;obtain⟨a0,rfl,w0⟩:=h1)
 (unfold fM at h;obtain⟨_,_,rfl,h1,h⟩:=h;unfold Op at h1;obtain⟨a1,rfl,w1⟩:=h1)
 (unfold fM at h;obtain⟨_,_,rfl,h1,h⟩:=h;unfold Op at h1;obtain⟨a2,rfl,w2⟩:=h1)
 (unfold fM at h;obtain⟨_,_,rfl,h1,h⟩:=h;unfold Op at h1;obtain⟨a3,rfl,w3⟩:=h1)
 (unfold fM at h;obtain⟨_,_,rfl,h1,h⟩:=h;unfold Op at h1;obtain⟨a4,rfl,w4⟩:=h1)
 (unfold fM at h;obtain⟨_,_,rfl,h1,h⟩:=h;unfold Op at h1;obtain⟨a5,rfl,w5⟩:=h1)
 (unfold fM at h;obtain⟨_,_,rfl,h1,h⟩:=h;unfold Op at h1;obtain⟨a6,rfl,w6⟩:=h1)
 (unfold fM at h;obtain⟨_,_,rfl,h1,h⟩:=h;unfold Op at h1;obtain⟨a7,rfl,w7⟩:=h1)
 (unfold fM at h;obtain⟨_,_,rfl,h1,h⟩:=h;unfold Op at h1;obtain⟨a8,rfl,w8⟩:=h1)
 (unfold fM at h;obtain⟨_,_,rfl,h1,h⟩:=h;unfold Op at h1;obtain⟨a9,rfl,w9⟩:=h1)
 unfold fM at h;obtain⟨_,_,rfl,hm,h'⟩:=h;have h:=hm;unfold Op at h
 (unfold fM at h;obtain⟨_,_,rfl,h1,h⟩:=h;unfold Op at h1;obtain⟨b0,rfl,v0⟩:=h1)
 (unfold fM at h;obtain⟨_,_,rfl,h1,h⟩:=h;unfold Op at h1;obtain⟨b1,rfl,v1⟩:=h1)
 (unfold fM at h;subst h)
 have h:=h';unfold fM at h;obtain⟨_,_,rfl,h1,h⟩:=h;obtain⟨L,rfl,hl,hL⟩:=lB Tt h1;unfold fM at h;obtain⟨_,_,rfl,h1,h⟩:=h;obtain⟨B,rfl,hb,hB⟩:=lB (f:=AV.str) (q:=fun _=>True) (fun cz h=>by unfold Op at h;obtain⟨s,rfl,h1,_⟩:=h;exact⟨s,rfl,trivial⟩) h1
 (unfold fM at h;subst h)
 exact⟨⟨a0,a1,a2,a3,a4,a5,a6,a7,a8,a9,b0,b1,L,B⟩,rfl,oJ w0,oJ w5,oJ w7⟩
def Ts (c:kE):Prop:=(fC c.a.deal∧fC c.l.frm∧fC c.l.deal∧fC c.l.party)∧FG c.day
theorem QL (cz:List AV) (h:Op reachBytes CY cz):∃x:kE,dK 19 cz=mT x∧Ts x:=by
 unfold CY Op at h
 (unfold fM at h;obtain⟨_,_,rfl,h1,h⟩:=h;unfold Op at h1;obtain⟨a0,rfl,w0⟩:=h1)
 (unfold fM at h;obtain⟨_,_,rfl,h1,h⟩:=h;unfold Op at h1;obtain⟨a1,rfl,w1⟩:=h1)
 unfold fM at h;obtain⟨_,_,rfl,hm,h'⟩:=h;have h:=hm;unfold Op at h
 (unfold fM at h;obtain⟨_,_,rfl,h1,h⟩:=h;unfold Op at h1;obtain⟨b0,rfl,v0⟩:=h1)
 (unfold fM at h;obtain⟨_,_,rfl,h1,h⟩:=h;unfold Op at h1;obtain⟨b1,rfl,v1⟩:=h1)
 (unfold fM at h;obtain⟨_,_,rfl,h1,h⟩:=h;unfold Op at h1;obtain⟨b2,rfl,v2⟩:=h1)
 (unfold fM at h;subst h)
 have h:=h';unfold fM at h;obtain⟨_,_,rfl,h1,h⟩:=h;obtain⟨x,rfl,g1,g2,g3⟩:=Ud _ h1
 (unfold fM at h;subst h)
 obtain⟨frm,to,number,kind,ack,deal,text,party,index,day,cur,amt,docs,boxes⟩:=x;exact⟨⟨a0,a1,⟨b0,b1,b2⟩,⟨frm,to,number,kind,ack,deal,text,party,index,day,cur,amt,docs,boxes⟩⟩,rfl,⟨⟨oJ v2,g1,g2,g3⟩,MY w1⟩⟩
theorem F7 {cs:List AV}(h:Op reachBytes (.sl 19 CY) cs):∃L:List kE,cs=[.sl 19 (bJ mT L)]∧L.length≤maxLen∧∀a∈L,Ts a:=lB QL h
theorem T6 (cz:List AV) (h:Op reachBytes DH cz):∃x:Gu,dK 3 cz=jP x∧fC x.name:=by
 unfold DH Op at h
 (unfold fM at h;obtain⟨_,_,rfl,h1,h⟩:=h;unfold Op at h1;obtain⟨a0,rfl,w0⟩:=h1)
 (unfold fM at h;obtain⟨_,_,rfl,h1,h⟩:=h;unfold Op at h1;obtain⟨a1,rfl,w1⟩:=h1)
 (unfold fM at h;obtain⟨_,_,rfl,h1,h⟩:=h;unfold Op at h1;obtain⟨a2,rfl,w2⟩:=h1)
 (unfold fM at h;subst h)
 exact⟨⟨a0,a1,a2⟩,rfl,oJ w0⟩
theorem RY (cz:List AV) (h:Op reachBytes CN cz):∃x:Ww,dK 3 cz=kA x∧True:=by
 unfold CN Op at h
 (unfold fM at h;obtain⟨_,_,rfl,h1,h⟩:=h;unfold Op at h1;obtain⟨a0,rfl,w0⟩:=h1)
 (unfold fM at h;obtain⟨_,_,rfl,h1,h⟩:=h;unfold Op at h1;obtain⟨a1,rfl,w1⟩:=h1)
 (unfold fM at h;obtain⟨_,_,rfl,h1,h⟩:=h;unfold Op at h1;obtain⟨a2,rfl,w2⟩:=h1)
 (unfold fM at h;subst h)
 exact⟨⟨a0,a1,a2⟩,rfl,trivial⟩
theorem Tg (cz:List AV) (h:Op reachBytes NC cz):∃x:Yn,dK 2 cz=Vo x∧True:=by
 unfold NC Op at h
 (unfold fM at h;obtain⟨_,_,rfl,h1,h⟩:=h;unfold Op at h1;obtain⟨a0,rfl,w0⟩:=h1)
 (unfold fM at h;obtain⟨_,_,rfl,h1,h⟩:=h;unfold Op at h1;obtain⟨a1,rfl,w1⟩:=h1)
 (unfold fM at h;subst h)
 exact⟨⟨a0,a1⟩,rfl,trivial⟩
theorem TI (cz:List AV) (h:Op reachBytes OE cz):∃x:IO,dK 3 cz=Ga x∧fC x.mark:=by
 unfold OE Op at h
 (unfold fM at h;obtain⟨_,_,rfl,h1,h⟩:=h;unfold Op at h1;obtain⟨a0,rfl,w0⟩:=h1)
 (unfold fM at h;obtain⟨_,_,rfl,h1,h⟩:=h;unfold Op at h1;obtain⟨a1,rfl,w1⟩:=h1)
 unfold fM at h;obtain⟨_,_,rfl,h1,h⟩:=h;obtain⟨L,rfl,hl,hL⟩:=lB Tg h1
 (unfold fM at h;subst h)
 exact⟨⟨a0,a1,L⟩,rfl,oJ w0⟩
def X4 (d:jM):Prop:=d.boxes.length≤maxLen∧(∀b∈d.boxes,fC b.mark)∧fC d.number∧fC d.seller∧fC d.buyer∧fC d.carrier∧fC d.house∧fC d.frm∧fC d.to
theorem R4 (cz:List AV) (h:Op reachBytes Ho cz):∃x:jM,dK 17 cz=iY x∧X4 x:=by
 unfold Ho Op at h
 (unfold fM at h;obtain⟨_,_,rfl,h1,h⟩:=h;unfold Op at h1;obtain⟨a0,rfl,w0⟩:=h1)
 (unfold fM at h;obtain⟨_,_,rfl,h1,h⟩:=h;unfold Op at h1;obtain⟨a1,rfl,w1⟩:=h1)
 (unfold fM at h;obtain⟨_,_,rfl,h1,h⟩:=h;unfold Op at h1;obtain⟨a2,rfl,w2⟩:=h1)
 (unfold fM at h;obtain⟨_,_,rfl,h1,h⟩:=h;unfold Op at h1;obtain⟨a3,rfl,w3⟩:=h1)
 (unfold fM at h;obtain⟨_,_,rfl,h1,h⟩:=h;unfold Op at h1;obtain⟨a4,rfl,w4⟩:=h1)
 (unfold fM at h;obtain⟨_,_,rfl,h1,h⟩:=h;unfold Op at h1;obtain⟨a5,rfl,w5⟩:=h1)
 (unfold fM at h;obtain⟨_,_,rfl,h1,h⟩:=h;unfold Op at h1;obtain⟨a6,rfl,w6⟩:=h1)
 (unfold fM at h;obtain⟨_,_,rfl,h1,h⟩:=h;unfold Op at h1;obtain⟨a7,rfl,w7⟩:=h1)
 (unfold fM at h;obtain⟨_,_,rfl,h1,h⟩:=h;unfold Op at h1;obtain⟨a8,rfl,w8⟩:=h1)
 unfold fM at h;obtain⟨_,_,rfl,hm,h'⟩:=h;have h:=hm;unfold Op at h
 (unfold fM at h;obtain⟨_,_,rfl,h1,h⟩:=h;unfold Op at h1;obtain⟨b0,rfl,v0⟩:=h1)
 (unfold fM at h;obtain⟨_,_,rfl,h1,h⟩:=h;unfold Op at h1;obtain⟨b1,rfl,v1⟩:=h1)
 (unfold fM at h;subst h)
 have h:=h';unfold fM at h;obtain⟨_,_,rfl,h1,h⟩:=h;obtain⟨L,rfl,hl,hL⟩:=lB TI h1
 (unfold fM at h;obtain⟨_,_,rfl,h1,h⟩:=h;unfold Op at h1;obtain⟨c0,rfl,u0⟩:=h1)
 (unfold fM at h;obtain⟨_,_,rfl,h1,h⟩:=h;unfold Op at h1;obtain⟨c1,rfl,u1⟩:=h1)
 (unfold fM at h;obtain⟨_,_,rfl,h1,h⟩:=h;unfold Op at h1;obtain⟨c2,rfl,u2⟩:=h1)
 (unfold fM at h;obtain⟨_,_,rfl,h1,h⟩:=h;unfold Op at h1;obtain⟨c3,rfl,u3⟩:=h1)
 (unfold fM at h;obtain⟨_,_,rfl,h1,h⟩:=h;unfold Op at h1;obtain⟨c4,rfl,u4⟩:=h1)
 (unfold fM at h;subst h)
 exact⟨⟨a0,a1,a2,a3,a4,a5,a6,a7,a8,b0,b1,L,c0,c1,c2,c3,c4⟩,rfl,⟨hl,hL,oJ w0,oJ w1,oJ w2,oJ w3,oJ w5,oJ w7,oJ w8⟩⟩
def YG:iE→List AV
 |⟨parties,deals,funds,rest,holidays⟩=>[.sl 3 (bJ jP parties),.sl 17 (bJ iY deals),.sl 3 (bJ kA funds),.sl 1 (bJ dD rest),.sl 1 (bJ dD holidays)]
theorem Rr (s:iE):.agg (YG s)=Gy s:=by obtain⟨parties,deals,funds,rest,holidays⟩:=s;rfl
theorem E7 (cz:List AV) (h:Op reachBytes uD cz):∃s:iE,cz=YG s∧T3 s:=by
 unfold uD Op at h;unfold fM at h;obtain⟨_,_,rfl,h1,h⟩:=h;obtain⟨P,rfl,hp,hP⟩:=lB T6 h1;unfold fM at h;obtain⟨_,_,rfl,h1,h⟩:=h;obtain⟨D,rfl,hd,hD⟩:=lB R4 h1;unfold fM at h;obtain⟨_,_,rfl,h1,h⟩:=h;obtain⟨F,rfl,hf,hF⟩:=lB RY h1;unfold fM at h;obtain⟨_,_,rfl,hm,h⟩:=h
 (unfold fM at h;subst h)
 have h:=hm;unfold Op at h;unfold fM at h;obtain⟨_,_,rfl,h1,h⟩:=h;obtain⟨R,rfl,hr,hR⟩:=Jf h1;unfold fM at h;obtain⟨_,_,rfl,h1,h⟩:=h;obtain⟨G,rfl,hg,hG⟩:=Jf h1
 (unfold fM at h;subst h)
 exact⟨⟨P,D,F,R,G⟩,rfl,⟨hp,hd,hP,hD⟩⟩
section
open Go.ChangeShapes Go.WideShapes Go.Deep
end
theorem Rb {s:iE}{name:bH}{l:List kE}(h0:T3 s) (h1:name.size≤reachBytes) (h2:l.length≤maxLen) (h3:∀a∈l,Ts a):YA ⟨s,name,l⟩:=⟨⟨h0,Nat.le_trans h1 IP,⟨h2,fun c hc=>(h3 c hc).1⟩⟩,fun o ho=>(h3 o ho).2⟩
theorem Fg:Fc Tryz.prog 9 29=some uD:=by kernel_rfl
theorem Gl:Fc Tryz.prog 9 30=some (.sl 19 CY):=by kernel_rfl
end Go.Proofs.YtigdiekbiphhmaaGreatDoor
namespace Go.Proofs.YtigdiekbiphhmaaGreatDoor
open Go
theorem eC {a b:Bool}(ha:a=true) (hb:b=true):(a && b)=true:=by rw[ha,hb];rfl
theorem Mo {P:bI}{f:FuncId}{fn:Func}{s:ChangeSpec}{c:OpenClaim}(h0:(c.wf (OpenSpec.ofChange s))=true) (h1:(laidOutB P)=true) (h2:(mapsRowed P)=true) (h3:(fn.params.all (P.readableRec ·))=true) (h4:(namedTie P c.named s.vars)=true) (h5:((c.stops == []))=true) (h6:((P.stops == []))=true) (h7:((c.knobs == []))=true) (h8:((P.stopKnobs == []))=true) (h9:((c.inPlace == P.inPlace f))=true) (h10:((c.unfollowed == P.unfollowed f))=true) (h11:((c.recurses == P.recurses f))=true) (h12:((c.named == P.varsNamed f))=true) (h13:((c.maps == (fn.params.toList++s.plain.varTypes P).any (P.mapsRec ·)))=true) (h14:((c.ifaces == (fn.params.toList++s.plain.varTypes P).any (P.ifacesRec ·)))=true) (h15:((c.mapsOut == P.mapsAmong fn.resultTypes.toList))=true) (h16:((c.loops == (fn.params.toList++s.plain.varTypes P).any (P.loopsFrom ·)))=true) (h17:((c.wideKeys == (fn.params.toList++s.plain.varTypes P++fn.resultTypes.toList).any (P.wideKeysFrom ·)))=true) (h18:(s.vars.all (P.varReadable ·))=true) (h19:(fn.resultTypes.all (fun t=>P.readableRec t && decide (t < P.types.size)))=true) (h20:((c.ifacesOut == fn.resultTypes.toList.any (P.ifacesRec ·)))=true) (h21:((c.loopsOut == fn.resultTypes.toList.any (P.loopsFrom ·)))=true) (h22:((c.plainKeys == P.plainKeys))=true) (h23:(c.shortTexts.isNone)=true) (h24:(P.stopsHeard)=true) (h25:(P.mayEnter)=true) (h26:((c.lifted == P.liftsFinal))=true) (h27:((P.make == some c.make))=true) (h28:((c.kinds == (if c.domain.isEmpty then [] else fn.params.toList.map fun t=>match P.underlying t with|some (.int k)=>some k|_=>none)))=true) (h29:((c.pinned == c.pinnedBy))=true) (h30:((c.veiled == (fn.params.toList++s.plain.varTypes P++fn.resultTypes.toList).any (P.veiledRec ·)))=true) (h31:(c.veiledFits P fn.params.toList (fn.params.toList++s.plain.varTypes P++fn.resultTypes.toList))=true):joinedFacts P f fn s c=true:=(eC (eC (eC (eC (eC (eC (eC (eC (eC (eC (eC (eC (eC (eC (eC (eC (eC (eC (eC (eC (eC (eC (eC (eC (eC (eC (eC (eC (eC (eC (eC h0 h1) h2) h3) h4) h5) h6) h7) h8) h9) h10) h11) h12) h13) h14) h15) h16) h17) h18) h19) h20) h21) h22) h23) h24) h25) h26) h27) h28) h29) h30) h31)
theorem I0:laidOutB Tryz.pinned.checked.prog=true:=by kernel_rfl
theorem EF:mapsRowed Tryz.pinned.checked.prog=true:=by kernel_rfl
theorem Fx:Tryz.pinned.checked.prog.stopsHeard=true:=by kernel_rfl
theorem FR:Tryz.pinned.checked.prog.mayEnter=true:=by kernel_rfl
end Go.Proofs.YtigdiekbiphhmaaGreatDoor
end
