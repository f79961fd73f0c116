/-
  Texts of this proof,joined: CYQ,CKSame,GlobOf.
-/
import Derived.Test.YtigdiekbiphhmaaGreatDoorS8
import Derived.KernelRfl
import Derived.Lib.LaidTab
import Derived.MakeChecks
import Derived.Test.YtigdiekbiphhmaaGreatDoorRows
set_option linter.unusedVariables false
set_option linter.unusedSimpArgs false
namespace Go.Proofs.YtigdiekbiphhmaaGreatDoor
def x9:dA:=⟨106,zr [zs 4 (.box 29 (.t 0)),yb 8 false] (.seq (zr [zs 13 (.call 11 []),yo 14 13] (.cond (.t 14) (zr [yb 8 false] .ret) .skip)) (.seq (zr [yt 15 5 4,zm 16 1,zm 17 2,zs 18 (.call 12 [.t 15,.t 16,.t 17]),yo 19 18,zm 20 19,zh 21 20 false 3,ge 22 20 false 21,gk 23 20 false .gtr 22 40,yq 24 20 true 23] (.cond (.t 24) (zr [yb 8 true] .ret) .skip)) (zr [yt 26 5 4,zm 27 1,zm 28 2,zs 29 (.call 14 [.t 26,.t 27,.t 28]),zm 25 29,yx 30 25 0,yx 31 25 1,zs 10 (.alloc 41 [sn,sn,se,sn,sn,sn]),zm 9 30,ys 6 10 31] (zr [zm 32 1,yt 33 5 4,zs 34 (.call 21 [.t 32,.t 33]),zm 11 34] (.seq (zr [zm 35 9,zs 36 (.cmn false (.t 35)),zm 37 36,zh 38 37 false 11,zg 39 37 false (.cmn false (.t 38)),yq 40 37 true 39] (.cond (.t 40) (zr [yb 8 false] .ret) .skip)) (.seq (zr [yn 12 0] (.block 0 (.loop (.seq (zr [zm 41 12,zm 42 2,yl 43 42,yc 44 .lss 41 43] (.cond (.t 44) .skip (.exit 0))) (.seq (.block 1 (.seq (zr [zm 47 2,zm 48 12,yi 49 19 47 48,zf 50 0 49,zl 51 50] (.block 2 (zr [yk 53 .eql 51 0,zm 52 53] (.cond (.t 52) (.dreg (.take 0 (zm 54 11) (.take 1 (zm 55 2) (.take 2 (zm 56 12) (.take 3 (yi 57 19 55 56) (.take 4 (zf 58 2 57) (.take 5 (yt 59 3 58) (.take 6 (zm 60 2) (.take 7 (zm 61 12) (.take 8 (yi 62 19 60 61) (.take 9 (zf 63 1 62) (.take 10 (zl 64 63) (.eff 11 0 false (zs 65 (.call 23 [.t 54,.t 59,.t 64])) (.phase [5,10] .nil))))))))))))) 0 [2]) (zr [yk 67 .eql 51 1,zm 66 67] (.cond (.t 66) (.dreg (.take 0 (zm 68 11) (.take 1 (zm 69 2) (.take 2 (zm 70 12) (.take 3 (yi 71 19 69 70) (.take 4 (zf 72 5 71) (.take 5 (yt 73 14 72) (.take 6 (zm 74 2) (.take 7 (zm 75 12) (.take 8 (yi 76 19 74 75) (.take 9 (zf 77 1 76) (.take 10 (zl 78 77) (.eff 11 0 false (zs 79 (.call 18 [.t 68,.t 73,.t 78])) (.phase [5,10] .nil))))))))))))) 0 [2]) .skip)))))) (zr [zm 80 12,zm 81 3,yl 82 81,yc 83 .lss 80 82,zm 84 83,zh 85 84 true 11,zh 86 84 true 3,zh 87 84 true 12,gi 88 84 true 1 86 87,gl 89 84 true 88,zg 90 84 true (.call 24 [.t 85,.t 89]),ge 91 84 true 90,gk 92 84 true .neq 91 0,yr 93 84 92 false] (.cond (.t 93) (zr [yb 8 false] .ret) .skip)))) (.reg [zm 45 12,yp 46 45,zm 12 46])))))) (zr [zm 94 9,zs 95 (.call 27 [.t 94]),zm 96 11,zs 97 (.call 27 [.t 96]),yc 98 .eql 95 97,zm 99 98,zh 100 99 true 9,zg 101 99 true (.call 22 [.t 100]),zh 102 99 true 11,zg 103 99 true (.call 22 [.t 102]),zg 104 99 true (.call 29 [.t 101,.t 103]),yr 105 99 104 false,zm 8 105] .ret))))))),[.tmp 8]⟩
end Go.Proofs.YtigdiekbiphhmaaGreatDoor
noncomputable section
namespace Go.Proofs.YtigdiekbiphhmaaGreatDoor
open Go.RowKit
set_option maxHeartbeats 8000000
set_option maxRecDepth 100000
structure Ys where
 s:gZ
 name:bH
 l:List iB
 ticks:List Int
structure YY (q:Ys):Prop where
 f:CU ⟨q.s,q.name,q.l⟩
 d:∀o∈q.l,sQ o.day
def YA:dL:=spec (fun q:Ys=>[F5 q.s,.str q.name,.sl 19 (bJ mG q.l),.sl 1 (bJ dZ q.ticks)]) (fun _=>[]) YY (fun _=>.bl true) fun _=>[]
theorem FP (P:bI) (haw:bK P 11 rC) (hfe:bK P 12 A5) (hpl:bK P 14 uP) (hn:bK P 21 uH) (hac:bK P 23 (uQ fun _=>True)) (hta:bK P 18 (nP fun _=>True)) (hti:bK P 24 vY) (hct:bK P 27 Au) (hde:bK P 22 I7) (hsa:bK P 29 G8):bM P x9 YA:=by
 intro args H K hc;obtain⟨⟨s,name,l,ticks⟩,rfl,rfl,hp,hK⟩:=hc;refine⟨cK,?_⟩;dsimp only at hp hK⊢;obtain⟨hf,hd⟩:=hp
 try dsimp only at hf hd
 obtain⟨parties,deals,funds,rest,holidays⟩:=s;obtain⟨nt,hnt⟩:∃n:Nat,n=ticks.length:=⟨_,rfl⟩
 cbv
 (refine ZO haw () trivial ?_;try dsimp only)
 cbv;refine cW hfe (⟨⟨parties,deals,funds,rest,holidays⟩,name,l⟩:xH) [] hf rfl rfl (by decide) rfl rfl rfl rfl rfl ?_;intro b hb;cases b with
 |false=>
  cbv
  (refine .q9 ?_;cbv;exact .inl (.f9 hK))
 |true=>
  have hok:=TU (hb rfl) hd;have hll:=hok.l;dsimp only at hll;have hs:=hok.s;have hlo:=hok.o;dsimp only at hs hlo;have hjn:=Jt.new (name:=name) hs;obtain⟨⟨name1,parties1,deals1,⟨rc1,rL1⟩,cust1,deliv1⟩,hC0⟩:∃C,C=KN (gZ.su ⟨parties,deals,funds,rest,holidays⟩) name:=⟨_,rfl⟩
  obtain⟨x0,hx0⟩:∃x,x=BM (gZ.su ⟨parties,deals,funds,rest,holidays⟩) name:=⟨_,rfl⟩
  rw[←hC0,←hx0]at hjn;cbv;repeat'((first|refine .mk (fun h=>?_) fun h=>?_|refine .k fun z hz=>?_|fail)<;>cbv)
  all_goals first
  |((refine .q9 ?_;cbv;exact .inl (.f9 hK)))
  |skip
  refine cW hpl (⟨⟨parties,deals,funds,rest,holidays⟩,name,l⟩:Um) [] hok rfl rfl (by decide) rfl rfl rfl rfl rfl ?_;intro C hj;dsimp only at hj;have hctx:=hj.ctxOk hs (by omega);have htt:=hj.text;have hdel:=hj.rel.del;have hD:=hj.xb.D;obtain⟨⟨S,free,⟨c,L⟩,H,D⟩,hx⟩:∃x,x=iV ⟨parties,deals,funds,rest,holidays⟩ name l:=⟨_,rfl⟩
  try dsimp only
  rw[←hx]at hj htt hdel hD⊢;obtain⟨tP,htP⟩:∃t,t=kU (eQ C):=⟨_,rfl⟩
  obtain⟨nameA,partiesA,dealsA,⟨rcA,rLA⟩,custA,delivA⟩:=C;dsimp only at hdel hD;subst hdel;cbv
  (refine BB hn ((name,⟨parties,deals,funds,rest,holidays⟩):bH×gZ) hs ?_;try dsimp only)
  rw[←hC0];cbv;refine iL (Gh.sel (st':=⟨[(2,.sl 19 (bJ mG l)),(3,.sl 1 (bJ dZ ticks)),(9,.ptr 1 0),(11,.ptr 10 0),(12,.i 0)],[.blk 29 [.sl 3 (bJ mP parties),.sl 17 (bJ lD deals),.sl 3 (bJ mT funds),.sl 1 (bJ dZ rest),.sl 1 (bJ dZ holidays)],.blk 118 [.str (⟨nameA,partiesA,dealsA,⟨rcA,rLA⟩,custA,delivA⟩:Cr).name,.hd 2,.ph 3,.ptr 4 0,.ptr 6 0,.hd 8],.map 70 (bJ iK (⟨nameA,partiesA,dealsA,⟨rcA,rLA⟩,custA,delivA⟩:Cr).parties),.pool 116 (bJ gM (⟨nameA,partiesA,dealsA,⟨rcA,rLA⟩,custA,delivA⟩:Cr).deals) [],.blk 122 [.str (⟨nameA,partiesA,dealsA,⟨rcA,rLA⟩,custA,delivA⟩:Cr).reg.carrier,.ph 5],.pool 120 (bJ fM (⟨nameA,partiesA,dealsA,⟨rcA,rLA⟩,custA,delivA⟩:Cr).reg.bills) [],.blk 174 [.ph 7],.pool 172 (bJ gE (⟨nameA,partiesA,dealsA,⟨rcA,rLA⟩,custA,delivA⟩:Cr).cust) [],.tip 77 5 (bJ dP (⟨nameA,partiesA,dealsA,⟨rcA,rLA⟩,custA,delivA⟩:Cr).deliv),.blk 41 [.sl 1 (bJ dZ S),.sl 1 (bJ sX free),.str c,.sl 11 (bJ jF L),.sl 5 (bJ dP H),.sl 5 (bJ dP delivA)],.blk 118 [.str (⟨name1,parties1,deals1,⟨rc1,rL1⟩,cust1,deliv1⟩:Cr).name,.hd 11,.ph 12,.ptr 13 0,.ptr 15 0,.hd 17],.map 70 (bJ iK (⟨name1,parties1,deals1,⟨rc1,rL1⟩,cust1,deliv1⟩:Cr).parties),.pool 116 (bJ gM (⟨name1,parties1,deals1,⟨rc1,rL1⟩,cust1,deliv1⟩:Cr).deals) [],.blk 122 [.str (⟨name1,parties1,deals1,⟨rc1,rL1⟩,cust1,deliv1⟩:Cr).reg.carrier,.ph 14],.pool 120 (bJ fM (⟨name1,parties1,deals1,⟨rc1,rL1⟩,cust1,deliv1⟩:Cr).reg.bills) [],.blk 174 [.ph 16],.pool 172 (bJ gE (⟨name1,parties1,deals1,⟨rc1,rL1⟩,cust1,deliv1⟩:Cr).cust) [],.tip 77 5 (bJ dP (⟨name1,parties1,deals1,⟨rc1,rL1⟩,cust1,deliv1⟩:Cr).deliv)]⟩) [0,1,2,3,4,5,6,7,8,9,10,11,12,13,14,15,16,17] (by repeat'(first|exact trivial|refine⟨.inl rfl,?_⟩|refine⟨.inr rfl,?_⟩)) rfl (by decide) rfl rfl) ?_;refine bU [] (fun p:{ p:Nat×Cr // p.1≤l.length∧Jt p.1 ⟨parties,deals,funds,rest,holidays⟩ name p.2 (iV ⟨parties,deals,funds,rest,holidays⟩ name (l.take p.1)) }=>[(12,.i (nI p.1.1))]) (fun p=>[.blk 29 [.sl 3 (bJ mP parties),.sl 17 (bJ lD deals),.sl 3 (bJ mT funds),.sl 1 (bJ dZ rest),.sl 1 (bJ dZ holidays)],.blk 118 [.str (⟨nameA,partiesA,dealsA,⟨rcA,rLA⟩,custA,delivA⟩:Cr).name,.hd 2,.ph 3,.ptr 4 0,.ptr 6 0,.hd 8],.map 70 (bJ iK (⟨nameA,partiesA,dealsA,⟨rcA,rLA⟩,custA,delivA⟩:Cr).parties),.pool 116 (bJ gM (⟨nameA,partiesA,dealsA,⟨rcA,rLA⟩,custA,delivA⟩:Cr).deals) [],.blk 122 [.str (⟨nameA,partiesA,dealsA,⟨rcA,rLA⟩,custA,delivA⟩:Cr).reg.carrier,.ph 5],.pool 120 (bJ fM (⟨nameA,partiesA,dealsA,⟨rcA,rLA⟩,custA,delivA⟩:Cr).reg.bills) [],.blk 174 [.ph 7],.pool 172 (bJ gE (⟨nameA,partiesA,dealsA,⟨rcA,rLA⟩,custA,delivA⟩:Cr).cust) [],.tip 77 5 (bJ dP (⟨nameA,partiesA,dealsA,⟨rcA,rLA⟩,custA,delivA⟩:Cr).deliv),.blk 41 [.sl 1 (bJ dZ S),.sl 1 (bJ sX free),.str c,.sl 11 (bJ jF L),.sl 5 (bJ dP H),.sl 5 (bJ dP delivA)],.blk 118 [.str p.1.2.name,.hd 11,.ph 12,.ptr 13 0,.ptr 15 0,.hd 17],.map 70 (bJ iK p.1.2.parties),.pool 116 (bJ gM p.1.2.deals) [],.blk 122 [.str p.1.2.reg.carrier,.ph 14],.pool 120 (bJ fM p.1.2.reg.bills) [],.blk 174 [.ph 16],.pool 172 (bJ gE p.1.2.cust) [],.tip 77 5 (bJ dP p.1.2.deliv)]) (fun p=>fO 41 p.1.1) ⟨(0,⟨name1,parties1,deals1,⟨rc1,rL1⟩,cust1,deliv1⟩),aI _,by rw[show iV ⟨parties,deals,funds,rest,holidays⟩ name (l.take 0)=x0 from hx0.symm];exact hjn⟩ ?_;rintro ⟨⟨k,⟨name2,parties2,deals2,⟨rc2,rL2⟩,cust2,deliv2⟩⟩,hk,hj2⟩;dsimp only at hk hj2⊢;rcases aL k l.length with hks|hks
  rotate_left
  ·have hkn:k=l.length:=by omega
   rw[show l.take k=l by rw[hkn];exact List.take_length,←hx]at hj2;have hctx2:=hj2.ctxOk hs (by omega);have htP2:tP=kU (eQ (⟨name2,parties2,deals2,⟨rc2,rL2⟩,cust2,deliv2⟩:Cr)):=by rw[htP,htt,hj2.text]
   have hdel2:=hj2.rel.del;dsimp only at hdel2;subst hdel2;have hdl:deliv2.length≤100000:=by omega
   clear hj hj2 hjn hx hx0 htt;cbv;repeat'((first|refine pA.r ?_|refine pW.r ?_|(first|refine .n fun h=>?_|refine .k fun z hz=>?_|fail))<;>cbv)
   repeat'(first
    |((refine eW hct (⟨nameA,partiesA,dealsA,⟨rcA,rLA⟩,custA,deliv2⟩:Cr) [1,2,3,4,5,6,7,8] hctx ?_;try dsimp only)
      rw[←htP];cbv;repeat'((first|refine pA.r ?_|refine pW.r ?_|(first|fail))<;>cbv))
    |((refine eW hct (⟨name2,parties2,deals2,⟨rc2,rL2⟩,cust2,deliv2⟩:Cr) [10,11,12,13,14,15,16,17] hctx2 ?_;try dsimp only)
      rw[←htP2];cbv;repeat'((first|refine pA.r ?_|refine pW.r ?_|(first|fail))<;>cbv))
    |((refine eW hde (⟨nameA,partiesA,dealsA,⟨rcA,rLA⟩,custA,deliv2⟩:Cr) [1,2,3,4,5,6,7,8] (by dsimp only;omega) ?_;try dsimp only)
      cbv;repeat'((first|refine pA.r ?_|refine pW.r ?_|(first|fail))<;>cbv))
    |((refine eW hde (⟨name2,parties2,deals2,⟨rc2,rL2⟩,cust2,deliv2⟩:Cr) [10,11,12,13,14,15,16,17] (by dsimp only;omega) ?_;try dsimp only)
      cbv;repeat'((first|refine pA.r ?_|refine pW.r ?_|(first|fail))<;>cbv))
    |((refine ZO hsa deliv2 hdl ?_;try dsimp only)
      cbv;repeat'((first|refine pA.r ?_|refine pW.r ?_|(first|fail))<;>cbv)))
   all_goals first
   |((refine .q9 ?_;cbv;exact .inl (.f9 hK)))
   |fail
  obtain⟨o,ho⟩:=cJ hks;have hoo:=hlo o (aC ho);have hps:=Lo (s:=⟨parties,deals,funds,rest,holidays⟩) (name:=name) ho;obtain⟨okind,oday,⟨ak,an,adeal⟩,⟨frm,to,number,lkind,ack,ldeal,text,party,index,day0,cur,amt,docs,boxes⟩⟩:=o;by_cases k0:okind=0
  ·subst k0;have hj3:=(hj2.act hs ak adeal oday).1;rw[show (kJ eU (gZ.su ⟨parties,deals,funds,rest,holidays⟩) name (iV ⟨parties,deals,funds,rest,holidays⟩ name (l.take k)) ak adeal oday).1=iV ⟨parties,deals,funds,rest,holidays⟩ name (l.take (k+1)) from hps.symm]at hj3;have hcr:=hj2.crOk (by omega);obtain⟨⟨C3,ls3,e3⟩,hr3⟩:∃r,r=lE eU (⟨name2,parties2,deals2,⟨rc2,rL2⟩,cust2,deliv2⟩:Cr) ak adeal oday:=⟨_,rfl⟩
   rw[←hr3]at hj3;dsimp only at hj3;obtain⟨name3,parties3,deals3,⟨rc3,rL3⟩,cust3,deliv3⟩:=C3;cbv;repeat'((first|refine .e ?_|refine .y fun h=>?_|refine .k fun z hz=>?_|fail)<;>cbv)
   all_goals
    (refine eW hac (⟨(⟨name2,parties2,deals2,⟨rc2,rL2⟩,cust2,deliv2⟩:Cr),ak,an,adeal,oday⟩:CQ) [10,11,12,13,14,15,16,17] ⟨trivial,hcr,hoo.day⟩ ?_;try dsimp only)
    rw[←hr3];cbv;repeat'((first|refine .mk (fun h=>?_) fun h=>?_|refine .k fun z hz=>?_|fail)<;>cbv)
   all_goals first
   |(refine cM bQ bQ fun ix tk hix htk=>?_
     cbv
     (refine eW hti (((⟨name3,parties3,deals3,⟨rc3,rL3⟩,cust3,deliv3⟩:Cr),tk):Cr×Int) [10,11,12,13,14,15,16,17] trivial ?_;try dsimp only)
     cbv;repeat'((first|refine .y fun h=>?_|refine .k fun z hz=>?_|fail)<;>cbv))
   |skip
   all_goals
    obtain rfl:z=nI (k+1):=bQ;exact bN ⟨(k+1,⟨name3,parties3,deals3,⟨rc3,rL3⟩,cust3,deliv3⟩),hks,hj3⟩ (bO (by omega))
  ·by_cases k1:okind=1
   ·subst k1;have hjt:=fun(L0:List cV) (hp:L0.Perm cust2)=>(hj2.take hs ⟨frm,to,number,lkind,ack,ldeal,text,party,index,day0,cur,amt,docs,boxes⟩ oday hp).1
    rw[show (eX fL (gZ.su ⟨parties,deals,funds,rest,holidays⟩) name (iV ⟨parties,deals,funds,rest,holidays⟩ name (l.take k)) ⟨frm,to,number,lkind,ack,ldeal,text,party,index,day0,cur,amt,docs,boxes⟩ oday).1=iV ⟨parties,deals,funds,rest,holidays⟩ name (l.take (k+1)) from (hps.trans ((aE (show ¬(1:Int)=0 by decide)).trans (aF rfl))).symm]at hjt;have htq:=hj2.tqOk (l:=⟨frm,to,number,lkind,ack,ldeal,text,party,index,day0,cur,amt,docs,boxes⟩) (day:=oday) (by omega);cbv;repeat'((first|refine .e ?_|refine .n fun h=>?_|refine .y fun h=>?_|refine .k fun z hz=>?_|fail)<;>cbv)
    all_goals
     refine cW hta (⟨(⟨name2,parties2,deals2,⟨rc2,rL2⟩,cust2,deliv2⟩:Cr),⟨frm,to,number,lkind,ack,ldeal,text,party,index,day0,cur,amt,docs,boxes⟩,oday⟩:TQ) [10,11,12,13,14,15,16,17] ⟨trivial,htq⟩ rfl rfl (by decide) rfl rfl rfl rfl rfl ?_;intro L0 hp0;have hj3:=hjt L0 hp0;obtain⟨⟨mv,C3,ls3⟩,hr3⟩:∃r,r=gG (⟨name2,parties2,deals2,⟨rc2,rL2⟩,cust2,deliv2⟩:Cr) ⟨frm,to,number,lkind,ack,ldeal,text,party,index,day0,cur,amt,docs,boxes⟩ oday L0:=⟨_,rfl⟩
     try dsimp only
     rw[←hr3]at hj3⊢;dsimp only at hj3;obtain⟨name3,parties3,deals3,⟨rc3,rL3⟩,cust3,deliv3⟩:=C3;cases mv with
     |false=>
      cbv;repeat'((first|refine .mk (fun h=>?_) fun h=>?_|refine .k fun z hz=>?_|fail)<;>cbv)
      all_goals first
      |(refine cM bQ bQ fun ix tk hix htk=>?_
        cbv
        (refine eW hti (((⟨name3,parties3,deals3,⟨rc3,rL3⟩,cust3,deliv3⟩:Cr),tk):Cr×Int) [10,11,12,13,14,15,16,17] trivial ?_;try dsimp only)
        cbv;repeat'((first|refine .y fun h=>?_|refine .k fun z hz=>?_|fail)<;>cbv))
      |skip
      all_goals
       obtain rfl:z=nI (k+1):=bQ;exact bN ⟨(k+1,⟨name3,parties3,deals3,⟨rc3,rL3⟩,cust3,deliv3⟩),hks,hj3⟩ (bO (by omega))
     |true=>
      cbv;repeat'((first|refine .mk (fun h=>?_) fun h=>?_|refine .k fun z hz=>?_|fail)<;>cbv)
      all_goals first
      |(refine cM bQ bQ fun ix tk hix htk=>?_
        cbv
        (refine eW hti (((⟨name3,parties3,deals3,⟨rc3,rL3⟩,cust3,deliv3⟩:Cr),tk):Cr×Int) [10,11,12,13,14,18,19,17] trivial ?_;try dsimp only)
        cbv;repeat'((first|refine .y fun h=>?_|refine .k fun z hz=>?_|fail)<;>cbv))
      |skip
      all_goals
       obtain rfl:z=nI (k+1):=bQ;refine dW (Gh.sel (st':=⟨[(2,.sl 19 (bJ mG l)),(3,.sl 1 (bJ dZ ticks)),(9,.ptr 1 0),(11,.ptr 10 0),(12,.i (nI (k+1)))],[.blk 29 [.sl 3 (bJ mP parties),.sl 17 (bJ lD deals),.sl 3 (bJ mT funds),.sl 1 (bJ dZ rest),.sl 1 (bJ dZ holidays)],.blk 118 [.str (⟨nameA,partiesA,dealsA,⟨rcA,rLA⟩,custA,delivA⟩:Cr).name,.hd 2,.ph 3,.ptr 4 0,.ptr 6 0,.hd 8],.map 70 (bJ iK (⟨nameA,partiesA,dealsA,⟨rcA,rLA⟩,custA,delivA⟩:Cr).parties),.pool 116 (bJ gM (⟨nameA,partiesA,dealsA,⟨rcA,rLA⟩,custA,delivA⟩:Cr).deals) [],.blk 122 [.str (⟨nameA,partiesA,dealsA,⟨rcA,rLA⟩,custA,delivA⟩:Cr).reg.carrier,.ph 5],.pool 120 (bJ fM (⟨nameA,partiesA,dealsA,⟨rcA,rLA⟩,custA,delivA⟩:Cr).reg.bills) [],.blk 174 [.ph 7],.pool 172 (bJ gE (⟨nameA,partiesA,dealsA,⟨rcA,rLA⟩,custA,delivA⟩:Cr).cust) [],.tip 77 5 (bJ dP (⟨nameA,partiesA,dealsA,⟨rcA,rLA⟩,custA,delivA⟩:Cr).deliv),.blk 41 [.sl 1 (bJ dZ S),.sl 1 (bJ sX free),.str c,.sl 11 (bJ jF L),.sl 5 (bJ dP H),.sl 5 (bJ dP delivA)],.blk 118 [.str (⟨name3,parties3,deals3,⟨rc3,rL3⟩,cust3,deliv3⟩:Cr).name,.hd 11,.ph 12,.ptr 13 0,.ptr 15 0,.hd 17],.map 70 (bJ iK (⟨name3,parties3,deals3,⟨rc3,rL3⟩,cust3,deliv3⟩:Cr).parties),.pool 116 (bJ gM (⟨name3,parties3,deals3,⟨rc3,rL3⟩,cust3,deliv3⟩:Cr).deals) [],.blk 122 [.str (⟨name3,parties3,deals3,⟨rc3,rL3⟩,cust3,deliv3⟩:Cr).reg.carrier,.ph 14],.pool 120 (bJ fM (⟨name3,parties3,deals3,⟨rc3,rL3⟩,cust3,deliv3⟩:Cr).reg.bills) [],.blk 174 [.ph 16],.pool 172 (bJ gE (⟨name3,parties3,deals3,⟨rc3,rL3⟩,cust3,deliv3⟩:Cr).cust) [],.tip 77 5 (bJ dP (⟨name3,parties3,deals3,⟨rc3,rL3⟩,cust3,deliv3⟩:Cr).deliv)]⟩) [0,1,2,3,4,5,6,7,8,9,10,11,12,13,14,18,19,17] (by repeat'(first|exact trivial|refine⟨.inl rfl,?_⟩|refine⟨.inr rfl,?_⟩)) rfl (by decide) rfl rfl) ?_;exact bN ⟨(k+1,⟨name3,parties3,deals3,⟨rc3,rL3⟩,cust3,deliv3⟩),hks,hj3⟩ (bO (by omega))
   ·have hj3:=hj2.succ;rw[show iV ⟨parties,deals,funds,rest,holidays⟩ name (l.take k)=iV ⟨parties,deals,funds,rest,holidays⟩ name (l.take (k+1)) from (hps.trans ((aE k0).trans (aE k1))).symm]at hj3;cbv;repeat'((first|refine .e ?_|refine .n fun h=>?_|refine .y fun h=>?_|refine .mk (fun h=>?_) fun h=>?_|refine .k fun z hz=>?_|fail)<;>cbv)
    all_goals first|(exfalso;((try simp only[vn]at *)<;>omega))|skip
    all_goals first
    |(refine cM bQ bQ fun ix tk hix htk=>?_
      cbv
      (refine eW hti (((⟨name2,parties2,deals2,⟨rc2,rL2⟩,cust2,deliv2⟩:Cr),tk):Cr×Int) [10,11,12,13,14,15,16,17] trivial ?_;try dsimp only)
      cbv;repeat'((first|refine .y fun h=>?_|refine .k fun z hz=>?_|fail)<;>cbv))
    |skip
    all_goals
     obtain rfl:z=nI (k+1):=bQ;exact bN ⟨(k+1,⟨name2,parties2,deals2,⟨rc2,rL2⟩,cust2,deliv2⟩),hks,hj3⟩ (bO (by omega))
theorem KJ:bK Tryz.prog 9 YA:=bL (by kernel_rfl) (FP _ wV OT A6 A1 GP uY Dm DS Oy Mp)
end Go.Proofs.YtigdiekbiphhmaaGreatDoor
namespace Go.Proofs.YtigdiekbiphhmaaGreatDoor
open Go Go.Lib
open Go.RowKit
def oD {H:Type}:Value→DataW H
 |.int k z=>.lit (.int k z)
 |.string s=>.lit (.string s.data.toList)
 |_=>.nil
theorem oC {H:Type}{enc:TypeId×Value→H}{P:bI}{w:World}{base:Nat}{sp:Nat→Bool}{held:Bool}{fuel:Nat}{t e:TypeId}{n:Nat}{cs vs:List Value}{p:List MemPlace}(ht:P.underlying t=some (.array n e)) (he:(∃k,P.underlying e=some (.int k))∨P.underlying e=some .string) (hce:P.cellsOf e=1) (hct:P.cellsOf t=n) (h:DataW.trod enc P w base sp held fuel t cs=some (.agg (vs.map oD),p)):cs=vs:=by
 cases fuel with
 |zero=>simp[DataW.trod]at h
 |succ fuel=>
  simp only[DataW.trod,ht,hce,hct,Nat.mul_one]at h
  split at h
  · rename_i hl
    obtain⟨xs,hm,hx⟩:=Option.map_eq_some_iff.1 h;have hxs:xs.map (·.1)=vs.map oD:=by simpa using congrArg Prod.fst hx
    have hxl:=mapM_length hm;have hzl:=congrArg List.length hxs;simp at hxl hzl;apply List.ext_getElem?;intro i;by_cases hi:i < n
    · obtain⟨b,hb,hf⟩:=mapM_at hm i i (by simp[hi])
      have hvi:vs[i]?=some vs[i]:=aB (by omega);have h2:=congrArg (·[i]?) hxs;simp only[aD,hb,hvi,Option.map_some,bE]at h2;rw[hvi];rcases he with ⟨k,he⟩|he
      · obtain⟨z,hc,h3,_⟩:=DataW.trod_int he hf
        have h1:=congrArg (·[0]?) hc;simp[List.getElem?_take,List.getElem?_drop]at h1;rw[h1];rw[h3]at h2;cases hv:vs[i]<;>simp[hv,oD]at h2<;>simp[h2]
      · obtain⟨s,hc,h3,_⟩:=DataW.trod_string he hf
        have h1:=congrArg (·[0]?) hc;simp[List.getElem?_take,List.getElem?_drop]at h1;rw[h1];rw[h3]at h2;cases hv:vs[i]<;>simp only[hv,oD,DataW.lit.injEq,Lit.string.injEq,reduceCtorEq]at h2;rw[ByteArray.ext (Array.toList_inj.1 h2)]
    · rw[List.getElem?_eq_none (by omega),List.getElem?_eq_none (by omega)]
  · cases h
theorem bX {P:bI}{W:World}{name:String}{vs:List Value}{d:DataW Unit}{rest:List (String×DataW Unit)}{g:Nat}{t e:TypeId}{n:Nat}(he:(∃k,P.underlying e=some (.int k))∨P.underlying e=some .string) (h:laidMet P ((name,d) :: rest) W) (hg:P.globalNamed name=some g:=by kernel_rfl) (hty:(P.globals[g]?).map (·.type)=some t:=by kernel_rfl) (ht:P.underlying t=some (.array n e):=by kernel_rfl) (hce:P.cellsOf e=1:=by kernel_rfl) (hct:P.cellsOf t=n:=by kernel_rfl) (hd:d=.agg (vs.map oD):=by rfl):∃t' f,W.heap[g]?=some (.cells vs.toArray t' f):=by
 obtain⟨ps,⟨g',t',cs,fuel,p,q,hg',ht',hvar,hdd,_,_⟩,_⟩:=h;cases hg.symm.trans hg';cases hty.symm.trans ht';subst hd;have hcs:=oC ht he hce hct hdd;unfold World.var? at hvar;simp only[hg,Option.bind_some]at hvar
 split at hvar
 · rename_i c t2 f hb
   exact⟨t2,f,by rw[hb,←hcs];simp at hvar;rw[hvar]⟩
 · cases hvar
theorem dT {w:World}{g:Nat}{vs:List Value}(h:∃t f,w.heap[g]?=some (.cells vs.toArray t f)):∀i u,vs[i]?=some u→i < mQ w g∧w.cell? ⟨g,i,none⟩=some u∧xQ w g=some vs.length:=fun i u hu=>by
 obtain⟨t,f,hb⟩:=h;have hi:=(aA.1 hu).1;exact⟨by simpa [mQ,hb]using hi,by simp[World.cell?,hb,hu],by simp[xQ,hb]⟩
theorem eA {P:bI}{W:World}{x:String×DataW Unit}{rest:List (String×DataW Unit)}(h:laidMet P (x :: rest) W):laidMet P rest W:=by
 obtain⟨ps,⟨g,t,cs,fuel,p,q,_,_,_,_,hr,rfl⟩,hnd,hc⟩:=h;exact⟨q,hr,(List.nodup_append.1 hnd).2.1,fun b off hm=>hc b off (List.mem_append_right _ hm)⟩
theorem vE {W : World} (h : laidMetH Tryz.prog [("math/bits.deBruijn32tab", Rows.laid_math_bits_deBruijn32tab), ("math/bits.deBruijn64tab", Rows.laid_math_bits_deBruijn64tab), ("internal/strconv.uint64pow10", Rows.laid_internal_strconv_uint64pow10), ("supercargo/post.kinds", Rows.laid_supercargo_post_kinds), ("supercargo/carrier.stateWords", Rows.laid_supercargo_carrier_stateWords), ("supercargo/carrier.originalWords", Rows.laid_supercargo_carrier_originalWords)] W) : jT (mQ W) W := by
 rw[MakeChecks.laidMetH_plain _ _ _ (by kernel_rfl)]at h;have h0:=bX (vs:=glob 5) (g:=5) (t:=292) (e:=5) (n:=32) (.inl ⟨.u8,by kernel_rfl⟩) h;replace h:=eA h;have h1:=bX (vs:=glob 6) (g:=6) (t:=293) (e:=5) (n:=64) (.inl ⟨.u8,by kernel_rfl⟩) h;replace h:=eA h;have h2:=bX (vs:=glob 4) (g:=4) (t:=281) (e:=260) (n:=20) (.inl ⟨.u64,by kernel_rfl⟩) h;replace h:=eA h;have h3:=bX (vs:=glob 2) (g:=2) (t:=272) (e:=9) (n:=29) (.inr (by kernel_rfl)) h;replace h:=eA h;have h4:=bX (vs:=glob 0) (g:=0) (t:=159) (e:=9) (n:=5) (.inr (by kernel_rfl)) h;replace h:=eA h;have h5:=bX (vs:=glob 1) (g:=1) (t:=159) (e:=9) (n:=5) (.inr (by kernel_rfl)) h;refine⟨fun g i u hu=>?_,fun g hg=>?_⟩
 ·by_cases e0:g=5
  ·subst e0;exact dT h0 i u hu
  by_cases e1:g=6
  ·subst e1;exact dT h1 i u hu
  by_cases e2:g=4
  ·subst e2;exact dT h2 i u hu
  by_cases e3:g=2
  ·subst e3;exact dT h3 i u hu
  by_cases e4:g=0
  ·subst e4;exact dT h4 i u hu
  by_cases e5:g=1
  ·subst e5;exact dT h5 i u hu
  have e:glob g=[]:=by unfold glob;split<;>first|rfl|contradiction
  rw[e]at hu;cases hu
 ·exact absurd hg (by unfold IL;simp)
end Go.Proofs.YtigdiekbiphhmaaGreatDoor
end
