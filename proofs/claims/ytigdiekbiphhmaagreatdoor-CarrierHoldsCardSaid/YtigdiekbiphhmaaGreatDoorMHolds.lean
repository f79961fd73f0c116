/-
  Texts of this proof,joined: CYK,CYL,CKHolds,GlobOf.
-/
import Derived.Test.YtigdiekbiphhmaaGreatDoorS8
import Derived.KernelRfl
import Derived.Lib.LaidTab
import Derived.MakeChecks
import Derived.Test.YtigdiekbiphhmaaGreatDoorRows
set_option linter.unusedVariables false
set_option linter.unusedSimpArgs false
namespace Go.Proofs.YtigdiekbiphhmaaGreatDoor
def x7:dA:=⟨145,zr [zs 5 (.box 29 (.t 0)),zs 8 (.box 58 (.t 3)),yb 10 false] (.seq (zr [zs 15 (.call 11 []),yo 16 15] (.cond (.t 16) (zr [yb 10 false] .ret) .skip)) (.seq (.seq (.dreg (.take 0 (yt 17 5 5) (.take 1 (zm 18 1) (.take 3 (zm 20 2) (.take 5 (yt 22 14 8) (.take 6 (zs 23 (.bld [zi,zi,zi,zi,se,se,se,zi,zi,zi,se,se,se,zi,zi,se,zi,sn,sn] [(5,(14,.t 22))])) (.fork (.eff 2 0 true (zs 19 (.bsl 60 19 0 [zi,zi,zi,zi,se,se,se,zi,zi,zi,se,se,se,zi,zi,se,zi,sn,sn] [])) (.fork (.eff 4 1 true (zs 21 (.app 30 30 60 19 240 (.t 19) (.t 20))) (.eff 7 2 true (zs 24 (.bsl 60 19 1 [zi,zi,zi,zi,se,se,se,zi,zi,zi,se,se,se,zi,zi,se,zi,sn,sn] [(0,.t 23)])) (.eff 8 3 true (zs 25 (.app 30 30 60 19 240 (.t 21) (.t 24))) (.eff 9 4 false (zs 26 (.call 12 [.t 17,.t 18,.t 25])) (.phase [0,5] (.take 10 (yo 27 26) .nil)))))) (.eff 7 2 true (zs 24 (.bsl 60 19 1 [zi,zi,zi,zi,se,se,se,zi,zi,zi,se,se,se,zi,zi,se,zi,sn,sn] [(0,.t 23)])) (.eff 4 1 true (zs 21 (.app 30 30 60 19 240 (.t 19) (.t 20))) (.eff 8 3 true (zs 25 (.app 30 30 60 19 240 (.t 21) (.t 24))) (.eff 9 4 false (zs 26 (.call 12 [.t 17,.t 18,.t 25])) (.phase [0,5] (.take 10 (yo 27 26) .nil)))))))) (.eff 7 2 true (zs 24 (.bsl 60 19 1 [zi,zi,zi,zi,se,se,se,zi,zi,zi,se,se,se,zi,zi,se,zi,sn,sn] [(0,.t 23)])) (.eff 2 0 true (zs 19 (.bsl 60 19 0 [zi,zi,zi,zi,se,se,se,zi,zi,zi,se,se,se,zi,zi,se,zi,sn,sn] [])) (.eff 4 1 true (zs 21 (.app 30 30 60 19 240 (.t 19) (.t 20))) (.eff 8 3 true (zs 25 (.app 30 30 60 19 240 (.t 21) (.t 24))) (.eff 9 4 false (zs 26 (.call 12 [.t 17,.t 18,.t 25])) (.phase [0,5] (.take 10 (yo 27 26) .nil))))))))))))) 4 [5,8]) (.cond (.t 27) (zr [yb 10 true] .ret) .skip)) (zr [yt 29 5 5,zm 30 1,zm 31 2,zs 32 (.call 14 [.t 29,.t 30,.t 31]),zm 28 32,yx 33 28 0,yx 34 28 1,zs 12 (.alloc 41 [sn,sn,se,sn,sn,sn]),zm 11 33,ys 6 12 34] (.seq (zr [zm 35 11,zs 36 (.cmn false (.t 35))] (.cond (.t 36) (zr [yb 10 false] .ret) .skip)) (zr [zm 37 11,zs 38 (.call 27 [.t 37]),zm 13 38] (zr [zm 39 11,yt 40 14 8,zm 41 4,zs 42 (.call 18 [.t 39,.t 40,.t 41]),zm 14 42] (.seq (zr [zm 43 14,yl 44 43,yk 45 .gtr 44 1] (.cond (.t 45) (zr [yb 10 false] .ret) .skip)) (.seq (zr [zm 46 14,yl 47 46,yk 48 .eql 47 0] (.cond (.t 48) (zr [zf 49 3 8,zl 50 49,yk 51 .eql 50 4,zm 52 51,gf 53 52 false 3 8,gl 54 52 false 53,gk 55 52 false .eql 54 19,yq 56 52 true 55,zm 57 56,gf 58 57 false 3 8,gl 59 57 false 58,gk 60 57 false .eql 59 23,yq 61 57 true 60,zm 62 61,zh 63 62 false 11,zg 64 62 false (.call 27 [.t 63]),zh 65 62 false 13,gc 66 62 false .eql 64 65,yq 67 62 true 66,zm 10 67] .ret) .skip)) (.seq (.seq (.dreg (.take 0 (zm 68 14) (.take 1 (zs 69 (.iad 14 (.t 68) (.c zi))) (.take 2 (zf 70 5 69) (.take 3 (zl 71 70) (.take 4 (zf 72 5 8) (.take 5 (zl 73 72) (.take 6 (yc 74 .neq 71 73) (.take 7 (zm 75 74) (.take 8 (zh 76 75 false 14) (.take 9 (zg 77 75 false (.iad 14 (.t 76) (.c zi))) (.take 10 (gf 78 75 false 9 77) (.take 11 (gl 79 75 false 78) (.take 12 (zh 80 75 false 4) (.take 13 (gc 81 75 false .neq 79 80) (.take 14 (yq 82 75 true 81) .nil))))))))))))))) 0 [14,8]) (.cond (.t 82) (zr [yb 10 false] .ret) .skip)) (.seq (zr [zm 83 14,zs 84 (.iad 14 (.t 83) (.c zi)),zf 85 3 84,zl 86 85,yk 87 .neq 86 22] (.cond (.t 87) (zr [zm 88 11,zs 89 (.call 27 [.t 88]),zm 90 13,yc 91 .neq 89 90,zm 10 91] .ret) .skip)) (.seq (.dreg (.take 0 (zm 92 11) (.take 2 (zm 94 13) (.eff 1 0 false (zs 93 (.call 27 [.t 92])) (.phase [8,10,17,19,26,28,33,38,45,48] (.take 3 (yc 95 .eql 93 94) (.take 4 (zm 96 95) (.take 5 (zh 97 96 true 14) (.take 6 (zg 98 96 true (.iad 14 (.t 97) (.c zi))) (.take 7 (gf 99 96 true 1 98) (.take 8 (gl 100 96 true 99) (.take 9 (gf 101 96 true 0 8) (.take 10 (gl 102 96 true 101) (.take 11 (gc 103 96 true .eql 100 102) (.take 12 (yr 104 96 103 false) (.take 13 (zm 105 104) (.take 14 (zh 106 105 true 14) (.take 15 (zg 107 105 true (.iad 14 (.t 106) (.c zi))) (.take 16 (gf 108 105 true 8 107) (.take 17 (gl 109 105 true 108) (.take 18 (gf 110 105 true 8 8) (.take 19 (gl 111 105 true 110) (.take 20 (gc 112 105 true .eql 109 111) (.take 21 (yr 113 105 112 false) (.take 22 (zm 114 113) (.take 23 (zh 115 114 true 14) (.take 24 (zg 116 114 true (.iad 14 (.t 115) (.c zi))) (.take 25 (gf 117 114 true 7 116) (.take 26 (gl 118 114 true 117) (.take 27 (gf 119 114 true 7 8) (.take 28 (gl 120 114 true 119) (.take 29 (gc 121 114 true .eql 118 120) (.take 30 (yr 122 114 121 false) (.take 31 (zm 123 122) (.take 32 (gf 124 123 true 3 8) (.take 33 (gl 125 123 true 124) (.take 34 (gk 126 123 true .geq 125 0) (.take 35 (yr 127 123 126 false) (.take 36 (zm 128 127) (.take 37 (gf 129 128 true 3 8) (.take 38 (gl 130 128 true 129) (.take 39 (gk 131 128 true .lss 130 29) (.take 40 (yr 132 128 131 false) (.take 41 (zm 133 132) (.take 42 (zh 134 133 true 14) (.take 43 (zg 135 133 true (.iad 14 (.t 134) (.c zi))) (.take 44 (gf 136 133 true 6 135) (.take 45 (gl 137 133 true 136) (.take 47 (gf 139 133 true 3 8) (.take 48 (gl 140 133 true 139) (.eff 46 0 true (zg 138 133 true (.call 33 [])) (.take 49 (gi 141 133 true 1 138 140) (.more [8,10,17,19,26,28,33,38,45,48,50] (.take 50 (gl 142 133 true 141) (.take 51 (gc 143 133 true .eql 137 142) (.take 52 (yr 144 133 143 false) (.take 53 (zm 10 144) .nil)))))))))))))))))))))))))))))))))))))))))))))))))))))))) 0 [14,8]) .ret))))))))))),[.tmp 10]⟩
end Go.Proofs.YtigdiekbiphhmaaGreatDoor
noncomputable section
namespace Go.Proofs.YtigdiekbiphhmaaGreatDoor
open Go.RowKit
set_option maxHeartbeats 8000000
set_option maxRecDepth 100000
structure To (C:Cr) (l:dE) (day:Int) (r:Cr×List dE):Prop where
 few:r.2.length≤1
 none_:r.2=[]→l.kind=4∨l.kind=19∨l.kind=23∨eQ r.1=eQ C
 some_:∀o∈r.2,o.deal=l.deal∧o.day=day∧(o.kind=22→eQ r.1=eQ C∧o.to=l.frm∧o.index=l.index∧o.party=l.party∧o.text=fL l.kind∧(l.kind=8∨l.kind=20∨l.kind=23∨l.kind=24))∧(o.kind≠22→eQ r.1≠eQ C)
theorem Jt.heard {k:Nat}{s:gZ}{name:bH}{C:Cr}{x:Cs}(h:Jt k s name C x) (l:dE) (day:Int) {L0:List cV}(hp:L0.Perm C.cust):To C l day (gG C l day L0).2:=by
 obtain⟨L1,hp1,he⟩:=B0 h.rel l day hp;rw[he];have hh:=(h.rel.perm hp1.symm).heard fL l day;have ht:eQ { C with cust:=L1 }=eQ C:=KS h.rel.cust.nd hp1.symm;refine⟨hh.few,fun h0=>?_,fun o ho=>?_⟩
 ·rcases hh.none_ h0 with g|g|g|g
  ·exact .inl g
  ·exact .inr (.inl g)
  ·exact .inr (.inr (.inl g))
  ·exact .inr (.inr (.inr (by rw[g,ht])))
 ·obtain⟨g1,g2,g3,g4⟩:=hh.some_ o ho;refine⟨g1,g2,fun hk=>?_,fun hk=>?_⟩
  ·obtain⟨g5,g6⟩:=g3 hk;exact⟨by rw[g5,ht],g6⟩
  ·rw[←ht];exact g4 hk
theorem Pm {a b:List UInt8}(h:kU a=kU b):a=b:=by
 have:=congrArg jK h;rwa [eL,eL]at this
theorem HH (P:bI) (haw:bK P 11 rC) (hfe:bK P 12 A5) (hpl:bK P 14 uP) (hct:bK P 27 Au) (hta:bK P 18 (nP fun _=>True)) (hna:bK P 33 Aa):bM P x7 Wp:=by
 intro args H K hc;obtain⟨⟨s,name,l,x,day⟩,rfl,rfl,hp,hK⟩:=hc;refine⟨cK,?_⟩;dsimp only at hp hK⊢;obtain⟨hf,hd,hday,hbig⟩:=hp
 try dsimp only at hf hd hday hbig
 obtain⟨parties,deals,funds,rest,holidays⟩:=s;obtain⟨frm,to,number,lkind,ack,ldeal,text,party,index,day0,cur,amt,docs,boxes⟩:=x;obtain⟨l2,hl2⟩:∃l2,l2=l++[xI ⟨frm,to,number,lkind,ack,ldeal,text,party,index,day0,cur,amt,docs,boxes⟩]:=⟨_,rfl⟩
 rw[←hl2]at hf;cbv
 (refine ZO haw () trivial ?_;try dsimp only)
 cbv;repeat'((first|refine .o ?_|refine .zl fun zs hzs hzl=>?_|refine And.intro ?_ ?_|fail)<;>cbv)
 all_goals
  obtain rfl:zs=bJ mG l2:=by rw[hl2,bW,cD];exact hzs
  refine eP 2 rfl ?_;cbv;refine cW hfe (⟨⟨parties,deals,funds,rest,holidays⟩,name,l2⟩:xH) [] hf rfl rfl (by decide) rfl rfl rfl rfl rfl ?_;intro b hb;cases b with
  |false=>
   cbv
   (refine .q9 ?_;cbv;exact .inl (.f9 hK))
  |true=>
   have hb:=hb rfl;rw[hl2]at hb;obtain⟨hpk,hz1,hz2,hz3⟩:=Jn hb hd;clear hb;cbv
   all_goals
    refine cW hpl (⟨⟨parties,deals,funds,rest,holidays⟩,name,l⟩:Um) [] hpk rfl rfl (by decide) rfl rfl rfl rfl rfl ?_;intro C hj;dsimp only at hj;have hs:=hpk.s;have hll:=hpk.l;dsimp only at hs hll;have hctx:=hj.ctxOk hs (by omega);have htq:=hj.tqOk (l:=⟨frm,to,number,lkind,ack,ldeal,text,party,index,day0,cur,amt,docs,boxes⟩) (day:=day) (by omega);have hjt:=fun(L0:List cV) (hp:L0.Perm C.cust)=>(hj.take hs ⟨frm,to,number,lkind,ack,ldeal,text,party,index,day0,cur,amt,docs,boxes⟩ day hp).1
    have hhe:=fun(L0:List cV) (hp:L0.Perm C.cust)=>hj.heard ⟨frm,to,number,lkind,ack,ldeal,text,party,index,day0,cur,amt,docs,boxes⟩ day hp
    obtain⟨lP,hlP⟩:∃t,t=eQ C:=⟨_,rfl⟩
    obtain⟨tP,htP⟩:∃t,t=kU (eQ C):=⟨_,rfl⟩
    obtain⟨⟨S,free,⟨c,L⟩,H,D⟩,hx⟩:∃x,x=iV ⟨parties,deals,funds,rest,holidays⟩ name l:=⟨_,rfl⟩
    try dsimp only
    rw[←hx];clear hj hx;obtain⟨name1,parties1,deals1,⟨rc1,rL1⟩,cust1,deliv1⟩:=C;cbv
    (refine eW hct (⟨name1,parties1,deals1,⟨rc1,rL1⟩,cust1,deliv1⟩:Cr) [6,7,8,9,10,11,12,13] hctx ?_;try dsimp only)
    rw[←htP];cbv;refine cW hta (⟨(⟨name1,parties1,deals1,⟨rc1,rL1⟩,cust1,deliv1⟩:Cr),⟨frm,to,number,lkind,ack,ldeal,text,party,index,day0,cur,amt,docs,boxes⟩,day⟩:TQ) [6,7,8,9,10,11,12,13] ⟨trivial,htq⟩ rfl rfl (by decide) rfl rfl rfl rfl rfl ?_;intro L0 hp0;have hj3:=hjt L0 hp0;have hh3:=hhe L0 hp0;obtain⟨r3,hr3⟩:∃r,r=gG (⟨name1,parties1,deals1,⟨rc1,rL1⟩,cust1,deliv1⟩:Cr) ⟨frm,to,number,lkind,ack,ldeal,text,party,index,day0,cur,amt,docs,boxes⟩ day L0:=⟨_,rfl⟩
    try dsimp only
    rw[←hr3]at hj3 hh3⊢;have hc3:=hj3.ctxOk hs (by omega);obtain⟨mv,C3,l3⟩:=r3;dsimp only at hj3 hh3 hc3;obtain⟨hq1,hq2,hq3⟩:=hh3;dsimp only at hq1 hq2 hq3;obtain⟨tQ,htQ⟩:∃t,t=kU (eQ C3):=⟨_,rfl⟩
    have hte:eQ C3=eQ (⟨name1,parties1,deals1,⟨rc1,rL1⟩,cust1,deliv1⟩:Cr)→tQ=tP:=fun h=>by rw[htQ,htP,h]
    have htn:eQ C3≠eQ (⟨name1,parties1,deals1,⟨rc1,rL1⟩,cust1,deliv1⟩:Cr)→¬tQ=tP:=fun h h2=>h (Pm (by rw[←htQ,←htP];exact h2))
    clear hjt hhe hj3 hr3;obtain⟨name3,parties3,deals3,⟨rc3,rL3⟩,cust3,deliv3⟩:=C3;have hl3:l3=[]∨∃o,l3=[o]:=by
     match l3,hq1 with
     |[],_=>exact .inl rfl
     |[o],_=>exact .inr ⟨o,rfl⟩
    rcases hl3 with rfl|⟨o3,rfl⟩
    ·have hee:¬lkind=4→¬lkind=19→¬lkind=23→tQ=tP:=fun g1 g2 g3=>by
      rcases hq2 rfl with g|g|g|g
      ·exact absurd g g1
      ·exact absurd g g2
      ·exact absurd g g3
      ·exact hte g
     clear hq1 hq2 hq3 hte htn;cases mv
     all_goals
      cbv;repeat'((first|refine .n fun h=>?_|refine .y fun h=>?_|refine .mk (fun h=>?_) fun h=>?_|refine .k fun z hz=>?_|fail)<;>cbv)
      all_goals first
      |((refine .q9 ?_;cbv;exact .inl (.f9 hK)))
      |skip
      all_goals
       obtain rfl:=hee (by assumption) (by assumption) (by assumption)
       first
       |((refine eW hct (⟨name3,parties3,deals3,⟨rc3,rL3⟩,cust3,deliv3⟩:Cr) [6,7,8,9,10,11,12,13] hc3 ?_;try dsimp only)
         rw[←htQ];cbv;repeat'((first|refine pA.r ?_|refine pW.r ?_|(first|fail))<;>cbv))
       |((refine eW hct (⟨name3,parties3,deals3,⟨rc3,rL3⟩,cust3,deliv3⟩:Cr) [6,7,8,9,10,15,16,13] hc3 ?_;try dsimp only)
         rw[←htQ];cbv;repeat'((first|refine pA.r ?_|refine pW.r ?_|(first|fail))<;>cbv))
       |((refine eW hct (⟨name3,parties3,deals3,⟨rc3,rL3⟩,cust3,deliv3⟩:Cr) [6,7,8,9,10,14,15,13] hc3 ?_;try dsimp only)
         rw[←htQ];cbv;repeat'((first|refine pA.r ?_|refine pW.r ?_|(first|fail))<;>cbv))
       all_goals first
       |((refine .q9 ?_;cbv;exact .inl (.f9 hK)))
       |fail
    ·obtain⟨g1,g2,g3,g4⟩:=hq3 o3 (bD ..);clear hq1 hq2 hq3;obtain⟨ofrm,oto,onumber,okind,oack,odeal,otext,oparty,oindex,oday,ocur,oamt,odocs,oboxes⟩:=o3;dsimp only at g1 g2 g3 g4;subst g1 g2;by_cases hk22:okind=22
     ·obtain⟨g5,g6,g7,g8,g9,g10⟩:=g3 hk22;subst hk22;obtain rfl:=hte g5;subst g6 g7 g8 g9;clear g3 g4 g5 hte htn;cases mv
      all_goals
       cbv;repeat'((first|refine pA.r ?_|refine pW.r ?_|refine ZX.i0 ?_|(first|refine .n fun h=>?_|refine .y fun h=>?_|refine .k fun z hz=>?_|fail))<;>cbv)
       first
       |((refine eW hct (⟨name3,parties3,deals3,⟨rc3,rL3⟩,cust3,deliv3⟩:Cr) [6,7,8,9,10,11,12,13] hc3 ?_;try dsimp only)
         rw[←htQ];cbv;repeat'((first|refine pA.r ?_|refine pW.r ?_|refine ZX.i0 ?_|(first|refine .y fun h=>?_|fail))<;>cbv))
       |((refine eW hct (⟨name3,parties3,deals3,⟨rc3,rL3⟩,cust3,deliv3⟩:Cr) [6,7,8,9,10,15,16,13] hc3 ?_;try dsimp only)
         rw[←htQ];cbv;repeat'((first|refine pA.r ?_|refine pW.r ?_|refine ZX.i0 ?_|(first|refine .y fun h=>?_|fail))<;>cbv))
       |((refine eW hct (⟨name3,parties3,deals3,⟨rc3,rL3⟩,cust3,deliv3⟩:Cr) [6,7,8,9,10,14,15,13] hc3 ?_;try dsimp only)
         rw[←htQ];cbv;repeat'((first|refine pA.r ?_|refine pW.r ?_|refine ZX.i0 ?_|(first|fail))<;>cbv))
       (refine ZO hna () trivial ?_;try dsimp only)
       cbv;repeat'((first|refine pA.r ?_|refine pW.r ?_|refine ZX.i0 ?_|(first|fail))<;>cbv)
       rcases g10 with rfl|rfl|rfl|rfl
       all_goals
        first
        |refine⟨8,.str _,rfl,rfl,?_⟩
        |refine⟨20,.str _,rfl,rfl,?_⟩
        |refine⟨23,.str _,rfl,rfl,?_⟩
        |refine⟨24,.str _,rfl,rfl,?_⟩
        cbv;repeat'((first|refine pA.r ?_|refine pW.r ?_|refine ZX.i0 ?_|(first|fail))<;>cbv)
        all_goals first
        |((refine .q9 ?_;cbv;exact .inl (.f9 hK)))
        |fail
     ·have hne:=htn (g4 hk22);clear g3 g4 hte htn;cases mv
      all_goals
       cbv;repeat'((first|refine pA.r ?_|refine pW.r ?_|refine ZX.i0 ?_|(first|refine .n fun h=>?_|refine .y fun h=>?_|refine .k fun z hz=>?_|fail))<;>cbv)
       all_goals
        first
        |((refine eW hct (⟨name3,parties3,deals3,⟨rc3,rL3⟩,cust3,deliv3⟩:Cr) [6,7,8,9,10,11,12,13] hc3 ?_;try dsimp only)
          rw[←htQ];cbv;repeat'((first|refine pA.r ?_|refine pW.r ?_|refine ZX.i0 ?_|(first|refine .mk (fun h=>?_) fun h=>?_|fail))<;>cbv))
        |((refine eW hct (⟨name3,parties3,deals3,⟨rc3,rL3⟩,cust3,deliv3⟩:Cr) [6,7,8,9,10,15,16,13] hc3 ?_;try dsimp only)
          rw[←htQ];cbv;repeat'((first|refine pA.r ?_|refine pW.r ?_|refine ZX.i0 ?_|(first|refine .mk (fun h=>?_) fun h=>?_|fail))<;>cbv))
        |((refine eW hct (⟨name3,parties3,deals3,⟨rc3,rL3⟩,cust3,deliv3⟩:Cr) [6,7,8,9,10,14,15,13] hc3 ?_;try dsimp only)
          rw[←htQ];cbv;repeat'((first|refine pA.r ?_|refine pW.r ?_|refine ZX.i0 ?_|(first|fail))<;>cbv))
        all_goals first
        |(exfalso;exact hne (by assumption))
        |((refine .q9 ?_;cbv;exact .inl (.f9 hK)))
        |fail
theorem OW:bK Tryz.prog 7 Wp:=bL (by kernel_rfl) (HH _ wV OT A6 DS uY Gx)
end Go.Proofs.YtigdiekbiphhmaaGreatDoor
namespace Go.Proofs.YtigdiekbiphhmaaGreatDoor
open Go Go.Lib
open Go.RowKit
def oD {H:Type}:Value→DataW H
 |.int k z=>.lit (.int k z)
 |.string s=>.lit (.string s.data.toList)
 |_=>.nil
theorem oC {H:Type}{enc:TypeId×Value→H}{P:bI}{w:World}{base:Nat}{sp:Nat→Bool}{held:Bool}{fuel:Nat}{t e:TypeId}{n:Nat}{cs vs:List Value}{p:List MemPlace}(ht:P.underlying t=some (.array n e)) (he:(∃k,P.underlying e=some (.int k))∨P.underlying e=some .string) (hce:P.cellsOf e=1) (hct:P.cellsOf t=n) (h:DataW.trod enc P w base sp held fuel t cs=some (.agg (vs.map oD),p)):cs=vs:=by
 cases fuel with
 |zero=>simp[DataW.trod]at h
 |succ fuel=>
  simp only[DataW.trod,ht,hce,hct,Nat.mul_one]at h
  split at h
  · rename_i hl
    obtain⟨xs,hm,hx⟩:=Option.map_eq_some_iff.1 h;have hxs:xs.map (·.1)=vs.map oD:=by simpa using congrArg Prod.fst hx
    have hxl:=mapM_length hm;have hzl:=congrArg List.length hxs;simp at hxl hzl;apply List.ext_getElem?;intro i;by_cases hi:i < n
    · obtain⟨b,hb,hf⟩:=mapM_at hm i i (by simp[hi])
      have hvi:vs[i]?=some vs[i]:=aB (by omega);have h2:=congrArg (·[i]?) hxs;simp only[aD,hb,hvi,Option.map_some,bE]at h2;rw[hvi];rcases he with ⟨k,he⟩|he
      · obtain⟨z,hc,h3,_⟩:=DataW.trod_int he hf
        have h1:=congrArg (·[0]?) hc;simp[List.getElem?_take,List.getElem?_drop]at h1;rw[h1];rw[h3]at h2;cases hv:vs[i]<;>simp[hv,oD]at h2<;>simp[h2]
      · obtain⟨s,hc,h3,_⟩:=DataW.trod_string he hf
        have h1:=congrArg (·[0]?) hc;simp[List.getElem?_take,List.getElem?_drop]at h1;rw[h1];rw[h3]at h2;cases hv:vs[i]<;>simp only[hv,oD,DataW.lit.injEq,Lit.string.injEq,reduceCtorEq]at h2;rw[ByteArray.ext (Array.toList_inj.1 h2)]
    · rw[List.getElem?_eq_none (by omega),List.getElem?_eq_none (by omega)]
  · cases h
theorem bX {P:bI}{W:World}{name:String}{vs:List Value}{d:DataW Unit}{rest:List (String×DataW Unit)}{g:Nat}{t e:TypeId}{n:Nat}(he:(∃k,P.underlying e=some (.int k))∨P.underlying e=some .string) (h:laidMet P ((name,d) :: rest) W) (hg:P.globalNamed name=some g:=by kernel_rfl) (hty:(P.globals[g]?).map (·.type)=some t:=by kernel_rfl) (ht:P.underlying t=some (.array n e):=by kernel_rfl) (hce:P.cellsOf e=1:=by kernel_rfl) (hct:P.cellsOf t=n:=by kernel_rfl) (hd:d=.agg (vs.map oD):=by rfl):∃t' f,W.heap[g]?=some (.cells vs.toArray t' f):=by
 obtain⟨ps,⟨g',t',cs,fuel,p,q,hg',ht',hvar,hdd,_,_⟩,_⟩:=h;cases hg.symm.trans hg';cases hty.symm.trans ht';subst hd;have hcs:=oC ht he hce hct hdd;unfold World.var? at hvar;simp only[hg,Option.bind_some]at hvar
 split at hvar
 · rename_i c t2 f hb
   exact⟨t2,f,by rw[hb,←hcs];simp at hvar;rw[hvar]⟩
 · cases hvar
theorem dT {w:World}{g:Nat}{vs:List Value}(h:∃t f,w.heap[g]?=some (.cells vs.toArray t f)):∀i u,vs[i]?=some u→i < mQ w g∧w.cell? ⟨g,i,none⟩=some u∧xQ w g=some vs.length:=fun i u hu=>by
 obtain⟨t,f,hb⟩:=h;have hi:=(aA.1 hu).1;exact⟨by simpa [mQ,hb]using hi,by simp[World.cell?,hb,hu],by simp[xQ,hb]⟩
theorem eA {P:bI}{W:World}{x:String×DataW Unit}{rest:List (String×DataW Unit)}(h:laidMet P (x :: rest) W):laidMet P rest W:=by
 obtain⟨ps,⟨g,t,cs,fuel,p,q,_,_,_,_,hr,rfl⟩,hnd,hc⟩:=h;exact⟨q,hr,(List.nodup_append.1 hnd).2.1,fun b off hm=>hc b off (List.mem_append_right _ hm)⟩
theorem vE {W : World} (h : laidMetH Tryz.prog [("math/bits.deBruijn32tab", Rows.laid_math_bits_deBruijn32tab), ("math/bits.deBruijn64tab", Rows.laid_math_bits_deBruijn64tab), ("internal/strconv.uint64pow10", Rows.laid_internal_strconv_uint64pow10), ("supercargo/post.kinds", Rows.laid_supercargo_post_kinds), ("supercargo/carrier.stateWords", Rows.laid_supercargo_carrier_stateWords), ("supercargo/carrier.originalWords", Rows.laid_supercargo_carrier_originalWords)] W) : jT (mQ W) W := by
 rw[MakeChecks.laidMetH_plain _ _ _ (by kernel_rfl)]at h;have h0:=bX (vs:=glob 5) (g:=5) (t:=292) (e:=5) (n:=32) (.inl ⟨.u8,by kernel_rfl⟩) h;replace h:=eA h;have h1:=bX (vs:=glob 6) (g:=6) (t:=293) (e:=5) (n:=64) (.inl ⟨.u8,by kernel_rfl⟩) h;replace h:=eA h;have h2:=bX (vs:=glob 4) (g:=4) (t:=281) (e:=260) (n:=20) (.inl ⟨.u64,by kernel_rfl⟩) h;replace h:=eA h;have h3:=bX (vs:=glob 2) (g:=2) (t:=272) (e:=9) (n:=29) (.inr (by kernel_rfl)) h;replace h:=eA h;have h4:=bX (vs:=glob 0) (g:=0) (t:=159) (e:=9) (n:=5) (.inr (by kernel_rfl)) h;replace h:=eA h;have h5:=bX (vs:=glob 1) (g:=1) (t:=159) (e:=9) (n:=5) (.inr (by kernel_rfl)) h;refine⟨fun g i u hu=>?_,fun g hg=>?_⟩
 ·by_cases e0:g=5
  ·subst e0;exact dT h0 i u hu
  by_cases e1:g=6
  ·subst e1;exact dT h1 i u hu
  by_cases e2:g=4
  ·subst e2;exact dT h2 i u hu
  by_cases e3:g=2
  ·subst e3;exact dT h3 i u hu
  by_cases e4:g=0
  ·subst e4;exact dT h4 i u hu
  by_cases e5:g=1
  ·subst e5;exact dT h5 i u hu
  have e:glob g=[]:=by unfold glob;split<;>first|rfl|contradiction
  rw[e]at hu;cases hu
 ·exact absurd hg (by unfold IL;simp)
end Go.Proofs.YtigdiekbiphhmaaGreatDoor
end
