/-
  Texts of this proof,joined: CYT,CKKeeps,GlobOf.
-/
import Derived.Test.YtigdiekbiphhmaaGreatDoorK8
import Derived.KernelRfl
import Derived.Lib.LaidTab
import Derived.MakeChecks
import Derived.Test.YtigdiekbiphhmaaGreatDoorRows
set_option linter.unusedVariables false
set_option linter.unusedSimpArgs false
namespace Go.Proofs.YtigdiekbiphhmaaGreatDoor
def Z9:cW:=⟨201,zr [zs 3 (.box 29 (.t 0)),yb 6 false] (.seq (zr [zs 21 (.call 11 []),yo 22 21] (.cond (.t 22) (zr [yb 6 false] .ret) .skip)) (.seq (zr [yt 23 5 3,zm 24 1,zm 25 2,zs 26 (.call 12 [.t 23,.t 24,.t 25]),yo 27 26] (.cond (.t 27) (zr [yb 6 true] .ret) .skip)) (zr [yt 29 5 3,zm 30 1,zm 31 2,zs 32 (.call 14 [.t 29,.t 30,.t 31]),zm 28 32,yx 33 28 0,yx 34 28 1,zs 8 (.alloc 41 [sn,sn,se,sn,sn,sn]),zm 7 33,ys 6 8 34] (.seq (zr [zm 35 7,zs 36 (.cmn false (.t 35))] (.cond (.t 36) (zr [yb 6 false] .ret) .skip)) (zr [zm 37 7,zs 38 (.call 15 [.t 37]),zm 39 7,zs 40 (.call 34 [.t 39]),zm 9 38,zm 10 40] (.seq (.seq (.dreg (.take 0 (zm 41 9) (.take 1 (zs 42 (.cmn false (.t 41))) (.take 2 (zm 43 42) (.take 3 (zh 44 43 false 10) (.take 4 (zg 45 43 false (.cmn false (.t 44))) (.take 5 (yq 46 43 true 45) (.take 6 (zm 47 46) (.take 7 (zh 48 47 false 9) (.take 9 (gf 50 47 false 2 8) (.take 10 (zg 51 47 false (.ld true 2 (.t 50))) (.eff 8 0 true (zg 49 47 false (.call 35 [.t 48])) (.phase [10] (.eff 11 0 false (zg 52 47 false (.call 36 [.t 51])) (.phase [10] (.eff 12 0 false (zg 53 47 false (.call 19 [.t 49,.t 52])) (.phase [10,19] (.take 13 (go 54 47 false 53) (.take 14 (yq 55 47 true 54) (.take 15 (zm 56 55) (.take 16 (zh 57 56 false 10) (.take 18 (gf 59 56 false 4 8) (.take 19 (gl 60 56 false 59) (.eff 17 0 true (zg 58 56 false (.call 38 [.t 57])) (.eff 20 0 false (zg 61 56 false (.call 39 [.t 60])) (.phase [10,19] (.eff 21 0 false (zg 62 56 false (.call 37 [.t 58,.t 61])) (.phase [10,19] (.take 22 (go 63 56 false 62) (.take 23 (yq 64 56 true 63) .nil))))))))))))))))))))))))))))) 0 [8]) (.cond (.t 64) (zr [yb 6 false] .ret) .skip)) (zr [zm 65 7,zs 66 (.call 27 [.t 65]),zm 11 66] (zr [zm 67 10,zs 68 (.call 38 [.t 67]),zm 12 68] (.seq (zr [yn 13 0] (.block 0 (.loop (.seq (zr [zm 69 13,zm 70 12,yl 71 70,yc 72 .lss 69 71] (.cond (.t 72) .skip (.exit 0))) (.seq (.block 1 (.seq (.seq (.dreg (.take 0 (zm 75 10) (.take 1 (zm 76 12) (.take 2 (zm 77 13) (.take 3 (yi 78 1 76 77) (.take 4 (zl 79 78) (.take 6 (zf 81 4 8) (.take 7 (zl 82 81) (.take 8 (zm 83 12) (.take 9 (zm 84 13) (.take 10 (yi 85 1 83 84) (.take 11 (zl 86 85) (.eff 5 0 true (zs 80 (.call 40 [.t 75,.t 79])) (.eff 12 0 false (zs 87 (.call 41 [.t 82,.t 86])) (.phase [4,7,11] (.eff 13 0 false (zs 88 (.call 29 [.t 80,.t 87])) (.phase [4,7,11] (.take 14 (yo 89 88) .nil))))))))))))))))) 0 [12,8]) (.cond (.t 89) (zr [yb 6 false] .ret) .skip)) (zr [zm 91 10,zm 92 12,zm 93 13,yi 94 1 92 93,zl 95 94,zs 96 (.call 42 [.t 91,.t 95]),zm 90 96,yx 97 90 0,yx 98 90 1,yx 99 90 2,zm 14 97,zm 15 98,zm 16 99] (.reg [zm 100 10,zm 101 12,zm 102 13,yi 103 1 101 102,zl 104 103,zm 105 14,zs 106 (.bld [se,se,se,se,zi] [(0,(1,.t 104)),(1,(1,.t 105)),(2,(1,.c (.str ⟨#[101,108,115,101,119,104,101,114,101]⟩))),(3,(1,.c (.str ⟨#[115,101,97]⟩))),(4,(1,.c (.int .i64 1048576)))]),zs 107 (.call 43 [.t 100,.t 106])])))) (.reg [zm 73 13,yp 74 73,zm 13 74])))))) (.seq (zr [yn 17 0] (.block 2 (.loop (.seq (zr [zm 108 17,zf 109 2 8,zf 110 1 109,zl 111 110,yl 112 111,yc 113 .lss 108 112] (.cond (.t 113) .skip (.exit 2))) (.seq (.block 3 (zr [zf 116 2 8,zf 117 1 116,zl 118 117,zm 119 17,yi 120 11 118 119,yt 121 11 120,zs 18 (.alloc 104 [se,se,se,se,se,sn,sn,zi,.bl false,zi,sn]),ys 11 18 121] (zr [zm 122 9,zf 123 0 18,zf 124 0 123,zl 125 124,zs 126 (.call 16 [.t 122,.t 125]),zm 19 126] (.seq (.seq (.dreg (.take 0 (zm 127 19) (.take 1 (yl 128 127) (.take 2 (yk 129 .neq 128 3) (.take 3 (zm 130 129) (.take 4 (zh 131 130 false 9) (.take 5 (gf 132 130 false 0 18) (.take 6 (gf 133 130 false 0 132) (.take 7 (gl 134 130 false 133) (.take 9 (gf 136 130 false 9 18) (.take 10 (gl 137 130 false 136) (.eff 8 0 true (zg 135 130 false (.call 26 [.t 131,.t 134])) (.take 11 (gc 138 130 false .neq 135 137) (.take 12 (yq 139 130 true 138) .nil))))))))))))) 0 [19,18]) (.cond (.t 139) (zr [yb 6 false] .ret) .skip)) (zr [yn 20 0] (.block 4 (.loop (.seq (zr [zm 140 20,yk 141 .lss 140 3] (.cond (.t 141) .skip (.exit 4))) (.seq (.block 5 (.seq (.seq (.dreg (.take 0 (zm 144 19) (.take 1 (zm 145 20) (.take 2 (yi 146 4 144 145) (.take 3 (zf 147 2 146) (.take 4 (zl 148 147) (.take 5 (zf 149 10 18) (.take 6 (zl 150 149) (.take 7 (zm 151 20) (.take 8 (yi 152 3 150 151) (.take 9 (zf 153 0 152) (.take 10 (zl 154 153) (.take 11 (yc 155 .neq 148 154) (.take 12 (zm 156 155) (.take 13 (zh 157 156 false 19) (.take 14 (zh 158 156 false 20) (.take 15 (gi 159 156 false 4 157 158) (.take 16 (gf 160 156 false 3 159) (.take 17 (gl 161 156 false 160) (.take 18 (gf 162 156 false 10 18) (.take 19 (gl 163 156 false 162) (.take 20 (zh 164 156 false 20) (.take 21 (gi 165 156 false 3 163 164) (.take 22 (gf 166 156 false 1 165) (.take 23 (gl 167 156 false 166) (.take 24 (gc 168 156 false .neq 161 167) (.take 25 (yq 169 156 true 168) (.take 26 (zm 170 169) (.take 27 (zh 171 170 false 9) (.take 28 (gf 172 170 false 0 18) (.take 29 (gf 173 170 false 0 172) (.take 30 (gl 174 170 false 173) (.take 31 (zh 175 170 false 20) (.take 33 (gf 177 170 false 10 18) (.take 34 (gl 178 170 false 177) (.take 35 (zh 179 170 false 20) (.take 36 (gi 180 170 false 3 178 179) (.take 37 (gf 181 170 false 2 180) (.take 38 (gl 182 170 false 181) (.eff 32 0 true (zg 176 170 false (.call 45 [.t 171,.t 174,.t 175])) (.eff 39 0 false (zg 183 170 false (.call 44 [.t 176,.t 182])) (.phase [4,6,10,17,19,23,30,34,38] (.take 40 (go 184 170 false 183) (.take 41 (yq 185 170 true 184) .nil))))))))))))))))))))))))))))))))))))))))))) 0 [19,18]) (.cond (.t 185) (zr [yb 6 false] .ret) .skip)) (.dreg (.take 0 (zm 186 9) (.take 1 (zf 187 0 18) (.take 2 (zf 188 0 187) (.take 3 (zl 189 188) (.take 4 (zm 190 20) (.take 5 (zm 191 19) (.take 6 (zm 192 20) (.take 7 (yi 193 4 191 192) (.take 8 (zf 194 3 193) (.take 9 (zl 195 194) (.eff 10 0 false (zs 196 (.call 46 [.t 186,.t 189,.t 190,.t 195])) (.phase [3,9] .nil)))))))))))) 0 [18,19]))) (.reg [zm 142 20,yp 143 142,zm 20 143])))))))))) (.reg [zm 114 17,yp 115 114,zm 17 115])))))) (zr [zm 197 7,zs 198 (.call 27 [.t 197]),zm 199 11,yc 200 .eql 198 199,zm 6 200] .ret))))))))))),[.tmp 6]⟩
end Go.Proofs.YtigdiekbiphhmaaGreatDoor
noncomputable section
namespace Go.Proofs.YtigdiekbiphhmaaGreatDoor
open Go.RowKit
set_option maxHeartbeats 8000000
set_option maxRecDepth 100000
theorem CP (P:bI) (haw:bK P 11 A7) (hfe:bK P 12 HO) (hpl:bK P 14 C2) (hct:bK P 27 GV) (hre:bK P 15 OL) (hcu:bK P 34 Pk) (hbi:bK P 35 DB) (hrb:bK P 36 DX) (hsm:bK P 19 Mz) (hbx:bK P 38 CH) (hrx:bK P 39 zD) (htx:bK P 37 HE) (hhi:bK P 40 Mn) (how:bK P 41 EX) (hsa:bK P 29 G2) (hno:bK P 42 Re) (hha:bK P 43 E1) (hor:bK P 16 oV) (hst:bK P 26 Ij) (hch:bK P 45 HH) (hcs:bK P 44 CA) (hlo:bK P 46 IX):bM P Z9 Zd:=by
 intro args H K hc;obtain⟨⟨s,name,l⟩,rfl,rfl,hp,hK⟩:=hc;refine⟨cL,?_⟩;dsimp only at hp hK⊢;obtain⟨hf,hd⟩:=hp
 try dsimp only at hf hd
 obtain⟨pt,dq,fq,rest,holidays⟩:=s;cbv
 (refine bX haw () trivial ?_;try dsimp only)
 cbv;refine eB hfe (⟨⟨pt,dq,fq,rest,holidays⟩,name,l⟩:AW) [] hf rfl rfl (by decide) rfl rfl rfl rfl rfl ?_;intro b hb;cases b with
 |false=>
  cbv
  (refine .q9 ?_;cbv;exact .inl (.f9 hK))
 |true=>
  have hok:=UD (hb rfl) hd;have hll:=hok.l;dsimp only at hll;have hs:=hok.s;dsimp only at hs;cbv;refine eB hpl (⟨⟨pt,dq,fq,rest,holidays⟩,name,l⟩:YO) [] hok rfl rfl (by decide) rfl rfl rfl rfl rfl ?_;intro C hj;dsimp only at hj;have hinv:=hj.inv;have hreg:=hj.rel.reg;have hcst:=hj.rel.cust;have hxH:=hj.xb.H;have hcu0:=hj.pb.cu;have hctx:=hj.ctxOk hs (by omega);obtain⟨x,hx⟩:∃x,x=Ab ⟨pt,dq,fq,rest,holidays⟩ name l:=⟨_,rfl⟩
  try dsimp only
  rw[←hx]at hj hreg hcst hxH⊢;obtain⟨na,pa,da,⟨rq,rl⟩,ca,va⟩:=C;obtain⟨S,free,xreg,H,D⟩:=x;dsimp only at hinv hreg hcst hxH hcu0;subst hreg;obtain⟨tP,htP⟩:∃t,t=lV (OI (⟨na,pa,da,⟨rq,rl⟩,ca,va⟩:Cr)):=⟨_,rfl⟩
  have hall:=hinv.inB (by omega);have hfew:=hinv.few;have hnd:=hinv.nd;dsimp only at hall hfew hnd;have hHl:H.length≤100000:=by omega
  clear hj hx;cbv;refine eB hre (⟨na,pa,da,⟨rq,rl⟩,ca,va⟩:Cr) [1,2,3,4,5,6,7,8] ⟨hfew,hall,hnd⟩ rfl rfl (by decide) rfl rfl rfl rfl rfl ?_;intro L1 hp1;dsimp only at hp1;cbv;refine eB hcu (⟨na,pa,da,⟨rq,rl⟩,ca,va⟩:Cr) [1,2,3,4,5,6,7,8] hcu0 rfl rfl (by decide) rfl rfl rfl rfl rfl ?_;intro L2 hp2;dsimp only at hp2;have hk1:=QQ.start (k:=l.length) (c:=rq) hinv hp1;have hok2:=hcu0.perm hp2.symm;have hb1:L1.length≤256∧∀b∈L1,inB b:=⟨by rw[hp1.length_eq];exact hfew,fun b hb=>hall b (hp1.mem_iff.1 hb)⟩
  obtain⟨ns,hns⟩:∃q,q=gM L1 fun _=>true:=⟨_,rfl⟩
  have hns2:ns=Vi rl fun _=>true:=by rw[hns,QM,KW hp1]
  have hnl:ns.length≤5000:=by
   rw[hns];have h1:(gM L1 fun _=>true).length≤L1.length:=by
    unfold gM;rw[iG];exact List.length_filterMap_le _ _
   omega
  obtain⟨bs,hbs⟩:∃q,q=dN (L2.map cP.box):=⟨_,rfl⟩
  have hbs2:bs=kP H:=by rw[hbs,hcst.boxes,JQ hp2]
  have hbn:bs.Nodup:=by rw[hbs];exact Q7 hok2
  have hbl:bs.length≤4096:=by rw[hbs,iG,aJ];exact hok2.few
  have hkb:=Ra.start bs hcu0 hp2;obtain⟨nb,hnb⟩:∃n:Nat,n=bs.length:=⟨_,rfl⟩
  cbv
  repeat'(first
   |((refine fI hbi (⟨rq,L1⟩:Rg) [10,11] hb1 ?_;try dsimp only)
     rw[←hns];cbv;repeat'((first|refine oW.r ?_|refine pS.r ?_|fail)<;>cbv))
   |((refine bX hrb (⟨rq,rl⟩:Rg) hfew ?_;try dsimp only)
     rw[←hns2];cbv;repeat'((first|refine oW.r ?_|refine pS.r ?_|fail)<;>cbv))
   |((refine bX hsm ((ns,ns):List bH×List bH) ⟨hnl,hnl⟩ ?_;try dsimp only)
     rw[show decide (ns=ns)=true from aH rfl];cbv;repeat'((first|refine oW.r ?_|refine pS.r ?_|fail)<;>cbv))
   |((refine fI hbx L2 [12,13] hok2 ?_;try dsimp only)
     rw[←hbs];cbv;repeat'((first|refine oW.r ?_|refine pS.r ?_|fail)<;>cbv))
   |((refine bX hrx H hHl ?_;try dsimp only)
     rw[←hbs2];cbv;repeat'((first|refine oW.r ?_|refine pS.r ?_|fail)<;>cbv))
   |((refine bX htx bs (by omega) ?_;try dsimp only)
     cbv;repeat'((first|refine oW.r ?_|refine pS.r ?_|fail)<;>cbv))
   |((refine fI hct (⟨na,pa,da,⟨rq,rl⟩,ca,va⟩:Cr) [1,2,3,4,5,6,7,8] hctx ?_;try dsimp only)
     rw[←htP];cbv;repeat'((first|refine oW.r ?_|refine pS.r ?_|fail)<;>cbv)))
  refine gH (Gh.sel (st':=⟨[(7,.ptr 1 0),(8,.ptr 9 0),(9,.ptr 10 0),(10,.ptr 12 0),(11,.str tP),(12,.sl 1 (bJ .str bs)),(13,.i 0)],[.blk 29 [.sl 3 (bJ lE pt),.sl 17 (bJ jS dq),.sl 3 (bJ lK fq),.sl 1 (bJ dO rest),.sl 1 (bJ dO holidays)],.blk 118 [.str (⟨na,pa,da,⟨rq,rl⟩,ca,va⟩:Cr).name,.hd 2,.ph 3,.ptr 4 0,.ptr 6 0,.hd 8],.map 70 (bJ iF (⟨na,pa,da,⟨rq,rl⟩,ca,va⟩:Cr).parties),.pool 116 (bJ gI (⟨na,pa,da,⟨rq,rl⟩,ca,va⟩:Cr).deals) [],.blk 122 [.str (⟨na,pa,da,⟨rq,rl⟩,ca,va⟩:Cr).reg.carrier,.ph 5],.pool 120 (bJ aaI (⟨na,pa,da,⟨rq,rl⟩,ca,va⟩:Cr).reg.bills) [],.blk 174 [.ph 7],.pool 172 (bJ eX (⟨na,pa,da,⟨rq,rl⟩,ca,va⟩:Cr).cust) [],.tip 77 5 (bJ dG (⟨na,pa,da,⟨rq,rl⟩,ca,va⟩:Cr).deliv),.blk 41 [.sl 1 (bJ dO S),.sl 1 (bJ pZ free),.str rq,.sl 11 (bJ iP rl),.sl 5 (bJ dG H),.sl 5 (bJ dG D)],.blk 122 [.str rq,.ph 11],.pool 120 (bJ aaI L1) [],.blk 174 [.ph 13],.pool 172 (bJ eX L2) []]⟩) [0,1,2,3,4,5,6,7,8,9,10,11,12,13] (by repeat'(first|exact trivial|refine⟨.inl rfl,?_⟩|refine⟨.inr rfl,?_⟩)) rfl (by decide) rfl rfl) ?_;refine bS [] (fun p:{ p:Nat×List cP // p.1≤bs.length∧Ra ca bs p.1 p.2 }=>[(13,.i (nI p.1.1))]) (fun p=>[.blk 29 [.sl 3 (bJ lE pt),.sl 17 (bJ jS dq),.sl 3 (bJ lK fq),.sl 1 (bJ dO rest),.sl 1 (bJ dO holidays)],.blk 118 [.str (⟨na,pa,da,⟨rq,rl⟩,ca,va⟩:Cr).name,.hd 2,.ph 3,.ptr 4 0,.ptr 6 0,.hd 8],.map 70 (bJ iF (⟨na,pa,da,⟨rq,rl⟩,ca,va⟩:Cr).parties),.pool 116 (bJ gI (⟨na,pa,da,⟨rq,rl⟩,ca,va⟩:Cr).deals) [],.blk 122 [.str (⟨na,pa,da,⟨rq,rl⟩,ca,va⟩:Cr).reg.carrier,.ph 5],.pool 120 (bJ aaI (⟨na,pa,da,⟨rq,rl⟩,ca,va⟩:Cr).reg.bills) [],.blk 174 [.ph 7],.pool 172 (bJ eX (⟨na,pa,da,⟨rq,rl⟩,ca,va⟩:Cr).cust) [],.tip 77 5 (bJ dG (⟨na,pa,da,⟨rq,rl⟩,ca,va⟩:Cr).deliv),.blk 41 [.sl 1 (bJ dO S),.sl 1 (bJ pZ free),.str rq,.sl 11 (bJ iP rl),.sl 5 (bJ dG H),.sl 5 (bJ dG D)],.blk 122 [.str rq,.ph 11],.pool 120 (bJ aaI L1) [],.blk 174 [.ph 13],.pool 172 (bJ eX p.1.2) []]) (fun p=>eW nb p.1.1) ⟨(0,L2),aI _,hkb⟩ ?_;rintro ⟨⟨i,L3⟩,hi,hk3⟩;dsimp only at hi hk3⊢;rcases aL i bs.length with his|his
  ·obtain⟨b,hb⟩:=cK his;obtain⟨ow,how2⟩:∃q,q=nE H b:=⟨_,rfl⟩
   have hhw:AO L3 b=ow:=by rw[how2];exact hk3.hist hcst hb
   have hol:ow.length≤100000:=by rw[how2];exact Nat.le_trans (List.length_filter_le _ _) hHl
   obtain⟨⟨who,pl,okk⟩,hnq⟩:∃q,q=EM L3 b:=⟨_,rfl⟩
   have hk4:=hk3.hand (x:=⟨b,who,⟨⟨[101,108,115,101,119,104,101,114,101]⟩⟩,⟨⟨[115,101,97]⟩⟩,1048576⟩) hbn hb;obtain⟨L4,hL4⟩:∃q,q=BF L3 ⟨b,who,⟨⟨[101,108,115,101,119,104,101,114,101]⟩⟩,⟨⟨[115,101,97]⟩⟩,1048576⟩:=⟨_,rfl⟩
   rw[←hL4]at hk4;obtain⟨hz4,hhz⟩:∃q,q=gZ L3 ⟨b,who,⟨⟨[101,108,115,101,119,104,101,114,101]⟩⟩,⟨⟨[115,101,97]⟩⟩,1048576⟩:=⟨_,rfl⟩
   have hok3:=hk3.ok;cbv;repeat'((first|refine .e ?_|refine .y fun h=>?_|refine .k fun z hz=>?_|fail)<;>cbv)
   repeat'(first
    |((refine fI hhi ((L3,b):List cP×bH) [12,13] hok3 ?_;try dsimp only)
      rw[hhw];cbv;repeat'((first|refine oW.r ?_|refine pS.r ?_|fail)<;>cbv))
    |((refine bX how ((H,b):List eC×bH) hHl ?_;try dsimp only)
      rw[←how2];cbv;repeat'((first|refine oW.r ?_|refine pS.r ?_|fail)<;>cbv))
    |((refine bX hsa ow hol ?_;try dsimp only)
      cbv;repeat'((first|refine oW.r ?_|refine pS.r ?_|(first|refine .e ?_|fail)|fail)<;>cbv))
    |((refine fI hno ((L3,b):List cP×bH) [12,13] hok3 ?_;try dsimp only)
      rw[←hnq];cbv;repeat'((first|refine oW.r ?_|refine pS.r ?_|(first|refine .e ?_|fail)|fail)<;>cbv)))
   (refine fI hha ((L3,⟨b,who,⟨⟨[101,108,115,101,119,104,101,114,101]⟩⟩,⟨⟨[115,101,97]⟩⟩,1048576⟩):List cP×eC) [12,13] hok3 ?_;try dsimp only)
   rw[←hL4,←hhz];cbv;repeat'((first|refine .k fun z hz=>?_|fail)<;>cbv)
   all_goals
    obtain rfl:z=nI (i+1):=bQ;exact bN ⟨(i+1,L4),his,hk4⟩ (bO (by omega))
  clear hk3 hkb;obtain⟨nr,hnr⟩:∃n:Nat,n=rl.length:=⟨_,rfl⟩
  have hrl:rl.length≤256:=hfew;cbv;repeat'((first|refine .n fun h=>?_|refine .k fun z hz=>?_|fail)<;>cbv)
  all_goals first|(exfalso;((try simp only[vn]at *)<;>omega))|skip
  refine gH (Gh.sel (st':=⟨[(7,.ptr 1 0),(8,.ptr 9 0),(9,.ptr 10 0),(11,.str tP),(17,.i 0)],[.blk 29 [.sl 3 (bJ lE pt),.sl 17 (bJ jS dq),.sl 3 (bJ lK fq),.sl 1 (bJ dO rest),.sl 1 (bJ dO holidays)],.blk 118 [.str (⟨na,pa,da,⟨rq,rl⟩,ca,va⟩:Cr).name,.hd 2,.ph 3,.ptr 4 0,.ptr 6 0,.hd 8],.map 70 (bJ iF (⟨na,pa,da,⟨rq,rl⟩,ca,va⟩:Cr).parties),.pool 116 (bJ gI (⟨na,pa,da,⟨rq,rl⟩,ca,va⟩:Cr).deals) [],.blk 122 [.str (⟨na,pa,da,⟨rq,rl⟩,ca,va⟩:Cr).reg.carrier,.ph 5],.pool 120 (bJ aaI (⟨na,pa,da,⟨rq,rl⟩,ca,va⟩:Cr).reg.bills) [],.blk 174 [.ph 7],.pool 172 (bJ eX (⟨na,pa,da,⟨rq,rl⟩,ca,va⟩:Cr).cust) [],.tip 77 5 (bJ dG (⟨na,pa,da,⟨rq,rl⟩,ca,va⟩:Cr).deliv),.blk 41 [.sl 1 (bJ dO S),.sl 1 (bJ pZ free),.str rq,.sl 11 (bJ iP rl),.sl 5 (bJ dG H),.sl 5 (bJ dG D)],.blk 122 [.str rq,.ph 11],.pool 120 (bJ aaI L1) [],.blk 174 [.ph 13],.pool 172 (bJ eX L3) []]⟩) [0,1,2,3,4,5,6,7,8,9,10,11,12,13] (by repeat'(first|exact trivial|refine⟨.inl rfl,?_⟩|refine⟨.inr rfl,?_⟩)) rfl (by decide) rfl rfl) ?_;refine bS [] (fun p:{ p:Nat×List Br // p.1≤rl.length∧QQ l.length rq rl p.1 p.2 }=>[(17,.i (nI p.1.1))]) (fun p=>[.blk 29 [.sl 3 (bJ lE pt),.sl 17 (bJ jS dq),.sl 3 (bJ lK fq),.sl 1 (bJ dO rest),.sl 1 (bJ dO holidays)],.blk 118 [.str (⟨na,pa,da,⟨rq,rl⟩,ca,va⟩:Cr).name,.hd 2,.ph 3,.ptr 4 0,.ptr 6 0,.hd 8],.map 70 (bJ iF (⟨na,pa,da,⟨rq,rl⟩,ca,va⟩:Cr).parties),.pool 116 (bJ gI (⟨na,pa,da,⟨rq,rl⟩,ca,va⟩:Cr).deals) [],.blk 122 [.str (⟨na,pa,da,⟨rq,rl⟩,ca,va⟩:Cr).reg.carrier,.ph 5],.pool 120 (bJ aaI (⟨na,pa,da,⟨rq,rl⟩,ca,va⟩:Cr).reg.bills) [],.blk 174 [.ph 7],.pool 172 (bJ eX (⟨na,pa,da,⟨rq,rl⟩,ca,va⟩:Cr).cust) [],.tip 77 5 (bJ dG (⟨na,pa,da,⟨rq,rl⟩,ca,va⟩:Cr).deliv),.blk 41 [.sl 1 (bJ dO S),.sl 1 (bJ pZ free),.str rq,.sl 11 (bJ iP rl),.sl 5 (bJ dG H),.sl 5 (bJ dG D)],.blk 122 [.str rq,.ph 11],.pool 120 (bJ aaI p.1.2) [],.blk 174 [.ph 13],.pool 172 (bJ eX L3) []]) (fun p=>eW nr p.1.1) ⟨(0,L1),aI _,hk1⟩ ?_;rintro ⟨⟨j,R⟩,hj,hkr⟩;dsimp only at hj hkr⊢;rcases aL j rl.length with hjs|hjs
  rotate_left
  ·cbv;repeat'((first|refine .n fun h=>?_|refine .k fun z hz=>?_|fail)<;>cbv)
   all_goals first|(exfalso;((try simp only[vn]at *)<;>omega))|skip
   all_goals
    (refine fI hct (⟨na,pa,da,⟨rq,rl⟩,ca,va⟩:Cr) [1,2,3,4,5,6,7,8] hctx ?_;try dsimp only)
    rw[←htP];cbv;repeat'((first|refine oW.r ?_|refine pS.r ?_|fail)<;>cbv)
    (refine .q9 ?_;cbv;exact .inl (.f9 hK))
  obtain⟨b,hb⟩:=cK hjs;have hlk:=hkr.lk hb;have hkb:=hkr.bill hb;have hnx:=fun(R2:List Br) (h:JP l.length rq rl j 3 b R2)=>h.next
  have hlo3:=fun(m:Nat) (R2:List Br) (h:JP l.length rq rl j m b R2) (q:Int) (who:bH)=>h.lose hnd hb q who
  have hchn:=fun(m:Nat) (R2:List Br) (h:JP l.length rq rl j m b R2) (q:Int) (hq:q=0∨q=1∨q=2)=>h.chain hq
  have horn:yM R b.b.number=J1 b.b.number b:=by rw[I9,hlk]
  have hstm:xG R b.b.number=b.st:=by rw[Kp,hlk]
  have hbch:=(hall b (aC hb)).1;have hchk:=fun(m:Nat) (R2:List Br) (h:JP l.length rq rl j m b R2) (hm:m≤3) (y:Br) (hy:y∈R2)=>(h.inv.inB (by omega) y hy).1
  obtain⟨⟨nq5,cq5,sq5,frm5,to5,bq5,pq5,iq5,lq5⟩,st5,⟨sa5,ha5,ca5⟩,⟨sb5,hb5,cb5⟩,⟨sc5,hc5,cc5⟩⟩:=b;dsimp only at horn hstm hlo3 hchn hbch;unfold mJ at hbch;dsimp only at hbch;obtain⟨os,hos⟩:∃q,q=yM R nq5:=⟨_,rfl⟩
  rw[←hos]at horn;obtain rfl:os=[⟨nq5,0,sa5,ha5⟩,⟨nq5,1,sb5,hb5⟩,⟨nq5,2,sc5,hc5⟩]:=horn;cbv;repeat'((first|refine oW.r ?_|refine pS.r ?_|(first|refine .e ?_|refine .y fun h=>?_|refine .k fun z hz=>?_|fail)|fail)<;>cbv)
  all_goals
   (refine fI hor ((⟨rq,R⟩:Rg),nq5) [10,11] trivial ?_;try dsimp only)
   rw[←hos];cbv;repeat'((first|refine oW.r ?_|refine pS.r ?_|(first|refine .y fun h=>?_|refine .k fun z hz=>?_|fail)|fail)<;>cbv)
   (refine fI hst ((⟨rq,R⟩:Rg),nq5) [10,11] trivial ?_;try dsimp only)
   rw[hstm];cbv;repeat'((first|refine oW.r ?_|refine pS.r ?_|(first|refine .y fun h=>?_|fail)|fail)<;>cbv)
  refine bS [] (fun p:{ p:Nat×List Br // p.1≤3∧JP l.length rq rl j p.1 ⟨⟨nq5,cq5,sq5,frm5,to5,bq5,pq5,iq5,lq5⟩,st5,⟨sa5,ha5,ca5⟩,⟨sb5,hb5,cb5⟩,⟨sc5,hc5,cc5⟩⟩ p.2 }=>[(20,.i (nI p.1.1))]) (fun p=>[.blk 29 [.sl 3 (bJ lE pt),.sl 17 (bJ jS dq),.sl 3 (bJ lK fq),.sl 1 (bJ dO rest),.sl 1 (bJ dO holidays)],.blk 118 [.str (⟨na,pa,da,⟨rq,rl⟩,ca,va⟩:Cr).name,.hd 2,.ph 3,.ptr 4 0,.ptr 6 0,.hd 8],.map 70 (bJ iF (⟨na,pa,da,⟨rq,rl⟩,ca,va⟩:Cr).parties),.pool 116 (bJ gI (⟨na,pa,da,⟨rq,rl⟩,ca,va⟩:Cr).deals) [],.blk 122 [.str (⟨na,pa,da,⟨rq,rl⟩,ca,va⟩:Cr).reg.carrier,.ph 5],.pool 120 (bJ aaI (⟨na,pa,da,⟨rq,rl⟩,ca,va⟩:Cr).reg.bills) [],.blk 174 [.ph 7],.pool 172 (bJ eX (⟨na,pa,da,⟨rq,rl⟩,ca,va⟩:Cr).cust) [],.tip 77 5 (bJ dG (⟨na,pa,da,⟨rq,rl⟩,ca,va⟩:Cr).deliv),.blk 41 [.sl 1 (bJ dO S),.sl 1 (bJ pZ free),.str rq,.sl 11 (bJ iP rl),.sl 5 (bJ dG H),.sl 5 (bJ dG D)],.blk 122 [.str rq,.ph 11],.pool 120 (bJ aaI p.1.2) [],.blk 174 [.ph 13],.pool 172 (bJ eX L3) [],.blk 104 (yD ⟨⟨nq5,cq5,sq5,frm5,to5,bq5,pq5,iq5,lq5⟩,st5,⟨sa5,ha5,ca5⟩,⟨sb5,hb5,cb5⟩,⟨sc5,hc5,cc5⟩⟩)]) (fun p=>eW 3 p.1.1) ⟨(0,R),aI _,hkb⟩ ?_;rintro ⟨⟨m,R2⟩,hm,hko⟩;dsimp only at hm hko⊢;have hchk2:=hchk m R2 hko hm;have hm4:m=0∨m=1∨m=2∨m=3:=by omega
  rcases hm4 with rfl|rfl|rfl|rfl
  ·have hchj:(lN R2 nq5 0).1.chain=ca5:=hchn 0 R2 hko 0 (by decide);have hlj:=hlo3 0 R2 hko 0 ha5;obtain⟨R3,hR3⟩:∃q,q=sH R2 nq5 0 ha5:=⟨_,rfl⟩
   rw[←hR3]at hlj;unfold sH at hR3;cbv;repeat'((first|refine oW.r ?_|refine pS.r ?_|(first|refine .y fun h=>?_|fail)|refine bW.i0 ?_|refine bW.i1 ?_|refine bW.i2 ?_|refine aaA.i0 ?_|refine aaA.i1 ?_|refine aaA.i2 ?_|fail)<;>cbv)
   (refine fI hch ((⟨rq,R2⟩,nq5,0):Rg×bH×Int) [10,11] hchk2 ?_;try dsimp only)
   rw[hchj];cbv;repeat'((first|refine oW.r ?_|refine pS.r ?_|refine bW.i0 ?_|refine bW.i1 ?_|refine bW.i2 ?_|refine aaA.i0 ?_|refine aaA.i1 ?_|refine aaA.i2 ?_|fail)<;>cbv)
   (refine bX hcs ((ca5,ca5):List mI×List mI) ⟨by dsimp only;omega,by dsimp only;omega⟩ ?_;try dsimp only)
   rw[show decide (ca5=ca5)=true from aH rfl];cbv;repeat'((first|refine oW.r ?_|refine pS.r ?_|refine bW.i0 ?_|refine bW.i1 ?_|refine bW.i2 ?_|refine aaA.i0 ?_|refine aaA.i1 ?_|refine aaA.i2 ?_|fail)<;>cbv)
   (refine fI hlo ((⟨rq,R2⟩,⟨nq5,0,0,ha5,0,0,false,false⟩):Rg×Ak) [10,11] ⟨hchk2,rfl,rfl,rfl,rfl,rfl⟩ ?_;try dsimp only)
   rw[←hR3];cbv;repeat'((first|refine .k fun z hz=>?_|fail)<;>cbv)
   obtain rfl:z=nI 1:=bQ;exact bN ⟨(1,R3),Nat.le_of_ble_eq_true rfl,hlj⟩ (bO (by decide))
  ·have hchj:(lN R2 nq5 1).1.chain=cb5:=hchn 1 R2 hko 1 (by decide);have hlj:=hlo3 1 R2 hko 1 hb5;obtain⟨R3,hR3⟩:∃q,q=sH R2 nq5 1 hb5:=⟨_,rfl⟩
   rw[←hR3]at hlj;unfold sH at hR3;cbv;repeat'((first|refine oW.r ?_|refine pS.r ?_|(first|refine .y fun h=>?_|fail)|refine bW.i0 ?_|refine bW.i1 ?_|refine bW.i2 ?_|refine aaA.i0 ?_|refine aaA.i1 ?_|refine aaA.i2 ?_|fail)<;>cbv)
   (refine fI hch ((⟨rq,R2⟩,nq5,1):Rg×bH×Int) [10,11] hchk2 ?_;try dsimp only)
   rw[hchj];cbv;repeat'((first|refine oW.r ?_|refine pS.r ?_|refine bW.i0 ?_|refine bW.i1 ?_|refine bW.i2 ?_|refine aaA.i0 ?_|refine aaA.i1 ?_|refine aaA.i2 ?_|fail)<;>cbv)
   (refine bX hcs ((cb5,cb5):List mI×List mI) ⟨by dsimp only;omega,by dsimp only;omega⟩ ?_;try dsimp only)
   rw[show decide (cb5=cb5)=true from aH rfl];cbv;repeat'((first|refine oW.r ?_|refine pS.r ?_|refine bW.i0 ?_|refine bW.i1 ?_|refine bW.i2 ?_|refine aaA.i0 ?_|refine aaA.i1 ?_|refine aaA.i2 ?_|fail)<;>cbv)
   (refine fI hlo ((⟨rq,R2⟩,⟨nq5,1,0,hb5,0,0,false,false⟩):Rg×Ak) [10,11] ⟨hchk2,rfl,rfl,rfl,rfl,rfl⟩ ?_;try dsimp only)
   rw[←hR3];cbv;repeat'((first|refine .k fun z hz=>?_|fail)<;>cbv)
   obtain rfl:z=nI 2:=bQ;exact bN ⟨(2,R3),Nat.le_of_ble_eq_true rfl,hlj⟩ (bO (by decide))
  ·have hchj:(lN R2 nq5 2).1.chain=cc5:=hchn 2 R2 hko 2 (by decide);have hlj:=hlo3 2 R2 hko 2 hc5;obtain⟨R3,hR3⟩:∃q,q=sH R2 nq5 2 hc5:=⟨_,rfl⟩
   rw[←hR3]at hlj;unfold sH at hR3;cbv;repeat'((first|refine oW.r ?_|refine pS.r ?_|(first|refine .y fun h=>?_|fail)|refine bW.i0 ?_|refine bW.i1 ?_|refine bW.i2 ?_|refine aaA.i0 ?_|refine aaA.i1 ?_|refine aaA.i2 ?_|fail)<;>cbv)
   (refine fI hch ((⟨rq,R2⟩,nq5,2):Rg×bH×Int) [10,11] hchk2 ?_;try dsimp only)
   rw[hchj];cbv;repeat'((first|refine oW.r ?_|refine pS.r ?_|refine bW.i0 ?_|refine bW.i1 ?_|refine bW.i2 ?_|refine aaA.i0 ?_|refine aaA.i1 ?_|refine aaA.i2 ?_|fail)<;>cbv)
   (refine bX hcs ((cc5,cc5):List mI×List mI) ⟨by dsimp only;omega,by dsimp only;omega⟩ ?_;try dsimp only)
   rw[show decide (cc5=cc5)=true from aH rfl];cbv;repeat'((first|refine oW.r ?_|refine pS.r ?_|refine bW.i0 ?_|refine bW.i1 ?_|refine bW.i2 ?_|refine aaA.i0 ?_|refine aaA.i1 ?_|refine aaA.i2 ?_|fail)<;>cbv)
   (refine fI hlo ((⟨rq,R2⟩,⟨nq5,2,0,hc5,0,0,false,false⟩):Rg×Ak) [10,11] ⟨hchk2,rfl,rfl,rfl,rfl,rfl⟩ ?_;try dsimp only)
   rw[←hR3];cbv;repeat'((first|refine .k fun z hz=>?_|fail)<;>cbv)
   obtain rfl:z=nI 3:=bQ;exact bN ⟨(3,R3),Nat.le_of_ble_eq_true rfl,hlj⟩ (bO (by decide))
  ·have hkn:=hnx R2 hko;cbv;repeat'((first|refine .n fun h=>?_|refine .k fun z hz=>?_|fail)<;>cbv)
   obtain rfl:z=nI (j+1):=bQ;refine dK (Gh.sel (st':=⟨[(7,.ptr 1 0),(8,.ptr 9 0),(9,.ptr 10 0),(11,.str tP),(17,.i (nI (j+1)))],[.blk 29 [.sl 3 (bJ lE pt),.sl 17 (bJ jS dq),.sl 3 (bJ lK fq),.sl 1 (bJ dO rest),.sl 1 (bJ dO holidays)],.blk 118 [.str (⟨na,pa,da,⟨rq,rl⟩,ca,va⟩:Cr).name,.hd 2,.ph 3,.ptr 4 0,.ptr 6 0,.hd 8],.map 70 (bJ iF (⟨na,pa,da,⟨rq,rl⟩,ca,va⟩:Cr).parties),.pool 116 (bJ gI (⟨na,pa,da,⟨rq,rl⟩,ca,va⟩:Cr).deals) [],.blk 122 [.str (⟨na,pa,da,⟨rq,rl⟩,ca,va⟩:Cr).reg.carrier,.ph 5],.pool 120 (bJ aaI (⟨na,pa,da,⟨rq,rl⟩,ca,va⟩:Cr).reg.bills) [],.blk 174 [.ph 7],.pool 172 (bJ eX (⟨na,pa,da,⟨rq,rl⟩,ca,va⟩:Cr).cust) [],.tip 77 5 (bJ dG (⟨na,pa,da,⟨rq,rl⟩,ca,va⟩:Cr).deliv),.blk 41 [.sl 1 (bJ dO S),.sl 1 (bJ pZ free),.str rq,.sl 11 (bJ iP rl),.sl 5 (bJ dG H),.sl 5 (bJ dG D)],.blk 122 [.str rq,.ph 11],.pool 120 (bJ aaI R2) [],.blk 174 [.ph 13],.pool 172 (bJ eX L3) []]⟩) [0,1,2,3,4,5,6,7,8,9,10,11,12,13] (by repeat'(first|exact trivial|refine⟨.inl rfl,?_⟩|refine⟨.inr rfl,?_⟩)) rfl (by decide) rfl rfl) ?_;exact bN ⟨(j+1,R2),hjs,hkn⟩ (bO (by omega))
theorem GS:bK Tryz.prog 10 Zd:=bL (by kernel_rfl) (CP _ KO WV N9 QV Ud Ta Jw FI Ti I6 vS KD Ua zP MH Sg HS xM Rk PN OW Mu)
end Go.Proofs.YtigdiekbiphhmaaGreatDoor
namespace Go.Proofs.YtigdiekbiphhmaaGreatDoor
open Go Go.Lib
open Go.RowKit
def aaT {H:Type}:Value→DataW H
 |.int k z=>.lit (.int k z)
 |.string s=>.lit (.string s.data.toList)
 |_=>.nil
theorem aaS {H:Type}{enc:TypeId×Value→H}{P:bI}{w:World}{base:Nat}{sp:Nat→Bool}{held:Bool}{fuel:Nat}{t e:TypeId}{n:Nat}{cs vs:List Value}{p:List MemPlace}(ht:P.underlying t=some (.array n e)) (he:(∃k,P.underlying e=some (.int k))∨P.underlying e=some .string) (hce:P.cellsOf e=1) (hct:P.cellsOf t=n) (h:DataW.trod enc P w base sp held fuel t cs=some (.agg (vs.map aaT),p)):cs=vs:=by
 cases fuel with
 |zero=>simp[DataW.trod]at h
 |succ fuel=>
  simp only[DataW.trod,ht,hce,hct,Nat.mul_one]at h
  split at h
  · rename_i hl
    obtain⟨xs,hm,hx⟩:=Option.map_eq_some_iff.1 h;have hxs:xs.map (·.1)=vs.map aaT:=by simpa using congrArg Prod.fst hx
    have hxl:=mapM_length hm;have hzl:=congrArg List.length hxs;simp at hxl hzl;apply List.ext_getElem?;intro i;by_cases hi:i < n
    · obtain⟨b,hb,hf⟩:=mapM_at hm i i (by simp[hi])
      have hvi:vs[i]?=some vs[i]:=aB (by omega);have h2:=congrArg (·[i]?) hxs;simp only[aD,hb,hvi,Option.map_some,bE]at h2;rw[hvi];rcases he with ⟨k,he⟩|he
      · obtain⟨z,hc,h3,_⟩:=DataW.trod_int he hf
        have h1:=congrArg (·[0]?) hc;simp[List.getElem?_take,List.getElem?_drop]at h1;rw[h1];rw[h3]at h2;cases hv:vs[i]<;>simp[hv,aaT]at h2<;>simp[h2]
      · obtain⟨s,hc,h3,_⟩:=DataW.trod_string he hf
        have h1:=congrArg (·[0]?) hc;simp[List.getElem?_take,List.getElem?_drop]at h1;rw[h1];rw[h3]at h2;cases hv:vs[i]<;>simp only[hv,aaT,DataW.lit.injEq,Lit.string.injEq,reduceCtorEq]at h2;rw[ByteArray.ext (Array.toList_inj.1 h2)]
    · rw[List.getElem?_eq_none (by omega),List.getElem?_eq_none (by omega)]
  · cases h
theorem aaH {P:bI}{W:World}{name:String}{vs:List Value}{d:DataW Unit}{rest:List (String×DataW Unit)}{g:Nat}{t e:TypeId}{n:Nat}(he:(∃k,P.underlying e=some (.int k))∨P.underlying e=some .string) (h:laidMet P ((name,d) :: rest) W) (hg:P.globalNamed name=some g:=by kernel_rfl) (hty:(P.globals[g]?).map (·.type)=some t:=by kernel_rfl) (ht:P.underlying t=some (.array n e):=by kernel_rfl) (hce:P.cellsOf e=1:=by kernel_rfl) (hct:P.cellsOf t=n:=by kernel_rfl) (hd:d=.agg (vs.map aaT):=by rfl):∃t' f,W.heap[g]?=some (.cells vs.toArray t' f):=by
 obtain⟨ps,⟨g',t',cs,fuel,p,q,hg',ht',hvar,hdd,_,_⟩,_⟩:=h;cases hg.symm.trans hg';cases hty.symm.trans ht';subst hd;have hcs:=aaS ht he hce hct hdd;unfold World.var? at hvar;simp only[hg,Option.bind_some]at hvar
 split at hvar
 · rename_i c t2 f hb
   exact⟨t2,f,by rw[hb,←hcs];simp at hvar;rw[hvar]⟩
 · cases hvar
theorem aaR {w:World}{g:Nat}{vs:List Value}(h:∃t f,w.heap[g]?=some (.cells vs.toArray t f)):∀i u,vs[i]?=some u→i < nM w g∧w.cell? ⟨g,i,none⟩=some u∧xB w g=some vs.length:=fun i u hu=>by
 obtain⟨t,f,hb⟩:=h;have hi:=(aA.1 hu).1;exact⟨by simpa [nM,hb]using hi,by simp[World.cell?,hb,hu],by simp[xB,hb]⟩
theorem nY {P:bI}{W:World}{x:String×DataW Unit}{rest:List (String×DataW Unit)}(h:laidMet P (x :: rest) W):laidMet P rest W:=by
 obtain⟨ps,⟨g,t,cs,fuel,p,q,_,_,_,_,hr,rfl⟩,hnd,hc⟩:=h;exact⟨q,hr,(List.nodup_append.1 hnd).2.1,fun b off hm=>hc b off (List.mem_append_right _ hm)⟩
theorem Q9 {W : World} (h : laidMetH Tryz.prog [("math/bits.deBruijn32tab", Rows.laid_math_bits_deBruijn32tab), ("math/bits.deBruijn64tab", Rows.laid_math_bits_deBruijn64tab), ("internal/strconv.uint64pow10", Rows.laid_internal_strconv_uint64pow10), ("supercargo/post.kinds", Rows.laid_supercargo_post_kinds), ("supercargo/carrier.stateWords", Rows.laid_supercargo_carrier_stateWords), ("supercargo/carrier.originalWords", Rows.laid_supercargo_carrier_originalWords)] W) : lF (nM W) W := by
 rw[MakeChecks.laidMetH_plain _ _ _ (by kernel_rfl)]at h;have h0:=aaH (vs:=glob 5) (g:=5) (t:=292) (e:=5) (n:=32) (.inl ⟨.u8,by kernel_rfl⟩) h;replace h:=nY h;have h1:=aaH (vs:=glob 6) (g:=6) (t:=293) (e:=5) (n:=64) (.inl ⟨.u8,by kernel_rfl⟩) h;replace h:=nY h;have h2:=aaH (vs:=glob 4) (g:=4) (t:=281) (e:=260) (n:=20) (.inl ⟨.u64,by kernel_rfl⟩) h;replace h:=nY h;have h3:=aaH (vs:=glob 2) (g:=2) (t:=272) (e:=9) (n:=29) (.inr (by kernel_rfl)) h;replace h:=nY h;have h4:=aaH (vs:=glob 0) (g:=0) (t:=159) (e:=9) (n:=5) (.inr (by kernel_rfl)) h;replace h:=nY h;have h5:=aaH (vs:=glob 1) (g:=1) (t:=159) (e:=9) (n:=5) (.inr (by kernel_rfl)) h;refine⟨fun g i u hu=>?_,fun g hg=>?_⟩
 ·by_cases e0:g=5
  ·subst e0;exact aaR h0 i u hu
  by_cases e1:g=6
  ·subst e1;exact aaR h1 i u hu
  by_cases e2:g=4
  ·subst e2;exact aaR h2 i u hu
  by_cases e3:g=2
  ·subst e3;exact aaR h3 i u hu
  by_cases e4:g=0
  ·subst e4;exact aaR h4 i u hu
  by_cases e5:g=1
  ·subst e5;exact aaR h5 i u hu
  have e:glob g=[]:=by unfold glob;split<;>first|rfl|contradiction
  rw[e]at hu;cases hu
 ·exact absurd hg (by unfold R0;simp)
end Go.Proofs.YtigdiekbiphhmaaGreatDoor
end
