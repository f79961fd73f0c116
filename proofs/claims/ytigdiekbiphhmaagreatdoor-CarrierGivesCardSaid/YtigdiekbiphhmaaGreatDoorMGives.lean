/-
  Texts of this proof,joined: CYR,CKGives,GlobOg.
-/
import Derived.Test.YtigdiekbiphhmaaGreatDoorB8
import Derived.KernelRfl
import Derived.Lib.LaidTab
import Derived.MakeChecks
import Derived.Test.YtigdiekbiphhmaaGreatDoorRows
set_option linter.unusedVariables false
set_option linter.unusedSimpArgs false
namespace Go.Proofs.YtigdiekbiphhmaaGreatDoor
def x3:dI:=⟨207,zr [zs 6 (.box 29 (.t 0)),yb 12 false] (.seq (zr [zs 21 (.call 11 []),yo 22 21] (.cond (.t 22) (zr [yb 12 false] .ret) .skip)) (.seq (zr [yt 23 5 6,zm 24 1,zm 25 2,zs 26 (.call 12 [.t 23,.t 24,.t 25]),yo 27 26,zm 28 27,zg 29 28 false (.ld true 5 (.t 6)),zh 30 28 false 1,zh 31 28 false 3,zg 32 28 false (.call 13 [.t 29,.t 30,.t 31]),gk 33 28 false .lss 32 0,yq 34 28 true 33,zm 35 34,zh 36 35 false 4,gk 37 35 false .lss 36 0,yq 38 35 true 37,zm 39 38,zh 40 39 false 4,gk 41 39 false .gtr 40 2,yq 42 39 true 41,zm 43 42,zh 44 43 false 5,gk 45 43 false .lss 44 0,yq 46 43 true 45,zm 47 46,zh 48 47 false 5,gk 49 47 false .gtr 48 1048576,yq 50 47 true 49] (.cond (.t 50) (zr [yb 12 true] .ret) .skip)) (zr [yt 52 5 6,zm 53 1,zm 54 2,zs 55 (.call 14 [.t 52,.t 53,.t 54]),zm 51 55,yx 56 51 0,yx 57 51 1,zs 14 (.alloc 41 [sn,sn,se,sn,sn,sn]),zm 13 56,ys 6 14 57] (.seq (zr [zm 58 13,zs 59 (.cmn false (.t 58))] (.cond (.t 59) (zr [yb 12 false] .ret) .skip)) (zr [yt 60 5 6,zm 61 1,zm 62 3,zs 63 (.call 13 [.t 60,.t 61,.t 62]),zm 15 63] (zr [zm 64 13,zs 65 (.call 15 [.t 64]),zm 66 3,zs 67 (.ari .add .i64 (.c (.str ⟨#[98,108,45]⟩)) (.t 66)),zs 68 (.call 16 [.t 65,.t 67]),zm 16 68] (.seq (.seq (.dreg (.take 0 (zf 69 0 14) (.take 1 (zl 70 69) (.take 2 (zm 71 15) (.take 3 (yi 72 1 70 71) (.take 4 (zl 73 72) (.take 5 (yk 74 .neq 73 3) (.take 6 (zm 75 74) (.take 7 (gf 76 75 false 1 14) (.take 8 (gl 77 75 false 76) (.take 9 (zh 78 75 false 15) (.take 10 (gi 79 75 false 1 77 78) (.take 11 (gl 80 75 false 79) (.take 12 (go 81 75 false 80) (.take 13 (yq 82 75 true 81) (.take 14 (zm 83 82) (.take 15 (zh 84 83 false 16) (.take 16 (ge 85 83 false 84) (.take 17 (gk 86 83 false .neq 85 3) (.take 18 (yq 87 83 true 86) (.take 19 (zm 88 87) (.take 20 (zh 89 88 false 16) (.take 21 (zh 90 88 false 4) (.take 22 (gi 91 88 false 4 89 90) (.take 23 (gf 92 88 false 2 91) (.take 24 (gl 93 88 false 92) (.take 25 (gk 94 88 false .neq 93 0) (.take 26 (yq 95 88 true 94) (.take 27 (zm 96 95) (.take 28 (zg 97 96 false (.ld true 5 (.t 6))) (.take 29 (zh 98 96 false 16) (.take 30 (zh 99 96 false 4) (.take 31 (gi 100 96 false 4 98 99) (.take 32 (gf 101 96 false 3 100) (.take 33 (gl 102 96 false 101) (.eff 34 0 false (zg 103 96 false (.call 17 [.t 97,.t 102])) (.phase [1,4,8,11,24,28,33,42] (.take 35 (go 104 96 false 103) (.take 36 (yq 105 96 true 104) (.take 37 (zm 106 105) (.take 38 (zh 107 106 false 16) (.take 39 (zh 108 106 false 4) (.take 40 (gi 109 106 false 4 107 108) (.take 41 (gf 110 106 false 3 109) (.take 42 (gl 111 106 false 110) (.take 43 (zh 112 106 false 1) (.take 44 (gc 113 106 false .eql 111 112) (.take 45 (yq 114 106 true 113) .nil))))))))))))))))))))))))))))))))))))))))))))))) 0 [14,16,6]) (.cond (.t 114) (zr [yb 12 true] .ret) .skip)) (.seq (zr [yn 17 0] (.block 0 (.loop (.seq (zr [zm 115 17,zm 116 2,yl 117 116,yc 118 .lss 115 117] (.cond (.t 118) .skip (.exit 0))) (.seq (.block 1 (zr [zm 121 2,zm 122 17,yi 123 19 121 122,zf 124 1 123,zl 125 124,zm 126 5,yc 127 .gtr 125 126] (.cond (.t 127) (zr [yb 12 true] .ret) .skip))) (.reg [zm 119 17,yp 120 119,zm 17 120])))))) (zr [zm 128 13,zm 129 16,zm 130 4,yi 131 4 129 130,zf 132 3 131,zl 133 132,zm 134 1,zm 135 3,zm 136 4,zs 137 (.bld [se,se,zi,zi,zi,se,se,se,zi,zi,se,zi,sn,sn] [(0,(1,.t 133)),(1,(1,.t 134)),(3,(1,.c (.int .i64 20))),(5,(1,.t 135)),(8,(1,.t 136))]),zm 138 5,zs 139 (.call 18 [.t 128,.t 137,.t 138]),zm 18 139] (.seq (.seq (.dreg (.take 0 (zm 140 18) (.take 1 (yl 141 140) (.take 2 (yk 142 .neq 141 1) (.take 3 (zm 143 142) (.take 4 (zh 144 143 false 18) (.take 5 (zg 145 143 false (.iad 14 (.t 144) (.c zi))) (.take 6 (gf 146 143 false 3 145) (.take 7 (gl 147 143 false 146) (.take 8 (gk 148 143 false .neq 147 21) (.take 9 (yq 149 143 true 148) (.take 10 (zm 150 149) (.take 11 (zh 151 150 false 18) (.take 12 (zg 152 150 false (.iad 14 (.t 151) (.c zi))) (.take 13 (gf 153 150 false 1 152) (.take 14 (gl 154 150 false 153) (.take 15 (zh 155 150 false 16) (.take 16 (zh 156 150 false 4) (.take 17 (gi 157 150 false 4 155 156) (.take 18 (gf 158 150 false 3 157) (.take 19 (gl 159 150 false 158) (.take 20 (gc 160 150 false .neq 154 159) (.take 21 (yq 161 150 true 160) (.take 22 (zm 162 161) (.take 23 (zh 163 162 false 18) (.take 24 (zg 164 162 false (.iad 14 (.t 163) (.c zi))) (.take 25 (gf 165 162 false 13 164) (.take 26 (gl 166 162 false 165) (.take 27 (gf 167 162 false 1 6) (.take 28 (gl 168 162 false 167) (.take 29 (zh 169 162 false 15) (.take 30 (gi 170 162 false 17 168 169) (.take 31 (zg 171 162 false (.ld true 17 (.t 170))) (.eff 32 0 true (zg 172 162 false (.call 20 [.t 171])) (.eff 33 0 false (zg 173 162 false (.call 19 [.t 166,.t 172])) (.phase [7,14,19,26,28,31] (.take 34 (go 174 162 false 173) (.take 35 (yq 175 162 true 174) .nil))))))))))))))))))))))))))))))))))))) 0 [18,16,6]) (.cond (.t 175) (zr [yb 12 false] .ret) .skip)) (.seq (zr [yn 19 0] (.block 2 (.loop (.seq (zr [zm 176 19,yk 177 .lss 176 3] (.cond (.t 177) .skip (.exit 2))) (.seq (.block 3 (zr [zm 180 13,zm 181 16,zm 182 19,yi 183 4 181 182,zf 184 3 183,zl 185 184,zm 186 1,zm 187 3,zm 188 19,zs 189 (.bld [se,se,zi,zi,zi,se,se,se,zi,zi,se,zi,sn,sn] [(0,(1,.t 185)),(1,(1,.t 186)),(3,(1,.c (.int .i64 20))),(5,(1,.t 187)),(8,(1,.t 188))]),zm 190 5,zs 191 (.call 18 [.t 180,.t 189,.t 190]),zm 20 191] (zr [zm 192 20,yl 193 192,yk 194 .eql 193 1,zm 195 194,zh 196 195 true 20,zg 197 195 true (.iad 14 (.t 196) (.c zi)),gf 198 195 true 3 197,gl 199 195 true 198,gk 200 195 true .neq 199 22,yr 201 195 200 false,zm 202 201,zh 203 202 false 20,ge 204 202 false 203,gk 205 202 false .gtr 204 1,yq 206 202 true 205] (.cond (.t 206) (zr [yb 12 false] .ret) .skip)))) (.reg [zm 178 19,yp 179 178,zm 19 179])))))) (zr [yb 12 true] .ret)))))))))))),[.tmp 12]⟩
end Go.Proofs.YtigdiekbiphhmaaGreatDoor
noncomputable section
namespace Go.Proofs.YtigdiekbiphhmaaGreatDoor
open Go.RowKit
set_option maxHeartbeats 8000000
set_option maxRecDepth 100000
structure WC where
 s:gW
 name:bG
 l:List fX
 deal:bG
 index:Int
 day:Int
structure Xl (q:WC):Prop where
 f:Fj ⟨q.s,q.name,q.l⟩
 d:∀o∈q.l,Bx o.day
 z:eR q.deal
def WA:dN:=spec (fun q:WC=>[HM q.s,.str q.name,.sl 19 (bI nJ q.l),.str q.deal,.i q.index,.i q.day]) (fun _=>[]) Xl (fun _=>.bl true) fun _=>[]
theorem CR (P:bH) (haw:bJ P 11 Ao) (hfe:bJ P 12 Gv) (hdl:bJ P 13 mJ) (hpl:bJ P 14 Cl) (hre:bJ P 15 ME) (hor:bJ P 16 rV) (hpa:bJ P 17 lK) (hta:bJ P 18 (pT fun _=>True)) (hsm:bJ P 19 KB) (hmk:bJ P 20 mV):bN P x3 WA:=by
 intro args H K hc;obtain⟨⟨s,name,l,deal,index,day⟩,rfl,rfl,hp,hK⟩:=hc;refine⟨cN,?_⟩;dsimp only at hp hK⊢;obtain⟨hf,hd,hz0⟩:=hp
 try dsimp only at hf hd hz0
 unfold eR at hz0;obtain⟨parties,deals,funds,rest,holidays⟩:=s;cbv
 (refine XG haw () trivial ?_;try dsimp only)
 cbv;refine cK hfe (⟨⟨parties,deals,funds,rest,holidays⟩,name,l⟩:CI) [] hf rfl rfl (by decide) rfl rfl rfl rfl rfl ?_;intro b hb;cases b with
 |false=>
  cbv
  (refine .q9 ?_;cbv;exact .inl (.f9 hK))
 |true=>
  have hok:=Rl (hb rfl) hd;have hll:=hok.l;dsimp only at hll;have hs:=hok.s;have hlo:=hok.o;dsimp only at hs hlo;cbv
  (refine XG hdl ((⟨parties,deals,funds,rest,holidays⟩,name,deal):gW×bG×bG) hs.de ?_;try dsimp only)
  obtain⟨oi,hoi⟩:∃o,o=cX (gW.su ⟨parties,deals,funds,rest,holidays⟩) name deal:=⟨_,rfl⟩
  rw[←hoi];cases oi with
  |none=>
   cbv;repeat'((first|refine .y fun h=>?_|fail)<;>cbv)
   (refine .q9 ?_;cbv;exact .inl (.f9 hK))
  |some i=>
  cbv;repeat'((first|refine .n fun h=>?_|refine .mk (fun h=>?_) fun h=>?_|fail)<;>cbv)
  all_goals first
  |((refine .q9 ?_;cbv;exact .inl (.f9 hK)))
  |skip
  refine cK hpl (⟨⟨parties,deals,funds,rest,holidays⟩,name,l⟩:VP) [] hok rfl rfl (by decide) rfl rfl rfl rfl rfl ?_;intro C hj;dsimp only at hj;have hinv:=hj.inv;have hreg:=hj.rel.reg;have hxS:=hj.xb.S;have hxF:=hj.xb.F;obtain⟨x,hx⟩:∃x,x=pN ⟨parties,deals,funds,rest,holidays⟩ name l:=⟨_,rfl⟩
  try dsimp only
  rw[←hx]at hj hreg hxS hxF⊢;obtain⟨nameA,partiesA,dealsA,⟨rcA,rLA⟩,custA,delivA⟩:=C;obtain⟨S,free,⟨c,L⟩,H,D⟩:=x;dsimp only at hinv hxS hxF;have hall:=hinv.inB (by omega);have hbz:(Dj++deal).size=3+deal.size:=by rw[ByteArray.size_append];rfl
  obtain⟨bn,hbn⟩:∃b,b=Dj++deal:=⟨_,rfl⟩
  rw[←hbn]at hbz;obtain⟨e,he1,he2,he3⟩:=jX hoi.symm;obtain⟨dx,hdx,hde⟩:∃dx,deals[i]?=some dx∧iW.de dx=e:=by
   have he1:(deals.map iW.de)[i]?=some e:=he1;rw[aD]at he1;cases hh:deals[i]? with
   |none=>rw[hh]at he1;cases he1
   |some dx=>rw[hh]at he1;cases he1;exact⟨dx,rfl,rfl⟩
  have hil:=(aA.1 hdx).1;obtain⟨st,hst⟩:=cM (L:=S) (i:=i) (by omega);obtain⟨fr,hfr⟩:=cM (L:=free) (i:=i) (by omega);cbv
  (refine XG hdl ((⟨parties,deals,funds,rest,holidays⟩,name,deal):gW×bG×bG) hs.de ?_;try dsimp only)
  rw[←hoi];cbv;refine cK hre (⟨nameA,partiesA,dealsA,⟨rcA,rLA⟩,custA,delivA⟩:Cr) [1,2,3,4,5,6,7,8] ⟨hinv.few,hall,hinv.nd⟩ rfl rfl (by decide) rfl rfl rfl rfl rfl ?_;intro L1 hp1;dsimp only at hp1;have horn:=Qf (n:=bn) hinv.nd hp1;dsimp only at horn;obtain⟨os,hos⟩:∃os,os=AO L1 bn:=⟨_,rfl⟩
  rw[←hos]at horn;have z3:(ByteArray.mk (Array.mk [98,108,45])).size=3:=rfl;cbv;repeat'((first|refine .u fun u hu hul=>?_|fail)<;>cbv)
  obtain rfl:u=bn:=by rw[hbn];assumption
  (refine gT hor ((⟨rcA,L1⟩:Rg),u) [10,11] trivial ?_;try dsimp only)
  rw[←hos];cases hlk:lT rLA u with
  |none=>
   rw[hlk]at horn;dsimp only at horn;subst horn;cases fr
   all_goals
    cbv;repeat'((first|refine .e ?_|refine .n fun h=>?_|refine .mk (fun h=>?_) fun h=>?_|refine .k fun z hz=>?_|fail)<;>cbv)
    all_goals first
    |((refine .q9 ?_;cbv;exact .inl (.f9 hK)))
    |fail
  |some y=>
   rw[hlk]at horn;dsimp only at horn;obtain⟨⟨nq1,cq1,sq1,frm1,to1,bq1,pq1,iq1,lq1⟩,st1,⟨sa1,ha1,ca1⟩,⟨sb1,hb1,cb1⟩,⟨sc1,hc1,cc1⟩⟩:=y;obtain rfl:os=[⟨u,0,sa1,ha1⟩,⟨u,1,sb1,hb1⟩,⟨u,2,sc1,hc1⟩]:=horn;have hix:index=0∨index=1∨index=2:=by omega
   cases fr with
   |false=>
    cbv;repeat'((first|refine .e ?_|refine .mk (fun h=>?_) fun h=>?_|fail)<;>cbv)
    all_goals first
    |((refine .q9 ?_;cbv;exact .inl (.f9 hK)))
    |fail
   |true=>
   rcases hix with rfl|rfl|rfl
   ·cbv;repeat'((first|refine .e ?_|refine .y fun h=>?_|refine .mk (fun h=>?_) fun h=>?_|refine .k fun z hz=>?_|refine bP.i0 ?_|fail)<;>cbv)
    all_goals first
    |((refine .q9 ?_;cbv;exact .inl (.f9 hK)))
    |skip
    (refine XG hpa ((⟨parties,deals,funds,rest,holidays⟩,ha1):gW×bG) hs.pa ?_;try dsimp only)
    obtain⟨bp,hbp⟩:∃b,b=iS (gW.su ⟨parties,deals,funds,rest,holidays⟩).parties ha1:=⟨_,rfl⟩
    rw[←hbp];cases bp with
    |false=>
     cbv
     all_goals first
     |((refine .q9 ?_;cbv;exact .inl (.f9 hK)))
     |fail
    |true=>
    cbv;repeat'((first|refine .mk (fun h=>?_) fun h=>?_|refine bP.i0 ?_|fail)<;>cbv)
    all_goals first
    |((refine .q9 ?_;cbv;exact .inl (.f9 hK)))
    |skip
    refine iI (Gh.sel (st':=⟨[(1,.str name),(2,.sl 19 (bI nJ l)),(3,.str deal),(4,.i 0),(5,.i day),(6,.ptr 0 0),(13,.ptr 1 0),(14,.ptr 9 0),(15,.i (Int.ofNat i)),(16,.sl 4 [.agg [.str u,.i 0,.i sa1,.str ha1],.agg [.str u,.i 1,.i sb1,.str hb1],.agg [.str u,.i 2,.i sc1,.str hc1]]),(17,.i 0)],[.blk 29 [.sl 3 (bI jQ parties),.sl 17 (bI iJ deals),.sl 3 (bI jT funds),.sl 1 (bI cY rest),.sl 1 (bI cY holidays)],.blk 118 [.str (⟨nameA,partiesA,dealsA,⟨rcA,rLA⟩,custA,delivA⟩:Cr).name,.hd 2,.ph 3,.ptr 4 0,.ptr 6 0,.hd 8],.map 70 (bI iH (⟨nameA,partiesA,dealsA,⟨rcA,rLA⟩,custA,delivA⟩:Cr).parties),.pool 116 (bI gZ (⟨nameA,partiesA,dealsA,⟨rcA,rLA⟩,custA,delivA⟩:Cr).deals) [],.blk 122 [.str (⟨nameA,partiesA,dealsA,⟨rcA,rLA⟩,custA,delivA⟩:Cr).reg.carrier,.ph 5],.pool 120 (bI eD (⟨nameA,partiesA,dealsA,⟨rcA,rLA⟩,custA,delivA⟩:Cr).reg.bills) [],.blk 174 [.ph 7],.pool 172 (bI gE (⟨nameA,partiesA,dealsA,⟨rcA,rLA⟩,custA,delivA⟩:Cr).cust) [],.tip 77 5 (bI dC (⟨nameA,partiesA,dealsA,⟨rcA,rLA⟩,custA,delivA⟩:Cr).deliv),.blk 41 [.sl 1 (bI cY S),.sl 1 (bI mR free),.str c,.sl 11 (bI iD L),.sl 5 (bI dC H),.sl 5 (bI dC D)],.blk 122 [.str rcA,.ph 11],.pool 120 (bI eD L1) []]⟩) [0,1,2,3,4,5,6,7,8,9,10,11] (by repeat'(first|exact trivial|refine⟨.inl rfl,?_⟩|refine⟨.inr rfl,?_⟩)) rfl (by decide) rfl rfl) ?_;refine bV [] (fun p:{ k:Nat // k≤l.length∧∀j q,j < k→l[j]?=some q→q.day≤day }=>[(17,.i (nI p.1))]) (fun _=>[.blk 29 [.sl 3 (bI jQ parties),.sl 17 (bI iJ deals),.sl 3 (bI jT funds),.sl 1 (bI cY rest),.sl 1 (bI cY holidays)],.blk 118 [.str (⟨nameA,partiesA,dealsA,⟨rcA,rLA⟩,custA,delivA⟩:Cr).name,.hd 2,.ph 3,.ptr 4 0,.ptr 6 0,.hd 8],.map 70 (bI iH (⟨nameA,partiesA,dealsA,⟨rcA,rLA⟩,custA,delivA⟩:Cr).parties),.pool 116 (bI gZ (⟨nameA,partiesA,dealsA,⟨rcA,rLA⟩,custA,delivA⟩:Cr).deals) [],.blk 122 [.str (⟨nameA,partiesA,dealsA,⟨rcA,rLA⟩,custA,delivA⟩:Cr).reg.carrier,.ph 5],.pool 120 (bI eD (⟨nameA,partiesA,dealsA,⟨rcA,rLA⟩,custA,delivA⟩:Cr).reg.bills) [],.blk 174 [.ph 7],.pool 172 (bI gE (⟨nameA,partiesA,dealsA,⟨rcA,rLA⟩,custA,delivA⟩:Cr).cust) [],.tip 77 5 (bI dC (⟨nameA,partiesA,dealsA,⟨rcA,rLA⟩,custA,delivA⟩:Cr).deliv),.blk 41 [.sl 1 (bI cY S),.sl 1 (bI mR free),.str c,.sl 11 (bI iD L),.sl 5 (bI dC H),.sl 5 (bI dC D)],.blk 122 [.str rcA,.ph 11],.pool 120 (bI eD L1) []]) (fun p=>fK 41 p.1) ⟨0,aI _,kF⟩ ?_;rintro ⟨k,hk,hkd⟩;dsimp only at hk hkd⊢;rcases aL k l.length with hks|hks
    ·obtain⟨⟨okind,oday,⟨ak,an,adeal⟩,⟨ofrm,oto,onumber,olkind,oack,oldeal,otext,oparty,oindex,oday0,ocur,oamt,odocs,oboxes⟩⟩,ho⟩:=cM hks;cbv;repeat'((first|refine .e ?_|refine .y fun h=>?_|refine .mk (fun h=>?_) fun h=>?_|refine .k fun z hz=>?_|fail)<;>cbv)
     all_goals first
     |((refine .q9 ?_;cbv;exact .inl (.f9 hK)))
     |skip
     obtain rfl:z=nI (k+1):=bS;exact bL ⟨k+1,hks,jU (p:=fun q:fX=>q.day≤day) hkd ho (by assumption)⟩ (bM (by omega))
    ·have hkn:k=l.length:=by omega
     have hI:eZ day (gW.su ⟨parties,deals,funds,rest,holidays⟩) name (pN ⟨parties,deals,funds,rest,holidays⟩ name l):=eZ.play hs (lV (p:=fun q:fX=>q.day≤day) (by rw[←hkn];rw[hkn]at hkd;rw[hkn];exact hkd));rw[←hx]at hI;obtain rfl:st=3:=by assumption
     have hne:¬ha1=name:=by assumption
     obtain rfl:sa1=0:=by assumption
     have hdb:eN day=true:=by unfold eN;simp;omega
     have hg:∀L0:List dB,L0.Perm custA→∃C' x',eF (⟨nameA,partiesA,dealsA,⟨rcA,rLA⟩,custA,delivA⟩:Cr) (eB ha1 name deal 0) day L0=(true,C',[{ lX with to:=ha1,kind:=21,deal:=deal,day:=day,boxes:=dx.marks }])∧Jt (l.length+1) ⟨parties,deals,funds,rest,holidays⟩ name C' x'∧x'.S[i]?=some 4:=fun L0 hp=>hj.gift hs hI hoi.symm hdx hst hfr (y:=⟨⟨nq1,cq1,sq1,frm1,to1,bq1,pq1,iq1,lq1⟩,st1,⟨0,ha1,ca1⟩,⟨sb1,hb1,cb1⟩,⟨sc1,hc1,cc1⟩⟩) (by show lT rLA (Dj++deal)=_;rw[show Dj++deal=u from hu.symm];exact hlk) (j:=0) (by decide) rfl hbp.symm hne hdb hp
     have hgt:=hj.tqOk (l:=eB ha1 name deal 0) (day:=day) (by omega);have hmb:dx.boxes.length≤70:=(hs.ok dx (aC hdx)).bx;obtain⟨mks,hmks⟩:∃m,m=dx.marks:=⟨_,rfl⟩
     have hml:mks.length≤70:=by rw[hmks];show (dx.boxes.map Dx.mark).length≤70;rw[aJ];exact hmb
     rw[←hmks]at hg;obtain⟨dnumber,dseller,dbuyer,dcarrier,dissuer,dhouse,dinsurer,dfrm,dto,dcur,damt,dboxes,dterm,dlatest,dexpiry,dtenor,dduty⟩:=dx;dsimp only at hmb;clear hj hI hp1 hx;cbv;repeat'((first|refine .n fun h=>?_|refine .k fun z hz=>?_|refine bP.i0 ?_|fail)<;>cbv)
     refine fI [.ptr 1 0,dP (eB ha1 name deal 0),.i day] (by
      show wA _ [.ptr 1 0,.agg [.str ha1,.str name,.i 0,.i 20,.i 0,.str deal,.str eS,.str eS,.i 0,.i 0,.str eS,.i 0,.sl 4 [],.sl 1 []],.i day]
      repeat'(first|exact trivial|exact hY.refl _|exact hY.nil _|refine hY.agg ?_|refine hY.sl ?_|refine And.intro ?_ ?_)) ?_
     refine cK hta (⟨(⟨nameA,partiesA,dealsA,⟨rcA,rLA⟩,custA,delivA⟩:Cr),eB ha1 name deal 0,day⟩:TQ) [1,2,3,4,5,6,7,8] ⟨trivial,hgt⟩ rfl rfl (by decide) rfl rfl rfl rfl rfl ?_;intro L0 hp0;obtain⟨C',x',e1,j1,s4⟩:=hg L0 hp0
     try dsimp only
     rw[e1];have hov:=fun(who:bG) (j:Int) (L0:List dB)=>j1.over hs hoi.symm s4 who j day L0
     have hqt:=fun(who:bG) (j:Int)=>j1.tqOk (l:=eB who name deal j) (day:=day) (by omega)
     obtain⟨bR,partiesB,dealsB,⟨rcB,rLB⟩,custB,delivB⟩:=C';clear hg hgt e1 j1;cbv;repeat'((first|refine kS.r ?_|refine kT.r ?_|(first|refine .e ?_|refine .y fun h=>?_|refine .k fun z hz=>?_|fail)|refine bP.i0 ?_|refine bP.i1 ?_|refine bP.i2 ?_|refine bO.i0 ?_|refine bO.i1 ?_|refine bO.i2 ?_)<;>cbv)
     (refine XG hmk (⟨dnumber,dseller,dbuyer,dcarrier,dissuer,dhouse,dinsurer,dfrm,dto,dcur,damt,dboxes,dterm,dlatest,dexpiry,dtenor,dduty⟩:iW) hmb ?_;try dsimp only)
     rw[←hmks];cbv;repeat'((first|refine kS.r ?_|refine kT.r ?_|(first|fail)|refine bP.i0 ?_|refine bP.i1 ?_|refine bP.i2 ?_|refine bO.i0 ?_|refine bO.i1 ?_|refine bO.i2 ?_)<;>cbv)
     (refine XG hsm ((mks,mks):List bG×List bG) ⟨by dsimp only;omega,by dsimp only;omega⟩ ?_;try dsimp only)
     rw[show decide (mks=mks)=true from aH rfl];cbv;repeat'((first|refine kS.r ?_|refine kT.r ?_|(first|fail)|refine bP.i0 ?_|refine bP.i1 ?_|refine bP.i2 ?_|refine bO.i0 ?_|refine bO.i1 ?_|refine bO.i2 ?_)<;>cbv)
     refine bV [] (fun p:{ k:Nat // k≤3 }=>[(19,.i (nI p.1))]) (fun _=>[.blk 29 [.sl 3 (bI jQ parties),.sl 17 (bI iJ deals),.sl 3 (bI jT funds),.sl 1 (bI cY rest),.sl 1 (bI cY holidays)],.blk 118 [.str bR,.hd 2,.ph 3,.ptr 4 0,.ptr 12 0,.hd 8],.map 70 (bI iH partiesB),.pool 116 (bI gZ dealsB) [],.blk 122 [.str rcB,.ph 5],.pool 120 (bI eD rLB) [],.blk 174 [.ph 7],.pool 172 (bI gE custA) [],.tip 77 5 (bI dC delivB),.blk 41 [.sl 1 (bI cY S),.sl 1 (bI mR free),.str c,.sl 11 (bI iD L),.sl 5 (bI dC H),.sl 5 (bI dC D)],.blk 122 [.str rcA,.ph 11],.pool 120 (bI eD L1) [],.blk 174 [.ph 13],.pool 172 (bI gE custB) []]) (fun p=>fK 3 p.1) ⟨0,by decide⟩ ?_;rintro ⟨kk,hkk⟩;dsimp only at hkk⊢;have hk4:kk=0∨kk=1∨kk=2∨kk=3:=by omega
     rcases hk4 with rfl|rfl|rfl|rfl
     ·cbv;repeat'((first|refine kS.r ?_|refine kT.r ?_|(first|refine .y fun h=>?_|fail)|refine bP.i0 ?_|refine bP.i1 ?_|refine bP.i2 ?_|refine bO.i0 ?_|refine bO.i1 ?_|refine bO.i2 ?_)<;>cbv)
      refine fI [.ptr 1 0,dP (eB ha1 name deal 0),.i day] (by
       show wA _ [.ptr 1 0,.agg [.str ha1,.str name,.i 0,.i 20,.i 0,.str deal,.str eS,.str eS,.i 0,.i 0,.str eS,.i 0,.sl 4 [],.sl 1 []],.i day]
       repeat'(first|exact trivial|exact hY.refl _|exact hY.nil _|refine hY.agg ?_|refine hY.sl ?_|refine And.intro ?_ ?_)) ?_
      refine cK hta (⟨(⟨bR,partiesB,dealsB,⟨rcB,rLB⟩,custB,delivB⟩:Cr),eB ha1 name deal 0,day⟩:TQ) [1,2,3,4,5,12,13,8] ⟨trivial,hqt ha1 0⟩ rfl rfl (by decide) rfl rfl rfl rfl rfl ?_;intro L2 hp2;obtain⟨ls,e2,hls⟩:=hov ha1 0 L2
      try dsimp only
      rw[e2];have hlk:ls=[]∨∃o,ls=[o]∧o.kind=22:=hls;rcases hlk with rfl|⟨⟨frm3,to3,nq3,kind3,ack3,deal3,text3,party3,index3,day3,cur3,amt3,docs3,bq3⟩,rfl,hk22⟩
      ·cbv;repeat'((first|refine kS.r ?_|refine kT.r ?_|(first|refine .n fun h=>?_|refine .k fun z hz=>?_|fail)|refine bP.i0 ?_|refine bP.i1 ?_|refine bP.i2 ?_|refine bO.i0 ?_|refine bO.i1 ?_|refine bO.i2 ?_)<;>cbv)
       all_goals
        obtain rfl:z=nI 1:=bS;exact bL ⟨1,by decide⟩ (bM (by decide))
      ·obtain rfl:kind3=22:=hk22;cbv;repeat'((first|refine kS.r ?_|refine kT.r ?_|(first|refine .n fun h=>?_|refine .y fun h=>?_|refine .k fun z hz=>?_|fail)|refine bP.i0 ?_|refine bP.i1 ?_|refine bP.i2 ?_|refine bO.i0 ?_|refine bO.i1 ?_|refine bO.i2 ?_)<;>cbv)
       all_goals
        obtain rfl:z=nI 1:=bS;exact bL ⟨1,by decide⟩ (bM (by decide))
     ·cbv;repeat'((first|refine kS.r ?_|refine kT.r ?_|(first|refine .y fun h=>?_|fail)|refine bP.i0 ?_|refine bP.i1 ?_|refine bP.i2 ?_|refine bO.i0 ?_|refine bO.i1 ?_|refine bO.i2 ?_)<;>cbv)
      refine fI [.ptr 1 0,dP (eB hb1 name deal 1),.i day] (by
       show wA _ [.ptr 1 0,.agg [.str hb1,.str name,.i 0,.i 20,.i 0,.str deal,.str eS,.str eS,.i 1,.i 0,.str eS,.i 0,.sl 4 [],.sl 1 []],.i day]
       repeat'(first|exact trivial|exact hY.refl _|exact hY.nil _|refine hY.agg ?_|refine hY.sl ?_|refine And.intro ?_ ?_)) ?_
      refine cK hta (⟨(⟨bR,partiesB,dealsB,⟨rcB,rLB⟩,custB,delivB⟩:Cr),eB hb1 name deal 1,day⟩:TQ) [1,2,3,4,5,12,13,8] ⟨trivial,hqt hb1 1⟩ rfl rfl (by decide) rfl rfl rfl rfl rfl ?_;intro L2 hp2;obtain⟨ls,e2,hls⟩:=hov hb1 1 L2
      try dsimp only
      rw[e2];have hlk:ls=[]∨∃o,ls=[o]∧o.kind=22:=hls;rcases hlk with rfl|⟨⟨frm3,to3,nq3,kind3,ack3,deal3,text3,party3,index3,day3,cur3,amt3,docs3,bq3⟩,rfl,hk22⟩
      ·cbv;repeat'((first|refine kS.r ?_|refine kT.r ?_|(first|refine .n fun h=>?_|refine .k fun z hz=>?_|fail)|refine bP.i0 ?_|refine bP.i1 ?_|refine bP.i2 ?_|refine bO.i0 ?_|refine bO.i1 ?_|refine bO.i2 ?_)<;>cbv)
       all_goals
        obtain rfl:z=nI 2:=bS;exact bL ⟨2,by decide⟩ (bM (by decide))
      ·obtain rfl:kind3=22:=hk22;cbv;repeat'((first|refine kS.r ?_|refine kT.r ?_|(first|refine .n fun h=>?_|refine .y fun h=>?_|refine .k fun z hz=>?_|fail)|refine bP.i0 ?_|refine bP.i1 ?_|refine bP.i2 ?_|refine bO.i0 ?_|refine bO.i1 ?_|refine bO.i2 ?_)<;>cbv)
       all_goals
        obtain rfl:z=nI 2:=bS;exact bL ⟨2,by decide⟩ (bM (by decide))
     ·cbv;repeat'((first|refine kS.r ?_|refine kT.r ?_|(first|refine .y fun h=>?_|fail)|refine bP.i0 ?_|refine bP.i1 ?_|refine bP.i2 ?_|refine bO.i0 ?_|refine bO.i1 ?_|refine bO.i2 ?_)<;>cbv)
      refine fI [.ptr 1 0,dP (eB hc1 name deal 2),.i day] (by
       show wA _ [.ptr 1 0,.agg [.str hc1,.str name,.i 0,.i 20,.i 0,.str deal,.str eS,.str eS,.i 2,.i 0,.str eS,.i 0,.sl 4 [],.sl 1 []],.i day]
       repeat'(first|exact trivial|exact hY.refl _|exact hY.nil _|refine hY.agg ?_|refine hY.sl ?_|refine And.intro ?_ ?_)) ?_
      refine cK hta (⟨(⟨bR,partiesB,dealsB,⟨rcB,rLB⟩,custB,delivB⟩:Cr),eB hc1 name deal 2,day⟩:TQ) [1,2,3,4,5,12,13,8] ⟨trivial,hqt hc1 2⟩ rfl rfl (by decide) rfl rfl rfl rfl rfl ?_;intro L2 hp2;obtain⟨ls,e2,hls⟩:=hov hc1 2 L2
      try dsimp only
      rw[e2];have hlk:ls=[]∨∃o,ls=[o]∧o.kind=22:=hls;rcases hlk with rfl|⟨⟨frm3,to3,nq3,kind3,ack3,deal3,text3,party3,index3,day3,cur3,amt3,docs3,bq3⟩,rfl,hk22⟩
      ·cbv;repeat'((first|refine kS.r ?_|refine kT.r ?_|(first|refine .n fun h=>?_|refine .k fun z hz=>?_|fail)|refine bP.i0 ?_|refine bP.i1 ?_|refine bP.i2 ?_|refine bO.i0 ?_|refine bO.i1 ?_|refine bO.i2 ?_)<;>cbv)
       all_goals
        obtain rfl:z=nI 3:=bS;exact bL ⟨3,by decide⟩ (bM (by decide))
      ·obtain rfl:kind3=22:=hk22;cbv;repeat'((first|refine kS.r ?_|refine kT.r ?_|(first|refine .n fun h=>?_|refine .y fun h=>?_|refine .k fun z hz=>?_|fail)|refine bP.i0 ?_|refine bP.i1 ?_|refine bP.i2 ?_|refine bO.i0 ?_|refine bO.i1 ?_|refine bO.i2 ?_)<;>cbv)
       all_goals
        obtain rfl:z=nI 3:=bS;exact bL ⟨3,by decide⟩ (bM (by decide))
     ·cbv;repeat'((first|refine kS.r ?_|refine kT.r ?_|(first|refine .n fun h=>?_|fail)|refine bP.i0 ?_|refine bP.i1 ?_|refine bP.i2 ?_|refine bO.i0 ?_|refine bO.i1 ?_|refine bO.i2 ?_)<;>cbv)
      (refine .q9 ?_;cbv;exact .inl (.f9 hK))
   ·cbv;repeat'((first|refine .e ?_|refine .y fun h=>?_|refine .mk (fun h=>?_) fun h=>?_|refine .k fun z hz=>?_|refine bP.i1 ?_|fail)<;>cbv)
    all_goals first
    |((refine .q9 ?_;cbv;exact .inl (.f9 hK)))
    |skip
    (refine XG hpa ((⟨parties,deals,funds,rest,holidays⟩,hb1):gW×bG) hs.pa ?_;try dsimp only)
    obtain⟨bp,hbp⟩:∃b,b=iS (gW.su ⟨parties,deals,funds,rest,holidays⟩).parties hb1:=⟨_,rfl⟩
    rw[←hbp];cases bp with
    |false=>
     cbv
     all_goals first
     |((refine .q9 ?_;cbv;exact .inl (.f9 hK)))
     |fail
    |true=>
    cbv;repeat'((first|refine .mk (fun h=>?_) fun h=>?_|refine bP.i1 ?_|fail)<;>cbv)
    all_goals first
    |((refine .q9 ?_;cbv;exact .inl (.f9 hK)))
    |skip
    refine iI (Gh.sel (st':=⟨[(1,.str name),(2,.sl 19 (bI nJ l)),(3,.str deal),(4,.i 1),(5,.i day),(6,.ptr 0 0),(13,.ptr 1 0),(14,.ptr 9 0),(15,.i (Int.ofNat i)),(16,.sl 4 [.agg [.str u,.i 0,.i sa1,.str ha1],.agg [.str u,.i 1,.i sb1,.str hb1],.agg [.str u,.i 2,.i sc1,.str hc1]]),(17,.i 0)],[.blk 29 [.sl 3 (bI jQ parties),.sl 17 (bI iJ deals),.sl 3 (bI jT funds),.sl 1 (bI cY rest),.sl 1 (bI cY holidays)],.blk 118 [.str (⟨nameA,partiesA,dealsA,⟨rcA,rLA⟩,custA,delivA⟩:Cr).name,.hd 2,.ph 3,.ptr 4 0,.ptr 6 0,.hd 8],.map 70 (bI iH (⟨nameA,partiesA,dealsA,⟨rcA,rLA⟩,custA,delivA⟩:Cr).parties),.pool 116 (bI gZ (⟨nameA,partiesA,dealsA,⟨rcA,rLA⟩,custA,delivA⟩:Cr).deals) [],.blk 122 [.str (⟨nameA,partiesA,dealsA,⟨rcA,rLA⟩,custA,delivA⟩:Cr).reg.carrier,.ph 5],.pool 120 (bI eD (⟨nameA,partiesA,dealsA,⟨rcA,rLA⟩,custA,delivA⟩:Cr).reg.bills) [],.blk 174 [.ph 7],.pool 172 (bI gE (⟨nameA,partiesA,dealsA,⟨rcA,rLA⟩,custA,delivA⟩:Cr).cust) [],.tip 77 5 (bI dC (⟨nameA,partiesA,dealsA,⟨rcA,rLA⟩,custA,delivA⟩:Cr).deliv),.blk 41 [.sl 1 (bI cY S),.sl 1 (bI mR free),.str c,.sl 11 (bI iD L),.sl 5 (bI dC H),.sl 5 (bI dC D)],.blk 122 [.str rcA,.ph 11],.pool 120 (bI eD L1) []]⟩) [0,1,2,3,4,5,6,7,8,9,10,11] (by repeat'(first|exact trivial|refine⟨.inl rfl,?_⟩|refine⟨.inr rfl,?_⟩)) rfl (by decide) rfl rfl) ?_;refine bV [] (fun p:{ k:Nat // k≤l.length∧∀j q,j < k→l[j]?=some q→q.day≤day }=>[(17,.i (nI p.1))]) (fun _=>[.blk 29 [.sl 3 (bI jQ parties),.sl 17 (bI iJ deals),.sl 3 (bI jT funds),.sl 1 (bI cY rest),.sl 1 (bI cY holidays)],.blk 118 [.str (⟨nameA,partiesA,dealsA,⟨rcA,rLA⟩,custA,delivA⟩:Cr).name,.hd 2,.ph 3,.ptr 4 0,.ptr 6 0,.hd 8],.map 70 (bI iH (⟨nameA,partiesA,dealsA,⟨rcA,rLA⟩,custA,delivA⟩:Cr).parties),.pool 116 (bI gZ (⟨nameA,partiesA,dealsA,⟨rcA,rLA⟩,custA,delivA⟩:Cr).deals) [],.blk 122 [.str (⟨nameA,partiesA,dealsA,⟨rcA,rLA⟩,custA,delivA⟩:Cr).reg.carrier,.ph 5],.pool 120 (bI eD (⟨nameA,partiesA,dealsA,⟨rcA,rLA⟩,custA,delivA⟩:Cr).reg.bills) [],.blk 174 [.ph 7],.pool 172 (bI gE (⟨nameA,partiesA,dealsA,⟨rcA,rLA⟩,custA,delivA⟩:Cr).cust) [],.tip 77 5 (bI dC (⟨nameA,partiesA,dealsA,⟨rcA,rLA⟩,custA,delivA⟩:Cr).deliv),.blk 41 [.sl 1 (bI cY S),.sl 1 (bI mR free),.str c,.sl 11 (bI iD L),.sl 5 (bI dC H),.sl 5 (bI dC D)],.blk 122 [.str rcA,.ph 11],.pool 120 (bI eD L1) []]) (fun p=>fK 41 p.1) ⟨0,aI _,kF⟩ ?_;rintro ⟨k,hk,hkd⟩;dsimp only at hk hkd⊢;rcases aL k l.length with hks|hks
    ·obtain⟨⟨okind,oday,⟨ak,an,adeal⟩,⟨ofrm,oto,onumber,olkind,oack,oldeal,otext,oparty,oindex,oday0,ocur,oamt,odocs,oboxes⟩⟩,ho⟩:=cM hks;cbv;repeat'((first|refine .e ?_|refine .y fun h=>?_|refine .mk (fun h=>?_) fun h=>?_|refine .k fun z hz=>?_|fail)<;>cbv)
     all_goals first
     |((refine .q9 ?_;cbv;exact .inl (.f9 hK)))
     |skip
     obtain rfl:z=nI (k+1):=bS;exact bL ⟨k+1,hks,jU (p:=fun q:fX=>q.day≤day) hkd ho (by assumption)⟩ (bM (by omega))
    ·have hkn:k=l.length:=by omega
     have hI:eZ day (gW.su ⟨parties,deals,funds,rest,holidays⟩) name (pN ⟨parties,deals,funds,rest,holidays⟩ name l):=eZ.play hs (lV (p:=fun q:fX=>q.day≤day) (by rw[←hkn];rw[hkn]at hkd;rw[hkn];exact hkd));rw[←hx]at hI;obtain rfl:st=3:=by assumption
     have hne:¬hb1=name:=by assumption
     obtain rfl:sb1=0:=by assumption
     have hdb:eN day=true:=by unfold eN;simp;omega
     have hg:∀L0:List dB,L0.Perm custA→∃C' x',eF (⟨nameA,partiesA,dealsA,⟨rcA,rLA⟩,custA,delivA⟩:Cr) (eB hb1 name deal 1) day L0=(true,C',[{ lX with to:=hb1,kind:=21,deal:=deal,day:=day,boxes:=dx.marks }])∧Jt (l.length+1) ⟨parties,deals,funds,rest,holidays⟩ name C' x'∧x'.S[i]?=some 4:=fun L0 hp=>hj.gift hs hI hoi.symm hdx hst hfr (y:=⟨⟨nq1,cq1,sq1,frm1,to1,bq1,pq1,iq1,lq1⟩,st1,⟨sa1,ha1,ca1⟩,⟨0,hb1,cb1⟩,⟨sc1,hc1,cc1⟩⟩) (by show lT rLA (Dj++deal)=_;rw[show Dj++deal=u from hu.symm];exact hlk) (j:=1) (by decide) rfl hbp.symm hne hdb hp
     have hgt:=hj.tqOk (l:=eB hb1 name deal 1) (day:=day) (by omega);have hmb:dx.boxes.length≤70:=(hs.ok dx (aC hdx)).bx;obtain⟨mks,hmks⟩:∃m,m=dx.marks:=⟨_,rfl⟩
     have hml:mks.length≤70:=by rw[hmks];show (dx.boxes.map Dx.mark).length≤70;rw[aJ];exact hmb
     rw[←hmks]at hg;obtain⟨dnumber,dseller,dbuyer,dcarrier,dissuer,dhouse,dinsurer,dfrm,dto,dcur,damt,dboxes,dterm,dlatest,dexpiry,dtenor,dduty⟩:=dx;dsimp only at hmb;clear hj hI hp1 hx;cbv;repeat'((first|refine .n fun h=>?_|refine .k fun z hz=>?_|refine bP.i1 ?_|fail)<;>cbv)
     refine fI [.ptr 1 0,dP (eB hb1 name deal 1),.i day] (by
      show wA _ [.ptr 1 0,.agg [.str hb1,.str name,.i 0,.i 20,.i 0,.str deal,.str eS,.str eS,.i 1,.i 0,.str eS,.i 0,.sl 4 [],.sl 1 []],.i day]
      repeat'(first|exact trivial|exact hY.refl _|exact hY.nil _|refine hY.agg ?_|refine hY.sl ?_|refine And.intro ?_ ?_)) ?_
     refine cK hta (⟨(⟨nameA,partiesA,dealsA,⟨rcA,rLA⟩,custA,delivA⟩:Cr),eB hb1 name deal 1,day⟩:TQ) [1,2,3,4,5,6,7,8] ⟨trivial,hgt⟩ rfl rfl (by decide) rfl rfl rfl rfl rfl ?_;intro L0 hp0;obtain⟨C',x',e1,j1,s4⟩:=hg L0 hp0
     try dsimp only
     rw[e1];have hov:=fun(who:bG) (j:Int) (L0:List dB)=>j1.over hs hoi.symm s4 who j day L0
     have hqt:=fun(who:bG) (j:Int)=>j1.tqOk (l:=eB who name deal j) (day:=day) (by omega)
     obtain⟨bR,partiesB,dealsB,⟨rcB,rLB⟩,custB,delivB⟩:=C';clear hg hgt e1 j1;cbv;repeat'((first|refine kS.r ?_|refine kT.r ?_|(first|refine .e ?_|refine .y fun h=>?_|refine .k fun z hz=>?_|fail)|refine bP.i0 ?_|refine bP.i1 ?_|refine bP.i2 ?_|refine bO.i0 ?_|refine bO.i1 ?_|refine bO.i2 ?_)<;>cbv)
     (refine XG hmk (⟨dnumber,dseller,dbuyer,dcarrier,dissuer,dhouse,dinsurer,dfrm,dto,dcur,damt,dboxes,dterm,dlatest,dexpiry,dtenor,dduty⟩:iW) hmb ?_;try dsimp only)
     rw[←hmks];cbv;repeat'((first|refine kS.r ?_|refine kT.r ?_|(first|fail)|refine bP.i0 ?_|refine bP.i1 ?_|refine bP.i2 ?_|refine bO.i0 ?_|refine bO.i1 ?_|refine bO.i2 ?_)<;>cbv)
     (refine XG hsm ((mks,mks):List bG×List bG) ⟨by dsimp only;omega,by dsimp only;omega⟩ ?_;try dsimp only)
     rw[show decide (mks=mks)=true from aH rfl];cbv;repeat'((first|refine kS.r ?_|refine kT.r ?_|(first|fail)|refine bP.i0 ?_|refine bP.i1 ?_|refine bP.i2 ?_|refine bO.i0 ?_|refine bO.i1 ?_|refine bO.i2 ?_)<;>cbv)
     refine bV [] (fun p:{ k:Nat // k≤3 }=>[(19,.i (nI p.1))]) (fun _=>[.blk 29 [.sl 3 (bI jQ parties),.sl 17 (bI iJ deals),.sl 3 (bI jT funds),.sl 1 (bI cY rest),.sl 1 (bI cY holidays)],.blk 118 [.str bR,.hd 2,.ph 3,.ptr 4 0,.ptr 12 0,.hd 8],.map 70 (bI iH partiesB),.pool 116 (bI gZ dealsB) [],.blk 122 [.str rcB,.ph 5],.pool 120 (bI eD rLB) [],.blk 174 [.ph 7],.pool 172 (bI gE custA) [],.tip 77 5 (bI dC delivB),.blk 41 [.sl 1 (bI cY S),.sl 1 (bI mR free),.str c,.sl 11 (bI iD L),.sl 5 (bI dC H),.sl 5 (bI dC D)],.blk 122 [.str rcA,.ph 11],.pool 120 (bI eD L1) [],.blk 174 [.ph 13],.pool 172 (bI gE custB) []]) (fun p=>fK 3 p.1) ⟨0,by decide⟩ ?_;rintro ⟨kk,hkk⟩;dsimp only at hkk⊢;have hk4:kk=0∨kk=1∨kk=2∨kk=3:=by omega
     rcases hk4 with rfl|rfl|rfl|rfl
     ·cbv;repeat'((first|refine kS.r ?_|refine kT.r ?_|(first|refine .y fun h=>?_|fail)|refine bP.i0 ?_|refine bP.i1 ?_|refine bP.i2 ?_|refine bO.i0 ?_|refine bO.i1 ?_|refine bO.i2 ?_)<;>cbv)
      refine fI [.ptr 1 0,dP (eB ha1 name deal 0),.i day] (by
       show wA _ [.ptr 1 0,.agg [.str ha1,.str name,.i 0,.i 20,.i 0,.str deal,.str eS,.str eS,.i 0,.i 0,.str eS,.i 0,.sl 4 [],.sl 1 []],.i day]
       repeat'(first|exact trivial|exact hY.refl _|exact hY.nil _|refine hY.agg ?_|refine hY.sl ?_|refine And.intro ?_ ?_)) ?_
      refine cK hta (⟨(⟨bR,partiesB,dealsB,⟨rcB,rLB⟩,custB,delivB⟩:Cr),eB ha1 name deal 0,day⟩:TQ) [1,2,3,4,5,12,13,8] ⟨trivial,hqt ha1 0⟩ rfl rfl (by decide) rfl rfl rfl rfl rfl ?_;intro L2 hp2;obtain⟨ls,e2,hls⟩:=hov ha1 0 L2
      try dsimp only
      rw[e2];have hlk:ls=[]∨∃o,ls=[o]∧o.kind=22:=hls;rcases hlk with rfl|⟨⟨frm3,to3,nq3,kind3,ack3,deal3,text3,party3,index3,day3,cur3,amt3,docs3,bq3⟩,rfl,hk22⟩
      ·cbv;repeat'((first|refine kS.r ?_|refine kT.r ?_|(first|refine .n fun h=>?_|refine .k fun z hz=>?_|fail)|refine bP.i0 ?_|refine bP.i1 ?_|refine bP.i2 ?_|refine bO.i0 ?_|refine bO.i1 ?_|refine bO.i2 ?_)<;>cbv)
       all_goals
        obtain rfl:z=nI 1:=bS;exact bL ⟨1,by decide⟩ (bM (by decide))
      ·obtain rfl:kind3=22:=hk22;cbv;repeat'((first|refine kS.r ?_|refine kT.r ?_|(first|refine .n fun h=>?_|refine .y fun h=>?_|refine .k fun z hz=>?_|fail)|refine bP.i0 ?_|refine bP.i1 ?_|refine bP.i2 ?_|refine bO.i0 ?_|refine bO.i1 ?_|refine bO.i2 ?_)<;>cbv)
       all_goals
        obtain rfl:z=nI 1:=bS;exact bL ⟨1,by decide⟩ (bM (by decide))
     ·cbv;repeat'((first|refine kS.r ?_|refine kT.r ?_|(first|refine .y fun h=>?_|fail)|refine bP.i0 ?_|refine bP.i1 ?_|refine bP.i2 ?_|refine bO.i0 ?_|refine bO.i1 ?_|refine bO.i2 ?_)<;>cbv)
      refine fI [.ptr 1 0,dP (eB hb1 name deal 1),.i day] (by
       show wA _ [.ptr 1 0,.agg [.str hb1,.str name,.i 0,.i 20,.i 0,.str deal,.str eS,.str eS,.i 1,.i 0,.str eS,.i 0,.sl 4 [],.sl 1 []],.i day]
       repeat'(first|exact trivial|exact hY.refl _|exact hY.nil _|refine hY.agg ?_|refine hY.sl ?_|refine And.intro ?_ ?_)) ?_
      refine cK hta (⟨(⟨bR,partiesB,dealsB,⟨rcB,rLB⟩,custB,delivB⟩:Cr),eB hb1 name deal 1,day⟩:TQ) [1,2,3,4,5,12,13,8] ⟨trivial,hqt hb1 1⟩ rfl rfl (by decide) rfl rfl rfl rfl rfl ?_;intro L2 hp2;obtain⟨ls,e2,hls⟩:=hov hb1 1 L2
      try dsimp only
      rw[e2];have hlk:ls=[]∨∃o,ls=[o]∧o.kind=22:=hls;rcases hlk with rfl|⟨⟨frm3,to3,nq3,kind3,ack3,deal3,text3,party3,index3,day3,cur3,amt3,docs3,bq3⟩,rfl,hk22⟩
      ·cbv;repeat'((first|refine kS.r ?_|refine kT.r ?_|(first|refine .n fun h=>?_|refine .k fun z hz=>?_|fail)|refine bP.i0 ?_|refine bP.i1 ?_|refine bP.i2 ?_|refine bO.i0 ?_|refine bO.i1 ?_|refine bO.i2 ?_)<;>cbv)
       all_goals
        obtain rfl:z=nI 2:=bS;exact bL ⟨2,by decide⟩ (bM (by decide))
      ·obtain rfl:kind3=22:=hk22;cbv;repeat'((first|refine kS.r ?_|refine kT.r ?_|(first|refine .n fun h=>?_|refine .y fun h=>?_|refine .k fun z hz=>?_|fail)|refine bP.i0 ?_|refine bP.i1 ?_|refine bP.i2 ?_|refine bO.i0 ?_|refine bO.i1 ?_|refine bO.i2 ?_)<;>cbv)
       all_goals
        obtain rfl:z=nI 2:=bS;exact bL ⟨2,by decide⟩ (bM (by decide))
     ·cbv;repeat'((first|refine kS.r ?_|refine kT.r ?_|(first|refine .y fun h=>?_|fail)|refine bP.i0 ?_|refine bP.i1 ?_|refine bP.i2 ?_|refine bO.i0 ?_|refine bO.i1 ?_|refine bO.i2 ?_)<;>cbv)
      refine fI [.ptr 1 0,dP (eB hc1 name deal 2),.i day] (by
       show wA _ [.ptr 1 0,.agg [.str hc1,.str name,.i 0,.i 20,.i 0,.str deal,.str eS,.str eS,.i 2,.i 0,.str eS,.i 0,.sl 4 [],.sl 1 []],.i day]
       repeat'(first|exact trivial|exact hY.refl _|exact hY.nil _|refine hY.agg ?_|refine hY.sl ?_|refine And.intro ?_ ?_)) ?_
      refine cK hta (⟨(⟨bR,partiesB,dealsB,⟨rcB,rLB⟩,custB,delivB⟩:Cr),eB hc1 name deal 2,day⟩:TQ) [1,2,3,4,5,12,13,8] ⟨trivial,hqt hc1 2⟩ rfl rfl (by decide) rfl rfl rfl rfl rfl ?_;intro L2 hp2;obtain⟨ls,e2,hls⟩:=hov hc1 2 L2
      try dsimp only
      rw[e2];have hlk:ls=[]∨∃o,ls=[o]∧o.kind=22:=hls;rcases hlk with rfl|⟨⟨frm3,to3,nq3,kind3,ack3,deal3,text3,party3,index3,day3,cur3,amt3,docs3,bq3⟩,rfl,hk22⟩
      ·cbv;repeat'((first|refine kS.r ?_|refine kT.r ?_|(first|refine .n fun h=>?_|refine .k fun z hz=>?_|fail)|refine bP.i0 ?_|refine bP.i1 ?_|refine bP.i2 ?_|refine bO.i0 ?_|refine bO.i1 ?_|refine bO.i2 ?_)<;>cbv)
       all_goals
        obtain rfl:z=nI 3:=bS;exact bL ⟨3,by decide⟩ (bM (by decide))
      ·obtain rfl:kind3=22:=hk22;cbv;repeat'((first|refine kS.r ?_|refine kT.r ?_|(first|refine .n fun h=>?_|refine .y fun h=>?_|refine .k fun z hz=>?_|fail)|refine bP.i0 ?_|refine bP.i1 ?_|refine bP.i2 ?_|refine bO.i0 ?_|refine bO.i1 ?_|refine bO.i2 ?_)<;>cbv)
       all_goals
        obtain rfl:z=nI 3:=bS;exact bL ⟨3,by decide⟩ (bM (by decide))
     ·cbv;repeat'((first|refine kS.r ?_|refine kT.r ?_|(first|refine .n fun h=>?_|fail)|refine bP.i0 ?_|refine bP.i1 ?_|refine bP.i2 ?_|refine bO.i0 ?_|refine bO.i1 ?_|refine bO.i2 ?_)<;>cbv)
      (refine .q9 ?_;cbv;exact .inl (.f9 hK))
   ·cbv;repeat'((first|refine .e ?_|refine .y fun h=>?_|refine .mk (fun h=>?_) fun h=>?_|refine .k fun z hz=>?_|refine bP.i2 ?_|fail)<;>cbv)
    all_goals first
    |((refine .q9 ?_;cbv;exact .inl (.f9 hK)))
    |skip
    (refine XG hpa ((⟨parties,deals,funds,rest,holidays⟩,hc1):gW×bG) hs.pa ?_;try dsimp only)
    obtain⟨bp,hbp⟩:∃b,b=iS (gW.su ⟨parties,deals,funds,rest,holidays⟩).parties hc1:=⟨_,rfl⟩
    rw[←hbp];cases bp with
    |false=>
     cbv
     all_goals first
     |((refine .q9 ?_;cbv;exact .inl (.f9 hK)))
     |fail
    |true=>
    cbv;repeat'((first|refine .mk (fun h=>?_) fun h=>?_|refine bP.i2 ?_|fail)<;>cbv)
    all_goals first
    |((refine .q9 ?_;cbv;exact .inl (.f9 hK)))
    |skip
    refine iI (Gh.sel (st':=⟨[(1,.str name),(2,.sl 19 (bI nJ l)),(3,.str deal),(4,.i 2),(5,.i day),(6,.ptr 0 0),(13,.ptr 1 0),(14,.ptr 9 0),(15,.i (Int.ofNat i)),(16,.sl 4 [.agg [.str u,.i 0,.i sa1,.str ha1],.agg [.str u,.i 1,.i sb1,.str hb1],.agg [.str u,.i 2,.i sc1,.str hc1]]),(17,.i 0)],[.blk 29 [.sl 3 (bI jQ parties),.sl 17 (bI iJ deals),.sl 3 (bI jT funds),.sl 1 (bI cY rest),.sl 1 (bI cY holidays)],.blk 118 [.str (⟨nameA,partiesA,dealsA,⟨rcA,rLA⟩,custA,delivA⟩:Cr).name,.hd 2,.ph 3,.ptr 4 0,.ptr 6 0,.hd 8],.map 70 (bI iH (⟨nameA,partiesA,dealsA,⟨rcA,rLA⟩,custA,delivA⟩:Cr).parties),.pool 116 (bI gZ (⟨nameA,partiesA,dealsA,⟨rcA,rLA⟩,custA,delivA⟩:Cr).deals) [],.blk 122 [.str (⟨nameA,partiesA,dealsA,⟨rcA,rLA⟩,custA,delivA⟩:Cr).reg.carrier,.ph 5],.pool 120 (bI eD (⟨nameA,partiesA,dealsA,⟨rcA,rLA⟩,custA,delivA⟩:Cr).reg.bills) [],.blk 174 [.ph 7],.pool 172 (bI gE (⟨nameA,partiesA,dealsA,⟨rcA,rLA⟩,custA,delivA⟩:Cr).cust) [],.tip 77 5 (bI dC (⟨nameA,partiesA,dealsA,⟨rcA,rLA⟩,custA,delivA⟩:Cr).deliv),.blk 41 [.sl 1 (bI cY S),.sl 1 (bI mR free),.str c,.sl 11 (bI iD L),.sl 5 (bI dC H),.sl 5 (bI dC D)],.blk 122 [.str rcA,.ph 11],.pool 120 (bI eD L1) []]⟩) [0,1,2,3,4,5,6,7,8,9,10,11] (by repeat'(first|exact trivial|refine⟨.inl rfl,?_⟩|refine⟨.inr rfl,?_⟩)) rfl (by decide) rfl rfl) ?_;refine bV [] (fun p:{ k:Nat // k≤l.length∧∀j q,j < k→l[j]?=some q→q.day≤day }=>[(17,.i (nI p.1))]) (fun _=>[.blk 29 [.sl 3 (bI jQ parties),.sl 17 (bI iJ deals),.sl 3 (bI jT funds),.sl 1 (bI cY rest),.sl 1 (bI cY holidays)],.blk 118 [.str (⟨nameA,partiesA,dealsA,⟨rcA,rLA⟩,custA,delivA⟩:Cr).name,.hd 2,.ph 3,.ptr 4 0,.ptr 6 0,.hd 8],.map 70 (bI iH (⟨nameA,partiesA,dealsA,⟨rcA,rLA⟩,custA,delivA⟩:Cr).parties),.pool 116 (bI gZ (⟨nameA,partiesA,dealsA,⟨rcA,rLA⟩,custA,delivA⟩:Cr).deals) [],.blk 122 [.str (⟨nameA,partiesA,dealsA,⟨rcA,rLA⟩,custA,delivA⟩:Cr).reg.carrier,.ph 5],.pool 120 (bI eD (⟨nameA,partiesA,dealsA,⟨rcA,rLA⟩,custA,delivA⟩:Cr).reg.bills) [],.blk 174 [.ph 7],.pool 172 (bI gE (⟨nameA,partiesA,dealsA,⟨rcA,rLA⟩,custA,delivA⟩:Cr).cust) [],.tip 77 5 (bI dC (⟨nameA,partiesA,dealsA,⟨rcA,rLA⟩,custA,delivA⟩:Cr).deliv),.blk 41 [.sl 1 (bI cY S),.sl 1 (bI mR free),.str c,.sl 11 (bI iD L),.sl 5 (bI dC H),.sl 5 (bI dC D)],.blk 122 [.str rcA,.ph 11],.pool 120 (bI eD L1) []]) (fun p=>fK 41 p.1) ⟨0,aI _,kF⟩ ?_;rintro ⟨k,hk,hkd⟩;dsimp only at hk hkd⊢;rcases aL k l.length with hks|hks
    ·obtain⟨⟨okind,oday,⟨ak,an,adeal⟩,⟨ofrm,oto,onumber,olkind,oack,oldeal,otext,oparty,oindex,oday0,ocur,oamt,odocs,oboxes⟩⟩,ho⟩:=cM hks;cbv;repeat'((first|refine .e ?_|refine .y fun h=>?_|refine .mk (fun h=>?_) fun h=>?_|refine .k fun z hz=>?_|fail)<;>cbv)
     all_goals first
     |((refine .q9 ?_;cbv;exact .inl (.f9 hK)))
     |skip
     obtain rfl:z=nI (k+1):=bS;exact bL ⟨k+1,hks,jU (p:=fun q:fX=>q.day≤day) hkd ho (by assumption)⟩ (bM (by omega))
    ·have hkn:k=l.length:=by omega
     have hI:eZ day (gW.su ⟨parties,deals,funds,rest,holidays⟩) name (pN ⟨parties,deals,funds,rest,holidays⟩ name l):=eZ.play hs (lV (p:=fun q:fX=>q.day≤day) (by rw[←hkn];rw[hkn]at hkd;rw[hkn];exact hkd));rw[←hx]at hI;obtain rfl:st=3:=by assumption
     have hne:¬hc1=name:=by assumption
     obtain rfl:sc1=0:=by assumption
     have hdb:eN day=true:=by unfold eN;simp;omega
     have hg:∀L0:List dB,L0.Perm custA→∃C' x',eF (⟨nameA,partiesA,dealsA,⟨rcA,rLA⟩,custA,delivA⟩:Cr) (eB hc1 name deal 2) day L0=(true,C',[{ lX with to:=hc1,kind:=21,deal:=deal,day:=day,boxes:=dx.marks }])∧Jt (l.length+1) ⟨parties,deals,funds,rest,holidays⟩ name C' x'∧x'.S[i]?=some 4:=fun L0 hp=>hj.gift hs hI hoi.symm hdx hst hfr (y:=⟨⟨nq1,cq1,sq1,frm1,to1,bq1,pq1,iq1,lq1⟩,st1,⟨sa1,ha1,ca1⟩,⟨sb1,hb1,cb1⟩,⟨0,hc1,cc1⟩⟩) (by show lT rLA (Dj++deal)=_;rw[show Dj++deal=u from hu.symm];exact hlk) (j:=2) (by decide) rfl hbp.symm hne hdb hp
     have hgt:=hj.tqOk (l:=eB hc1 name deal 2) (day:=day) (by omega);have hmb:dx.boxes.length≤70:=(hs.ok dx (aC hdx)).bx;obtain⟨mks,hmks⟩:∃m,m=dx.marks:=⟨_,rfl⟩
     have hml:mks.length≤70:=by rw[hmks];show (dx.boxes.map Dx.mark).length≤70;rw[aJ];exact hmb
     rw[←hmks]at hg;obtain⟨dnumber,dseller,dbuyer,dcarrier,dissuer,dhouse,dinsurer,dfrm,dto,dcur,damt,dboxes,dterm,dlatest,dexpiry,dtenor,dduty⟩:=dx;dsimp only at hmb;clear hj hI hp1 hx;cbv;repeat'((first|refine .n fun h=>?_|refine .k fun z hz=>?_|refine bP.i2 ?_|fail)<;>cbv)
     refine fI [.ptr 1 0,dP (eB hc1 name deal 2),.i day] (by
      show wA _ [.ptr 1 0,.agg [.str hc1,.str name,.i 0,.i 20,.i 0,.str deal,.str eS,.str eS,.i 2,.i 0,.str eS,.i 0,.sl 4 [],.sl 1 []],.i day]
      repeat'(first|exact trivial|exact hY.refl _|exact hY.nil _|refine hY.agg ?_|refine hY.sl ?_|refine And.intro ?_ ?_)) ?_
     refine cK hta (⟨(⟨nameA,partiesA,dealsA,⟨rcA,rLA⟩,custA,delivA⟩:Cr),eB hc1 name deal 2,day⟩:TQ) [1,2,3,4,5,6,7,8] ⟨trivial,hgt⟩ rfl rfl (by decide) rfl rfl rfl rfl rfl ?_;intro L0 hp0;obtain⟨C',x',e1,j1,s4⟩:=hg L0 hp0
     try dsimp only
     rw[e1];have hov:=fun(who:bG) (j:Int) (L0:List dB)=>j1.over hs hoi.symm s4 who j day L0
     have hqt:=fun(who:bG) (j:Int)=>j1.tqOk (l:=eB who name deal j) (day:=day) (by omega)
     obtain⟨bR,partiesB,dealsB,⟨rcB,rLB⟩,custB,delivB⟩:=C';clear hg hgt e1 j1;cbv;repeat'((first|refine kS.r ?_|refine kT.r ?_|(first|refine .e ?_|refine .y fun h=>?_|refine .k fun z hz=>?_|fail)|refine bP.i0 ?_|refine bP.i1 ?_|refine bP.i2 ?_|refine bO.i0 ?_|refine bO.i1 ?_|refine bO.i2 ?_)<;>cbv)
     (refine XG hmk (⟨dnumber,dseller,dbuyer,dcarrier,dissuer,dhouse,dinsurer,dfrm,dto,dcur,damt,dboxes,dterm,dlatest,dexpiry,dtenor,dduty⟩:iW) hmb ?_;try dsimp only)
     rw[←hmks];cbv;repeat'((first|refine kS.r ?_|refine kT.r ?_|(first|fail)|refine bP.i0 ?_|refine bP.i1 ?_|refine bP.i2 ?_|refine bO.i0 ?_|refine bO.i1 ?_|refine bO.i2 ?_)<;>cbv)
     (refine XG hsm ((mks,mks):List bG×List bG) ⟨by dsimp only;omega,by dsimp only;omega⟩ ?_;try dsimp only)
     rw[show decide (mks=mks)=true from aH rfl];cbv;repeat'((first|refine kS.r ?_|refine kT.r ?_|(first|fail)|refine bP.i0 ?_|refine bP.i1 ?_|refine bP.i2 ?_|refine bO.i0 ?_|refine bO.i1 ?_|refine bO.i2 ?_)<;>cbv)
     refine bV [] (fun p:{ k:Nat // k≤3 }=>[(19,.i (nI p.1))]) (fun _=>[.blk 29 [.sl 3 (bI jQ parties),.sl 17 (bI iJ deals),.sl 3 (bI jT funds),.sl 1 (bI cY rest),.sl 1 (bI cY holidays)],.blk 118 [.str bR,.hd 2,.ph 3,.ptr 4 0,.ptr 12 0,.hd 8],.map 70 (bI iH partiesB),.pool 116 (bI gZ dealsB) [],.blk 122 [.str rcB,.ph 5],.pool 120 (bI eD rLB) [],.blk 174 [.ph 7],.pool 172 (bI gE custA) [],.tip 77 5 (bI dC delivB),.blk 41 [.sl 1 (bI cY S),.sl 1 (bI mR free),.str c,.sl 11 (bI iD L),.sl 5 (bI dC H),.sl 5 (bI dC D)],.blk 122 [.str rcA,.ph 11],.pool 120 (bI eD L1) [],.blk 174 [.ph 13],.pool 172 (bI gE custB) []]) (fun p=>fK 3 p.1) ⟨0,by decide⟩ ?_;rintro ⟨kk,hkk⟩;dsimp only at hkk⊢;have hk4:kk=0∨kk=1∨kk=2∨kk=3:=by omega
     rcases hk4 with rfl|rfl|rfl|rfl
     ·cbv;repeat'((first|refine kS.r ?_|refine kT.r ?_|(first|refine .y fun h=>?_|fail)|refine bP.i0 ?_|refine bP.i1 ?_|refine bP.i2 ?_|refine bO.i0 ?_|refine bO.i1 ?_|refine bO.i2 ?_)<;>cbv)
      refine fI [.ptr 1 0,dP (eB ha1 name deal 0),.i day] (by
       show wA _ [.ptr 1 0,.agg [.str ha1,.str name,.i 0,.i 20,.i 0,.str deal,.str eS,.str eS,.i 0,.i 0,.str eS,.i 0,.sl 4 [],.sl 1 []],.i day]
       repeat'(first|exact trivial|exact hY.refl _|exact hY.nil _|refine hY.agg ?_|refine hY.sl ?_|refine And.intro ?_ ?_)) ?_
      refine cK hta (⟨(⟨bR,partiesB,dealsB,⟨rcB,rLB⟩,custB,delivB⟩:Cr),eB ha1 name deal 0,day⟩:TQ) [1,2,3,4,5,12,13,8] ⟨trivial,hqt ha1 0⟩ rfl rfl (by decide) rfl rfl rfl rfl rfl ?_;intro L2 hp2;obtain⟨ls,e2,hls⟩:=hov ha1 0 L2
      try dsimp only
      rw[e2];have hlk:ls=[]∨∃o,ls=[o]∧o.kind=22:=hls;rcases hlk with rfl|⟨⟨frm3,to3,nq3,kind3,ack3,deal3,text3,party3,index3,day3,cur3,amt3,docs3,bq3⟩,rfl,hk22⟩
      ·cbv;repeat'((first|refine kS.r ?_|refine kT.r ?_|(first|refine .n fun h=>?_|refine .k fun z hz=>?_|fail)|refine bP.i0 ?_|refine bP.i1 ?_|refine bP.i2 ?_|refine bO.i0 ?_|refine bO.i1 ?_|refine bO.i2 ?_)<;>cbv)
       all_goals
        obtain rfl:z=nI 1:=bS;exact bL ⟨1,by decide⟩ (bM (by decide))
      ·obtain rfl:kind3=22:=hk22;cbv;repeat'((first|refine kS.r ?_|refine kT.r ?_|(first|refine .n fun h=>?_|refine .y fun h=>?_|refine .k fun z hz=>?_|fail)|refine bP.i0 ?_|refine bP.i1 ?_|refine bP.i2 ?_|refine bO.i0 ?_|refine bO.i1 ?_|refine bO.i2 ?_)<;>cbv)
       all_goals
        obtain rfl:z=nI 1:=bS;exact bL ⟨1,by decide⟩ (bM (by decide))
     ·cbv;repeat'((first|refine kS.r ?_|refine kT.r ?_|(first|refine .y fun h=>?_|fail)|refine bP.i0 ?_|refine bP.i1 ?_|refine bP.i2 ?_|refine bO.i0 ?_|refine bO.i1 ?_|refine bO.i2 ?_)<;>cbv)
      refine fI [.ptr 1 0,dP (eB hb1 name deal 1),.i day] (by
       show wA _ [.ptr 1 0,.agg [.str hb1,.str name,.i 0,.i 20,.i 0,.str deal,.str eS,.str eS,.i 1,.i 0,.str eS,.i 0,.sl 4 [],.sl 1 []],.i day]
       repeat'(first|exact trivial|exact hY.refl _|exact hY.nil _|refine hY.agg ?_|refine hY.sl ?_|refine And.intro ?_ ?_)) ?_
      refine cK hta (⟨(⟨bR,partiesB,dealsB,⟨rcB,rLB⟩,custB,delivB⟩:Cr),eB hb1 name deal 1,day⟩:TQ) [1,2,3,4,5,12,13,8] ⟨trivial,hqt hb1 1⟩ rfl rfl (by decide) rfl rfl rfl rfl rfl ?_;intro L2 hp2;obtain⟨ls,e2,hls⟩:=hov hb1 1 L2
      try dsimp only
      rw[e2];have hlk:ls=[]∨∃o,ls=[o]∧o.kind=22:=hls;rcases hlk with rfl|⟨⟨frm3,to3,nq3,kind3,ack3,deal3,text3,party3,index3,day3,cur3,amt3,docs3,bq3⟩,rfl,hk22⟩
      ·cbv;repeat'((first|refine kS.r ?_|refine kT.r ?_|(first|refine .n fun h=>?_|refine .k fun z hz=>?_|fail)|refine bP.i0 ?_|refine bP.i1 ?_|refine bP.i2 ?_|refine bO.i0 ?_|refine bO.i1 ?_|refine bO.i2 ?_)<;>cbv)
       all_goals
        obtain rfl:z=nI 2:=bS;exact bL ⟨2,by decide⟩ (bM (by decide))
      ·obtain rfl:kind3=22:=hk22;cbv;repeat'((first|refine kS.r ?_|refine kT.r ?_|(first|refine .n fun h=>?_|refine .y fun h=>?_|refine .k fun z hz=>?_|fail)|refine bP.i0 ?_|refine bP.i1 ?_|refine bP.i2 ?_|refine bO.i0 ?_|refine bO.i1 ?_|refine bO.i2 ?_)<;>cbv)
       all_goals
        obtain rfl:z=nI 2:=bS;exact bL ⟨2,by decide⟩ (bM (by decide))
     ·cbv;repeat'((first|refine kS.r ?_|refine kT.r ?_|(first|refine .y fun h=>?_|fail)|refine bP.i0 ?_|refine bP.i1 ?_|refine bP.i2 ?_|refine bO.i0 ?_|refine bO.i1 ?_|refine bO.i2 ?_)<;>cbv)
      refine fI [.ptr 1 0,dP (eB hc1 name deal 2),.i day] (by
       show wA _ [.ptr 1 0,.agg [.str hc1,.str name,.i 0,.i 20,.i 0,.str deal,.str eS,.str eS,.i 2,.i 0,.str eS,.i 0,.sl 4 [],.sl 1 []],.i day]
       repeat'(first|exact trivial|exact hY.refl _|exact hY.nil _|refine hY.agg ?_|refine hY.sl ?_|refine And.intro ?_ ?_)) ?_
      refine cK hta (⟨(⟨bR,partiesB,dealsB,⟨rcB,rLB⟩,custB,delivB⟩:Cr),eB hc1 name deal 2,day⟩:TQ) [1,2,3,4,5,12,13,8] ⟨trivial,hqt hc1 2⟩ rfl rfl (by decide) rfl rfl rfl rfl rfl ?_;intro L2 hp2;obtain⟨ls,e2,hls⟩:=hov hc1 2 L2
      try dsimp only
      rw[e2];have hlk:ls=[]∨∃o,ls=[o]∧o.kind=22:=hls;rcases hlk with rfl|⟨⟨frm3,to3,nq3,kind3,ack3,deal3,text3,party3,index3,day3,cur3,amt3,docs3,bq3⟩,rfl,hk22⟩
      ·cbv;repeat'((first|refine kS.r ?_|refine kT.r ?_|(first|refine .n fun h=>?_|refine .k fun z hz=>?_|fail)|refine bP.i0 ?_|refine bP.i1 ?_|refine bP.i2 ?_|refine bO.i0 ?_|refine bO.i1 ?_|refine bO.i2 ?_)<;>cbv)
       all_goals
        obtain rfl:z=nI 3:=bS;exact bL ⟨3,by decide⟩ (bM (by decide))
      ·obtain rfl:kind3=22:=hk22;cbv;repeat'((first|refine kS.r ?_|refine kT.r ?_|(first|refine .n fun h=>?_|refine .y fun h=>?_|refine .k fun z hz=>?_|fail)|refine bP.i0 ?_|refine bP.i1 ?_|refine bP.i2 ?_|refine bO.i0 ?_|refine bO.i1 ?_|refine bO.i2 ?_)<;>cbv)
       all_goals
        obtain rfl:z=nI 3:=bS;exact bL ⟨3,by decide⟩ (bM (by decide))
     ·cbv;repeat'((first|refine kS.r ?_|refine kT.r ?_|(first|refine .n fun h=>?_|fail)|refine bP.i0 ?_|refine bP.i1 ?_|refine bP.i2 ?_|refine bO.i0 ?_|refine bO.i1 ?_|refine bO.i2 ?_)<;>cbv)
      (refine .q9 ?_;cbv;exact .inl (.f9 hK))
theorem FW:bJ Tryz.prog 3 WA:=bK (by kernel_rfl) (CR _ Jb TH B6 L8 QU vV Hw XV P6 qX)
end Go.Proofs.YtigdiekbiphhmaaGreatDoor
namespace Go.Proofs.YtigdiekbiphhmaaGreatDoor
open Go Go.Lib
open Go.RowKit
def dS {H:Type}:Value→DataW H
 |.int k z=>.lit (.int k z)
 |.string s=>.lit (.string s.data.toList)
 |_=>.nil
theorem dF {H:Type}{enc:TypeId×Value→H}{P:bH}{w:World}{base:Nat}{sp:Nat→Bool}{held:Bool}{fuel:Nat}{t e:TypeId}{n:Nat}{cs vs:List Value}{p:List MemPlace}(ht:P.underlying t=some (.array n e)) (he:(∃k,P.underlying e=some (.int k))∨P.underlying e=some .string) (hce:P.cellsOf e=1) (hct:P.cellsOf t=n) (h:DataW.trod enc P w base sp held fuel t cs=some (.agg (vs.map dS),p)):cs=vs:=by
 cases fuel with
 |zero=>simp[DataW.trod]at h
 |succ fuel=>
  simp only[DataW.trod,ht,hce,hct,Nat.mul_one]at h
  split at h
  · rename_i hl
    obtain⟨xs,hm,hx⟩:=Option.map_eq_some_iff.1 h;have hxs:xs.map (·.1)=vs.map dS:=by simpa using congrArg Prod.fst hx
    have hxl:=mapM_length hm;have hzl:=congrArg List.length hxs;simp at hxl hzl;apply List.ext_getElem?;intro i;by_cases hi:i < n
    · obtain⟨b,hb,hf⟩:=mapM_at hm i i (by simp[hi])
      have hvi:vs[i]?=some vs[i]:=aB (by omega);have h2:=congrArg (·[i]?) hxs;simp only[aD,hb,hvi,Option.map_some,bE]at h2;rw[hvi];rcases he with ⟨k,he⟩|he
      · obtain⟨z,hc,h3,_⟩:=DataW.trod_int he hf
        have h1:=congrArg (·[0]?) hc;simp[List.getElem?_take,List.getElem?_drop]at h1;rw[h1];rw[h3]at h2;cases hv:vs[i]<;>simp[hv,dS]at h2<;>simp[h2]
      · obtain⟨s,hc,h3,_⟩:=DataW.trod_string he hf
        have h1:=congrArg (·[0]?) hc;simp[List.getElem?_take,List.getElem?_drop]at h1;rw[h1];rw[h3]at h2;cases hv:vs[i]<;>simp only[hv,dS,DataW.lit.injEq,Lit.string.injEq,reduceCtorEq]at h2;rw[ByteArray.ext (Array.toList_inj.1 h2)]
    · rw[List.getElem?_eq_none (by omega),List.getElem?_eq_none (by omega)]
  · cases h
theorem bF {P:bH}{W:World}{name:String}{vs:List Value}{d:DataW Unit}{rest:List (String×DataW Unit)}{g:Nat}{t e:TypeId}{n:Nat}(he:(∃k,P.underlying e=some (.int k))∨P.underlying e=some .string) (h:laidMet P ((name,d) :: rest) W) (hg:P.globalNamed name=some g:=by kernel_rfl) (hty:(P.globals[g]?).map (·.type)=some t:=by kernel_rfl) (ht:P.underlying t=some (.array n e):=by kernel_rfl) (hce:P.cellsOf e=1:=by kernel_rfl) (hct:P.cellsOf t=n:=by kernel_rfl) (hd:d=.agg (vs.map dS):=by rfl):∃t' f,W.heap[g]?=some (.cells vs.toArray t' f):=by
 obtain⟨ps,⟨g',t',cs,fuel,p,q,hg',ht',hvar,hdd,_,_⟩,_⟩:=h;cases hg.symm.trans hg';cases hty.symm.trans ht';subst hd;have hcs:=dF ht he hce hct hdd;unfold World.var? at hvar;simp only[hg,Option.bind_some]at hvar
 split at hvar
 · rename_i c t2 f hb
   exact⟨t2,f,by rw[hb,←hcs];simp at hvar;rw[hvar]⟩
 · cases hvar
theorem bX {w:World}{g:Nat}{vs:List Value}(h:∃t f,w.heap[g]?=some (.cells vs.toArray t f)):∀i u,vs[i]?=some u→i < nD w g∧w.cell? ⟨g,i,none⟩=some u∧vL w g=some vs.length:=fun i u hu=>by
 obtain⟨t,f,hb⟩:=h;have hi:=(aA.1 hu).1;exact⟨by simpa [nD,hb]using hi,by simp[World.cell?,hb,hu],by simp[vL,hb]⟩
theorem uT {P:bH}{W:World}{x:String×DataW Unit}{rest:List (String×DataW Unit)}(h:laidMet P (x :: rest) W):laidMet P rest W:=by
 obtain⟨ps,⟨g,t,cs,fuel,p,q,_,_,_,_,hr,rfl⟩,hnd,hc⟩:=h;exact⟨q,hr,(List.nodup_append.1 hnd).2.1,fun b off hm=>hc b off (List.mem_append_right _ hm)⟩
theorem OE {W : World} (h : laidMetH Tryz.prog [("math/bits.deBruijn32tab", Rows.laid_math_bits_deBruijn32tab), ("math/bits.deBruijn64tab", Rows.laid_math_bits_deBruijn64tab), ("internal/strconv.uint64pow10", Rows.laid_internal_strconv_uint64pow10), ("supercargo/post.kinds", Rows.laid_supercargo_post_kinds)] W) : kU (nD W) W := by
 rw[MakeChecks.laidMetH_plain _ _ _ (by kernel_rfl)]at h;have h0:=bF (vs:=glob 5) (g:=5) (t:=292) (e:=5) (n:=32) (.inl ⟨.u8,by kernel_rfl⟩) h;replace h:=uT h;have h1:=bF (vs:=glob 6) (g:=6) (t:=293) (e:=5) (n:=64) (.inl ⟨.u8,by kernel_rfl⟩) h;replace h:=uT h;have h2:=bF (vs:=glob 4) (g:=4) (t:=281) (e:=260) (n:=20) (.inl ⟨.u64,by kernel_rfl⟩) h;replace h:=uT h;have h3:=bF (vs:=glob 2) (g:=2) (t:=272) (e:=9) (n:=29) (.inr (by kernel_rfl)) h;refine⟨fun g i u hu=>?_,fun g hg=>?_⟩
 ·by_cases e0:g=5
  ·subst e0;exact bX h0 i u hu
  by_cases e1:g=6
  ·subst e1;exact bX h1 i u hu
  by_cases e2:g=4
  ·subst e2;exact bX h2 i u hu
  by_cases e3:g=2
  ·subst e3;exact bX h3 i u hu
  have e:glob g=[]:=by unfold glob;split<;>first|rfl|contradiction
  rw[e]at hu;cases hu
 ·exact absurd hg (by unfold O9;simp)
end Go.Proofs.YtigdiekbiphhmaaGreatDoor
end
