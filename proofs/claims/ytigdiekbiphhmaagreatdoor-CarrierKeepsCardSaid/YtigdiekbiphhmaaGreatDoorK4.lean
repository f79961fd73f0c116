/-
  Texts of this proof,joined: X,RA,Y,RB,RC,RD,VN,RE,RF,RG,RH.
-/
import Derived.Test.YtigdiekbiphhmaaGreatDoorK3
import Derived.IntWalk
import Derived.KernelRfl
set_option linter.unusedVariables false
set_option linter.unusedSimpArgs false
noncomputable section
namespace Go.Proofs.YtigdiekbiphhmaaGreatDoor
open Go.RowKit
def se:AV:=.str ⟨#[]⟩
def sn:AV:=.v (.slice none 0 0)
def zi:AV:=.int .i64 0
def zs (d:Nat) (o:hU):dM:=⟨some d,none,o⟩
def zm (d a:Nat):dM:=⟨some d,none,.mov (.t a)⟩
def zf (d f a:Nat):dM:=⟨some d,none,.fad f (.t a)⟩
def zl (d a:Nat):dM:=⟨some d,none,.ld false 1 (.t a)⟩
def zg (d g:Nat) (b:Bool) (o:hU):dM:=⟨some d,some (g,b),o⟩
def zh (d g:Nat) (b:Bool) (a:Nat):dM:=⟨some d,some (g,b),.mov (.t a)⟩
def zn (o:hU):dM:=⟨none,none,o⟩
def yl (d a:Nat):dM:=zs d (.lenl (.t a))
def yz (d a:Nat):dM:=zs d (.lens (.t a))
def yi (d n a b:Nat):dM:=zs d (.iad n (.t a) (.t b))
def yt (d n a:Nat):dM:=zs d (.ld true n (.t a))
def yc (d:Nat) (o:BinOp) (a b:Nat):dM:=zs d (.cmp o (.t a) (.t b))
def yk (d:Nat) (o:BinOp) (a:Nat) (n:Int):dM:=zs d (.cmp o (.t a) (.c (.int .i64 n)))
def yn (d:Nat) (n:Int):dM:=zs d (.mov (.c (.int .i64 n)))
def yb (d:Nat) (b:Bool):dM:=zs d (.mov (.c (.bl b)))
def yp (d a:Nat):dM:=zs d (.ari .add .i64 (.t a) (.c (.int .i64 1)))
def ya (d:Nat) (o:BinOp) (k:IntKind) (a b:Nat):dM:=zs d (.ari o k (.t a) (.t b))
def yq (d a:Nat) (b:Bool) (c:Nat):dM:=zs d (.pick (.t a) (.c (.bl b)) (.t c))
def yr (d a c:Nat) (b:Bool):dM:=zs d (.pick (.t a) (.t c) (.c (.bl b)))
def yx (d a n:Nat):dM:=zs d (.ext (.t a) n)
def yo (d a:Nat):dM:=zs d (.not (.t a))
def ys (n a b:Nat):dM:=zn (.st n (.t a) (.t b))
def gl (d g:Nat) (b:Bool) (a:Nat):dM:=zg d g b (.ld false 1 (.t a))
def gf (d g:Nat) (b:Bool) (f a:Nat):dM:=zg d g b (.fad f (.t a))
def ge (d g:Nat) (b:Bool) (a:Nat):dM:=zg d g b (.lenl (.t a))
def gz (d g:Nat) (b:Bool) (a:Nat):dM:=zg d g b (.lens (.t a))
def gc (d g:Nat) (b:Bool) (o:BinOp) (a c:Nat):dM:=zg d g b (.cmp o (.t a) (.t c))
def gk (d g:Nat) (b:Bool) (o:BinOp) (a:Nat) (n:Int):dM:=zg d g b (.cmp o (.t a) (.c (.int .i64 n)))
def ga (d g:Nat) (b:Bool) (o:BinOp) (k:IntKind) (a c:Nat):dM:=zg d g b (.ari o k (.t a) (.t c))
def go (d g:Nat) (b:Bool) (a:Nat):dM:=zg d g b (.not (.t a))
def gi (d g:Nat) (b:Bool) (n a c:Nat):dM:=zg d g b (.iad n (.t a) (.t c))
def zr (l:List dM) (c:fM):fM:=.seq (.reg l) c
def x11:cW:=⟨83,zr [yb 0 false] (zr [zs 9 (.bld [se,se,zi] [(0,(1,.c (.str ⟨#[115]⟩)))]),zs 10 (.bld [se,se,zi] [(0,(1,.c (.str ⟨#[99]⟩)))]),zs 11 (.bsp 112 3 2 [se,se,zi] [(0,.t 9),(1,.t 10)]),zs 12 (.bld [se,zi,sn] [(0,(1,.c (.str ⟨#[97,97,97,97,48,48,48,48,48,49,50,48]⟩)))]),zs 13 (.bsp 115 3 1 [se,zi,sn] [(0,.t 12)]),zs 14 (.bld [se,se,se,se,se,se,se,se,se,se,zi,sn,zi,zi,zi,zi,zi] [(0,(1,.c (.str ⟨#[100]⟩))),(1,(1,.c (.str ⟨#[115]⟩))),(2,(1,.c (.str ⟨#[121]⟩))),(3,(1,.c (.str ⟨#[99]⟩))),(7,(1,.c (.str ⟨#[102]⟩))),(8,(1,.c (.str ⟨#[116]⟩))),(11,(1,.t 13))]),zs 15 (.bsp 67 17 1 [se,se,se,se,se,se,se,se,se,se,zi,sn,zi,zi,zi,zi,zi] [(0,.t 14)]),zs 16 (.bld [sn,sn,sn,sn,sn] [(0,(1,.t 11)),(1,(1,.t 15))]),zs 1 (.alloc 29 [sn,sn,sn,sn,sn]),ys 5 1 16] (zr [yt 17 5 1,zs 18 (.call 21 [.c (.str ⟨#[99]⟩),.t 17]),zm 2 18] (.seq (zr [zm 19 2,zs 20 (.cmn false (.t 19))] (.cond (.t 20) (zr [yb 0 false] .ret) .skip)) (zr [zm 21 2,zs 22 (.bld [se,se,zi,zi,zi,se,se,se,zi,zi,se,zi,sn,sn] [(0,(1,.c (.str ⟨#[115]⟩))),(3,(1,.c (.int .i64 4))),(5,(1,.c (.str ⟨#[100]⟩)))]),zs 23 (.call 18 [.t 21,.t 22,.c (.int .i64 1)]),zm 3 23] (zr [zm 25 2,zs 26 (.bld [zi,zi,se] [(0,(1,.c (.int .i64 5))),(2,(1,.c (.str ⟨#[100]⟩)))]),zs 27 (.call 23 [.t 25,.t 26,.c (.int .i64 2)]),zm 24 27,yx 28 24 0,yx 29 24 1,zm 4 28,zm 5 29] (zr [zm 31 2,zs 32 (.bld [zi,zi,se] [(0,(1,.c (.int .i64 6))),(2,(1,.c (.str ⟨#[100]⟩)))]),zs 33 (.call 23 [.t 31,.t 32,.c (.int .i64 3)]),zm 30 33,yx 34 30 0,yx 35 30 1,zm 6 34,zm 7 35] (zr [zm 36 2,zs 37 (.bld [se,se,zi,zi,zi,se,se,se,zi,zi,se,zi,sn,sn] [(0,(1,.c (.str ⟨#[115]⟩))),(3,(1,.c (.int .i64 20))),(5,(1,.c (.str ⟨#[100]⟩)))]),zs 38 (.call 18 [.t 36,.t 37,.c (.int .i64 4)]),zm 8 38] (zr [zm 39 3,yl 40 39,yk 41 .eql 40 0,zm 42 41,zh 43 42 true 4,ge 44 42 true 43,gk 45 42 true .eql 44 1,yr 46 42 45 false,zm 47 46,zh 48 47 true 5,gk 49 47 true .eql 48 0,yr 50 47 49 false,zm 51 50,zh 52 51 true 6,ge 53 51 true 52,gk 54 51 true .eql 53 1,yr 55 51 54 false,zm 56 55,zh 57 56 true 7,gk 58 56 true .eql 57 0,yr 59 56 58 false,zm 60 59,zh 61 60 true 8,ge 62 60 true 61,gk 63 60 true .eql 62 1,yr 64 60 63 false,zm 65 64,zh 66 65 true 8,zg 67 65 true (.iad 14 (.t 66) (.c zi)),gf 68 65 true 3 67,gl 69 65 true 68,gk 70 65 true .eql 69 21,yr 71 65 70 false,zm 72 71,zh 73 72 true 2,zg 74 72 true (.call 22 [.t 73]),ge 75 72 true 74,gk 76 72 true .eql 75 1,yr 77 72 76 false,zm 78 77,zh 79 78 true 2,zg 80 78 true (.call 30 [.t 79]),gk 81 78 true .eql 80 1,yr 82 78 81 false,zm 0 82] .ret)))))))),[.tmp 0]⟩
def x12:cW:=⟨146,zr [zs 3 (.box 29 (.t 0)),yb 6 false] (.seq (zr [zf 12 0 3,zl 13 12,yl 14 13,yk 15 .gtr 14 20,zm 16 15,gf 17 16 false 1 3,gl 18 16 false 17,ge 19 16 false 18,gk 20 16 false .gtr 19 8,yq 21 16 true 20,zm 22 21,zh 23 22 false 1,gz 24 22 false 23,gk 25 22 false .gtr 24 60,yq 26 22 true 25,zm 27 26,zh 28 27 false 2,ge 29 27 false 28,gk 30 27 false .gtr 29 40,yq 31 27 true 30] (.cond (.t 31) (zr [yb 6 false] .ret) .skip)) (.seq (zr [yn 7 0] (.block 0 (.loop (.seq (zr [zm 32 7,zf 33 0 3,zl 34 33,yl 35 34,yc 36 .lss 32 35] (.cond (.t 36) .skip (.exit 0))) (.seq (.block 1 (zr [zf 39 0 3,zl 40 39,zm 41 7,yi 42 3 40 41,zf 43 0 42,zl 44 43,yz 45 44,yk 46 .gtr 45 60] (.cond (.t 46) (zr [yb 6 false] .ret) .skip))) (.reg [zm 37 7,yp 38 37,zm 7 38])))))) (.seq (zr [yn 8 0] (.block 2 (.loop (.seq (zr [zm 47 8,zf 48 1 3,zl 49 48,yl 50 49,yc 51 .lss 47 50] (.cond (.t 51) .skip (.exit 2))) (.seq (.block 3 (zr [zf 54 1 3,zl 55 54,zm 56 8,yi 57 17 55 56,yt 58 17 57,zs 9 (.alloc 67 [se,se,se,se,se,se,se,se,se,se,zi,sn,zi,zi,zi,zi,zi]),ys 17 9 58] (.seq (zr [zf 59 0 9,zl 60 59,yz 61 60,zf 62 1 9,zl 63 62,yz 64 63,ya 65 .add .i64 61 64,zf 66 2 9,zl 67 66,yz 68 67,ya 69 .add .i64 65 68,zf 70 3 9,zl 71 70,yz 72 71,ya 73 .add .i64 69 72,zf 74 5 9,zl 75 74,yz 76 75,ya 77 .add .i64 73 76,zf 78 7 9,zl 79 78,yz 80 79,ya 81 .add .i64 77 80,zf 82 8 9,zl 83 82,yz 84 83,ya 85 .add .i64 81 84,yk 86 .gtr 85 300,zm 87 86,gf 88 87 false 11 9,gl 89 87 false 88,ge 90 87 false 89,gk 91 87 false .gtr 90 70,yq 92 87 true 91] (.cond (.t 92) (zr [yb 6 false] .ret) .skip)) (zr [yn 10 0] (.block 4 (.loop (.seq (zr [zm 93 10,zf 94 11 9,zl 95 94,yl 96 95,yc 97 .lss 93 96] (.cond (.t 97) .skip (.exit 4))) (.seq (.block 5 (zr [zf 100 11 9,zl 101 100,zm 102 10,yi 103 3 101 102,zf 104 0 103,zl 105 104,yz 106 105,yk 107 .gtr 106 60] (.cond (.t 107) (zr [yb 6 false] .ret) .skip))) (.reg [zm 98 10,yp 99 98,zm 10 99]))))))))) (.reg [zm 52 8,yp 53 52,zm 8 53])))))) (.seq (zr [yn 11 0] (.block 6 (.loop (.seq (zr [zm 108 11,zm 109 2,yl 110 109,yc 111 .lss 108 110] (.cond (.t 111) .skip (.exit 6))) (.seq (.block 7 (.seq (.dreg (.take 0 (zm 114 2) (.take 1 (zm 115 11) (.take 2 (yi 116 19 114 115) (.take 3 (zf 117 2 116) (.take 4 (zf 118 2 117) (.take 5 (zl 119 118) (.take 6 (yz 120 119) (.take 7 (zm 121 2) (.take 8 (zm 122 11) (.take 9 (yi 123 19 121 122) (.take 10 (zf 124 5 123) (.take 11 (zf 125 0 124) (.take 12 (zl 126 125) (.take 13 (yz 127 126) (.take 14 (ya 128 .add .i64 120 127) (.take 15 (zm 129 2) (.take 16 (zm 130 11) (.take 17 (yi 131 19 129 130) (.take 18 (zf 132 5 131) (.take 19 (zf 133 5 132) (.take 20 (zl 134 133) (.take 21 (yz 135 134) (.take 22 (ya 136 .add .i64 128 135) (.take 23 (zm 137 2) (.take 24 (zm 138 11) (.take 25 (yi 139 19 137 138) (.take 26 (zf 140 5 139) (.take 27 (zf 141 7 140) (.take 28 (zl 142 141) (.take 29 (yz 143 142) (.take 30 (ya 144 .add .i64 136 143) (.take 31 (yk 145 .gtr 144 300) .nil)))))))))))))))))))))))))))))))) 0 [2]) (.cond (.t 145) (zr [yb 6 false] .ret) .skip))) (.reg [zm 112 11,yp 113 112,zm 11 113])))))) (zr [yb 6 true] .ret))))),[.tmp 6]⟩
def ZO:cW:=⟨34,zr [zs 3 (.box 29 (.t 0)),yn 6 0] (.seq (zr [yn 7 0] (.block 0 (.loop (.seq (zr [zm 8 7,zf 9 1 3,zl 10 9,yl 11 10,yc 12 .lss 8 11] (.cond (.t 12) .skip (.exit 0))) (.seq (.block 1 (zr [zf 15 1 3,zl 16 15,zm 17 7,yi 18 17 16 17,zf 19 3 18,zl 20 19,zm 21 1,yc 22 .eql 20 21,zm 23 22,gf 24 23 true 1 3,gl 25 23 true 24,zh 26 23 true 7,gi 27 23 true 17 25 26,gf 28 23 true 0 27,gl 29 23 true 28,zh 30 23 true 2,gc 31 23 true .eql 29 30,yr 32 23 31 false] (.cond (.t 32) (zr [zm 33 7,zm 6 33] .ret) .skip))) (.reg [zm 13 7,yp 14 13,zm 7 14])))))) (zr [yn 6 (-1)] .ret)),[.tmp 6]⟩
def ZP:cW:=⟨47,zr [zs 3 (.box 29 (.t 0)),zs 6 (.mov (.c (.v (.pointer none)))),zs 7 (.alloc 41 [sn,sn,se,sn,sn,sn])] (.seq (.dreg (.take 0 (zm 13 1) (.take 1 (yt 14 5 3) (.take 3 (yt 16 5 3) (.take 4 (zm 17 1) (.fork (.eff 2 0 true (zs 15 (.call 21 [.t 13,.t 14])) (.fork (.eff 5 0 true (zs 18 (.call 31 [.t 16,.t 17])) (.eff 6 0 true (zs 9 (.alloc 41 [sn,sn,se,sn,sn,sn])) (.take 7 (zm 8 15) (.eff 8 1 false (ys 6 9 18) (.phase [1,3] .nil))))) (.eff 6 0 true (zs 9 (.alloc 41 [sn,sn,se,sn,sn,sn])) (.eff 5 0 false (zs 18 (.call 31 [.t 16,.t 17])) (.take 7 (zm 8 15) (.eff 8 1 false (ys 6 9 18) (.phase [1,3] .nil))))))) (.eff 6 0 true (zs 9 (.alloc 41 [sn,sn,se,sn,sn,sn])) (.eff 2 0 true (zs 15 (.call 21 [.t 13,.t 14])) (.eff 5 0 false (zs 18 (.call 31 [.t 16,.t 17])) (.take 7 (zm 8 15) (.eff 8 1 false (ys 6 9 18) (.phase [1,3] .nil))))))))))) 1 [3]) (.seq (zr [yn 10 0] (.block 0 (.loop (.seq (zr [zm 19 8,zs 20 (.cmn true (.t 19)),zm 21 20,zh 22 21 true 10,zh 23 21 true 2,ge 24 21 true 23,gc 25 21 true .lss 22 24,yr 26 21 25 false] (.cond (.t 26) .skip (.exit 0))) (.seq (.block 1 (.seq (.dreg (.take 0 (zm 30 8) (.take 1 (yt 31 5 3) (.take 2 (zm 32 1) (.take 3 (yt 33 6 9) (.take 4 (zm 34 2) (.take 5 (zm 35 10) (.take 6 (yi 36 19 34 35) (.take 7 (yt 37 19 36) (.fork (.eff 8 0 true (zs 38 (.call 32 [.t 30,.t 31,.t 32,.t 33,.t 37])) (.take 9 (zm 29 38) (.take 10 (yx 39 29 0) (.take 11 (yx 40 29 1) (.eff 12 0 true (zs 11 (.alloc 41 [sn,sn,se,sn,sn,sn])) (.eff 13 1 false (ys 6 11 39) (.take 14 (zm 12 40) .nil))))))) (.eff 12 0 true (zs 11 (.alloc 41 [sn,sn,se,sn,sn,sn])) (.eff 8 0 false (zs 38 (.call 32 [.t 30,.t 31,.t 32,.t 33,.t 37])) (.take 9 (zm 29 38) (.take 10 (yx 39 29 0) (.take 11 (yx 40 29 1) (.eff 13 1 false (ys 6 11 39) (.take 14 (zm 12 40) .nil)))))))))))))))) 1 [3,9,2]) (zr [yt 41 6 11,ys 6 9 41] (zr [zm 42 12,yo 43 42] (.cond (.t 43) (.seq (.dreg (.take 0 (yt 44 6 9) (.take 1 (zs 6 (.mov (.c (.v (.pointer none))))) (.eff 2 0 false (ys 6 7 44) (.phase [0] .nil)))) 0 [9]) .ret) .skip))))) (.reg [zm 27 10,yp 28 27,zm 10 28])))))) (.seq (.dreg (.take 0 (zm 45 8) (.take 1 (yt 46 6 9) (.take 2 (zm 6 45) (.eff 3 0 false (ys 6 7 46) (.phase [1] .nil))))) 0 [9]) .ret))),[.tmp 6,.cell 7 true 6]⟩
def Zv:cW:=⟨8,zr [zs 2 (.mov (.c (.v (.pointer none))))] (zr [zm 3 0,zs 4 (.nck (.t 3)),zf 5 3 4,zl 6 5,zs 7 (.call 47 [.t 6]),zm 2 7] .ret),[.tmp 2]⟩
def Z5:cW:=⟨38,zr [zs 4 (.mov (.c sn))] (zr [zm 9 0,zs 10 (.nck (.t 9)),zf 11 1 10,zl 12 11,zm 13 1,zs 14 (.plk none false (.v (.pointer none)) (.t 12) (.t 13)),zm 5 14] (.seq (zr [zm 15 5,zs 16 (.cmn false (.t 15))] (.cond (.t 16) (zr [zs 4 (.mov (.c sn))] .ret) .skip)) (zr [zs 17 (.mks 49 4 48 [se,zi,zi,se] (.c zi) (.c (.int .i64 3))),zm 6 17] (.seq (zr [zm 18 5,zs 19 (.nck (.t 18)),zf 20 10 19,yt 21 9 20,yn 22 0] (.block 0 (.loop (zr [yk 23 .lss 22 3] (.seq (.cond (.t 23) .skip (.exit 0)) (.seq (.block 1 (zr [zm 24 22,zs 25 (.aix true 3 3 (.t 21) (.t 22)),zs 8 (.alloc 124 [zi,se,sn]),zm 7 24,ys 3 8 25] (.reg [zm 26 6,zm 27 1,zm 28 7,zf 29 0 8,zl 30 29,zf 31 1 8,zl 32 31,zs 33 (.bld [se,zi,zi,se] [(0,(1,.t 27)),(1,(1,.t 28)),(2,(1,.t 30)),(3,(1,.t 32))]),zs 34 (.bsl 49 4 1 [se,zi,zi,se] [(0,.t 33)]),zs 35 (.app 44 44 49 4 48 (.t 26) (.t 34)),zm 6 35]))) (.reg [yp 36 22,zm 22 36]))))))) (zr [zm 37 6,zm 4 37] .ret))))),[.tmp 4]⟩
def Z3:cW:=⟨21,zr [zs 2 (.box 29 (.t 0)),yb 4 false] (.seq (zr [yn 5 0] (.block 0 (.loop (.seq (zr [zm 6 5,zf 7 0 2,zl 8 7,yl 9 8,yc 10 .lss 6 9] (.cond (.t 10) .skip (.exit 0))) (.seq (.block 1 (zr [zf 13 0 2,zl 14 13,zm 15 5,yi 16 3 14 15,zf 17 0 16,zl 18 17,zm 19 1,yc 20 .eql 18 19] (.cond (.t 20) (zr [yb 4 true] .ret) .skip))) (.reg [zm 11 5,yp 12 11,zm 5 12])))))) (zr [yb 4 false] .ret)),[.tmp 4]⟩
def YI:cW:=⟨47,zr [zs 4 (.box 58 (.t 1)),zs 6 (.mov (.c sn))] (.seq (.dreg (.take 0 (zm 11 0) (.take 1 (zs 12 (.nck (.t 11))) (.take 2 (zf 13 2 12) (.take 3 (zl 14 13) (.take 4 (zf 15 5 4) (.take 5 (zl 16 15) (.eff 6 0 false (zs 17 (.plk none true (.v (.pointer none)) (.t 14) (.t 16))) (.phase [3,5] (.take 7 (zm 10 17) (.take 8 (yx 18 10 0) (.take 9 (yx 19 10 1) (.take 10 (zm 7 18) (.take 11 (zm 8 19) .nil))))))))))))) 0 [0,4]) (.seq (.seq (.dreg (.take 0 (zm 20 8) (.take 1 (yo 21 20) (.take 2 (zm 22 21) (.take 3 (zh 23 22 false 0) (.take 4 (zg 24 22 false (.nck (.t 23))) (.take 5 (gf 25 22 false 1 24) (.take 6 (gl 26 22 false 25) (.take 7 (gf 27 22 false 0 4) (.take 8 (gl 28 22 false 27) (.take 9 (zg 29 22 false (.lkp none false (.bl false) (.t 26) (.t 28))) (.take 10 (go 30 22 false 29) (.take 11 (yq 31 22 true 30) .nil)))))))))))) 0 [0,4]) (.cond (.t 31) (zr [zs 6 (.mov (.c sn))] .ret) .skip)) (.seq (.dreg (.take 1 (zf 33 3 4) (.take 2 (zl 34 33) (.eff 0 0 true (zs 32 (.call 48 [])) (.phase [2,3] (.phase [2,3] (.take 3 (zs 35 (.lkp (some .i64) false (.v .nilFunc) (.t 32) (.t 34))) (.take 4 (zm 9 35) .nil))))))) 0 [4]) (.seq (zr [zm 36 9,zs 37 (.cmf false (.t 36))] (.cond (.t 37) (zr [zs 6 (.mov (.c sn))] .ret) .skip)) (zr [zm 38 9,zm 39 0,zm 40 7,yt 41 14 4,zm 42 2,zs 43 (.cav (.t 38) [.t 39,.t 40,.t 41,.t 42]),zm 44 7,zm 45 2,zs 46 (.call 49 [.t 43,.t 44,.t 45]),zm 6 46] .ret))))),[.tmp 6]⟩
def BL:cW:=⟨26,zr [yb 4 false] (.seq (zr [zm 6 0,yl 7 6,zm 8 1,yl 9 8,yc 10 .neq 7 9] (.cond (.t 10) (zr [yb 4 false] .ret) .skip)) (.seq (zr [yn 5 0] (.block 0 (.loop (.seq (zr [zm 11 5,zm 12 0,yl 13 12,yc 14 .lss 11 13] (.cond (.t 14) .skip (.exit 0))) (.seq (.block 1 (.seq (.dreg (.take 0 (zm 17 0) (.take 1 (zm 18 5) (.take 2 (yi 19 1 17 18) (.take 3 (zl 20 19) (.take 4 (zm 21 1) (.take 5 (zm 22 5) (.take 6 (yi 23 1 21 22) (.take 7 (zl 24 23) (.take 8 (yc 25 .neq 20 24) .nil))))))))) 0 [0,1]) (.cond (.t 25) (zr [yb 4 false] .ret) .skip))) (.reg [zm 15 5,yp 16 15,zm 5 16])))))) (zr [yb 4 true] .ret))),[.tmp 4]⟩
def x20:cW:=⟨23,zr [zs 1 (.box 67 (.t 0)),zs 2 (.mov (.c sn))] (zr [zs 5 (.bsl 9 1 0 [se] []),zm 3 5] (.seq (zr [yn 4 0] (.block 0 (.loop (.seq (zr [zm 6 4,zf 7 11 1,zl 8 7,yl 9 8,yc 10 .lss 6 9] (.cond (.t 10) .skip (.exit 0))) (.seq (.block 1 (.reg [zm 13 3,zf 14 11 1,zl 15 14,zm 16 4,yi 17 3 15 16,zf 18 0 17,zl 19 18,zs 20 (.bsl 9 1 1 [se] [(0,.t 19)]),zs 21 (.app 56 56 9 1 16 (.t 13) (.t 20)),zm 3 21])) (.reg [zm 11 4,yp 12 11,zm 4 12])))))) (zr [zm 22 3,zm 2 22] .ret))),[.tmp 2]⟩
def x21:cW:=⟨106,zr [zs 3 (.box 29 (.t 1)),zs 4 (.mov (.c (.v (.pointer none))))] (zr [zm 15 0,zs 16 (.mkm 70),zs 17 (.mkp 116),zm 18 0,zs 19 (.call 50 [.t 18]),zs 20 (.call 51 []),zs 21 (.bld [se,.v (.map none),.v (.map none),.v (.pointer none),.v (.pointer none),sn] [(0,(1,.t 15)),(1,(1,.t 16)),(2,(1,.t 17)),(3,(1,.t 19)),(4,(1,.t 20))]),zs 22 (.box 118 (.t 21)),zm 5 22] (.seq (zr [zf 23 0 3,zl 24 23,yl 25 24,yn 26 0] (.block 0 (.loop (zr [yc 27 .lss 26 25] (.seq (.cond (.t 27) .skip (.exit 0)) (.seq (.block 1 (zr [yi 28 3 24 26,yt 29 3 28,zs 7 (.alloc 112 [se,se,zi]),ys 3 7 29] (.dreg (.take 0 (zm 30 5) (.take 1 (zs 31 (.nck (.t 30))) (.take 2 (zf 32 1 31) (.take 3 (zl 33 32) (.take 4 (zf 34 0 7) (.take 5 (zl 35 34) (.eff 6 0 false (zn (.upd none (.t 33) (.t 35) (.c (.bl true)))) (.phase [3,5] .nil)))))))) 0 [5,7]))) (.reg [yp 36 26,zm 26 36]))))))) (.seq (zr [zf 37 1 3,zl 38 37,yl 39 38,yn 40 0] (.block 2 (.loop (zr [yc 41 .lss 40 39] (.seq (.cond (.t 41) .skip (.exit 2)) (.seq (.block 3 (zr [yi 42 17 38 40,yt 43 17 42,zs 9 (.alloc 67 [se,se,se,se,se,se,se,se,se,se,zi,sn,zi,zi,zi,zi,zi]),ys 17 9 43] (.seq (.seq (.dreg (.take 0 (zm 45 5) (.take 1 (zs 46 (.nck (.t 45))) (.take 2 (zf 47 2 46) (.take 3 (zl 48 47) (.take 4 (zf 49 0 9) (.take 5 (zl 50 49) (.eff 6 0 false (zs 51 (.plk none true (.v (.pointer none)) (.t 48) (.t 50))) (.phase [3,5] (.take 7 (zm 44 51) (.take 8 (yx 52 44 0) (.take 9 (yx 53 44 1) (.take 10 (zm 10 52) (.take 11 (zm 11 53) .nil))))))))))))) 0 [5,9]) (zr [zm 54 11,zm 55 54,gf 56 55 false 3 9,gl 57 55 false 56,zh 58 55 false 0,gc 59 55 false .neq 57 58,yq 60 55 true 59] (.cond (.t 60) (.exit 3) .skip))) (zr [zf 61 0 9,zl 62 61,zf 63 1 9,zl 64 63,zf 65 2 9,zl 66 65,zf 67 5 9,zl 68 67,zf 69 7 9,zl 70 69,zf 71 8 9,zl 72 71,zf 73 5 9,zl 74 73,zs 75 (.cmp .eql (.t 74) (.c se)),zs 76 (.bld [se,se,se,se,se,se,sn,zi,.bl false] [(0,(1,.t 62)),(1,(1,.t 64)),(2,(1,.t 66)),(3,(1,.t 68)),(4,(1,.t 70)),(5,(1,.t 72)),(8,(1,.t 75))]),zs 77 (.box 136 (.t 76)),zm 12 77] (.seq (zr [zf 78 11 9,zl 79 78,yl 80 79,yn 81 0] (.block 4 (.loop (zr [yc 82 .lss 81 80] (.seq (.cond (.t 82) .skip (.exit 4)) (.seq (.block 5 (zr [yi 83 3 79 81,yt 84 3 83,zs 14 (.alloc 115 [se,zi,sn]),ys 3 14 84] (.dreg (.take 0 (zm 85 12) (.take 1 (zm 86 12) (.take 2 (zs 87 (.nck (.t 86))) (.take 3 (zf 88 6 87) (.take 4 (zl 89 88) (.take 5 (zf 90 0 14) (.take 6 (zl 91 90) (.eff 7 0 true (zs 92 (.bsl 9 1 1 [se] [(0,.t 91)])) (.eff 8 1 false (zs 93 (.app 56 56 9 1 16 (.t 89) (.t 92))) (.take 9 (zs 94 (.nck (.t 85))) (.take 10 (zf 95 6 94) (.eff 11 2 false (ys 1 95 93) (.phase [4,6] .nil))))))))))))) 2 [12,14]))) (.reg [yp 96 81,zm 81 96]))))))) (.dreg (.take 0 (zm 97 5) (.take 1 (zs 98 (.nck (.t 97))) (.take 2 (zf 99 2 98) (.take 3 (zl 100 99) (.take 4 (zf 101 0 9) (.take 5 (zl 102 101) (.take 6 (zm 103 12) (.eff 7 0 false (zn (.pup none (.t 100) (.t 102) (.t 103))) (.phase [3,5] .nil))))))))) 0 [5,9])))))) (.reg [yp 104 40,zm 40 104]))))))) (zr [zm 105 5,zm 4 105] .ret)))),[.tmp 4]⟩
def ZZ:cW:=⟨8,zr [zs 2 (.mov (.c sn))] (zr [zm 3 0,zs 4 (.nck (.t 3)),zf 5 5 4,zl 6 5,zs 7 (.call 52 [.t 6]),zm 2 7] .ret),[.tmp 2]⟩
def W9:cW:=⟨57,zr [zs 4 (.box 52 (.t 1)),zs 6 (.mov (.c sn)),yn 7 0] (.seq (.dreg (.take 1 (zf 15 0 4) (.take 2 (zl 16 15) (.fork (.eff 0 0 true (zs 14 (.call 53 [])) (.fork (.eff 3 0 true (zs 17 (.lkp (some .i64) true (.agg [zi,.v .nilFunc]) (.t 14) (.t 16))) (.take 4 (zm 13 17) (.take 5 (yx 18 13 0) (.take 6 (yx 19 13 1) (.eff 7 0 true (zs 8 (.alloc 140 [zi,.v .nilFunc])) (.eff 8 1 false (ys 2 8 18) (.take 9 (zm 9 19) .nil))))))) (.eff 7 0 true (zs 8 (.alloc 140 [zi,.v .nilFunc])) (.phase [2,3] (.take 3 (zs 17 (.lkp (some .i64) true (.agg [zi,.v .nilFunc]) (.t 14) (.t 16))) (.take 4 (zm 13 17) (.take 5 (yx 18 13 0) (.take 6 (yx 19 13 1) (.eff 8 1 false (ys 2 8 18) (.take 9 (zm 9 19) .nil)))))))))) (.eff 7 0 true (zs 8 (.alloc 140 [zi,.v .nilFunc])) (.eff 0 0 true (zs 14 (.call 53 [])) (.phase [2,3] (.phase [2,3] (.take 3 (zs 17 (.lkp (some .i64) true (.agg [zi,.v .nilFunc]) (.t 14) (.t 16))) (.take 4 (zm 13 17) (.take 5 (yx 18 13 0) (.take 6 (yx 19 13 1) (.eff 8 1 false (ys 2 8 18) (.take 9 (zm 9 19) .nil))))))))))))) 1 [4]) (.seq (zr [zm 20 9,yo 21 20] (.cond (.t 21) (zr [zs 6 (.mov (.c sn)),yn 7 1] .ret) .skip)) (.seq (.dreg (.take 0 (zm 23 0) (.take 1 (zs 24 (.nck (.t 23))) (.take 2 (zf 25 2 24) (.take 3 (zl 26 25) (.take 4 (zf 27 2 4) (.take 5 (zl 28 27) (.eff 6 0 false (zs 29 (.plk none true (.v (.pointer none)) (.t 26) (.t 28))) (.phase [3,5] (.take 7 (zm 22 29) (.take 8 (yx 30 22 0) (.take 9 (yx 31 22 1) (.take 10 (zm 10 30) (.take 11 (zm 9 31) .nil))))))))))))) 0 [0,4]) (.seq (zr [zm 32 9,yo 33 32] (.cond (.t 33) (zr [zs 6 (.mov (.c sn)),yn 7 4] .ret) .skip)) (.seq (.seq (.dreg (.take 0 (zm 34 10) (.take 1 (zs 35 (.nck (.t 34))) (.take 2 (zf 36 7 35) (.take 3 (zl 37 36) (.take 4 (zf 38 0 8) (.take 5 (zl 39 38) (.take 6 (yc 40 .neq 37 39) .nil))))))) 0 [10,8]) (.cond (.t 40) (zr [zs 6 (.mov (.c sn)),yn 7 9] .ret) .skip)) (zr [zf 42 1 8,zl 43 42,zm 44 0,zm 45 10,zm 46 2,zs 47 (.cav (.t 43) [.t 44,.t 45,.t 46]),zm 41 47,yx 48 41 0,yx 49 41 1,zm 11 48,zm 12 49] (.seq (zr [zm 50 12,yk 51 .neq 50 0] (.cond (.t 51) (zr [zm 52 12,zs 6 (.mov (.c sn)),zm 7 52] .ret) .skip)) (zr [zm 53 11,zm 54 10,zm 55 2,zs 56 (.call 49 [.t 53,.t 54,.t 55]),zm 6 56,yn 7 0] .ret)))))))),[.tmp 6,.tmp 7]⟩
def Z4:cW:=⟨5,zr [zs 4 (.mov (.c sn))] (zr [zs 4 (.mov (.c sn))] .ret),[.tmp 4]⟩
def x26:cW:=⟨18,zr [yn 4 0] (zr [zm 6 0,zs 7 (.nck (.t 6)),zf 8 1 7,zl 9 8,zm 10 1,zs 11 (.plk none false (.v (.pointer none)) (.t 9) (.t 10)),zm 5 11] (.seq (zr [zm 12 5,zs 13 (.cmn false (.t 12))] (.cond (.t 13) (zr [yn 4 (-1)] .ret) .skip)) (zr [zm 14 5,zs 15 (.nck (.t 14)),zf 16 9 15,zl 17 16,zm 4 17] .ret))),[.tmp 4]⟩
def Z0:cW:=⟨126,zr [zs 2 (.mov (.c se))] (zr [zs 3 (.alloc 148 [.v (.pointer none),sn])] (zr [zs 19 (.mkf 55 [.t 3]),zm 4 19] (.seq (zr [zm 20 0,zs 21 (.nck (.t 20)),zf 22 2 21,zl 23 22,zs 24 (.call 59 [.t 23]),zs 25 (.call 58 [.t 24]),yl 26 25,yn 27 0] (.block 0 (.loop (zr [yc 28 .lss 27 26] (.seq (.cond (.t 28) .skip (.exit 0)) (.seq (.block 1 (zr [yi 29 1 25 27,zl 30 29,zm 6 30] (zr [zm 31 0,zs 32 (.nck (.t 31)),zf 33 2 32,zl 34 33,zm 35 6,zs 36 (.plk none false (.v (.pointer none)) (.t 34) (.t 35)),zm 7 36] (zr [zs 8 (.mov (.c (.str ⟨#[104,101,108,100]⟩)))] (.seq (zr [zm 37 7,zs 38 (.nck (.t 37)),zf 39 8 38,zl 40 39] (.cond (.t 40) (.reg [zs 8 (.mov (.c (.str ⟨#[114,101,108,101,97,115,101,100]⟩)))]) .skip)) (.reg [zm 41 4,zm 42 6,zm 43 7,zs 44 (.nck (.t 43)),zf 45 7 44,zl 46 45,zs 47 (.aia 1 5 (.g 0) (.t 46)),zl 48 47,zm 49 8,zs 50 (.bsl 9 1 4 [se] [(0,.c (.str ⟨#[100,101,97,108]⟩)),(1,.t 42),(2,.t 48),(3,.t 49)]),zs 51 (.cav (.t 41) [.t 50])])))))) (.reg [yp 52 27,zm 27 52]))))))) (.seq (zr [zm 53 0,zs 54 (.nck (.t 53)),zf 55 3 54,zl 56 55,zs 57 (.call 35 [.t 56]),yl 58 57,yn 59 0] (.block 2 (.loop (zr [yc 60 .lss 59 58] (.seq (.cond (.t 60) .skip (.exit 2)) (.seq (.block 3 (zr [yi 61 1 57 59,zl 62 61,zm 10 62] (zr [zm 63 0,zs 64 (.nck (.t 63)),zf 65 3 64,zl 66 65,zm 67 10,zs 68 (.call 16 [.t 66,.t 67]),yl 69 68,yn 70 0] (.block 4 (.loop (zr [yc 71 .lss 70 69] (.seq (.cond (.t 71) .skip (.exit 4)) (.seq (.block 5 (zr [yi 72 4 68 70,yt 73 4 72,zs 12 (.alloc 49 [se,zi,zi,se]),ys 4 12 73] (zr [zs 13 (.mov (.c se))] (.seq (zr [zf 74 2 12,zl 75 74,yk 76 .geq 75 0,zm 77 76,gf 78 77 true 2 12,gl 79 77 true 78,gk 80 77 true .lss 79 5,yr 81 77 80 false] (.cond (.t 81) (.reg [zf 82 2 12,zl 83 82,zs 84 (.aia 1 5 (.g 1) (.t 83)),zl 85 84,zm 13 85]) .skip)) (.dreg (.take 0 (zm 86 4) (.take 1 (zm 87 10) (.take 2 (zf 88 1 12) (.take 3 (zl 89 88) (.take 5 (zm 91 13) (.take 6 (zf 92 3 12) (.take 7 (zl 93 92) (.eff 4 0 true (zs 90 (.call 60 [.t 89])) (.eff 8 0 false (zs 94 (.bsl 9 1 5 [se] [(0,.c (.str ⟨#[111,114,105,103,105,110,97,108]⟩)),(1,.t 87),(2,.t 90),(3,.t 91),(4,.t 93)])) (.eff 9 1 false (zs 95 (.cav (.t 86) [.t 94])) (.phase [3,7] .nil))))))))))) 1 [12]))))) (.reg [yp 96 70,zm 70 96]))))))))) (.reg [yp 97 59,zm 59 97]))))))) (.seq (zr [zm 98 0,zs 99 (.nck (.t 98)),zf 100 4 99,zl 101 100,zs 102 (.call 38 [.t 101]),yl 103 102,yn 104 0] (.block 6 (.loop (zr [yc 105 .lss 104 103] (.seq (.cond (.t 105) .skip (.exit 6)) (.seq (.block 7 (zr [yi 106 1 102 104,zl 107 106,zm 15 107] (zr [zm 109 0,zs 110 (.nck (.t 109)),zf 111 4 110,zl 112 111,zm 113 15,zs 114 (.call 42 [.t 112,.t 113]),zm 108 114,yx 115 108 0,yx 116 108 1,yx 117 108 2,zm 16 115,zm 17 116,zm 18 117] (.reg [zm 118 4,zm 119 15,zm 120 16,zm 121 17,zs 122 (.bsl 9 1 4 [se] [(0,.c (.str ⟨#[98,111,120]⟩)),(1,.t 119),(2,.t 120),(3,.t 121)]),zs 123 (.cav (.t 118) [.t 122])])))) (.reg [yp 124 104,zm 104 124]))))))) (zr [zs 125 (.call 61 [.t 3]),zm 2 125] .ret)))))),[.tmp 2]⟩
def ZK:cW:=⟨26,zr [yb 4 false] (.seq (zr [zm 6 0,yl 7 6,zm 8 1,yl 9 8,yc 10 .neq 7 9] (.cond (.t 10) (zr [yb 4 false] .ret) .skip)) (.seq (zr [yn 5 0] (.block 0 (.loop (.seq (zr [zm 11 5,zm 12 0,yl 13 12,yc 14 .lss 11 13] (.cond (.t 14) .skip (.exit 0))) (.seq (.block 1 (.seq (.dreg (.take 0 (zm 17 0) (.take 1 (zm 18 5) (.take 2 (yi 19 5 17 18) (.take 3 (yt 20 5 19) (.take 4 (zm 21 1) (.take 5 (zm 22 5) (.take 6 (yi 23 5 21 22) (.take 7 (yt 24 5 23) (.take 8 (zs 25 (.cms true [1,1,1,1,0] (.t 20) (.t 24))) .nil))))))))) 0 [0,1]) (.cond (.t 25) (zr [yb 4 false] .ret) .skip))) (.reg [zm 15 5,yp 16 15,zm 5 16])))))) (zr [yb 4 true] .ret))),[.tmp 4]⟩
def x30:cW:=⟨3,zr [yn 2 0] (zr [yn 2 1] .ret),[.tmp 2]⟩
def ZT:cW:=⟨35,zr [zs 2 (.box 29 (.t 0)),zs 4 (.alloc 41 [sn,sn,se,sn,sn,sn])] (zr [zm 7 1,zs 8 (.bld [se,sn] [(0,(1,.t 7))]),zs 9 (.bld [sn,sn,se,sn,sn,sn] [(2,(2,.t 8))]),zs 5 (.alloc 41 [sn,sn,se,sn,sn,sn]),ys 6 5 9] (.seq (zr [yn 6 0] (.block 0 (.loop (.seq (zr [zm 10 6,zf 11 1 2,zl 12 11,yl 13 12,yc 14 .lss 10 13] (.cond (.t 14) .skip (.exit 0))) (.seq (.block 1 (zr [zf 17 0 5,zl 18 17,zs 19 (.bsl 3 1 1 [zi] [(0,.c zi)]),zs 20 (.app 25 25 3 1 8 (.t 18) (.t 19)),zf 21 0 5,ys 1 21 20] (.dreg (.take 0 (zf 22 1 5) (.take 1 (zl 23 22) (.take 2 (zf 24 1 2) (.take 3 (zl 25 24) (.take 4 (zm 26 6) (.take 5 (yi 27 17 25 26) (.take 6 (zf 28 5 27) (.take 7 (zl 29 28) (.take 8 (zs 30 (.cmp .eql (.t 29) (.c se))) (.eff 9 0 true (zs 31 (.bsl 4 1 1 [.bl false] [(0,.t 30)])) (.eff 10 1 false (zs 32 (.app 35 35 4 1 1 (.t 23) (.t 31))) (.phase [1,3,7] (.take 11 (zf 33 1 5) (.eff 12 2 false (ys 1 33 32) (.phase [1,3,7] .nil))))))))))))))) 2 [5,2]))) (.reg [zm 15 6,yp 16 15,zm 6 16])))))) (zr [yt 34 6 5,ys 6 4 34] .ret))),[.cell 4 true 6]⟩
def Xc:cW:=⟨84,zr [zs 6 (.box 29 (.t 1)),zs 8 (.box 41 (.t 3)),zs 9 (.box 60 (.t 4)),zs 10 (.alloc 41 [sn,sn,se,sn,sn,sn]),yb 11 false] (.seq (zr [zf 20 0 9,zl 21 20] (.block 0 (zr [yk 23 .eql 21 0,zm 22 23] (.cond (.t 22) (zr [zm 25 0,zf 26 2 9,yt 27 3 26,zf 28 1 9,zl 29 28,zs 30 (.call 23 [.t 25,.t 27,.t 29]),zm 24 30,yx 31 24 0,yx 32 24 1,zm 12 31,zm 13 32] (zr [yt 34 5 6,zm 35 2,yt 36 6 8,zf 37 2 9,yt 38 3 37,zf 39 1 9,zl 40 39,zs 41 (.call 65 [.t 34,.t 35,.t 36,.t 38,.t 40]),zm 33 41,yx 42 33 0,yx 43 33 1,yx 44 33 2,zs 14 (.alloc 41 [sn,sn,se,sn,sn,sn]),ys 6 14 42,zm 15 43,zm 16 44] (.seq (.dreg (.take 0 (yt 45 6 14) (.take 1 (zm 46 13) (.take 2 (zm 47 16) (.take 3 (yc 48 .eql 46 47) (.take 4 (zm 49 48) (.take 5 (zh 50 49 true 12) (.take 6 (zh 51 49 true 15) (.eff 7 0 true (zg 52 49 true (.call 66 [.t 50,.t 51])) (.take 8 (yr 53 49 52 false) (.eff 9 0 false (ys 6 10 45) (.take 10 (zm 11 53) .nil))))))))))) 0 [14]) .ret))) (zr [yk 55 .eql 21 1,zm 54 55] (.cond (.t 54) (zr [zm 56 0,zf 57 5 9,yt 58 14 57,zf 59 1 9,zl 60 59,zs 61 (.call 18 [.t 56,.t 58,.t 60]),zm 17 61] (zr [yt 63 5 6,zm 64 2,yt 65 6 8,zf 66 5 9,yt 67 14 66,zf 68 1 9,zl 69 68,zs 70 (.call 67 [.t 63,.t 64,.t 65,.t 67,.t 69]),zm 62 70,yx 71 62 0,yx 72 62 1,zs 18 (.alloc 41 [sn,sn,se,sn,sn,sn]),ys 6 18 71,zm 19 72] (.seq (.dreg (.take 0 (yt 73 6 18) (.take 1 (zm 74 17) (.take 2 (zm 75 19) (.eff 3 0 true (zs 76 (.call 66 [.t 74,.t 75])) (.eff 4 0 false (ys 6 10 73) (.phase [0] (.take 5 (zm 11 76) .nil))))))) 0 [18]) .ret))) .skip)))))) (.seq (.dreg (.take 0 (yt 77 6 8) (.take 1 (zm 78 0) (.take 2 (zf 79 1 9) (.take 3 (zl 80 79) (.eff 4 0 true (zs 81 (.call 24 [.t 78,.t 80])) (.take 5 (yl 82 81) (.take 6 (yk 83 .eql 82 0) (.eff 7 0 false (ys 6 10 77) (.take 8 (zm 11 83) .nil))))))))) 0 [8,9]) .ret)),[.cell 10 true 6,.tmp 11]⟩
def Z6:cW:=⟨2,zr [zs 0 (.mov (.c sn))] (zr [zs 1 (.bsl 9 1 29 [se] [(0,.c (.str ⟨#[111,114,100,101,114]⟩)),(1,.c (.str ⟨#[97,112,112,108,121]⟩)),(2,.c (.str ⟨#[105,115,115,117,101,100]⟩)),(3,.c (.str ⟨#[100,101,99,108,105,110,101,100]⟩)),(4,.c (.str ⟨#[115,104,105,112]⟩)),(5,.c (.str ⟨#[108,97,100,105,110,103]⟩)),(6,.c (.str ⟨#[99,111,118,101,114]⟩)),(7,.c (.str ⟨#[99,111,118,101,114,101,100]⟩)),(8,.c (.str ⟨#[101,110,100,111,114,115,101]⟩)),(9,.c (.str ⟨#[101,110,100,111,114,115,101,100]⟩)),(10,.c (.str ⟨#[112,114,101,115,101,110,116]⟩)),(11,.c (.str ⟨#[114,101,102,117,115,101,100]⟩)),(12,.c (.str ⟨#[97,99,99,101,112,116,101,100]⟩)),(13,.c (.str ⟨#[112,97,105,100]⟩)),(14,.c (.str ⟨#[112,97,112,101,114,115]⟩)),(15,.c (.str ⟨#[100,101,99,108,97,114,101]⟩)),(16,.c (.str ⟨#[100,117,116,121]⟩)),(17,.c (.str ⟨#[116,114,97,110,115,102,101,114]⟩)),(18,.c (.str ⟨#[99,114,101,100,105,116,101,100]⟩)),(19,.c (.str ⟨#[114,101,108,101,97,115,101]⟩)),(20,.c (.str ⟨#[115,117,114,114,101,110,100,101,114]⟩)),(21,.c (.str ⟨#[100,101,108,105,118,101,114,101,100]⟩)),(22,.c (.str ⟨#[111,98,106,101,99,116,101,100]⟩)),(23,.c (.str ⟨#[108,111,115,116]⟩)),(24,.c (.str ⟨#[114,101,112,108,97,99,101]⟩)),(25,.c (.str ⟨#[114,101,112,108,97,99,101,100]⟩)),(26,.c (.str ⟨#[108,97,110,100,101,100]⟩)),(27,.c (.str ⟨#[114,101,109,105,116]⟩)),(28,.c (.str ⟨#[97,99,107]⟩))]),zm 0 1] .ret),[.tmp 0]⟩
def Zu:cW:=⟨8,zr [zs 2 (.mov (.c (.v (.pointer none))))] (zr [zm 3 0,zs 4 (.nck (.t 3)),zf 5 4 4,zl 6 5,zs 7 (.call 68 [.t 6]),zm 2 7] .ret),[.tmp 2]⟩
def Zw:cW:=⟨5,zr [zs 2 (.mov (.c sn))] (zr [zm 3 0,zs 4 (.call 69 [.t 3,.c (.clo 70 [])]),zm 2 4] .ret),[.tmp 2]⟩
def x36:cW:=⟨23,zr [zs 1 (.box 38 (.t 0)),zs 2 (.mov (.c sn))] (zr [zs 5 (.bsl 9 1 0 [se] []),zm 3 5] (.seq (zr [yn 4 0] (.block 0 (.loop (.seq (zr [zm 6 4,zf 7 1 1,zl 8 7,yl 9 8,yc 10 .lss 6 9] (.cond (.t 10) .skip (.exit 0))) (.seq (.block 1 (.reg [zm 13 3,zf 14 1 1,zl 15 14,zm 16 4,yi 17 11 15 16,zf 18 0 17,zf 19 0 18,zl 20 19,zs 21 (.call 71 [.t 13,.t 20]),zm 3 21])) (.reg [zm 11 4,yp 12 11,zm 4 12])))))) (zr [zm 22 3,zm 2 22] .ret))),[.tmp 2]⟩
def ZH:cW:=⟨26,zr [yb 4 false] (.seq (zr [zm 6 0,yl 7 6,zm 8 1,yl 9 8,yc 10 .neq 7 9] (.cond (.t 10) (zr [yb 4 false] .ret) .skip)) (.seq (zr [yn 5 0] (.block 0 (.loop (.seq (zr [zm 11 5,zm 12 0,yl 13 12,yc 14 .lss 11 13] (.cond (.t 14) .skip (.exit 0))) (.seq (.block 1 (.seq (.dreg (.take 0 (zm 17 0) (.take 1 (zm 18 5) (.take 2 (yi 19 1 17 18) (.take 3 (zl 20 19) (.take 4 (zm 21 1) (.take 5 (zm 22 5) (.take 6 (yi 23 1 21 22) (.take 7 (zl 24 23) (.take 8 (yc 25 .neq 20 24) .nil))))))))) 0 [0,1]) (.cond (.t 25) (zr [yb 4 false] .ret) .skip))) (.reg [zm 15 5,yp 16 15,zm 5 16])))))) (zr [yb 4 true] .ret))),[.tmp 4]⟩
def x38:cW:=⟨9,zr [zs 2 (.mov (.c sn))] (zr [zm 3 0,zs 4 (.nck (.t 3)),zf 5 0 4,zl 6 5,zs 7 (.call 72 [.t 6]),zs 8 (.call 58 [.t 7]),zm 2 8] .ret),[.tmp 2]⟩
def Z1:cW:=⟨20,zr [zs 2 (.mov (.c sn))] (zr [zs 5 (.bsl 9 1 0 [se] []),zm 3 5] (.seq (zr [yn 4 0] (.block 0 (.loop (.seq (zr [zm 6 4,zm 7 0,yl 8 7,yc 9 .lss 6 8] (.cond (.t 9) .skip (.exit 0))) (.seq (.block 1 (.reg [zm 12 3,zm 13 0,zm 14 4,yi 15 5 13 14,zf 16 0 15,zl 17 16,zs 18 (.call 62 [.t 12,.t 17]),zm 3 18])) (.reg [zm 10 4,yp 11 10,zm 4 11])))))) (zr [zm 19 3,zm 2 19] .ret))),[.tmp 2]⟩
def x40:cW:=⟨12,zr [zs 4 (.mov (.c sn))] (zr [zm 5 0,zs 6 (.nck (.t 5)),zf 7 0 6,zl 8 7,zm 9 1,zs 10 (.plk none false sn (.t 8) (.t 9)),zs 11 (.call 52 [.t 10]),zm 4 11] .ret),[.tmp 4]⟩
def ZX:cW:=⟨29,zr [zs 4 (.mov (.c sn))] (zr [zs 7 (.bsl 77 5 0 [se,se,se,se,zi] []),zm 5 7] (.seq (zr [yn 6 0] (.block 0 (.loop (.seq (zr [zm 8 6,zm 9 0,yl 10 9,yc 11 .lss 8 10] (.cond (.t 11) .skip (.exit 0))) (.seq (.block 1 (zr [zm 14 0,zm 15 6,yi 16 5 14 15,zf 17 0 16,zl 18 17,zm 19 1,yc 20 .eql 18 19] (.cond (.t 20) (.reg [zm 21 5,zm 22 0,zm 23 6,yi 24 5 22 23,yt 25 5 24,zs 26 (.bsl 77 5 1 [se,se,se,se,zi] [(0,.t 25)]),zs 27 (.app 39 39 77 5 72 (.t 21) (.t 26)),zm 5 27]) .skip))) (.reg [zm 12 6,yp 13 12,zm 6 13])))))) (zr [zm 28 5,zm 4 28] .ret))),[.tmp 4]⟩
def x42:cW:=⟨13,zr [zs 4 (.mov (.c se)),zs 5 (.mov (.c se)),yb 6 false] (zr [zm 7 0,zm 8 1,zs 9 (.call 73 [.t 7,.t 8,.c (.int .i64 1048576)]),yx 10 9 0,yx 11 9 1,yx 12 9 2,zm 4 10,zm 5 11,zm 6 12] .ret),[.tmp 4,.tmp 5,.tmp 6]⟩
def ZW:cW:=⟨74,zr [zs 3 (.box 77 (.t 1)),yn 4 0] (.seq (zr [zf 8 0 3,zl 9 8,zf 10 1 3,zl 11 10,zf 12 2 3,zl 13 12,zf 14 3 3,zl 15 14,zs 16 (.bsl 9 1 4 [se] [(0,.t 9),(1,.t 11),(2,.t 13),(3,.t 15)]),zs 17 (.call 74 [.t 16]),yo 18 17,zm 19 18,gf 20 19 false 1 3,gl 21 19 false 20,gf 22 19 false 2 3,gl 23 19 false 22,gc 24 19 false .eql 21 23,yq 25 19 true 24] (.cond (.t 25) (zr [yn 4 1] .ret) .skip)) (.seq (zr [zf 26 4 3,zl 27 26,zs 28 (.call 75 [.t 27]),yo 29 28] (.cond (.t 29) (zr [yn 4 3] .ret) .skip)) (.seq (.dreg (.take 0 (zm 31 0) (.take 1 (zs 32 (.nck (.t 31))) (.take 2 (zf 33 0 32) (.take 3 (zl 34 33) (.take 4 (zf 35 0 3) (.take 5 (zl 36 35) (.eff 6 0 false (zs 37 (.plk none true sn (.t 34) (.t 36))) (.phase [3,5] (.take 7 (zm 30 37) (.take 8 (yx 38 30 0) (.take 9 (yx 39 30 1) (.take 10 (zm 5 38) (.take 11 (zm 6 39) .nil))))))))))))) 0 [0,3]) (.seq (zr [zm 40 6,yo 41 40] (.cond (.t 41) (zr [yn 4 4] .ret) .skip)) (zr [zm 42 5,zm 43 5,yl 44 43,zs 45 (.ari .sub .i64 (.t 44) (.c (.int .i64 1))),yi 46 5 42 45,yt 47 5 46,zs 7 (.alloc 77 [se,se,se,se,zi]),ys 5 7 47] (.seq (.block 0 (zr [zf 49 2 7,zl 50 49,zf 51 1 3,zl 52 51,yc 53 .neq 50 52,zm 48 53] (.cond (.t 48) (zr [yn 4 8] .ret) (zr [zf 55 4 3,zl 56 55,zf 57 4 7,zl 58 57,yc 59 .lss 56 58,zm 54 59] (.cond (.t 54) (zr [yn 4 6] .ret) (zr [zm 61 5,yl 62 61,yk 63 .geq 62 4096,zm 60 63] (.cond (.t 60) (zr [yn 4 7] .ret) .skip))))))) (.seq (.dreg (.take 0 (zm 64 0) (.take 1 (zs 65 (.nck (.t 64))) (.take 2 (zf 66 0 65) (.take 3 (zl 67 66) (.take 4 (zf 68 0 3) (.take 5 (zl 69 68) (.take 6 (zm 70 5) (.take 7 (yt 71 5 3) (.eff 8 0 true (zs 72 (.bsl 77 5 1 [se,se,se,se,zi] [(0,.t 71)])) (.eff 9 1 true (zs 73 (.app 39 39 77 5 72 (.t 70) (.t 72))) (.eff 10 2 false (zn (.pup none (.t 67) (.t 69) (.t 73))) (.phase [3,5,7] .nil)))))))))))) 2 [0,3]) (zr [yn 4 0] .ret)))))))),[.tmp 4]⟩
def ZF:cW:=⟨26,zr [yb 4 false] (.seq (zr [zm 6 0,yl 7 6,zm 8 1,yl 9 8,yc 10 .neq 7 9] (.cond (.t 10) (zr [yb 4 false] .ret) .skip)) (.seq (zr [yn 5 0] (.block 0 (.loop (.seq (zr [zm 11 5,zm 12 0,yl 13 12,yc 14 .lss 11 13] (.cond (.t 14) .skip (.exit 0))) (.seq (.block 1 (.seq (.dreg (.take 0 (zm 17 0) (.take 1 (zm 18 5) (.take 2 (yi 19 4 17 18) (.take 3 (yt 20 4 19) (.take 4 (zm 21 1) (.take 5 (zm 22 5) (.take 6 (yi 23 4 21 22) (.take 7 (yt 24 4 23) (.take 8 (zs 25 (.cms true [1,1,0,0] (.t 20) (.t 24))) .nil))))))))) 0 [0,1]) (.cond (.t 25) (zr [yb 4 false] .ret) .skip))) (.reg [zm 15 5,yp 16 15,zm 5 16])))))) (zr [yb 4 true] .ret))),[.tmp 4]⟩
def ZS:cW:=⟨19,zr [zs 6 (.mov (.c sn))] (zr [zm 10 0,zm 11 1,zm 12 2,zs 13 (.call 76 [.t 10,.t 11,.t 12]),zm 9 13,yx 14 9 0,yx 15 9 1,zs 7 (.alloc 124 [zi,se,sn]),ys 3 7 14,zm 8 15] (zr [zf 16 2 7,zl 17 16,zs 18 (.call 77 [.t 17]),zm 6 18] .ret)),[.tmp 6]⟩
def ZD:cW:=⟨30,zr [yn 8 0] (zr [zm 10 0,zm 11 1,zm 12 2,zm 13 3,zs 14 (.bld [se,zi,zi,se,zi,zi,.bl false,.bl false] [(0,(1,.t 11)),(1,(1,.t 12)),(3,(1,.t 13)),(4,(1,.c zi))]),zs 15 (.call 78 [.t 10,.t 14]),zm 9 15] (.seq (zr [zm 16 9,yk 17 .eql 16 0] (.cond (.t 17) (.reg [zm 18 0,zs 19 (.nck (.t 18)),zf 20 1 19,zl 21 20,zm 22 1,zs 23 (.plk none false (.v (.pointer none)) (.t 21) (.t 22)),zm 24 2,zs 25 (.nck (.t 23)),zf 26 10 25,zs 27 (.aia 3 3 (.t 26) (.t 24)),zf 28 0 27,zn (.st 1 (.t 28) (.c (.int .i64 3)))]) .skip)) (zr [zm 29 9,zm 8 29] .ret))),[.tmp 8]⟩
def x47:cW:=⟨63,zr [zs 2 (.mov (.c (.v (.pointer none))))] (zr [zm 8 0,zs 9 (.nck (.t 8)),zf 10 0 9,zl 11 10,zs 12 (.call 50 [.t 11]),zm 3 12] (.seq (zr [zm 13 0,zs 14 (.nck (.t 13)),zf 15 1 14,zl 16 15,zs 17 (.rng (.t 16))] (.block 0 (.loop (zr [zs 18 (.nxt (.t 17)),yx 19 18 0] (.seq (.cond (.t 19) .skip (.exit 0)) (.block 1 (zr [zs 20 (.ent (.t 17)),yx 21 20 0,yx 22 20 1,zm 4 21,zm 5 22] (.seq (.dreg (.take 0 (zm 23 5) (.take 1 (zs 24 (.nck (.t 23))) (.take 2 (zf 25 0 24) (.take 3 (yt 26 9 25) (.take 5 (zm 28 5) (.take 6 (zs 29 (.nck (.t 28))) (.take 7 (zf 30 9 29) (.take 8 (zl 31 30) (.take 9 (zm 32 5) (.take 10 (zs 33 (.nck (.t 32))) (.take 11 (zf 34 10 33) (.take 12 (yt 35 9 34) (.eff 4 0 true (zs 27 (.call 54 [.t 26])) (.take 13 (zs 36 (.bld [se,se,se,se,se,sn,sn,zi,.bl false,zi,zi,se,sn,zi,se,sn,zi,se,sn] [(0,(9,.t 27)),(9,(1,.t 31)),(10,(9,.t 35))])) (.eff 14 0 false (zs 37 (.box 127 (.t 36))) (.phase [3,8,12] (.take 15 (zm 6 37) .nil))))))))))))))))) 1 [5]) (.seq (zr [yn 38 0] (.block 2 (.loop (zr [yk 39 .lss 38 3] (.seq (.cond (.t 39) .skip (.exit 2)) (.seq (.block 3 (zr [zm 40 38,zm 7 40] (.dreg (.take 0 (zm 41 6) (.take 1 (zm 42 7) (.take 2 (zm 43 6) (.take 3 (zm 44 7) (.take 4 (zs 45 (.nck (.t 43))) (.take 5 (zf 46 10 45) (.take 6 (zs 47 (.aia 3 3 (.t 46) (.t 44))) (.take 7 (zf 48 2 47) (.take 8 (zl 49 48) (.take 10 (zs 51 (.nck (.t 41))) (.take 11 (zf 52 10 51) (.eff 9 0 false (zs 50 (.call 77 [.t 49])) (.take 12 (zs 53 (.aia 3 3 (.t 52) (.t 42))) (.take 13 (zf 54 2 53) (.eff 14 0 false (ys 1 54 50) (.phase [8] .nil)))))))))))))))) 0 [6]))) (.reg [yp 55 38,zm 38 55]))))))) (.reg [zm 56 3,zs 57 (.nck (.t 56)),zf 58 1 57,zl 59 58,zm 60 4,zm 61 6,zn (.pup none (.t 59) (.t 60) (.t 61))])))))))))) (zr [zm 62 3,zm 2 62] .ret))),[.tmp 2]⟩
def ZG:cW:=⟨3,zr [zs 0 (.mov (.c (.v (.map none))))] (zr [zs 1 (.mkm 131),zn (.upd (some .i64) (.t 1) (.c (.int .i64 4)) (.c (.clo 79 []))),zn (.upd (some .i64) (.t 1) (.c (.int .i64 8)) (.c (.clo 80 []))),zn (.upd (some .i64) (.t 1) (.c (.int .i64 20)) (.c (.clo 81 []))),zn (.upd (some .i64) (.t 1) (.c (.int .i64 19)) (.c (.clo 82 []))),zn (.upd (some .i64) (.t 1) (.c (.int .i64 23)) (.c (.clo 83 []))),zn (.upd (some .i64) (.t 1) (.c (.int .i64 24)) (.c (.clo 84 []))),zm 2 1,zm 0 2] .ret),[.tmp 0]⟩
def ZB:cW:=⟨28,zr [zs 6 (.mov (.c sn))] (.seq (zr [zm 8 0,yl 9 8,yn 10 0] (.block 0 (.loop (zr [yc 11 .lss 10 9] (.seq (.cond (.t 11) .skip (.exit 0)) (.seq (.block 1 (zr [zm 12 10,zm 7 12] (.reg [zm 13 0,zm 14 7,zm 15 0,zm 16 7,zm 17 1,zs 18 (.nck (.t 17)),zf 19 0 18,zl 20 19,zm 21 2,yi 22 14 13 14,zf 23 5 22,ys 1 23 20,yi 24 14 15 16,zf 25 9 24,ys 1 25 21]))) (.reg [yp 26 10,zm 10 26]))))))) (zr [zm 27 0,zm 6 27] .ret)),[.tmp 6]⟩
def Z8:cW:=⟨7,zr [zs 2 (.mov (.c (.v (.pointer none))))] (zr [zm 3 0,zs 4 (.mkp 120),zs 5 (.bld [se,.v (.map none)] [(0,(1,.t 3)),(1,(1,.t 4))]),zs 6 (.box 122 (.t 5)),zm 2 6] .ret),[.tmp 2]⟩
def x51:cW:=⟨4,zr [zs 0 (.mov (.c (.v (.pointer none))))] (zr [zs 1 (.mkp 172),zs 2 (.bld [.v (.map none)] [(0,(1,.t 1))]),zs 3 (.box 174 (.t 2)),zm 0 3] .ret),[.tmp 0]⟩
def XE:cW:=⟨8,zr [zs 2 (.mov (.c sn))] (.seq (zr [zm 3 0,zs 4 (.nils false (.t 3))] (.cond (.t 4) (zr [zs 2 (.mov (.c sn))] .ret) .skip)) (zr [zs 5 (.bsl 77 5 0 [se,se,se,se,zi] []),zm 6 0,zs 7 (.app 39 39 77 5 72 (.t 5) (.t 6)),zm 2 7] .ret)),[.tmp 2]⟩
def x53:cW:=⟨5,zr [zs 0 (.mov (.c (.v (.map none))))] (zr [zs 1 (.mkm 142),zs 2 (.bld [zi,.v .nilFunc] [(0,(1,.c (.int .i64 1))),(1,(1,.c (.clo 85 [])))]),zn (.upd (some .i64) (.t 1) (.c (.int .i64 5)) (.t 2)),zs 3 (.bld [zi,.v .nilFunc] [(0,(1,.c (.int .i64 2))),(1,(1,.c (.clo 86 [])))]),zn (.upd (some .i64) (.t 1) (.c (.int .i64 6)) (.t 3)),zm 4 1,zm 0 4] .ret),[.tmp 0]⟩
def x54:cW:=⟨12,zr [zs 1 (.box 79 (.t 0)),zs 2 (.alloc 79 [se,se,se,se,se,sn,sn,zi,.bl false])] (zr [zf 3 5 1,zl 4 3,zs 5 (.call 87 [.t 4]),zf 6 5 1,ys 1 6 5] (zr [zf 7 6 1,zl 8 7,zs 9 (.call 87 [.t 8]),zf 10 6 1,ys 1 10 9] (zr [yt 11 9 1,ys 9 2 11] .ret))),[.cell 2 true 9]⟩
def x55:cW:=⟨7,.reg [zm 3 0,zs 4 (.call 57 [.t 3,.c (.str ⟨#[32]⟩)]),zs 5 (.ari .add .i64 (.t 4) (.c (.str ⟨#[10]⟩))),zs 6 (.call 56 [.t 1,.t 5])],[]⟩
def oD:cW:=⟨49,zr [zs 4 (.mov (.c sn))] (zr [zs 8 (.bsl 9 1 0 [se] []),zm 5 8] (zr [yb 6 false] (.seq (zr [yn 7 0] (.block 0 (.loop (.seq (zr [zm 9 7,zm 10 0,yl 11 10,yc 12 .lss 9 11] (.cond (.t 12) .skip (.exit 0))) (.seq (.block 1 (.seq (zr [zm 15 6,yo 16 15,zm 17 16,zh 18 17 true 1,zh 19 17 true 0,zh 20 17 true 7,gi 21 17 true 1 19 20,gl 22 17 true 21,gc 23 17 true .leq 18 22,yr 24 17 23 false] (.cond (.t 24) (zr [zm 25 5,zm 26 1,zs 27 (.bsl 9 1 1 [se] [(0,.t 26)]),zs 28 (.app 56 56 9 1 16 (.t 25) (.t 27)),zm 5 28] (.reg [yb 6 true])) .skip)) (zr [zm 29 0,zm 30 7,yi 31 1 29 30,zl 32 31,zm 33 1,yc 34 .neq 32 33] (.cond (.t 34) (.reg [zm 35 5,zm 36 0,zm 37 7,yi 38 1 36 37,zl 39 38,zs 40 (.bsl 9 1 1 [se] [(0,.t 39)]),zs 41 (.app 56 56 9 1 16 (.t 35) (.t 40)),zm 5 41]) .skip)))) (.reg [zm 13 7,yp 14 13,zm 7 14])))))) (.seq (zr [zm 42 6,yo 43 42] (.cond (.t 43) (.reg [zm 44 5,zm 45 1,zs 46 (.bsl 9 1 1 [se] [(0,.t 45)]),zs 47 (.app 56 56 9 1 16 (.t 44) (.t 46)),zm 5 47]) .skip)) (zr [zm 48 5,zm 4 48] .ret))))),[.tmp 4]⟩
def ZA:cW:=⟨23,zr [zs 2 (.box 38 (.t 0)),yn 4 0] (.seq (zr [yn 5 0] (.block 0 (.loop (.seq (zr [zm 6 5,zf 7 1 2,zl 8 7,yl 9 8,yc 10 .lss 6 9] (.cond (.t 10) .skip (.exit 0))) (.seq (.block 1 (zr [zf 13 1 2,zl 14 13,zm 15 5,yi 16 11 14 15,zf 17 0 16,zf 18 0 17,zl 19 18,zm 20 1,yc 21 .eql 19 20] (.cond (.t 21) (zr [zm 22 5,zm 4 22] .ret) .skip))) (.reg [zm 11 5,yp 12 11,zm 5 12])))))) (zr [yn 4 (-1)] .ret)),[.tmp 4]⟩
def Zi:cW:=⟨40,zr [zs 2 (.mov (.c se))] (.seq (zr [zm 3 0,yk 4 .lss 3 0] (.cond (.t 4) (.seq (zr [zm 5 0,yk 6 .gtr 5 (-10)] (.cond (.t 6) (zr [zm 7 0,zs 8 (.ari .sub .i64 (.c (.int .i64 48)) (.t 7)),zs 9 (.cvi .u8 (.t 8)),zs 10 (.bsl 5 1 1 [.int .u8 0] [(0,.t 9)]),zs 11 (.b2s (.t 10)),zs 12 (.ari .add .i64 (.c (.str ⟨#[45]⟩)) (.t 11)),zm 2 12] .ret) .skip)) (.seq (.dreg (.take 0 (zm 13 0) (.take 1 (zs 14 (.ari .quo .i64 (.t 13) (.c (.int .i64 10)))) (.take 3 (zm 16 0) (.take 4 (zs 17 (.ari .rem .i64 (.t 16) (.c (.int .i64 10)))) (.take 5 (zs 18 (.ari .sub .i64 (.c (.int .i64 48)) (.t 17))) (.take 6 (zs 19 (.cvi .u8 (.t 18))) (.fork (.eff 2 0 false (zs 15 (.call 64 [.t 14])) (.eff 7 0 false (zs 20 (.bsl 5 1 1 [.int .u8 0] [(0,.t 19)])) (.phase [8] (.take 8 (zs 21 (.b2s (.t 20))) (.take 9 (ya 22 .add .i64 15 21) (.take 10 (zm 2 22) .nil)))))) (.eff 7 0 false (zs 20 (.bsl 5 1 1 [.int .u8 0] [(0,.t 19)])) (.phase [8] (.take 8 (zs 21 (.b2s (.t 20))) (.eff 2 0 true (zs 15 (.call 64 [.t 14])) (.take 9 (ya 22 .add .i64 15 21) (.take 10 (zm 2 22) .nil))))))))))))) 1 []) .ret)) .skip)) (.seq (zr [zm 23 0,yk 24 .lss 23 10] (.cond (.t 24) (zr [zm 25 0,zs 26 (.ari .add .i64 (.c (.int .i64 48)) (.t 25)),zs 27 (.cvi .u8 (.t 26)),zs 28 (.bsl 5 1 1 [.int .u8 0] [(0,.t 27)]),zs 29 (.b2s (.t 28)),zm 2 29] .ret) .skip)) (.seq (.dreg (.take 0 (zm 30 0) (.take 1 (zs 31 (.ari .quo .i64 (.t 30) (.c (.int .i64 10)))) (.take 3 (zm 33 0) (.take 4 (zs 34 (.ari .rem .i64 (.t 33) (.c (.int .i64 10)))) (.take 5 (zs 35 (.ari .add .i64 (.c (.int .i64 48)) (.t 34))) (.take 6 (zs 36 (.cvi .u8 (.t 35))) (.fork (.eff 2 0 false (zs 32 (.call 64 [.t 31])) (.eff 7 0 false (zs 37 (.bsl 5 1 1 [.int .u8 0] [(0,.t 36)])) (.phase [8] (.take 8 (zs 38 (.b2s (.t 37))) (.take 9 (ya 39 .add .i64 32 38) (.take 10 (zm 2 39) .nil)))))) (.eff 7 0 false (zs 37 (.bsl 5 1 1 [.int .u8 0] [(0,.t 36)])) (.phase [8] (.take 8 (zs 38 (.b2s (.t 37))) (.eff 2 0 true (zs 32 (.call 64 [.t 31])) (.take 9 (ya 39 .add .i64 32 38) (.take 10 (zm 2 39) .nil))))))))))))) 1 []) .ret))),[.tmp 2]⟩
def W5:cW:=⟨102,zr [zs 5 (.box 29 (.t 0)),zs 7 (.box 41 (.t 2)),zs 8 (.box 52 (.t 3)),zs 10 (.alloc 41 [sn,sn,se,sn,sn,sn]),zs 11 (.mov (.c sn)),yn 12 0] (.seq (zr [zf 18 0 8,zl 19 18,yk 20 .neq 19 5,zm 21 20,gf 22 21 true 0 8,gl 23 21 true 22,gk 24 21 true .neq 23 6,yr 25 21 24 false] (.cond (.t 25) (zr [yt 26 6 7,ys 6 10 26,zs 11 (.mov (.c sn)),yn 12 1] .ret) .skip)) (zr [yt 27 5 5,zm 28 1,zf 29 2 8,zl 30 29,zs 31 (.call 13 [.t 27,.t 28,.t 30]),zm 13 31] (.seq (zr [zm 32 13,yk 33 .lss 32 0] (.cond (.t 33) (zr [yt 34 6 7,ys 6 10 34,zs 11 (.mov (.c sn)),yn 12 4] .ret) .skip)) (zr [zf 35 1 5,zl 36 35,zm 37 13,yi 38 17 36 37,yt 39 17 38,zs 14 (.alloc 67 [se,se,se,se,se,se,se,se,se,se,zi,sn,zi,zi,zi,zi,zi]),ys 17 14 39] (.seq (zr [zf 40 0 8,zl 41 40,yk 42 .eql 41 6] (.cond (.t 42) (.seq (zr [zf 43 0 7,zl 44 43,zm 45 13,yi 46 1 44 45,zl 47 46,yk 48 .neq 47 2] (.cond (.t 48) (zr [yt 49 6 7,ys 6 10 49,zs 11 (.mov (.c sn)),yn 12 9] .ret) .skip)) (.seq (.dreg (.take 0 (yt 50 6 7) (.take 1 (zm 51 13) (.take 3 (zf 53 2 14) (.take 4 (zl 54 53) (.take 5 (zf 55 0 14) (.take 6 (zl 56 55) (.take 7 (zm 57 4) (.take 8 (yt 58 17 14) (.eff 2 0 true (zs 52 (.call 94 [.t 50,.t 51,.c (.int .i64 3)])) (.eff 9 0 true (zs 59 (.call 20 [.t 58])) (.take 10 (zs 60 (.bld [se,se,zi,zi,zi,se,se,se,zi,zi,se,zi,sn,sn] [(1,(1,.t 54)),(3,(1,.c (.int .i64 26))),(5,(1,.t 56)),(9,(1,.t 57)),(13,(1,.t 59))])) (.fork (.eff 11 0 true (zs 61 (.bsl 58 14 1 [se,se,zi,zi,zi,se,se,se,zi,zi,se,zi,sn,sn] [(0,.t 60)])) (.eff 12 1 true (ys 6 10 52) (.take 13 (zm 11 61) (.take 14 (yn 12 0) .nil)))) (.eff 12 1 true (ys 6 10 52) (.eff 11 0 false (zs 61 (.bsl 58 14 1 [se,se,zi,zi,zi,se,se,se,zi,zi,se,zi,sn,sn] [(0,.t 60)])) (.take 13 (zm 11 61) (.take 14 (yn 12 0) .nil)))))))))))))))) 1 [7,14]) .ret)) .skip)) (.seq (zr [zf 62 0 7,zl 63 62,zm 64 13,yi 65 1 63 64,zl 66 65,yk 67 .neq 66 1] (.cond (.t 67) (zr [yt 68 6 7,ys 6 10 68,zs 11 (.mov (.c sn)),yn 12 9] .ret) .skip)) (zr [yt 69 17 14,zm 70 1,zm 71 4,zs 72 (.call 95 [.t 69,.t 70,.t 71]),zs 15 (.alloc 79 [se,se,se,se,se,sn,sn,zi,.bl false]),ys 9 15 72] (zr [zf 74 2 7,yt 75 2 74,yt 76 9 15,zf 77 1 14,zl 78 77,zs 79 (.call 96 [.t 75,.t 76,.t 78]),zm 73 79,yx 80 73 0,yx 81 73 1,zs 16 (.alloc 38 [se,sn]),ys 2 16 80,zm 17 81] (.seq (zr [zm 82 17,yk 83 .neq 82 0] (.cond (.t 83) (zr [yt 84 6 7,zm 85 17,ys 6 10 84,zs 11 (.mov (.c sn)),zm 12 85] .ret) .skip)) (zr [yt 86 6 7,zm 87 13,zs 88 (.call 94 [.t 86,.t 87,.c (.int .i64 2)]),ys 6 7 88] (zr [yt 89 2 16,zf 90 2 7,ys 2 90 89] (.seq (.dreg (.take 0 (yt 91 6 7) (.take 1 (zf 92 1 14) (.take 2 (zl 93 92) (.take 3 (zf 94 0 14) (.take 4 (zl 95 94) (.take 5 (zm 96 4) (.take 6 (yt 97 9 15) (.eff 7 0 true (zs 98 (.call 97 [.t 97])) (.fork (.eff 8 0 true (zs 99 (.bsp 200 4 1 [zi,se,se,sn] [(0,.t 98)])) (.take 9 (zs 100 (.bld [se,se,zi,zi,zi,se,se,se,zi,zi,se,zi,sn,sn] [(1,(1,.t 93)),(3,(1,.c (.int .i64 5))),(5,(1,.t 95)),(9,(1,.t 96)),(12,(1,.t 99))])) (.fork (.eff 10 1 true (zs 101 (.bsl 58 14 1 [se,se,zi,zi,zi,se,se,se,zi,zi,se,zi,sn,sn] [(0,.t 100)])) (.eff 11 2 true (ys 6 10 91) (.take 12 (zm 11 101) (.take 13 (yn 12 0) .nil)))) (.eff 11 2 true (ys 6 10 91) (.eff 10 1 true (zs 101 (.bsl 58 14 1 [se,se,zi,zi,zi,se,se,se,zi,zi,se,zi,sn,sn] [(0,.t 100)])) (.take 12 (zm 11 101) (.take 13 (yn 12 0) .nil))))))) (.eff 11 2 true (ys 6 10 91) (.eff 8 0 true (zs 99 (.bsp 200 4 1 [zi,se,se,sn] [(0,.t 98)])) (.take 9 (zs 100 (.bld [se,se,zi,zi,zi,se,se,se,zi,zi,se,zi,sn,sn] [(1,(1,.t 93)),(3,(1,.c (.int .i64 5))),(5,(1,.t 95)),(9,(1,.t 96)),(12,(1,.t 99))])) (.eff 10 1 true (zs 101 (.bsl 58 14 1 [se,se,zi,zi,zi,se,se,se,zi,zi,se,zi,sn,sn] [(0,.t 100)])) (.take 12 (zm 11 101) (.take 13 (yn 12 0) .nil))))))))))))))) 2 [7,14,15]) .ret)))))))))))),[.cell 10 true 6,.tmp 11,.tmp 12]⟩
def Zx:cW:=⟨27,zr [yb 4 false] (.seq (zr [zm 6 0,yl 7 6,zm 8 1,yl 9 8,yc 10 .neq 7 9] (.cond (.t 10) (zr [yb 4 false] .ret) .skip)) (.seq (zr [yn 5 0] (.block 0 (.loop (.seq (zr [zm 11 5,zm 12 0,yl 13 12,yc 14 .lss 11 13] (.cond (.t 14) .skip (.exit 0))) (.seq (.block 1 (.seq (.dreg (.take 0 (zm 17 0) (.take 1 (zm 18 5) (.take 2 (yi 19 14 17 18) (.take 3 (yt 20 14 19) (.take 4 (zm 21 1) (.take 5 (zm 22 5) (.take 6 (yi 23 14 21 22) (.take 7 (yt 24 14 23) (.eff 8 0 false (zs 25 (.call 98 [.t 20,.t 24])) (.phase [3,7] (.take 9 (yo 26 25) .nil))))))))))) 0 [0,1]) (.cond (.t 26) (zr [yb 4 false] .ret) .skip))) (.reg [zm 15 5,yp 16 15,zm 5 16])))))) (zr [yb 4 true] .ret))),[.tmp 4]⟩
def Sj:cW:=⟨237,zr [zs 5 (.box 29 (.t 0)),zs 7 (.box 41 (.t 2)),zs 8 (.box 58 (.t 3)),zs 10 (.alloc 41 [sn,sn,se,sn,sn,sn]),zs 11 (.mov (.c sn))] (zr [yt 19 5 5,zm 20 1,zf 21 5 8,zl 22 21,zs 23 (.call 13 [.t 19,.t 20,.t 22]),zm 12 23] (.seq (zr [zm 24 12,yk 25 .lss 24 0,zm 26 25,zg 27 26 false (.ld true 5 (.t 5)),gf 28 26 false 0 8,gl 29 26 false 28,zg 30 26 false (.call 17 [.t 27,.t 29]),go 31 26 false 30,yq 32 26 true 31] (.cond (.t 32) (zr [yt 33 6 7,ys 6 10 33,zs 11 (.mov (.c sn))] .ret) .skip)) (zr [zf 34 1 5,zl 35 34,zm 36 12,yi 37 17 35 36,yt 38 17 37,zs 13 (.alloc 67 [se,se,se,se,se,se,se,se,se,se,zi,sn,zi,zi,zi,zi,zi]),ys 17 13 38] (zr [zf 39 0 13,zl 40 39,zs 41 (.ari .add .i64 (.c (.str ⟨#[98,108,45]⟩)) (.t 40)),zf 42 8 8,zl 43 42,zf 44 0 8,zl 45 44,zf 46 7 8,zl 47 46,zm 48 4,zs 49 (.bld [zi,zi,zi,se,se,se,se,se,se,se,se,sn,sn,zi,.bl false] [(3,(1,.t 41)),(1,(1,.t 43)),(4,(1,.t 45)),(5,(1,.t 47)),(2,(1,.t 48))]),zs 14 (.alloc 204 [zi,zi,zi,se,se,se,se,se,se,se,se,sn,sn,zi,.bl false]),ys 15 14 49] (.seq (zr [zf 50 3 8,zl 51 50] (.block 0 (zr [yk 54 .eql 51 4,zm 53 54] (.cond (.t 53) (.seq (zr [zf 55 0 8,zl 56 55,zf 57 1 13,zl 58 57,yc 59 .eql 56 58,zm 60 59,gf 61 60 true 0 7,gl 62 60 true 61,zh 63 60 true 12,gi 64 60 true 1 62 63,gl 65 60 true 64,gk 66 60 true .eql 65 0,yr 67 60 66 false] (.cond (.t 67) (zr [yt 68 6 7,yt 69 17 13,zm 70 12,zm 71 1,zm 72 4,zs 73 (.call 99 [.t 68,.t 69,.t 70,.t 71,.t 72]),ys 6 10 73,zs 11 (.mov (.c sn))] .ret) .skip)) (zr [yt 74 6 7,ys 6 10 74,zs 11 (.mov (.c sn))] .ret)) (zr [yk 76 .eql 51 19,zm 75 76] (.cond (.t 75) (.seq (zr [zf 77 5 13,zl 78 77,zs 79 (.cmp .neq (.t 78) (.c se)),zm 80 79,gf 81 80 true 0 8,gl 82 80 true 81,gf 83 80 true 5 13,gl 84 80 true 83,gc 85 80 true .eql 82 84,yr 86 80 85 false] (.cond (.t 86) (zr [zs 87 (.bsl 4 1 0 [.bl false] []),zf 88 1 7,zl 89 88,zs 90 (.app 35 35 4 1 1 (.t 87) (.t 89)),zf 91 1 7,ys 1 91 90] (.reg [zf 92 1 7,zl 93 92,zm 94 12,yi 95 1 93 94,zn (.st 1 (.t 95) (.c (.bl true)))])) .skip)) (zr [yt 96 6 7,ys 6 10 96,zs 11 (.mov (.c sn))] .ret)) (zr [yk 98 .eql 51 8,zm 97 98] (.cond (.t 97) (.reg [zf 99 0 14,zn (.st 1 (.t 99) (.c (.int .i64 1)))]) (zr [yk 101 .eql 51 20,zm 100 101] (.cond (.t 100) (.reg [zf 102 0 14,zn (.st 1 (.t 102) (.c (.int .i64 2)))]) (zr [yk 104 .eql 51 23,zm 103 104] (.cond (.t 103) (.reg [zf 105 0 14,zn (.st 1 (.t 105) (.c (.int .i64 3)))]) (zr [yk 107 .eql 51 24,zm 106 107] (.cond (.t 106) (.reg [zf 108 0 14,zn (.st 1 (.t 108) (.c (.int .i64 4)))]) (zr [yt 52 6 7,ys 6 10 52,zs 11 (.mov (.c sn))] .ret))))))))))))))) (zr [zf 110 2 7,yt 111 2 110,yt 112 15 14,zs 113 (.call 100 [.t 111,.t 112]),zm 109 113,yx 114 109 0,yx 115 109 1,zs 15 (.alloc 38 [se,sn]),ys 2 15 114,zm 16 115] (.seq (zr [zm 116 16,yk 117 .neq 116 0,zm 118 117,gf 119 118 false 0 14,gl 120 118 false 119,gk 121 118 false .eql 120 1,zh 122 118 false 121,zg 123 122 true (.ld true 5 (.t 5)),gf 124 122 true 7 8,gl 125 122 true 124,zg 126 122 true (.call 17 [.t 123,.t 125]),go 127 122 true 126,zh 128 122 true 127,gf 129 128 false 7 8,gl 130 128 false 129,gf 131 128 false 0 8,gl 132 128 false 131,gc 133 128 false .eql 130 132,zg 134 122 true (.pick (.t 128) (.c (.bl true)) (.t 133)),zg 135 118 false (.pick (.t 122) (.t 134) (.c (.bl false))),yq 136 118 true 135] (.cond (.t 136) (.seq (.dreg (.take 0 (yt 137 6 7) (.take 1 (yt 138 14 8) (.take 2 (zm 139 4) (.eff 3 0 true (zs 140 (.call 101 [.t 138,.t 139])) (.eff 4 0 false (ys 6 10 137) (.phase [0,1] (.take 5 (zm 11 140) .nil))))))) 0 [7,8]) .ret) .skip)) (.seq (zr [zf 141 0 14,zl 142 141,yk 143 .eql 142 2] (.cond (.t 143) (zr [zf 145 4 7,zl 146 145,yt 147 17 13,zm 148 1,zf 149 0 8,zl 150 149,zf 151 8 13,zl 152 151,zm 153 4,zs 154 (.call 102 [.t 146,.t 147,.t 148,.t 150,.t 152,.t 153]),zm 144 154,yx 155 144 0,yx 156 144 1,zm 17 155,zm 18 156] (.seq (zr [zf 157 0 7,zl 158 157,zm 159 12,yi 160 1 158 159,zl 161 160,yk 162 .neq 161 3,zm 163 162,gf 164 163 false 1 7,gl 165 163 false 164,zh 166 163 false 12,gi 167 163 false 1 165 166,gl 168 163 false 167,go 169 163 false 168,yq 170 163 true 169,zm 171 170,zh 172 171 false 18,go 173 171 false 172,yq 174 171 true 173] (.cond (.t 174) (.seq (.dreg (.take 0 (yt 175 6 7) (.take 1 (yt 176 14 8) (.take 2 (zm 177 4) (.eff 3 0 true (zs 178 (.call 101 [.t 176,.t 177])) (.eff 4 0 false (ys 6 10 175) (.phase [0,1] (.take 5 (zm 11 178) .nil))))))) 0 [7,8]) .ret) .skip)) (.seq (.dreg (.take 1 (zf 180 5 7) (.take 2 (zl 181 180) (.take 4 (zm 183 17) (.take 5 (zf 184 4 7) (.take 6 (zl 185 184) (.take 7 (yl 186 185) (.take 8 (zs 187 (.sli 5 (.t 183) (some (.t 186)) none)) (.eff 0 0 true (zs 179 (.bsl 77 5 0 [se,se,se,se,zi] [])) (.eff 3 1 true (zs 182 (.app 39 39 77 5 72 (.t 179) (.t 181))) (.eff 9 2 false (zs 188 (.app 39 39 77 5 72 (.t 182) (.t 187))) (.phase [2,6] (.take 10 (zf 189 5 7) (.eff 11 3 false (ys 1 189 188) (.phase [2,6] .nil)))))))))))))) 3 [7]) (.seq (.dreg (.take 0 (zm 190 17) (.take 1 (yt 191 2 15) (.take 2 (zf 192 4 7) (.eff 3 0 true (ys 1 192 190) (.take 4 (zf 193 2 7) (.eff 5 0 false (ys 2 193 191) (.phase [1] .nil))))))) 0 [15]) (.seq (.dreg (.take 0 (yt 194 6 7) (.take 1 (zm 195 12) (.take 3 (zf 197 0 8) (.take 4 (zl 198 197) (.take 5 (zf 199 5 8) (.take 6 (zl 200 199) (.take 7 (zm 201 4) (.take 8 (yt 202 17 13) (.eff 2 0 true (zs 196 (.call 94 [.t 194,.t 195,.c (.int .i64 4)])) (.eff 9 0 true (zs 203 (.call 20 [.t 202])) (.take 10 (zs 204 (.bld [se,se,zi,zi,zi,se,se,se,zi,zi,se,zi,sn,sn] [(1,(1,.t 198)),(3,(1,.c (.int .i64 21))),(5,(1,.t 200)),(9,(1,.t 201)),(13,(1,.t 203))])) (.fork (.eff 11 0 true (zs 205 (.bsl 58 14 1 [se,se,zi,zi,zi,se,se,se,zi,zi,se,zi,sn,sn] [(0,.t 204)])) (.eff 12 1 true (ys 6 10 196) (.take 13 (zm 11 205) .nil))) (.eff 12 1 true (ys 6 10 196) (.eff 11 0 false (zs 205 (.bsl 58 14 1 [se,se,zi,zi,zi,se,se,se,zi,zi,se,zi,sn,sn] [(0,.t 204)])) (.take 13 (zm 11 205) .nil))))))))))))))) 1 [7,8,13]) .ret))))) .skip)) (zr [yt 206 2 15,zf 207 2 7,ys 2 207 206] (.seq (zr [zf 208 0 14,zl 209 208] (.block 1 (zr [yk 211 .eql 209 1,zm 210 211] (.cond (.t 210) (.seq (.dreg (.take 0 (yt 212 6 7) (.take 1 (zf 213 7 8) (.take 2 (zl 214 213) (.take 3 (zf 215 5 8) (.take 4 (zl 216 215) (.take 5 (zf 217 7 8) (.take 6 (zl 218 217) (.take 7 (zf 219 8 8) (.take 8 (zl 220 219) (.take 9 (zm 221 4) (.take 10 (zs 222 (.bld [se,se,zi,zi,zi,se,se,se,zi,zi,se,zi,sn,sn] [(1,(1,.t 214)),(3,(1,.c (.int .i64 9))),(5,(1,.t 216)),(7,(1,.t 218)),(8,(1,.t 220)),(9,(1,.t 221))])) (.fork (.eff 11 0 true (zs 223 (.bsl 58 14 1 [se,se,zi,zi,zi,se,se,se,zi,zi,se,zi,sn,sn] [(0,.t 222)])) (.eff 12 1 true (ys 6 10 212) (.take 13 (zm 11 223) .nil))) (.eff 12 1 true (ys 6 10 212) (.eff 11 0 true (zs 223 (.bsl 58 14 1 [se,se,zi,zi,zi,se,se,se,zi,zi,se,zi,sn,sn] [(0,.t 222)])) (.take 13 (zm 11 223) .nil))))))))))))))) 1 [7,8]) .ret) (zr [yk 225 .eql 209 4,zm 224 225] (.cond (.t 224) (.seq (.dreg (.take 0 (yt 226 6 7) (.take 1 (zf 227 0 8) (.take 2 (zl 228 227) (.take 3 (zf 229 5 8) (.take 4 (zl 230 229) (.take 5 (zf 231 8 8) (.take 6 (zl 232 231) (.take 7 (zm 233 4) (.take 8 (zs 234 (.bld [se,se,zi,zi,zi,se,se,se,zi,zi,se,zi,sn,sn] [(1,(1,.t 228)),(3,(1,.c (.int .i64 25))),(5,(1,.t 230)),(8,(1,.t 232)),(9,(1,.t 233))])) (.fork (.eff 9 0 true (zs 235 (.bsl 58 14 1 [se,se,zi,zi,zi,se,se,se,zi,zi,se,zi,sn,sn] [(0,.t 234)])) (.eff 10 1 true (ys 6 10 226) (.take 11 (zm 11 235) .nil))) (.eff 10 1 true (ys 6 10 226) (.eff 9 0 true (zs 235 (.bsl 58 14 1 [se,se,zi,zi,zi,se,se,se,zi,zi,se,zi,sn,sn] [(0,.t 234)])) (.take 11 (zm 11 235) .nil))))))))))))) 1 [7,8]) .ret) .skip)))))) (zr [yt 236 6 7,ys 6 10 236,zs 11 (.mov (.c sn))] .ret))))))))))),[.cell 10 true 6,.tmp 11]⟩
def CL:cW:=⟨25,zr [zs 2 (.mov (.c (.v (.pointer none))))] (zr [zs 6 (.call 51 []),zm 3 6] (.seq (zr [zm 7 0,zs 8 (.nck (.t 7)),zf 9 0 8,zl 10 9,zs 11 (.rng (.t 10))] (.block 0 (.loop (zr [zs 12 (.nxt (.t 11)),yx 13 12 0] (.seq (.cond (.t 13) .skip (.exit 0)) (.block 1 (zr [zs 14 (.ent (.t 11)),yx 15 14 0,yx 16 14 1,zm 4 15,zm 5 16] (.dreg (.take 0 (zm 17 3) (.take 1 (zs 18 (.nck (.t 17))) (.take 2 (zf 19 0 18) (.take 3 (zl 20 19) (.take 4 (zm 21 4) (.take 5 (zm 22 5) (.eff 6 0 true (zs 23 (.call 52 [.t 22])) (.eff 7 0 false (zn (.pup none (.t 20) (.t 21) (.t 23))) (.phase [3] .nil))))))))) 0 [3])))))))) (zr [zm 24 3,zm 2 24] .ret))),[.tmp 2]⟩
def Zl:cW:=⟨28,zr [zs 4 (.mov (.c sn))] (zr [zs 5 (.mov (.c sn))] (.seq (zr [zm 8 0,zs 9 (.nck (.t 8)),zf 10 1 9,zl 11 10,zs 12 (.rng (.t 11))] (.block 0 (.loop (zr [zs 13 (.nxt (.t 12)),yx 14 13 0] (.seq (.cond (.t 14) .skip (.exit 0)) (.block 1 (zr [zs 15 (.ent (.t 12)),yx 16 15 0,yx 17 15 1,zm 6 16,zm 7 17] (zr [zm 18 1,zm 19 7,zs 20 (.cav (.t 18) [.t 19])] (.cond (.t 20) (.reg [zm 21 5,zm 22 6,zs 23 (.bsl 9 1 1 [se] [(0,.t 22)]),zs 24 (.app 56 56 9 1 16 (.t 21) (.t 23)),zm 5 24]) .skip))))))))) (zr [zm 25 5,zs 26 (.call 91 [.t 25])] (zr [zm 27 5,zm 4 27] .ret)))),[.tmp 4]⟩
def Zt:cW:=⟨3,zr [yb 2 false] (zr [yb 2 true] .ret),[.tmp 2]⟩
def x71:cW:=⟨32,zr [zs 4 (.mov (.c sn))] (zr [yn 5 0] (.seq (.block 0 (.loop (.seq (zr [zm 6 5,zm 7 0,yl 8 7,yc 9 .lss 6 8,zm 10 9,zh 11 10 true 0,zh 12 10 true 5,gi 13 10 true 1 11 12,gl 14 10 true 13,zh 15 10 true 1,gc 16 10 true .lss 14 15,yr 17 10 16 false] (.cond (.t 17) .skip (.exit 0))) (.block 1 (.reg [zm 18 5,yp 19 18,zm 5 19]))))) (.seq (.dreg (.take 1 (zm 21 0) (.take 2 (zm 22 5) (.take 3 (zs 23 (.sli 1 (.t 21) none (some (.t 22)))) (.take 5 (zm 25 1) (.take 8 (zm 28 0) (.take 9 (zm 29 5) (.take 10 (zs 30 (.sli 1 (.t 28) (some (.t 29)) none)) (.fork (.eff 0 0 false (zs 20 (.bsl 9 1 0 [se] [])) (.fork (.eff 4 1 false (zs 24 (.app 56 56 9 1 16 (.t 20) (.t 23))) (.eff 6 2 false (zs 26 (.bsl 9 1 1 [se] [(0,.t 25)])) (.eff 7 3 false (zs 27 (.app 56 56 9 1 16 (.t 24) (.t 26))) (.eff 11 4 false (zs 31 (.app 56 56 9 1 16 (.t 27) (.t 30))) (.take 12 (zm 4 31) .nil))))) (.eff 6 2 false (zs 26 (.bsl 9 1 1 [se] [(0,.t 25)])) (.eff 4 1 false (zs 24 (.app 56 56 9 1 16 (.t 20) (.t 23))) (.eff 7 3 false (zs 27 (.app 56 56 9 1 16 (.t 24) (.t 26))) (.eff 11 4 false (zs 31 (.app 56 56 9 1 16 (.t 27) (.t 30))) (.take 12 (zm 4 31) .nil))))))) (.eff 6 2 false (zs 26 (.bsl 9 1 1 [se] [(0,.t 25)])) (.eff 0 0 false (zs 20 (.bsl 9 1 0 [se] [])) (.eff 4 1 false (zs 24 (.app 56 56 9 1 16 (.t 20) (.t 23))) (.eff 7 3 false (zs 27 (.app 56 56 9 1 16 (.t 24) (.t 26))) (.eff 11 4 false (zs 31 (.app 56 56 9 1 16 (.t 27) (.t 30))) (.take 12 (zm 4 31) .nil)))))))))))))) 5 []) .ret))),[.tmp 4]⟩
def ZU:cW:=⟨41,zr [zs 6 (.mov (.c se)),zs 7 (.mov (.c se)),yb 8 false] (zr [zm 11 0,zs 12 (.nck (.t 11)),zf 13 0 12,zl 14 13,zm 15 1,zs 16 (.plk none false sn (.t 14) (.t 15)),zm 9 16] (.seq (zr [zm 17 9,yl 18 17,zs 19 (.ari .sub .i64 (.t 18) (.c (.int .i64 1))),zm 10 19] (.block 0 (.loop (.seq (zr [zm 20 10,yk 21 .geq 20 0] (.cond (.t 21) .skip (.exit 0))) (.seq (.block 1 (zr [zm 24 9,zm 25 10,yi 26 5 24 25,zf 27 4 26,zl 28 27,zm 29 2,yc 30 .leq 28 29] (.cond (.t 30) (.seq (.dreg (.take 0 (zm 31 9) (.take 1 (zm 32 10) (.take 2 (yi 33 5 31 32) (.take 3 (zf 34 2 33) (.take 4 (zl 35 34) (.take 5 (zm 36 9) (.take 6 (zm 37 10) (.take 7 (yi 38 5 36 37) (.take 8 (zf 39 3 38) (.take 9 (zl 40 39) (.take 10 (zm 6 35) (.take 11 (zm 7 40) (.take 12 (yb 8 true) .nil))))))))))))) 0 [9]) .ret) .skip))) (.reg [zm 22 10,zs 23 (.ari .sub .i64 (.t 22) (.c (.int .i64 1))),zm 10 23])))))) (zr [zs 6 (.mov (.c se)),zs 7 (.mov (.c se)),yb 8 false] .ret))),[.tmp 6,.tmp 7,.tmp 8]⟩
def x74:cW:=⟨15,zr [yb 2 false] (.seq (zr [zm 5 0,yl 6 5,yn 7 0] (.block 0 (.loop (zr [yc 8 .lss 7 6] (.seq (.cond (.t 8) .skip (.exit 0)) (.seq (.block 1 (zr [yi 9 1 5 7,zl 10 9,zm 4 10] (zr [zm 11 4,zs 12 (.call 104 [.t 11]),yo 13 12] (.cond (.t 13) (zr [yb 2 false] .ret) .skip)))) (.reg [yp 14 7,zm 7 14]))))))) (zr [yb 2 true] .ret)),[.tmp 2]⟩
def Z7:cW:=⟨9,zr [yb 2 false] (zr [zm 3 0,yk 4 .geq 3 0,zm 5 4,zh 6 5 true 0,gk 7 5 true .leq 6 1048576,yr 8 5 7 false,zm 2 8] .ret),[.tmp 2]⟩
def ZL:cW:=⟨32,zr [zs 6 (.alloc 124 [zi,se,sn]),yb 7 false] (zr [zm 9 0,zs 10 (.nck (.t 9)),zf 11 1 10,zl 12 11,zm 13 1,zs 14 (.plk none false (.v (.pointer none)) (.t 12) (.t 13)),zm 8 14] (.seq (zr [zm 15 8,zs 16 (.cmn false (.t 15)),zm 17 16,zh 18 17 false 2,gk 19 17 false .lss 18 0,yq 20 17 true 19,zm 21 20,zh 22 21 false 2,gk 23 21 false .geq 22 3,yq 24 21 true 23] (.cond (.t 24) (zr [zs 25 (.bld [zi,se,sn] []),ys 3 6 25,yb 7 false] .ret) .skip)) (zr [zm 26 8,zm 27 2,zs 28 (.nck (.t 26)),zf 29 10 28,zs 30 (.aia 3 3 (.t 29) (.t 27)),yt 31 3 30,ys 3 6 31,yb 7 true] .ret))),[.cell 6 true 3,.tmp 7]⟩
def Zn:cW:=⟨8,zr [zs 2 (.mov (.c sn))] (.seq (zr [zm 3 0,zs 4 (.nils false (.t 3))] (.cond (.t 4) (zr [zs 2 (.mov (.c sn))] .ret) .skip)) (zr [zs 5 (.bsl 180 4 0 [se,se,zi,zi] []),zm 6 0,zs 7 (.app 105 105 180 4 48 (.t 5) (.t 6)),zm 2 7] .ret)),[.tmp 2]⟩
def x78:cW:=⟨27,zr [zs 3 (.box 186 (.t 1)),yn 4 0] (.seq (.dreg (.take 0 (zm 6 0) (.take 1 (zs 7 (.nck (.t 6))) (.take 2 (zf 8 1 7) (.take 3 (zl 9 8) (.take 4 (zf 10 0 3) (.take 5 (zl 11 10) (.fork (.eff 6 0 true (zs 12 (.plk none false (.v (.pointer none)) (.t 9) (.t 11))) (.eff 7 0 true (zs 5 (.alloc 119 [.v (.pointer none)])) (.eff 8 1 false (ys 1 5 12) (.phase [3,5] .nil)))) (.eff 7 0 true (zs 5 (.alloc 119 [.v (.pointer none)])) (.eff 6 0 false (zs 12 (.plk none false (.v (.pointer none)) (.t 9) (.t 11))) (.eff 8 1 false (ys 1 5 12) (.phase [3,5] .nil))))))))))) 1 [0,3]) (zr [zs 13 (.mkf 106 [.t 5]),zs 14 (.bld [zi,.v .nilFunc] [(0,(1,.c (.int .i64 4))),(1,(1,.t 13))]),zs 15 (.mkf 107 [.t 3]),zs 16 (.bld [zi,.v .nilFunc] [(0,(1,.c (.int .i64 3))),(1,(1,.t 15))]),zs 17 (.mkf 108 [.t 3]),zs 18 (.bld [zi,.v .nilFunc] [(0,(1,.c (.int .i64 1))),(1,(1,.t 17))]),zs 19 (.mkf 110 [.t 5,.t 3]),zs 20 (.bld [zi,.v .nilFunc] [(0,(1,.c (.int .i64 9))),(1,(1,.t 19))]),zs 21 (.mkf 113 [.t 5,.t 3]),zs 22 (.bld [zi,.v .nilFunc] [(0,(1,.c (.int .i64 8))),(1,(1,.t 21))]),zs 23 (.mkf 115 [.t 3,.t 5]),zs 24 (.bld [zi,.v .nilFunc] [(0,(1,.c (.int .i64 6))),(1,(1,.t 23))]),zs 25 (.bsl 210 2 6 [zi,.v .nilFunc] [(0,.t 14),(1,.t 16),(2,.t 18),(3,.t 20),(4,.t 22),(5,.t 24)]),zs 26 (.call 105 [.t 25]),zm 4 26] .ret)),[.tmp 4]⟩
def ZY:cW:=⟨79,zr [zs 6 (.box 58 (.t 2)),zs 8 (.mov (.c sn))] (.seq (.seq (.dreg (.take 0 (zf 12 0 6) (.take 1 (zl 13 12) (.take 2 (zm 14 1) (.take 3 (zs 15 (.nck (.t 14))) (.take 4 (zf 16 1 15) (.take 5 (zl 17 16) (.take 6 (yc 18 .neq 13 17) (.take 7 (zm 19 18) (.take 8 (zh 20 19 false 1) (.take 9 (zg 21 19 false (.nck (.t 20))) (.take 10 (gf 22 19 false 7 21) (.take 11 (gl 23 19 false 22) (.take 12 (gk 24 19 false .neq 23 0) (.take 13 (yq 25 19 true 24) .nil)))))))))))))) 0 [6,1]) (.cond (.t 25) (zr [zs 8 (.mov (.c sn))] .ret) .skip)) (zr [zm 26 0,zs 27 (.nck (.t 26)),zf 28 4 27,zl 29 28,zs 30 (.call 68 [.t 29]),zm 9 30] (.seq (zr [zm 31 1,zs 32 (.nck (.t 31)),zf 33 6 32,zl 34 33,yl 35 34,yn 36 0] (.block 0 (.loop (zr [yc 37 .lss 36 35] (.seq (.cond (.t 37) .skip (.exit 0)) (.seq (.block 1 (zr [yi 38 1 34 36,zl 39 38,zm 11 39] (.seq (.seq (.dreg (.take 0 (zm 40 9) (.take 1 (zm 41 11) (.take 2 (zm 42 1) (.take 3 (zs 43 (.nck (.t 42))) (.take 4 (zf 44 1 43) (.take 5 (zl 45 44) (.take 6 (zm 46 1) (.take 7 (zs 47 (.nck (.t 46))) (.take 8 (zf 48 4 47) (.take 9 (zl 49 48) (.take 10 (zm 50 3) (.eff 11 0 false (zs 51 (.call 118 [.t 40,.t 41,.t 45,.t 49,.t 50])) (.phase [5,9] (.take 12 (yk 52 .neq 51 0) .nil)))))))))))))) 0 [1]) (.cond (.t 52) (zr [zs 8 (.mov (.c sn))] .ret) .skip)) (.seq (.dreg (.take 0 (zm 53 9) (.take 1 (zm 54 11) (.take 2 (zm 55 1) (.take 3 (zs 56 (.nck (.t 55))) (.take 4 (zf 57 1 56) (.take 5 (zl 58 57) (.take 6 (zm 59 0) (.take 7 (zs 60 (.nck (.t 59))) (.take 8 (zf 61 0 60) (.take 9 (zl 62 61) (.take 10 (zm 63 1) (.take 11 (zs 64 (.nck (.t 63))) (.take 12 (zf 65 4 64) (.take 13 (zl 66 65) (.take 14 (zm 67 3) (.take 15 (zs 68 (.bld [se,se,se,se,zi] [(0,(1,.t 54)),(1,(1,.t 58)),(2,(1,.t 62)),(3,(1,.t 66)),(4,(1,.t 67))])) (.eff 16 0 false (zs 69 (.call 43 [.t 53,.t 68])) (.phase [5,9,13] (.take 17 (yk 70 .neq 69 0) .nil))))))))))))))))))) 0 [1,0]) (.cond (.t 70) (zr [zs 8 (.mov (.c sn))] .ret) .skip))))) (.reg [yp 71 36,zm 36 71]))))))) (zr [zm 72 0,zm 73 9,zs 74 (.nck (.t 72)),zf 75 4 74,ys 1 75 73] (zr [zm 76 1,zs 77 (.nck (.t 76)),zf 78 7 77,zn (.st 1 (.t 78) (.c (.int .i64 1)))] (zr [zs 8 (.mov (.c sn))] .ret)))))),[.tmp 8]⟩
def Zr:cW:=⟨51,zr [zs 6 (.box 58 (.t 2)),zs 8 (.mov (.c sn))] (.seq (.seq (.dreg (.take 0 (zm 9 0) (.take 1 (zs 10 (.nck (.t 9))) (.take 2 (zf 11 1 10) (.take 3 (zl 12 11) (.take 4 (zf 13 7 6) (.take 5 (zl 14 13) (.take 6 (zs 15 (.lkp none false (.bl false) (.t 12) (.t 14))) (.take 7 (yo 16 15) (.take 8 (zm 17 16) (.take 9 (gf 18 17 false 7 6) (.take 10 (gl 19 17 false 18) (.take 11 (gf 20 17 false 0 6) (.take 12 (gl 21 17 false 20) (.take 13 (gc 22 17 false .eql 19 21) (.take 14 (yq 23 17 true 22) (.take 15 (zm 24 23) (.take 16 (zh 25 24 false 0) (.take 17 (zg 26 24 false (.nck (.t 25))) (.take 18 (gf 27 24 false 3 26) (.take 19 (gl 28 24 false 27) (.take 20 (zh 29 24 false 1) (.take 22 (gf 31 24 false 8 6) (.take 23 (gl 32 24 false 31) (.take 24 (gf 33 24 false 0 6) (.take 25 (gl 34 24 false 33) (.take 26 (gf 35 24 false 7 6) (.take 27 (gl 36 24 false 35) (.take 28 (zh 37 24 false 3) (.eff 21 0 true (zg 30 24 false (.call 120 [.t 29])) (.eff 29 0 false (zg 38 24 false (.call 119 [.t 28,.t 30,.t 32,.t 34,.t 36,.t 37])) (.phase [3,5,6,10,12,19,23,25,27] (.take 30 (gk 39 24 false .neq 38 0) (.take 31 (yq 40 24 true 39) .nil))))))))))))))))))))))))))))))))) 0 [0,6]) (.cond (.t 40) (zr [yt 41 14 6,zs 42 (.call 121 [.t 41]),zm 8 42] .ret) .skip)) (zr [zf 43 7 6,zl 44 43,zf 45 8 6,zl 46 45,zf 47 7 6,zl 48 47,zs 49 (.bld [se,se,zi,zi,zi,se,se,se,zi,zi,se,zi,sn,sn] [(1,(1,.t 44)),(3,(1,.c (.int .i64 9))),(8,(1,.t 46)),(7,(1,.t 48))]),zs 50 (.bsl 58 14 1 [se,se,zi,zi,zi,se,se,se,zi,zi,se,zi,sn,sn] [(0,.t 49)]),zm 8 50] .ret)),[.tmp 8]⟩
def x81:cW:=⟨112,zr [zs 6 (.box 58 (.t 2)),zs 8 (.mov (.c sn))] (.seq (zr [zm 16 1,zs 17 (.nck (.t 16)),zf 18 7 17,zl 19 18,yk 20 .neq 19 3,zm 21 20,zh 22 21 false 1,zg 23 21 false (.nck (.t 22)),gf 24 21 false 8 23,gl 25 21 false 24,go 26 21 false 25,yq 27 21 true 26] (.cond (.t 27) (zr [yt 28 14 6,zs 29 (.call 121 [.t 28]),zm 8 29] .ret) .skip)) (zr [zm 30 0,zs 31 (.nck (.t 30)),zf 32 4 31,zl 33 32,zs 34 (.call 68 [.t 33]),zm 9 34] (zr [zs 10 (.mov (.c sn))] (.seq (zr [zm 35 1,zs 36 (.nck (.t 35)),zf 37 6 36,zl 38 37,yl 39 38,yn 40 0] (.block 0 (.loop (zr [yc 41 .lss 40 39] (.seq (.cond (.t 41) .skip (.exit 0)) (.seq (.block 1 (zr [yi 42 1 38 40,zl 43 42,zm 12 43] (.seq (.dreg (.take 0 (zm 44 12) (.take 1 (zm 45 0) (.take 2 (zs 46 (.nck (.t 45))) (.take 3 (zf 47 0 46) (.take 4 (zl 48 47) (.take 5 (zf 49 0 6) (.take 6 (zl 50 49) (.take 7 (zm 51 1) (.take 8 (zs 52 (.nck (.t 51))) (.take 9 (zf 53 5 52) (.take 10 (zl 54 53) (.take 11 (zm 55 3) (.take 12 (zs 56 (.bld [se,se,se,se,zi] [(0,(1,.t 44)),(1,(1,.t 48)),(2,(1,.t 50)),(3,(1,.t 54)),(4,(1,.t 55))])) (.eff 13 0 true (zs 13 (.alloc 77 [se,se,se,se,zi])) (.eff 14 1 false (ys 5 13 56) (.phase [4,6,10] .nil)))))))))))))))) 1 [0,6,1]) (.seq (zr [zm 57 9,yt 58 5 13,zs 59 (.call 43 [.t 57,.t 58]),yk 60 .neq 59 0] (.cond (.t 60) (zr [yt 61 14 6,zs 62 (.call 121 [.t 61]),zm 8 62] .ret) .skip)) (.reg [zm 63 10,yt 64 5 13,zs 65 (.bsl 77 5 1 [se,se,se,se,zi] [(0,.t 64)]),zs 66 (.app 39 39 77 5 72 (.t 63) (.t 65)),zm 10 66]))))) (.reg [yp 67 40,zm 40 67]))))))) (.seq (.seq (.dreg (.take 0 (zm 69 0) (.take 1 (zs 70 (.nck (.t 69))) (.take 2 (zf 71 3 70) (.take 3 (zl 72 71) (.take 4 (zm 73 1) (.take 6 (zf 75 8 6) (.take 7 (zl 76 75) (.take 8 (zf 77 0 6) (.take 9 (zl 78 77) (.take 10 (zm 79 3) (.eff 5 0 true (zs 74 (.call 120 [.t 73])) (.eff 11 0 false (zs 80 (.call 122 [.t 72,.t 74,.t 76,.t 78,.t 79])) (.phase [3,7,9] (.take 12 (zm 68 80) (.take 13 (yx 81 68 0) (.take 14 (yx 82 68 1) (.take 15 (zm 14 81) (.take 16 (zm 15 82) .nil)))))))))))))))))) 0 [0,6]) (zr [zm 83 15,yk 84 .neq 83 0] (.cond (.t 84) (zr [yt 85 14 6,zs 86 (.call 121 [.t 85]),zm 8 86] .ret) .skip))) (zr [zm 87 0,zm 88 9,zs 89 (.nck (.t 87)),zf 90 4 89,ys 1 90 88] (zr [zm 91 0,zm 92 0,zs 93 (.nck (.t 92)),zf 94 5 93,zl 95 94,zm 96 10,zs 97 (.app 39 39 77 5 72 (.t 95) (.t 96)),zs 98 (.nck (.t 91)),zf 99 5 98,ys 1 99 97] (zr [zm 100 1,zs 101 (.nck (.t 100)),zf 102 7 101,zn (.st 1 (.t 102) (.c (.int .i64 4)))] (.seq (.dreg (.take 0 (zf 103 0 6) (.take 1 (zl 104 103) (.take 2 (zm 105 1) (.take 3 (zs 106 (.nck (.t 105))) (.take 4 (zf 107 6 106) (.take 5 (zl 108 107) (.eff 6 0 true (zs 109 (.call 87 [.t 108])) (.take 7 (zs 110 (.bld [se,se,zi,zi,zi,se,se,se,zi,zi,se,zi,sn,sn] [(1,(1,.t 104)),(3,(1,.c (.int .i64 21))),(13,(1,.t 109))])) (.eff 8 0 false (zs 111 (.bsl 58 14 1 [se,se,zi,zi,zi,se,se,se,zi,zi,se,zi,sn,sn] [(0,.t 110)])) (.phase [1,5] (.take 9 (zm 8 111) .nil))))))))))) 1 [6,1]) .ret))))))))),[.tmp 8]⟩
def x82:cW:=⟨26,zr [zs 6 (.box 58 (.t 2)),zs 8 (.mov (.c sn))] (.seq (.seq (.dreg (.take 0 (zm 9 1) (.take 1 (zs 10 (.nck (.t 9))) (.take 2 (zf 11 3 10) (.take 3 (zl 12 11) (.take 4 (zs 13 (.cmp .neq (.t 12) (.c se))) (.take 5 (zm 14 13) (.take 6 (gf 15 14 true 0 6) (.take 7 (gl 16 14 true 15) (.take 8 (zh 17 14 true 1) (.take 9 (zg 18 14 true (.nck (.t 17))) (.take 10 (gf 19 14 true 3 18) (.take 11 (gl 20 14 true 19) (.take 12 (gc 21 14 true .eql 16 20) (.take 13 (yr 22 14 21 false) .nil)))))))))))))) 0 [1,6]) (.cond (.t 22) (.reg [zm 23 1,zs 24 (.nck (.t 23)),zf 25 8 24,zn (.st 1 (.t 25) (.c (.bl true)))]) .skip)) (zr [zs 8 (.mov (.c sn))] .ret)),[.tmp 8]⟩
def ZE:cW:=⟨23,zr [zs 6 (.box 58 (.t 2)),zs 8 (.mov (.c sn))] (.seq (.seq (.dreg (.take 0 (zm 9 0) (.take 1 (zs 10 (.nck (.t 9))) (.take 2 (zf 11 3 10) (.take 3 (zl 12 11) (.take 4 (zm 13 1) (.take 6 (zf 15 8 6) (.take 7 (zl 16 15) (.take 8 (zf 17 0 6) (.take 9 (zl 18 17) (.eff 5 0 true (zs 14 (.call 120 [.t 13])) (.eff 10 0 false (zs 19 (.call 46 [.t 12,.t 14,.t 16,.t 18])) (.phase [3,7,9] (.take 11 (yk 20 .neq 19 0) .nil))))))))))))) 0 [0,6]) (.cond (.t 20) (zr [yt 21 14 6,zs 22 (.call 121 [.t 21]),zm 8 22] .ret) .skip)) (zr [zs 8 (.mov (.c sn))] .ret)),[.tmp 8]⟩
def x84:cW:=⟨30,zr [zs 6 (.box 58 (.t 2)),zs 8 (.mov (.c sn))] (.seq (.seq (.dreg (.take 0 (zm 9 0) (.take 1 (zs 10 (.nck (.t 9))) (.take 2 (zf 11 3 10) (.take 3 (zl 12 11) (.take 4 (zm 13 1) (.take 6 (zf 15 8 6) (.take 7 (zl 16 15) (.take 8 (zf 17 0 6) (.take 9 (zl 18 17) (.take 10 (zm 19 3) (.eff 5 0 true (zs 14 (.call 120 [.t 13])) (.eff 11 0 false (zs 20 (.call 123 [.t 12,.t 14,.t 16,.t 18,.t 19])) (.phase [3,7,9] (.take 12 (yk 21 .neq 20 0) .nil)))))))))))))) 0 [0,6]) (.cond (.t 21) (zr [yt 22 14 6,zs 23 (.call 121 [.t 22]),zm 8 23] .ret) .skip)) (zr [zf 24 0 6,zl 25 24,zf 26 8 6,zl 27 26,zs 28 (.bld [se,se,zi,zi,zi,se,se,se,zi,zi,se,zi,sn,sn] [(1,(1,.t 25)),(3,(1,.c (.int .i64 25))),(8,(1,.t 27))]),zs 29 (.bsl 58 14 1 [se,se,zi,zi,zi,se,se,se,zi,zi,se,zi,sn,sn] [(0,.t 28)]),zm 8 29] .ret)),[.tmp 8]⟩
def ZQ:cW:=⟨60,zr [zs 6 (.mov (.c sn)),yn 7 0] (.seq (.dreg (.take 0 (zm 10 1) (.take 2 (zm 12 0) (.take 3 (zs 13 (.nck (.t 12))) (.take 4 (zf 14 0 13) (.take 5 (zl 15 14) (.take 6 (zm 16 1) (.take 7 (zs 17 (.nck (.t 16))) (.take 8 (zf 18 1 17) (.take 9 (zl 19 18) (.take 10 (zm 20 1) (.take 11 (zs 21 (.nck (.t 20))) (.take 12 (zf 22 4 21) (.take 13 (zl 23 22) (.take 14 (zm 24 1) (.take 15 (zs 25 (.nck (.t 24))) (.take 16 (zf 26 5 25) (.take 17 (zl 27 26) (.take 18 (zm 28 1) (.take 19 (zs 29 (.nck (.t 28))) (.take 20 (zf 30 6 29) (.take 21 (zl 31 30) (.take 23 (zm 33 2) (.fork (.eff 1 0 true (zs 11 (.call 120 [.t 10])) (.fork (.eff 22 0 true (zs 32 (.call 87 [.t 31])) (.take 24 (zs 34 (.bld [se,se,se,se,se,sn,sn,zi,.bl false] [(0,(1,.t 11)),(1,(1,.t 15)),(2,(1,.t 19)),(3,(1,.t 23)),(4,(1,.t 27)),(5,(1,.t 32)),(7,(1,.t 33)),(8,(1,.c (.bl true)))])) (.eff 25 0 true (zs 8 (.alloc 79 [se,se,se,se,se,sn,sn,zi,.bl false])) (.eff 26 1 false (ys 9 8 34) (.phase [5,9,13,17,21] .nil))))) (.eff 25 0 true (zs 8 (.alloc 79 [se,se,se,se,se,sn,sn,zi,.bl false])) (.eff 22 0 true (zs 32 (.call 87 [.t 31])) (.take 24 (zs 34 (.bld [se,se,se,se,se,sn,sn,zi,.bl false] [(0,(1,.t 11)),(1,(1,.t 15)),(2,(1,.t 19)),(3,(1,.t 23)),(4,(1,.t 27)),(5,(1,.t 32)),(7,(1,.t 33)),(8,(1,.c (.bl true)))])) (.eff 26 1 false (ys 9 8 34) (.phase [5,9,13,17,21] .nil))))))) (.eff 25 0 true (zs 8 (.alloc 79 [se,se,se,se,se,sn,sn,zi,.bl false])) (.eff 1 0 true (zs 11 (.call 120 [.t 10])) (.eff 22 0 true (zs 32 (.call 87 [.t 31])) (.take 24 (zs 34 (.bld [se,se,se,se,se,sn,sn,zi,.bl false] [(0,(1,.t 11)),(1,(1,.t 15)),(2,(1,.t 19)),(3,(1,.t 23)),(4,(1,.t 27)),(5,(1,.t 32)),(7,(1,.t 33)),(8,(1,.c (.bl true)))])) (.eff 26 1 false (ys 9 8 34) (.phase [5,9,13,17,21] .nil))))))))))))))))))))))))))))) 1 [0,1]) (.seq (.seq (.dreg (.take 0 (zm 35 0) (.take 1 (zs 36 (.nck (.t 35))) (.take 2 (zf 37 3 36) (.take 3 (zl 38 37) (.take 4 (yt 39 9 8) (.take 5 (zm 40 1) (.take 6 (zs 41 (.nck (.t 40))) (.take 7 (zf 42 1 41) (.take 8 (zl 43 42) (.eff 9 0 false (zs 44 (.call 124 [.t 38,.t 39,.t 43])) (.phase [3,4,8] (.take 10 (zm 9 44) .nil)))))))))))) 0 [0,8,1]) (zr [zm 45 9,yk 46 .neq 45 0] (.cond (.t 46) (zr [zm 47 9,zs 6 (.mov (.c sn)),zm 7 47] .ret) .skip))) (zr [zm 48 1,zs 49 (.nck (.t 48)),zf 50 7 49,zn (.st 1 (.t 50) (.c (.int .i64 2)))] (.seq (.dreg (.take 0 (zm 51 1) (.take 1 (zs 52 (.nck (.t 51))) (.take 2 (zf 53 1 52) (.take 3 (zl 54 53) (.take 4 (yt 55 9 8) (.eff 5 0 true (zs 56 (.call 125 [.t 55])) (.eff 6 0 true (zs 57 (.bsp 200 4 1 [zi,se,se,sn] [(0,.t 56)])) (.take 7 (zs 58 (.bld [se,se,zi,zi,zi,se,se,se,zi,zi,se,zi,sn,sn] [(1,(1,.t 54)),(3,(1,.c (.int .i64 5))),(12,(1,.t 57))])) (.eff 8 1 false (zs 59 (.bsl 58 14 1 [se,se,zi,zi,zi,se,se,se,zi,zi,se,zi,sn,sn] [(0,.t 58)])) (.phase [3,4] (.take 9 (zm 6 59) (.take 10 (yn 7 0) .nil)))))))))))) 2 [1,8]) .ret)))),[.tmp 6,.tmp 7]⟩
def Z2:cW:=⟨22,zr [zs 6 (.mov (.c sn)),yn 7 0] (zr [zm 8 1,zs 9 (.nck (.t 8)),zf 10 7 9,zn (.st 1 (.t 10) (.c (.int .i64 3)))] (.seq (.dreg (.take 0 (zm 11 1) (.take 1 (zs 12 (.nck (.t 11))) (.take 2 (zf 13 2 12) (.take 3 (zl 14 13) (.take 4 (zm 15 1) (.take 5 (zs 16 (.nck (.t 15))) (.take 6 (zf 17 6 16) (.take 7 (zl 18 17) (.eff 8 0 true (zs 19 (.call 87 [.t 18])) (.take 9 (zs 20 (.bld [se,se,zi,zi,zi,se,se,se,zi,zi,se,zi,sn,sn] [(1,(1,.t 14)),(3,(1,.c (.int .i64 26))),(13,(1,.t 19))])) (.eff 10 0 false (zs 21 (.bsl 58 14 1 [se,se,zi,zi,zi,se,se,se,zi,zi,se,zi,sn,sn] [(0,.t 20)])) (.phase [3,7] (.take 11 (zm 6 21) (.take 12 (yn 7 0) .nil)))))))))))))) 1 [1]) .ret)),[.tmp 6,.tmp 7]⟩
def ZI:cW:=⟨8,zr [zs 2 (.mov (.c sn))] (.seq (zr [zm 3 0,zs 4 (.nils false (.t 3))] (.cond (.t 4) (zr [zs 2 (.mov (.c sn))] .ret) .skip)) (zr [zs 5 (.bsl 9 1 0 [se] []),zm 6 0,zs 7 (.app 56 56 9 1 16 (.t 5) (.t 6)),zm 2 7] .ret)),[.tmp 2]⟩
def Zz:cW:=⟨18,zr [zs 3 (.box 41 (.t 0)),zs 6 (.alloc 41 [sn,sn,se,sn,sn,sn])] (zr [zs 7 (.bsl 3 1 0 [zi] []),zf 8 0 3,zl 9 8,zs 10 (.app 25 25 3 1 8 (.t 7) (.t 9)),zf 11 0 3,ys 1 11 10] (zr [zf 12 0 3,zl 13 12,zm 14 1,zm 15 2,yi 16 1 13 14,ys 1 16 15] (zr [yt 17 6 3,ys 6 6 17] .ret))),[.cell 6 true 6]⟩
def Zq:cW:=⟨21,zr [zs 3 (.box 67 (.t 0)),zs 6 (.alloc 79 [se,se,se,se,se,sn,sn,zi,.bl false])] (.seq (.dreg (.take 0 (zf 7 0 3) (.take 1 (zl 8 7) (.take 2 (zs 9 (.ari .add .i64 (.c (.str ⟨#[98,108,45]⟩)) (.t 8))) (.take 3 (zm 10 1) (.take 4 (zf 11 1 3) (.take 5 (zl 12 11) (.take 6 (zf 13 7 3) (.take 7 (zl 14 13) (.take 8 (zf 15 8 3) (.take 9 (zl 16 15) (.take 10 (yt 17 17 3) (.take 12 (zm 19 2) (.eff 11 0 true (zs 18 (.call 20 [.t 17])) (.take 13 (zs 20 (.bld [se,se,se,se,se,sn,sn,zi,.bl false] [(0,(1,.t 9)),(1,(1,.t 10)),(2,(1,.t 12)),(3,(1,.t 14)),(4,(1,.t 16)),(5,(1,.t 18)),(7,(1,.t 19)),(8,(1,.c (.bl true)))])) (.eff 14 0 false (ys 9 6 20) (.phase [1,5,7,9,10] .nil)))))))))))))))) 0 [3]) .ret),[.cell 6 true 9]⟩
def x96:cW:=⟨67,zr [zs 3 (.box 38 (.t 0)),zs 4 (.box 79 (.t 1)),zs 6 (.alloc 38 [se,sn]),yn 7 0] (.seq (zr [zf 10 0 3,zl 11 10,yt 12 9 4,zs 13 (.call 132 [.t 11,.t 12]),yo 14 13,zm 15 14,zh 16 15 false 2,zg 17 15 false (.call 133 [.t 16]),go 18 15 false 17,yq 19 15 true 18] (.cond (.t 19) (zr [yt 20 2 3,ys 2 6 20,yn 7 1] .ret) .skip)) (.seq (zr [yt 21 2 3,zf 22 0 4,zl 23 22,zs 24 (.call 63 [.t 21,.t 23]),yk 25 .geq 24 0] (.cond (.t 25) (zr [yt 26 2 3,ys 2 6 26,yn 7 5] .ret) .skip)) (.seq (zr [yn 8 0] (.block 0 (.loop (.seq (zr [zm 27 8,zf 28 5 4,zl 29 28,yl 30 29,yc 31 .lss 27 30] (.cond (.t 31) .skip (.exit 0))) (.seq (.block 1 (.seq (.dreg (.take 0 (yt 34 2 3) (.take 1 (zf 35 5 4) (.take 2 (zl 36 35) (.take 3 (zm 37 8) (.take 4 (yi 38 1 36 37) (.take 5 (zl 39 38) (.eff 6 0 false (zs 40 (.call 134 [.t 34,.t 39])) (.phase [0,2,5] (.take 7 (yk 41 .geq 40 0) .nil))))))))) 0 [3,4]) (.cond (.t 41) (zr [yt 42 2 3,ys 2 6 42,yn 7 9] .ret) .skip))) (.reg [zm 32 8,yp 33 32,zm 8 33])))))) (.seq (zr [zf 43 1 3,zl 44 43,yl 45 44,yk 46 .geq 45 256] (.cond (.t 46) (zr [yt 47 2 3,ys 2 6 47,yn 7 7] .ret) .skip)) (zr [zm 48 2,zs 49 (.bld [zi,se,sn] [(0,(1,.c zi)),(1,(1,.t 48))]),zm 50 2,zs 51 (.bld [zi,se,sn] [(0,(1,.c zi)),(1,(1,.t 50))]),zm 52 2,zs 53 (.bld [zi,se,sn] [(0,(1,.c zi)),(1,(1,.t 52))]),zs 54 (.bsl 107 3 3 [zi,se,sn] [(0,.t 49),(1,.t 51),(2,.t 53)]),zm 9 54] (.seq (.dreg (.take 1 (zf 56 1 3) (.take 2 (zl 57 56) (.take 4 (yt 59 9 4) (.take 6 (zm 61 9) (.eff 0 0 true (zs 55 (.bsl 104 11 0 [se,se,se,se,se,sn,sn,zi,.bl false,zi,sn] [])) (.eff 3 1 true (zs 58 (.app 36 36 104 11 176 (.t 55) (.t 57))) (.eff 5 2 false (zs 60 (.call 135 [.t 59])) (.take 7 (zs 62 (.bld [se,se,se,se,se,sn,sn,zi,.bl false,zi,sn] [(0,(9,.t 60)),(9,(1,.c zi)),(10,(1,.t 61))])) (.eff 8 2 false (zs 63 (.bsl 104 11 1 [se,se,se,se,se,sn,sn,zi,.bl false,zi,sn] [(0,.t 62)])) (.phase [2,4] (.eff 9 3 false (zs 64 (.app 36 36 104 11 176 (.t 58) (.t 63))) (.phase [2,4] (.take 10 (zf 65 1 3) (.eff 11 4 false (ys 1 65 64) (.phase [2,4] .nil))))))))))))))) 4 [3,4]) (zr [yt 66 2 3,ys 2 6 66,yn 7 0] .ret))))))),[.cell 6 true 2,.tmp 7]⟩
def x97:cW:=⟨41,zr [zs 1 (.box 79 (.t 0)),zs 2 (.alloc 200 [zi,se,se,sn])] (zr [zs 3 (.mov (.c (.str ⟨#[110,111]⟩)))] (.seq (zr [zf 4 8 1,zl 5 4] (.cond (.t 5) (.reg [zs 3 (.mov (.c (.str ⟨#[121,101,115]⟩)))]) .skip)) (.seq (.dreg (.take 0 (zf 6 0 1) (.take 1 (zl 7 6) (.take 2 (zf 8 1 1) (.take 3 (zl 9 8) (.take 4 (zf 10 1 1) (.take 5 (zl 11 10) (.take 7 (zf 13 2 1) (.take 8 (zl 14 13) (.take 10 (zf 16 3 1) (.take 11 (zl 17 16) (.take 13 (zf 19 4 1) (.take 14 (zl 20 19) (.take 16 (zf 22 5 1) (.take 17 (zl 23 22) (.take 18 (yl 24 23) (.take 20 (zf 26 5 1) (.take 21 (zl 27 26) (.take 24 (zf 30 7 1) (.take 25 (zl 31 30) (.take 27 (zm 33 3) (.take 29 (zf 35 6 1) (.take 30 (zl 36 35) (.eff 6 0 true (zs 12 (.call 136 [.c (.str ⟨#[99,97,114,114,105,101,114]⟩),.t 11])) (.eff 9 0 true (zs 15 (.call 136 [.c (.str ⟨#[115,104,105,112,112,101,114]⟩),.t 14])) (.eff 12 0 true (zs 18 (.call 136 [.c (.str ⟨#[102,114,111,109]⟩),.t 17])) (.eff 15 0 true (zs 21 (.call 136 [.c (.str ⟨#[116,111]⟩),.t 20])) (.eff 19 0 true (zs 25 (.call 137 [.c (.str ⟨#[98,111,120,101,115]⟩),.t 24])) (.eff 22 0 true (zs 28 (.call 138 [.t 27])) (.eff 23 0 true (zs 29 (.call 136 [.c (.str ⟨#[109,97,114,107,115]⟩),.t 28])) (.eff 26 0 true (zs 32 (.call 137 [.c (.str ⟨#[105,115,115,117,101,100]⟩),.t 31])) (.eff 28 0 true (zs 34 (.call 136 [.c (.str ⟨#[99,108,101,97,110]⟩),.t 33])) (.eff 31 0 true (zs 37 (.call 138 [.t 36])) (.eff 32 0 true (zs 38 (.call 136 [.c (.str ⟨#[112,97,114,101,110,116,115]⟩),.t 37])) (.eff 33 0 true (zs 39 (.bsp 230 2 9 [se,se] [(0,.t 12),(1,.t 15),(2,.t 18),(3,.t 21),(4,.t 25),(5,.t 29),(6,.t 32),(7,.t 34),(8,.t 38)])) (.take 34 (zs 40 (.bld [zi,se,se,sn] [(0,(1,.c (.int .i64 2))),(1,(1,.t 7)),(2,(1,.t 9)),(3,(1,.t 39))])) (.eff 35 1 false (ys 4 2 40) (.phase [1,3,5,8,11,14,17,21,25,30] .nil))))))))))))))))))))))))))))))))))))) 1 [1]) .ret))),[.cell 2 true 4]⟩
def x98:cW:=⟨137,zr [zs 2 (.box 58 (.t 0)),zs 3 (.box 58 (.t 1)),yb 4 false] (.seq (zr [zf 7 0 2,zl 8 7,zf 9 0 3,zl 10 9,yc 11 .neq 8 10,zm 12 11,gf 13 12 false 1 2,gl 14 12 false 13,gf 15 12 false 1 3,gl 16 12 false 15,gc 17 12 false .neq 14 16,yq 18 12 true 17,zm 19 18,gf 20 19 false 2 2,gl 21 19 false 20,gf 22 19 false 2 3,gl 23 19 false 22,gc 24 19 false .neq 21 23,yq 25 19 true 24,zm 26 25,gf 27 26 false 3 2,gl 28 26 false 27,gf 29 26 false 3 3,gl 30 26 false 29,gc 31 26 false .neq 28 30,yq 32 26 true 31,zm 33 32,gf 34 33 false 4 2,gl 35 33 false 34,gf 36 33 false 4 3,gl 37 33 false 36,gc 38 33 false .neq 35 37,yq 39 33 true 38,zm 40 39,gf 41 40 false 5 2,gl 42 40 false 41,gf 43 40 false 5 3,gl 44 40 false 43,gc 45 40 false .neq 42 44,yq 46 40 true 45,zm 47 46,gf 48 47 false 6 2,gl 49 47 false 48,gf 50 47 false 6 3,gl 51 47 false 50,gc 52 47 false .neq 49 51,yq 53 47 true 52,zm 54 53,gf 55 54 false 7 2,gl 56 54 false 55,gf 57 54 false 7 3,gl 58 54 false 57,gc 59 54 false .neq 56 58,yq 60 54 true 59,zm 61 60,gf 62 61 false 8 2,gl 63 61 false 62,gf 64 61 false 8 3,gl 65 61 false 64,gc 66 61 false .neq 63 65,yq 67 61 true 66,zm 68 67,gf 69 68 false 9 2,gl 70 68 false 69,gf 71 68 false 9 3,gl 72 68 false 71,gc 73 68 false .neq 70 72,yq 74 68 true 73,zm 75 74,gf 76 75 false 10 2,zg 77 75 false (.ld true 2 (.t 76)),gf 78 75 false 10 3,zg 79 75 false (.ld true 2 (.t 78)),zg 80 75 false (.cms true [1,0] (.t 77) (.t 79)),yq 81 75 true 80,zm 82 81,gf 83 82 false 12 2,gl 84 82 false 83,ge 85 82 false 84,gf 86 82 false 12 3,gl 87 82 false 86,ge 88 82 false 87,gc 89 82 false .neq 85 88,yq 90 82 true 89,zm 91 90,gf 92 91 false 13 2,gl 93 91 false 92,ge 94 91 false 93,gf 95 91 false 13 3,gl 96 91 false 95,ge 97 91 false 96,gc 98 91 false .neq 94 97,yq 99 91 true 98] (.cond (.t 99) (zr [yb 4 false] .ret) .skip)) (.seq (zr [yn 5 0] (.block 0 (.loop (.seq (zr [zm 100 5,zf 101 12 2,zl 102 101,yl 103 102,yc 104 .lss 100 103] (.cond (.t 104) .skip (.exit 0))) (.seq (.block 1 (.seq (.dreg (.take 0 (zf 107 12 2) (.take 1 (zl 108 107) (.take 2 (zm 109 5) (.take 3 (yi 110 4 108 109) (.take 4 (yt 111 4 110) (.take 5 (zf 112 12 3) (.take 6 (zl 113 112) (.take 7 (zm 114 5) (.take 8 (yi 115 4 113 114) (.take 9 (yt 116 4 115) (.eff 10 0 false (zs 117 (.call 139 [.t 111,.t 116])) (.phase [1,4,6,9] (.take 11 (yo 118 117) .nil))))))))))))) 0 [2,3]) (.cond (.t 118) (zr [yb 4 false] .ret) .skip))) (.reg [zm 105 5,yp 106 105,zm 5 106])))))) (.seq (zr [yn 6 0] (.block 2 (.loop (.seq (zr [zm 119 6,zf 120 13 2,zl 121 120,yl 122 121,yc 123 .lss 119 122] (.cond (.t 123) .skip (.exit 2))) (.seq (.block 3 (.seq (.dreg (.take 0 (zf 126 13 2) (.take 1 (zl 127 126) (.take 2 (zm 128 6) (.take 3 (yi 129 1 127 128) (.take 4 (zl 130 129) (.take 5 (zf 131 13 3) (.take 6 (zl 132 131) (.take 7 (zm 133 6) (.take 8 (yi 134 1 132 133) (.take 9 (zl 135 134) (.take 10 (yc 136 .neq 130 135) .nil))))))))))) 0 [2,3]) (.cond (.t 136) (zr [yb 4 false] .ret) .skip))) (.reg [zm 124 6,yp 125 124,zm 6 125])))))) (zr [yb 4 true] .ret)))),[.tmp 4]⟩
def x99:cW:=⟨80,zr [zs 5 (.box 41 (.t 0)),zs 6 (.box 67 (.t 1)),zs 10 (.alloc 41 [sn,sn,se,sn,sn,sn])] (.seq (.dreg (.take 0 (zf 15 4 5) (.take 1 (zl 16 15) (.take 2 (yt 17 17 6) (.eff 3 0 true (zs 18 (.call 20 [.t 17])) (.take 4 (zm 11 16) (.take 5 (zm 12 18) .nil)))))) 0 [5,6]) (.seq (zr [yn 13 0] (.block 0 (.loop (.seq (zr [zm 19 13,zm 20 12,yl 21 20,yc 22 .lss 19 21] (.cond (.t 22) .skip (.exit 0))) (.seq (.block 1 (.seq (.seq (.dreg (.take 0 (zm 25 11) (.take 1 (zm 26 12) (.take 2 (zm 27 13) (.take 3 (yi 28 1 26 27) (.take 4 (zl 29 28) (.take 5 (zf 30 1 6) (.take 6 (zl 31 30) (.take 7 (zf 32 7 6) (.take 8 (zl 33 32) (.take 9 (zm 34 4) (.eff 10 0 false (zs 35 (.call 140 [.t 25,.t 29,.t 31,.t 33,.t 34])) (.phase [4,6,8] (.take 11 (yk 36 .neq 35 0) .nil))))))))))))) 0 [12,6]) (.cond (.t 36) (zr [yt 37 6 5,ys 6 10 37] .ret) .skip)) (.seq (.dreg (.take 1 (zm 39 11) (.take 3 (zm 41 12) (.take 4 (zm 42 13) (.take 5 (yi 43 1 41 42) (.take 6 (zl 44 43) (.take 7 (zf 45 1 6) (.take 8 (zl 46 45) (.take 9 (zf 47 7 6) (.take 10 (zl 48 47) (.take 11 (zm 49 4) (.take 12 (zs 50 (.bld [se,se,se,se,zi] [(0,(1,.t 44)),(2,(1,.t 46)),(3,(1,.t 48)),(4,(1,.t 49))])) (.fork (.eff 0 0 true (zs 38 (.bsl 77 5 0 [se,se,se,se,zi] [])) (.fork (.eff 2 1 true (zs 40 (.app 39 39 77 5 72 (.t 38) (.t 39))) (.eff 13 2 false (zs 51 (.bsl 77 5 1 [se,se,se,se,zi] [(0,.t 50)])) (.eff 14 3 false (zs 52 (.app 39 39 77 5 72 (.t 40) (.t 51))) (.phase [6,8,10] (.take 15 (zm 11 52) .nil))))) (.eff 13 2 true (zs 51 (.bsl 77 5 1 [se,se,se,se,zi] [(0,.t 50)])) (.eff 2 1 true (zs 40 (.app 39 39 77 5 72 (.t 38) (.t 39))) (.eff 14 3 false (zs 52 (.app 39 39 77 5 72 (.t 40) (.t 51))) (.phase [6,8,10] (.take 15 (zm 11 52) .nil))))))) (.eff 13 2 true (zs 51 (.bsl 77 5 1 [se,se,se,se,zi] [(0,.t 50)])) (.eff 0 0 true (zs 38 (.bsl 77 5 0 [se,se,se,se,zi] [])) (.eff 2 1 true (zs 40 (.app 39 39 77 5 72 (.t 38) (.t 39))) (.eff 14 3 false (zs 52 (.app 39 39 77 5 72 (.t 40) (.t 51))) (.phase [6,8,10] (.take 15 (zm 11 52) .nil)))))))))))))))))) 4 [12,6]) (.seq (.dreg (.take 0 (zm 53 12) (.take 1 (zm 54 13) (.take 2 (yi 55 1 53 54) (.take 3 (zl 56 55) (.take 4 (zf 57 1 6) (.take 5 (zl 58 57) (.take 6 (zm 59 3) (.take 7 (zf 60 7 6) (.take 8 (zl 61 60) (.take 9 (zm 62 4) (.take 10 (zs 63 (.bld [se,se,se,se,zi] [(0,(1,.t 56)),(1,(1,.t 58)),(2,(1,.t 59)),(3,(1,.t 61)),(4,(1,.t 62))])) (.eff 11 0 true (zs 14 (.alloc 77 [se,se,se,se,zi])) (.eff 12 1 false (ys 5 14 63) (.phase [3,5,8] .nil)))))))))))))) 1 [12,6]) (.seq (zr [zm 64 11,yt 65 5 14,zs 66 (.call 141 [.t 64,.t 65]),yk 67 .neq 66 0] (.cond (.t 67) (zr [yt 68 6 5,ys 6 10 68] .ret) .skip)) (.dreg (.take 1 (zm 70 11) (.take 3 (yt 72 5 14) (.fork (.eff 0 0 true (zs 69 (.bsl 77 5 0 [se,se,se,se,zi] [])) (.fork (.eff 2 1 true (zs 71 (.app 39 39 77 5 72 (.t 69) (.t 70))) (.eff 4 2 false (zs 73 (.bsl 77 5 1 [se,se,se,se,zi] [(0,.t 72)])) (.eff 5 3 false (zs 74 (.app 39 39 77 5 72 (.t 71) (.t 73))) (.phase [3] (.take 6 (zm 11 74) .nil))))) (.eff 4 2 true (zs 73 (.bsl 77 5 1 [se,se,se,se,zi] [(0,.t 72)])) (.eff 2 1 true (zs 71 (.app 39 39 77 5 72 (.t 69) (.t 70))) (.eff 5 3 false (zs 74 (.app 39 39 77 5 72 (.t 71) (.t 73))) (.phase [3] (.take 6 (zm 11 74) .nil))))))) (.eff 4 2 true (zs 73 (.bsl 77 5 1 [se,se,se,se,zi] [(0,.t 72)])) (.eff 0 0 true (zs 69 (.bsl 77 5 0 [se,se,se,se,zi] [])) (.eff 2 1 true (zs 71 (.app 39 39 77 5 72 (.t 69) (.t 70))) (.eff 5 3 false (zs 74 (.app 39 39 77 5 72 (.t 71) (.t 73))) (.phase [3] (.take 6 (zm 11 74) .nil))))))))) 4 [14])))))) (.reg [zm 23 13,yp 24 23,zm 13 24])))))) (zr [zm 75 11,zf 76 4 5,ys 1 76 75] (zr [yt 77 6 5,zm 78 2,zs 79 (.call 94 [.t 77,.t 78,.c (.int .i64 1)]),ys 6 10 79] .ret)))),[.cell 10 true 6]⟩
def Ky:cW:=⟨139,zr [zs 2 (.box 38 (.t 0)),zs 3 (.box 204 (.t 1)),zs 4 (.alloc 38 [se,sn]),yn 5 0] (.seq (zr [zf 14 0 3,zl 15 14,yk 16 .eql 15 0] (.cond (.t 16) (zr [yt 17 2 2,zf 18 6 3,yt 19 9 18,zf 20 5 3,zl 21 20,zs 22 (.call 96 [.t 17,.t 19,.t 21]),yx 23 22 0,yx 24 22 1,ys 2 4 23,zm 5 24] .ret) .skip)) (.seq (zr [yt 25 2 2,yt 26 15 3,zs 27 (.call 142 [.t 25,.t 26]),zm 6 27] (zr [zm 28 6,yk 29 .neq 28 0] (.cond (.t 29) (zr [yt 30 2 2,zm 31 6,ys 2 4 30,zm 5 31] .ret) .skip))) (zr [yt 32 2 2,zf 33 3 3,zl 34 33,zs 35 (.call 63 [.t 32,.t 34]),zm 7 35] (zr [zf 36 1 2,zl 37 36,zm 38 7,yi 39 11 37 38,yt 40 11 39,zs 8 (.alloc 104 [se,se,se,se,se,sn,sn,zi,.bl false,zi,sn]),ys 11 8 40] (zr [zs 41 (.bsl 107 3 0 [zi,se,sn] []),zf 42 10 8,zl 43 42,zs 44 (.app 102 102 107 3 48 (.t 41) (.t 43)),zm 9 44] (zr [yt 45 15 3,zs 46 (.call 143 [.t 45]),zm 10 46] (.seq (zr [yn 11 0] (.block 0 (.loop (.seq (zr [zm 47 11,zm 48 10,yl 49 48,yc 50 .lss 47 49] (.cond (.t 50) .skip (.exit 0))) (.seq (.block 1 (zr [zm 53 9,zm 54 10,zm 55 11,yi 56 1 54 55,zl 57 56,yi 58 3 53 57,yt 59 3 58,zs 12 (.alloc 107 [zi,se,sn]),ys 3 12 59] (.seq (zr [zf 60 0 3,zl 61 60] (.block 2 (zr [yk 63 .eql 61 1,zm 62 63] (.cond (.t 62) (zr [zf 64 5 3,zl 65 64,zf 66 1 12,ys 1 66 65] (.dreg (.take 1 (zf 68 2 12) (.take 2 (zl 69 68) (.take 4 (zf 71 4 3) (.take 5 (zl 72 71) (.take 6 (zf 73 5 3) (.take 7 (zl 74 73) (.take 8 (zf 75 2 3) (.take 9 (zl 76 75) (.take 10 (zs 77 (.bld [se,se,zi,zi] [(0,(1,.t 72)),(1,(1,.t 74)),(2,(1,.c zi)),(3,(1,.t 76))])) (.fork (.eff 0 0 true (zs 67 (.bsl 180 4 0 [se,se,zi,zi] [])) (.fork (.eff 3 1 true (zs 70 (.app 105 105 180 4 48 (.t 67) (.t 69))) (.eff 11 2 true (zs 78 (.bsl 180 4 1 [se,se,zi,zi] [(0,.t 77)])) (.eff 12 3 false (zs 79 (.app 105 105 180 4 48 (.t 70) (.t 78))) (.phase [2,5,7,9] (.take 13 (zf 80 2 12) (.eff 14 4 false (ys 1 80 79) (.phase [2,5,7,9] .nil))))))) (.eff 11 2 true (zs 78 (.bsl 180 4 1 [se,se,zi,zi] [(0,.t 77)])) (.eff 3 1 true (zs 70 (.app 105 105 180 4 48 (.t 67) (.t 69))) (.eff 12 3 false (zs 79 (.app 105 105 180 4 48 (.t 70) (.t 78))) (.phase [2,5,7,9] (.take 13 (zf 80 2 12) (.eff 14 4 false (ys 1 80 79) (.phase [2,5,7,9] .nil))))))))) (.eff 11 2 true (zs 78 (.bsl 180 4 1 [se,se,zi,zi] [(0,.t 77)])) (.eff 0 0 true (zs 67 (.bsl 180 4 0 [se,se,zi,zi] [])) (.eff 3 1 true (zs 70 (.app 105 105 180 4 48 (.t 67) (.t 69))) (.eff 12 3 false (zs 79 (.app 105 105 180 4 48 (.t 70) (.t 78))) (.phase [2,5,7,9] (.take 13 (zf 80 2 12) (.eff 14 4 false (ys 1 80 79) (.phase [2,5,7,9] .nil)))))))))))))))))) 4 [12,3])) (zr [yk 82 .eql 61 3,zm 81 82] (.cond (.t 81) (.reg [zf 83 0 12,zn (.st 1 (.t 83) (.c (.int .i64 3)))]) (zr [yk 85 .eql 61 4,zm 84 85] (.cond (.t 84) (.reg [zf 86 0 12,zn (.st 1 (.t 86) (.c zi))]) .skip)))))))) (.dreg (.take 0 (zm 87 9) (.take 1 (zm 88 10) (.take 2 (zm 89 11) (.take 3 (yi 90 1 88 89) (.take 4 (zl 91 90) (.take 5 (yt 92 3 12) (.take 6 (yi 93 3 87 91) (.eff 7 0 false (ys 3 93 92) (.phase [4,5] .nil))))))))) 0 [10,12])))) (.reg [zm 51 11,yp 52 51,zm 11 52])))))) (.seq (zr [zf 94 0 3,zl 95 94,yk 96 .eql 95 2,zm 97 96,gf 98 97 false 0 3,gl 99 97 false 98,gk 100 97 false .eql 99 5,yq 101 97 true 100] (.cond (.t 101) (.seq (zr [yn 13 0] (.block 3 (.loop (.seq (zr [zm 102 13,yk 103 .lss 102 3] (.cond (.t 103) .skip (.exit 3))) (.seq (.block 4 (.reg [zm 106 9,zm 107 13,yi 108 3 106 107,zf 109 0 108,zn (.st 1 (.t 109) (.c (.int .i64 2)))])) (.reg [zm 104 13,yp 105 104,zm 13 105])))))) (.reg [zf 110 9 8,zn (.st 1 (.t 110) (.c (.int .i64 4)))])) .skip)) (.seq (zr [zf 111 0 3,zl 112 111,yk 113 .eql 112 2] (.cond (.t 113) (zr [zm 114 9,zf 115 1 3,zl 116 115,yi 117 3 114 116,zf 118 0 117,zn (.st 1 (.t 118) (.c (.int .i64 1)))] (.reg [zf 119 9 8,zn (.st 1 (.t 119) (.c (.int .i64 1)))])) .skip)) (zr [zm 120 9,zf 121 10 8,ys 1 121 120] (.seq (.dreg (.take 1 (zf 123 1 2) (.take 2 (zl 124 123) (.take 3 (zm 125 7) (.take 4 (zs 126 (.sli 11 (.t 124) none (some (.t 125)))) (.take 6 (yt 128 11 8) (.take 9 (zf 131 1 2) (.take 10 (zl 132 131) (.take 11 (zm 133 7) (.take 12 (yp 134 133) (.take 13 (zs 135 (.sli 11 (.t 132) (some (.t 134)) none)) (.fork (.eff 0 0 true (zs 122 (.bsl 104 11 0 [se,se,se,se,se,sn,sn,zi,.bl false,zi,sn] [])) (.fork (.eff 5 1 true (zs 127 (.app 36 36 104 11 176 (.t 122) (.t 126))) (.eff 7 2 true (zs 129 (.bsl 104 11 1 [se,se,se,se,se,sn,sn,zi,.bl false,zi,sn] [(0,.t 128)])) (.eff 8 3 true (zs 130 (.app 36 36 104 11 176 (.t 127) (.t 129))) (.eff 14 4 false (zs 136 (.app 36 36 104 11 176 (.t 130) (.t 135))) (.phase [2,6,10] (.take 15 (zf 137 1 2) (.eff 16 5 false (ys 1 137 136) (.phase [2,6,10] .nil)))))))) (.eff 7 2 true (zs 129 (.bsl 104 11 1 [se,se,se,se,se,sn,sn,zi,.bl false,zi,sn] [(0,.t 128)])) (.eff 5 1 true (zs 127 (.app 36 36 104 11 176 (.t 122) (.t 126))) (.eff 8 3 true (zs 130 (.app 36 36 104 11 176 (.t 127) (.t 129))) (.eff 14 4 false (zs 136 (.app 36 36 104 11 176 (.t 130) (.t 135))) (.phase [2,6,10] (.take 15 (zf 137 1 2) (.eff 16 5 false (ys 1 137 136) (.phase [2,6,10] .nil)))))))))) (.eff 7 2 true (zs 129 (.bsl 104 11 1 [se,se,se,se,se,sn,sn,zi,.bl false,zi,sn] [(0,.t 128)])) (.eff 0 0 true (zs 122 (.bsl 104 11 0 [se,se,se,se,se,sn,sn,zi,.bl false,zi,sn] [])) (.eff 5 1 true (zs 127 (.app 36 36 104 11 176 (.t 122) (.t 126))) (.eff 8 3 true (zs 130 (.app 36 36 104 11 176 (.t 127) (.t 129))) (.eff 14 4 false (zs 136 (.app 36 36 104 11 176 (.t 130) (.t 135))) (.phase [2,6,10] (.take 15 (zf 137 1 2) (.eff 16 5 false (ys 1 137 136) (.phase [2,6,10] .nil)))))))))))))))))))) 5 [2,8]) (zr [yt 138 2 2,ys 2 4 138,yn 5 0] .ret)))))))))))),[.cell 4 true 2,.tmp 5]⟩
def XT:cW:=⟨21,zr [zs 2 (.box 58 (.t 0)),zs 4 (.mov (.c sn))] (.seq (.dreg (.take 0 (zf 5 0 2) (.take 1 (zl 6 5) (.take 2 (zf 7 5 2) (.take 3 (zl 8 7) (.take 5 (zf 10 3 2) (.take 6 (zl 11 10) (.take 9 (zf 14 7 2) (.take 10 (zl 15 14) (.take 11 (zf 16 8 2) (.take 12 (zl 17 16) (.take 13 (zm 18 1) (.eff 4 0 true (zs 9 (.call 33 [])) (.take 7 (yi 12 1 9 11) (.more [1,3,6,10,12,8] (.take 8 (zl 13 12) (.take 14 (zs 19 (.bld [se,se,zi,zi,zi,se,se,se,zi,zi,se,zi,sn,sn] [(1,(1,.t 6)),(3,(1,.c (.int .i64 22))),(5,(1,.t 8)),(6,(1,.t 13)),(7,(1,.t 15)),(8,(1,.t 17)),(9,(1,.t 18))])) (.eff 15 0 false (zs 20 (.bsl 58 14 1 [se,se,zi,zi,zi,se,se,se,zi,zi,se,zi,sn,sn] [(0,.t 19)])) (.phase [1,3,6,8,10,12] (.take 16 (zm 4 20) .nil))))))))))))))))))) 1 [2]) .ret),[.tmp 4]⟩
def Yg:cW:=⟨46,zr [zs 7 (.box 67 (.t 1)),zs 12 (.mov (.c sn)),yb 13 false] (zr [yt 17 17 7,zs 18 (.call 20 [.t 17]),zm 14 18] (.seq (zr [yn 15 0] (.block 0 (.loop (.seq (zr [zm 19 15,zm 20 14,yl 21 20,yc 22 .lss 19 21] (.cond (.t 22) .skip (.exit 0))) (.seq (.block 1 (zr [zm 25 14,zm 26 15,yi 27 1 25 26,zl 28 27,zm 29 2,zm 30 3,zm 31 4,zm 32 5,zs 33 (.bld [se,se,se,se,zi] [(0,(1,.t 28)),(1,(1,.t 29)),(2,(1,.t 30)),(3,(1,.t 31)),(4,(1,.t 32))]),zs 16 (.alloc 77 [se,se,se,se,zi]),ys 5 16 33] (.seq (zr [zm 34 0,yt 35 5 16,zs 36 (.call 141 [.t 34,.t 35]),yk 37 .neq 36 0] (.cond (.t 37) (zr [zm 38 0,zm 12 38,yb 13 false] .ret) .skip)) (.dreg (.take 1 (zm 40 0) (.take 3 (yt 42 5 16) (.fork (.eff 0 0 true (zs 39 (.bsl 77 5 0 [se,se,se,se,zi] [])) (.fork (.eff 2 1 true (zs 41 (.app 39 39 77 5 72 (.t 39) (.t 40))) (.eff 4 2 false (zs 43 (.bsl 77 5 1 [se,se,se,se,zi] [(0,.t 42)])) (.eff 5 3 false (zs 44 (.app 39 39 77 5 72 (.t 41) (.t 43))) (.phase [3] (.take 6 (zm 0 44) .nil))))) (.eff 4 2 true (zs 43 (.bsl 77 5 1 [se,se,se,se,zi] [(0,.t 42)])) (.eff 2 1 true (zs 41 (.app 39 39 77 5 72 (.t 39) (.t 40))) (.eff 5 3 false (zs 44 (.app 39 39 77 5 72 (.t 41) (.t 43))) (.phase [3] (.take 6 (zm 0 44) .nil))))))) (.eff 4 2 true (zs 43 (.bsl 77 5 1 [se,se,se,se,zi] [(0,.t 42)])) (.eff 0 0 true (zs 39 (.bsl 77 5 0 [se,se,se,se,zi] [])) (.eff 2 1 true (zs 41 (.app 39 39 77 5 72 (.t 39) (.t 40))) (.eff 5 3 false (zs 44 (.app 39 39 77 5 72 (.t 41) (.t 43))) (.phase [3] (.take 6 (zm 0 44) .nil))))))))) 4 [16])))) (.reg [zm 23 15,yp 24 23,zm 15 24])))))) (zr [zm 45 0,zm 12 45,yb 13 true] .ret))),[.tmp 12,.tmp 13]⟩
def X7:cW:=⟨40,zr [yb 2 false] (.seq (zr [zm 5 0,yz 6 5,yk 7 .lss 6 1,zm 8 7,zh 9 8 false 0,gz 10 8 false 9,gk 11 8 false .gtr 10 16,yq 12 8 true 11] (.cond (.t 12) (zr [yb 2 false] .ret) .skip)) (.seq (zr [zm 13 0,yz 14 13,yn 15 0] (.block 0 (.loop (zr [yc 16 .lss 15 14] (.seq (.cond (.t 16) .skip (.exit 0)) (.seq (.block 1 (zr [zm 17 15,zm 3 17] (zr [zm 18 0,zm 19 3,zs 20 (.idx (.t 18) (.t 19)),zm 4 20] (zr [zm 21 4,zs 22 (.cmp .lss (.t 21) (.c (.int .u8 97))),zm 23 22,zh 24 23 false 4,zg 25 23 false (.cmp .gtr (.t 24) (.c (.int .u8 122))),yq 26 23 true 25,zm 27 26,zh 28 27 true 4,zg 29 27 true (.cmp .lss (.t 28) (.c (.int .u8 48))),zh 30 27 true 29,zh 31 30 false 4,zg 32 30 false (.cmp .gtr (.t 31) (.c (.int .u8 57))),zg 33 27 true (.pick (.t 30) (.c (.bl true)) (.t 32)),yr 34 27 33 false,zm 35 34,zh 36 35 true 4,zg 37 35 true (.cmp .neq (.t 36) (.c (.int .u8 45))),yr 38 35 37 false] (.cond (.t 38) (zr [yb 2 false] .ret) .skip))))) (.reg [yp 39 15,zm 15 39]))))))) (zr [yb 2 true] .ret))),[.tmp 2]⟩
def T4:cW:=⟨17,zr [yn 2 0] (.seq (zr [zm 5 0,yl 6 5,yn 7 0] (.block 0 (.loop (zr [yc 8 .lss 7 6] (.seq (.cond (.t 8) .skip (.exit 0)) (.seq (.block 1 (zr [yi 9 2 5 7,yt 10 2 9,zs 4 (.alloc 210 [zi,.v .nilFunc]),ys 2 4 10] (zr [zf 11 1 4,zl 12 11,zs 13 (.cav (.t 12) [])] (.cond (.t 13) (zr [zf 14 0 4,zl 15 14,zm 2 15] .ret) .skip)))) (.reg [yp 16 7,zm 7 16]))))))) (zr [yn 2 0] .ret)),[.tmp 2]⟩
def V0:cW:=⟨4,zr [yb 1 false] (zr [zl 2 0,zs 3 (.cmn false (.t 2)),zm 1 3] .ret),[.tmp 1]⟩
def YM:cW:=⟨12,zr [yb 1 false] (zr [zf 2 1 0,zl 3 2,zf 4 2 0,zl 5 4,yc 6 .lss 3 5,zm 7 6,gf 8 7 false 1 0,gl 9 7 false 8,gk 10 7 false .geq 9 3,yq 11 7 true 10,zm 1 11] .ret),[.tmp 1]⟩
def X5:cW:=⟨14,zr [yb 1 false] (zr [zf 2 7 0,zl 3 2,zm 4 3,gf 5 4 false 6 0,gl 6 4 false 5,zh 7 4 false 6,gf 8 7 true 5 0,gl 9 7 true 8,zg 10 7 true (.call 109 [.t 9]),go 11 7 true 10,zg 12 4 false (.pick (.t 7) (.t 11) (.c (.bl false))),yq 13 4 true 12,zm 1 13] .ret),[.tmp 1]⟩
def Xt:cW:=⟨9,zr [yb 2 false] (zr [zm 3 0,yk 4 .geq 3 0,zm 5 4,zh 6 5 true 0,gk 7 5 true .leq 6 1048576,yr 8 5 7 false,zm 2 8] .ret),[.tmp 2]⟩
def Yw:cW:=⟨15,zr [yb 2 false] (zr [zl 3 0,zs 4 (.nck (.t 3)),zf 5 9 4,zl 6 5,yk 7 .neq 6 0,zm 8 7,gl 9 8 false 0,gf 10 8 false 1 1,gl 11 8 false 10,zg 12 8 false (.mkf 112 [.t 1]),zg 13 8 false (.call 111 [.t 9,.t 11,.t 12]),yq 14 8 true 13,zm 2 14] .ret),[.tmp 2]⟩
def WK:cW:=⟨30,zr [yb 6 false] (.seq (zr [zm 9 0,zs 10 (.nck (.t 9)),zf 11 10 10,yt 12 9 11,yn 13 0] (.block 0 (.loop (zr [yk 14 .lss 13 3] (.seq (.cond (.t 14) .skip (.exit 0)) (.seq (.block 1 (zr [zm 15 13,zs 16 (.aix true 3 3 (.t 12) (.t 13)),zs 8 (.alloc 124 [zi,se,sn]),zm 7 15,ys 3 8 16] (zr [zm 17 1,yk 18 .eql 17 (-1),zm 19 18,zh 20 19 false 1,zh 21 19 false 7,gc 22 19 false .eql 20 21,yq 23 19 true 22,zm 24 23,zh 25 24 true 2,zg 26 24 true (.ld true 3 (.t 8)),zg 27 24 true (.cav (.t 25) [.t 26]),yr 28 24 27 false] (.cond (.t 28) (zr [yb 6 true] .ret) .skip)))) (.reg [yp 29 13,zm 13 29]))))))) (zr [yb 6 false] .ret)),[.tmp 6]⟩
def Yx:cW:=⟨9,zr [zs 2 (.box 124 (.t 0)),yb 3 false] (zr [zf 4 0 2,zl 5 4,zf 6 4 1,zl 7 6,yc 8 .neq 5 7,zm 3 8] .ret),[.tmp 3]⟩
def Xh:cW:=⟨8,zr [yb 2 false] (zr [zl 3 0,zf 4 1 1,zl 5 4,zs 6 (.mkf 114 [.t 1]),zs 7 (.call 111 [.t 3,.t 5,.t 6]),zm 2 7] .ret),[.tmp 2]⟩
def YW:cW:=⟨9,zr [zs 2 (.box 124 (.t 0)),yb 3 false] (zr [zf 4 1 2,zl 5 4,zf 6 3 1,zl 7 6,yc 8 .neq 5 7,zm 3 8] .ret),[.tmp 3]⟩
def XV:cW:=⟨12,zr [yb 2 false] (zr [zf 3 6 0,zl 4 3,zm 5 4,gl 6 5 true 1,gf 7 5 true 1 0,gl 8 5 true 7,zg 9 5 true (.mkf 116 [.t 0,.t 1]),zg 10 5 true (.call 111 [.t 6,.t 8,.t 9]),yr 11 5 10 false,zm 2 11] .ret),[.tmp 2]⟩
def YT:cW:=⟨15,zr [zs 3 (.box 124 (.t 0)),yb 4 false] (.seq (.dreg (.take 0 (zf 5 5 1) (.take 1 (zl 6 5) (.take 2 (yt 7 3 3) (.take 3 (zl 8 2) (.take 4 (zs 9 (.nck (.t 8))) (.take 5 (zf 10 0 9) (.take 6 (zf 11 7 10) (.take 7 (zl 12 11) (.eff 8 0 true (zs 13 (.call 117 [.t 7,.t 12])) (.take 9 (yc 14 .lss 6 13) (.take 10 (zm 4 14) .nil))))))))))) 0 [1,3,2]) .ret),[.tmp 4]⟩
def X9:cW:=⟨19,zr [zs 2 (.box 124 (.t 0)),yn 4 0] (.seq (zr [zf 5 2 2,zl 6 5,yl 7 6,yk 8 .eql 7 0] (.cond (.t 8) (zr [zm 9 1,zm 4 9] .ret) .skip)) (zr [zf 10 2 2,zl 11 10,zf 12 2 2,zl 13 12,yl 14 13,zs 15 (.ari .sub .i64 (.t 14) (.c (.int .i64 1))),yi 16 4 11 15,zf 17 3 16,zl 18 17,zm 4 18] .ret)),[.tmp 4]⟩
def Xi:cW:=⟨58,zr [yn 10 0] (.seq (zr [zm 13 1,zm 14 2,zm 15 3,zs 16 (.bsl 9 1 3 [se] [(0,.t 13),(1,.t 14),(2,.t 15)]),zs 17 (.call 74 [.t 16]),yo 18 17] (.cond (.t 18) (zr [yn 10 1] .ret) .skip)) (.seq (zr [zm 19 4,zs 20 (.call 75 [.t 19]),yo 21 20] (.cond (.t 21) (zr [yn 10 3] .ret) .skip)) (.seq (zr [zm 23 0,zs 24 (.nck (.t 23)),zf 25 0 24,zl 26 25,zm 27 1,zs 28 (.plk none true sn (.t 26) (.t 27)),zm 22 28,yx 29 22 0,yx 30 22 1,zm 11 29,zm 12 30] (zr [zm 31 12] (.cond (.t 31) (zr [yn 10 5] .ret) .skip))) (.seq (zr [zm 32 0,zs 33 (.nck (.t 32)),zf 34 0 33,zl 35 34,zs 36 (.lenm (.t 35)),yk 37 .geq 36 4096] (.cond (.t 37) (zr [yn 10 7] .ret) .skip)) (.seq (zr [zm 38 0,zs 39 (.nck (.t 38)),zf 40 0 39,zl 41 40,zs 42 (.nilm false (.t 41))] (.cond (.t 42) (.reg [zm 43 0,zs 44 (.mkp 172),zs 45 (.nck (.t 43)),zf 46 0 45,ys 1 46 44]) .skip)) (zr [zm 47 0,zs 48 (.nck (.t 47)),zf 49 0 48,zl 50 49,zm 51 1,zm 52 1,zm 53 2,zm 54 3,zm 55 4,zs 56 (.bld [se,se,se,se,zi] [(0,(1,.t 52)),(2,(1,.t 53)),(3,(1,.t 54)),(4,(1,.t 55))]),zs 57 (.bsl 77 5 1 [se,se,se,se,zi] [(0,.t 56)]),zn (.pup none (.t 50) (.t 51) (.t 57))] (zr [yn 10 0] .ret))))))),[.tmp 10]⟩
def Xs:cW:=⟨82,zr [yn 12 0] (zr [zm 18 0,zm 19 1,zm 20 2,zm 21 3,zm 22 5,zm 23 4,zs 24 (.call 144 [.t 23]),yo 25 24,zm 26 25,zh 27 26 false 4,zh 28 26 false 3,gc 29 26 false .eql 27 28,yq 30 26 true 29,zs 31 (.bld [se,zi,zi,se,zi,zi,.bl false,.bl false] [(0,(1,.t 19)),(1,(1,.t 20)),(2,(1,.c (.int .i64 (-1)))),(3,(1,.t 21)),(4,(1,.c zi)),(5,(1,.t 22)),(6,(1,.c (.bl true))),(7,(1,.t 30))]),zs 32 (.call 78 [.t 18,.t 31]),zm 13 32] (.seq (zr [zm 33 13,yk 34 .neq 33 0] (.cond (.t 34) (zr [zm 35 13,zm 12 35] .ret) .skip)) (zr [zm 36 0,zs 37 (.nck (.t 36)),zf 38 1 37,zl 39 38,zm 40 1,zs 41 (.plk none false (.v (.pointer none)) (.t 39) (.t 40)),zm 14 41] (.seq (zr [yn 42 0] (.block 0 (.loop (zr [yk 43 .lss 42 3] (.seq (.cond (.t 43) .skip (.exit 0)) (.seq (.block 1 (zr [zm 44 42,zm 15 44] (zr [zm 45 2,yk 46 .eql 45 (-1),zm 47 46,zh 48 47 false 2,zh 49 47 false 15,gc 50 47 false .eql 48 49,yq 51 47 true 50] (.cond (.t 51) (zr [zm 52 14,zm 53 15,zs 54 (.nck (.t 52)),zf 55 10 54,zs 56 (.aia 3 3 (.t 55) (.t 53)),zm 16 56] (zr [zm 57 3,zm 58 4,zm 59 5,zs 60 (.bld [se,se,zi,zi] [(0,(1,.t 57)),(1,(1,.t 58)),(2,(1,.c zi)),(3,(1,.t 59))]),zs 17 (.alloc 180 [se,se,zi,zi]),ys 4 17 60] (.seq (.dreg (.take 0 (zm 61 16) (.take 1 (zm 62 16) (.take 2 (zs 63 (.nck (.t 62))) (.take 3 (zf 64 2 63) (.take 4 (zl 65 64) (.take 5 (yt 66 4 17) (.eff 6 0 true (zs 67 (.bsl 180 4 1 [se,se,zi,zi] [(0,.t 66)])) (.eff 7 1 false (zs 68 (.app 105 105 180 4 48 (.t 65) (.t 67))) (.take 8 (zs 69 (.nck (.t 61))) (.take 9 (zf 70 2 69) (.eff 10 2 false (ys 1 70 68) (.phase [4,5] .nil)))))))))))) 2 [16,17]) (.dreg (.take 0 (zm 71 16) (.take 1 (zm 72 16) (.take 2 (zs 73 (.nck (.t 72))) (.take 3 (zf 74 1 73) (.take 4 (zl 75 74) (.take 5 (yt 76 4 17) (.eff 6 0 true (zs 77 (.bsl 180 4 1 [se,se,zi,zi] [(0,.t 76)])) (.eff 7 1 false (zs 78 (.call 145 [.t 75,.t 77])) (.take 8 (zs 79 (.nck (.t 71))) (.take 9 (zf 80 1 79) (.eff 10 1 false (ys 1 80 78) (.phase [4,5] .nil)))))))))))) 1 [16,17])))) .skip)))) (.reg [yp 81 42,zm 42 81]))))))) (zr [yn 12 0] .ret))))),[.tmp 12]⟩
def Vd:cW:=⟨8,zr [zs 2 (.mov (.c se))] (zr [zm 3 0,zs 4 (.nck (.t 3)),zf 5 0 4,zl 6 5,zs 7 (.ari .add .i64 (.c (.str ⟨#[98,108,45]⟩)) (.t 6)),zm 2 7] .ret),[.tmp 2]⟩
def Xj:cW:=⟨14,zr [zs 1 (.box 58 (.t 0)),zs 2 (.mov (.c sn))] (.seq (.dreg (.take 0 (zf 3 0 1) (.take 1 (zl 4 3) (.take 2 (zf 5 3 1) (.take 3 (zl 6 5) (.take 5 (zf 8 8 1) (.take 6 (zl 9 8) (.take 7 (zf 10 7 1) (.take 8 (zl 11 10) (.eff 4 0 true (zs 7 (.call 146 [.t 6])) (.take 9 (zs 12 (.bld [se,se,zi,zi,zi,se,se,se,zi,zi,se,zi,sn,sn] [(1,(1,.t 4)),(3,(1,.c (.int .i64 22))),(6,(1,.t 7)),(8,(1,.t 9)),(7,(1,.t 11))])) (.eff 10 0 false (zs 13 (.bsl 58 14 1 [se,se,zi,zi,zi,se,se,se,zi,zi,se,zi,sn,sn] [(0,.t 12)])) (.phase [1,3,6,8] (.take 11 (zm 2 13) .nil))))))))))))) 1 [1]) .ret),[.tmp 2]⟩
def Xy:cW:=⟨44,zr [zs 10 (.mov (.c sn)),yn 11 0] (zr [zm 14 0,zm 15 1,zm 16 2,zm 17 3,zm 18 4,zs 19 (.bld [se,zi,zi,se,zi,zi,.bl false,.bl false] [(0,(1,.t 15)),(1,(1,.t 16)),(3,(1,.t 17)),(4,(1,.c zi)),(5,(1,.t 18)),(6,(1,.c (.bl true)))]),zs 20 (.call 78 [.t 14,.t 19]),zm 12 20] (.seq (zr [zm 21 12,yk 22 .neq 21 0] (.cond (.t 22) (zr [zm 23 12,zs 10 (.mov (.c sn)),zm 11 23] .ret) .skip)) (zr [zm 24 0,zs 25 (.nck (.t 24)),zf 26 1 25,zl 27 26,zm 28 1,zs 29 (.plk none false (.v (.pointer none)) (.t 27) (.t 28)),zm 13 29] (zr [zm 30 13,zs 31 (.call 147 [.t 30,.c (.int .i64 1)])] (zr [zm 32 13,zm 33 2,zs 34 (.nck (.t 32)),zf 35 10 34,zs 36 (.aia 3 3 (.t 35) (.t 33)),zf 37 0 36,zn (.st 1 (.t 37) (.c (.int .i64 1)))] (zr [zm 38 13,zs 39 (.nck (.t 38)),zf 40 0 39,zf 41 5 40,zl 42 41,zs 43 (.call 87 [.t 42]),zm 10 43,yn 11 0] .ret)))))),[.tmp 10,.tmp 11]⟩
def X8:cW:=⟨33,zr [yn 10 0] (zr [zm 12 0,zm 13 1,zm 14 2,zm 15 3,zm 16 4,zs 17 (.bld [se,zi,zi,se,zi,zi,.bl false,.bl false] [(0,(1,.t 13)),(1,(1,.t 14)),(3,(1,.t 15)),(4,(1,.c (.int .i64 3))),(5,(1,.t 16)),(6,(1,.c (.bl true)))]),zs 18 (.call 78 [.t 12,.t 17]),zm 11 18] (.seq (zr [zm 19 11,yk 20 .eql 19 0] (.cond (.t 20) (.reg [zm 21 0,zs 22 (.nck (.t 21)),zf 23 1 22,zl 24 23,zm 25 1,zs 26 (.plk none false (.v (.pointer none)) (.t 24) (.t 25)),zm 27 2,zs 28 (.nck (.t 26)),zf 29 10 28,zs 30 (.aia 3 3 (.t 29) (.t 27)),zf 31 0 30,zn (.st 1 (.t 31) (.c zi))]) .skip)) (zr [zm 32 11,zm 10 32] .ret))),[.tmp 10]⟩
def YK:cW:=⟨45,zr [zs 3 (.box 45 (.t 0)),zs 4 (.box 79 (.t 1)),zs 5 (.box 9 (.t 2)),yn 6 0] (zr [zs 10 (.mkf 148 [.t 3,.t 4,.t 5]),zs 11 (.bld [zi,.v .nilFunc] [(0,(1,.c (.int .i64 1))),(1,(1,.t 10))]),zs 12 (.mkf 150 [.t 3,.t 4]),zs 13 (.bld [zi,.v .nilFunc] [(0,(1,.c (.int .i64 5))),(1,(1,.t 12))]),zs 14 (.mkf 151 [.t 4,.t 3]),zs 15 (.bld [zi,.v .nilFunc] [(0,(1,.c (.int .i64 9))),(1,(1,.t 14))]),zs 16 (.mkf 155 [.t 3]),zs 17 (.bld [zi,.v .nilFunc] [(0,(1,.c (.int .i64 7))),(1,(1,.t 16))]),zs 18 (.bsl 210 2 4 [zi,.v .nilFunc] [(0,.t 11),(1,.t 13),(2,.t 15),(3,.t 17)]),zs 19 (.call 105 [.t 18]),zm 7 19] (.seq (zr [zm 20 7,yk 21 .neq 20 0] (.cond (.t 21) (zr [zm 22 7,zm 6 22] .ret) .skip)) (zr [yt 23 9 4,zs 24 (.call 54 [.t 23]),zs 25 (.bld [se,se,se,se,se,sn,sn,zi,.bl false,zi,zi,se,sn,zi,se,sn,zi,se,sn] [(0,(9,.t 24)),(9,(1,.c zi))]),zs 26 (.box 127 (.t 25)),zm 8 26] (.seq (zr [yn 27 0] (.block 0 (.loop (zr [yk 28 .lss 27 3] (.seq (.cond (.t 28) .skip (.exit 0)) (.seq (.block 1 (zr [zm 29 27,zm 9 29] (.dreg (.take 0 (zm 30 8) (.take 1 (zm 31 9) (.take 2 (zl 32 5) (.take 3 (zs 33 (.bld [zi,se,sn] [(0,(1,.c zi)),(1,(1,.t 32))])) (.take 4 (zs 34 (.nck (.t 30))) (.take 5 (zf 35 10 34) (.take 6 (zs 36 (.aia 3 3 (.t 35) (.t 31))) (.eff 7 0 false (ys 3 36 33) (.phase [2] .nil))))))))) 0 [5]))) (.reg [yp 37 27,zm 27 37]))))))) (.seq (.dreg (.take 0 (zl 38 3) (.take 1 (zs 39 (.nck (.t 38))) (.take 2 (zf 40 1 39) (.take 3 (zl 41 40) (.take 4 (zf 42 0 4) (.take 5 (zl 43 42) (.take 6 (zm 44 8) (.eff 7 0 false (zn (.pup none (.t 41) (.t 43) (.t 44))) (.phase [0,3,5] .nil))))))))) 0 [3,4]) (zr [yn 6 0] .ret)))))),[.tmp 6]⟩
def YG:cW:=⟨35,zr [zs 1 (.box 79 (.t 0)),zs 2 (.alloc 200 [zi,se,se,sn])] (zr [zs 3 (.mov (.c (.str ⟨#[110,111]⟩)))] (.seq (zr [zf 4 8 1,zl 5 4] (.cond (.t 5) (.reg [zs 3 (.mov (.c (.str ⟨#[121,101,115]⟩)))]) .skip)) (.seq (.dreg (.take 0 (zf 6 0 1) (.take 1 (zl 7 6) (.take 2 (zf 8 1 1) (.take 3 (zl 9 8) (.take 4 (zf 10 1 1) (.take 5 (zl 11 10) (.take 6 (zf 12 2 1) (.take 7 (zl 13 12) (.take 8 (zf 14 3 1) (.take 9 (zl 15 14) (.take 10 (zf 16 4 1) (.take 11 (zl 17 16) (.take 12 (zf 18 5 1) (.take 13 (zl 19 18) (.take 14 (yl 20 19) (.take 16 (zf 22 5 1) (.take 17 (zl 23 22) (.take 19 (zf 25 7 1) (.take 20 (zl 26 25) (.take 22 (zm 28 3) (.take 23 (zf 29 6 1) (.take 24 (zl 30 29) (.eff 15 0 true (zs 21 (.call 157 [.t 20])) (.eff 18 0 true (zs 24 (.call 57 [.t 23,.c (.str ⟨#[44]⟩)])) (.eff 21 0 true (zs 27 (.call 157 [.t 26])) (.eff 25 0 true (zs 31 (.call 57 [.t 30,.c (.str ⟨#[44]⟩)])) (.eff 26 0 true (zs 32 (.bsl 9 1 18 [se] [(0,.c (.str ⟨#[99,97,114,114,105,101,114]⟩)),(1,.t 11),(2,.c (.str ⟨#[115,104,105,112,112,101,114]⟩)),(3,.t 13),(4,.c (.str ⟨#[102,114,111,109]⟩)),(5,.t 15),(6,.c (.str ⟨#[116,111]⟩)),(7,.t 17),(8,.c (.str ⟨#[98,111,120,101,115]⟩)),(9,.t 21),(10,.c (.str ⟨#[109,97,114,107,115]⟩)),(11,.t 24),(12,.c (.str ⟨#[105,115,115,117,101,100]⟩)),(13,.t 27),(14,.c (.str ⟨#[99,108,101,97,110]⟩)),(15,.t 28),(16,.c (.str ⟨#[112,97,114,101,110,116,115]⟩)),(17,.t 31)])) (.eff 27 1 true (zs 33 (.call 156 [.t 32])) (.take 28 (zs 34 (.bld [zi,se,se,sn] [(0,(1,.c (.int .i64 2))),(1,(1,.t 7)),(2,(1,.t 9)),(3,(1,.t 33))])) (.eff 29 1 false (ys 4 2 34) (.phase [1,3,5,7,9,11,13,17,20,24] .nil))))))))))))))))))))))))))))))) 1 [1]) .ret))),[.cell 2 true 4]⟩
def YH:cW:=⟨79,zr [zs 3 (.box 79 (.t 1)),yb 4 false] (.seq (zr [zf 6 0 3,zl 7 6,zf 8 2 3,zl 9 8,zf 10 3 3,zl 11 10,zf 12 4 3,zl 13 12,zs 14 (.bsl 9 1 4 [se] [(0,.t 7),(1,.t 9),(2,.t 11),(3,.t 13)]),zs 15 (.call 174 [.t 14]),yo 16 15,zm 17 16,gf 18 17 false 1 3,gl 19 17 false 18,zh 20 17 false 0,gc 21 17 false .neq 19 20,yq 22 17 true 21,zm 23 22,gf 24 23 false 5 3,gl 25 23 false 24,ge 26 23 false 25,gk 27 23 false .lss 26 1,yq 28 23 true 27,zm 29 28,gf 30 29 false 5 3,gl 31 29 false 30,ge 32 29 false 31,gk 33 29 false .gtr 32 64,yq 34 29 true 33,zm 35 34,gf 36 35 false 6 3,gl 37 35 false 36,ge 38 35 false 37,gk 39 35 false .gtr 38 64,yq 40 35 true 39,zm 41 40,gf 42 41 false 6 3,gl 43 41 false 42,zg 44 41 false (.call 174 [.t 43]),go 45 41 false 44,yq 46 41 true 45,zm 47 46,gf 48 47 false 7 3,gl 49 47 false 48,zg 50 47 false (.call 175 [.t 49]),go 51 47 false 50,yq 52 47 true 51] (.cond (.t 52) (zr [yb 4 false] .ret) .skip)) (.seq (zr [yn 5 0] (.block 0 (.loop (.seq (zr [zm 53 5,zf 54 5 3,zl 55 54,yl 56 55,yc 57 .lss 53 56] (.cond (.t 57) .skip (.exit 0))) (.seq (.block 1 (.seq (.dreg (.take 0 (zf 60 5 3) (.take 1 (zl 61 60) (.take 2 (zm 62 5) (.take 3 (yi 63 1 61 62) (.take 4 (zl 64 63) (.eff 5 0 false (zs 65 (.call 176 [.t 64])) (.phase [1,4,9,13,16] (.take 6 (yo 66 65) (.take 7 (zm 67 66) (.take 8 (gf 68 67 false 5 3) (.take 9 (gl 69 67 false 68) (.take 10 (zh 70 67 false 5) (.take 11 (zg 71 67 false (.sli 1 (.t 69) none (some (.t 70)))) (.take 12 (gf 72 67 false 5 3) (.take 13 (gl 73 67 false 72) (.take 14 (zh 74 67 false 5) (.take 15 (gi 75 67 false 1 73 74) (.take 16 (gl 76 67 false 75) (.eff 17 0 false (zg 77 67 false (.call 177 [.t 71,.t 76])) (.phase [1,4,9,13,16] (.take 18 (yq 78 67 true 77) .nil))))))))))))))))))))) 0 [3]) (.cond (.t 78) (zr [yb 4 false] .ret) .skip))) (.reg [zm 58 5,yp 59 58,zm 5 59])))))) (zr [yb 4 true] .ret))),[.tmp 4]⟩
def YX:cW:=⟨36,zr [yb 2 false] (.seq (zr [yn 3 0] (.block 0 (.loop (.seq (zr [zm 4 3,zm 5 0,yz 6 5,yc 7 .lss 4 6] (.cond (.t 7) .skip (.exit 0))) (.seq (.block 1 (zr [zm 10 0,zm 11 3,zs 12 (.idx (.t 10) (.t 11)),zs 13 (.call 178 [.t 12]),yo 14 13,zm 15 14,zh 16 15 true 0,zh 17 15 true 3,zg 18 15 true (.idx (.t 16) (.t 17)),zg 19 15 true (.call 179 [.t 18]),go 20 15 true 19,yr 21 15 20 false,zm 22 21,zh 23 22 true 0,zh 24 22 true 3,zg 25 22 true (.idx (.t 23) (.t 24)),zg 26 22 true (.cmp .neq (.t 25) (.c (.int .u8 45))),yr 27 22 26 false] (.cond (.t 27) (zr [yb 2 false] .ret) .skip))) (.reg [zm 8 3,yp 9 8,zm 3 9])))))) (zr [zm 28 0,yz 29 28,yk 30 .geq 29 1,zm 31 30,zh 32 31 true 0,gz 33 31 true 32,gk 34 31 true .leq 33 16,yr 35 31 34 false,zm 2 35] .ret)),[.tmp 2]⟩
def X0:cW:=⟨32,zr [zs 2 (.box 38 (.t 0)),yn 4 0] (.seq (zr [yn 5 0] (.block 0 (.loop (.seq (zr [zm 6 5,zf 7 1 2,zl 8 7,yl 9 8,yc 10 .lss 6 9] (.cond (.t 10) .skip (.exit 0))) (.seq (.block 1 (zr [zf 13 1 2,zl 14 13,zm 15 5,yi 16 11 14 15,zf 17 9 16,zl 18 17,yk 19 .eql 18 0,zm 20 19,gf 21 20 true 1 2,gl 22 20 true 21,zh 23 20 true 5,gi 24 20 true 11 22 23,gf 25 20 true 0 24,gf 26 20 true 5 25,gl 27 20 true 26,zh 28 20 true 1,zg 29 20 true (.call 177 [.t 27,.t 28]),yr 30 20 29 false] (.cond (.t 30) (zr [zm 31 5,zm 4 31] .ret) .skip))) (.reg [zm 11 5,yp 12 11,zm 5 12])))))) (zr [yn 4 (-1)] .ret)),[.tmp 4]⟩
def Ys:cW:=⟨14,zr [zs 1 (.box 79 (.t 0)),zs 2 (.alloc 79 [se,se,se,se,se,sn,sn,zi,.bl false])] (zr [zs 3 (.bsl 9 1 0 [se] []),zf 4 5 1,zl 5 4,zs 6 (.app 56 56 9 1 16 (.t 3) (.t 5)),zf 7 5 1,ys 1 7 6] (zr [zs 8 (.bsl 9 1 0 [se] []),zf 9 6 1,zl 10 9,zs 11 (.app 56 56 9 1 16 (.t 8) (.t 10)),zf 12 6 1,ys 1 12 11] (zr [yt 13 9 1,ys 9 2 13] .ret))),[.cell 2 true 9]⟩
def Yi:cW:=⟨8,zr [zs 4 (.alloc 230 [se,se])] (zr [zm 5 0,zm 6 1,zs 7 (.bld [se,se] [(0,(1,.t 5)),(1,(1,.t 6))]),ys 2 4 7] .ret),[.cell 4 true 2]⟩
def Yr:cW:=⟨9,zr [zs 4 (.alloc 230 [se,se])] (zr [zm 5 0,zm 6 1,zs 7 (.call 64 [.t 6]),zs 8 (.call 136 [.t 5,.t 7]),ys 2 4 8] .ret),[.cell 4 true 2]⟩
def Y0:cW:=⟨22,zr [zs 2 (.mov (.c se))] (zr [zs 3 (.mov (.c se))] (.seq (zr [yn 4 0] (.block 0 (.loop (.seq (zr [zm 5 4,zm 6 0,yl 7 6,yc 8 .lss 5 7] (.cond (.t 8) .skip (.exit 0))) (.seq (.block 1 (.seq (zr [zm 11 4,yk 12 .gtr 11 0] (.cond (.t 12) (.reg [zm 13 3,zs 14 (.ari .add .i64 (.t 13) (.c (.str ⟨#[44]⟩))),zm 3 14]) .skip)) (.reg [zm 15 3,zm 16 0,zm 17 4,yi 18 1 16 17,zl 19 18,ya 20 .add .i64 15 19,zm 3 20]))) (.reg [zm 9 4,yp 10 9,zm 4 10])))))) (zr [zm 21 3,zm 2 21] .ret))),[.tmp 2]⟩
def Yt:cW:=⟨31,zr [zs 2 (.box 200 (.t 0)),zs 3 (.box 200 (.t 1)),yb 4 false] (zr [zf 5 0 2,zl 6 5,zf 7 0 3,zl 8 7,yc 9 .eql 6 8,zm 10 9,gf 11 10 true 1 2,gl 12 10 true 11,gf 13 10 true 1 3,gl 14 10 true 13,gc 15 10 true .eql 12 14,yr 16 10 15 false,zm 17 16,gf 18 17 true 2 2,gl 19 17 true 18,gf 20 17 true 2 3,gl 21 17 true 20,gc 22 17 true .eql 19 21,yr 23 17 22 false,zm 24 23,gf 25 24 true 3 2,gl 26 24 true 25,gf 27 24 true 3 3,gl 28 24 true 27,zg 29 24 true (.call 180 [.t 26,.t 28]),yr 30 24 29 false,zm 4 30] .ret),[.tmp 4]⟩
def Xr:cW:=⟨36,zr [yn 10 0] (.seq (zr [zm 11 1,zs 12 (.call 181 [.t 11]),yo 13 12,zm 14 13,zh 15 14 false 2,zg 16 14 false (.call 181 [.t 15]),go 17 14 false 16,yq 18 14 true 17,zm 19 18,zh 20 19 false 3,zg 21 19 false (.call 181 [.t 20]),go 22 19 false 21,yq 23 19 true 22] (.cond (.t 23) (zr [yn 10 1] .ret) .skip)) (.seq (zr [zm 24 4,zs 25 (.call 182 [.t 24]),yo 26 25] (.cond (.t 26) (zr [yn 10 3] .ret) .skip)) (.seq (zr [zm 27 0,zm 28 1,zs 29 (.call 41 [.t 27,.t 28]),yl 30 29,yk 31 .gtr 30 0] (.cond (.t 31) (zr [yn 10 5] .ret) .skip)) (.seq (zr [zm 32 0,zs 33 (.call 39 [.t 32]),yl 34 33,yk 35 .geq 34 4096] (.cond (.t 35) (zr [yn 10 7] .ret) .skip)) (zr [yn 10 0] .ret))))),[.tmp 10]⟩
def Xg:cW:=⟨66,zr [zs 3 (.box 77 (.t 1)),yn 4 0] (.seq (zr [zf 7 0 3,zl 8 7,zs 9 (.call 181 [.t 8]),yo 10 9,zm 11 10,gf 12 11 false 1 3,gl 13 11 false 12,zg 14 11 false (.call 181 [.t 13]),go 15 11 false 14,yq 16 11 true 15,zm 17 16,gf 18 17 false 2 3,gl 19 17 false 18,zg 20 17 false (.call 181 [.t 19]),go 21 17 false 20,yq 22 17 true 21,zm 23 22,gf 24 23 false 3 3,gl 25 23 false 24,zg 26 23 false (.call 181 [.t 25]),go 27 23 false 26,yq 28 23 true 27,zm 29 28,gf 30 29 false 1 3,gl 31 29 false 30,gf 32 29 false 2 3,gl 33 29 false 32,gc 34 29 false .eql 31 33,yq 35 29 true 34] (.cond (.t 35) (zr [yn 4 1] .ret) .skip)) (.seq (zr [zf 36 4 3,zl 37 36,zs 38 (.call 182 [.t 37]),yo 39 38] (.cond (.t 39) (zr [yn 4 3] .ret) .skip)) (zr [zm 40 0,zf 41 0 3,zl 42 41,zs 43 (.call 41 [.t 40,.t 42]),zm 5 43] (.seq (zr [zm 44 5,yl 45 44,yk 46 .eql 45 0] (.cond (.t 46) (zr [yn 4 4] .ret) .skip)) (zr [zm 47 5,zm 48 5,yl 49 48,zs 50 (.ari .sub .i64 (.t 49) (.c (.int .i64 1))),yi 51 5 47 50,yt 52 5 51,zs 6 (.alloc 77 [se,se,se,se,zi]),ys 5 6 52] (.seq (zr [zf 53 2 6,zl 54 53,zf 55 1 3,zl 56 55,yc 57 .neq 54 56] (.cond (.t 57) (zr [yn 4 8] .ret) .skip)) (.seq (zr [zf 58 4 3,zl 59 58,zf 60 4 6,zl 61 60,yc 62 .lss 59 61] (.cond (.t 62) (zr [yn 4 6] .ret) .skip)) (.seq (zr [zm 63 5,yl 64 63,yk 65 .geq 64 4096] (.cond (.t 65) (zr [yn 4 7] .ret) .skip)) (zr [yn 4 0] .ret))))))))),[.tmp 4]⟩
def VR:cW:=⟨139,zr [zs 2 (.box 38 (.t 0)),zs 3 (.box 204 (.t 1)),yn 4 0] (zr [yt 12 2 2,zf 13 3 3,zl 14 13,zs 15 (.call 63 [.t 12,.t 14]),zm 5 15] (.seq (zr [zm 16 5,yk 17 .lss 16 0] (.cond (.t 17) (zr [yn 4 4] .ret) .skip)) (.seq (zr [zf 18 0 3,zl 19 18,yk 20 .neq 19 5,zm 21 20,gf 22 21 true 1 3,gl 23 21 true 22,gk 24 21 true .lss 23 0,zh 25 21 true 24,gf 26 25 false 1 3,gl 27 25 false 26,gk 28 25 false .gtr 27 2,zg 29 21 true (.pick (.t 25) (.c (.bl true)) (.t 28)),yr 30 21 29 false,zm 31 30,gf 32 31 true 0 3,gl 33 31 true 32,gk 34 31 true .eql 33 1,zh 35 31 true 34,gf 36 35 true 1 3,gl 37 35 true 36,gk 38 35 true .eql 37 (-1),zg 39 31 true (.pick (.t 35) (.t 38) (.c (.bl false))),go 40 31 true 39,yr 41 31 40 false] (.cond (.t 41) (zr [yn 4 3] .ret) .skip)) (.seq (zr [zf 42 0 3,zl 43 42,yk 44 .neq 43 3,zm 45 44,gf 46 45 true 2 3,gl 47 45 true 46,zg 48 45 true (.call 175 [.t 47]),go 49 45 true 48,yr 50 45 49 false,zm 51 50,gf 52 51 false 0 3,gl 53 51 false 52,gk 54 51 false .eql 53 1,zh 55 51 false 54,gf 56 55 true 5 3,gl 57 55 true 56,zg 58 55 true (.call 133 [.t 57]),go 59 55 true 58,zh 60 55 true 59,gf 61 60 false 5 3,gl 62 60 false 61,gf 63 60 false 4 3,gl 64 60 false 63,gc 65 60 false .eql 62 64,zg 66 55 true (.pick (.t 60) (.c (.bl true)) (.t 65)),zg 67 51 false (.pick (.t 55) (.t 66) (.c (.bl false))),yq 68 51 true 67] (.cond (.t 68) (zr [yn 4 1] .ret) .skip)) (.seq (.dreg (.take 0 (zf 69 1 2) (.take 1 (zl 70 69) (.take 2 (zm 71 5) (.take 3 (yi 72 11 70 71) (.take 4 (yt 73 11 72) (.take 5 (yt 74 15 3) (.fork (.eff 6 0 true (zs 75 (.call 143 [.t 74])) (.eff 7 0 true (zs 6 (.alloc 104 [se,se,se,se,se,sn,sn,zi,.bl false,zi,sn])) (.eff 8 1 false (ys 11 6 73) (.phase [1,4,5] (.take 9 (zm 7 75) (.take 10 (yn 8 0) .nil)))))) (.eff 7 0 true (zs 6 (.alloc 104 [se,se,se,se,se,sn,sn,zi,.bl false,zi,sn])) (.eff 6 0 true (zs 75 (.call 143 [.t 74])) (.eff 8 1 false (ys 11 6 73) (.phase [1,4,5] (.take 9 (zm 7 75) (.take 10 (yn 8 0) .nil))))))))))))) 1 [2,3]) (.seq (zr [zf 76 0 3,zl 77 76,yk 78 .eql 77 4] (.cond (.t 78) (.reg [yn 8 3]) .skip)) (.seq (zr [yn 9 0] (.block 0 (.loop (.seq (zr [zm 79 9,zm 80 7,yl 81 80,yc 82 .lss 79 81] (.cond (.t 82) .skip (.exit 0))) (.seq (.block 1 (.seq (.dreg (.take 0 (zf 85 9 6) (.take 1 (zl 86 85) (.take 2 (yk 87 .neq 86 0) (.take 3 (zm 88 87) (.take 4 (gf 89 88 false 10 6) (.take 5 (gl 90 88 false 89) (.take 6 (zh 91 88 false 7) (.take 7 (zh 92 88 false 9) (.take 8 (gi 93 88 false 1 91 92) (.take 9 (gl 94 88 false 93) (.take 10 (gi 95 88 false 3 90 94) (.take 11 (gf 96 88 false 0 95) (.take 12 (gl 97 88 false 96) (.take 13 (zh 98 88 false 8) (.take 14 (gc 99 88 false .neq 97 98) (.take 15 (yq 100 88 true 99) .nil)))))))))))))))) 0 [6,7]) (.cond (.t 100) (zr [yn 4 9] .ret) .skip))) (.reg [zm 83 9,yp 84 83,zm 9 84])))))) (.seq (zr [yn 10 0] (.block 2 (.loop (.seq (zr [zm 101 10,zm 102 7,yl 103 102,yc 104 .lss 101 103] (.cond (.t 104) .skip (.exit 2))) (.seq (.block 3 (.seq (.dreg (.take 0 (zf 107 10 6) (.take 1 (zl 108 107) (.take 2 (zm 109 7) (.take 3 (zm 110 10) (.take 4 (yi 111 1 109 110) (.take 5 (zl 112 111) (.take 6 (yi 113 3 108 112) (.take 7 (zf 114 1 113) (.take 8 (zl 115 114) (.take 9 (zf 116 4 3) (.take 10 (zl 117 116) (.take 11 (yc 118 .neq 115 117) .nil)))))))))))) 0 [6,7,3]) (.cond (.t 118) (zr [yn 4 8] .ret) .skip))) (.reg [zm 105 10,yp 106 105,zm 10 106])))))) (.seq (zr [yn 11 0] (.block 4 (.loop (.seq (zr [zm 119 11,zm 120 7,yl 121 120,yc 122 .lss 119 121] (.cond (.t 122) .skip (.exit 4))) (.seq (.block 5 (.seq (.dreg (.take 0 (zf 125 0 3) (.take 1 (zl 126 125) (.take 2 (yk 127 .neq 126 3) (.take 3 (zm 128 127) (.take 4 (gf 129 128 true 2 3) (.take 5 (gl 130 128 true 129) (.take 6 (zg 131 128 true (.ld true 11 (.t 6))) (.take 7 (zh 132 128 true 7) (.take 8 (zh 133 128 true 11) (.take 9 (gi 134 128 true 1 132 133) (.take 10 (gl 135 128 true 134) (.eff 11 0 true (zg 136 128 true (.call 183 [.t 131,.t 135])) (.take 12 (gc 137 128 true .lss 130 136) (.take 13 (yr 138 128 137 false) .nil)))))))))))))) 0 [3,6,7]) (.cond (.t 138) (zr [yn 4 6] .ret) .skip))) (.reg [zm 123 11,yp 124 123,zm 11 124])))))) (zr [yn 4 0] .ret)))))))))),[.tmp 4]⟩
def Xl:cW:=⟨20,zr [zs 1 (.box 204 (.t 0)),zs 2 (.mov (.c sn))] (.seq (zr [zf 3 0 1,zl 4 3,yk 5 .eql 4 5,zm 6 5,gf 7 6 false 0 1,gl 8 6 false 7,gk 9 6 false .eql 8 1,zh 10 6 false 9,gf 11 10 true 1 1,gl 12 10 true 11,gk 13 10 true .eql 12 (-1),zg 14 6 false (.pick (.t 10) (.t 13) (.c (.bl false))),yq 15 6 true 14] (.cond (.t 15) (zr [zs 16 (.bsl 3 1 3 [zi] [(0,.c zi),(1,.c (.int .i64 1)),(2,.c (.int .i64 2))]),zm 2 16] .ret) .skip)) (zr [zf 17 1 1,zl 18 17,zs 19 (.bsl 3 1 1 [zi] [(0,.t 18)]),zm 2 19] .ret)),[.tmp 2]⟩
def YQ:cW:=⟨36,zr [yb 2 false] (.seq (zr [zm 4 0,yz 5 4,yk 6 .lss 5 1,zm 7 6,zh 8 7 false 0,gz 9 7 false 8,gk 10 7 false .gtr 9 16,yq 11 7 true 10] (.cond (.t 11) (zr [yb 2 false] .ret) .skip)) (.seq (zr [zm 12 0,yz 13 12,yn 14 0] (.block 0 (.loop (zr [yc 15 .lss 14 13] (.seq (.cond (.t 15) .skip (.exit 0)) (.seq (.block 1 (zr [zm 16 14,zm 3 16] (zr [zm 17 0,zm 18 3,zs 19 (.idx (.t 17) (.t 18)),zs 20 (.call 184 [.t 19]),yo 21 20,zm 22 21,zh 23 22 true 0,zh 24 22 true 3,zg 25 22 true (.idx (.t 23) (.t 24)),zg 26 22 true (.call 185 [.t 25]),go 27 22 true 26,yr 28 22 27 false,zm 29 28,zh 30 29 true 0,zh 31 29 true 3,zg 32 29 true (.idx (.t 30) (.t 31)),zg 33 29 true (.cmp .neq (.t 32) (.c (.int .u8 45))),yr 34 29 33 false] (.cond (.t 34) (zr [yb 2 false] .ret) .skip)))) (.reg [yp 35 14,zm 14 35]))))))) (zr [yb 2 true] .ret))),[.tmp 2]⟩
def XF:cW:=⟨16,zr [zs 4 (.mov (.c se))] (zr [zm 9 0,zm 10 1,zs 11 (.call 186 [.t 9,.t 10]),zm 8 11,yx 12 8 0,yx 13 8 1,yx 14 8 2,zm 5 12,zm 6 13,zm 7 14] (zr [zm 15 5,zm 4 15] .ret)),[.tmp 4]⟩
def XI:cW:=⟨12,zr [zs 2 (.mov (.c se))] (.seq (zr [zm 3 0,yk 4 .lss 3 0,zm 5 4,zh 6 5 false 0,gk 7 5 false .geq 6 29,yq 8 5 true 7] (.cond (.t 8) (zr [zs 2 (.mov (.c se))] .ret) .skip)) (zr [zm 9 0,zs 10 (.aia 1 29 (.g 2) (.t 9)),zl 11 10,zm 2 11] .ret)),[.tmp 2]⟩
def YP:cW:=⟨19,zr [zm 5 0,zm 6 1,zs 7 (.nck (.t 5)),zf 8 9 7,ys 1 8 6] (zr [yn 9 0] (.block 0 (.loop (zr [yk 10 .lss 9 3] (.seq (.cond (.t 10) .skip (.exit 0)) (.seq (.block 1 (zr [zm 11 9,zm 4 11] (.reg [zm 12 0,zm 13 4,zs 14 (.nck (.t 12)),zf 15 10 14,zs 16 (.aia 3 3 (.t 15) (.t 13)),zf 17 0 16,zn (.st 1 (.t 17) (.c (.int .i64 2)))]))) (.reg [yp 18 9,zm 9 18]))))))),[]⟩
def X3:cW:=⟨13,zr [yb 3 false] (zr [zl 4 0,yt 5 9 1,zs 6 (.call 149 [.t 4,.t 5]),yo 7 6,zm 8 7,gl 9 8 false 2,zg 10 8 false (.call 144 [.t 9]),go 11 8 false 10,yq 12 8 true 11,zm 3 12] .ret),[.tmp 3]⟩
def X4:cW:=⟨85,zr [zs 3 (.box 79 (.t 1)),yb 4 false] (.seq (zr [zf 8 0 3,zl 9 8,zs 10 (.call 144 [.t 9]),yo 11 10,zm 12 11,gf 13 12 false 2 3,gl 14 12 false 13,zg 15 12 false (.call 144 [.t 14]),go 16 12 false 15,yq 17 12 true 16,zm 18 17,gf 19 18 false 3 3,gl 20 18 false 19,zg 21 18 false (.call 144 [.t 20]),go 22 18 false 21,yq 23 18 true 22,zm 24 23,gf 25 24 false 4 3,gl 26 24 false 25,zg 27 24 false (.call 144 [.t 26]),go 28 24 false 27,yq 29 24 true 28] (.cond (.t 29) (zr [yb 4 false] .ret) .skip)) (.seq (.seq (.dreg (.take 0 (zf 30 1 3) (.take 1 (zl 31 30) (.take 2 (zm 32 0) (.take 3 (zs 33 (.nck (.t 32))) (.take 4 (zf 34 0 33) (.take 5 (zl 35 34) (.take 6 (yc 36 .neq 31 35) (.take 7 (zm 37 36) (.take 8 (gf 38 37 false 7 3) (.take 9 (gl 39 37 false 38) (.eff 10 0 false (zg 40 37 false (.call 109 [.t 39])) (.phase [1,5,9] (.take 11 (go 41 37 false 40) (.take 12 (yq 42 37 true 41) .nil)))))))))))))) 0 [3,0]) (.cond (.t 42) (zr [yb 4 false] .ret) .skip)) (.seq (zr [zf 43 5 3,zl 44 43,yl 45 44,yk 46 .lss 45 1,zm 47 46,gf 48 47 false 5 3,gl 49 47 false 48,ge 50 47 false 49,gk 51 47 false .gtr 50 64,yq 52 47 true 51,zm 53 52,gf 54 53 false 6 3,gl 55 53 false 54,ge 56 53 false 55,gk 57 53 false .gtr 56 64,yq 58 53 true 57] (.cond (.t 58) (zr [yb 4 false] .ret) .skip)) (zr [zf 59 5 3,zl 60 59,yl 61 60,zs 62 (.mkr 70 (.t 61)),zm 5 62] (.seq (zr [zf 63 5 3,zl 64 63,yl 65 64,yn 66 0] (.block 0 (.loop (zr [yc 67 .lss 66 65] (.seq (.cond (.t 67) .skip (.exit 0)) (.seq (.block 1 (zr [yi 68 1 64 66,zl 69 68,zm 7 69] (.seq (zr [zm 70 7,zs 71 (.call 187 [.t 70]),yo 72 71,zm 73 72,zh 74 73 false 5,zh 75 73 false 7,zg 76 73 false (.lkp none false (.bl false) (.t 74) (.t 75)),yq 77 73 true 76] (.cond (.t 77) (zr [yb 4 false] .ret) .skip)) (.reg [zm 78 5,zm 79 7,zn (.upd none (.t 78) (.t 79) (.c (.bl true)))])))) (.reg [yp 80 66,zm 66 80]))))))) (zr [zf 81 6 3,zl 82 81,zs 83 (.call 152 [.t 82,.c (.clo 188 [])]),yo 84 83,zm 4 84] .ret)))))),[.tmp 4]⟩
def Yf:cW:=⟨11,zr [yb 2 false] (.seq (.dreg (.take 0 (zl 3 0) (.take 1 (zs 4 (.nck (.t 3))) (.take 2 (zf 5 1 4) (.take 3 (zl 6 5) (.take 4 (zf 7 0 1) (.take 5 (zl 8 7) (.eff 6 0 false (zs 9 (.plk none false (.v (.pointer none)) (.t 6) (.t 8))) (.phase [0,3,5] (.take 7 (zs 10 (.cmn true (.t 9))) (.take 8 (zm 2 10) .nil)))))))))) 0 [0,1]) .ret),[.tmp 2]⟩
def YA:cW:=⟨7,zr [yb 2 false] (zr [zf 3 5 0,zl 4 3,zs 5 (.mkf 153 [.t 1]),zs 6 (.call 152 [.t 4,.t 5]),zm 2 6] .ret),[.tmp 2]⟩
def Wp:cW:=⟨9,zr [yb 4 false] (zr [zm 5 0,zm 6 1,zs 7 (.call 189 [.t 5,.t 6]),yk 8 .geq 7 0,zm 4 8] .ret),[.tmp 4]⟩
def Xz:cW:=⟨13,zr [yb 3 false] (zr [zl 7 1,zm 8 0,zs 9 (.call 154 [.t 7,.t 8]),zm 6 9,yx 10 6 0,yx 11 6 1,zm 4 10,zm 5 11] (zr [zm 12 5,zm 3 12] .ret)),[.tmp 3]⟩
def Yj:cW:=⟨16,zr [zs 3 (.box 9 (.t 1)),zs 4 (.mov (.c se)),yb 5 false] (zr [zm 7 0,zs 8 (.mkf 190 [.t 3]),zs 9 (.call 69 [.t 7,.t 8]),zm 6 9] (.seq (zr [zm 10 6,yl 11 10,yk 12 .eql 11 0] (.cond (.t 12) (zr [zs 4 (.mov (.c se)),yb 5 false] .ret) .skip)) (zr [zm 13 6,zs 14 (.iad 1 (.t 13) (.c zi)),zl 15 14,zm 4 15,yb 5 true] .ret))),[.tmp 4,.tmp 5]⟩
def Xf:cW:=⟨8,zr [yb 1 false] (zr [zl 2 0,zs 3 (.nck (.t 2)),zf 4 1 3,zl 5 4,zs 6 (.lenm (.t 5)),yk 7 .geq 6 256,zm 1 7] .ret),[.tmp 1]⟩
def YC:cW:=⟨30,zr [zs 2 (.mov (.c sn))] (zr [zm 5 0,yl 6 5,zs 7 (.ari .quo .i64 (.t 6) (.c (.int .i64 2))),zs 8 (.mks 230 2 32 [se,se] (.c zi) (.t 7)),zm 3 8] (.seq (zr [yn 4 0] (.block 0 (.loop (.seq (zr [zm 9 4,yp 10 9,zm 11 0,yl 12 11,yc 13 .lss 10 12] (.cond (.t 13) .skip (.exit 0))) (.seq (.block 1 (.dreg (.take 0 (zm 16 3) (.take 1 (zm 17 0) (.take 2 (zm 18 4) (.take 3 (yi 19 1 17 18) (.take 4 (zl 20 19) (.take 5 (zm 21 0) (.take 6 (zm 22 4) (.take 7 (yp 23 22) (.take 8 (yi 24 1 21 23) (.take 9 (zl 25 24) (.take 10 (zs 26 (.bld [se,se] [(0,(1,.t 20)),(1,(1,.t 25))])) (.eff 11 0 false (zs 27 (.bsl 230 2 1 [se,se] [(0,.t 26)])) (.eff 12 1 false (zs 28 (.app 198 198 230 2 32 (.t 16) (.t 27))) (.phase [4,9] (.take 13 (zm 3 28) .nil))))))))))))))) 2 [0])) (.reg [zm 14 4,zs 15 (.ari .add .i64 (.t 14) (.c (.int .i64 2))),zm 4 15])))))) (zr [zm 29 3,zm 2 29] .ret))),[.tmp 2]⟩
def XS:cW:=⟨5,zr [zs 2 (.mov (.c se))] (zr [zm 3 0,zs 4 (.call 60 [.t 3]),zm 2 4] .ret),[.tmp 2]⟩
def Y5:cW:=⟨16,zr [yb 2 false] (.seq (zr [yn 3 0] (.block 0 (.loop (.seq (zr [zm 4 3,zm 5 0,yl 6 5,yc 7 .lss 4 6] (.cond (.t 7) .skip (.exit 0))) (.seq (.block 1 (zr [zm 10 0,zm 11 3,yi 12 1 10 11,zl 13 12,zs 14 (.call 133 [.t 13]),yo 15 14] (.cond (.t 15) (zr [yb 2 false] .ret) .skip))) (.reg [zm 8 3,yp 9 8,zm 3 9])))))) (zr [yb 2 true] .ret)),[.tmp 2]⟩
def Yp:cW:=⟨9,zr [yb 2 false] (zr [zm 3 0,yk 4 .geq 3 0,zm 5 4,zh 6 5 true 0,gk 7 5 true .leq 6 1048576,yr 8 5 7 false,zm 2 8] .ret),[.tmp 2]⟩
def Xu:cW:=⟨35,zr [yb 2 false] (.seq (.dreg (.take 0 (zm 3 0) (.take 1 (yz 4 3) (.take 2 (yk 5 .eql 4 12) (.take 3 (zm 6 5) (.take 4 (zh 7 6 true 0) (.eff 5 0 false (zg 8 6 true (.call 202 [.t 7])) (.take 6 (yr 9 6 8 false) (.take 7 (zm 10 9) (.take 8 (zh 11 10 true 0) (.take 9 (zg 12 10 true (.idx (.t 11) (.c (.int .i64 10)))) (.eff 10 0 false (zg 13 10 true (.call 179 [.t 12])) (.take 11 (yr 14 10 13 false) (.take 12 (zm 15 14) (.take 13 (zh 16 15 true 0) (.take 14 (zg 17 15 true (.idx (.t 16) (.c (.int .i64 11)))) (.eff 15 0 false (zg 18 15 true (.call 179 [.t 17])) (.take 16 (yr 19 15 18 false) (.take 17 (zm 20 19) (.take 18 (zh 21 20 true 0) (.take 20 (zh 23 20 true 0) (.take 21 (zg 24 20 true (.idx (.t 23) (.c (.int .i64 10)))) (.take 22 (zg 25 20 true (.cvi .i64 (.t 24))) (.take 23 (zg 26 20 true (.ari .sub .i64 (.t 25) (.c (.int .i64 48)))) (.take 24 (zg 27 20 true (.ari .mul .i64 (.c (.int .i64 10)) (.t 26))) (.take 25 (zh 28 20 true 0) (.take 26 (zg 29 20 true (.idx (.t 28) (.c (.int .i64 11)))) (.take 27 (zg 30 20 true (.cvi .i64 (.t 29))) (.take 28 (ga 31 20 true .add .i64 27 30) (.take 29 (zg 32 20 true (.ari .sub .i64 (.t 31) (.c (.int .i64 48)))) (.eff 19 0 false (zg 22 20 true (.call 203 [.t 21])) (.take 30 (gc 33 20 true .eql 22 32) (.take 31 (yr 34 20 33 false) (.take 32 (zm 2 34) .nil))))))))))))))))))))))))))))))))) 0 [0]) .ret),[.tmp 2]⟩
def Xk:cW:=⟨18,zr [yb 4 false] (.seq (zr [yn 5 0] (.block 0 (.loop (.seq (zr [zm 6 5,zm 7 0,yl 8 7,yc 9 .lss 6 8] (.cond (.t 9) .skip (.exit 0))) (.seq (.block 1 (zr [zm 12 0,zm 13 5,yi 14 1 12 13,zl 15 14,zm 16 1,yc 17 .eql 15 16] (.cond (.t 17) (zr [yb 4 true] .ret) .skip))) (.reg [zm 10 5,yp 11 10,zm 5 11])))))) (zr [yb 4 false] .ret)),[.tmp 4]⟩
def X2:cW:=⟨9,zr [yb 2 false] (zr [zm 3 0,zs 4 (.cmp .geq (.t 3) (.c (.int .u8 97))),zm 5 4,zh 6 5 true 0,zg 7 5 true (.cmp .leq (.t 6) (.c (.int .u8 122))),yr 8 5 7 false,zm 2 8] .ret),[.tmp 2]⟩
def XU:cW:=⟨9,zr [yb 2 false] (zr [zm 3 0,zs 4 (.cmp .geq (.t 3) (.c (.int .u8 48))),zm 5 4,zh 6 5 true 0,zg 7 5 true (.cmp .leq (.t 6) (.c (.int .u8 57))),yr 8 5 7 false,zm 2 8] .ret),[.tmp 2]⟩
def YB:cW:=⟨26,zr [yb 4 false] (.seq (zr [zm 6 0,yl 7 6,zm 8 1,yl 9 8,yc 10 .neq 7 9] (.cond (.t 10) (zr [yb 4 false] .ret) .skip)) (.seq (zr [yn 5 0] (.block 0 (.loop (.seq (zr [zm 11 5,zm 12 0,yl 13 12,yc 14 .lss 11 13] (.cond (.t 14) .skip (.exit 0))) (.seq (.block 1 (.seq (.dreg (.take 0 (zm 17 0) (.take 1 (zm 18 5) (.take 2 (yi 19 2 17 18) (.take 3 (yt 20 2 19) (.take 4 (zm 21 1) (.take 5 (zm 22 5) (.take 6 (yi 23 2 21 22) (.take 7 (yt 24 2 23) (.take 8 (zs 25 (.cms true [1,1] (.t 20) (.t 24))) .nil))))))))) 0 [0,1]) (.cond (.t 25) (zr [yb 4 false] .ret) .skip))) (.reg [zm 15 5,yp 16 15,zm 5 16])))))) (zr [yb 4 true] .ret))),[.tmp 4]⟩
def Xm:cW:=⟨5,zr [yb 2 false] (zr [zm 3 0,zs 4 (.call 204 [.t 3]),zm 2 4] .ret),[.tmp 2]⟩
def Yq:cW:=⟨9,zr [yb 2 false] (zr [zm 3 0,yk 4 .geq 3 0,zm 5 4,zh 6 5 true 0,gk 7 5 true .leq 6 1048576,yr 8 5 7 false,zm 2 8] .ret),[.tmp 2]⟩
def XK:cW:=⟨29,zr [zs 2 (.box 104 (.t 0)),yn 4 0] (.seq (zr [zf 6 10 2,zl 7 6,zm 8 1,yi 9 3 7 8,zf 10 2 9,zl 11 10,yl 12 11,zm 5 12] (zr [zm 13 5,yk 14 .gtr 13 0] (.cond (.t 14) (zr [zf 15 10 2,zl 16 15,zm 17 1,yi 18 3 16 17,zf 19 2 18,zl 20 19,zm 21 5,zs 22 (.ari .sub .i64 (.t 21) (.c (.int .i64 1))),yi 23 4 20 22,zf 24 3 23,zl 25 24,zm 4 25] .ret) .skip))) (zr [zf 26 0 2,zf 27 7 26,zl 28 27,zm 4 28] .ret)),[.tmp 4]⟩
def XD:cW:=⟨9,zr [yb 2 false] (zr [zm 3 0,zs 4 (.cmp .geq (.t 3) (.c (.int .u8 97))),zm 5 4,zh 6 5 true 0,zg 7 5 true (.cmp .leq (.t 6) (.c (.int .u8 122))),yr 8 5 7 false,zm 2 8] .ret),[.tmp 2]⟩
def X1:cW:=⟨9,zr [yb 2 false] (zr [zm 3 0,zs 4 (.cmp .geq (.t 3) (.c (.int .u8 48))),zm 5 4,zh 6 5 true 0,zg 7 5 true (.cmp .leq (.t 6) (.c (.int .u8 57))),yr 8 5 7 false,zm 2 8] .ret),[.tmp 2]⟩
def Yb:cW:=⟨42,zr [zs 4 (.mov (.c se)),yn 5 0,yn 6 0] (.scope (.seq (zr [zm 8 0,zs 9 (.call 144 [.t 8]),yo 10 9] (.cond (.t 10) (zr [zs 4 (.mov (.c se)),yn 5 0,yn 6 1] .ret) .skip)) (zr [zm 11 0,zm 4 11] (.seq (.label 0) (.seq (zr [zm 12 1,yl 13 12,yn 14 0] (.block 0 (.loop (zr [yc 15 .lss 14 13] (.seq (.cond (.t 15) .skip (.exit 0)) (.seq (.block 1 (zr [zm 16 14,zm 7 16] (.seq (.dreg (.take 0 (zm 17 4) (.take 1 (zm 18 1) (.take 2 (zm 19 7) (.take 3 (zs 20 (.sli 4 (.t 18) none (some (.t 19)))) (.take 4 (zm 21 1) (.take 5 (zm 22 7) (.take 6 (yi 23 4 21 22) (.take 7 (yt 24 4 23) (.eff 8 0 false (zs 25 (.call 205 [.t 17,.t 20,.t 24])) (.phase [7] (.take 9 (zm 6 25) .nil))))))))))) 0 [1]) (.seq (zr [zm 26 6,yk 27 .neq 26 0] (.cond (.t 27) (zr [zm 28 7,zm 5 28] (.exit 0)) .skip)) (.reg [zm 29 1,zm 30 7,yi 31 4 29 30,zf 32 1 31,zl 33 32,zm 4 33]))))) (.reg [yp 34 14,zm 14 34]))))))) (.seq (zr [zm 35 6,yk 36 .neq 35 0] (.cond (.t 36) (zr [zm 37 5,zm 38 6,zs 4 (.mov (.c se)),zm 5 37,zm 6 38] .ret) .skip)) (zr [zm 39 4,zm 40 1,yl 41 40,zm 4 39,zm 5 41,yn 6 0] .ret))))))),[.tmp 4,.tmp 5,.tmp 6]⟩
def YL:cW:=⟨18,zr [yb 2 false] (.seq (zr [zm 4 0,yz 5 4,yk 6 .neq 5 12] (.cond (.t 6) (zr [yb 2 false] .ret) .skip)) (zr [zm 7 0,zs 8 (.call 206 [.t 7]),zm 3 8] (.seq (.dreg (.take 0 (zm 9 3) (.take 1 (yk 10 .geq 9 0) (.take 2 (zm 11 10) (.take 3 (zh 12 11 true 0) (.take 4 (zg 13 11 true (.sls (.t 12) (some (.c (.int .i64 10))) none)) (.take 5 (zh 14 11 true 3) (.eff 6 0 false (zg 15 11 true (.call 207 [.t 14,.c (.int .i64 2)])) (.take 7 (gc 16 11 true .eql 13 15) (.take 8 (yr 17 11 16 false) (.take 9 (zm 2 17) .nil)))))))))) 0 []) .ret))),[.tmp 2]⟩
def Yh:cW:=⟨6,zr [yb 2 false] (zr [zm 3 0,zs 4 (.call 144 [.t 3]),yo 5 4,zm 2 5] .ret),[.tmp 2]⟩
def VV:cW:=⟨19,zr [yn 4 0] (.seq (zr [zm 6 0,yl 7 6,yn 8 0] (.block 0 (.loop (zr [yc 9 .lss 8 7] (.seq (.cond (.t 9) .skip (.exit 0)) (.seq (.block 1 (zr [zm 10 8,zm 5 10] (zr [zm 11 1,zm 12 0,zm 13 5,yi 14 1 12 13,zl 15 14,zs 16 (.cav (.t 11) [.t 15])] (.cond (.t 16) (zr [zm 17 5,zm 4 17] .ret) .skip)))) (.reg [yp 18 8,zm 8 18]))))))) (zr [yn 4 (-1)] .ret)),[.tmp 4]⟩
def Y7:cW:=⟨18,zr [yb 3 false] (.seq (.dreg (.take 0 (zm 4 0) (.take 1 (zs 5 (.nck (.t 4))) (.take 2 (zf 6 9 5) (.take 3 (zl 7 6) (.take 4 (yk 8 .eql 7 0) (.take 5 (zm 9 8) (.take 6 (zh 10 9 true 0) (.take 7 (zg 11 9 true (.nck (.t 10))) (.take 8 (gf 12 9 true 0 11) (.take 9 (gf 13 9 true 5 12) (.take 10 (gl 14 9 true 13) (.take 11 (gl 15 9 true 1) (.eff 12 0 false (zg 16 9 true (.call 191 [.t 14,.t 15])) (.phase [3,10,11] (.take 13 (yr 17 9 16 false) (.take 14 (zm 3 17) .nil)))))))))))))))) 0 [0,1]) .ret),[.tmp 3]⟩
def Xx:cW:=⟨9,zr [yb 4 false] (zr [zm 5 0,zm 6 1,zs 7 (.call 208 [.t 5,.t 6]),yk 8 .geq 7 0,zm 4 8] .ret),[.tmp 4]⟩
def XH:cW:=⟨31,zr [yb 2 false] (.seq (zr [zm 4 0,yz 5 4,yk 6 .lss 5 10] (.cond (.t 6) (zr [yb 2 false] .ret) .skip)) (.seq (zr [yn 3 0] (.block 0 (.loop (.seq (zr [zm 7 3,yk 8 .lss 7 10] (.cond (.t 8) .skip (.exit 0))) (.seq (.block 1 (zr [zm 11 3,yk 12 .lss 11 4,zm 13 12,zh 14 13 true 0,zh 15 13 true 3,zg 16 13 true (.idx (.t 14) (.t 15)),zg 17 13 true (.call 178 [.t 16]),go 18 13 true 17,yr 19 13 18 false,zm 20 19,zh 21 20 false 3,gk 22 20 false .geq 21 4,zh 23 20 false 22,zh 24 23 true 0,zh 25 23 true 3,zg 26 23 true (.idx (.t 24) (.t 25)),zg 27 23 true (.call 179 [.t 26]),go 28 23 true 27,zg 29 20 false (.pick (.t 23) (.t 28) (.c (.bl false))),yq 30 20 true 29] (.cond (.t 30) (zr [yb 2 false] .ret) .skip))) (.reg [zm 9 3,yp 10 9,zm 3 10])))))) (zr [yb 2 true] .ret))),[.tmp 2]⟩
def XY:cW:=⟨33,zr [yn 2 0] (.seq (zr [zm 6 0,zs 7 (.call 202 [.t 6]),yo 8 7] (.cond (.t 8) (zr [yn 2 (-1)] .ret) .skip)) (zr [yn 3 0] (.seq (zr [yn 4 0] (.block 0 (.loop (.seq (zr [zm 9 4,yk 10 .lss 9 10] (.cond (.t 10) .skip (.exit 0))) (.seq (.block 1 (zr [zm 13 0,zm 14 4,zs 15 (.idx (.t 13) (.t 14)),zs 16 (.cvi .i64 (.t 15)),zs 17 (.ari .sub .i64 (.t 16) (.c (.int .i64 48))),zm 5 17] (.seq (zr [zm 18 4,yk 19 .lss 18 4] (.cond (.t 19) (.reg [zm 20 0,zm 21 4,zs 22 (.idx (.t 20) (.t 21)),zs 23 (.cvi .i64 (.t 22)),zs 24 (.ari .sub .i64 (.t 23) (.c (.int .i64 96))),zm 5 24]) .skip)) (.reg [zm 25 3,zm 26 5,zm 27 4,yp 28 27,ya 29 .mul .i64 26 28,ya 30 .add .i64 25 29,zm 3 30])))) (.reg [zm 11 4,yp 12 11,zm 4 12])))))) (zr [zm 31 3,zs 32 (.ari .rem .i64 (.t 31) (.c (.int .i64 97))),zm 2 32] .ret)))),[.tmp 2]⟩
def Xn:cW:=⟨46,zr [yb 2 false] (.seq (zr [yn 3 0] (.block 0 (.loop (.seq (zr [zm 4 3,zm 5 0,yz 6 5,yc 7 .lss 4 6] (.cond (.t 7) .skip (.exit 0))) (.seq (.block 1 (zr [zm 10 0,zm 11 3,zs 12 (.idx (.t 10) (.t 11)),zs 13 (.cmp .lss (.t 12) (.c (.int .u8 97))),zm 14 13,zh 15 14 false 0,zh 16 14 false 3,zg 17 14 false (.idx (.t 15) (.t 16)),zg 18 14 false (.cmp .gtr (.t 17) (.c (.int .u8 122))),yq 19 14 true 18,zm 20 19,zh 21 20 true 0,zh 22 20 true 3,zg 23 20 true (.idx (.t 21) (.t 22)),zg 24 20 true (.cmp .lss (.t 23) (.c (.int .u8 48))),zh 25 20 true 24,zh 26 25 false 0,zh 27 25 false 3,zg 28 25 false (.idx (.t 26) (.t 27)),zg 29 25 false (.cmp .gtr (.t 28) (.c (.int .u8 57))),zg 30 20 true (.pick (.t 25) (.c (.bl true)) (.t 29)),yr 31 20 30 false,zm 32 31,zh 33 32 true 0,zh 34 32 true 3,zg 35 32 true (.idx (.t 33) (.t 34)),zg 36 32 true (.cmp .neq (.t 35) (.c (.int .u8 45))),yr 37 32 36 false] (.cond (.t 37) (zr [yb 2 false] .ret) .skip))) (.reg [zm 8 3,yp 9 8,zm 3 9])))))) (zr [zm 38 0,yz 39 38,yk 40 .geq 39 1,zm 41 40,zh 42 41 true 0,gz 43 41 true 42,gk 44 41 true .leq 43 16,yr 45 41 44 false,zm 2 45] .ret)),[.tmp 2]⟩
def YU:cW:=⟨36,zr [zs 5 (.box 180 (.t 2)),yn 6 0] (.seq (zr [yt 7 4 5,zs 8 (.call 212 [.t 7]),yo 9 8] (.cond (.t 9) (zr [yn 6 2] .ret) .skip)) (.seq (zr [zm 10 1,zs 11 (.call 213 [.t 10])] (.cond (.t 11) (zr [yn 6 9] .ret) .skip)) (.seq (zr [zm 12 1,zs 13 (.call 214 [.t 12]),yo 14 13,zm 15 14,gf 16 15 true 0 5,gl 17 15 true 16,zh 18 15 true 0,gc 19 15 true .neq 17 18,yr 20 15 19 false] (.cond (.t 20) (zr [yn 6 8] .ret) .skip)) (.seq (.seq (.dreg (.take 0 (zm 21 1) (.take 1 (yl 22 21) (.take 2 (yk 23 .gtr 22 0) (.take 3 (zm 24 23) (.take 4 (gf 25 24 true 3 5) (.take 5 (gl 26 24 true 25) (.take 6 (zh 27 24 true 1) (.take 7 (zh 28 24 true 1) (.take 8 (ge 29 24 true 28) (.take 9 (zg 30 24 true (.ari .sub .i64 (.t 29) (.c (.int .i64 1)))) (.take 10 (gi 31 24 true 4 27 30) (.take 11 (gf 32 24 true 3 31) (.take 12 (gl 33 24 true 32) (.take 13 (gc 34 24 true .lss 26 33) (.take 14 (yr 35 24 34 false) .nil))))))))))))))) 0 [1,5]) (.cond (.t 35) (zr [yn 6 6] .ret) .skip)) (zr [yn 6 0] .ret))))),[.tmp 6]⟩
def YE:cW:=⟨50,zr [yn 2 0] (.seq (zr [zm 6 0,yz 7 6,yk 8 .lss 7 10] (.cond (.t 8) (zr [yn 2 (-1)] .ret) .skip)) (zr [yn 3 0] (.seq (zr [yn 9 0] (.block 0 (.loop (zr [yk 10 .lss 9 10] (.seq (.cond (.t 10) .skip (.exit 0)) (.seq (.block 1 (zr [zm 11 9,zm 4 11] (zr [yn 5 0] (.seq (.block 2 (zr [zm 13 4,yk 14 .lss 13 4,zm 15 14,zh 16 15 true 0,zh 17 15 true 4,zg 18 15 true (.idx (.t 16) (.t 17)),zg 19 15 true (.call 184 [.t 18]),yr 20 15 19 false,zm 12 20] (.cond (.t 12) (.reg [zm 21 0,zm 22 4,zs 23 (.idx (.t 21) (.t 22)),zs 24 (.ari .sub .u8 (.t 23) (.c (.int .u8 97))),zs 25 (.cvi .i64 (.t 24)),yp 26 25,zm 5 26]) (zr [zm 28 4,yk 29 .geq 28 4,zm 30 29,zh 31 30 true 0,zh 32 30 true 4,zg 33 30 true (.idx (.t 31) (.t 32)),zg 34 30 true (.call 185 [.t 33]),yr 35 30 34 false,zm 27 35] (.cond (.t 27) (.reg [zm 36 0,zm 37 4,zs 38 (.idx (.t 36) (.t 37)),zs 39 (.ari .sub .u8 (.t 38) (.c (.int .u8 48))),zs 40 (.cvi .i64 (.t 39)),zm 5 40]) (zr [yn 2 (-1)] .ret)))))) (.reg [zm 41 3,zm 42 5,zm 43 4,yp 44 43,ya 45 .mul .i64 42 44,ya 46 .add .i64 41 45,zm 3 46]))))) (.reg [yp 47 9,zm 9 47]))))))) (zr [zm 48 3,zs 49 (.ari .rem .i64 (.t 48) (.c (.int .i64 97))),zm 2 49] .ret)))),[.tmp 2]⟩
def Ye:cW:=⟨15,zr [zs 4 (.mov (.c se))] (zr [zm 6 0,zs 7 (.call 60 [.t 6]),zm 5 7] (.seq (.block 0 (.loop (.seq (zr [zm 8 5,yz 9 8,zm 10 1,yc 11 .lss 9 10] (.cond (.t 11) .skip (.exit 0))) (.block 1 (.reg [zm 12 5,zs 13 (.ari .add .i64 (.c (.str ⟨#[48]⟩)) (.t 12)),zm 5 13]))))) (zr [zm 14 5,zm 4 14] .ret))),[.tmp 4]⟩
def Yd:cW:=⟨19,zr [yn 4 0] (.seq (zr [zm 6 0,yl 7 6,yn 8 0] (.block 0 (.loop (zr [yc 9 .lss 8 7] (.seq (.cond (.t 9) .skip (.exit 0)) (.seq (.block 1 (zr [zm 10 8,zm 5 10] (zr [zm 11 1,zm 12 0,zm 13 5,yi 14 1 12 13,zl 15 14,yc 16 .eql 11 15] (.cond (.t 16) (zr [zm 17 5,zm 4 17] .ret) .skip)))) (.reg [yp 18 8,zm 8 18]))))))) (zr [yn 4 (-1)] .ret)),[.tmp 4]⟩
def Yn:cW:=⟨37,zr [zs 1 (.box 180 (.t 0)),yb 2 false] (.seq (zr [zf 3 0 1,zl 4 3,zs 5 (.call 144 [.t 4]),yo 6 5,zm 7 6,gf 8 7 false 3 1,gl 9 7 false 8,gk 10 7 false .lss 9 0,yq 11 7 true 10,zm 12 11,gf 13 12 false 3 1,gl 14 12 false 13,gk 15 12 false .gtr 14 1048576,yq 16 12 true 15] (.cond (.t 16) (zr [yb 2 false] .ret) .skip)) (.seq (zr [zf 17 2 1,zl 18 17] (.block 0 (zr [yk 20 .eql 18 1,zm 19 20] (.cond (.t 19) (zr [zf 21 1 1,zl 22 21,zs 23 (.cmp .eql (.t 22) (.c se)),zm 2 23] .ret) (.seq (zr [yk 25 .eql 18 0,zm 24 25] (.cond (.t 24) .skip (.reg [yk 26 .eql 18 2,zm 24 26]))) (.cond (.t 24) (zr [zf 27 1 1,zl 28 27,zs 29 (.call 144 [.t 28]),zm 30 29,gf 31 30 true 1 1,gl 32 30 true 31,gf 33 30 true 0 1,gl 34 30 true 33,gc 35 30 true .neq 32 34,yr 36 30 35 false,zm 2 36] .ret) .skip)))))) (zr [yb 2 false] .ret))),[.tmp 2]⟩
def XR:cW:=⟨16,zr [yb 2 false] (zr [zm 3 0,yl 4 3,yk 5 .gtr 4 0,zm 6 5,zh 7 6 true 0,zh 8 6 true 0,ge 9 6 true 8,zg 10 6 true (.ari .sub .i64 (.t 9) (.c (.int .i64 1))),gi 11 6 true 4 7 10,gf 12 6 true 2 11,gl 13 6 true 12,gk 14 6 true .eql 13 2,yr 15 6 14 false,zm 2 15] .ret),[.tmp 2]⟩
def Yv:cW:=⟨16,zr [yb 2 false] (zr [zm 3 0,yl 4 3,yk 5 .gtr 4 0,zm 6 5,zh 7 6 true 0,zh 8 6 true 0,ge 9 6 true 8,zg 10 6 true (.ari .sub .i64 (.t 9) (.c (.int .i64 1))),gi 11 6 true 4 7 10,gf 12 6 true 2 11,gl 13 6 true 12,gk 14 6 true .eql 13 1,yr 15 6 14 false,zm 2 15] .ret),[.tmp 2]⟩
set_option maxHeartbeats 1000000
set_option maxRecDepth 100000
theorem Pe {K:AV→List cG→Prop}{x y:AV}{H:List cG}(h:K y H) (e:x=y):K x H:=e ▸ h
theorem cE {K:AV→List cG→Prop}{b c:Bool}{H:List cG}(h:K (.bl c) H) (e:b=c):K (.bl b) H:=e ▸ h
theorem fO {K:AV→List cG→Prop}{b c:Int}{H:List cG}(h:K (.i c) H) (e:b=c):K (.i b) H:=e ▸ h
def Fz (g:Int→Bool):dA:=spec (fun z:Int=>[.int .u8 z]) (fun _=>[]) (fun _=>True) (fun z=>.bl (g z)) fun _=>[]
theorem Bz (P:bI):bM P XD (Fz lL):=by
 intro args H K hc;obtain⟨z,rfl,rfl,_,hK⟩:=hc;refine⟨cL,?_⟩;dsimp only at hK⊢;cbv;repeat'((first|refine .mk (fun h=>?_) fun h=>?_|fail)<;>cbv)
 all_goals exact bZ.mk ⟨_,Gh.refl _,.inl (.v9 (cE hK (by(unfold lL;simp;omega))))⟩
theorem CN (P:bI):bM P X1 (Fz iU):=by
 intro args H K hc;obtain⟨z,rfl,rfl,_,hK⟩:=hc;refine⟨cL,?_⟩;dsimp only at hK⊢;cbv;repeat'((first|refine .mk (fun h=>?_) fun h=>?_|fail)<;>cbv)
 all_goals exact bZ.mk ⟨_,Gh.refl _,.inl (.v9 (cE hK (by(unfold iU;simp;omega))))⟩
theorem Dg (P:bI):bM P X2 (Fz lL):=by
 intro args H K hc;obtain⟨z,rfl,rfl,_,hK⟩:=hc;refine⟨cL,?_⟩;dsimp only at hK⊢;cbv;repeat'((first|refine .mk (fun h=>?_) fun h=>?_|fail)<;>cbv)
 all_goals exact bZ.mk ⟨_,Gh.refl _,.inl (.v9 (cE hK (by(unfold lL;simp;omega))))⟩
theorem EV (P:bI):bM P XU (Fz iU):=by
 intro args H K hc;obtain⟨z,rfl,rfl,_,hK⟩:=hc;refine⟨cL,?_⟩;dsimp only at hK⊢;cbv;repeat'((first|refine .mk (fun h=>?_) fun h=>?_|fail)<;>cbv)
 all_goals exact bZ.mk ⟨_,Gh.refl _,.inl (.v9 (cE hK (by(unfold iU;simp;omega))))⟩
def iL (p:bH→Prop) (g:bH→Bool):dA:=spec (fun s:bH=>[.str s]) (fun _=>[]) p (fun s=>.bl (g s)) fun _=>[]
theorem Jh {c:UInt8}{z:Int}(hz:z=c.toNat):Uk c=(lL z || iU z || decide (z=45)):=by subst hz;rfl
theorem fT {s:bH}(h:s.size < 1∨16 < s.size):bT s=false:=by
 unfold bT;rcases h with h|h
 ·rw[aG (by omega)];rfl
 ·rw[aG (p:=s.size≤16) (by omega)];simp
theorem pN {s:bH}(h:jQ s s.size) (h1:1≤s.size) (h2:s.size≤16):bT s=true:=by rw[LA h];simp[h1,h2]
theorem Kc (P:bI) (hl:bK P 184 (Fz lL)) (hd:bK P 185 (Fz iU)):bM P YQ (iL (fun _=>True) bT):=by
 intro args H K hc;obtain⟨s,rfl,rfl,_,hK⟩:=hc;refine⟨cL,?_⟩;dsimp only at hK⊢;cbv;repeat'((first|refine .mk (fun h=>?_) fun h=>?_|refine .k fun z hz=>?_|fail)<;>cbv)
 ·exact bZ.mk ⟨_,Gh.refl _,.inl (.v9 (cE hK (by(rw[fT bQ]))))⟩
 ·exact bZ.mk ⟨_,Gh.refl _,.inl (.v9 (cE hK (by(rw[fT bQ]))))⟩
 obtain⟨n,hn⟩:∃n,n=s.size:=⟨_,rfl⟩
 refine bS [] (fun p:{ k:Nat // k≤s.size∧jQ s k }=>[(14,.i (nI p.1))]) (fun _=>[]) (fun p=>eW n p.1) ⟨0,aI _,kV s⟩ ?_;rintro ⟨k,hk,hf⟩;dsimp only;cbv;repeat'((first|refine .mk (fun h=>?_) fun h=>?_|fail)<;>cbv)
 rotate_left
 ·obtain rfl:k=s.size:=bQ;exact bZ.mk ⟨_,Gh.refl _,.inl (.v9 (cE hK (by(rw[pN hf bQ bQ]))))⟩
 have hks:k < s.size:=bQ;refine dI hks fun z hz=>?_
 have hch:=Jh (c:=s[k]) hz;cbv
 (refine bX hl z trivial ?_;try dsimp only)
 cases h1:lL z with
 |true=>
  cbv;repeat'((first|refine .k fun z hz=>?_|fail)<;>cbv)
  obtain rfl:=hz;exact bN ⟨k+1,hks,fE hks hf (by rw[hch,h1];rfl)⟩ (bO (by omega))
 |false=>
  cbv;refine dI hks fun z2 hz2=>?_
  obtain rfl:z=z2:=hz.trans hz2.symm;cbv
  (refine bX hd z trivial ?_;try dsimp only)
  cases h2:iU z with
  |true=>
   cbv;repeat'((first|refine .k fun z hz=>?_|fail)<;>cbv)
   obtain rfl:=hz;exact bN ⟨k+1,hks,fE hks hf (by rw[hch,h1,h2];rfl)⟩ (bO (by omega))
  |false=>
   cbv;refine dI hks fun z2 hz2=>?_
   obtain rfl:z=z2:=hz.trans hz2.symm;cbv;repeat'((first|refine .mk (fun h=>?_) fun h=>?_|refine .k fun z hz=>?_|fail)<;>cbv)
   ·obtain rfl:=hz;exact bN ⟨k+1,hks,fE hks hf (by rw[hch,h1,h2];simp[h])⟩ (bO (by omega))
   ·exact bZ.mk ⟨_,Gh.refl _,.inl (.v9 (cE hK (by(rw[rT hks (by rw[hch,h1,h2];simp[h])]))))⟩
def ZN:cW:=⟨5,zr [zs 2 (.mov (.c se))] (zr [zm 3 0,zs 4 (.call 93 [.t 3]),zm 2 4] .ret),[.tmp 2]⟩
def ZV:cW:=⟨5,zr [zs 2 (.mov (.c se))] (zr [zm 3 0,zs 4 (.call 131 [.t 3,.c (.int .i64 10)]),zm 2 4] .ret),[.tmp 2]⟩
def Yk:cW:=⟨54,zr [zs 4 (.mov (.c se))] (.seq (zr [zm 10 1,yk 11 .eql 10 10] (.cond (.t 11) (.seq (zr [zm 12 0,zs 13 (.cmp .leq (.c zi) (.t 12)),zm 14 13,zh 15 14 true 0,gk 16 14 true .lss 15 100,yr 17 14 16 false] (.cond (.t 17) (zr [zm 18 0,zs 19 (.call 170 [.t 18]),zm 4 19] .ret) .skip)) (zr [zs 5 (.alloc 261 [.int .u8 0,.int .u8 0,.int .u8 0,.int .u8 0,.int .u8 0,.int .u8 0,.int .u8 0,.int .u8 0,.int .u8 0,.int .u8 0,.int .u8 0,.int .u8 0,.int .u8 0,.int .u8 0,.int .u8 0,.int .u8 0,.int .u8 0,.int .u8 0,.int .u8 0,.int .u8 0,.int .u8 0,.int .u8 0,.int .u8 0,.int .u8 0])] (zr [zm 20 0,zs 21 (.cvi .u64 (.t 20)),zm 6 21] (.seq (zr [zm 22 0,yk 23 .lss 22 0] (.cond (.t 23) (.reg [zm 24 6,zs 25 (.neg .u64 (.t 24)),zm 6 25]) .skip)) (zr [zm 26 6,zs 27 (.call 171 [.t 26]),zm 7 27] (zr [zm 28 7,zs 29 (.ari .add .i64 (.c (.int .i64 1)) (.t 28)),zs 30 (.bad),zm 31 6,zs 32 (.call 172 [.t 30,.t 31])] (.seq (zr [zm 33 0,yk 34 .lss 33 0] (.cond (.t 34) (zr [zs 35 (.aia 1 24 (.t 5) (.c zi)),zn (.st 1 (.t 35) (.c (.int .u8 45)))] (zr [zm 36 7,zs 37 (.ari .add .i64 (.c (.int .i64 1)) (.t 36)),zs 38 (.bad),zs 39 (.b2s (.t 38)),zm 4 39] .ret)) .skip)) (zr [zm 40 7,zs 41 (.ari .add .i64 (.c (.int .i64 1)) (.t 40)),zs 42 (.bad),zs 43 (.b2s (.t 42)),zm 4 43] .ret)))))))) .skip)) (zr [zm 45 0,zs 46 (.cvi .u64 (.t 45)),zm 47 1,zm 48 0,yk 49 .lss 48 0,zs 50 (.call 173 [.c sn,.t 46,.t 47,.t 49,.c (.bl false)]),zm 44 50,yx 51 44 0,yx 52 44 1,zm 8 51,zm 9 52] (zr [zm 53 9,zm 4 53] .ret))),[.tmp 4]⟩
def Y1:cW:=⟨15,zr [zs 2 (.mov (.c se))] (.seq (zr [zm 3 0,yk 4 .lss 3 10] (.cond (.t 4) (zr [zm 5 0,zm 6 0,yp 7 6,zs 8 (.sls (.c (.str ⟨#[48,49,50,51,52,53,54,55,56,57,97,98,99,100,101,102,103,104,105,106,107,108,109,110,111,112,113,114,115,116,117,118,119,120,121,122]⟩)) (some (.t 5)) (some (.t 7))),zm 2 8] .ret) .skip)) (zr [zm 9 0,zs 10 (.ari .mul .i64 (.t 9) (.c (.int .i64 2))),zm 11 0,zs 12 (.ari .mul .i64 (.t 11) (.c (.int .i64 2))),zs 13 (.ari .add .i64 (.t 12) (.c (.int .i64 2))),zs 14 (.sls (.c (.str ⟨#[48,48,48,49,48,50,48,51,48,52,48,53,48,54,48,55,48,56,48,57,49,48,49,49,49,50,49,51,49,52,49,53,49,54,49,55,49,56,49,57,50,48,50,49,50,50,50,51,50,52,50,53,50,54,50,55,50,56,50,57,51,48,51,49,51,50,51,51,51,52,51,53,51,54,51,55,51,56,51,57,52,48,52,49,52,50,52,51,52,52,52,53,52,54,52,55,52,56,52,57,53,48,53,49,53,50,53,51,53,52,53,53,53,54,53,55,53,56,53,57,54,48,54,49,54,50,54,51,54,52,54,53,54,54,54,55,54,56,54,57,55,48,55,49,55,50,55,51,55,52,55,53,55,54,55,55,55,56,55,57,56,48,56,49,56,50,56,51,56,52,56,53,56,54,56,55,56,56,56,57,57,48,57,49,57,50,57,51,57,52,57,53,57,54,57,55,57,56,57,57]⟩)) (some (.t 10)) (some (.t 13))),zm 2 14] .ret)),[.tmp 2]⟩
def Ad (n:Nat):bH:=if n < 10 then ⟨#[UInt8.ofNat (48+n)]⟩ else ⟨#[UInt8.ofNat (48+n / 10),UInt8.ofNat (48+n % 10)]⟩
def Dr (n:Nat):bH:=⟨#[UInt8.ofNat (48+n / 10),UInt8.ofNat (48+n % 10)]⟩
def pE:dA:=spec (fun n:Nat=>[.i n]) (fun _=>[]) (fun n=>n < 100) (fun n=>.str (Ad n)) fun _=>[]
def TB:dA:=spec (fun n:Nat=>[.i n,.i 10]) (fun _=>[]) (fun n=>n < 100) (fun n=>.str (Ad n)) fun _=>[]
theorem Sf {K:AV→List cG→Prop}{b c:bH}{H:List cG}(h:K (.str c) H) (e:b=c):K (.str b) H:=e ▸ h
theorem HW (P:bI):bM P Y1 pE:=by
 intro args H K hc;obtain⟨n,rfl,rfl,hp,hK⟩:=hc;refine⟨cL,?_⟩;dsimp only at hp hK⊢;cbv;repeat'((first|refine .mk (fun h=>?_) fun h=>?_|refine .k fun z hz=>?_|fail)<;>cbv)
 ·refine⟨⟨by exact bQ,by exact bQ,by subst hz;show Int.ofNat n+1≤36;omega⟩,fun u hu=>?_⟩;cbv;exact bZ.mk ⟨_,Gh.refl _,.inl (.v9 (Sf hK (by subst hu hz;clear hK;revert hp h;revert n;decide +kernel)))⟩
 ·refine⟨⟨by exact bQ,by exact bQ,by subst_vars;show Int.ofNat n * 2+2≤200;((try simp only[vn]at *)<;>omega)⟩,fun u hu=>?_⟩;cbv;exact bZ.mk ⟨_,Gh.refl _,.inl (.v9 (Sf hK (by subst_vars;clear hK;revert hp h;revert n;decide +kernel)))⟩
theorem Mh (P:bI) (hsm:bK P 170 pE):bM P Yk TB:=by
 intro args H K hc;obtain⟨n,rfl,rfl,hp,hK⟩:=hc;refine⟨cL,?_⟩;dsimp only at hp hK⊢;cbv;repeat'((first|refine .y fun h=>?_|fail)<;>cbv)
 ·(refine bX hsm n hp ?_;try dsimp only)
  obtain⟨s,hs⟩:∃x,x=(Ad n):=⟨_,rfl⟩
  rw[←hs]at hK⊢;cbv;exact bZ.mk ⟨_,Gh.refl _,.inl (.v9 hK)⟩
theorem IA (P:bI) (hf:bK P 131 TB):bM P ZV pE:=by
 intro args H K hc;obtain⟨n,rfl,rfl,hp,hK⟩:=hc;refine⟨cL,?_⟩;dsimp only at hp hK⊢;cbv
 (refine bX hf n hp ?_;try dsimp only)
 obtain⟨s,hs⟩:∃x,x=(Ad n):=⟨_,rfl⟩
 rw[←hs]at hK⊢;cbv;exact bZ.mk ⟨_,Gh.refl _,.inl (.v9 hK)⟩
theorem Kr (P:bI) (hf:bK P 93 pE):bM P ZN pE:=by
 intro args H K hc;obtain⟨n,rfl,rfl,hp,hK⟩:=hc;refine⟨cL,?_⟩;dsimp only at hp hK⊢;cbv
 (refine bX hf n hp ?_;try dsimp only)
 obtain⟨s,hs⟩:∃x,x=(Ad n):=⟨_,rfl⟩
 rw[←hs]at hK⊢;cbv;exact bZ.mk ⟨_,Gh.refl _,.inl (.v9 hK)⟩
def UF:dA:=spec (fun n:Nat=>[.i n,.i 2]) (fun _=>[]) (fun n=>n < 100) (fun n=>.str (Dr n)) fun _=>[]
theorem IB:∀n,n < 100→(Ad n).size < 2∧(⟨#[48]⟩:bH)++Ad n=Dr n∧(Ad n).size=1∨2≤(Ad n).size∧Ad n=Dr n:=by decide +kernel
theorem LR (n:Nat):(Dr n).size=2:=rfl
theorem Fo (P:bI) (hf:bK P 60 pE):bM P Ye UF:=by
 intro args H K hc;obtain⟨n,rfl,rfl,hp,hK⟩:=hc;refine⟨cL,?_⟩;dsimp only at hp hK⊢;cbv
 (refine bX hf n hp ?_;try dsimp only)
 have hfa:=IB n hp;have hds:=LR n;obtain⟨s,hs⟩:∃x,x=(Ad n):=⟨_,rfl⟩
 obtain⟨t,ht⟩:∃x,x=(Dr n):=⟨_,rfl⟩
 rw[←hs]at hfa⊢;rw[←ht]at hfa hds hK;cbv;refine bS [] (fun p:{ p:bH×Nat // p.2≤1∧(p.1=s∧p.2=0∨p.1=t) }=>[(5,.str p.1.1)]) (fun _=>[]) (fun p=>eW 2 p.1.2) ⟨(s,0),aI _,.inl ⟨rfl,rfl⟩⟩ ?_;rintro ⟨⟨u,q⟩,hq,hu⟩;dsimp only at hq hu⊢;cbv;repeat'((first|refine .mk (fun h=>?_) fun h=>?_|refine .k fun z hz=>?_|fail)<;>cbv)
 ·rcases hfa with ⟨h1,h2,h3⟩|⟨h1,h2⟩
  ·rcases hu with ⟨rfl,rfl⟩|rfl
   ·refine KY.mk' (by(show 1+u.size≤maxLen);unfold maxLen;omega) fun v hv hvl=>?_
    cbv;obtain rfl:v=t:=by rw[hv];exact h2
    exact bN ⟨(v,1),aN _,.inr rfl⟩ (bO (by decide))
   ·exfalso;((try simp only[vn]at *)<;>omega)
  ·exfalso;subst h2;rcases hu with ⟨rfl,_⟩|rfl<;>((try simp only[vn]at *)<;>omega)
 ·obtain rfl:u=t:=by
   rcases hfa with ⟨h1,h2,h3⟩|⟨h1,h2⟩
   ·rcases hu with ⟨rfl,_⟩|rfl
    ·exfalso;((try simp only[vn]at *)<;>omega)
    ·rfl
   ·rcases hu with ⟨rfl,_⟩|rfl
    ·exact h2
    ·rfl
  exact bZ.mk ⟨_,Gh.refl _,.inl (.v9 hK)⟩
def vM (c:UInt8) (i:Nat):Option Int:=if i < 4 then if lL c.toNat then some ((c.toNat:Int) - 96) else none else if iU c.toNat then some ((c.toNat:Int) - 48) else none
def kG (s:bH):Nat→Option Int
 |0=>some 0
 |k+1=>match kG s k,s.data[k]? with
  |some a,some c=>(vM c k).map fun v=>a+v * ((k:Int)+1)
  |_,_=>none
def mK (s:bH):Int:=match kG s 10 with
 |some a=>a.tmod 97
 |none=>-1
theorem Sm {c:UInt8}{i:Nat}{v:Int}(h:vM c i=some v):0≤v∧v≤26:=by
 unfold vM lL iU at h
 split at h
 ·split at h
  ·rename_i h1;simp at h1;cases h;omega
  ·cases h
 ·split at h
  ·rename_i h1;simp at h1;cases h;omega
  ·cases h
theorem tN {s:bH}:∀{k:Nat}{a:Int},kG s k=some a→k≤10→0≤a∧a≤260 * k
 |0,a,h,_=>by cases h;omega
 |k+1,a,h,hk=>by
  unfold kG at h
  split at h
  ·rename_i b c hb hc;obtain⟨h1,h2⟩:=tN hb (by omega);simp only[Option.map_eq_some_iff]at h;obtain⟨v,hv,rfl⟩:=h;obtain⟨h3,h4⟩:=Sm hv;have h5:0≤v * ((k:Int)+1):=Int.mul_nonneg h3 (by omega);have h6:v * ((k:Int)+1)≤26 * 10:=Int.mul_le_mul h4 (by omega) (by omega) (by omega);constructor<;>push_cast<;>omega
  ·cases h
theorem rQ {s:bH}{k:Nat}(h:kG s k=none):∀m,kG s (k+m)=none
 |0=>h
 |m+1=>by
  show kG s (k+m+1)=none;unfold kG;rw[rQ h m]
theorem zK {s:bH}{k:Nat}(hk:k < s.size) {a:Int}(ha:kG s k=some a):kG s (k+1)=(vM s[k] k).map fun v=>a+v * ((k:Int)+1):=by
 conv=>lhs;unfold kG
 rw[ha];have:s.data[k]?=some s[k]:=aK hk;rw[this]
theorem FG {s:bH}{k:Nat}(hk:k < 10) (hs:k < s.size) {a:Int}(ha:kG s k=some a) (hv:vM s[k] k=none):mK s=-1:=by
 have h1:kG s (k+1)=none:=by rw[zK hs ha,hv];rfl
 have h2:=rQ h1 (9 - k);rw[show k+1+(9 - k)=10 by omega]at h2;unfold mK;rw[h2]
theorem sY {s:bH}:∀{k:Nat},s.size < k→kG s k=none
 |0,h=>by omega
 |k+1,h=>by
  unfold kG;have:s.data[k]?=none:=Array.getElem?_eq_none (by show s.size≤k;omega);rw[this]
  split
  ·rename_i h1;cases h1
  ·rfl
theorem Iw {s:bH}(h:s.size < 10):mK s=-1:=by
 unfold mK;rw[sY h]
theorem Er {s:bH}{a:Int}(h:kG s 10=some a):mK s=a.tmod 97:=by unfold mK;rw[h]
theorem I3 (s:bH):-1≤mK s∧mK s < 97:=by
 unfold mK
 split
 ·rename_i a ha;have:=(tN ha (aN _)).1;have h1:=Int.tmod_nonneg 97 this;have h2:=Int.tmod_lt_of_pos a (show (0:Int) < 97 by decide);omega
 ·omega
def LS:dA:=spec (fun s:bH=>[.str s]) (fun _=>[]) (fun _=>True) (fun s=>.i (mK s)) fun _=>[]
theorem Dk {a b:Int}(h:0≤a∧a≤26) (h2:0≤b∧b≤10):0≤a * b∧a * b≤260:=⟨Int.mul_nonneg h.1 h2.1,Int.mul_le_mul h.2 h2.2 h2.1 (by decide)⟩
theorem M4 (P:bI) (hl:bK P 184 (Fz lL)) (hd:bK P 185 (Fz iU)):bM P YE LS:=by
 intro args H K hc;obtain⟨s,rfl,rfl,hp,hK⟩:=hc;refine⟨cL,?_⟩;dsimp only at hp hK⊢;obtain⟨u,hu⟩:∃x,x=(mK s):=⟨_,rfl⟩
 rw[←hu]at hK;cbv;repeat'((first|refine .mk (fun h=>?_) fun h=>?_|refine .k fun z hz=>?_|fail)<;>cbv)
 ·exact bZ.mk ⟨_,Gh.refl _,.inl (.v9 (fO hK (by(rw[hu,Iw bQ]))))⟩
 refine bS [] (fun p:{ p:Nat×Int // p.1≤10∧kG s p.1=some p.2 }=>[(9,.i (nI p.1.1)),(3,.i p.1.2)]) (fun _=>[]) (fun p=>eW 10 p.1.1) ⟨(0,0),aI _,rfl⟩ ?_;rintro ⟨⟨k,a⟩,hk,ha⟩;dsimp only at hk ha⊢;have hbd:=tN ha hk;have hsz:10≤s.size:=bQ;clear hz;rcases aL k 10 with hk10|hk10
 rotate_left
 ·obtain rfl:k=10:=by omega
  have hs:=Er ha;have hs0:=Int.tmod_nonneg 97 hbd.1;cbv;repeat'((first|refine .n fun h=>?_|refine .q fun z hz hz0 hz1=>?_|fail)<;>cbv)
  exact bZ.mk ⟨_,Gh.refl _,.inl (.v9 (fO hK (by(rw[hu,hs];assumption))))⟩
 have hks:k < s.size:=by omega
 have hat:=zK hks ha;rcases aL k 4 with hk4|hk4
 ·cbv;repeat'((first|refine .y fun h=>?_|fail)<;>cbv)
  refine dI hks fun z hz=>?_
  cbv
  (refine bX hl z trivial ?_;try dsimp only)
  cases h1:lL z with
  |true=>
   have hzr:97≤z∧z≤122:=by unfold lL at h1;simpa using h1
   have hv:vM s[k] k=some (z - 96):=by rw[hz]at h1⊢;unfold vM;rw[aF hk4,aF (show lL (s[k].toNat:Int)=true from h1)];rfl
   rw[hv]at hat
   cbv;refine dI hks fun z2 hz2=>?_
   obtain rfl:z=z2:=hz.trans hz2.symm;obtain⟨c,hc⟩:∃c,c=z:=⟨_,rfl⟩
   have e:=IntWalk.u8_in (z - 97) (by omega);cbv;repeat'((first|refine .k fun z hz=>?_|refine .o ?_|fail)<;>cbv)
   rename_i w hw v hvv;obtain rfl:v=c - 96:=by omega
   obtain rfl:z=(k:Int)+1:=bQ;have hm2:=Dk (a:=c - 96) (b:=(k:Int)+1) (by omega) (by omega);refine H7.k (fun m hm=>?_) (by omega);rw[←hm]at hm2;cbv;repeat'((first|refine .k fun z hz=>?_|fail)<;>cbv)
   rename_i z4 hz4;obtain rfl:z=nI (k+1):=bQ;exact bN ⟨(k+1,z4),by dsimp only;omega,by rw[hat,hz4,hm,hc];rfl⟩ (bO (by omega))
  |false=>
   cbv;repeat'((first|refine .n fun h=>?_|fail)<;>cbv)
   have hv:vM s[k] k=none:=by rw[hz]at h1;unfold vM;rw[aF hk4,aE (by rw[show lL ((s[k].toNat:Nat):Int)=false from h1];decide)]
   exact bZ.mk ⟨_,Gh.refl _,.inl (.v9 (fO hK (by(rw[hu,FG hk10 hks ha hv]))))⟩
 ·cbv;repeat'((first|refine .n fun h=>?_|refine .y fun h=>?_|fail)<;>cbv)
  refine dI hks fun z hz=>?_
  cbv
  (refine bX hd z trivial ?_;try dsimp only)
  cases h1:iU z with
  |true=>
   have hzr:48≤z∧z≤57:=by unfold iU at h1;simpa using h1
   have hv:vM s[k] k=some (z - 48):=by rw[hz]at h1⊢;unfold vM;rw[aE (by omega),aF (show iU (s[k].toNat:Int)=true from h1)];rfl
   rw[hv]at hat
   cbv;refine dI hks fun z2 hz2=>?_
   obtain rfl:z=z2:=hz.trans hz2.symm;obtain⟨c,hc⟩:∃c,c=z:=⟨_,rfl⟩
   have e:=IntWalk.u8_in (z - 48) (by omega);cbv;repeat'((first|refine .k fun z hz=>?_|refine .o ?_|fail)<;>cbv)
   rename_i w hw;obtain rfl:w=c - 48:=by omega
   obtain rfl:z=(k:Int)+1:=bQ;have hm2:=Dk (a:=c - 48) (b:=(k:Int)+1) (by omega) (by omega);refine H7.k (fun m hm=>?_) (by omega);rw[←hm]at hm2;cbv;repeat'((first|refine .k fun z hz=>?_|fail)<;>cbv)
   rename_i z4 hz4;obtain rfl:z=nI (k+1):=bQ;exact bN ⟨(k+1,z4),by dsimp only;omega,by rw[hat,hz4,hm,hc];rfl⟩ (bO (by omega))
  |false=>
   cbv;have hv:vM s[k] k=none:=by rw[hz]at h1;unfold vM;rw[aE (by omega),aE (by rw[show iU ((s[k].toNat:Nat):Int)=false from h1];decide)]
   exact bZ.mk ⟨_,Gh.refl _,.inl (.v9 (fO hK (by(rw[hu,FG hk10 hks ha hv]))))⟩
def lC (s:bH):Bool:=decide (s.size=12) && (decide (0≤mK s) && decide (s.extract 10 12=Dr (mK s).toNat))
theorem Ix (P:bI) (hs:bK P 206 LS) (hd:bK P 207 UF):bM P YL (iL (fun _=>True) lC):=by
 intro args H K hc;obtain⟨s,rfl,rfl,hp,hK⟩:=hc;refine⟨cL,?_⟩;dsimp only at hp hK⊢;have hb:=I3 s;unfold lC at hK;obtain⟨q,hq⟩:∃x,x=(mK s):=⟨_,rfl⟩
 rw[←hq]at hK hb;cbv;repeat'((first|refine .mk (fun h=>?_) fun h=>?_|refine .k fun z hz=>?_|fail)<;>cbv)
 rotate_left
 ·exact bZ.mk ⟨_,Gh.refl _,.inl (.v9 (cE hK (by(rw[aG bQ];rfl))))⟩
 ·have hsz:s.size=12:=bQ
  (refine bX hs s trivial ?_;try dsimp only)
  rw[←hq];cbv;repeat'((first|refine .mk (fun h=>?_) fun h=>?_|refine .u fun u hu hul=>?_|fail)<;>cbv)
  ·obtain⟨n,rfl⟩:=Int.eq_ofNat_of_zero_le h;cbv;have hv2:u=s.extract 10 12:=by rw[hu,←hsz];rfl
   (refine bX hd n (by have:(n:Int) < 97:=hb.2;omega) ?_;try dsimp only)
   have e1:((n:Int)).toNat=n:=rfl;rw[e1]at hK;obtain⟨t,ht⟩:∃x,x=(Dr n):=⟨_,rfl⟩
   rw[←ht]at hK⊢;cbv;repeat'((first|refine .mk (fun h=>?_) fun h=>?_|fail)<;>cbv)
   ·exact bZ.mk ⟨_,Gh.refl _,.inl (.v9 (cE hK (by(rw[aH hsz,aH (by omega),aH (by rw[←hv2];exact h)];rfl))))⟩
   ·exact bZ.mk ⟨_,Gh.refl _,.inl (.v9 (cE hK (by(rw[aH hsz,aH (by omega),aG (by rw[←hv2];exact h)];rfl))))⟩
  ·exact bZ.mk ⟨_,Gh.refl _,.inl (.v9 (cE hK (by(rw[aH hsz,aG (by omega)];rfl))))⟩
theorem Iy (P:bI) (hl:bK P 178 (Fz lL)) (hd:bK P 179 (Fz iU)):bM P YX (iL (fun s=>s.size≤maxLen) bT):=by
 intro args H K hc;obtain⟨s,rfl,rfl,hp,hK⟩:=hc;refine⟨cL,?_⟩;dsimp only at hp hK⊢;unfold maxLen at hp;obtain⟨n,hn⟩:∃n,n=s.size:=⟨_,rfl⟩
 cbv;refine bS [] (fun p:{ k:Nat // k≤s.size∧jQ s k }=>[(3,.i (nI p.1))]) (fun _=>[]) (fun p=>eW n p.1) ⟨0,aI _,kV s⟩ ?_;rintro ⟨k,hk,hf⟩;dsimp only at hk hf⊢;rcases aL k s.size with hks|hks
 rotate_left
 ·obtain rfl:n=k:=by omega
  rw[hn]at hf;cbv;repeat'((first|refine .n fun h=>?_|refine .mk (fun h=>?_) fun h=>?_|refine .k fun z hz=>?_|fail)<;>cbv)
  ·exact bZ.mk ⟨_,Gh.refl _,.inl (.v9 (cE hK (by(rw[pN hf bQ bQ]))))⟩
  ·exact bZ.mk ⟨_,Gh.refl _,.inl (.v9 (cE hK (by(rw[fT bQ]))))⟩
  ·exact bZ.mk ⟨_,Gh.refl _,.inl (.v9 (cE hK (by(rw[fT bQ]))))⟩
 cbv;repeat'((first|refine .y fun h=>?_|refine .k fun z hz=>?_|fail)<;>cbv)
 refine dI hks fun z hz=>?_
 have hch:=Jh (c:=s[k]) hz;cbv
 (refine bX hl z trivial ?_;try dsimp only)
 cases h1:lL z with
 |true=>
  cbv;repeat'((first|refine .k fun z hz=>?_|fail)<;>cbv)
  obtain rfl:=hz;exact bN ⟨k+1,hks,fE hks hf (by rw[hch,h1];rfl)⟩ (bO (by omega))
 |false=>
  cbv;refine dI hks fun z2 hz2=>?_
  obtain rfl:z=z2:=hz.trans hz2.symm;cbv
  (refine bX hd z trivial ?_;try dsimp only)
  cases h2:iU z with
  |true=>
   cbv;repeat'((first|refine .k fun z hz=>?_|fail)<;>cbv)
   obtain rfl:=hz;exact bN ⟨k+1,hks,fE hks hf (by rw[hch,h1,h2];rfl)⟩ (bO (by omega))
  |false=>
   cbv;refine dI hks fun z2 hz2=>?_
   obtain rfl:z=z2:=hz.trans hz2.symm;cbv;repeat'((first|refine .mk (fun h=>?_) fun h=>?_|refine .k fun z hz=>?_|fail)<;>cbv)
   ·obtain rfl:=hz;exact bN ⟨k+1,hks,fE hks hf (by rw[hch,h1,h2];simp[h])⟩ (bO (by omega))
   ·exact bZ.mk ⟨_,Gh.refl _,.inl (.v9 (cE hK (by(rw[rT hks (by rw[hch,h1,h2];simp[h])]))))⟩
def mO (s:bH):Bool:=(kG s 10).isSome
theorem HU (P:bI) (hl:bK P 178 (Fz lL)) (hd:bK P 179 (Fz iU)):bM P XH (iL (fun _=>True) mO):=by
 intro args H K hc;obtain⟨s,rfl,rfl,hp,hK⟩:=hc;refine⟨cL,?_⟩;dsimp only at hp hK⊢;cbv;repeat'((first|refine .mk (fun h=>?_) fun h=>?_|refine .k fun z hz=>?_|fail)<;>cbv)
 ·exact bZ.mk ⟨_,Gh.refl _,.inl (.v9 (cE hK (by(unfold mO;rw[sY bQ];rfl))))⟩
 refine bS [] (fun p:{ k:Nat // k≤10∧(kG s k).isSome=true }=>[(3,.i (nI p.1))]) (fun _=>[]) (fun p=>eW 10 p.1) ⟨0,aI _,rfl⟩ ?_;rintro ⟨k,hk,hf⟩;dsimp only at hk hf⊢;obtain⟨a,ha⟩:=Option.isSome_iff_exists.1 hf;have hsz:10≤s.size:=bQ;clear hz;rcases aL k 10 with hk10|hk10
 rotate_left
 ·obtain rfl:k=10:=by omega
  cbv;repeat'((first|refine .n fun h=>?_|fail)<;>cbv)
  exact bZ.mk ⟨_,Gh.refl _,.inl (.v9 (cE hK (by(exact hf.symm))))⟩
 have hks:k < s.size:=by omega
 have hat:=zK hks ha;have hno:vM s[k] k=none→mO s=false:=fun hv=>by
  have h1:kG s (k+1)=none:=by rw[hat,hv];rfl
  have h2:=rQ h1 (9 - k);rw[show k+1+(9 - k)=10 by omega]at h2;unfold mO;rw[h2];rfl
 rcases aL k 4 with hk4|hk4
 ·cbv;repeat'((first|refine .y fun h=>?_|fail)<;>cbv)
  refine dI hks fun z hz=>?_
  cbv
  (refine bX hl z trivial ?_;try dsimp only)
  cases h1:lL z with
  |true=>
   have hv:vM s[k] k=some (z - 96):=by rw[hz]at h1⊢;unfold vM;rw[aF hk4,aF (show lL (s[k].toNat:Int)=true from h1)];rfl
   rw[hv]at hat
   cbv;repeat'((first|refine .n fun h=>?_|refine .k fun z hz=>?_|fail)<;>cbv)
   obtain rfl:=hz;exact bN ⟨k+1,hk10,by rw[hat];rfl⟩ (bO (by omega))
  |false=>
   cbv;exact bZ.mk ⟨_,Gh.refl _,.inl (.v9 (cE hK (by(rw[hno (by rw[hz]at h1;unfold vM;rw[aF hk4,aE (by rw[show lL ((s[k].toNat:Nat):Int)=false from h1];decide)])]))))⟩
 ·cbv;repeat'((first|refine .n fun h=>?_|refine .y fun h=>?_|fail)<;>cbv)
  refine dI hks fun z hz=>?_
  cbv
  (refine bX hd z trivial ?_;try dsimp only)
  cases h1:iU z with
  |true=>
   have hv:vM s[k] k=some (z - 48):=by rw[hz]at h1⊢;unfold vM;rw[aE (by omega),aF (show iU (s[k].toNat:Int)=true from h1)];rfl
   rw[hv]at hat
   cbv;repeat'((first|refine .k fun z hz=>?_|fail)<;>cbv)
   obtain rfl:=hz;exact bN ⟨k+1,hk10,by rw[hat];rfl⟩ (bO (by omega))
  |false=>
   cbv;exact bZ.mk ⟨_,Gh.refl _,.inl (.v9 (cE hK (by(rw[hno (by rw[hz]at h1;unfold vM;rw[aE (by omega),aE (by rw[show iU ((s[k].toNat:Nat):Int)=false from h1];decide)])]))))⟩
theorem Ln (P:bI) (hh:bK P 202 (iL (fun _=>True) mO)):bM P XY LS:=by
 intro args H K hc;obtain⟨s,rfl,rfl,hp,hK⟩:=hc;refine⟨cL,?_⟩;dsimp only at hp hK⊢;obtain⟨u,hu⟩:∃x,x=(mK s):=⟨_,rfl⟩
 rw[←hu]at hK;obtain⟨b,hb⟩:∃x,x=(mO s):=⟨_,rfl⟩
 cbv
 (refine bX hh s trivial ?_;try dsimp only)
 rw[←hb];cases b with
 |false=>
  cbv;have hn:kG s 10=none:=by unfold mO at hb;cases h:kG s 10 with|none=>rfl|some a=>rw[h]at hb;cases hb
  exact bZ.mk ⟨_,Gh.refl _,.inl (.v9 (fO hK (by(rw[hu];unfold mK;rw[hn]))))⟩
 |true=>
  obtain⟨A,hA⟩:=Option.isSome_iff_exists.1 (show (kG s 10).isSome=true from hb.symm);have hsz:10≤s.size:=by
   rcases aL s.size 10 with h|h
   ·rw[sY h]at hA;cases hA
   ·exact h
  cbv;refine bS [] (fun p:{ p:Nat×Int // p.1≤10∧kG s p.1=some p.2 }=>[(4,.i (nI p.1.1)),(3,.i p.1.2)]) (fun _=>[]) (fun p=>eW 10 p.1.1) ⟨(0,0),aI _,rfl⟩ ?_;rintro ⟨⟨k,a⟩,hk,ha⟩;dsimp only at hk ha⊢;have hbd:=tN ha hk;rcases aL k 10 with hk10|hk10
  rotate_left
  ·obtain rfl:k=10:=by omega
   have hs:=Er ha;have hs0:=Int.tmod_nonneg 97 hbd.1;cbv;repeat'((first|refine .n fun h=>?_|refine .q fun z hz hz0 hz1=>?_|fail)<;>cbv)
   exact bZ.mk ⟨_,Gh.refl _,.inl (.v9 (fO hK (by(rw[hu,hs];assumption))))⟩
  have hks:k < s.size:=by omega
  have hat:=zK hks ha;have hsome:∃v,vM s[k] k=some v:=by
   cases h:vM s[k] k with
   |some v=>exact⟨v,rfl⟩
   |none=>
    exfalso;have h1:kG s (k+1)=none:=by rw[hat,h];rfl
    have h2:=rQ h1 (9 - k);rw[show k+1+(9 - k)=10 by omega,hA]at h2;cases h2
  obtain⟨v,hv⟩:=hsome;have hvb:=Sm hv;rw[hv]at hat
  rcases aL k 4 with hk4|hk4
  ·have hv2:v=(s[k].toNat:Int) - 96:=by
    unfold vM at hv;rw[aF hk4]at hv;split at hv;(· cases hv;rfl);cases hv
   cbv;repeat'((first|refine .y fun h=>?_|fail)<;>cbv)
   refine dI hks fun z hz=>?_
   have hz':z=(s[k].toNat:Int):=hz;obtain⟨c,hc⟩:∃c,c=z:=⟨_,rfl⟩
   cbv;repeat'((first|refine .y fun h=>?_|refine .k fun z hz=>?_|refine .o ?_|fail)<;>cbv)
   refine dI hks fun z hz=>?_
   obtain rfl:c=z:=by rw[hc,hz',hz];rfl
   cbv;repeat'((first|refine .k fun z hz=>?_|refine .o ?_|fail)<;>cbv)
   rename_i w hw;obtain rfl:w=v:=by omega
   obtain rfl:z=(k:Int)+1:=bQ;have hm2:=Dk (a:=w) (b:=(k:Int)+1) hvb (by omega);refine H7.k (fun m hm=>?_) (by omega);rw[←hm]at hm2;cbv;repeat'((first|refine .k fun z hz=>?_|fail)<;>cbv)
   rename_i z4 hz4;obtain rfl:z=nI (k+1):=bQ;exact bN ⟨(k+1,z4),by dsimp only;omega,by rw[hat,hz4,hm];rfl⟩ (bO (by omega))
  ·have hv2:v=(s[k].toNat:Int) - 48:=by
    unfold vM at hv;rw[aE (by omega)]at hv;split at hv;(· cases hv;rfl);cases hv
   cbv;repeat'((first|refine .y fun h=>?_|fail)<;>cbv)
   refine dI hks fun z hz=>?_
   have hz':z=(s[k].toNat:Int):=hz;obtain⟨c,hc⟩:∃c,c=z:=⟨_,rfl⟩
   cbv;repeat'((first|refine .n fun h=>?_|refine .k fun z hz=>?_|refine .o ?_|fail)<;>cbv)
   rename_i w hw;obtain rfl:w=v:=by omega
   obtain rfl:z=(k:Int)+1:=bQ;have hm2:=Dk (a:=w) (b:=(k:Int)+1) hvb (by omega);refine H7.k (fun m hm=>?_) (by omega);rw[←hm]at hm2;cbv;repeat'((first|refine .k fun z hz=>?_|fail)<;>cbv)
   rename_i z4 hz4;obtain rfl:z=nI (k+1):=bQ;exact bN ⟨(k+1,z4),by dsimp only;omega,by rw[hat,hz4,hm];rfl⟩ (bO (by omega))
theorem QD:∀(a b:Fin 256) (n:Fin 97),(⟨#[UInt8.ofNat a.val,UInt8.ofNat b.val]⟩:bH)=Dr n.val↔(a.val=48+n.val / 10∧b.val=48+n.val % 10):=by
 intro a b n;unfold Dr;constructor
 ·intro h;simp only[ByteArray.mk.injEq,Array.mk.injEq,List.cons.injEq,and_true]at h;have h1:=congrArg UInt8.toNat h.1;have h2:=congrArg UInt8.toNat h.2;simp at h1 h2;omega
 ·rintro ⟨h1,h2⟩;rw[h1,h2]
theorem L8 {s:bH}(h12:s.size=12):lC s=(mO s && iU (s[10]'(by omega)).toNat && iU (s[11]'(by omega)).toNat && decide (mK s=10 * (((s[10]'(by omega)).toNat:Int) - 48)+((s[11]'(by omega)).toNat:Int) - 48)):=by
 have hsz:=h12;have hex:s.extract 10 12=⟨#[UInt8.ofNat (s[10]'(by omega)).toNat,UInt8.ofNat (s[11]'(by omega)).toNat]⟩:=by
  have hd:s.data.size=12:=h12;have:(s.extract 10 12).data=#[s[10]'(by omega),s[11]'(by omega)]:=by
   rw[ByteArray.data_extract];refine Array.ext (by simp[hd]) fun i h1 h2=>?_
   simp at h2;have h3:i=0∨i=1:=by omega
   rcases h3 with rfl|rfl<;>simp<;>rfl
  have h4:∀c:UInt8,UInt8.ofNat c.toNat=c:=fun c=>by simp
  rw[h4,h4];exact ByteArray.ext this
 have hb:=I3 s;unfold lC;rw[aH h12,Bool.true_and,hex];have ha:(s[10]'(by omega)).toNat < 256:=UInt8.toNat_lt _;have hbb:(s[11]'(by omega)).toNat < 256:=UInt8.toNat_lt _;obtain⟨a,hae⟩:∃a,a=(s[10]'(by omega)).toNat:=⟨_,rfl⟩
 obtain⟨b,hbe⟩:∃b,b=(s[11]'(by omega)).toNat:=⟨_,rfl⟩
 rw[←hae]at ha⊢;rw[←hbe]at hbb⊢;cases hh:mO s with
 |false=>
  have hn:mK s=-1:=by
   unfold mK;unfold mO at hh;cases h:kG s 10 with
   |none=>rfl
   |some a=>rw[h]at hh;cases hh
  rw[hn];rfl
 |true=>
  have h0:0≤mK s:=by
   unfold mK;unfold mO at hh;cases h:kG s 10 with
   |none=>rw[h]at hh;cases hh
   |some a=>exact Int.tmod_nonneg 97 (tN h (aN _)).1
  obtain⟨n,hn⟩:=Int.eq_ofNat_of_zero_le h0;rw[hn]at hb⊢;have h2:=QD ⟨a,ha⟩ ⟨b,hbb⟩ ⟨n,by omega⟩;rw[aH (show (0:Int)≤(n:Int) by omega),Bool.true_and,Bool.true_and];unfold iU;rw[Bool.eq_iff_iff];simp only[aO,decide_eq_true_eq];rw[show ((n:Int)).toNat=n from rfl];constructor
  ·intro h;have:=h2.1 h;dsimp only at this;omega
  ·intro h;exact h2.2 (by dsimp only;omega)
theorem Fg {s:bH}(h:s.size≠12):lC s=false:=by unfold lC;rw[aG h];rfl
theorem pM {s:bH}{x:Int}(i:Nat) {K:Int→Prop}(h:i < s.size) (e:x=i) (hk:∀z:Int,z=(s[i]'h).toNat→K z):zA s x K:=by
 subst e;exact dI h hk
theorem ET (P:bI) (hh:bK P 202 (iL (fun _=>True) mO)) (hd:bK P 179 (Fz iU)) (hs:bK P 203 LS):bM P Xu (iL (fun _=>True) lC):=by
 intro args H K hc;obtain⟨s,rfl,rfl,hp,hK⟩:=hc;refine⟨cL,?_⟩;dsimp only at hp hK⊢;obtain⟨q,hq⟩:∃x,x=(mK s):=⟨_,rfl⟩
 obtain⟨hb,hhb⟩:∃x,x=(mO s):=⟨_,rfl⟩
 by_cases h12:s.size=12
 rotate_left
 ·cbv;repeat'((first|refine .n fun h=>?_|refine .k fun z hz=>?_|fail)<;>cbv)
  exact bZ.mk ⟨_,Gh.refl _,.inl (.v9 (cE hK (by(exact(Fg h12).symm))))⟩
 have hm:=L8 h12;rw[←hq,←hhb]at hm;have h10:10 < s.size:=by omega
 have h11:11 < s.size:=by omega
 obtain⟨A,hA⟩:∃x:Int,x=((s[10]'h10).toNat:Int):=⟨_,rfl⟩
 obtain⟨B,hB⟩:∃x:Int,x=((s[11]'h11).toNat:Int):=⟨_,rfl⟩
 rw[←hA,←hB]at hm;cbv;repeat'((first|refine .y fun h=>?_|refine .k fun z hz=>?_|fail)<;>cbv)
 (refine bX hh s trivial ?_;try dsimp only)
 rw[←hhb];cases hb with
 |false=>
  cbv;exact bZ.mk ⟨_,Gh.refl _,.inl (.v9 (cE hK (by(rw[hm];rfl))))⟩
 |true=>
  cbv;refine pM 10 h10 rfl fun a ha=>?_
  obtain rfl:a=A:=ha.trans hA.symm;have ha0:0≤a∧a≤255:=by have:=UInt8.toNat_lt (s[10]'h10);omega
  cbv
  (refine bX hd a trivial ?_;try dsimp only)
  cases h1:iU a with
  |false=>
   rw[h1]at hm;cbv;exact bZ.mk ⟨_,Gh.refl _,.inl (.v9 (cE hK (by(rw[hm];rfl))))⟩
  |true=>
   rw[h1]at hm;cbv;refine pM 11 h11 rfl fun b hb=>?_
   obtain rfl:b=B:=hb.trans hB.symm;have hb0:0≤b∧b≤255:=by have:=UInt8.toNat_lt (s[11]'h11);omega
   cbv
   (refine bX hd b trivial ?_;try dsimp only)
   cases h2:iU b with
   |false=>
    rw[h2]at hm;cbv;exact bZ.mk ⟨_,Gh.refl _,.inl (.v9 (cE hK (by(rw[hm];rfl))))⟩
   |true=>
    rw[h2]at hm;cbv;refine pM 10 h10 rfl fun a2 ha2=>?_
    obtain rfl:a=a2:=ha.trans ha2.symm;cbv;repeat'((first|refine .k fun z hz=>?_|refine .o ?_|fail)<;>cbv)
    refine pM 11 h11 rfl fun b2 hb2=>?_
    obtain rfl:b=b2:=hb.trans hb2.symm;cbv;repeat'((first|refine .k fun z hz=>?_|refine .o ?_|fail)<;>cbv)
    (refine bX hs s trivial ?_;try dsimp only)
    rw[←hq];cbv;repeat'((first|refine .mk (fun h=>?_) fun h=>?_|fail)<;>cbv)
    ·exact bZ.mk ⟨_,Gh.refl _,.inl (.v9 (cE hK (by(rw[show lC s=decide (q=10 * (a - 48)+b - 48) from hm,aH (by omega)]))))⟩
    ·exact bZ.mk ⟨_,Gh.refl _,.inl (.v9 (cE hK (by(rw[show lC s=decide (q=10 * (a - 48)+b - 48) from hm,aG (by omega)]))))⟩
section
variable {x1 x2:Int}{K:Int→Prop}
theorem JR.o {n:Nat}{K:Prop}(k:K) (d:0≤x1∧x1 < n:=by(try simp only[vn]at *)<;>omega):JR n x1 K:=⟨d,k⟩
theorem Tj.o {n:Nat}{K:Nat→Prop}(k:K x1.toNat) (d:0≤x1∧x1 < n:=by(try simp only[vn]at *)<;>omega):Tj n x1 K:=⟨d,k⟩
theorem Ty.zl {bytes:Nat}{x:AV}{K:List AV→Prop}(k:∀zs,zs=List.replicate x1.toNat x→zs.length=x1.toNat→K zs) (d:0≤x1∧x1≤x2∧x2≤maxLen∧bytes * x2≤140737488355328:=by(try simp only[vn]at *)<;>(try unfold maxLen)<;>omega):Ty x1 x2 bytes x K:=
 ⟨d,fun zs h=>k zs h (by rw[h,List.length_replicate])⟩
end
theorem Gh.viewT {M:Nat}{st:St}:Gh M st ⟨st.T.map fun p=>(p.1,st.view p.2),st.H⟩:=fun C a w r pub _ h=>by
 refine⟨r,pub,h.mod,h.own,h.fr,fun n=>?_,h.defers,h.size,h.stab,h.low⟩;have hs:=h.slots n;have e:∀T:List (Nat×AV),dR (T.map fun p=>(p.1,st.view p.2)) n=st.view (dR T n):=fun T=>by
  induction T with
  |nil=>rfl
  |cons p T ih=>
   obtain⟨m,x⟩:=p;show (if m=n then st.view x else dR (T.map fun p=>(p.1,st.view p.2)) n)=st.view (if m=n then x else dR T n)
   split
   ·rfl
   ·exact ih
 dsimp only;rw[e];exact h.view hs
theorem Gh.viewE {M:Nat}{st:St}(q:Nat) {t:TypeId}{cs:List AV}(hq:st.H[q]?=some (.blk t cs)):Gh M st ⟨st.T,st.H.set q (.blk t (cs.map st.view1))⟩:=fun C a w r pub _ h=>by
 obtain⟨b,arr,hr,hb,hc,hp⟩:=h.ent_blk hq;refine⟨r,pub,h.mod.set hr (Fr.refl (fun _=>False) _ _) (fun _ h=>h.elim) h.mod.fresh h.mod.there (.blk hb ⟨by rw[aJ];exact hc.len,fun i x u hx hu=>?_⟩ hp),h.own,h.fr,h.slots,h.defers,h.size,h.stab,h.low.1,by simpa using h.low.2⟩;rw[aD]at hx;cases hy:cs[i]? with
 |none=>rw[hy]at hx;cases hx
 |some y=>rw[hy]at hx;cases hx;exact h.view1 (hc.at_ i y u hy hu)
section
variable {α:Type}{f:α→A3}{L:List α}
theorem Rh.k {K:Int→Prop}(k:∀z:Int,z=(L.length:Int)→K z):Rh (bJ f L) K:=⟨fun z hz=>k z (by rw[hz,bY])⟩
def kA (key:α→bH) (L:List α) (s:bH):Option Nat:=L.findIdx? fun a=>decide (key a=s)
theorem eA {key:α→bH}{L:List α}{s:bH}{i:Nat}(h:kA key L s=some i):∃a,L[i]?=some a∧key a=s:=by
 unfold kA at h;rw[List.findIdx?_eq_some_iff_getElem]at h;obtain⟨hi,h1,_⟩:=h;exact⟨L[i],aB hi,by simpa using h1⟩
theorem NV {key:α→bH}{L:List α}{s:bH}(h:kA key L s=none):∀a∈L,key a≠s:=by
 unfold kA at h;rw[List.findIdx?_eq_none_iff]at h;intro a ha e;have:=h a ha;simp[e]at this
theorem rM (key:α→bH) (hf:∀a,(f a).1=.str (key a)) (s:bH):∀(L:List α) (i:Nat),pW (.str s) ((bJ f L).map (·.1)) i=some ((kA key L s).map (· + i))
 |[],i=>rfl
 |x :: L,i=>by
  have e:(bJ f (x :: L)).map (·.1)=(f x).1 :: (bJ f L).map (·.1):=rfl;rw[e,hf x];unfold pW kA;rw[List.findIdx?_cons];by_cases h:key x=s
  ·have h2:mP (.str s) (.str (key x))=some true:=congrArg some ((MapKept.bytes_beq _ _).2 h.symm);simp only[h2];simp[h]
  ·have h3:¬s=key x:=fun e=>h e.symm
   have h2:mP (.str s) (.str (key x))=some false:=congrArg some (Bool.eq_false_iff.2 fun hb=>h3 ((MapKept.bytes_beq _ _).1 hb));simp only[h2,rM key hf s L (i+1),h,decide_false,aZ,if_false,Option.map_map,kA];congr 1;cases (L.findIdx? fun a=>decide (key a=s)) with
   |none=>rfl
   |some n=>simp;omega
theorem eE (key:α→bH) (hf:∀a,(f a).1=.str (key a)) {s:bH}{Kin:Nat→AV→List cG→Prop}{Kout:AV→Prop}{Kno:Unit→Prop}(h:∀i y,kA key L s=some i→L[i]?=some y→key y=s→Kin i (f y).2.1 (f y).2.2) (hn:kA key L s=none→Kno ()) :
  So (.str s) (bJ f L) [] Kin Kout Kno:=by
 refine⟨?_⟩;have hfl:=rM (f:=f) key hf s L 0;cases ha:kA key L s with
 |none=>rw[ha]at hfl;exact .inr (.inr ⟨hfl,hn ha⟩)
 |some i=>
  rw[ha]at hfl;obtain⟨y,hy,hk⟩:=eA ha;exact .inl ⟨i,(f y).1,(f y).2.1,(f y).2.2,hfl,by rw[dV,aD,hy];rfl,by simp,h i y ha hy hk⟩
theorem NS (key:α→bH) (hf:∀a,(f a).1=.str (key a)) {s:bH}{outs:List (Nat×AV)}{v:AV}{K:List A3→List (Nat×AV)→Prop}(ha:kA key L s=none) (h:K (bJ f L++[(.str s,.any,[])]) ((L.length,v) :: outs)) :
  QT (.str s) (bJ f L) outs v K:=by
 have hfl:=rM (f:=f) key hf s L 0;rw[ha]at hfl;exact⟨.inl ⟨hfl,fun es' n h1 h2=>by rw[bY]at h2;subst h1 h2;exact h⟩⟩
theorem NW (key:α→bH) (hf:∀a,(f a).1=.str (key a)) {s:bH}{i:Nat}{x v:AV}{K:List A3→List (Nat×AV)→Prop}(ha:kA key L s=some i) (h:K (bJ f L) [(i,v)]) :
  QT (.str s) (bJ f L) [(i,x)] v K:=by
 have hfl:=rM (f:=f) key hf s L 0;rw[ha]at hfl;exact⟨.inr ⟨i,x,[],hfl,rfl,by simp,h⟩⟩
theorem zG {since:Nat}{seen:List Nat}{K:Nat→AV→AV→List cG→Prop}{D:Unit→Prop}(hs:since=L.length) (h:∀i y,L[i]?=some y→i∉seen→K i (f y).1 (f y).2.1 (f y).2.2) (hd:(∀i,i < L.length→i∈seen)→D ()):WM (bJ f L) since seen K D:=by
 refine⟨by rw[bY];exact hs,fun i k hd' l he hn=>?_,fun h=>hd fun i hi=>h i (by rw[bY];exact hi)⟩;rw[dV,aD]at he;cases hy:L[i]? with
 |none=>rw[hy]at he;cases he
 |some y=>
  rw[hy]at he;have:=h i y hy hn;simp only[Option.map_some,bE]at he;rw[he]at this;exact this
theorem Rt {since i:Nat}{seen:List Nat}{x:AV}{y:α}{K:AV→AV→Prop}(hs:since=L.length) (hy:L[i]?=some y) (h:K (f y).1 x):Q4 (bJ f L) [(i,x)] since (seen++[i]) K:=
 ⟨i,(f y).1,x,by rw[bY];exact hs,by simp,by rw[dV,aD,hy];rfl,by simp,h⟩
theorem Gh.back {M:Nat}{st:St}(k:Nat) (sel:List Nat) (f:α→A3) {L:List α}{i:Nat}{y0:α}(y:α) {t:TypeId}{x:AV}(hk:st.H[k]?=some (.pool t (bJ f L) [(i,x)])) (hy:L[i]?=some y0) (hkey:(f y0).1=(f y).1:=by rfl)
  (hx:x=(f y).2.1.ren sel 0:=by rfl) (hH:sel.map (fun q=>st.H[q]?)=(gA sel 0 (f y).2.2).map some:=by rfl) (hnd:sel.Nodup:=by decide) (hsel:sel.all (fun q=>Nat.ble M q && q != k)=true:=by decide) (hb:(f y).2.1.bnd sel.length=true:=by rfl) (hbH:fD sel.length (f y).2.2=true:=by rfl) (hpl:(f y).2.2.all vR=true:=by rfl) :
  Gh M st ⟨iO st.T sel,Bu (gO (st.H.set k (.pool t (bJ f (L.set i y)) [])) sel) sel⟩:=by
 have h:=Gh.putIn (M:=M) (st:=st) k 0 sel (f y).2.1 (f y).2.2 (x:=x) (i:=i) (key:=(f y0).1) hk rfl (by simp) (by rw[dV,aD,hy];rfl) hx hH hnd hsel hb hbH hpl;have e:(bJ f L).set i ((f y0).1,(f y).2.1,(f y).2.2)=bJ f (L.set i y):=by
  rw[hkey];show (bJ f L).set i (f y)=_;rw[dV,dV,List.map_set]
 rw[e]at h;exact h
theorem Oz {L:List α}{i:Nat}{y:α}(hy:L[i]?=some y):L.set i y=L:=by
 obtain⟨h,rfl⟩:=aA.1 hy;exact List.set_getElem_self h
theorem Gh.back0 {M:Nat}{st:St}(k:Nat) (sel:List Nat) (f:α→A3) {L:List α}{i:Nat}{y:α}{t:TypeId}{x:AV}(hk:st.H[k]?=some (.pool t (bJ f L) [(i,x)])) (hy:L[i]?=some y)
  (hx:x=(f y).2.1.ren sel 0:=by rfl) (hH:sel.map (fun q=>st.H[q]?)=(gA sel 0 (f y).2.2).map some:=by rfl) (hnd:sel.Nodup:=by decide) (hsel:sel.all (fun q=>Nat.ble M q && q != k)=true:=by decide) (hb:(f y).2.1.bnd sel.length=true:=by rfl) (hbH:fD sel.length (f y).2.2=true:=by rfl) (hpl:(f y).2.2.all vR=true:=by rfl) :
  Gh M st ⟨iO st.T sel,Bu (gO (st.H.set k (.pool t (bJ f L) [])) sel) sel⟩:=by
 have h:=Gh.back k sel f y hk hy rfl hx hH hnd hsel hb hbH hpl;rw[Oz hy]at h;exact h
theorem Gh.backN {M:Nat}{st:St}(k:Nat) (sel:List Nat) (f:α→A3) {L:List α}(y:α) {key:AV}{t:TypeId}{x:AV}(hk:st.H[k]?=some (.pool t (bJ f L++[(key,.any,[])]) [(L.length,x)])) (hkey:(f y).1=key:=by rfl)
  (hx:x=(f y).2.1.ren sel 0:=by rfl) (hH:sel.map (fun q=>st.H[q]?)=(gA sel 0 (f y).2.2).map some:=by rfl) (hnd:sel.Nodup:=by decide) (hsel:sel.all (fun q=>Nat.ble M q && q != k)=true:=by decide) (hb:(f y).2.1.bnd sel.length=true:=by rfl) (hbH:fD sel.length (f y).2.2=true:=by rfl) (hpl:(f y).2.2.all vR=true:=by rfl) :
  Gh M st ⟨iO st.T sel,Bu (gO (st.H.set k (.pool t (bJ f (L++[y])) [])) sel) sel⟩:=by
 have hl:(bJ f L).length=L.length:=bY f L;have h:=Gh.putIn (M:=M) (st:=st) k 0 sel (f y).2.1 (f y).2.2 (x:=x) (i:=L.length) (key:=key) hk rfl (by simp) (by rw[List.getElem?_append_right (by omega)];simp[hl]) hx hH hnd hsel hb hbH hpl;have e:(bJ f L++[(key,AV.any,[])]).set L.length (key,(f y).2.1,(f y).2.2)=bJ f (L++[y]):=by
  rw[List.set_append_right _ _ (by omega),hl,Nat.sub_self,cD,cF,←hkey];rfl
 rw[e]at h;exact h
end
structure mI where
 frm:bH
 to:bH
 kind:Int
 day:Int
structure Bl where
 number:bH
 carrier:bH
 shipper:bH
 frm:bH
 to:bH
 boxes:List bH
 parents:List bH
 issued:Int
 clean:Bool
structure Og where
 state:Int
 holder:bH
 chain:List mI
structure Br where
 b:Bl
 st:Int
 o0:Og
 o1:Og
 o2:Og
structure Rg where
 carrier:bH
 bills:List Br
def bV:mI→AV
 |⟨f,t,k,d⟩=>.agg [.str f,.str t,.i k,.i d]
def Za:Bl→List AV
 |⟨number,carrier,shipper,frm,to,boxes,parents,issued,clean⟩=>[.str number,.str carrier,.str shipper,.str frm,.str to,.sl 1 (bJ .str boxes),.sl 1 (bJ .str parents),.i issued,.bl clean]
def Kd (b:Bl):AV:=.agg (Za b)
def qE:Br→List cG
 |⟨⟨number,carrier,shipper,frm,to,boxes,parents,issued,clean⟩,st,⟨sa,ha,ca⟩,⟨sb,hb,cb⟩,⟨sc,hc,cc⟩⟩=>
  [.blk 127 [.str number,.str carrier,.str shipper,.str frm,.str to,.sl 1 (bJ .str boxes),.sl 1 (bJ .str parents),.i issued,.bl clean,.i st,.i sa,.str ha,.hd 1,.i sb,.str hb,.hd 2,.i sc,.str hc,.hd 3],
   .tip 180 4 (bJ bV ca),.tip 180 4 (bJ bV cb),.tip 180 4 (bJ bV cc)]
def aaI (b:Br):A3:=(.str b.b.number,.ptr 0 0,qE b)
def iQ (R:Rg):List cG:=[.blk 122 [.str R.carrier,.ph 1],.pool 120 (bJ aaI R.bills) []]
def oL (L:List Br) (s:bH):Option Nat:=kA (fun b:Br=>b.b.number) L s
def xG (L:List Br) (s:bH):Int:=match oL L s with
 |some i=>match L[i]? with
  |some b=>b.st
  |none=>-1
 |none=>-1
def Q0:dA:=spec (fun s:bH=>[.str s]) (fun _=>[]) (fun _=>True) (fun _=>.ptr 0 0) fun s=>iQ ⟨s,[]⟩
theorem MN (P:bI):bM P Z8 Q0:=by
 intro args H K hc;obtain⟨s,rfl,rfl,hp,hK⟩:=hc;refine⟨cL,?_⟩;dsimp only at hp hK⊢;cbv;exact bZ.mk ⟨_,Gh.refl _,.inl (eN.sel [1,0] (iQ ⟨s,[]⟩) (.ptr 0 0) (by rfl) (by rfl) (by decide) (by rfl) cL (by rfl) (by rfl) (Le.refl _) (jW.refl _) hK)⟩
def Ij:dA:=spec (fun i:Rg×bH=>[.ptr 0 0,.str i.2]) (fun i=>iQ i.1) (fun _=>True) (fun i=>.i (xG i.1.bills i.2)) fun i=>iQ i.1
theorem GG (P:bI):bM P x26 Ij:=by
 intro args H K hc;obtain⟨⟨⟨carrier,L⟩,s⟩,rfl,rfl,_,hK⟩:=hc;refine⟨cL,?_⟩;dsimp only at hK⊢;cbv;refine eE (fun b:Br=>b.b.number) (fun _=>rfl) (fun i y hai hy hky=>?_) (fun hai=>?_)<;>dsimp only at *
 ·obtain⟨⟨nq1,cq1,sq1,frm1,to1,bq1,pq1,iq1,lq1⟩,st1,⟨sa1,ha1,ca1⟩,⟨sb1,hb1,cb1⟩,⟨sc1,hc1,cc1⟩⟩:=y;cbv
  (refine .r9 (Gh.back0 1 [2,3,4,5] aaI rfl hy) ?_;cbv;exact .inl (.f9 (fO hK (by unfold xG oL;rw[hai];dsimp only;rw[hy]))))
 ·cbv
  (refine .q9 ?_;cbv;exact .inl (.f9 (fO hK (by unfold xG oL;rw[hai]))))
def jR (sz bytes:Nat):dA:=spec (fun xs:List AV=>[.sl sz xs]) (fun _=>[]) (fun xs=>xs.length≤maxLen∧xs.length * bytes≤140737488355328) (fun xs=>.sl sz xs) fun _=>[]
def wQ (t sz bytes:Nat):dA:=spec (fun xs:List AV=>[.sl sz xs]) (fun _=>[]) (fun xs=>xs.length≤maxLen∧xs.length * bytes≤140737488355328) (fun _=>.hd 0) fun xs=>[.row t sz xs]
theorem FM (P:bI):bM P ZI (jR 1 16):=by
 intro args H K hc;obtain⟨xs,rfl,rfl,⟨h1,h2⟩,hK⟩:=hc;refine⟨cL,?_⟩;dsimp only at h1 h2 hK⊢;cbv;repeat'((first|refine .zl fun zs hzs hzl=>?_|refine .mk (fun h=>?_) ?_|fail)<;>cbv)
 ·subst h;exact⟨⟨_,Gh.refl _,.inl (eN.val rfl (.one (.one (.nil _))) hK)⟩⟩
 ·have hzs:zs=xs:=hzs;subst hzs;exact⟨⟨_,Gh.publish 0 rfl,.inr (.v9 hK)⟩⟩
theorem ED (P:bI):bM P Zn (jR 4 48):=by
 intro args H K hc;obtain⟨xs,rfl,rfl,⟨h1,h2⟩,hK⟩:=hc;refine⟨cL,?_⟩;dsimp only at h1 h2 hK⊢;cbv;repeat'((first|refine .zl fun zs hzs hzl=>?_|refine .mk (fun h=>?_) ?_|fail)<;>cbv)
 ·subst h;exact⟨⟨_,Gh.refl _,.inl (eN.val rfl (.one (.one (.nil _))) hK)⟩⟩
 ·have hzs:zs=xs:=hzs;subst hzs;exact⟨⟨_,Gh.publish 0 rfl,.inr (.v9 hK)⟩⟩
theorem DK (P:bI):bM P Zn (wQ 180 4 48):=by
 intro args H K hc;obtain⟨xs,rfl,rfl,⟨h1,h2⟩,hK⟩:=hc;refine⟨cL,?_⟩;dsimp only at h1 h2 hK⊢;cbv;repeat'((first|refine .zl fun zs hzs hzl=>?_|refine .mk (fun h=>?_) ?_|fail)<;>cbv)
 ·subst h;exact⟨⟨_,Gh.adopt 2 180 4 rfl,.inl (eN.pre [.row 180 4 []] rfl (aI _) rfl rfl (Le.refl _) (jW.refl _) hK)⟩⟩
 ·have hzs:zs=xs:=hzs;subst hzs;exact⟨⟨_,Gh.refl _,.inl (eN.pre [.row 180 4 zs] rfl (aI _) rfl rfl (Le.refl _) (jW.refl _) hK)⟩⟩
def xS (b:Bl):Prop:=b.boxes.length≤5000∧b.parents.length≤5000
def CV:dA:=spec (fun b:Bl=>[Kd b]) (fun _=>[]) xS (fun b=>Kd b) fun _=>[]
theorem Bt (P:bI) (hc1:bK P 87 (jR 1 16)):bM P x54 CV:=by
 intro args H K hc;obtain⟨⟨number,carrier,shipper,frm,to,boxes,parents,issued,clean⟩,rfl,rfl,⟨h1,h2⟩,hK⟩:=hc;refine⟨cL,?_⟩;dsimp only at h1 h2 hK⊢;cbv
 (refine bX hc1 _ ⟨by rw[bY];unfold maxLen;omega,by rw[bY];omega⟩ ?_;try dsimp only)
 cbv
 (refine bX hc1 _ ⟨by rw[bY];unfold maxLen;omega,by rw[bY];omega⟩ ?_;try dsimp only)
 cbv
 (refine .q9 ?_;cbv;exact .inl (.f9 hK))
def Sk:Bl:=⟨⟨#[]⟩,⟨#[]⟩,⟨#[]⟩,⟨#[]⟩,⟨#[]⟩,[],[],0,false⟩
def SK (L:List Br) (s:bH):Bl×Bool:=match oL L s with
 |some i=>match L[i]? with
  |some b=>(b.b,true)
  |none=>(Sk,false)
 |none=>(Sk,false)
theorem J2 {L:List Br}{s:bH}{i:Nat}{y:Br}(h:oL L s=some i) (hy:L[i]?=some y):SK L s=(y.b,true):=by unfold SK;rw[h];dsimp only;rw[hy]
set_option maxHeartbeats 2000000
structure Ak where
 bill:bH
 index:Int
 least:Int
 by_:bH
 state:Int
 day:Int
 dated:Bool
 wrong:Bool
def Gv:Ak→List AV
 |⟨bill,index,least,by_,state,day,dated,wrong⟩=>[.str bill,.i index,.i least,.str by_,.i state,.i day,.bl dated,.bl wrong]
def W8:Og→AV
 |⟨s,h,c⟩=>.agg [.i s,.str h,.sl 4 (bJ bV c)]
def iN (o:Og) (issued:Int):Int:=match o.chain.getLast? with
 |some e=>e.day
 |none=>issued
def O7:dA:=spec (fun i:Og×Int=>[W8 i.1,.i i.2]) (fun _=>[]) (fun i=>i.1.chain.length≤5000) (fun i=>.i (iN i.1 i.2)) fun _=>[]
theorem JW (P:bI):bM P X9 O7:=by
 intro args H K hc;obtain⟨⟨⟨s,h,c⟩,issued⟩,rfl,rfl,hp,hK⟩:=hc;refine⟨cL,?_⟩;dsimp only at hp hK⊢;have hd:iN ⟨s,h,c⟩ issued=match c.getLast? with
  |some e=>e.day
  |none=>issued:=rfl
 obtain⟨q,hq⟩:∃x,x=(iN ⟨s,h,c⟩ issued):=⟨_,rfl⟩
 rw[←hq]at hK hd;cbv;repeat'((first|refine .mk (fun h=>?_) fun h=>?_|refine .k fun z hz=>?_|fail)<;>cbv)
 ·have e0:c=[]:=aR bQ;exact bZ.mk ⟨_,Gh.refl _,.inl (.v9 (fO hK (by(rw[hd,e0];rfl))))⟩
 ·refine cM bQ bQ fun i l hi hl=>?_
  obtain⟨f,t,k,d⟩:=l;cbv;have hlast:c.getLast?=some ⟨f,t,k,d⟩:=by
   rw[List.getLast?_eq_getElem?];rw[show c.length - 1=i by exact bQ];exact hl
  exact bZ.mk ⟨_,Gh.refl _,.inl (.v9 (fO hK (by(rw[hd,hlast]))))⟩
def eJ (idx:Int) (k:Int):Bool:=decide (idx=-1) || decide (idx=k)
def lA (idx:Int) (b:Br) (p:Og→Bool):Bool:=(eJ idx 0 && p b.o0) || ((eJ idx 1 && p b.o1) || (eJ idx 2 && p b.o2))
def mJ (b:Br):Prop:=b.o0.chain.length≤4500∧b.o1.chain.length≤4500∧b.o2.chain.length≤4500
def pB (a:Ak) (o:Og):Bool:=!decide (o.state=a.state)
def jG (a:Ak) (o:Og):Bool:=!decide (o.holder=a.by_)
def BA (b:Br) (a:Ak) (o:Og):Bool:=decide (a.day < iN o b.b.issued)
def Pi (p:Ak→Og→Bool):dA:=spec (fun i:Og×Ak=>[W8 i.1,.ptr 0 0]) (fun i=>[.blk 186 (Gv i.2)]) (fun _=>True) (fun i=>.bl (p i.2 i.1)) fun i=>[.blk 186 (Gv i.2)]
def MX (b:Br) (a:Ak):List cG:=[.blk 186 (Gv a),.blk 119 [.ptr 2 0]]++gA [] 2 (qE b)
def TF:dA:=spec (fun i:Og×Br×Ak=>[W8 i.1,.ptr 0 0,.ptr 1 0]) (fun i=>MX i.2.1 i.2.2) (fun i=>i.1.chain.length≤5000) (fun i=>.bl (BA i.2.1 i.2.2 i.1)) fun i=>MX i.2.1 i.2.2
theorem Pp (P:bI):bM P Yx (Pi pB):=by
 intro args H K hc;obtain⟨⟨⟨s,hl,c⟩,⟨bill,index,least,by_,state,day,dated,wrong⟩⟩,rfl,rfl,hp,hK⟩:=hc;refine⟨cL,?_⟩;dsimp only at hp hK⊢;unfold pB at hK;dsimp only at hK;cbv;repeat'((first|refine .mk (fun h=>?_) fun h=>?_|fail)<;>cbv)
 ·(refine .q9 ?_;cbv;exact .inl (.f9 (cE hK (by rw[aH h];rfl))))
 ·(refine .q9 ?_;cbv;exact .inl (.f9 (cE hK (by rw[aG h];rfl))))
theorem Ny (P:bI):bM P YW (Pi jG):=by
 intro args H K hc;obtain⟨⟨⟨s,hl,c⟩,⟨bill,index,least,by_,state,day,dated,wrong⟩⟩,rfl,rfl,hp,hK⟩:=hc;refine⟨cL,?_⟩;dsimp only at hp hK⊢;unfold jG at hK;dsimp only at hK;cbv;repeat'((first|refine .mk (fun h=>?_) fun h=>?_|fail)<;>cbv)
 ·(refine .q9 ?_;cbv;exact .inl (.f9 (cE hK (by rw[aH h];rfl))))
 ·(refine .q9 ?_;cbv;exact .inl (.f9 (cE hK (by rw[aG h];rfl))))
theorem jT {idx k:Int}(h:idx≠-1) (h2:idx≠k):eJ idx k=false:=by unfold eJ;rw[aG h,aG h2];rfl
theorem M7 (P:bI) (hlast:bK P 117 O7):bM P YT TF:=by
 intro args H K hc;obtain⟨⟨⟨s,hl,c⟩,y,⟨bill,index,least,by_,state,day,dated,wrong⟩⟩,rfl,rfl,hp,hK⟩:=hc;obtain⟨⟨nq1,cq1,sq1,frm1,to1,bq1,pq1,iq1,lq1⟩,st1,⟨sa1,ha1,ca1⟩,⟨sb1,hb1,cb1⟩,⟨sc1,hc1,cc1⟩⟩:=y;refine⟨cL,?_⟩;dsimp only at hp hK⊢;unfold BA at hK;dsimp only at hK;obtain⟨q,hq⟩:∃x,x=(iN ⟨s,hl,c⟩ iq1):=⟨_,rfl⟩
 rw[←hq]at hK;cbv
 (refine bX hlast (⟨s,hl,c⟩,iq1) hp ?_;try dsimp only)
 rw[←hq];cbv;repeat'((first|refine .mk (fun h=>?_) fun h=>?_|fail)<;>cbv)
 ·(refine .q9 ?_;cbv;exact .inl (.f9 (cE hK (by simp[h]))))
 ·(refine .q9 ?_;cbv;exact .inl (.f9 (cE hK (by simp;omega))))
def EH (f:Nat) (p:Ak→Og→Bool):dA:=spec (fun i:Br×Int×Ak=>[.ptr 0 0,.i i.2.1,.clo f [.ptr 4 0]]) (fun i=>qE i.1++[.blk 186 (Gv i.2.2)]) (fun i=>mJ i.1) (fun i=>.bl (lA i.2.1 i.1 (p i.2.2))) fun i=>qE i.1++[.blk 186 (Gv i.2.2)]
theorem zY (P:bI) (f:Nat) (p:Ak→Og→Bool) (hcl:dB P f) (hf:bK P f (Pi p)):bM P WK (EH f p):=by
 intro args H K hc;obtain⟨⟨y,idx,⟨bill,index,least,by_,state,day,dated,wrong⟩⟩,rfl,rfl,hp,hK⟩:=hc;obtain⟨⟨nq1,cq1,sq1,frm1,to1,bq1,pq1,iq1,lq1⟩,st1,⟨sa1,ha1,ca1⟩,⟨sb1,hb1,cb1⟩,⟨sc1,hc1,cc1⟩⟩:=y;refine⟨cL,?_⟩;obtain⟨hp0,hp1,hp2⟩:=hp;dsimp only at hp0 hp1 hp2 hK⊢;unfold lA at hK;dsimp only at hK;obtain⟨q0,hq0⟩:∃q,q=p ⟨bill,index,least,by_,state,day,dated,wrong⟩ ⟨sa1,ha1,ca1⟩:=⟨_,rfl⟩
 obtain⟨q1,hq1⟩:∃q,q=p ⟨bill,index,least,by_,state,day,dated,wrong⟩ ⟨sb1,hb1,cb1⟩:=⟨_,rfl⟩
 obtain⟨q2,hq2⟩:∃q,q=p ⟨bill,index,least,by_,state,day,dated,wrong⟩ ⟨sc1,hc1,cc1⟩:=⟨_,rfl⟩
 rw[←hq0,←hq1,←hq2]at hK;cbv;refine gH Gh.viewT ?_;cbv;refine bS [] (fun p:{ k:Nat // k≤3∧(1≤k→(eJ idx 0 && q0)=false)∧(2≤k→(eJ idx 1 && q1)=false)∧(3≤k→(eJ idx 2 && q2)=false) }=>[(13,.i (nI p.1))]) (fun _=>qE ⟨⟨nq1,cq1,sq1,frm1,to1,bq1,pq1,iq1,lq1⟩,st1,⟨sa1,ha1,ca1⟩,⟨sb1,hb1,cb1⟩,⟨sc1,hc1,cc1⟩⟩++[.blk 186 (Gv ⟨bill,index,least,by_,state,day,dated,wrong⟩)]) (fun p=>eW 3 p.1) ⟨0,by decide,fun h=>absurd h (by decide),fun h=>absurd h (by decide),fun h=>absurd h (by decide)⟩ ?_;rintro ⟨k,hk,g0,g1,g2⟩;dsimp only at hk g0 g1 g2⊢;have hk4:k=0∨k=1∨k=2∨k=3:=by omega
 rcases hk4 with rfl|rfl|rfl|rfl
 rotate_right
 ·have e0:=g0 (by decide);have e1:=g1 (by decide);have e2:=g2 (by decide);cbv;repeat'((first|refine .n fun h=>?_|fail)<;>cbv)
  (refine .q9 ?_;cbv;exact .inl (.f9 (cE hK (by rw[e0,e1,e2];rfl))))
 ·cbv;repeat'((first|refine .n fun h=>?_|refine .y fun h=>?_|refine .mk (fun h=>?_) fun h=>?_|refine .k fun z hz=>?_|refine .o ?_|refine And.intro ?_ ?_|fail)<;>cbv)
  ·exact hcl
  ·(refine fI hf (⟨sa1,ha1,ca1⟩,⟨bill,index,least,by_,state,day,dated,wrong⟩) [4] trivial ?_;try dsimp only)
   rw[←hq0];cases q0 with
   |true=>
    cbv
    (refine .q9 ?_;cbv;exact .inl (.f9 (cE hK (by simp[eJ,h]))))
   |false=>
    cbv;repeat'((first|refine .k fun z hz=>?_|fail)<;>cbv)
    obtain rfl:z=nI 1:=bQ;exact bN ⟨1,by decide,fun _=>Bool.and_false _,fun h=>absurd h (by decide),fun h=>absurd h (by decide)⟩ (bO (by decide))
  ·exact hcl
  ·(refine fI hf (⟨sa1,ha1,ca1⟩,⟨bill,index,least,by_,state,day,dated,wrong⟩) [4] trivial ?_;try dsimp only)
   rw[←hq0];cases q0 with
   |true=>
    cbv
    (refine .q9 ?_;cbv;exact .inl (.f9 (cE hK (by simp[eJ,h]))))
   |false=>
    cbv;repeat'((first|refine .k fun z hz=>?_|fail)<;>cbv)
    obtain rfl:z=nI 1:=bQ;exact bN ⟨1,by decide,fun _=>Bool.and_false _,fun h=>absurd h (by decide),fun h=>absurd h (by decide)⟩ (bO (by decide))
  ·obtain rfl:z=nI 1:=bQ;exact bN ⟨1,by decide,fun _=>by rw[jT bQ bQ];rfl,fun h=>absurd h (by decide),fun h=>absurd h (by decide)⟩ (bO (by decide))
 ·cbv;repeat'((first|refine .n fun h=>?_|refine .y fun h=>?_|refine .mk (fun h=>?_) fun h=>?_|refine .k fun z hz=>?_|refine .o ?_|refine And.intro ?_ ?_|fail)<;>cbv)
  ·exact hcl
  ·(refine fI hf (⟨sb1,hb1,cb1⟩,⟨bill,index,least,by_,state,day,dated,wrong⟩) [4] trivial ?_;try dsimp only)
   rw[←hq1];cases q1 with
   |true=>
    cbv
    (refine .q9 ?_;cbv;exact .inl (.f9 (cE hK (by simp[eJ,h]))))
   |false=>
    cbv;repeat'((first|refine .k fun z hz=>?_|fail)<;>cbv)
    obtain rfl:z=nI 2:=bQ;exact bN ⟨2,by decide,fun _=>g0 (by decide),fun _=>Bool.and_false _,fun h=>absurd h (by decide)⟩ (bO (by decide))
  ·exact hcl
  ·(refine fI hf (⟨sb1,hb1,cb1⟩,⟨bill,index,least,by_,state,day,dated,wrong⟩) [4] trivial ?_;try dsimp only)
   rw[←hq1];cases q1 with
   |true=>
    cbv
    (refine .q9 ?_;cbv;exact .inl (.f9 (cE hK (by simp[eJ,h]))))
   |false=>
    cbv;repeat'((first|refine .k fun z hz=>?_|fail)<;>cbv)
    obtain rfl:z=nI 2:=bQ;exact bN ⟨2,by decide,fun _=>g0 (by decide),fun _=>Bool.and_false _,fun h=>absurd h (by decide)⟩ (bO (by decide))
  ·obtain rfl:z=nI 2:=bQ;exact bN ⟨2,by decide,fun _=>g0 (by decide),fun _=>by rw[jT bQ bQ];rfl,fun h=>absurd h (by decide)⟩ (bO (by decide))
 ·cbv;repeat'((first|refine .y fun h=>?_|refine .mk (fun h=>?_) fun h=>?_|refine .k fun z hz=>?_|refine .o ?_|refine And.intro ?_ ?_|fail)<;>cbv)
  ·exact hcl
  ·(refine fI hf (⟨sc1,hc1,cc1⟩,⟨bill,index,least,by_,state,day,dated,wrong⟩) [4] trivial ?_;try dsimp only)
   rw[←hq2];cases q2 with
   |true=>
    cbv
    (refine .q9 ?_;cbv;exact .inl (.f9 (cE hK (by simp[eJ,h]))))
   |false=>
    cbv;repeat'((first|refine .k fun z hz=>?_|fail)<;>cbv)
    obtain rfl:z=nI 3:=bQ;exact bN ⟨3,by decide,fun _=>g0 (by decide),fun _=>g1 (by decide),fun _=>Bool.and_false _⟩ (bO (by decide))
  ·exact hcl
  ·(refine fI hf (⟨sc1,hc1,cc1⟩,⟨bill,index,least,by_,state,day,dated,wrong⟩) [4] trivial ?_;try dsimp only)
   rw[←hq2];cases q2 with
   |true=>
    cbv
    (refine .q9 ?_;cbv;exact .inl (.f9 (cE hK (by simp[eJ,h]))))
   |false=>
    cbv;repeat'((first|refine .k fun z hz=>?_|fail)<;>cbv)
    obtain rfl:z=nI 3:=bQ;exact bN ⟨3,by decide,fun _=>g0 (by decide),fun _=>g1 (by decide),fun _=>Bool.and_false _⟩ (bO (by decide))
  ·obtain rfl:z=nI 3:=bQ;exact bN ⟨3,by decide,fun _=>g0 (by decide),fun _=>g1 (by decide),fun _=>by rw[jT bQ bQ];rfl⟩ (bO (by decide))
def N0 (f:Nat)  : dA:=spec (fun i:Br×Int×Ak=>[.ptr 0 0,.i i.2.1,.clo f [.ptr 4 0,.ptr 5 0]]) (fun i=>qE i.1++[.blk 186 (Gv i.2.2),.blk 119 [.ptr 0 0]]) (fun i=>mJ i.1) (fun i=>.bl (lA i.2.1 i.1 (BA i.1 i.2.2))) fun i=>qE i.1++[.blk 186 (Gv i.2.2),.blk 119 [.ptr 0 0]]
theorem Hw (P:bI) (f:Nat)  (hcl:dB P f) (hf:bK P f TF):bM P WK (N0 f):=by
 intro args H K hc;obtain⟨⟨y,idx,⟨bill,index,least,by_,state,day,dated,wrong⟩⟩,rfl,rfl,hp,hK⟩:=hc;obtain⟨⟨nq1,cq1,sq1,frm1,to1,bq1,pq1,iq1,lq1⟩,st1,⟨sa1,ha1,ca1⟩,⟨sb1,hb1,cb1⟩,⟨sc1,hc1,cc1⟩⟩:=y;refine⟨cL,?_⟩;obtain⟨hp0,hp1,hp2⟩:=hp;dsimp only at hp0 hp1 hp2 hK⊢;unfold lA at hK;dsimp only at hK;obtain⟨q0,hq0⟩:∃q,q=BA ⟨⟨nq1,cq1,sq1,frm1,to1,bq1,pq1,iq1,lq1⟩,st1,⟨sa1,ha1,ca1⟩,⟨sb1,hb1,cb1⟩,⟨sc1,hc1,cc1⟩⟩ ⟨bill,index,least,by_,state,day,dated,wrong⟩ ⟨sa1,ha1,ca1⟩:=⟨_,rfl⟩
 obtain⟨q1,hq1⟩:∃q,q=BA ⟨⟨nq1,cq1,sq1,frm1,to1,bq1,pq1,iq1,lq1⟩,st1,⟨sa1,ha1,ca1⟩,⟨sb1,hb1,cb1⟩,⟨sc1,hc1,cc1⟩⟩ ⟨bill,index,least,by_,state,day,dated,wrong⟩ ⟨sb1,hb1,cb1⟩:=⟨_,rfl⟩
 obtain⟨q2,hq2⟩:∃q,q=BA ⟨⟨nq1,cq1,sq1,frm1,to1,bq1,pq1,iq1,lq1⟩,st1,⟨sa1,ha1,ca1⟩,⟨sb1,hb1,cb1⟩,⟨sc1,hc1,cc1⟩⟩ ⟨bill,index,least,by_,state,day,dated,wrong⟩ ⟨sc1,hc1,cc1⟩:=⟨_,rfl⟩
 rw[←hq0,←hq1,←hq2]at hK;cbv;refine gH Gh.viewT ?_;cbv;refine bS [] (fun p:{ k:Nat // k≤3∧(1≤k→(eJ idx 0 && q0)=false)∧(2≤k→(eJ idx 1 && q1)=false)∧(3≤k→(eJ idx 2 && q2)=false) }=>[(13,.i (nI p.1))]) (fun _=>qE ⟨⟨nq1,cq1,sq1,frm1,to1,bq1,pq1,iq1,lq1⟩,st1,⟨sa1,ha1,ca1⟩,⟨sb1,hb1,cb1⟩,⟨sc1,hc1,cc1⟩⟩++[.blk 186 (Gv ⟨bill,index,least,by_,state,day,dated,wrong⟩),.blk 119 [.ptr 0 0]]) (fun p=>eW 3 p.1) ⟨0,by decide,fun h=>absurd h (by decide),fun h=>absurd h (by decide),fun h=>absurd h (by decide)⟩ ?_;rintro ⟨k,hk,g0,g1,g2⟩;dsimp only at hk g0 g1 g2⊢;have hk4:k=0∨k=1∨k=2∨k=3:=by omega
 rcases hk4 with rfl|rfl|rfl|rfl
 rotate_right
 ·have e0:=g0 (by decide);have e1:=g1 (by decide);have e2:=g2 (by decide);cbv;repeat'((first|refine .n fun h=>?_|fail)<;>cbv)
  (refine .q9 ?_;cbv;exact .inl (.f9 (cE hK (by rw[e0,e1,e2];rfl))))
 ·cbv;repeat'((first|refine .n fun h=>?_|refine .y fun h=>?_|refine .mk (fun h=>?_) fun h=>?_|refine .k fun z hz=>?_|refine .o ?_|refine And.intro ?_ ?_|fail)<;>cbv)
  ·exact hcl
  ·(refine fI hf (⟨sa1,ha1,ca1⟩,⟨⟨nq1,cq1,sq1,frm1,to1,bq1,pq1,iq1,lq1⟩,st1,⟨sa1,ha1,ca1⟩,⟨sb1,hb1,cb1⟩,⟨sc1,hc1,cc1⟩⟩,⟨bill,index,least,by_,state,day,dated,wrong⟩) [4,5,0,1,2,3] (by dsimp only;omega) ?_;try dsimp only)
   rw[←hq0];cases q0 with
   |true=>
    cbv
    (refine .q9 ?_;cbv;exact .inl (.f9 (cE hK (by simp[eJ,h]))))
   |false=>
    cbv;repeat'((first|refine .k fun z hz=>?_|fail)<;>cbv)
    obtain rfl:z=nI 1:=bQ;exact bN ⟨1,by decide,fun _=>Bool.and_false _,fun h=>absurd h (by decide),fun h=>absurd h (by decide)⟩ (bO (by decide))
  ·exact hcl
  ·(refine fI hf (⟨sa1,ha1,ca1⟩,⟨⟨nq1,cq1,sq1,frm1,to1,bq1,pq1,iq1,lq1⟩,st1,⟨sa1,ha1,ca1⟩,⟨sb1,hb1,cb1⟩,⟨sc1,hc1,cc1⟩⟩,⟨bill,index,least,by_,state,day,dated,wrong⟩) [4,5,0,1,2,3] (by dsimp only;omega) ?_;try dsimp only)
   rw[←hq0];cases q0 with
   |true=>
    cbv
    (refine .q9 ?_;cbv;exact .inl (.f9 (cE hK (by simp[eJ,h]))))
   |false=>
    cbv;repeat'((first|refine .k fun z hz=>?_|fail)<;>cbv)
    obtain rfl:z=nI 1:=bQ;exact bN ⟨1,by decide,fun _=>Bool.and_false _,fun h=>absurd h (by decide),fun h=>absurd h (by decide)⟩ (bO (by decide))
  ·obtain rfl:z=nI 1:=bQ;exact bN ⟨1,by decide,fun _=>by rw[jT bQ bQ];rfl,fun h=>absurd h (by decide),fun h=>absurd h (by decide)⟩ (bO (by decide))
 ·cbv;repeat'((first|refine .n fun h=>?_|refine .y fun h=>?_|refine .mk (fun h=>?_) fun h=>?_|refine .k fun z hz=>?_|refine .o ?_|refine And.intro ?_ ?_|fail)<;>cbv)
  ·exact hcl
  ·(refine fI hf (⟨sb1,hb1,cb1⟩,⟨⟨nq1,cq1,sq1,frm1,to1,bq1,pq1,iq1,lq1⟩,st1,⟨sa1,ha1,ca1⟩,⟨sb1,hb1,cb1⟩,⟨sc1,hc1,cc1⟩⟩,⟨bill,index,least,by_,state,day,dated,wrong⟩) [4,5,0,1,2,3] (by dsimp only;omega) ?_;try dsimp only)
   rw[←hq1];cases q1 with
   |true=>
    cbv
    (refine .q9 ?_;cbv;exact .inl (.f9 (cE hK (by simp[eJ,h]))))
   |false=>
    cbv;repeat'((first|refine .k fun z hz=>?_|fail)<;>cbv)
    obtain rfl:z=nI 2:=bQ;exact bN ⟨2,by decide,fun _=>g0 (by decide),fun _=>Bool.and_false _,fun h=>absurd h (by decide)⟩ (bO (by decide))
  ·exact hcl
  ·(refine fI hf (⟨sb1,hb1,cb1⟩,⟨⟨nq1,cq1,sq1,frm1,to1,bq1,pq1,iq1,lq1⟩,st1,⟨sa1,ha1,ca1⟩,⟨sb1,hb1,cb1⟩,⟨sc1,hc1,cc1⟩⟩,⟨bill,index,least,by_,state,day,dated,wrong⟩) [4,5,0,1,2,3] (by dsimp only;omega) ?_;try dsimp only)
   rw[←hq1];cases q1 with
   |true=>
    cbv
    (refine .q9 ?_;cbv;exact .inl (.f9 (cE hK (by simp[eJ,h]))))
   |false=>
    cbv;repeat'((first|refine .k fun z hz=>?_|fail)<;>cbv)
    obtain rfl:z=nI 2:=bQ;exact bN ⟨2,by decide,fun _=>g0 (by decide),fun _=>Bool.and_false _,fun h=>absurd h (by decide)⟩ (bO (by decide))
  ·obtain rfl:z=nI 2:=bQ;exact bN ⟨2,by decide,fun _=>g0 (by decide),fun _=>by rw[jT bQ bQ];rfl,fun h=>absurd h (by decide)⟩ (bO (by decide))
 ·cbv;repeat'((first|refine .y fun h=>?_|refine .mk (fun h=>?_) fun h=>?_|refine .k fun z hz=>?_|refine .o ?_|refine And.intro ?_ ?_|fail)<;>cbv)
  ·exact hcl
  ·(refine fI hf (⟨sc1,hc1,cc1⟩,⟨⟨nq1,cq1,sq1,frm1,to1,bq1,pq1,iq1,lq1⟩,st1,⟨sa1,ha1,ca1⟩,⟨sb1,hb1,cb1⟩,⟨sc1,hc1,cc1⟩⟩,⟨bill,index,least,by_,state,day,dated,wrong⟩) [4,5,0,1,2,3] (by dsimp only;omega) ?_;try dsimp only)
   rw[←hq2];cases q2 with
   |true=>
    cbv
    (refine .q9 ?_;cbv;exact .inl (.f9 (cE hK (by simp[eJ,h]))))
   |false=>
    cbv;repeat'((first|refine .k fun z hz=>?_|fail)<;>cbv)
    obtain rfl:z=nI 3:=bQ;exact bN ⟨3,by decide,fun _=>g0 (by decide),fun _=>g1 (by decide),fun _=>Bool.and_false _⟩ (bO (by decide))
  ·exact hcl
  ·(refine fI hf (⟨sc1,hc1,cc1⟩,⟨⟨nq1,cq1,sq1,frm1,to1,bq1,pq1,iq1,lq1⟩,st1,⟨sa1,ha1,ca1⟩,⟨sb1,hb1,cb1⟩,⟨sc1,hc1,cc1⟩⟩,⟨bill,index,least,by_,state,day,dated,wrong⟩) [4,5,0,1,2,3] (by dsimp only;omega) ?_;try dsimp only)
   rw[←hq2];cases q2 with
   |true=>
    cbv
    (refine .q9 ?_;cbv;exact .inl (.f9 (cE hK (by simp[eJ,h]))))
   |false=>
    cbv;repeat'((first|refine .k fun z hz=>?_|fail)<;>cbv)
    obtain rfl:z=nI 3:=bQ;exact bN ⟨3,by decide,fun _=>g0 (by decide),fun _=>g1 (by decide),fun _=>Bool.and_false _⟩ (bO (by decide))
  ·obtain rfl:z=nI 3:=bQ;exact bN ⟨3,by decide,fun _=>g0 (by decide),fun _=>g1 (by decide),fun _=>by rw[jT bQ bQ];rfl⟩ (bO (by decide))
def gK (n:Int):Bool:=decide (0≤n) && decide (n≤1048576)
def DZ:dA:=spec (fun z:Int=>[.i z]) (fun _=>[]) (fun _=>True) (fun z=>.bl (gK z)) fun _=>[]
theorem IE (P:bI):bM P Xt DZ:=by
 intro args H K hc;obtain⟨z,rfl,rfl,hp,hK⟩:=hc;refine⟨cL,?_⟩;dsimp only at hp hK⊢;cbv;repeat'((first|refine .mk (fun h=>?_) fun h=>?_|fail)<;>cbv)
 all_goals exact bZ.mk ⟨_,Gh.refl _,.inl (.v9 (cE hK (by(unfold gK;simp;omega))))⟩
def k1 (a:Ak):Bool:=decide (a.index < a.least) || decide (3≤a.index)
def k2 (a:Ak):Bool:=a.wrong || (a.dated && !gK a.day)
def k3 (b:Br) (a:Ak):Bool:=!decide (b.st=0) || lA a.index b (pB a)
def k4 (b:Br) (a:Ak):Bool:=lA a.index b (jG a)
def k5 (b:Br) (a:Ak):Bool:=a.dated && lA a.index b (BA b a)
def nT (b:Br) (a:Ak):Int:=if k1 a then 3 else if k2 a then 1 else if k3 b a then 9 else if k4 b a then 8 else if k5 b a then 6 else 0
def B1 (p:Ak→Bool):dA:=spec (fun _:Ak=>[.ptr 0 0]) (fun i=>[.blk 186 (Gv i)]) (fun _=>True) (fun i=>.bl (p i)) fun i=>[.blk 186 (Gv i)]
def pU (args:List AV) (p:Br→Ak→Bool):dA:=spec (fun _:Br×Ak=>args) (fun i=>MX i.1 i.2) (fun i=>mJ i.1) (fun i=>.bl (p i.1 i.2)) fun i=>MX i.1 i.2
theorem Kh (P:bI):bM P V0 (pU [.ptr 1 0] fun _ _=>false):=by
 intro args H K hc;obtain⟨⟨y,⟨bill,index,least,by_,state,day,dated,wrong⟩⟩,rfl,rfl,hp,hK⟩:=hc;refine⟨cL,?_⟩;dsimp only at hp hK⊢;obtain⟨⟨nq1,cq1,sq1,frm1,to1,bq1,pq1,iq1,lq1⟩,st1,⟨sa1,ha1,ca1⟩,⟨sb1,hb1,cb1⟩,⟨sc1,hc1,cc1⟩⟩:=y;cbv
 (refine .q9 ?_;cbv;exact .inl (.f9 hK))
theorem KH (P:bI):bM P YM (B1 k1):=by
 intro args H K hc;obtain⟨⟨bill,index,least,by_,state,day,dated,wrong⟩,rfl,rfl,hp,hK⟩:=hc;refine⟨cL,?_⟩;dsimp only at hp hK⊢;unfold k1 at hK;dsimp only at hK;cbv;repeat'((first|refine .mk (fun h=>?_) fun h=>?_|fail)<;>cbv)
 all_goals(refine .q9 ?_;cbv;exact .inl (.f9 (cE hK (by simp;omega))))
theorem Lh (P:bI) (hd:bK P 109 DZ):bM P X5 (B1 k2):=by
 intro args H K hc;obtain⟨⟨bill,index,least,by_,state,day,dated,wrong⟩,rfl,rfl,hp,hK⟩:=hc;refine⟨cL,?_⟩;dsimp only at hp hK⊢;unfold k2 at hK;dsimp only at hK;obtain⟨q,hq⟩:∃x,x=(gK day):=⟨_,rfl⟩
 rw[←hq]at hK;cases wrong with
 |true=>
  cbv
  (refine .q9 ?_;cbv;exact .inl (.f9 hK))
 |false=>
  cases dated with
  |false=>
   cbv
   (refine .q9 ?_;cbv;exact .inl (.f9 hK))
  |true=>
   cbv
   (refine bX hd day trivial ?_;try dsimp only)
   rw[←hq];cases q with
   |true=>
    cbv
    (refine .q9 ?_;cbv;exact .inl (.f9 hK))
   |false=>
    cbv
    (refine .q9 ?_;cbv;exact .inl (.f9 hK))
theorem KR (P:bI) (hs:bK P 111 (EH 112 pB)):bM P Yw (pU [.ptr 1 0,.ptr 0 0] k3):=by
 intro args H K hc;obtain⟨⟨y,⟨bill,index,least,by_,state,day,dated,wrong⟩⟩,rfl,rfl,hp,hK⟩:=hc;refine⟨cL,?_⟩;dsimp only at hp hK⊢;obtain⟨q,hq⟩:∃x,x=(lA index y (pB ⟨bill,index,least,by_,state,day,dated,wrong⟩)):=⟨_,rfl⟩
 unfold k3 at hK;dsimp only at hK;rw[←hq]at hK;obtain⟨⟨nq1,cq1,sq1,frm1,to1,bq1,pq1,iq1,lq1⟩,st1,⟨sa1,ha1,ca1⟩,⟨sb1,hb1,cb1⟩,⟨sc1,hc1,cc1⟩⟩:=y;dsimp only at hK;by_cases h0:st1=0
 ·cbv;repeat'((first|refine .y fun h=>?_|fail)<;>cbv)
  (refine fI hs (⟨⟨nq1,cq1,sq1,frm1,to1,bq1,pq1,iq1,lq1⟩,st1,⟨sa1,ha1,ca1⟩,⟨sb1,hb1,cb1⟩,⟨sc1,hc1,cc1⟩⟩,index,⟨bill,index,least,by_,state,day,dated,wrong⟩) [2,3,4,5,0] hp ?_;try dsimp only)
  rw[←hq];cbv
  (refine .q9 ?_;cbv;exact .inl (.f9 (cE hK (by simp[h0]))))
 ·cbv;repeat'((first|refine .n fun h=>?_|fail)<;>cbv)
  (refine .q9 ?_;cbv;exact .inl (.f9 (cE hK (by simp[h0]))))
theorem Kv (P:bI) (hs:bK P 111 (EH 114 jG)):bM P Xh (pU [.ptr 1 0,.ptr 0 0] k4):=by
 intro args H K hc;obtain⟨⟨y,⟨bill,index,least,by_,state,day,dated,wrong⟩⟩,rfl,rfl,hp,hK⟩:=hc;refine⟨cL,?_⟩;dsimp only at hp hK⊢;obtain⟨q,hq⟩:∃x,x=(lA index y (jG ⟨bill,index,least,by_,state,day,dated,wrong⟩)):=⟨_,rfl⟩
 unfold k4 at hK;dsimp only at hK;rw[←hq]at hK;obtain⟨⟨nq1,cq1,sq1,frm1,to1,bq1,pq1,iq1,lq1⟩,st1,⟨sa1,ha1,ca1⟩,⟨sb1,hb1,cb1⟩,⟨sc1,hc1,cc1⟩⟩:=y;cbv
 (refine fI hs (⟨⟨nq1,cq1,sq1,frm1,to1,bq1,pq1,iq1,lq1⟩,st1,⟨sa1,ha1,ca1⟩,⟨sb1,hb1,cb1⟩,⟨sc1,hc1,cc1⟩⟩,index,⟨bill,index,least,by_,state,day,dated,wrong⟩) [2,3,4,5,0] hp ?_;try dsimp only)
 rw[←hq];cbv
 (refine .q9 ?_;cbv;exact .inl (.f9 hK))
theorem KV (P:bI) (hs:bK P 111 (N0 116)):bM P XV (pU [.ptr 0 0,.ptr 1 0] k5):=by
 intro args H K hc;obtain⟨⟨y,⟨bill,index,least,by_,state,day,dated,wrong⟩⟩,rfl,rfl,hp,hK⟩:=hc;refine⟨cL,?_⟩;dsimp only at hp hK⊢;obtain⟨q,hq⟩:∃x,x=(lA index y (BA y ⟨bill,index,least,by_,state,day,dated,wrong⟩)):=⟨_,rfl⟩
 unfold k5 at hK;dsimp only at hK;rw[←hq]at hK;obtain⟨⟨nq1,cq1,sq1,frm1,to1,bq1,pq1,iq1,lq1⟩,st1,⟨sa1,ha1,ca1⟩,⟨sb1,hb1,cb1⟩,⟨sc1,hc1,cc1⟩⟩:=y;cases dated with
 |false=>
  cbv
  (refine .q9 ?_;cbv;exact .inl (.f9 hK))
 |true=>
  cbv
  (refine fI hs (⟨⟨nq1,cq1,sq1,frm1,to1,bq1,pq1,iq1,lq1⟩,st1,⟨sa1,ha1,ca1⟩,⟨sb1,hb1,cb1⟩,⟨sc1,hc1,cc1⟩⟩,index,⟨bill,index,least,by_,state,day,true,wrong⟩) [2,3,4,5,0,1] hp ?_;try dsimp only)
  rw[←hq];cbv
  (refine .q9 ?_;cbv;exact .inl (.f9 hK))
def P0:List AV:=[.i 4,.clo 106 [.ptr 2 0],.i 3,.clo 107 [.ptr 1 0],.i 1,.clo 108 [.ptr 1 0],.i 9,.clo 110 [.ptr 2 0,.ptr 1 0],.i 8,.clo 113 [.ptr 2 0,.ptr 1 0],.i 6,.clo 115 [.ptr 1 0,.ptr 2 0]]
def TM (b:Br) (a:Ak):List cG:=.hrow 210 2 6 P0 :: gA [] 1 (MX b a)
def SV:dA:=spec (fun _:Br×Ak=>[.hd 0]) (fun i=>TM i.1 i.2) (fun i=>mJ i.1) (fun i=>.i (nT i.1 i.2)) fun i=>TM i.1 i.2
def Ul:dA:=spec (fun _:Ak=>[.hd 0]) (fun i=>[.hrow 210 2 6 P0,.blk 186 (Gv i),.blk 119 [.v (.pointer none)]]) (fun _=>True) (fun _=>.i 4) fun i=>[.hrow 210 2 6 P0,.blk 186 (Gv i),.blk 119 [.v (.pointer none)]]
structure XM (P:bI):Prop where
 m1:dB P 106
 m2:dB P 107
 m3:dB P 108
 m4:dB P 110
 m5:dB P 113
 m6:dB P 115
 f1:bK P 106 (pU [.ptr 1 0] fun _ _=>false)
 f2:bK P 107 (B1 k1)
 f3:bK P 108 (B1 k2)
 f4:bK P 110 (pU [.ptr 1 0,.ptr 0 0] k3)
 f5:bK P 113 (pU [.ptr 1 0,.ptr 0 0] k4)
 f6:bK P 115 (pU [.ptr 0 0,.ptr 1 0] k5)
theorem Iq (P:bI) (F:XM P):bM P T4 SV:=by
 intro args H K hc;obtain⟨⟨y,⟨bill,index,least,by_,state,day,dated,wrong⟩⟩,rfl,rfl,hp,hK⟩:=hc;refine⟨cL,?_⟩;dsimp only at hp hK⊢;have he:nT y ⟨bill,index,least,by_,state,day,dated,wrong⟩=if k1 ⟨bill,index,least,by_,state,day,dated,wrong⟩ then 3 else if k2 ⟨bill,index,least,by_,state,day,dated,wrong⟩ then 1 else if k3 y ⟨bill,index,least,by_,state,day,dated,wrong⟩ then 9 else if k4 y ⟨bill,index,least,by_,state,day,dated,wrong⟩ then 8 else if k5 y ⟨bill,index,least,by_,state,day,dated,wrong⟩ then 6 else 0:=rfl
 obtain⟨e,hee⟩:∃e,e=nT y ⟨bill,index,least,by_,state,day,dated,wrong⟩:=⟨_,rfl⟩
 rw[←hee]at hK he;obtain⟨q1,hq1⟩:∃q,q=k1 ⟨bill,index,least,by_,state,day,dated,wrong⟩:=⟨_,rfl⟩
 obtain⟨q2,hq2⟩:∃q,q=k2 ⟨bill,index,least,by_,state,day,dated,wrong⟩:=⟨_,rfl⟩
 obtain⟨q3,hq3⟩:∃q,q=k3 y ⟨bill,index,least,by_,state,day,dated,wrong⟩:=⟨_,rfl⟩
 obtain⟨q4,hq4⟩:∃q,q=k4 y ⟨bill,index,least,by_,state,day,dated,wrong⟩:=⟨_,rfl⟩
 obtain⟨q5,hq5⟩:∃q,q=k5 y ⟨bill,index,least,by_,state,day,dated,wrong⟩:=⟨_,rfl⟩
 rw[←hq1,←hq2,←hq3,←hq4,←hq5]at he;obtain⟨⟨nq1,cq1,sq1,frm1,to1,bq1,pq1,iq1,lq1⟩,st1,⟨sa1,ha1,ca1⟩,⟨sb1,hb1,cb1⟩,⟨sc1,hc1,cc1⟩⟩:=y;cbv;refine bS [] (fun p:{ k:Nat // k≤6∧(2≤k→q1=false)∧(3≤k→q2=false)∧(4≤k→q3=false)∧(5≤k→q4=false)∧(6≤k→q5=false) }=>[(7,.i (nI p.1))]) (fun _=>TM ⟨⟨nq1,cq1,sq1,frm1,to1,bq1,pq1,iq1,lq1⟩,st1,⟨sa1,ha1,ca1⟩,⟨sb1,hb1,cb1⟩,⟨sc1,hc1,cc1⟩⟩ ⟨bill,index,least,by_,state,day,dated,wrong⟩) (fun p=>eW 6 p.1) ⟨0,by decide,fun h=>absurd h (by decide),fun h=>absurd h (by decide),fun h=>absurd h (by decide),fun h=>absurd h (by decide),fun h=>absurd h (by decide)⟩ ?_;rintro ⟨k,hk,g1,g2,g3,g4,g5⟩;dsimp only at hk g1 g2 g3 g4 g5⊢;have hk4:k=0∨k=1∨k=2∨k=3∨k=4∨k=5∨k=6:=by omega
 rcases hk4 with rfl|rfl|rfl|rfl|rfl|rfl|rfl
 ·cbv;repeat'((first|refine .y fun h=>?_|refine .o ?_|refine And.intro ?_ ?_|fail)<;>cbv)
  ·exact F.m1
  ·(refine fI F.f1 (⟨⟨nq1,cq1,sq1,frm1,to1,bq1,pq1,iq1,lq1⟩,st1,⟨sa1,ha1,ca1⟩,⟨sb1,hb1,cb1⟩,⟨sc1,hc1,cc1⟩⟩,⟨bill,index,least,by_,state,day,dated,wrong⟩) [1,2,3,4,5,6] hp ?_;try dsimp only)
   cbv;repeat'((first|refine .k fun z hz=>?_|fail)<;>cbv)
   obtain rfl:z=nI 1:=bQ;exact bN ⟨1,by decide,fun h=>absurd h (by decide),fun h=>absurd h (by decide),fun h=>absurd h (by decide),fun h=>absurd h (by decide),fun h=>absurd h (by decide)⟩ (bO (by decide))
 ·cbv;repeat'((first|refine .y fun h=>?_|refine .o ?_|refine And.intro ?_ ?_|fail)<;>cbv)
  ·exact F.m2
  (refine fI F.f2 ⟨bill,index,least,by_,state,day,dated,wrong⟩ [1] trivial ?_;try dsimp only)
  rw[←hq1];cases q1 with
  |true=>
   cbv
   (refine .q9 ?_;cbv;exact .inl (.f9 (fO hK (by rw[he];rfl))))
  |false=>
   cbv;repeat'((first|refine .k fun z hz=>?_|fail)<;>cbv)
   obtain rfl:z=nI 2:=bQ;exact bN ⟨2,by decide,fun _=>rfl,fun h=>absurd h (by decide),fun h=>absurd h (by decide),fun h=>absurd h (by decide),fun h=>absurd h (by decide)⟩ (bO (by decide))
 ·cbv;repeat'((first|refine .y fun h=>?_|refine .o ?_|refine And.intro ?_ ?_|fail)<;>cbv)
  ·exact F.m3
  have e1:=g1 (by decide)
  (refine fI F.f3 ⟨bill,index,least,by_,state,day,dated,wrong⟩ [1] trivial ?_;try dsimp only)
  rw[←hq2];cases q2 with
  |true=>
   cbv
   (refine .q9 ?_;cbv;exact .inl (.f9 (fO hK (by rw[he,e1];rfl))))
  |false=>
   cbv;repeat'((first|refine .k fun z hz=>?_|fail)<;>cbv)
   obtain rfl:z=nI 3:=bQ;exact bN ⟨3,by decide,fun _=>g1 (by decide),fun _=>rfl,fun h=>absurd h (by decide),fun h=>absurd h (by decide),fun h=>absurd h (by decide)⟩ (bO (by decide))
 ·cbv;repeat'((first|refine .y fun h=>?_|refine .o ?_|refine And.intro ?_ ?_|fail)<;>cbv)
  ·exact F.m4
  have e1:=g1 (by decide);have e2:=g2 (by decide)
  (refine fI F.f4 (⟨⟨nq1,cq1,sq1,frm1,to1,bq1,pq1,iq1,lq1⟩,st1,⟨sa1,ha1,ca1⟩,⟨sb1,hb1,cb1⟩,⟨sc1,hc1,cc1⟩⟩,⟨bill,index,least,by_,state,day,dated,wrong⟩) [1,2,3,4,5,6] hp ?_;try dsimp only)
  rw[←hq3];cases q3 with
  |true=>
   cbv
   (refine .q9 ?_;cbv;exact .inl (.f9 (fO hK (by rw[he,e1,e2];rfl))))
  |false=>
   cbv;repeat'((first|refine .k fun z hz=>?_|fail)<;>cbv)
   obtain rfl:z=nI 4:=bQ;exact bN ⟨4,by decide,fun _=>g1 (by decide),fun _=>g2 (by decide),fun _=>rfl,fun h=>absurd h (by decide),fun h=>absurd h (by decide)⟩ (bO (by decide))
 ·cbv;repeat'((first|refine .y fun h=>?_|refine .o ?_|refine And.intro ?_ ?_|fail)<;>cbv)
  ·exact F.m5
  have e1:=g1 (by decide);have e2:=g2 (by decide);have e3:=g3 (by decide)
  (refine fI F.f5 (⟨⟨nq1,cq1,sq1,frm1,to1,bq1,pq1,iq1,lq1⟩,st1,⟨sa1,ha1,ca1⟩,⟨sb1,hb1,cb1⟩,⟨sc1,hc1,cc1⟩⟩,⟨bill,index,least,by_,state,day,dated,wrong⟩) [1,2,3,4,5,6] hp ?_;try dsimp only)
  rw[←hq4];cases q4 with
  |true=>
   cbv
   (refine .q9 ?_;cbv;exact .inl (.f9 (fO hK (by rw[he,e1,e2,e3];rfl))))
  |false=>
   cbv;repeat'((first|refine .k fun z hz=>?_|fail)<;>cbv)
   obtain rfl:z=nI 5:=bQ;exact bN ⟨5,by decide,fun _=>g1 (by decide),fun _=>g2 (by decide),fun _=>g3 (by decide),fun _=>rfl,fun h=>absurd h (by decide)⟩ (bO (by decide))
 ·cbv;repeat'((first|refine .y fun h=>?_|refine .o ?_|refine And.intro ?_ ?_|fail)<;>cbv)
  ·exact F.m6
  have e1:=g1 (by decide);have e2:=g2 (by decide);have e3:=g3 (by decide);have e4:=g4 (by decide)
  (refine fI F.f6 (⟨⟨nq1,cq1,sq1,frm1,to1,bq1,pq1,iq1,lq1⟩,st1,⟨sa1,ha1,ca1⟩,⟨sb1,hb1,cb1⟩,⟨sc1,hc1,cc1⟩⟩,⟨bill,index,least,by_,state,day,dated,wrong⟩) [1,2,3,4,5,6] hp ?_;try dsimp only)
  rw[←hq5];cases q5 with
  |true=>
   cbv
   (refine .q9 ?_;cbv;exact .inl (.f9 (fO hK (by rw[he,e1,e2,e3,e4];rfl))))
  |false=>
   cbv;repeat'((first|refine .k fun z hz=>?_|fail)<;>cbv)
   obtain rfl:z=nI 6:=bQ;exact bN ⟨6,by decide,fun _=>g1 (by decide),fun _=>g2 (by decide),fun _=>g3 (by decide),fun _=>g4 (by decide),fun _=>rfl⟩ (bO (by decide))
 ·have e1:=g1 (by decide);have e2:=g2 (by decide);have e3:=g3 (by decide);have e4:=g4 (by decide);have e5:=g5 (by decide);cbv;repeat'((first|refine .n fun h=>?_|fail)<;>cbv)
  (refine .q9 ?_;cbv;exact .inl (.f9 (fO hK (by rw[he,e1,e2,e3,e4,e5];rfl))))
theorem Es (P:bI) (hm:dB P 106) (hf:bK P 106 (spec (fun _:Unit=>[.ptr 0 0]) (fun _=>[.blk 119 [.v (.pointer none)]]) (fun _=>True) (fun _=>.bl true) fun _=>[.blk 119 [.v (.pointer none)]])):bM P T4 Ul:=by
 intro args H K hc;obtain⟨⟨bill,index,least,by_,state,day,dated,wrong⟩,rfl,rfl,hp,hK⟩:=hc;refine⟨cL,?_⟩;dsimp only at hp hK⊢;cbv;refine bS [] (fun p:Unit=>[(7,.i 0)]) (fun _=>[.hrow 210 2 6 P0,.blk 186 (Gv ⟨bill,index,least,by_,state,day,dated,wrong⟩),.blk 119 [.v (.pointer none)]]) (fun p=>eW 6 0) () ?_;rintro ⟨⟩;cbv;repeat'((first|refine .y fun h=>?_|refine .o ?_|refine And.intro ?_ ?_|fail)<;>cbv)
 ·exact hm
 ·(refine fI hf () [2] trivial ?_;try dsimp only)
  cbv
  (refine .q9 ?_;cbv;exact .inl (.f9 hK))
theorem H5 (P:bI):bM P V0 (spec (fun _:Unit=>[.ptr 0 0]) (fun _=>[.blk 119 [.v (.pointer none)]]) (fun _=>True) (fun _=>.bl true) fun _=>[.blk 119 [.v (.pointer none)]]):=by
 intro args H K hc;obtain⟨⟨⟩,rfl,rfl,hp,hK⟩:=hc;refine⟨cL,?_⟩;dsimp only at hp hK⊢;cbv
 (refine .q9 ?_;cbv;exact .inl (.f9 hK))
def eM (L:List Br) (a:Ak):Int:=match oL L a.bill with
 |some i=>match L[i]? with
  |some b=>nT b a
  |none=>4
 |none=>4
def Lc:dA:=spec (fun i:Rg×Ak=>[.ptr 0 0,.agg (Gv i.2)]) (fun i=>iQ i.1) (fun i=>∀b∈i.1.bills,mJ b) (fun i=>.i (eM i.1.bills i.2)) fun i=>iQ i.1
theorem NZ (P:bI) (hf:bK P 105 SV) (hn:bK P 105 Ul):bM P x78 Lc:=by
 intro args H K hc;obtain⟨⟨⟨carrier,L⟩,⟨bill,index,least,by_,state,day,dated,wrong⟩⟩,rfl,rfl,hp,hK⟩:=hc;refine⟨cL,?_⟩;dsimp only at hp hK⊢;obtain⟨e,he⟩:∃e,e=eM L ⟨bill,index,least,by_,state,day,dated,wrong⟩:=⟨_,rfl⟩
 rw[←he]at hK;cbv;repeat'((first|refine And.intro ?_ ?_|fail)<;>cbv)
 all_goals
  refine eE (fun b:Br=>b.b.number) (fun _=>rfl) (fun i y hai hy hky=>?_) (fun hai=>?_)<;>dsimp only at *
  ·have hch:=hp y (aC hy);have hee:e=nT y ⟨bill,index,least,by_,state,day,dated,wrong⟩:=by rw[he];unfold eM oL;dsimp only;rw[hai];dsimp only;rw[hy]
   obtain⟨q,hq⟩:∃q,q=nT y ⟨bill,index,least,by_,state,day,dated,wrong⟩:=⟨_,rfl⟩
   rw[←hq]at hee;obtain⟨⟨nq1,cq1,sq1,frm1,to1,bq1,pq1,iq1,lq1⟩,st1,⟨sa1,ha1,ca1⟩,⟨sb1,hb1,cb1⟩,⟨sc1,hc1,cc1⟩⟩:=y;cbv
   (refine fI hf (⟨⟨nq1,cq1,sq1,frm1,to1,bq1,pq1,iq1,lq1⟩,st1,⟨sa1,ha1,ca1⟩,⟨sb1,hb1,cb1⟩,⟨sc1,hc1,cc1⟩⟩,⟨bill,index,least,by_,state,day,dated,wrong⟩) [8,2,3,4,5,6,7] hch ?_;try dsimp only)
   rw[←hq];cbv
   (refine .r9 (Gh.back0 1 [4,5,6,7] aaI rfl hy) ?_;cbv;exact .inl (.f9 (fO hK hee.symm)))
  ·have hee:e=4:=by rw[he];unfold eM oL;dsimp only;rw[hai]
   cbv
   (refine fI hn ⟨bill,index,least,by_,state,day,dated,wrong⟩ [4,2,3] trivial ?_;try dsimp only)
   cbv
   (refine .q9 ?_;cbv;exact .inl (.f9 (fO hK hee.symm)))
end Go.Proofs.YtigdiekbiphhmaaGreatDoor
end
