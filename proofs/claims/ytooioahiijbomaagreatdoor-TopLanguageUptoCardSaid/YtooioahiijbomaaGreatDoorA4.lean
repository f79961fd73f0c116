/-
  Texts of this proof,joined: X,RA,EA,EB,EC,NumLaw,ED,EE,EF,EG,EH,EI,EJ.
-/
import Derived.Test.YtooioahiijbomaaGreatDoorA3
import Derived.IntWalk
import Derived.KernelRfl
import Derived.Lib.ItoaMem
import Derived.Lib.ParseIntBCases
set_option linter.unusedVariables false
set_option linter.unusedSimpArgs false
noncomputable section
namespace Go.Proofs.YtooioahiijbomaaGreatDoor
open Go.RowKit
def se:AV:=.str ⟨#[]⟩
def sn:AV:=.v (.slice none 0 0)
def zi:AV:=.int .i64 0
def zs (d:Nat) (o:fT):hU:=⟨some d,none,o⟩
def zm (d a:Nat):hU:=⟨some d,none,.mov (.t a)⟩
def zf (d f a:Nat):hU:=⟨some d,none,.fad f (.t a)⟩
def zl (d a:Nat):hU:=⟨some d,none,.ld false 1 (.t a)⟩
def zg (d g:Nat) (b:Bool) (o:fT):hU:=⟨some d,some (g,b),o⟩
def zh (d g:Nat) (b:Bool) (a:Nat):hU:=⟨some d,some (g,b),.mov (.t a)⟩
def zn (o:fT):hU:=⟨none,none,o⟩
def yl (d a:Nat):hU:=zs d (.lenl (.t a))
def yz (d a:Nat):hU:=zs d (.lens (.t a))
def yi (d n a b:Nat):hU:=zs d (.iad n (.t a) (.t b))
def yt (d n a:Nat):hU:=zs d (.ld true n (.t a))
def yc (d:Nat) (o:BinOp) (a b:Nat):hU:=zs d (.cmp o (.t a) (.t b))
def yk (d:Nat) (o:BinOp) (a:Nat) (n:Int):hU:=zs d (.cmp o (.t a) (.c (.int .i64 n)))
def yj (d:Nat) (n:Int):hU:=zs d (.mov (.c (.int .i64 n)))
def yb (d:Nat) (b:Bool):hU:=zs d (.mov (.c (.bl b)))
def yp (d a:Nat):hU:=zs d (.ari .add .i64 (.t a) (.c (.int .i64 1)))
def ya (d:Nat) (o:BinOp) (k:IntKind) (a b:Nat):hU:=zs d (.ari o k (.t a) (.t b))
def yq (d a:Nat) (b:Bool) (c:Nat):hU:=zs d (.pick (.t a) (.c (.bl b)) (.t c))
def yr (d a c:Nat) (b:Bool):hU:=zs d (.pick (.t a) (.t c) (.c (.bl b)))
def yx (d a n:Nat):hU:=zs d (.ext (.t a) n)
def yo (d a:Nat):hU:=zs d (.not (.t a))
def ys (n a b:Nat):hU:=zn (.st n (.t a) (.t b))
def gl (d g:Nat) (b:Bool) (a:Nat):hU:=zg d g b (.ld false 1 (.t a))
def gf (d g:Nat) (b:Bool) (f a:Nat):hU:=zg d g b (.fad f (.t a))
def ge (d g:Nat) (b:Bool) (a:Nat):hU:=zg d g b (.lenl (.t a))
def gz (d g:Nat) (b:Bool) (a:Nat):hU:=zg d g b (.lens (.t a))
def gc (d g:Nat) (b:Bool) (o:BinOp) (a c:Nat):hU:=zg d g b (.cmp o (.t a) (.t c))
def gk (d g:Nat) (b:Bool) (o:BinOp) (a:Nat) (n:Int):hU:=zg d g b (.cmp o (.t a) (.c (.int .i64 n)))
def ga (d g:Nat) (b:Bool) (o:BinOp) (k:IntKind) (a c:Nat):hU:=zg d g b (.ari o k (.t a) (.t c))
def go (d g:Nat) (b:Bool) (a:Nat):hU:=zg d g b (.not (.t a))
def gi (d g:Nat) (b:Bool) (n a c:Nat):hU:=zg d g b (.iad n (.t a) (.t c))
def zr (l:List hU) (c:gQ):gQ:=.seq (.reg l) c
def x7:dD:=⟨25,zr [yb 0 false] (zr [zs 2 (.bld [se,zi] [(0,(1,.c (.str ⟨#[85,83,68]⟩))),(1,(1,.c (.int .i64 5)))]),zs 3 (.bld [se,se,se,se,se,se,se,se,se,se,zi,sn,zi,zi,zi,zi,zi] [(0,(1,.c (.str ⟨#[100]⟩))),(1,(1,.c (.str ⟨#[115]⟩))),(2,(1,.c (.str ⟨#[121]⟩))),(9,(2,.t 2))]),zs 4 (.call 29 [.t 3]),zs 1 (.alloc 33 [se,se,se,se,se,se,se,se,zi,zi,zi,zi,zi,zi,zi,.bl false,.bl false,sn]),ys 18 1 4] (zr [zf 5 0 1,zl 6 5,zs 7 (.cmp .eql (.t 6) (.c (.str ⟨#[100]⟩))),zm 8 7,gf 9 8 true 2 1,gl 10 8 true 9,zg 11 8 true (.cmp .eql (.t 10) (.c (.str ⟨#[115]⟩))),yr 12 8 11 false,zm 13 12,gf 14 13 true 17 1,gl 15 13 true 14,ge 16 13 true 15,gk 17 13 true .eql 16 4,yr 18 13 17 false,zm 19 18,gf 20 19 true 7 1,gf 21 19 true 1 20,gl 22 19 true 21,gk 23 19 true .eql 22 5,yr 24 19 23 false,zm 0 24] .ret)),[.tmp 0]⟩
def x8:dD:=⟨126,zr [zs 1 (.box 29 (.t 0)),zs 2 (.alloc 33 [se,se,se,se,se,se,se,se,zi,zi,zi,zi,zi,zi,zi,.bl false,.bl false,sn]),zs 3 (.mov (.c sn)),yb 4 false] (zr [yj 5 0] (.seq (zr [zf 14 0 1,zf 15 11 14,zl 16 15,yl 17 16,yj 18 0] (.block 0 (.loop (zr [yc 19 .lss 18 17] (.seq (.cond (.t 19) .skip (.exit 0)) (.seq (.block 1 (zr [yi 20 3 16 18,yt 21 3 20,zs 7 (.alloc 83 [se,zi,sn]),ys 3 7 21] (.reg [zm 22 5,zf 23 0 7,zl 24 23,yz 25 24,ya 26 .add .i64 22 25,zm 5 26]))) (.reg [yp 27 18,zm 18 27]))))))) (.seq (zr [zf 28 0 1,zf 29 11 28,zl 30 29,yl 31 30,yk 32 .gtr 31 8,zm 33 32,zh 34 33 false 5,gk 35 33 false .gtr 34 200,yq 36 33 true 35] (.cond (.t 36) (zr [zs 37 (.bld [se,se,se,se,se,se,se,se,zi,zi,zi,zi,zi,zi,zi,.bl false,.bl false,sn] []),ys 18 2 37,zs 3 (.mov (.c sn)),yb 4 false] .ret) .skip)) (zr [zf 38 0 1,yt 39 17 38,zs 40 (.call 29 [.t 39]),zs 8 (.alloc 33 [se,se,se,se,se,se,se,se,zi,zi,zi,zi,zi,zi,zi,.bl false,.bl false,sn]),ys 18 8 40] (.seq (zr [yt 41 18 8,zs 42 (.call 30 [.t 41]),yo 43 42,zm 44 43,gf 45 44 false 17 1,gl 46 44 false 45,zg 47 44 false (.cvi .i64 (.t 46)),gf 48 44 false 11 8,gl 49 44 false 48,gc 50 44 false .gtr 47 49,yq 51 44 true 50,zm 52 51,gf 53 52 false 18 1,gl 54 52 false 53,zg 55 52 false (.cvi .i64 (.t 54)),gf 56 52 false 12 8,gl 57 52 false 56,gc 58 52 false .gtr 55 57,yq 59 52 true 58,zm 60 59,gf 61 60 false 18 1,gl 62 60 false 61,gf 63 60 false 17 1,gl 64 60 false 63,gc 65 60 false .lss 62 64,yq 66 60 true 65,zm 67 66,gf 68 67 false 18 1,gl 69 67 false 68,gf 70 67 false 17 1,gl 71 67 false 70,ga 72 67 false .sub .u16 69 71,zg 73 67 false (.cmp .gtr (.t 72) (.c (.int .u16 21))),yq 74 67 true 73] (.cond (.t 74) (zr [yt 75 18 8,ys 18 2 75,zs 3 (.mov (.c sn)),yb 4 false] .ret) .skip)) (zr [zs 9 (.mov (.c sn))] (.seq (zr [zf 76 0 1,zf 77 11 76,zl 78 77,yl 79 78,yj 80 0] (.block 2 (.loop (zr [yc 81 .lss 80 79] (.seq (.cond (.t 81) .skip (.exit 2)) (.seq (.block 3 (zr [yi 82 3 78 80,yt 83 3 82,zs 11 (.alloc 83 [se,zi,sn]),ys 3 11 83] (.reg [zm 84 9,zf 85 0 11,zl 86 85,zs 87 (.bsl 9 1 1 [se] [(0,.t 86)]),zs 88 (.app 64 64 9 1 16 (.t 84) (.t 87)),zm 9 88]))) (.reg [yp 89 80,zm 80 89]))))))) (zr [zf 90 0 1,zf 91 3 90,zl 92 91,zf 93 0 1,zf 94 1 93,zl 95 94,zf 96 0 1,zf 97 7 96,zl 98 97,zf 99 0 1,zf 100 8 99,zl 101 100,zm 102 9,zf 103 17 1,zl 104 103,zs 105 (.cvi .i64 (.t 104)),zs 106 (.bld [se,se,se,se,se,sn,sn,zi,.bl false] [(0,(1,.c (.str ⟨#[98,108]⟩))),(1,(1,.t 92)),(2,(1,.t 95)),(3,(1,.t 98)),(4,(1,.t 101)),(5,(1,.t 102)),(7,(1,.t 105)),(8,(1,.c (.bl true)))]),zs 12 (.alloc 85 [se,se,se,se,se,sn,sn,zi,.bl false]),ys 9 12 106] (zr [zs 13 (.mov (.c sn))] (.seq (zr [zf 107 0 1,zf 108 6 107,zl 109 108,zs 110 (.cmp .neq (.t 109) (.c se))] (.cond (.t 110) (.reg [zm 111 13,zf 112 0 1,yt 113 17 112,zf 114 0 1,zf 115 9 114,yt 116 2 115,zs 117 (.call 31 [.t 113,.t 116]),zs 118 (.bsl 88 4 1 [zi,se,se,sn] [(0,.t 117)]),zs 119 (.app 34 34 88 4 64 (.t 111) (.t 118)),zm 13 119]) .skip)) (.seq (.dreg (.take 0 (yt 120 18 8) (.take 1 (zf 121 0 1) (.take 2 (yt 122 17 121) (.take 3 (yt 123 9 12) (.take 4 (zm 124 13) (.eff 5 0 true (zs 125 (.call 32 [.t 122,.t 123,.t 124])) (.eff 6 0 false (ys 18 2 120) (.phase (.take 7 (zm 3 125) (.take 8 (yb 4 true) .nil)))))))))) 0 [8,1,12]) .ret))))))))))),[.cell 2 true 18,.tmp 3,.tmp 4]⟩
def x9:dD:=⟨13,zr [zs 3 (.box 33 (.t 0)),yb 6 false] (zr [yt 7 18 3,zm 8 1,zm 9 2,zs 10 (.call 10 [.t 7,.t 8,.t 9]),yl 11 10,yk 12 .eql 11 0,zm 6 12] .ret),[.tmp 6]⟩
def UX:dD:=⟨97,zr [zs 3 (.box 33 (.t 0)),zs 6 (.mov (.c sn))] (zr [zs 7 (.alloc 38 [sn])] (zr [zs 19 (.mkm 91),zs 8 (.alloc 91 [.v (.map none)]),ys 1 8 19] (zr [yt 20 18 3,zm 21 1,zm 22 2,zs 23 (.mkf 33 [.t 8,.t 7]),zs 24 (.bld [se,se,se,se,se,se,se,se,zi,zi,zi,zi,zi,zi,zi,.bl false,.bl false,sn,sn,zi,.v .nilFunc] [(0,(18,.t 20)),(18,(1,.t 21)),(19,(1,.t 22)),(20,(1,.t 23))]),zs 25 (.box 95 (.t 24)),zm 9 25] (.seq (zr [zm 26 2,zf 27 12 3,zl 28 27,yc 29 .gtr 26 28] (.cond (.t 29) (.reg [zm 30 9,zs 31 (.nck (.t 30)),zf 32 20 31,zl 33 32,zs 34 (.bld [zi,zi,se,zi] [(0,(1,.c (.int .i64 (-1)))),(1,(1,.c (.int .i64 (-1)))),(2,(1,.c (.str ⟨#[101,120,112,105,114,121]⟩))),(3,(1,.c (.int .i64 4)))]),zs 35 (.cav (.t 33) [.t 34])]) .skip)) (zr [zs 36 (.mkm 96),zm 10 36] (.seq (zr [zm 37 1,yl 38 37,yj 39 0] (.block 0 (.loop (zr [yc 40 .lss 39 38] (.seq (.cond (.t 40) .skip (.exit 0)) (.seq (.block 1 (zr [yi 41 4 37 39,yt 42 4 41,zs 12 (.alloc 88 [zi,se,se,sn]),ys 4 12 42] (.reg [zm 43 10,zf 44 0 12,zl 45 44,zs 46 (.lkp (.some .i64) false zi (.t 43) (.t 45)),yp 47 46,zn (.upd (.some .i64) (.t 43) (.t 45) (.t 47))]))) (.reg [yp 48 39,zm 39 48]))))))) (zr [zs 49 (.mkm 97),zm 13 49] (.seq (zr [zf 50 17 3,zl 51 50,yl 52 51,yj 53 0] (.block 2 (.loop (zr [yc 54 .lss 53 52] (.seq (.cond (.t 54) .skip (.exit 2)) (.seq (.block 3 (zr [yi 55 8 51 53,yt 56 8 55,zs 15 (.alloc 102 [zi,zi,zi,zi,se,se,zi,sn]),ys 8 15 56] (zr [zm 57 13,zf 58 0 15,zl 59 58,zn (.upd (.some .i64) (.t 57) (.t 59) (.c (.bl true)))] (zr [zm 60 10,zf 61 0 15,zl 62 61,zs 63 (.lkp (.some .i64) false zi (.t 60) (.t 62)),zf 64 1 15,zl 65 64,yc 66 .lss 63 65] (.cond (.t 66) (.dreg (.take 0 (zm 67 9) (.take 1 (zs 68 (.nck (.t 67))) (.take 2 (zf 69 20 68) (.take 3 (zl 70 69) (.take 4 (zf 71 0 15) (.take 5 (zl 72 71) (.take 6 (zs 73 (.bld [zi,zi,se,zi] [(0,(1,.c (.int .i64 (-1)))),(1,(1,.t 72)),(3,(1,.c (.int .i64 1)))])) (.eff 7 0 false (zs 74 (.cav (.t 70) [.t 73])) (.phase .nil))))))))) 0 [9,15]) .skip))))) (.reg [yp 75 53,zm 53 75]))))))) (zr [zs 76 (.mkm 103),zm 16 76] (.seq (zr [zm 77 1,yl 78 77,yj 79 0] (.block 4 (.loop (zr [yc 80 .lss 79 78] (.seq (.cond (.t 80) .skip (.exit 4)) (.seq (.block 5 (zr [zm 81 79,yi 82 4 77 79,yt 83 4 82,zs 18 (.alloc 88 [zi,se,se,sn]),zm 17 81,ys 4 18 83] (zr [zm 84 13,zf 85 0 18,zl 86 85,zs 87 (.lkp (.some .i64) false (.bl false) (.t 84) (.t 86))] (.cond (.t 87) (zr [zm 88 9,zm 89 17,zs 90 (.call 34 [.t 88,.t 89])] (.reg [zm 91 9,zm 92 17,zm 93 16,zs 94 (.call 35 [.t 91,.t 92,.t 93])])) .skip)))) (.reg [yp 95 79,zm 79 95]))))))) (zr [zl 96 7,zm 6 96] .ret))))))))))),[.tmp 6]⟩
def U6:dD:=⟨14,zr [zs 1 (.box 33 (.t 0)),zs 2 (.mov (.c se)),yj 3 0] (.seq (zr [yt 5 18 1,zs 6 (.call 74 [.t 5]),yo 7 6] (.cond (.t 7) (zr [zs 2 (.mov (.c se)),yj 3 1] .ret) .skip)) (zr [yt 8 18 1,zs 9 (.call 75 [.t 8]),zm 4 9] (.seq (zr [zm 10 4,yz 11 10,yk 12 .gtr 11 4096] (.cond (.t 12) (zr [zs 2 (.mov (.c se)),yj 3 7] .ret) .skip)) (zr [zm 13 4,zm 2 13,yj 3 0] .ret)))),[.tmp 2,.tmp 3]⟩
def US:dD:=⟨46,zr [zs 2 (.mov (.c sn)),yj 3 0,yj 4 0] (zr [zs 5 (.mov (.c sn))] (zr [zm 10 0,zs 11 (.bld [se,zi] [(0,(1,.t 10))]),zs 12 (.box 175 (.t 11)),zm 6 12] (.block 0 (.loop (.block 1 (zr [zm 13 6,zs 14 (.call 78 [.t 13,.c (.clo 79 [])])] (.seq (zr [zm 15 6,zs 16 (.nck (.t 15)),zf 17 1 16,zl 18 17,zm 19 0,yz 20 19,yc 21 .geq 18 20] (.cond (.t 21) (zr [zm 22 5,zm 23 0,yz 24 23,zm 2 22,zm 3 24,yj 4 0] .ret) .skip)) (zr [zm 25 6,zs 26 (.nck (.t 25)),zf 27 1 26,zl 28 27,zm 7 28] (.seq (zr [zm 29 5,yl 30 29,yk 31 .geq 30 4096] (.cond (.t 31) (zr [zm 32 7,zs 2 (.mov (.c sn)),zm 3 32,yj 4 7] .ret) .skip)) (zr [zm 34 6,zs 35 (.call 80 [.t 34]),zm 33 35,yx 36 33 0,yx 37 33 1,zs 8 (.alloc 179 [zi,zi,se]),ys 3 8 36,zm 9 37] (.seq (zr [zm 38 9,yk 39 .neq 38 0] (.cond (.t 39) (zr [zm 40 7,zm 41 9,zs 2 (.mov (.c sn)),zm 3 40,zm 4 41] .ret) .skip)) (.reg [zm 42 5,yt 43 3 8,zs 44 (.bsl 179 3 1 [zi,zi,se] [(0,.t 43)]),zs 45 (.app 75 75 179 3 32 (.t 42) (.t 44)),zm 5 45])))))))))))),[.tmp 2,.tmp 3,.tmp 4]⟩
def Vk:dD:=⟨96,zr [zs 1 (.box 26 (.t 0)),zs 2 (.alloc 33 [se,se,se,se,se,se,se,se,zi,zi,zi,zi,zi,zi,zi,.bl false,.bl false,sn])] (zr [zf 4 0 1,zl 5 4,zf 6 2 1,zl 7 6,zf 8 1 1,zl 9 8,zf 10 4 1,zl 11 10,zf 12 7 1,zl 13 12,zf 14 8 1,zl 15 14,zf 16 9 1,yt 17 2 16,zf 18 13 1,zl 19 18,zf 20 14 1,zl 21 20,zf 22 15 1,zl 23 22,zs 24 (.bld [se,se,se,se,se,se,se,se,zi,zi,zi,zi,zi,zi,zi,.bl false,.bl false,sn] [(0,(1,.t 5)),(1,(1,.t 7)),(2,(1,.t 9)),(3,(1,.t 11)),(5,(1,.t 13)),(6,(1,.t 15)),(7,(2,.t 17)),(11,(1,.t 19)),(12,(1,.t 21)),(13,(1,.c (.int .i64 21))),(14,(1,.t 23)),(16,(1,.c (.bl true)))]),zs 3 (.alloc 33 [se,se,se,se,se,se,se,se,zi,zi,zi,zi,zi,zi,zi,.bl false,.bl false,sn]),ys 18 3 24] (.seq (.dreg (.take 0 (yt 25 17 1) (.take 5 (yt 30 17 1) (.take 10 (zf 35 3 1) (.take 11 (zl 36 35) (.take 13 (zf 38 1 1) (.take 14 (zl 39 38) (.take 16 (zf 41 7 1) (.take 17 (zl 42 41) (.take 19 (zf 44 8 1) (.take 20 (zl 45 44) (.take 22 (zf 47 11 1) (.take 23 (zl 48 47) (.take 27 (zf 52 13 1) (.take 28 (zl 53 52) (.take 29 (zs 54 (.bld [zi,zi,se,se,zi,sn] [(0,(1,.c (.int .i64 5))),(2,(1,.c (.str ⟨#[105,115,115,117,101,100]⟩))),(4,(1,.t 53))])) (.fork (.eff 1 0 true (zs 26 (.call 84 [.t 25])) (.fork (.eff 2 0 true (zs 27 (.bsl 9 1 6 [se] [(0,.c (.str ⟨#[115,101,108,108,101,114]⟩)),(1,.c (.str ⟨#[98,117,121,101,114]⟩)),(2,.c (.str ⟨#[99,117,114,114,101,110,99,121]⟩)),(3,.c (.str ⟨#[115,117,109]⟩)),(4,.c (.str ⟨#[102,114,111,109]⟩)),(5,.c (.str ⟨#[116,111]⟩))])) (.fork (.eff 3 1 true (zs 28 (.call 83 [.t 26,.t 27])) (.fork (.eff 4 1 true (zs 29 (.call 82 [.c zi,.t 28])) (.fork (.eff 6 1 true (zs 31 (.call 85 [.t 30])) (.eff 7 1 true (zs 32 (.bsl 9 1 2 [se] [(0,.c (.str ⟨#[98,111,120,101,115]⟩)),(1,.c (.str ⟨#[109,97,114,107,115]⟩))])) (.eff 8 2 true (zs 33 (.call 83 [.t 31,.t 32])) (.eff 9 2 true (zs 34 (.call 82 [.c (.int .i64 1),.t 33])) (.eff 12 2 true (zs 37 (.call 86 [.c (.str ⟨#[99,97,114,114,105,101,114]⟩),.t 36])) (.eff 15 2 true (zs 40 (.call 86 [.c (.str ⟨#[115,104,105,112,112,101,114]⟩),.t 39])) (.eff 18 2 true (zs 43 (.call 86 [.c (.str ⟨#[102,114,111,109]⟩),.t 42])) (.eff 21 2 true (zs 46 (.call 86 [.c (.str ⟨#[116,111]⟩),.t 45])) (.eff 24 2 true (zs 49 (.call 87 [.t 48])) (.eff 25 2 true (zs 50 (.call 86 [.c (.str ⟨#[109,97,114,107,115]⟩),.t 49])) (.eff 26 2 true (zs 51 (.call 86 [.c (.str ⟨#[99,108,101,97,110]⟩),.c (.str ⟨#[121,101,115]⟩)])) (.eff 30 2 false (zs 55 (.bsl 100 6 7 [zi,zi,se,se,zi,sn] [(0,.t 37),(1,.t 40),(2,.t 43),(3,.t 46),(4,.t 50),(5,.t 51),(6,.t 54)])) (.phase (.eff 31 3 false (zs 56 (.call 82 [.c (.int .i64 2),.t 55])) (.phase (.eff 32 3 false (zs 57 (.bsl 102 8 3 [zi,zi,zi,zi,se,se,zi,sn] [(0,.t 29),(1,.t 34),(2,.t 56)])) (.phase (.take 33 (zf 58 17 3) (.eff 34 4 false (ys 1 58 57) (.phase .nil)))))))))))))))))))) (.eff 7 1 true (zs 32 (.bsl 9 1 2 [se] [(0,.c (.str ⟨#[98,111,120,101,115]⟩)),(1,.c (.str ⟨#[109,97,114,107,115]⟩))])) (.eff 6 1 true (zs 31 (.call 85 [.t 30])) (.eff 8 2 true (zs 33 (.call 83 [.t 31,.t 32])) (.eff 9 2 true (zs 34 (.call 82 [.c (.int .i64 1),.t 33])) (.eff 12 2 true (zs 37 (.call 86 [.c (.str ⟨#[99,97,114,114,105,101,114]⟩),.t 36])) (.eff 15 2 true (zs 40 (.call 86 [.c (.str ⟨#[115,104,105,112,112,101,114]⟩),.t 39])) (.eff 18 2 true (zs 43 (.call 86 [.c (.str ⟨#[102,114,111,109]⟩),.t 42])) (.eff 21 2 true (zs 46 (.call 86 [.c (.str ⟨#[116,111]⟩),.t 45])) (.eff 24 2 true (zs 49 (.call 87 [.t 48])) (.eff 25 2 true (zs 50 (.call 86 [.c (.str ⟨#[109,97,114,107,115]⟩),.t 49])) (.eff 26 2 true (zs 51 (.call 86 [.c (.str ⟨#[99,108,101,97,110]⟩),.c (.str ⟨#[121,101,115]⟩)])) (.eff 30 2 false (zs 55 (.bsl 100 6 7 [zi,zi,se,se,zi,sn] [(0,.t 37),(1,.t 40),(2,.t 43),(3,.t 46),(4,.t 50),(5,.t 51),(6,.t 54)])) (.phase (.eff 31 3 false (zs 56 (.call 82 [.c (.int .i64 2),.t 55])) (.phase (.eff 32 3 false (zs 57 (.bsl 102 8 3 [zi,zi,zi,zi,se,se,zi,sn] [(0,.t 29),(1,.t 34),(2,.t 56)])) (.phase (.take 33 (zf 58 17 3) (.eff 34 4 false (ys 1 58 57) (.phase .nil)))))))))))))))))))))) (.eff 7 1 true (zs 32 (.bsl 9 1 2 [se] [(0,.c (.str ⟨#[98,111,120,101,115]⟩)),(1,.c (.str ⟨#[109,97,114,107,115]⟩))])) (.eff 4 1 true (zs 29 (.call 82 [.c zi,.t 28])) (.eff 6 1 true (zs 31 (.call 85 [.t 30])) (.eff 8 2 true (zs 33 (.call 83 [.t 31,.t 32])) (.eff 9 2 true (zs 34 (.call 82 [.c (.int .i64 1),.t 33])) (.eff 12 2 true (zs 37 (.call 86 [.c (.str ⟨#[99,97,114,114,105,101,114]⟩),.t 36])) (.eff 15 2 true (zs 40 (.call 86 [.c (.str ⟨#[115,104,105,112,112,101,114]⟩),.t 39])) (.eff 18 2 true (zs 43 (.call 86 [.c (.str ⟨#[102,114,111,109]⟩),.t 42])) (.eff 21 2 true (zs 46 (.call 86 [.c (.str ⟨#[116,111]⟩),.t 45])) (.eff 24 2 true (zs 49 (.call 87 [.t 48])) (.eff 25 2 true (zs 50 (.call 86 [.c (.str ⟨#[109,97,114,107,115]⟩),.t 49])) (.eff 26 2 true (zs 51 (.call 86 [.c (.str ⟨#[99,108,101,97,110]⟩),.c (.str ⟨#[121,101,115]⟩)])) (.eff 30 2 false (zs 55 (.bsl 100 6 7 [zi,zi,se,se,zi,sn] [(0,.t 37),(1,.t 40),(2,.t 43),(3,.t 46),(4,.t 50),(5,.t 51),(6,.t 54)])) (.phase (.eff 31 3 false (zs 56 (.call 82 [.c (.int .i64 2),.t 55])) (.phase (.eff 32 3 false (zs 57 (.bsl 102 8 3 [zi,zi,zi,zi,se,se,zi,sn] [(0,.t 29),(1,.t 34),(2,.t 56)])) (.phase (.take 33 (zf 58 17 3) (.eff 34 4 false (ys 1 58 57) (.phase .nil))))))))))))))))))))))) (.eff 7 1 true (zs 32 (.bsl 9 1 2 [se] [(0,.c (.str ⟨#[98,111,120,101,115]⟩)),(1,.c (.str ⟨#[109,97,114,107,115]⟩))])) (.eff 3 1 true (zs 28 (.call 83 [.t 26,.t 27])) (.eff 4 1 true (zs 29 (.call 82 [.c zi,.t 28])) (.eff 6 1 true (zs 31 (.call 85 [.t 30])) (.eff 8 2 true (zs 33 (.call 83 [.t 31,.t 32])) (.eff 9 2 true (zs 34 (.call 82 [.c (.int .i64 1),.t 33])) (.eff 12 2 true (zs 37 (.call 86 [.c (.str ⟨#[99,97,114,114,105,101,114]⟩),.t 36])) (.eff 15 2 true (zs 40 (.call 86 [.c (.str ⟨#[115,104,105,112,112,101,114]⟩),.t 39])) (.eff 18 2 true (zs 43 (.call 86 [.c (.str ⟨#[102,114,111,109]⟩),.t 42])) (.eff 21 2 true (zs 46 (.call 86 [.c (.str ⟨#[116,111]⟩),.t 45])) (.eff 24 2 true (zs 49 (.call 87 [.t 48])) (.eff 25 2 true (zs 50 (.call 86 [.c (.str ⟨#[109,97,114,107,115]⟩),.t 49])) (.eff 26 2 true (zs 51 (.call 86 [.c (.str ⟨#[99,108,101,97,110]⟩),.c (.str ⟨#[121,101,115]⟩)])) (.eff 30 2 false (zs 55 (.bsl 100 6 7 [zi,zi,se,se,zi,sn] [(0,.t 37),(1,.t 40),(2,.t 43),(3,.t 46),(4,.t 50),(5,.t 51),(6,.t 54)])) (.phase (.eff 31 3 false (zs 56 (.call 82 [.c (.int .i64 2),.t 55])) (.phase (.eff 32 3 false (zs 57 (.bsl 102 8 3 [zi,zi,zi,zi,se,se,zi,sn] [(0,.t 29),(1,.t 34),(2,.t 56)])) (.phase (.take 33 (zf 58 17 3) (.eff 34 4 false (ys 1 58 57) (.phase .nil)))))))))))))))))))))))) (.eff 7 1 true (zs 32 (.bsl 9 1 2 [se] [(0,.c (.str ⟨#[98,111,120,101,115]⟩)),(1,.c (.str ⟨#[109,97,114,107,115]⟩))])) (.eff 2 0 true (zs 27 (.bsl 9 1 6 [se] [(0,.c (.str ⟨#[115,101,108,108,101,114]⟩)),(1,.c (.str ⟨#[98,117,121,101,114]⟩)),(2,.c (.str ⟨#[99,117,114,114,101,110,99,121]⟩)),(3,.c (.str ⟨#[115,117,109]⟩)),(4,.c (.str ⟨#[102,114,111,109]⟩)),(5,.c (.str ⟨#[116,111]⟩))])) (.eff 3 1 true (zs 28 (.call 83 [.t 26,.t 27])) (.eff 4 1 true (zs 29 (.call 82 [.c zi,.t 28])) (.eff 6 1 true (zs 31 (.call 85 [.t 30])) (.eff 8 2 true (zs 33 (.call 83 [.t 31,.t 32])) (.eff 9 2 true (zs 34 (.call 82 [.c (.int .i64 1),.t 33])) (.eff 12 2 true (zs 37 (.call 86 [.c (.str ⟨#[99,97,114,114,105,101,114]⟩),.t 36])) (.eff 15 2 true (zs 40 (.call 86 [.c (.str ⟨#[115,104,105,112,112,101,114]⟩),.t 39])) (.eff 18 2 true (zs 43 (.call 86 [.c (.str ⟨#[102,114,111,109]⟩),.t 42])) (.eff 21 2 true (zs 46 (.call 86 [.c (.str ⟨#[116,111]⟩),.t 45])) (.eff 24 2 true (zs 49 (.call 87 [.t 48])) (.eff 25 2 true (zs 50 (.call 86 [.c (.str ⟨#[109,97,114,107,115]⟩),.t 49])) (.eff 26 2 true (zs 51 (.call 86 [.c (.str ⟨#[99,108,101,97,110]⟩),.c (.str ⟨#[121,101,115]⟩)])) (.eff 30 2 false (zs 55 (.bsl 100 6 7 [zi,zi,se,se,zi,sn] [(0,.t 37),(1,.t 40),(2,.t 43),(3,.t 46),(4,.t 50),(5,.t 51),(6,.t 54)])) (.phase (.eff 31 3 false (zs 56 (.call 82 [.c (.int .i64 2),.t 55])) (.phase (.eff 32 3 false (zs 57 (.bsl 102 8 3 [zi,zi,zi,zi,se,se,zi,sn] [(0,.t 29),(1,.t 34),(2,.t 56)])) (.phase (.take 33 (zf 58 17 3) (.eff 34 4 false (ys 1 58 57) (.phase .nil))))))))))))))))))))))))) (.fork (.eff 2 0 true (zs 27 (.bsl 9 1 6 [se] [(0,.c (.str ⟨#[115,101,108,108,101,114]⟩)),(1,.c (.str ⟨#[98,117,121,101,114]⟩)),(2,.c (.str ⟨#[99,117,114,114,101,110,99,121]⟩)),(3,.c (.str ⟨#[115,117,109]⟩)),(4,.c (.str ⟨#[102,114,111,109]⟩)),(5,.c (.str ⟨#[116,111]⟩))])) (.fork (.eff 1 0 true (zs 26 (.call 84 [.t 25])) (.fork (.eff 3 1 true (zs 28 (.call 83 [.t 26,.t 27])) (.fork (.eff 4 1 true (zs 29 (.call 82 [.c zi,.t 28])) (.fork (.eff 6 1 true (zs 31 (.call 85 [.t 30])) (.eff 7 1 true (zs 32 (.bsl 9 1 2 [se] [(0,.c (.str ⟨#[98,111,120,101,115]⟩)),(1,.c (.str ⟨#[109,97,114,107,115]⟩))])) (.eff 8 2 true (zs 33 (.call 83 [.t 31,.t 32])) (.eff 9 2 true (zs 34 (.call 82 [.c (.int .i64 1),.t 33])) (.eff 12 2 true (zs 37 (.call 86 [.c (.str ⟨#[99,97,114,114,105,101,114]⟩),.t 36])) (.eff 15 2 true (zs 40 (.call 86 [.c (.str ⟨#[115,104,105,112,112,101,114]⟩),.t 39])) (.eff 18 2 true (zs 43 (.call 86 [.c (.str ⟨#[102,114,111,109]⟩),.t 42])) (.eff 21 2 true (zs 46 (.call 86 [.c (.str ⟨#[116,111]⟩),.t 45])) (.eff 24 2 true (zs 49 (.call 87 [.t 48])) (.eff 25 2 true (zs 50 (.call 86 [.c (.str ⟨#[109,97,114,107,115]⟩),.t 49])) (.eff 26 2 true (zs 51 (.call 86 [.c (.str ⟨#[99,108,101,97,110]⟩),.c (.str ⟨#[121,101,115]⟩)])) (.eff 30 2 false (zs 55 (.bsl 100 6 7 [zi,zi,se,se,zi,sn] [(0,.t 37),(1,.t 40),(2,.t 43),(3,.t 46),(4,.t 50),(5,.t 51),(6,.t 54)])) (.phase (.eff 31 3 false (zs 56 (.call 82 [.c (.int .i64 2),.t 55])) (.phase (.eff 32 3 false (zs 57 (.bsl 102 8 3 [zi,zi,zi,zi,se,se,zi,sn] [(0,.t 29),(1,.t 34),(2,.t 56)])) (.phase (.take 33 (zf 58 17 3) (.eff 34 4 false (ys 1 58 57) (.phase .nil)))))))))))))))))))) (.eff 7 1 true (zs 32 (.bsl 9 1 2 [se] [(0,.c (.str ⟨#[98,111,120,101,115]⟩)),(1,.c (.str ⟨#[109,97,114,107,115]⟩))])) (.eff 6 1 true (zs 31 (.call 85 [.t 30])) (.eff 8 2 true (zs 33 (.call 83 [.t 31,.t 32])) (.eff 9 2 true (zs 34 (.call 82 [.c (.int .i64 1),.t 33])) (.eff 12 2 true (zs 37 (.call 86 [.c (.str ⟨#[99,97,114,114,105,101,114]⟩),.t 36])) (.eff 15 2 true (zs 40 (.call 86 [.c (.str ⟨#[115,104,105,112,112,101,114]⟩),.t 39])) (.eff 18 2 true (zs 43 (.call 86 [.c (.str ⟨#[102,114,111,109]⟩),.t 42])) (.eff 21 2 true (zs 46 (.call 86 [.c (.str ⟨#[116,111]⟩),.t 45])) (.eff 24 2 true (zs 49 (.call 87 [.t 48])) (.eff 25 2 true (zs 50 (.call 86 [.c (.str ⟨#[109,97,114,107,115]⟩),.t 49])) (.eff 26 2 true (zs 51 (.call 86 [.c (.str ⟨#[99,108,101,97,110]⟩),.c (.str ⟨#[121,101,115]⟩)])) (.eff 30 2 false (zs 55 (.bsl 100 6 7 [zi,zi,se,se,zi,sn] [(0,.t 37),(1,.t 40),(2,.t 43),(3,.t 46),(4,.t 50),(5,.t 51),(6,.t 54)])) (.phase (.eff 31 3 false (zs 56 (.call 82 [.c (.int .i64 2),.t 55])) (.phase (.eff 32 3 false (zs 57 (.bsl 102 8 3 [zi,zi,zi,zi,se,se,zi,sn] [(0,.t 29),(1,.t 34),(2,.t 56)])) (.phase (.take 33 (zf 58 17 3) (.eff 34 4 false (ys 1 58 57) (.phase .nil)))))))))))))))))))))) (.eff 7 1 true (zs 32 (.bsl 9 1 2 [se] [(0,.c (.str ⟨#[98,111,120,101,115]⟩)),(1,.c (.str ⟨#[109,97,114,107,115]⟩))])) (.eff 4 1 true (zs 29 (.call 82 [.c zi,.t 28])) (.eff 6 1 true (zs 31 (.call 85 [.t 30])) (.eff 8 2 true (zs 33 (.call 83 [.t 31,.t 32])) (.eff 9 2 true (zs 34 (.call 82 [.c (.int .i64 1),.t 33])) (.eff 12 2 true (zs 37 (.call 86 [.c (.str ⟨#[99,97,114,114,105,101,114]⟩),.t 36])) (.eff 15 2 true (zs 40 (.call 86 [.c (.str ⟨#[115,104,105,112,112,101,114]⟩),.t 39])) (.eff 18 2 true (zs 43 (.call 86 [.c (.str ⟨#[102,114,111,109]⟩),.t 42])) (.eff 21 2 true (zs 46 (.call 86 [.c (.str ⟨#[116,111]⟩),.t 45])) (.eff 24 2 true (zs 49 (.call 87 [.t 48])) (.eff 25 2 true (zs 50 (.call 86 [.c (.str ⟨#[109,97,114,107,115]⟩),.t 49])) (.eff 26 2 true (zs 51 (.call 86 [.c (.str ⟨#[99,108,101,97,110]⟩),.c (.str ⟨#[121,101,115]⟩)])) (.eff 30 2 false (zs 55 (.bsl 100 6 7 [zi,zi,se,se,zi,sn] [(0,.t 37),(1,.t 40),(2,.t 43),(3,.t 46),(4,.t 50),(5,.t 51),(6,.t 54)])) (.phase (.eff 31 3 false (zs 56 (.call 82 [.c (.int .i64 2),.t 55])) (.phase (.eff 32 3 false (zs 57 (.bsl 102 8 3 [zi,zi,zi,zi,se,se,zi,sn] [(0,.t 29),(1,.t 34),(2,.t 56)])) (.phase (.take 33 (zf 58 17 3) (.eff 34 4 false (ys 1 58 57) (.phase .nil))))))))))))))))))))))) (.eff 7 1 true (zs 32 (.bsl 9 1 2 [se] [(0,.c (.str ⟨#[98,111,120,101,115]⟩)),(1,.c (.str ⟨#[109,97,114,107,115]⟩))])) (.eff 3 1 true (zs 28 (.call 83 [.t 26,.t 27])) (.eff 4 1 true (zs 29 (.call 82 [.c zi,.t 28])) (.eff 6 1 true (zs 31 (.call 85 [.t 30])) (.eff 8 2 true (zs 33 (.call 83 [.t 31,.t 32])) (.eff 9 2 true (zs 34 (.call 82 [.c (.int .i64 1),.t 33])) (.eff 12 2 true (zs 37 (.call 86 [.c (.str ⟨#[99,97,114,114,105,101,114]⟩),.t 36])) (.eff 15 2 true (zs 40 (.call 86 [.c (.str ⟨#[115,104,105,112,112,101,114]⟩),.t 39])) (.eff 18 2 true (zs 43 (.call 86 [.c (.str ⟨#[102,114,111,109]⟩),.t 42])) (.eff 21 2 true (zs 46 (.call 86 [.c (.str ⟨#[116,111]⟩),.t 45])) (.eff 24 2 true (zs 49 (.call 87 [.t 48])) (.eff 25 2 true (zs 50 (.call 86 [.c (.str ⟨#[109,97,114,107,115]⟩),.t 49])) (.eff 26 2 true (zs 51 (.call 86 [.c (.str ⟨#[99,108,101,97,110]⟩),.c (.str ⟨#[121,101,115]⟩)])) (.eff 30 2 false (zs 55 (.bsl 100 6 7 [zi,zi,se,se,zi,sn] [(0,.t 37),(1,.t 40),(2,.t 43),(3,.t 46),(4,.t 50),(5,.t 51),(6,.t 54)])) (.phase (.eff 31 3 false (zs 56 (.call 82 [.c (.int .i64 2),.t 55])) (.phase (.eff 32 3 false (zs 57 (.bsl 102 8 3 [zi,zi,zi,zi,se,se,zi,sn] [(0,.t 29),(1,.t 34),(2,.t 56)])) (.phase (.take 33 (zf 58 17 3) (.eff 34 4 false (ys 1 58 57) (.phase .nil)))))))))))))))))))))))) (.eff 7 1 true (zs 32 (.bsl 9 1 2 [se] [(0,.c (.str ⟨#[98,111,120,101,115]⟩)),(1,.c (.str ⟨#[109,97,114,107,115]⟩))])) (.eff 1 0 true (zs 26 (.call 84 [.t 25])) (.eff 3 1 true (zs 28 (.call 83 [.t 26,.t 27])) (.eff 4 1 true (zs 29 (.call 82 [.c zi,.t 28])) (.eff 6 1 true (zs 31 (.call 85 [.t 30])) (.eff 8 2 true (zs 33 (.call 83 [.t 31,.t 32])) (.eff 9 2 true (zs 34 (.call 82 [.c (.int .i64 1),.t 33])) (.eff 12 2 true (zs 37 (.call 86 [.c (.str ⟨#[99,97,114,114,105,101,114]⟩),.t 36])) (.eff 15 2 true (zs 40 (.call 86 [.c (.str ⟨#[115,104,105,112,112,101,114]⟩),.t 39])) (.eff 18 2 true (zs 43 (.call 86 [.c (.str ⟨#[102,114,111,109]⟩),.t 42])) (.eff 21 2 true (zs 46 (.call 86 [.c (.str ⟨#[116,111]⟩),.t 45])) (.eff 24 2 true (zs 49 (.call 87 [.t 48])) (.eff 25 2 true (zs 50 (.call 86 [.c (.str ⟨#[109,97,114,107,115]⟩),.t 49])) (.eff 26 2 true (zs 51 (.call 86 [.c (.str ⟨#[99,108,101,97,110]⟩),.c (.str ⟨#[121,101,115]⟩)])) (.eff 30 2 false (zs 55 (.bsl 100 6 7 [zi,zi,se,se,zi,sn] [(0,.t 37),(1,.t 40),(2,.t 43),(3,.t 46),(4,.t 50),(5,.t 51),(6,.t 54)])) (.phase (.eff 31 3 false (zs 56 (.call 82 [.c (.int .i64 2),.t 55])) (.phase (.eff 32 3 false (zs 57 (.bsl 102 8 3 [zi,zi,zi,zi,se,se,zi,sn] [(0,.t 29),(1,.t 34),(2,.t 56)])) (.phase (.take 33 (zf 58 17 3) (.eff 34 4 false (ys 1 58 57) (.phase .nil))))))))))))))))))))))))) (.eff 7 1 true (zs 32 (.bsl 9 1 2 [se] [(0,.c (.str ⟨#[98,111,120,101,115]⟩)),(1,.c (.str ⟨#[109,97,114,107,115]⟩))])) (.fork (.eff 1 0 true (zs 26 (.call 84 [.t 25])) (.eff 2 0 true (zs 27 (.bsl 9 1 6 [se] [(0,.c (.str ⟨#[115,101,108,108,101,114]⟩)),(1,.c (.str ⟨#[98,117,121,101,114]⟩)),(2,.c (.str ⟨#[99,117,114,114,101,110,99,121]⟩)),(3,.c (.str ⟨#[115,117,109]⟩)),(4,.c (.str ⟨#[102,114,111,109]⟩)),(5,.c (.str ⟨#[116,111]⟩))])) (.eff 3 1 true (zs 28 (.call 83 [.t 26,.t 27])) (.eff 4 1 true (zs 29 (.call 82 [.c zi,.t 28])) (.eff 6 1 true (zs 31 (.call 85 [.t 30])) (.eff 8 2 true (zs 33 (.call 83 [.t 31,.t 32])) (.eff 9 2 true (zs 34 (.call 82 [.c (.int .i64 1),.t 33])) (.eff 12 2 true (zs 37 (.call 86 [.c (.str ⟨#[99,97,114,114,105,101,114]⟩),.t 36])) (.eff 15 2 true (zs 40 (.call 86 [.c (.str ⟨#[115,104,105,112,112,101,114]⟩),.t 39])) (.eff 18 2 true (zs 43 (.call 86 [.c (.str ⟨#[102,114,111,109]⟩),.t 42])) (.eff 21 2 true (zs 46 (.call 86 [.c (.str ⟨#[116,111]⟩),.t 45])) (.eff 24 2 true (zs 49 (.call 87 [.t 48])) (.eff 25 2 true (zs 50 (.call 86 [.c (.str ⟨#[109,97,114,107,115]⟩),.t 49])) (.eff 26 2 true (zs 51 (.call 86 [.c (.str ⟨#[99,108,101,97,110]⟩),.c (.str ⟨#[121,101,115]⟩)])) (.eff 30 2 false (zs 55 (.bsl 100 6 7 [zi,zi,se,se,zi,sn] [(0,.t 37),(1,.t 40),(2,.t 43),(3,.t 46),(4,.t 50),(5,.t 51),(6,.t 54)])) (.phase (.eff 31 3 false (zs 56 (.call 82 [.c (.int .i64 2),.t 55])) (.phase (.eff 32 3 false (zs 57 (.bsl 102 8 3 [zi,zi,zi,zi,se,se,zi,sn] [(0,.t 29),(1,.t 34),(2,.t 56)])) (.phase (.take 33 (zf 58 17 3) (.eff 34 4 false (ys 1 58 57) (.phase .nil))))))))))))))))))))))) (.eff 2 0 true (zs 27 (.bsl 9 1 6 [se] [(0,.c (.str ⟨#[115,101,108,108,101,114]⟩)),(1,.c (.str ⟨#[98,117,121,101,114]⟩)),(2,.c (.str ⟨#[99,117,114,114,101,110,99,121]⟩)),(3,.c (.str ⟨#[115,117,109]⟩)),(4,.c (.str ⟨#[102,114,111,109]⟩)),(5,.c (.str ⟨#[116,111]⟩))])) (.eff 1 0 true (zs 26 (.call 84 [.t 25])) (.eff 3 1 true (zs 28 (.call 83 [.t 26,.t 27])) (.eff 4 1 true (zs 29 (.call 82 [.c zi,.t 28])) (.eff 6 1 true (zs 31 (.call 85 [.t 30])) (.eff 8 2 true (zs 33 (.call 83 [.t 31,.t 32])) (.eff 9 2 true (zs 34 (.call 82 [.c (.int .i64 1),.t 33])) (.eff 12 2 true (zs 37 (.call 86 [.c (.str ⟨#[99,97,114,114,105,101,114]⟩),.t 36])) (.eff 15 2 true (zs 40 (.call 86 [.c (.str ⟨#[115,104,105,112,112,101,114]⟩),.t 39])) (.eff 18 2 true (zs 43 (.call 86 [.c (.str ⟨#[102,114,111,109]⟩),.t 42])) (.eff 21 2 true (zs 46 (.call 86 [.c (.str ⟨#[116,111]⟩),.t 45])) (.eff 24 2 true (zs 49 (.call 87 [.t 48])) (.eff 25 2 true (zs 50 (.call 86 [.c (.str ⟨#[109,97,114,107,115]⟩),.t 49])) (.eff 26 2 true (zs 51 (.call 86 [.c (.str ⟨#[99,108,101,97,110]⟩),.c (.str ⟨#[121,101,115]⟩)])) (.eff 30 2 false (zs 55 (.bsl 100 6 7 [zi,zi,se,se,zi,sn] [(0,.t 37),(1,.t 40),(2,.t 43),(3,.t 46),(4,.t 50),(5,.t 51),(6,.t 54)])) (.phase (.eff 31 3 false (zs 56 (.call 82 [.c (.int .i64 2),.t 55])) (.phase (.eff 32 3 false (zs 57 (.bsl 102 8 3 [zi,zi,zi,zi,se,se,zi,sn] [(0,.t 29),(1,.t 34),(2,.t 56)])) (.phase (.take 33 (zf 58 17 3) (.eff 34 4 false (ys 1 58 57) (.phase .nil)))))))))))))))))))))))))))))))))))))))))) 4 [1]) (.seq (zr [zf 59 6 1,zl 60 59,zs 61 (.cmp .neq (.t 60) (.c se))] (.cond (.t 61) (.dreg (.take 0 (zf 62 17 3) (.take 1 (zl 63 62) (.take 2 (zf 64 7 1) (.take 3 (zl 65 64) (.take 5 (zf 67 8 1) (.take 6 (zl 68 67) (.take 8 (zf 70 9 1) (.take 9 (zf 71 0 70) (.take 10 (zl 72 71) (.take 12 (zf 74 9 1) (.take 13 (zf 75 1 74) (.take 14 (zl 76 75) (.take 15 (zs 77 (.bld [zi,zi,se,se,zi,sn] [(0,(1,.c (.int .i64 6))),(2,(1,.c (.str ⟨#[115,117,109]⟩))),(4,(1,.t 76))])) (.eff 4 0 true (zs 66 (.call 86 [.c (.str ⟨#[102,114,111,109]⟩),.t 65])) (.eff 7 0 true (zs 69 (.call 86 [.c (.str ⟨#[116,111]⟩),.t 68])) (.eff 11 0 true (zs 73 (.call 86 [.c (.str ⟨#[99,117,114,114,101,110,99,121]⟩),.t 72])) (.eff 16 0 true (zs 78 (.bsl 100 6 4 [zi,zi,se,se,zi,sn] [(0,.t 66),(1,.t 69),(2,.t 73),(3,.t 77)])) (.eff 17 1 true (zs 79 (.call 82 [.c (.int .i64 3),.t 78])) (.eff 18 1 true (zs 80 (.bsl 102 8 1 [zi,zi,zi,zi,se,se,zi,sn] [(0,.t 79)])) (.eff 19 2 false (zs 81 (.app 31 31 102 8 96 (.t 63) (.t 80))) (.phase (.take 20 (zf 82 17 3) (.eff 21 3 false (ys 1 82 81) (.phase .nil)))))))))))))))))))))))) 3 [3,1]) .skip)) (.seq (.dreg (.take 0 (zf 83 17 3) (.take 1 (zl 84 83) (.take 2 (yt 85 17 1) (.take 3 (zf 86 7 1) (.take 4 (zl 87 86) (.fork (.eff 5 0 true (zs 88 (.call 88 [.t 85,.t 87])) (.eff 6 0 true (zs 89 (.bsl 9 1 2 [se] [(0,.c (.str ⟨#[115,101,108,108,101,114]⟩)),(1,.c (.str ⟨#[99,111,117,110,116,114,121]⟩))])) (.eff 7 1 true (zs 90 (.call 83 [.t 88,.t 89])) (.eff 8 1 true (zs 91 (.call 82 [.c (.int .i64 4),.t 90])) (.eff 9 1 true (zs 92 (.bsl 102 8 1 [zi,zi,zi,zi,se,se,zi,sn] [(0,.t 91)])) (.eff 10 2 false (zs 93 (.app 31 31 102 8 96 (.t 84) (.t 92))) (.phase (.take 11 (zf 94 17 3) (.eff 12 3 false (ys 1 94 93) (.phase .nil)))))))))) (.eff 6 0 true (zs 89 (.bsl 9 1 2 [se] [(0,.c (.str ⟨#[115,101,108,108,101,114]⟩)),(1,.c (.str ⟨#[99,111,117,110,116,114,121]⟩))])) (.eff 5 0 true (zs 88 (.call 88 [.t 85,.t 87])) (.eff 7 1 true (zs 90 (.call 83 [.t 88,.t 89])) (.eff 8 1 true (zs 91 (.call 82 [.c (.int .i64 4),.t 90])) (.eff 9 1 true (zs 92 (.bsl 102 8 1 [zi,zi,zi,zi,se,se,zi,sn] [(0,.t 91)])) (.eff 10 2 false (zs 93 (.app 31 31 102 8 96 (.t 84) (.t 92))) (.phase (.take 11 (zf 94 17 3) (.eff 12 3 false (ys 1 94 93) (.phase .nil)))))))))))))))) 3 [3,1]) (zr [yt 95 18 3,ys 18 2 95] .ret))))),[.cell 2 true 18]⟩
def Vm:dD:=⟨12,zr [zs 1 (.box 33 (.t 0)),yb 2 false] (zr [yt 6 18 1,zs 7 (.call 25 [.t 6]),zm 5 7,yx 8 5 0,yx 9 5 1,zm 3 8,zm 4 9] (zr [zm 10 4,yk 11 .eql 10 0,zm 2 11] .ret)),[.tmp 2]⟩
def Vt:dD:=⟨24,zr [zs 2 (.box 26 (.t 0)),zs 3 (.box 23 (.t 1)),zs 4 (.alloc 88 [zi,se,se,sn])] (.seq (.dreg (.take 0 (zf 5 0 2) (.take 1 (zl 6 5) (.take 2 (zs 7 (.ari .add .i64 (.c (.str ⟨#[105,110,45]⟩)) (.t 6))) (.take 3 (zf 8 6 2) (.take 4 (zl 9 8) (.take 5 (zf 10 1 2) (.take 6 (zl 11 10) (.take 7 (zf 12 7 2) (.take 8 (zl 13 12) (.take 9 (zf 14 8 2) (.take 10 (zl 15 14) (.take 11 (zf 16 0 3) (.take 12 (zl 17 16) (.take 13 (zf 18 1 3) (.take 14 (zl 19 18) (.eff 15 0 true (zs 20 (.call 43 [.t 19])) (.eff 16 0 true (zs 21 (.bsl 9 1 10 [se] [(0,.c (.str ⟨#[115,101,108,108,101,114]⟩)),(1,.t 11),(2,.c (.str ⟨#[102,114,111,109]⟩)),(3,.t 13),(4,.c (.str ⟨#[116,111]⟩)),(5,.t 15),(6,.c (.str ⟨#[99,117,114,114,101,110,99,121]⟩)),(7,.t 17),(8,.c (.str ⟨#[115,117,109]⟩)),(9,.t 20)])) (.eff 17 1 true (zs 22 (.call 89 [.t 21])) (.take 18 (zs 23 (.bld [zi,se,se,sn] [(0,(1,.c (.int .i64 3))),(1,(1,.t 7)),(2,(1,.t 9)),(3,(1,.t 22))])) (.eff 19 1 false (ys 4 4 23) (.phase .nil))))))))))))))))))))) 1 [2,3]) .ret),[.cell 4 true 4]⟩
def Wd:dD:=⟨36,zr [zs 3 (.box 26 (.t 0)),zs 4 (.box 85 (.t 1)),zs 6 (.mov (.c sn))] (.seq (.dreg (.take 0 (yt 10 17 3) (.take 2 (yt 12 17 3) (.take 4 (yt 14 9 4) (.eff 1 0 true (zs 11 (.call 84 [.t 10])) (.eff 3 0 true (zs 13 (.call 85 [.t 12])) (.eff 5 0 false (zs 15 (.call 90 [.t 14])) (.phase (.eff 6 0 false (zs 16 (.bsl 88 4 3 [zi,se,se,sn] [(0,.t 11),(1,.t 13),(2,.t 15)])) (.phase (.take 7 (zm 7 16) .nil)))))))))) 1 [3,4]) (.seq (zr [zm 17 2,yl 18 17,yj 19 0] (.block 0 (.loop (zr [yc 20 .lss 19 18] (.seq (.cond (.t 20) .skip (.exit 0)) (.seq (.block 1 (zr [yi 21 4 17 19,yt 22 4 21,zs 9 (.alloc 88 [zi,se,se,sn]),ys 4 9 22] (.reg [zm 23 7,yt 24 4 9,zs 25 (.call 36 [.t 24]),zs 26 (.bsl 88 4 1 [zi,se,se,sn] [(0,.t 25)]),zs 27 (.app 34 34 88 4 64 (.t 23) (.t 26)),zm 7 27]))) (.reg [yp 28 19,zm 19 28]))))))) (zr [zm 29 7,yt 30 17 3,zf 31 7 3,zl 32 31,zs 33 (.call 88 [.t 30,.t 32]),zs 34 (.bsl 88 4 1 [zi,se,se,sn] [(0,.t 33)]),zs 35 (.app 34 34 88 4 64 (.t 29) (.t 34)),zm 6 35] .ret))),[.tmp 6]⟩
def UM:dD:=⟨14,zr [zs 3 (.box 44 (.t 0))] (zr [zl 4 1,yt 5 4 3,zs 6 (.lkp (.wide [0,0,1,0]) false (.bl false) (.t 4) (.t 5)),yo 7 6] (.cond (.t 7) (zr [zl 8 1,yt 9 4 3,zn (.upd (.wide [0,0,1,0]) (.t 8) (.t 9) (.c (.bl true)))] (.reg [zl 10 2,yt 11 4 3,zs 12 (.bsl 44 4 1 [zi,zi,se,zi] [(0,.t 11)]),zs 13 (.app 38 38 44 4 40 (.t 10) (.t 12)),ys 1 2 13])) .skip)),[]⟩
def Vc:dD:=⟨52,zr [zs 2 (.box 92 (.t 0)),zs 3 (.box 3 (.t 1))] (.seq (.seq (.dreg (.take 0 (zl 7 2) (.take 1 (zs 8 (.nck (.t 7))) (.take 2 (zf 9 18 8) (.take 3 (zl 10 9) (.take 4 (zl 11 3) (.take 5 (yi 12 4 10 11) (.take 6 (zf 13 0 12) (.take 7 (zl 14 13) .nil)))))))) 0 [2,3]) (.block 0 (zr [yk 16 .eql 14 0,zm 15 16] (.cond (.t 15) (.reg [zl 17 2,zl 18 3,zs 19 (.call 91 [.t 17,.t 18])]) (zr [yk 21 .eql 14 2,zm 20 21] (.cond (.t 20) (.reg [zl 22 2,zl 23 3,zs 24 (.call 92 [.t 22,.t 23])]) .skip)))))) (.seq (.dreg (.take 0 (zl 25 2) (.take 1 (zs 26 (.nck (.t 25))) (.take 2 (zf 27 18 26) (.take 3 (zl 28 27) (.take 4 (zl 29 3) (.take 5 (yi 30 4 28 29) (.take 6 (zf 31 0 30) (.take 7 (zl 32 31) (.eff 8 0 true (zs 4 (.alloc 3 [zi])) (.eff 9 1 false (ys 1 4 32) (.phase .nil))))))))))) 1 [2,3]) (zr [zl 33 2,zs 34 (.nck (.t 33)),zf 35 0 34,zf 36 17 35,zl 37 36,yl 38 37,yj 39 0] (.block 1 (.loop (zr [yc 40 .lss 39 38] (.seq (.cond (.t 40) .skip (.exit 1)) (.seq (.block 2 (zr [yi 41 8 37 39,yt 42 8 41,zs 6 (.alloc 102 [zi,zi,zi,zi,se,se,zi,sn]),ys 8 6 42] (.seq (zr [zf 43 0 6,zl 44 43,zl 45 4,yc 46 .neq 44 45] (.cond (.t 46) (.exit 2) .skip)) (.reg [zf 47 2 6,yt 48 6 47,zs 49 (.mkf 94 [.t 2,.t 3,.t 4]),zs 50 (.call 93 [.t 48,.t 49])])))) (.reg [yp 51 39,zm 39 51]))))))))),[]⟩
def We:dD:=⟨58,zr [zm 13 0,zs 14 (.nck (.t 13)),zf 15 18 14,zl 16 15,zm 17 1,yi 18 4 16 17,yt 19 4 18,zs 6 (.alloc 88 [zi,se,se,sn]),ys 4 6 19] (zr [zs 20 (.ld true 6 (.g 0)),yj 21 0] (.block 0 (.loop (zr [yk 22 .lss 21 6] (.seq (.cond (.t 22) .skip (.exit 0)) (.seq (.block 1 (zr [zs 23 (.aix false 1 6 (.t 20) (.t 21)),zm 8 23] (zr [zf 25 3 6,zl 26 25,zm 27 8,zs 28 (.call 40 [.t 26,.t 27]),zm 24 28,yx 29 24 0,yx 30 24 1,zm 9 29,zm 10 30] (.seq (zr [zm 31 10,yo 32 31] (.cond (.t 32) (.exit 1) .skip)) (zr [zm 34 2,zm 35 8,zs 36 (.lkp .none true se (.t 34) (.t 35)),zm 33 36,yx 37 33 0,yx 38 33 1,zm 11 37,zm 12 38] (zr [zm 39 12,yo 40 39] (.cond (.t 40) (.reg [zm 41 2,zm 42 8,zm 43 9,zn (.upd .none (.t 41) (.t 42) (.t 43))]) (zr [zm 44 11,zm 45 9,yc 46 .neq 44 45] (.cond (.t 46) (.dreg (.take 0 (zm 47 0) (.take 1 (zs 48 (.nck (.t 47))) (.take 2 (zf 49 20 48) (.take 3 (zl 50 49) (.take 4 (zm 51 1) (.take 5 (zf 52 0 6) (.take 6 (zl 53 52) (.take 7 (zm 54 8) (.take 8 (zs 55 (.bld [zi,zi,se,zi] [(0,(1,.t 51)),(1,(1,.t 53)),(2,(1,.t 54)),(3,(1,.c (.int .i64 3)))])) (.eff 9 0 false (zs 56 (.cav (.t 50) [.t 55])) (.phase .nil))))))))))) 0 [0,6]) .skip))))))))) (.reg [yp 57 21,zm 21 57]))))))),[]⟩
def U9:dD:=⟨8,zr [zs 1 (.box 88 (.t 0)),zs 2 (.alloc 88 [zi,se,se,sn])] (zr [zf 3 3 1,zl 4 3,zs 5 (.call 53 [.t 4]),zf 6 3 1,ys 1 6 5] (zr [yt 7 4 1,ys 4 2 7] .ret)),[.cell 2 true 4]⟩
def VP:dD:=⟨17,zr [zs 4 (.mov (.c se)),yb 5 false] (.seq (zr [zm 7 0,zm 8 1,zs 9 (.call 97 [.t 7,.t 8]),zm 6 9] (zr [zm 10 6,yk 11 .geq 10 0] (.cond (.t 11) (zr [zm 12 0,zm 13 6,yi 14 2 12 13,zf 15 1 14,zl 16 15,zm 4 16,yb 5 true] .ret) .skip))) (zr [zs 4 (.mov (.c se)),yb 5 false] .ret)),[.tmp 4,.tmp 5]⟩
def Vf:dD:=⟨5,zr [zs 2 (.mov (.c se))] (zr [zm 3 0,zs 4 (.call 99 [.t 3,.c (.int .i64 10)]),zm 2 4] .ret),[.tmp 2]⟩
def Uq:dD:=⟨8,zr [zs 2 (.mov (.c sn))] (.seq (zr [zm 3 0,zs 4 (.nils false (.t 3))] (.cond (.t 4) (zr [zs 2 (.mov (.c sn))] .ret) .skip)) (zr [zs 5 (.bsl 126 2 0 [se,se] []),zm 6 0,zs 7 (.app 86 86 126 2 32 (.t 5) (.t 6)),zm 2 7] .ret)),[.tmp 2]⟩
def UL:dD:=⟨10,zr [zs 1 (.box 100 (.t 0)),zs 2 (.mov (.c se))] (.seq (zr [yt 4 6 1,zs 5 (.call 111 [.t 4]),yo 6 5] (.cond (.t 6) (zr [zs 2 (.mov (.c se))] .ret) .skip)) (zr [zs 3 (.alloc 133 [.v (.pointer none),sn])] (zr [yt 7 6 1,zs 8 (.call 112 [.t 3,.t 7])] (zr [zs 9 (.call 62 [.t 3]),zm 2 9] .ret)))),[.tmp 2]⟩
def Vo:dD:=⟨93,zr [zs 1 (.box 33 (.t 0)),yb 2 false] (.seq (zr [zf 7 0 1,zl 8 7,zf 9 1 1,zl 10 9,zf 11 2 1,zl 12 11,zf 13 3 1,zl 14 13,zf 15 5 1,zl 16 15,zf 17 6 1,zl 18 17,zs 19 (.bsl 9 1 6 [se] [(0,.t 8),(1,.t 10),(2,.t 12),(3,.t 14),(4,.t 16),(5,.t 18)]),yl 20 19,yj 21 0] (.block 0 (.loop (zr [yc 22 .lss 21 20] (.seq (.cond (.t 22) .skip (.exit 0)) (.seq (.block 1 (zr [yi 23 1 19 21,zl 24 23,zm 4 24] (zr [zm 25 4,zs 26 (.call 141 [.t 25]),yo 27 26] (.cond (.t 27) (zr [yb 2 false] .ret) .skip)))) (.reg [yp 28 21,zm 21 28]))))))) (.seq (zr [zf 29 4 1,zl 30 29,zs 31 (.cmp .neq (.t 30) (.c se)),zm 32 31,gf 33 32 true 4 1,gl 34 32 true 33,zg 35 32 true (.call 141 [.t 34]),go 36 32 true 35,yr 37 32 36 false,zm 38 37,gf 39 38 false 7 1,gf 40 38 false 0 39,gl 41 38 false 40,zg 42 38 false (.call 142 [.t 41]),go 43 38 false 42,yq 44 38 true 43] (.cond (.t 44) (zr [yb 2 false] .ret) .skip)) (.seq (zr [zf 45 7 1,zf 46 1 45,zl 47 46,yk 48 .lss 47 1,zm 49 48,gf 50 49 false 7 1,gf 51 49 false 1 50,gl 52 49 false 51,gk 53 49 false .gtr 52 1099511627776,yq 54 49 true 53] (.cond (.t 54) (zr [yb 2 false] .ret) .skip)) (.seq (zr [zf 55 9 1,zl 56 55,zs 57 (.call 143 [.t 56,.c zi,.c (.int .i64 1000)]),yo 58 57,zm 59 58,gf 60 59 false 10 1,gl 61 59 false 60,zg 62 59 false (.call 143 [.t 61,.c zi,.c (.int .i64 1000)]),go 63 59 false 62,yq 64 59 true 63] (.cond (.t 64) (zr [yb 2 false] .ret) .skip)) (.seq (zr [zf 65 11 1,zl 66 65,zf 67 12 1,zl 68 67,zf 69 13 1,zl 70 69,zf 71 14 1,zl 72 71,zs 73 (.bsl 3 1 4 [zi] [(0,.t 66),(1,.t 68),(2,.t 70),(3,.t 72)]),yl 74 73,yj 75 0] (.block 2 (.loop (zr [yc 76 .lss 75 74] (.seq (.cond (.t 76) .skip (.exit 2)) (.seq (.block 3 (zr [yi 77 1 73 75,zl 78 77,zm 6 78] (zr [zm 79 6,zs 80 (.call 143 [.t 79,.c zi,.c (.int .i64 1048576)]),yo 81 80] (.cond (.t 81) (zr [yb 2 false] .ret) .skip)))) (.reg [yp 82 75,zm 75 82]))))))) (zr [zf 83 17 1,zl 84 83,yl 85 84,yk 86 .leq 85 64,zm 87 86,gf 88 87 true 17 1,gl 89 87 true 88,zg 90 87 true (.call 144 [.t 89,.c (.clo 145 [])]),go 91 87 true 90,yr 92 87 91 false,zm 2 92] .ret)))))),[.tmp 2]⟩
def Vl:dD:=⟨135,zr [zs 1 (.box 33 (.t 0)),zs 2 (.mov (.c se))] (zr [zs 3 (.alloc 133 [.v (.pointer none),sn])] (zr [zs 8 (.mkf 147 [.t 3]),zm 4 8] (zr [zm 9 4,zf 10 0 1,zl 11 10,zs 12 (.bsl 9 1 2 [se] [(0,.c (.str ⟨#[99,114,101,100,105,116]⟩)),(1,.t 11)]),zs 13 (.cav (.t 9) [.t 12])] (zr [zm 14 4,zf 15 1 1,zl 16 15,zs 17 (.bsl 9 1 2 [se] [(0,.c (.str ⟨#[97,112,112,108,105,99,97,110,116]⟩)),(1,.t 16)]),zs 18 (.cav (.t 14) [.t 17])] (zr [zm 19 4,zf 20 2 1,zl 21 20,zs 22 (.bsl 9 1 2 [se] [(0,.c (.str ⟨#[98,101,110,101,102,105,99,105,97,114,121]⟩)),(1,.t 21)]),zs 23 (.cav (.t 19) [.t 22])] (zr [zm 24 4,zf 25 3 1,zl 26 25,zs 27 (.bsl 9 1 2 [se] [(0,.c (.str ⟨#[105,115,115,117,101,114]⟩)),(1,.t 26)]),zs 28 (.cav (.t 24) [.t 27])] (.seq (zr [zf 29 4 1,zl 30 29,zs 31 (.cmp .neq (.t 30) (.c se))] (.cond (.t 31) (.reg [zm 32 4,zf 33 4 1,zl 34 33,zs 35 (.bsl 9 1 2 [se] [(0,.c (.str ⟨#[99,111,110,102,105,114,109,101,114]⟩)),(1,.t 34)]),zs 36 (.cav (.t 32) [.t 35])]) .skip)) (zr [zm 37 4,zf 38 5 1,zl 39 38,zs 40 (.bsl 9 1 2 [se] [(0,.c (.str ⟨#[102,114,111,109]⟩)),(1,.t 39)]),zs 41 (.cav (.t 37) [.t 40])] (zr [zm 42 4,zf 43 6 1,zl 44 43,zs 45 (.bsl 9 1 2 [se] [(0,.c (.str ⟨#[116,111]⟩)),(1,.t 44)]),zs 46 (.cav (.t 42) [.t 45])] (.seq (.dreg (.take 0 (zm 47 4) (.take 1 (zf 48 7 1) (.take 2 (zf 49 0 48) (.take 3 (zl 50 49) (.take 4 (zf 51 7 1) (.take 5 (zf 52 1 51) (.take 6 (zl 53 52) (.take 8 (zf 55 9 1) (.take 9 (zl 56 55) (.take 11 (zf 58 10 1) (.take 12 (zl 59 58) (.eff 7 0 true (zs 54 (.call 99 [.t 53,.c (.int .i64 10)])) (.eff 10 0 true (zs 57 (.call 109 [.t 56])) (.eff 13 0 true (zs 60 (.call 109 [.t 59])) (.eff 14 0 false (zs 61 (.bsl 9 1 7 [se] [(0,.c (.str ⟨#[115,117,109]⟩)),(1,.t 50),(2,.t 54),(3,.c (.str ⟨#[97,98,111,118,101]⟩)),(4,.t 57),(5,.c (.str ⟨#[98,101,108,111,119]⟩)),(6,.t 60)])) (.eff 15 1 false (zs 62 (.cav (.t 47) [.t 61])) (.phase .nil))))))))))))))))) 1 [1]) (zr [zm 63 4,zf 64 11 1,zl 65 64,zs 66 (.call 109 [.t 65]),zs 67 (.bsl 9 1 2 [se] [(0,.c (.str ⟨#[108,97,116,101,115,116]⟩)),(1,.t 66)]),zs 68 (.cav (.t 63) [.t 67])] (zr [zm 69 4,zf 70 12 1,zl 71 70,zs 72 (.call 109 [.t 71]),zs 73 (.bsl 9 1 2 [se] [(0,.c (.str ⟨#[101,120,112,105,114,121]⟩)),(1,.t 72)]),zs 74 (.cav (.t 69) [.t 73])] (zr [zm 75 4,zf 76 13 1,zl 77 76,zs 78 (.call 109 [.t 77]),zs 79 (.bsl 9 1 3 [se] [(0,.c (.str ⟨#[119,105,116,104,105,110]⟩)),(1,.t 78),(2,.c (.str ⟨#[100,97,121,115]⟩))]),zs 80 (.cav (.t 75) [.t 79])] (.seq (zr [zf 81 14 1,zl 82 81,yk 83 .eql 82 0] (.cond (.t 83) (.reg [zm 84 4,zs 85 (.bsl 9 1 2 [se] [(0,.c (.str ⟨#[116,101,110,111,114]⟩)),(1,.c (.str ⟨#[115,105,103,104,116]⟩))]),zs 86 (.cav (.t 84) [.t 85])]) (.reg [zm 87 4,zf 88 14 1,zl 89 88,zs 90 (.call 109 [.t 89]),zs 91 (.bsl 9 1 3 [se] [(0,.c (.str ⟨#[116,101,110,111,114]⟩)),(1,.t 90),(2,.c (.str ⟨#[100,97,121,115]⟩))]),zs 92 (.cav (.t 87) [.t 91])]))) (zr [zm 93 4,zf 94 15 1,zl 95 94,zs 96 (.call 148 [.t 95]),zs 97 (.bsl 9 1 2 [se] [(0,.c (.str ⟨#[112,97,114,116,105,97,108]⟩)),(1,.t 96)]),zs 98 (.cav (.t 93) [.t 97])] (zr [zm 99 4,zf 100 16 1,zl 101 100,zs 102 (.call 148 [.t 101]),zs 103 (.bsl 9 1 2 [se] [(0,.c (.str ⟨#[99,104,97,110,103,101]⟩)),(1,.t 102)]),zs 104 (.cav (.t 99) [.t 103])] (.seq (zr [zf 105 17 1,zl 106 105,yl 107 106,yj 108 0] (.block 0 (.loop (zr [yc 109 .lss 108 107] (.seq (.cond (.t 109) .skip (.exit 0)) (.seq (.block 1 (zr [yi 110 8 106 108,yt 111 8 110,zs 6 (.alloc 102 [zi,zi,zi,zi,se,se,zi,sn]),ys 8 6 111] (.seq (.dreg (.take 0 (zf 112 0 6) (.take 1 (zl 113 112) (.take 2 (zs 114 (.aia 1 6 (.g 3) (.t 113))) (.take 3 (zl 115 114) (.take 4 (zf 116 1 6) (.take 5 (zl 117 116) (.eff 6 0 true (zs 118 (.call 109 [.t 117])) (.eff 7 0 false (zs 119 (.bsl 9 1 4 [se] [(0,.c (.str ⟨#[119,97,110,116,115]⟩)),(1,.t 115),(2,.c (.str ⟨#[99,111,112,105,101,115]⟩)),(3,.t 118)])) (.phase (.take 8 (zm 7 119) .nil)))))))))) 1 [6]) (.seq (zr [zf 120 2 6,yt 121 6 120,zs 122 (.call 149 [.t 121]),yo 123 122] (.cond (.t 123) (.reg [zm 124 7,zf 125 2 6,yt 126 6 125,zs 127 (.call 59 [.t 126]),zs 128 (.bsl 9 1 2 [se] [(0,.c (.str ⟨#[119,105,116,104]⟩)),(1,.t 127)]),zs 129 (.app 64 64 9 1 16 (.t 124) (.t 128)),zm 7 129]) .skip)) (.reg [zm 130 4,zm 131 7,zs 132 (.cav (.t 130) [.t 131])]))))) (.reg [yp 133 108,zm 108 133]))))))) (zr [zs 134 (.call 62 [.t 3]),zm 2 134] .ret)))))))))))))))))),[.tmp 2]⟩
def Vg:dD:=⟨50,zr [zs 4 (.mov (.c se))] (zr [zm 6 0,zs 7 (.nck (.t 6)),zf 8 1 7,zl 9 8,zm 5 9] (.seq (.block 0 (.loop (.seq (.seq (.dreg (.take 0 (zm 10 0) (.take 1 (zs 11 (.nck (.t 10))) (.take 2 (zf 12 1 11) (.take 3 (zl 13 12) (.take 4 (zm 14 0) (.take 5 (zs 15 (.nck (.t 14))) (.take 6 (zf 16 0 15) (.take 7 (zl 17 16) (.take 8 (yz 18 17) (.take 9 (yc 19 .lss 13 18) (.take 10 (zm 20 19) (.take 11 (zh 21 20 true 1) (.take 12 (zh 22 20 true 0) (.take 13 (zg 23 20 true (.nck (.t 22))) (.take 14 (gf 24 20 true 0 23) (.take 15 (gl 25 20 true 24) (.take 16 (zh 26 20 true 0) (.take 17 (zg 27 20 true (.nck (.t 26))) (.take 18 (gf 28 20 true 1 27) (.take 19 (gl 29 20 true 28) (.take 20 (zg 30 20 true (.idx (.t 25) (.t 29))) (.eff 21 0 false (zg 31 20 true (.cav (.t 21) [.t 30])) (.phase (.take 22 (yr 32 20 31 false) .nil)))))))))))))))))))))))) 0 [0]) (.cond (.t 32) .skip (.exit 0))) (.block 1 (.reg [zm 33 0,zs 34 (.nck (.t 33)),zf 35 1 34,zl 36 35,yp 37 36,zs 38 (.nck (.t 33)),zf 39 1 38,ys 1 39 37]))))) (.seq (.dreg (.take 0 (zm 40 0) (.take 1 (zs 41 (.nck (.t 40))) (.take 2 (zf 42 0 41) (.take 3 (zl 43 42) (.take 4 (zm 44 5) (.take 5 (zm 45 0) (.take 6 (zs 46 (.nck (.t 45))) (.take 7 (zf 47 1 46) (.take 8 (zl 48 47) (.take 9 (zs 49 (.sls (.t 43) (some (.t 44)) (some (.t 48)))) (.take 10 (zm 4 49) .nil))))))))))) 0 [0]) .ret))),[.tmp 4]⟩
def UQ:dD:=⟨9,zr [yb 2 false] (zr [zm 3 0,zs 4 (.cmp .eql (.t 3) (.c (.int .u8 32))),zm 5 4,zh 6 5 false 0,zg 7 5 false (.cmp .eql (.t 6) (.c (.int .u8 10))),yq 8 5 true 7,zm 2 8] .ret),[.tmp 2]⟩
def Vn:dD:=⟨67,zr [zs 2 (.alloc 179 [zi,zi,se]),yj 3 0] (zr [zm 9 0,zs 10 (.nck (.t 9)),zf 11 1 10,zl 12 11,zm 4 12] (zr [zm 13 0,zs 14 (.nck (.t 13)),zf 15 0 14,zl 16 15,zm 17 4,zs 18 (.idx (.t 16) (.t 17)),zm 5 18] (.seq (.block 0 (zr [zm 20 5,zs 21 (.call 163 [.t 20]),zm 19 21] (.cond (.t 19) (zr [zm 23 0,zs 24 (.call 78 [.t 23,.c (.clo 163 [])]),zs 25 (.call 164 [.t 24]),zm 22 25,yx 26 22 0,yx 27 22 1,zm 6 26,zm 7 27] (.seq (.dreg (.take 0 (zm 28 6) (.take 1 (zm 29 4) (.take 2 (zm 30 0) (.take 3 (zs 31 (.nck (.t 30))) (.take 4 (zf 32 0 31) (.take 5 (zl 33 32) (.take 6 (zm 34 4) (.take 7 (zm 35 0) (.take 8 (zs 36 (.nck (.t 35))) (.take 9 (zf 37 1 36) (.take 10 (zl 38 37) (.take 11 (zs 39 (.sls (.t 33) (some (.t 34)) (some (.t 38)))) (.take 12 (zs 40 (.bld [zi,zi,se] [(0,(1,.t 28)),(1,(1,.t 29)),(2,(1,.t 39))])) (.take 13 (zm 41 7) (.eff 14 0 false (ys 3 2 40) (.take 15 (zm 3 41) .nil)))))))))))))))) 0 [0]) .ret)) (zr [zm 43 5,zs 44 (.call 165 [.t 43]),zm 42 44] (.cond (.t 42) (zr [zm 45 0,zs 46 (.call 78 [.t 45,.c (.clo 165 [])]),zm 8 46] (.seq (zr [zm 47 8,yz 48 47,yk 49 .neq 48 3] (.cond (.t 49) (zr [zs 50 (.bld [zi,zi,se] []),ys 3 2 50,yj 3 2] .ret) .skip)) (zr [zm 51 4,zm 52 8,zs 53 (.bld [zi,zi,se] [(0,(1,.c (.int .i64 4))),(1,(1,.t 51)),(2,(1,.t 52))]),ys 3 2 53,yj 3 0] .ret))) (zr [zm 55 5,zs 56 (.cmp .eql (.t 55) (.c (.int .u8 34))),zm 54 56] (.cond (.t 54) (zr [zm 57 0,zm 58 4,zs 59 (.call 166 [.t 57,.t 58]),yx 60 59 0,yx 61 59 1,ys 3 2 60,zm 3 61] .ret) .skip))))))) (zr [zm 62 0,zm 63 4,zs 64 (.call 167 [.t 62,.t 63]),yx 65 64 0,yx 66 64 1,ys 3 2 65,zm 3 66] .ret)))),[.cell 2 true 3,.tmp 3]⟩
def UH:dD:=⟨9,zr [zs 4 (.alloc 102 [zi,zi,zi,zi,se,se,zi,sn])] (zr [zm 5 0,zm 6 1,zs 7 (.bld [zi,zi,se,se,zi,sn] [(0,(1,.c zi)),(5,(1,.t 6))]),zs 8 (.bld [zi,zi,zi,zi,se,se,zi,sn] [(0,(1,.t 5)),(1,(1,.c (.int .i64 1))),(2,(6,.t 7))]),ys 8 4 8] .ret),[.cell 4 true 8]⟩
def Vh:dD:=⟨31,zr [zs 2 (.box 88 (.t 0)),zs 4 (.mov (.c sn))] (zr [zs 5 (.mov (.c sn))] (.seq (zr [zm 10 1,yl 11 10,yj 12 0] (.block 0 (.loop (zr [yc 13 .lss 12 11] (.seq (.cond (.t 13) .skip (.exit 0)) (.seq (.block 1 (zr [yi 14 1 10 12,zl 15 14,zm 7 15] (zr [zf 17 3 2,zl 18 17,zm 19 7,zs 20 (.call 40 [.t 18,.t 19]),zm 16 20,yx 21 16 0,yx 22 16 1,zm 8 21,zm 9 22] (.reg [zm 23 5,zm 24 7,zm 25 8,zs 26 (.call 86 [.t 24,.t 25]),zs 27 (.bsl 100 6 1 [zi,zi,se,se,zi,sn] [(0,.t 26)]),zs 28 (.app 98 98 100 6 80 (.t 23) (.t 27)),zm 5 28])))) (.reg [yp 29 12,zm 12 29]))))))) (zr [zm 30 5,zm 4 30] .ret))),[.tmp 4]⟩
def VV:dD:=⟨33,zr [zs 1 (.box 26 (.t 0)),zs 2 (.alloc 88 [zi,se,se,sn])] (.seq (.dreg (.take 0 (zf 3 0 1) (.take 1 (zl 4 3) (.take 2 (zs 5 (.ari .add .i64 (.c (.str ⟨#[105,118,45]⟩)) (.t 4))) (.take 3 (zf 6 1 1) (.take 4 (zl 7 6) (.take 5 (zf 8 1 1) (.take 6 (zl 9 8) (.take 7 (zf 10 2 1) (.take 8 (zl 11 10) (.take 9 (zf 12 9 1) (.take 10 (zf 13 0 12) (.take 11 (zl 14 13) (.take 12 (zf 15 9 1) (.take 13 (zf 16 1 15) (.take 14 (zl 17 16) (.take 16 (zf 19 7 1) (.take 17 (zl 20 19) (.take 18 (zf 21 8 1) (.take 19 (zl 22 21) (.take 20 (zf 23 11 1) (.take 21 (zl 24 23) (.take 22 (yl 25 24) (.take 24 (zf 27 12 1) (.take 25 (zl 28 27) (.eff 15 0 true (zs 18 (.call 43 [.t 17])) (.eff 23 0 true (zs 26 (.call 173 [.t 25])) (.eff 26 0 true (zs 29 (.call 173 [.t 28])) (.eff 27 0 true (zs 30 (.bsl 9 1 16 [se] [(0,.c (.str ⟨#[115,101,108,108,101,114]⟩)),(1,.t 9),(2,.c (.str ⟨#[98,117,121,101,114]⟩)),(3,.t 11),(4,.c (.str ⟨#[99,117,114,114,101,110,99,121]⟩)),(5,.t 14),(6,.c (.str ⟨#[115,117,109]⟩)),(7,.t 18),(8,.c (.str ⟨#[102,114,111,109]⟩)),(9,.t 20),(10,.c (.str ⟨#[116,111]⟩)),(11,.t 22),(12,.c (.str ⟨#[98,111,120,101,115]⟩)),(13,.t 26),(14,.c (.str ⟨#[116,101,114,109]⟩)),(15,.t 29)])) (.eff 28 1 true (zs 31 (.call 89 [.t 30])) (.take 29 (zs 32 (.bld [zi,se,se,sn] [(0,(1,.c zi)),(1,(1,.t 5)),(2,(1,.t 7)),(3,(1,.t 31))])) (.eff 30 1 false (ys 4 2 32) (.phase .nil)))))))))))))))))))))))))))))))) 1 [1]) .ret),[.cell 2 true 4]⟩
def Vx:dD:=⟨27,zr [zs 1 (.box 26 (.t 0)),zs 2 (.alloc 88 [zi,se,se,sn])] (.seq (.dreg (.take 0 (zf 3 0 1) (.take 1 (zl 4 3) (.take 2 (zs 5 (.ari .add .i64 (.c (.str ⟨#[112,107,45]⟩)) (.t 4))) (.take 3 (zf 6 1 1) (.take 4 (zl 7 6) (.take 5 (zf 8 1 1) (.take 6 (zl 9 8) (.take 7 (zf 10 7 1) (.take 8 (zl 11 10) (.take 9 (zf 12 8 1) (.take 10 (zl 13 12) (.take 11 (zf 14 11 1) (.take 12 (zl 15 14) (.take 13 (yl 16 15) (.take 15 (zf 18 11 1) (.take 16 (zl 19 18) (.take 18 (zf 21 11 1) (.take 19 (zl 22 21) (.eff 14 0 true (zs 17 (.call 173 [.t 16])) (.eff 17 0 true (zs 20 (.call 87 [.t 19])) (.eff 20 0 true (zs 23 (.call 174 [.t 22])) (.eff 21 0 true (zs 24 (.bsl 9 1 12 [se] [(0,.c (.str ⟨#[115,101,108,108,101,114]⟩)),(1,.t 9),(2,.c (.str ⟨#[102,114,111,109]⟩)),(3,.t 11),(4,.c (.str ⟨#[116,111]⟩)),(5,.t 13),(6,.c (.str ⟨#[98,111,120,101,115]⟩)),(7,.t 17),(8,.c (.str ⟨#[109,97,114,107,115]⟩)),(9,.t 20),(10,.c (.str ⟨#[99,111,110,116,101,110,116]⟩)),(11,.t 23)])) (.eff 22 1 true (zs 25 (.call 89 [.t 24])) (.take 23 (zs 26 (.bld [zi,se,se,sn] [(0,(1,.c (.int .i64 1))),(1,(1,.t 5)),(2,(1,.t 7)),(3,(1,.t 25))])) (.eff 24 1 false (ys 4 2 26) (.phase .nil)))))))))))))))))))))))))) 1 [1]) .ret),[.cell 2 true 4]⟩
def Wb:dD:=⟨8,zr [zs 4 (.alloc 100 [zi,zi,se,se,zi,sn])] (zr [zm 5 0,zm 6 1,zs 7 (.bld [zi,zi,se,se,zi,sn] [(0,(1,.c (.int .i64 3))),(2,(1,.t 5)),(3,(1,.t 6))]),ys 6 4 7] .ret),[.cell 4 true 6]⟩
def Vz:dD:=⟨23,zr [zs 2 (.mov (.c se))] (zr [zm 6 0,yl 7 6,zs 8 (.mks 9 1 16 [se] (.c zi) (.t 7)),zm 3 8] (.seq (zr [zm 9 0,yl 10 9,yj 11 0] (.block 0 (.loop (zr [yc 12 .lss 11 10] (.seq (.cond (.t 12) .skip (.exit 0)) (.seq (.block 1 (zr [yi 13 3 9 11,yt 14 3 13,zs 5 (.alloc 83 [se,zi,sn]),ys 3 5 14] (.reg [zm 15 3,zf 16 0 5,zl 17 16,zs 18 (.bsl 9 1 1 [se] [(0,.t 17)]),zs 19 (.app 64 64 9 1 16 (.t 15) (.t 18)),zm 3 19]))) (.reg [yp 20 11,zm 11 20]))))))) (zr [zm 21 3,zs 22 (.call 110 [.t 21,.c (.str ⟨#[44]⟩)]),zm 2 22] .ret))),[.tmp 2]⟩
def U5:dD:=⟨20,zr [zs 2 (.box 26 (.t 0)),zs 4 (.alloc 88 [zi,se,se,sn])] (.seq (.dreg (.take 0 (zf 5 0 2) (.take 1 (zl 6 5) (.take 2 (zs 7 (.ari .add .i64 (.c (.str ⟨#[111,114,45]⟩)) (.t 6))) (.take 3 (zf 8 1 2) (.take 4 (zl 9 8) (.take 5 (zf 10 1 2) (.take 6 (zl 11 10) (.take 7 (zm 12 1) (.take 8 (zf 13 11 2) (.take 9 (zl 14 13) (.take 10 (yl 15 14) (.eff 11 0 true (zs 16 (.call 173 [.t 15])) (.eff 12 0 true (zs 17 (.bsl 9 1 6 [se] [(0,.c (.str ⟨#[115,101,108,108,101,114]⟩)),(1,.t 11),(2,.c (.str ⟨#[99,111,117,110,116,114,121]⟩)),(3,.t 12),(4,.c (.str ⟨#[98,111,120,101,115]⟩)),(5,.t 16)])) (.eff 13 1 true (zs 18 (.call 89 [.t 17])) (.take 14 (zs 19 (.bld [zi,se,se,sn] [(0,(1,.c (.int .i64 4))),(1,(1,.t 7)),(2,(1,.t 9)),(3,(1,.t 18))])) (.eff 15 1 false (ys 4 4 19) (.phase .nil))))))))))))))))) 1 [2]) .ret),[.cell 4 true 4]⟩
def UY:dD:=⟨30,zr [zs 2 (.mov (.c sn))] (zr [zm 5 0,yl 6 5,zs 7 (.ari .quo .i64 (.t 6) (.c (.int .i64 2))),zs 8 (.mks 126 2 32 [se,se] (.c zi) (.t 7)),zm 3 8] (.seq (zr [yj 4 0] (.block 0 (.loop (.seq (zr [zm 9 4,yp 10 9,zm 11 0,yl 12 11,yc 13 .lss 10 12] (.cond (.t 13) .skip (.exit 0))) (.seq (.block 1 (.dreg (.take 0 (zm 16 3) (.take 1 (zm 17 0) (.take 2 (zm 18 4) (.take 3 (yi 19 1 17 18) (.take 4 (zl 20 19) (.take 5 (zm 21 0) (.take 6 (zm 22 4) (.take 7 (yp 23 22) (.take 8 (yi 24 1 21 23) (.take 9 (zl 25 24) (.take 10 (zs 26 (.bld [se,se] [(0,(1,.t 20)),(1,(1,.t 25))])) (.eff 11 0 false (zs 27 (.bsl 126 2 1 [se,se] [(0,.t 26)])) (.eff 12 1 false (zs 28 (.app 86 86 126 2 32 (.t 16) (.t 27))) (.phase (.take 13 (zm 3 28) .nil))))))))))))))) 2 [0])) (.reg [zm 14 4,zs 15 (.ari .add .i64 (.t 14) (.c (.int .i64 2))),zm 4 15])))))) (zr [zm 29 3,zm 2 29] .ret))),[.tmp 2]⟩
def UA:dD:=⟨35,zr [zs 1 (.box 85 (.t 0)),zs 2 (.alloc 88 [zi,se,se,sn])] (zr [zs 3 (.mov (.c (.str ⟨#[110,111]⟩)))] (.seq (zr [zf 4 8 1,zl 5 4] (.cond (.t 5) (.reg [zs 3 (.mov (.c (.str ⟨#[121,101,115]⟩)))]) .skip)) (.seq (.dreg (.take 0 (zf 6 0 1) (.take 1 (zl 7 6) (.take 2 (zf 8 1 1) (.take 3 (zl 9 8) (.take 4 (zf 10 1 1) (.take 5 (zl 11 10) (.take 6 (zf 12 2 1) (.take 7 (zl 13 12) (.take 8 (zf 14 3 1) (.take 9 (zl 15 14) (.take 10 (zf 16 4 1) (.take 11 (zl 17 16) (.take 12 (zf 18 5 1) (.take 13 (zl 19 18) (.take 14 (yl 20 19) (.take 16 (zf 22 5 1) (.take 17 (zl 23 22) (.take 19 (zf 25 7 1) (.take 20 (zl 26 25) (.take 22 (zm 28 3) (.take 23 (zf 29 6 1) (.take 24 (zl 30 29) (.eff 15 0 true (zs 21 (.call 173 [.t 20])) (.eff 18 0 true (zs 24 (.call 110 [.t 23,.c (.str ⟨#[44]⟩)])) (.eff 21 0 true (zs 27 (.call 173 [.t 26])) (.eff 25 0 true (zs 31 (.call 110 [.t 30,.c (.str ⟨#[44]⟩)])) (.eff 26 0 true (zs 32 (.bsl 9 1 18 [se] [(0,.c (.str ⟨#[99,97,114,114,105,101,114]⟩)),(1,.t 11),(2,.c (.str ⟨#[115,104,105,112,112,101,114]⟩)),(3,.t 13),(4,.c (.str ⟨#[102,114,111,109]⟩)),(5,.t 15),(6,.c (.str ⟨#[116,111]⟩)),(7,.t 17),(8,.c (.str ⟨#[98,111,120,101,115]⟩)),(9,.t 21),(10,.c (.str ⟨#[109,97,114,107,115]⟩)),(11,.t 24),(12,.c (.str ⟨#[105,115,115,117,101,100]⟩)),(13,.t 27),(14,.c (.str ⟨#[99,108,101,97,110]⟩)),(15,.t 28),(16,.c (.str ⟨#[112,97,114,101,110,116,115]⟩)),(17,.t 31)])) (.eff 27 1 true (zs 33 (.call 89 [.t 32])) (.take 28 (zs 34 (.bld [zi,se,se,sn] [(0,(1,.c (.int .i64 2))),(1,(1,.t 7)),(2,(1,.t 9)),(3,(1,.t 33))])) (.eff 29 1 false (ys 4 2 34) (.phase .nil))))))))))))))))))))))))))))))) 1 [1]) .ret))),[.cell 2 true 4]⟩
def UD:dD:=⟨40,zr [zs 2 (.box 92 (.t 0))] (zr [zs 4 (.mov (.c (.clo 175 [])))] (.seq (.dreg (.take 0 (zl 5 2) (.take 1 (zm 6 1) (.take 2 (zm 7 4) (.take 3 (zl 8 2) (.take 4 (zs 9 (.nck (.t 8))) (.take 5 (zf 10 0 9) (.take 6 (zf 11 2 10) (.take 7 (zl 12 11) (.eff 8 0 true (zs 13 (.cav (.t 7) [.t 12])) (.eff 9 0 false (zs 14 (.call 177 [.t 5,.t 6,.c (.str ⟨#[115,101,108,108,101,114]⟩),.t 13])) (.phase .nil))))))))))) 0 [2]) (.seq (.dreg (.take 0 (zl 15 2) (.take 1 (zm 16 1) (.take 2 (zm 17 4) (.take 3 (zl 18 2) (.take 4 (zs 19 (.nck (.t 18))) (.take 5 (zf 20 0 19) (.take 6 (zf 21 1 20) (.take 7 (zl 22 21) (.eff 8 0 true (zs 23 (.cav (.t 17) [.t 22])) (.eff 9 0 false (zs 24 (.call 177 [.t 15,.t 16,.c (.str ⟨#[98,117,121,101,114]⟩),.t 23])) (.phase .nil))))))))))) 0 [2]) (.seq (.dreg (.take 0 (zl 25 2) (.take 1 (zm 26 1) (.take 2 (zm 27 4) (.take 3 (zl 28 2) (.take 4 (zs 29 (.nck (.t 28))) (.take 5 (zf 30 0 29) (.take 6 (zf 31 7 30) (.take 7 (zf 32 0 31) (.take 8 (zl 33 32) (.eff 9 0 true (zs 34 (.cav (.t 27) [.t 33])) (.eff 10 0 false (zs 35 (.call 177 [.t 25,.t 26,.c (.str ⟨#[99,117,114,114,101,110,99,121]⟩),.t 34])) (.phase .nil)))))))))))) 0 [2]) (.reg [zl 36 2,zm 37 1,zs 38 (.mkf 178 [.t 2]),zs 39 (.call 177 [.t 36,.t 37,.c (.str ⟨#[115,117,109]⟩),.t 38])]))))),[]⟩
def UN:dD:=⟨8,zr [zs 2 (.box 92 (.t 0))] (.reg [zl 4 2,zm 5 1,zs 6 (.mkf 181 [.t 2]),zs 7 (.call 177 [.t 4,.t 5,.c (.str ⟨#[105,115,115,117,101,100]⟩),.t 6])]),[]⟩
def Uu:dD:=⟨23,zr [zs 2 (.box 100 (.t 0))] (.seq (zr [zf 6 0 2,zl 7 6,yk 8 .neq 7 0] (.cond (.t 8) (zr [zm 9 1,yt 10 6 2,zs 11 (.cav (.t 9) [.t 10])] .ret) .skip)) (zr [zf 12 5 2,zl 13 12,yl 14 13,yj 15 0] (.block 0 (.loop (zr [yc 16 .lss 15 14] (.seq (.cond (.t 16) .skip (.exit 0)) (.seq (.block 1 (zr [yi 17 6 13 15,yt 18 6 17,zs 5 (.alloc 100 [zi,zi,se,se,zi,sn]),ys 6 5 18] (.reg [yt 19 6 5,zm 20 1,zs 21 (.call 93 [.t 19,.t 20])]))) (.reg [yp 22 15,zm 15 22])))))))),[]⟩
def Vd:dD:=⟨39,zr [zs 4 (.box 100 (.t 0))] (.seq (.dreg (.take 0 (yt 7 6 4) (.take 1 (zl 8 1) (.take 2 (zs 9 (.nck (.t 8))) (.take 3 (zf 10 18 9) (.take 4 (zl 11 10) (.take 5 (zl 12 2) (.eff 6 0 false (zs 13 (.call 95 [.t 7,.t 11,.t 12])) (.phase (.take 7 (zm 5 13) .nil))))))))) 0 [4,1,2]) (zr [zl 14 2,zl 15 3,zm 16 5,zs 17 (.bld [zi,zi,se,zi] [(0,(1,.t 14)),(1,(1,.t 15)),(3,(1,.t 16))]),zs 6 (.alloc 44 [zi,zi,se,zi]),ys 4 6 17] (.seq (zr [yt 18 6 4,zs 19 (.call 96 [.t 18])] (.cond (.t 19) (.reg [zf 20 2 4,zl 21 20,zf 22 2 6,ys 1 22 21]) .skip)) (.seq (zr [zf 23 0 4,zl 24 23,yk 25 .eql 24 7,zm 26 25,zh 27 26 true 5,gk 28 26 true .eql 27 2,yr 29 26 28 false] (.cond (.t 29) (.reg [zf 30 3 6,zn (.st 1 (.t 30) (.c (.int .i64 3)))]) .skip)) (zr [zm 31 5,yk 32 .neq 31 0] (.cond (.t 32) (.dreg (.take 0 (zl 33 1) (.take 1 (zs 34 (.nck (.t 33))) (.take 2 (zf 35 20 34) (.take 3 (zl 36 35) (.take 4 (yt 37 4 6) (.eff 5 0 false (zs 38 (.cav (.t 36) [.t 37])) (.phase .nil))))))) 0 [1,6]) .skip)))))),[]⟩
def UI:dD:=⟨77,zr [zs 3 (.box 100 (.t 0)),yj 6 0] (.seq (zr [zm 12 2,yk 13 .lss 12 0,zm 14 13,zh 15 14 false 2,zh 16 14 false 1,ge 17 14 false 16,gc 18 14 false .geq 15 17,yq 19 14 true 18] (.cond (.t 19) (zr [yj 6 1] .ret) .skip)) (.seq (zr [zf 20 0 3,zl 21 20] (.block 0 (zr [yk 23 .eql 21 0,zm 22 23] (.cond (.t 22) (zr [zf 24 5 3,zl 25 24,zm 26 1,zm 27 2,zs 28 (.call 183 [.t 25,.t 26,.t 27]),zm 6 28] .ret) (zr [yk 30 .eql 21 1,zm 29 30] (.cond (.t 29) (zr [yj 7 2] (.seq (zr [zf 31 5 3,zl 32 31,yl 33 32,yj 34 0] (.block 1 (.loop (zr [yc 35 .lss 34 33] (.seq (.cond (.t 35) .skip (.exit 1)) (.seq (.block 2 (zr [yi 36 6 32 34,yt 37 6 36,zs 9 (.alloc 100 [zi,zi,se,se,zi,sn]),ys 6 9 37] (.reg [zm 38 7,yt 39 6 9,zm 40 1,zm 41 2,zs 42 (.call 95 [.t 39,.t 40,.t 41]),zs 43 (.mnx false (.t 38) (.t 42)),zm 7 43]))) (.reg [yp 44 34,zm 34 44]))))))) (zr [zm 45 7,zm 6 45] .ret))) (zr [yk 47 .eql 21 2,zm 46 47] (.cond (.t 46) (zr [zf 48 5 3,zl 49 48,zm 50 1,zm 51 2,zs 52 (.call 183 [.t 49,.t 50,.t 51]),zs 53 (.ari .sub .i64 (.c (.int .i64 2)) (.t 52)),zm 6 53] .ret) (.seq (zr [yk 55 .eql 21 3,zm 54 55] (.cond (.t 54) .skip (zr [yk 56 .eql 21 4,zm 54 56] (.cond (.t 54) .skip (zr [yk 57 .eql 21 5,zm 54 57] (.cond (.t 54) .skip (zr [yk 58 .eql 21 6,zm 54 58] (.cond (.t 54) .skip (.reg [yk 59 .eql 21 7,zm 54 59]))))))))) (.cond (.t 54) (.seq (.dreg (.take 0 (zm 61 1) (.take 1 (zm 62 2) (.take 2 (yi 63 4 61 62) (.take 3 (zf 64 3 63) (.take 4 (zl 65 64) (.take 5 (zf 66 2 3) (.take 6 (zl 67 66) (.eff 7 0 false (zs 68 (.call 40 [.t 65,.t 67])) (.phase (.take 8 (zm 60 68) (.take 9 (yx 69 60 0) (.take 10 (yx 70 60 1) (.take 11 (zm 10 69) (.take 12 (zm 11 70) .nil)))))))))))))) 0 [1,3]) (.seq (zr [zm 71 11,yo 72 71] (.cond (.t 72) (zr [yj 6 1] .ret) .skip)) (zr [yt 73 6 3,zm 74 1,zm 75 10,zs 76 (.call 184 [.t 73,.t 74,.t 75]),zm 6 76] .ret))) .skip)))))))))) (zr [yj 6 2] .ret))),[.tmp 6]⟩
def Vi:dD:=⟨11,zr [zs 1 (.box 100 (.t 0)),yb 2 false] (.seq (zr [zf 3 0 1,zl 4 3] (.block 0 (.seq (zr [yk 6 .eql 4 3,zm 5 6] (.cond (.t 5) .skip (zr [yk 7 .eql 4 4,zm 5 7] (.cond (.t 5) .skip (zr [yk 8 .eql 4 5,zm 5 8] (.cond (.t 5) .skip (zr [yk 9 .eql 4 6,zm 5 9] (.cond (.t 5) .skip (.reg [yk 10 .eql 4 7,zm 5 10]))))))))) (.cond (.t 5) (zr [yb 2 true] .ret) .skip)))) (zr [yb 2 false] .ret)),[.tmp 2]⟩
def Vy:dD:=⟨8,zr [zs 3 (.box 9 (.t 1)),yj 4 0] (zr [zm 5 0,zs 6 (.mkf 186 [.t 3]),zs 7 (.call 185 [.t 5,.t 6]),zm 4 7] .ret),[.tmp 4]⟩
def Rw:dD:=⟨150,zr [zs 1 (.box 100 (.t 0)),yb 2 false] (zr [zf 4 1 1,zl 5 4,yk 6 .eql 5 0,zm 7 6,gf 8 7 true 4 1,gl 9 7 true 8,gk 10 7 true .eql 9 0,yr 11 7 10 false,zm 3 11] (.seq (zr [zf 12 0 1,zl 13 12] (.block 0 (.seq (zr [yk 15 .eql 13 0,zm 14 15] (.cond (.t 14) .skip (.reg [yk 16 .eql 13 1,zm 14 16]))) (.cond (.t 14) (zr [zm 17 3,zm 18 17,gf 19 18 true 2 1,gl 20 18 true 19,zg 21 18 true (.cmp .eql (.t 20) (.c se)),yr 22 18 21 false,zm 23 22,gf 24 23 true 3 1,gl 25 23 true 24,zg 26 23 true (.cmp .eql (.t 25) (.c se)),yr 27 23 26 false,zm 28 27,gf 29 28 true 5 1,gl 30 28 true 29,ge 31 28 true 30,gk 32 28 true .geq 31 2,yr 33 28 32 false,zm 34 33,gf 35 34 true 5 1,gl 36 34 true 35,ge 37 34 true 36,gk 38 34 true .leq 37 64,yr 39 34 38 false,zm 40 39,gf 41 40 true 5 1,gl 42 40 true 41,zg 43 40 true (.call 198 [.t 42,.c (.clo 199 [])]),go 44 40 true 43,yr 45 40 44 false,zm 2 45] .ret) (zr [yk 47 .eql 13 2,zm 46 47] (.cond (.t 46) (zr [zm 48 3,zm 49 48,gf 50 49 true 2 1,gl 51 49 true 50,zg 52 49 true (.cmp .eql (.t 51) (.c se)),yr 53 49 52 false,zm 54 53,gf 55 54 true 3 1,gl 56 54 true 55,zg 57 54 true (.cmp .eql (.t 56) (.c se)),yr 58 54 57 false,zm 59 58,gf 60 59 true 5 1,gl 61 59 true 60,ge 62 59 true 61,gk 63 59 true .eql 62 1,yr 64 59 63 false,zm 65 64,gf 66 65 true 5 1,gl 67 65 true 66,zg 68 65 true (.iad 6 (.t 67) (.c zi)),zg 69 65 true (.ld true 6 (.t 68)),zg 70 65 true (.call 111 [.t 69]),yr 71 65 70 false,zm 2 71] .ret) (.seq (zr [yk 73 .eql 13 3,zm 72 73] (.cond (.t 72) .skip (.reg [yk 74 .eql 13 4,zm 72 74]))) (.cond (.t 72) (zr [zm 75 3,zm 76 75,gf 77 76 true 5 1,gl 78 76 true 77,ge 79 76 true 78,gk 80 76 true .eql 79 0,yr 81 76 80 false,zm 82 81,gf 83 82 true 2 1,gl 84 82 true 83,zg 85 82 true (.call 141 [.t 84]),yr 86 82 85 false,zm 87 86,gf 88 87 true 3 1,gl 89 87 true 88,zg 90 87 true (.call 200 [.t 89]),yr 91 87 90 false,zm 2 91] .ret) (.seq (zr [yk 93 .eql 13 5,zm 92 93] (.cond (.t 92) .skip (.reg [yk 94 .eql 13 6,zm 92 94]))) (.cond (.t 92) (zr [zf 95 1 1,zl 96 95,yk 97 .eql 96 0,zm 98 97,gf 99 98 true 3 1,gl 100 98 true 99,zg 101 98 true (.cmp .eql (.t 100) (.c se)),yr 102 98 101 false,zm 103 102,gf 104 103 true 5 1,gl 105 103 true 104,ge 106 103 true 105,gk 107 103 true .eql 106 0,yr 108 103 107 false,zm 109 108,gf 110 109 true 2 1,gl 111 109 true 110,zg 112 109 true (.call 141 [.t 111]),yr 113 109 112 false,zm 114 113,gf 115 114 true 4 1,gl 116 114 true 115,gk 117 114 true .geq 116 0,yr 118 114 117 false,zm 119 118,gf 120 119 true 4 1,gl 121 119 true 120,gk 122 119 true .leq 121 1099511627776,yr 123 119 122 false,zm 2 123] .ret) (zr [yk 125 .eql 13 7,zm 124 125] (.cond (.t 124) (zr [zf 126 4 1,zl 127 126,yk 128 .eql 127 0,zm 129 128,gf 130 129 true 5 1,gl 131 129 true 130,ge 132 129 true 131,gk 133 129 true .eql 132 0,yr 134 129 133 false,zm 135 134,gf 136 135 true 2 1,gl 137 135 true 136,zg 138 135 true (.call 141 [.t 137]),yr 139 135 138 false,zm 140 139,gf 141 140 true 3 1,gl 142 140 true 141,zg 143 140 true (.call 141 [.t 142]),yr 144 140 143 false,zm 145 144,gf 146 145 true 1 1,gl 147 145 true 146,zg 148 145 true (.call 201 [.t 147]),yr 149 145 148 false,zm 2 149] .ret) .skip)))))))))))) (zr [yb 2 false] .ret))),[.tmp 2]⟩
def Qt:dD:=⟨88,zr [zs 3 (.box 100 (.t 1))] (zr [zf 4 0 3,zl 5 4] (.block 0 (zr [yk 7 .eql 5 0,zm 6 7] (.cond (.t 6) (.reg [zm 8 0,yt 9 6 3,zs 10 (.call 202 [.t 8,.t 9,.c (.str ⟨#[32,97,110,100,32]⟩)])]) (zr [yk 12 .eql 5 1,zm 11 12] (.cond (.t 11) (.reg [zm 13 0,yt 14 6 3,zs 15 (.call 202 [.t 13,.t 14,.c (.str ⟨#[32,111,114,32]⟩)])]) (zr [yk 17 .eql 5 2,zm 16 17] (.cond (.t 16) (zr [zm 18 0,zs 19 (.call 56 [.t 18,.c (.str ⟨#[110,111,116,32]⟩)])] (.dreg (.take 0 (zm 20 0) (.take 1 (zf 21 0 3) (.take 2 (zl 22 21) (.take 3 (zf 23 5 3) (.take 4 (zl 24 23) (.take 5 (zs 25 (.iad 6 (.t 24) (.c zi))) (.take 6 (yt 26 6 25) (.eff 7 0 false (zs 27 (.call 203 [.t 20,.t 22,.t 26])) (.phase .nil))))))))) 0 [3])) (zr [yk 29 .eql 5 3,zm 28 29] (.cond (.t 28) (.reg [zm 30 0,zf 31 2 3,zl 32 31,zs 33 (.ari .add .i64 (.t 32) (.c (.str ⟨#[32,61,32,34]⟩))),zf 34 3 3,zl 35 34,ya 36 .add .i64 33 35,zs 37 (.ari .add .i64 (.t 36) (.c (.str ⟨#[34]⟩))),zs 38 (.call 56 [.t 30,.t 37])]) (zr [yk 40 .eql 5 4,zm 39 40] (.cond (.t 39) (.reg [zm 41 0,zf 42 2 3,zl 43 42,zs 44 (.ari .add .i64 (.t 43) (.c (.str ⟨#[32,126,32,34]⟩))),zf 45 3 3,zl 46 45,ya 47 .add .i64 44 46,zs 48 (.ari .add .i64 (.t 47) (.c (.str ⟨#[34]⟩))),zs 49 (.call 56 [.t 41,.t 48])]) (zr [yk 51 .eql 5 5,zm 50 51] (.cond (.t 50) (.dreg (.take 0 (zm 52 0) (.take 1 (zf 53 2 3) (.take 2 (zl 54 53) (.take 3 (zs 55 (.ari .add .i64 (.t 54) (.c (.str ⟨#[32,60,61,32]⟩)))) (.take 4 (zf 56 4 3) (.take 5 (zl 57 56) (.eff 6 0 true (zs 58 (.call 99 [.t 57,.c (.int .i64 10)])) (.take 7 (ya 59 .add .i64 55 58) (.eff 8 0 false (zs 60 (.call 56 [.t 52,.t 59])) (.phase .nil)))))))))) 0 [3]) (zr [yk 62 .eql 5 6,zm 61 62] (.cond (.t 61) (.dreg (.take 0 (zm 63 0) (.take 1 (zf 64 2 3) (.take 2 (zl 65 64) (.take 3 (zs 66 (.ari .add .i64 (.t 65) (.c (.str ⟨#[32,62,61,32]⟩)))) (.take 4 (zf 67 4 3) (.take 5 (zl 68 67) (.eff 6 0 true (zs 69 (.call 99 [.t 68,.c (.int .i64 10)])) (.take 7 (ya 70 .add .i64 66 69) (.eff 8 0 false (zs 71 (.call 56 [.t 63,.t 70])) (.phase .nil)))))))))) 0 [3]) (zr [yk 73 .eql 5 7,zm 72 73] (.cond (.t 72) (.dreg (.take 0 (zm 74 0) (.take 1 (zf 75 2 3) (.take 2 (zl 76 75) (.take 3 (zs 77 (.ari .add .i64 (.t 76) (.c (.str ⟨#[32,61,32]⟩)))) (.take 4 (zf 78 1 3) (.take 5 (zl 79 78) (.take 6 (zs 80 (.aia 1 6 (.g 3) (.t 79))) (.take 7 (zl 81 80) (.take 8 (ya 82 .add .i64 77 81) (.take 9 (zs 83 (.ari .add .i64 (.t 82) (.c (.str ⟨#[46]⟩)))) (.take 10 (zf 84 3 3) (.take 11 (zl 85 84) (.take 12 (ya 86 .add .i64 83 85) (.eff 13 0 false (zs 87 (.call 56 [.t 74,.t 86])) (.phase .nil))))))))))))))) 0 [3]) .skip)))))))))))))))))),[]⟩
def SC:dD:=⟨28,zr [yb 2 false] (.seq (zr [zm 6 0,zs 7 (.call 222 [.t 6]),yo 8 7] (.cond (.t 8) (zr [yb 2 false] .ret) .skip)) (zr [zm 10 0,zs 11 (.call 27 [.t 10]),zm 9 11,yx 12 9 0,yx 13 9 1,yx 14 9 2,zm 3 12,zm 4 13,zm 5 14] (zr [zm 15 5,yk 16 .eql 15 0,zm 17 16,zh 18 17 true 3,ge 19 17 true 18,gk 20 17 true .eql 19 1,yr 21 17 20 false,zm 22 21,zh 23 22 true 3,zg 24 22 true (.iad 3 (.t 23) (.c zi)),zg 25 22 true (.ld true 3 (.t 24)),zg 26 22 true (.call 223 [.t 25]),yr 27 22 26 false,zm 2 27] .ret))),[.tmp 2]⟩
def S6:dD:=⟨34,zr [yb 2 false] (zr [zm 7 0,zs 8 (.call 27 [.t 7]),zm 6 8,yx 9 6 0,yx 10 6 1,yx 11 6 2,zm 3 9,zm 4 10,zm 5 11] (zr [zm 12 5,yk 13 .eql 12 0,zm 14 13,zh 15 14 true 3,ge 16 14 true 15,gk 17 14 true .eql 16 1,yr 18 14 17 false,zm 19 18,zh 20 19 true 3,zg 21 19 true (.iad 3 (.t 20) (.c zi)),gf 22 19 true 0 21,gl 23 19 true 22,gk 24 19 true .eql 23 4,yr 25 19 24 false,zm 26 25,zh 27 26 true 3,zg 28 26 true (.iad 3 (.t 27) (.c zi)),gf 29 26 true 2 28,gl 30 26 true 29,zh 31 26 true 0,gc 32 26 true .eql 30 31,yr 33 26 32 false,zm 2 33] .ret)),[.tmp 2]⟩
def SQ:dD:=⟨15,zr [yb 6 false] (zr [zm 7 0,zm 8 1,yc 9 .geq 7 8,zm 10 9,zh 11 10 true 0,zh 12 10 true 2,gc 13 10 true .leq 11 12,yr 14 10 13 false,zm 6 14] .ret),[.tmp 6]⟩
def Rh:dD:=⟨9,zr [yb 4 false] (zr [zm 5 0,zm 6 1,zs 7 (.call 224 [.t 5,.t 6]),yk 8 .geq 7 0,zm 4 8] .ret),[.tmp 4]⟩
def T2:dD:=⟨6,zr [zs 1 (.box 102 (.t 0)),yb 2 false] (zr [yt 3 8 1,zs 4 (.call 146 [.t 3]),yo 5 4,zm 2 5] .ret),[.tmp 2]⟩
def S3:dD:=⟨26,zr [zs 1 (.box 102 (.t 0)),yb 2 false] (.seq (zr [zf 3 0 1,zl 4 3,zs 5 (.call 201 [.t 4]),yo 6 5,zm 7 6,gf 8 7 false 1 1,gl 9 7 false 8,zg 10 7 false (.call 143 [.t 9,.c (.int .i64 1),.c (.int .i64 9)]),go 11 7 false 10,yq 12 7 true 11] (.cond (.t 12) (zr [yb 2 false] .ret) .skip)) (zr [zf 13 2 1,yt 14 6 13,zs 15 (.call 149 [.t 14]),zm 16 15,gf 17 16 false 2 1,zg 18 16 false (.ld true 6 (.t 17)),zg 19 16 false (.call 225 [.t 18,.c (.int .i64 16)]),zh 20 16 false 19,gf 21 20 true 2 1,zg 22 20 true (.ld true 6 (.t 21)),zg 23 20 true (.call 111 [.t 22]),zg 24 16 false (.pick (.t 20) (.t 23) (.c (.bl false))),yq 25 16 true 24,zm 2 25] .ret)),[.tmp 2]⟩
def R3:dD:=⟨7,.reg [zm 3 0,zs 4 (.call 110 [.t 3,.c (.str ⟨#[32]⟩)]),zs 5 (.ari .add .i64 (.t 4) (.c (.str ⟨#[59,10]⟩))),zs 6 (.call 56 [.t 1,.t 5])],[]⟩
def TW:dD:=⟨4,zr [zs 2 (.mov (.c se))] (.seq (zr [zm 3 0] (.cond (.t 3) (zr [zs 2 (.mov (.c (.str ⟨#[121,101,115]⟩)))] .ret) .skip)) (zr [zs 2 (.mov (.c (.str ⟨#[110,111]⟩)))] .ret)),[.tmp 2]⟩
def RX:dD:=⟨32,zr [zs 1 (.box 100 (.t 0)),yb 2 false] (zr [zf 3 0 1,zl 4 3,yk 5 .eql 4 0,zm 6 5,gf 7 6 true 1 1,gl 8 6 true 7,gk 9 6 true .eql 8 0,yr 10 6 9 false,zm 11 10,gf 12 11 true 4 1,gl 13 11 true 12,gk 14 11 true .eql 13 0,yr 15 11 14 false,zm 16 15,gf 17 16 true 2 1,gl 18 16 true 17,zg 19 16 true (.cmp .eql (.t 18) (.c se)),yr 20 16 19 false,zm 21 20,gf 22 21 true 3 1,gl 23 21 true 22,zg 24 21 true (.cmp .eql (.t 23) (.c se)),yr 25 21 24 false,zm 26 25,gf 27 26 true 5 1,gl 28 26 true 27,ge 29 26 true 28,gk 30 26 true .eql 29 0,yr 31 26 30 false,zm 2 31] .ret),[.tmp 2]⟩
def Sz:dD:=⟨17,zr [yb 2 false] (zr [zm 3 0,zs 4 (.cmp .geq (.t 3) (.c (.int .u8 97))),zm 5 4,zh 6 5 true 0,zg 7 5 true (.cmp .leq (.t 6) (.c (.int .u8 122))),yr 8 5 7 false,zm 9 8,zh 10 9 false 0,zg 11 9 false (.call 234 [.t 10]),yq 12 9 true 11,zm 13 12,zh 14 13 false 0,zg 15 13 false (.cmp .eql (.t 14) (.c (.int .u8 45))),yq 16 13 true 15,zm 2 16] .ret),[.tmp 2]⟩
def TA:dD:=⟨14,zr [yj 2 0,yj 3 0] (.seq (zr [zm 4 0,zs 5 (.call 235 [.t 4,.c (.clo 236 [])]),yk 6 .lss 5 0] (.cond (.t 6) (zr [zm 7 0,zs 8 (.call 237 [.t 7]),yj 2 2,zm 3 8] .ret) .skip)) (.seq (zr [zm 9 0,zs 10 (.call 238 [.t 9])] (.cond (.t 10) (zr [yj 2 0,yj 3 0] .ret) .skip)) (.seq (zr [zm 11 0,zs 12 (.call 222 [.t 11]),yo 13 12] (.cond (.t 13) (zr [yj 2 1,yj 3 2] .ret) .skip)) (zr [yj 2 1,yj 3 0] .ret)))),[.tmp 2,.tmp 3]⟩
def SG:dD:=⟨9,zr [yb 2 false] (zr [zm 3 0,zs 4 (.cmp .geq (.t 3) (.c (.int .u8 65))),zm 5 4,zh 6 5 true 0,zg 7 5 true (.cmp .leq (.t 6) (.c (.int .u8 90))),yr 8 5 7 false,zm 2 8] .ret),[.tmp 2]⟩
def SH:dD:=⟨49,zr [zs 4 (.alloc 179 [zi,zi,se]),yj 5 0] (zr [zm 7 0,zs 8 (.nck (.t 7)),zf 9 1 8,zl 10 9,yp 11 10,zs 12 (.nck (.t 7)),zf 13 1 12,ys 1 13 11] (zr [zm 14 0,zs 15 (.call 78 [.t 14,.c (.clo 239 [])]),zm 6 15] (.seq (.seq (.dreg (.take 0 (zm 16 0) (.take 1 (zs 17 (.nck (.t 16))) (.take 2 (zf 18 1 17) (.take 3 (zl 19 18) (.take 4 (zm 20 0) (.take 5 (zs 21 (.nck (.t 20))) (.take 6 (zf 22 0 21) (.take 7 (zl 23 22) (.take 8 (yz 24 23) (.take 9 (yc 25 .geq 19 24) (.take 10 (zm 26 25) (.take 11 (zh 27 26 false 0) (.take 12 (zg 28 26 false (.nck (.t 27))) (.take 13 (gf 29 26 false 0 28) (.take 14 (gl 30 26 false 29) (.take 15 (zh 31 26 false 0) (.take 16 (zg 32 26 false (.nck (.t 31))) (.take 17 (gf 33 26 false 1 32) (.take 18 (gl 34 26 false 33) (.take 19 (zg 35 26 false (.idx (.t 30) (.t 34))) (.take 20 (zg 36 26 false (.cmp .neq (.t 35) (.c (.int .u8 34)))) (.take 21 (yq 37 26 true 36) .nil)))))))))))))))))))))) 0 [0]) (.cond (.t 37) (zr [zs 38 (.bld [zi,zi,se] []),ys 3 4 38,yj 5 2] .ret) .skip)) (zr [zm 39 0,zs 40 (.nck (.t 39)),zf 41 1 40,zl 42 41,yp 43 42,zs 44 (.nck (.t 39)),zf 45 1 44,ys 1 45 43] (zr [zm 46 1,zm 47 6,zs 48 (.bld [zi,zi,se] [(0,(1,.c (.int .i64 3))),(1,(1,.t 46)),(2,(1,.t 47))]),ys 3 4 48,yj 5 0] .ret))))),[.cell 4 true 3,.tmp 5]⟩
def Ty:dD:=⟨70,zr [zs 4 (.alloc 179 [zi,zi,se]),yj 5 0] (.seq (zr [zm 6 0,zs 7 (.nck (.t 6)),zf 8 0 7,zl 9 8,zm 10 1,zs 11 (.idx (.t 9) (.t 10))] (.block 0 (.seq (zr [zs 14 (.cmp .eql (.t 11) (.c (.int .u8 40))),zm 13 14] (.cond (.t 13) .skip (zr [zs 15 (.cmp .eql (.t 11) (.c (.int .u8 41))),zm 13 15] (.cond (.t 13) .skip (zr [zs 16 (.cmp .eql (.t 11) (.c (.int .u8 44))),zm 13 16] (.cond (.t 13) .skip (zr [zs 17 (.cmp .eql (.t 11) (.c (.int .u8 59))),zm 13 17] (.cond (.t 13) .skip (zr [zs 18 (.cmp .eql (.t 11) (.c (.int .u8 58))),zm 13 18] (.cond (.t 13) .skip (zr [zs 19 (.cmp .eql (.t 11) (.c (.int .u8 46))),zm 13 19] (.cond (.t 13) .skip (zr [zs 20 (.cmp .eql (.t 11) (.c (.int .u8 61))),zm 13 20] (.cond (.t 13) .skip (.reg [zs 21 (.cmp .eql (.t 11) (.c (.int .u8 126))),zm 13 21]))))))))))))))) (.cond (.t 13) (.reg [zm 22 0,zs 23 (.nck (.t 22)),zf 24 1 23,zl 25 24,yp 26 25,zs 27 (.nck (.t 22)),zf 28 1 27,ys 1 28 26]) (.seq (zr [zs 30 (.cmp .eql (.t 11) (.c (.int .u8 60))),zm 29 30] (.cond (.t 29) .skip (.reg [zs 31 (.cmp .eql (.t 11) (.c (.int .u8 62))),zm 29 31]))) (.cond (.t 29) (.seq (zr [zm 32 1,yp 33 32,zm 34 0,zs 35 (.nck (.t 34)),zf 36 0 35,zl 37 36,yz 38 37,yc 39 .geq 33 38,zm 40 39,zh 41 40 false 0,zg 42 40 false (.nck (.t 41)),gf 43 40 false 0 42,gl 44 40 false 43,zh 45 40 false 1,zg 46 40 false (.ari .add .i64 (.t 45) (.c (.int .i64 1))),zg 47 40 false (.idx (.t 44) (.t 46)),zg 48 40 false (.cmp .neq (.t 47) (.c (.int .u8 61))),yq 49 40 true 48] (.cond (.t 49) (zr [zs 50 (.bld [zi,zi,se] []),ys 3 4 50,yj 5 2] .ret) .skip)) (.reg [zm 51 0,zs 52 (.nck (.t 51)),zf 53 1 52,zl 54 53,zs 55 (.ari .add .i64 (.t 54) (.c (.int .i64 2))),zs 56 (.nck (.t 51)),zf 57 1 56,ys 1 57 55])) (zr [zs 12 (.bld [zi,zi,se] []),ys 3 4 12,yj 5 2] .ret))))))) (.seq (.dreg (.take 0 (zm 58 1) (.take 1 (zm 59 0) (.take 2 (zs 60 (.nck (.t 59))) (.take 3 (zf 61 0 60) (.take 4 (zl 62 61) (.take 5 (zm 63 1) (.take 6 (zm 64 0) (.take 7 (zs 65 (.nck (.t 64))) (.take 8 (zf 66 1 65) (.take 9 (zl 67 66) (.take 10 (zs 68 (.sls (.t 62) (some (.t 63)) (some (.t 67)))) (.take 11 (zs 69 (.bld [zi,zi,se] [(0,(1,.c (.int .i64 5))),(1,(1,.t 58)),(2,(1,.t 68))])) (.eff 12 0 false (ys 3 4 69) (.phase (.take 13 (yj 5 0) .nil))))))))))))))) 0 [0]) .ret)),[.cell 4 true 3,.tmp 5]⟩
def SX:dD:=⟨5,zr [zs 2 (.mov (.c se))] (zr [zm 3 0,zs 4 (.call 109 [.t 3]),zm 2 4] .ret),[.tmp 2]⟩
def TQ:dD:=⟨33,zr [zs 2 (.mov (.c se))] (zr [zs 3 (.alloc 133 [.v (.pointer none),sn])] (zr [zs 7 (.mkf 249 [.t 3]),zm 4 7] (.seq (zr [zm 8 0,yl 9 8,yj 10 0] (.block 0 (.loop (zr [yc 11 .lss 10 9] (.seq (.cond (.t 11) .skip (.exit 0)) (.seq (.block 1 (zr [yi 12 3 8 10,yt 13 3 12,zs 6 (.alloc 83 [se,zi,sn]),ys 3 6 13] (.seq (.dreg (.take 0 (zf 14 0 6) (.take 1 (zl 15 14) (.take 2 (zs 16 (.ari .add .i64 (.t 15) (.c (.str ⟨#[32]⟩)))) (.take 3 (zf 17 1 6) (.take 4 (zl 18 17) (.eff 5 0 true (zs 19 (.call 251 [.t 18])) (.take 6 (ya 20 .add .i64 16 19) (.eff 7 0 false (zs 21 (.call 56 [.t 3,.t 20])) (.phase .nil))))))))) 0 [6]) (.reg [zm 22 4,zf 23 2 6,zl 24 23,zs 25 (.cav (.t 22) [.t 24])])))) (.reg [yp 26 10,zm 10 26]))))))) (zr [zs 27 (.call 56 [.t 3,.c (.str ⟨#[97,108,108]⟩)])] (zr [zm 28 4,zm 29 0,zs 30 (.call 252 [.t 29]),zs 31 (.cav (.t 28) [.t 30])] (zr [zs 32 (.call 62 [.t 3]),zm 2 32] .ret)))))),[.tmp 2]⟩
def T3:dD:=⟨4,zr [zs 1 (.box 9 (.t 0)),zs 2 (.mov (.c (.v .nilFunc)))] (zr [zs 3 (.mkf 176 [.t 1]),zm 2 3] .ret),[.tmp 2]⟩
def TC:dD:=⟨7,zr [yj 3 0] (.seq (zr [zm 4 0,zl 5 1,yc 6 .neq 4 5] (.cond (.t 6) (zr [yj 3 3] .ret) .skip)) (zr [yj 3 0] .ret)),[.tmp 3]⟩
def Rz:dD:=⟨43,zr [zm 12 0,zs 13 (.nck (.t 12)),zf 14 18 13,zl 15 14,zm 16 1,yi 17 4 15 16,yt 18 4 17,zs 8 (.alloc 88 [zi,se,se,sn]),ys 4 8 18] (zr [yj 9 1] (.seq (zr [zf 20 3 8,zl 21 20,zm 22 2,zs 23 (.call 40 [.t 21,.t 22]),zm 19 23,yx 24 19 0,yx 25 19 1,zm 10 24,zm 11 25] (zr [zm 26 11] (.cond (.t 26) (.reg [zm 27 3,zm 28 10,zs 29 (.cav (.t 27) [.t 28]),zm 9 29]) .skip))) (zr [zm 30 9,yk 31 .neq 30 0] (.cond (.t 31) (.dreg (.take 0 (zm 32 0) (.take 1 (zs 33 (.nck (.t 32))) (.take 2 (zf 34 20 33) (.take 3 (zl 35 34) (.take 4 (zm 36 1) (.take 5 (zf 37 0 8) (.take 6 (zl 38 37) (.take 7 (zm 39 2) (.take 8 (zm 40 9) (.take 9 (zs 41 (.bld [zi,zi,se,zi] [(0,(1,.t 36)),(1,(1,.t 38)),(2,(1,.t 39)),(3,(1,.t 40))])) (.eff 10 0 false (zs 42 (.cav (.t 35) [.t 41])) (.phase .nil)))))))))))) 0 [0,8]) .skip)))),[]⟩
def Sy:dD:=⟨47,zr [yj 3 0] (zr [zm 11 0,zs 12 (.call 41 [.t 11]),zm 10 12,yx 13 10 0,yx 14 10 1,zm 4 13,zm 5 14] (.seq (zr [zm 15 5,yo 16 15] (.cond (.t 16) (zr [yj 3 2] .ret) .skip)) (.seq (zr [zl 18 1,zs 19 (.nck (.t 18)),zf 20 0 19,yt 21 18 20,zs 22 (.call 179 [.t 21]),zm 17 22,yx 23 17 0,yx 24 17 1,zm 6 23,zm 7 24] (zr [zm 25 7,yk 26 .eql 25 0,zm 27 26,zh 28 27 true 4,zh 29 27 true 6,gc 30 27 true .gtr 28 29,yr 31 27 30 false] (.cond (.t 31) (zr [yj 3 5] .ret) .skip))) (.seq (zr [zl 33 1,zs 34 (.nck (.t 33)),zf 35 0 34,yt 36 18 35,zs 37 (.call 180 [.t 36]),zm 32 37,yx 38 32 0,yx 39 32 1,zm 8 38,zm 9 39] (zr [zm 40 9,yk 41 .eql 40 0,zm 42 41,zh 43 42 true 4,zh 44 42 true 8,gc 45 42 true .lss 43 44,yr 46 42 45 false] (.cond (.t 46) (zr [yj 3 6] .ret) .skip))) (zr [yj 3 0] .ret))))),[.tmp 3]⟩
def Sq:dD:=⟨9,zr [zs 1 (.box 33 (.t 0)),yj 2 0,yj 3 0] (.seq (zr [yt 4 18 1,zs 5 (.call 253 [.t 4]),yo 6 5] (.cond (.t 6) (zr [yj 2 0,yj 3 1] .ret) .skip)) (zr [yt 7 18 1,zs 8 (.call 254 [.t 7]),zm 2 8,yj 3 0] .ret)),[.tmp 2,.tmp 3]⟩
def Tu:dD:=⟨9,zr [zs 1 (.box 33 (.t 0)),yj 2 0,yj 3 0] (.seq (zr [yt 4 18 1,zs 5 (.call 253 [.t 4]),yo 6 5] (.cond (.t 6) (zr [yj 2 0,yj 3 1] .ret) .skip)) (zr [yt 7 18 1,zs 8 (.call 255 [.t 7]),zm 2 8,yj 3 0] .ret)),[.tmp 2,.tmp 3]⟩
def TU:dD:=⟨33,zr [yj 3 0] (zr [zm 7 0,zs 8 (.call 41 [.t 7]),zm 6 8,yx 9 6 0,yx 10 6 1,zm 4 9,zm 5 10] (.seq (zr [zm 11 5,yo 12 11] (.cond (.t 12) (zr [yj 3 2] .ret) .skip)) (.seq (.seq (.dreg (.take 0 (zm 13 4) (.take 1 (zl 14 1) (.take 2 (zs 15 (.nck (.t 14))) (.take 3 (zf 16 0 15) (.take 4 (zf 17 11 16) (.take 5 (zl 18 17) (.take 6 (yc 19 .gtr 13 18) (.take 7 (zm 20 19) (.take 8 (gl 21 20 false 1) (.take 9 (zg 22 20 false (.nck (.t 21))) (.take 10 (gf 23 20 false 19 22) (.take 11 (gl 24 20 false 23) (.take 12 (zh 25 20 false 4) (.take 13 (gl 26 20 false 1) (.take 14 (zg 27 20 false (.nck (.t 26))) (.take 15 (gf 28 20 false 0 27) (.take 16 (gf 29 20 false 13 28) (.take 17 (gl 30 20 false 29) (.eff 18 0 false (zg 31 20 false (.call 182 [.t 24,.t 25,.t 30])) (.phase (.take 19 (yq 32 20 true 31) .nil))))))))))))))))))))) 0 [1]) (.cond (.t 32) (zr [yj 3 4] .ret) .skip)) (zr [yj 3 0] .ret)))),[.tmp 3]⟩
def Tf:dD:=⟨28,zr [yb 6 false] (.seq (zr [zm 7 2,yk 8 .gtr 7 0,zm 9 8,zh 10 9 true 1,zh 11 9 true 2,zg 12 9 true (.ari .sub .i64 (.c (.int .i64 9223372036854775807)) (.t 11)),gc 13 9 true .gtr 10 12,yr 14 9 13 false] (.cond (.t 14) (zr [yb 6 false] .ret) .skip)) (.seq (zr [zm 15 2,yk 16 .lss 15 0,zm 17 16,zh 18 17 true 1,zh 19 17 true 2,zg 20 17 true (.ari .sub .i64 (.c (.int .i64 (-9223372036854775808))) (.t 19)),gc 21 17 true .lss 18 20,yr 22 17 21 false] (.cond (.t 22) (zr [yb 6 true] .ret) .skip)) (zr [zm 23 0,zm 24 1,zm 25 2,ya 26 .add .i64 24 25,yc 27 .gtr 23 26,zm 6 27] .ret))),[.tmp 6]⟩
def TS:dD:=⟨73,zr [zs 3 (.box 100 (.t 0)),yj 6 0] (zr [yb 7 false] (.seq (zr [zf 14 0 3,zl 15 14] (.block 0 (zr [yk 17 .eql 15 3,zm 16 17] (.cond (.t 16) (.reg [zm 18 2,zf 19 3 3,zl 20 19,yc 21 .eql 18 20,zm 7 21]) (zr [yk 23 .eql 15 4,zm 22 23] (.cond (.t 22) (.reg [zm 24 2,zf 25 3 3,zl 26 25,zs 27 (.call 256 [.t 24,.t 26]),zm 7 27]) (zr [yk 29 .eql 15 5,zm 28 29] (.cond (.t 28) (zr [zm 31 2,zs 32 (.call 41 [.t 31]),zm 30 32,yx 33 30 0,yx 34 30 1,zm 8 33,zm 9 34] (.reg [zm 35 9,zm 36 35,zh 37 36 true 8,gf 38 36 true 4 3,gl 39 36 true 38,gc 40 36 true .leq 37 39,yr 41 36 40 false,zm 7 41])) (zr [yk 43 .eql 15 6,zm 42 43] (.cond (.t 42) (zr [zm 45 2,zs 46 (.call 41 [.t 45]),zm 44 46,yx 47 44 0,yx 48 44 1,zm 10 47,zm 11 48] (.reg [zm 49 11,zm 50 49,zh 51 50 true 10,gf 52 50 true 4 3,gl 53 50 true 52,gc 54 50 true .geq 51 53,yr 55 50 54 false,zm 7 55])) (zr [yk 57 .eql 15 7,zm 56 57] (.cond (.t 56) (zr [zm 59 1,zf 60 1 3,zl 61 60,zf 62 3 3,zl 63 62,zs 64 (.call 193 [.t 59,.t 61,.t 63]),zm 58 64,yx 65 58 0,yx 66 58 1,zm 12 65,zm 13 66] (.seq (zr [zm 67 13,yo 68 67] (.cond (.t 68) (zr [yj 6 1] .ret) .skip)) (.reg [zm 69 2,zm 70 12,yc 71 .eql 69 70,zm 7 71]))) .skip)))))))))))) (.seq (zr [zm 72 7] (.cond (.t 72) (zr [yj 6 0] .ret) .skip)) (zr [yj 6 2] .ret)))),[.tmp 6]⟩
def Ue:dD:=⟨19,zr [yj 4 0] (.seq (zr [zm 6 0,yl 7 6,yj 8 0] (.block 0 (.loop (zr [yc 9 .lss 8 7] (.seq (.cond (.t 9) .skip (.exit 0)) (.seq (.block 1 (zr [zm 10 8,zm 5 10] (zr [zm 11 1,zm 12 0,zm 13 5,yi 14 2 12 13,yt 15 2 14,zs 16 (.cav (.t 11) [.t 15])] (.cond (.t 16) (zr [zm 17 5,zm 4 17] .ret) .skip)))) (.reg [yp 18 8,zm 8 18]))))))) (zr [yj 4 (-1)] .ret)),[.tmp 4]⟩
def SA:dD:=⟨8,zr [zs 2 (.box 126 (.t 0)),yb 3 false] (zr [zf 4 0 2,zl 5 4,zl 6 1,yc 7 .eql 5 6,zm 3 7] .ret),[.tmp 3]⟩
def R6:dD:=⟨9,zr [yb 4 false] (zr [zm 5 0,zm 6 1,zs 7 (.call 267 [.t 5,.t 6]),yk 8 .geq 7 0,zm 4 8] .ret),[.tmp 4]⟩
def TM:dD:=⟨6,zr [zs 1 (.box 100 (.t 0)),yb 2 false] (zr [yt 3 6 1,zs 4 (.call 111 [.t 3]),yo 5 4,zm 2 5] .ret),[.tmp 2]⟩
def SZ:dD:=⟨26,zr [yb 2 false] (.seq (zr [zm 4 0,yz 5 4,yj 6 0] (.block 0 (.loop (zr [yc 7 .lss 6 5] (.seq (.cond (.t 7) .skip (.exit 0)) (.seq (.block 1 (zr [zm 8 6,zm 3 8] (zr [zm 9 0,zm 10 3,zs 11 (.idx (.t 9) (.t 10)),zs 12 (.cmp .lss (.t 11) (.c (.int .u8 32))),zm 13 12,zh 14 13 false 0,zh 15 13 false 3,zg 16 13 false (.idx (.t 14) (.t 15)),zg 17 13 false (.cmp .gtr (.t 16) (.c (.int .u8 126))),yq 18 13 true 17,zm 19 18,zh 20 19 false 0,zh 21 19 false 3,zg 22 19 false (.idx (.t 20) (.t 21)),zg 23 19 false (.cmp .eql (.t 22) (.c (.int .u8 34))),yq 24 19 true 23] (.cond (.t 24) (zr [yb 2 false] .ret) .skip)))) (.reg [yp 25 6,zm 6 25]))))))) (zr [yb 2 true] .ret)),[.tmp 2]⟩
def T7:dD:=⟨9,zr [yb 2 false] (zr [zm 3 0,yk 4 .geq 3 0,zm 5 4,zh 6 5 true 0,gk 7 5 true .lss 6 6,yr 8 5 7 false,zm 2 8] .ret),[.tmp 2]⟩
def Sk:dD:=⟨27,zr [zs 4 (.box 100 (.t 1))] (zr [zf 8 5 4,zl 9 8,yl 10 9,yj 11 0] (.block 0 (.loop (zr [yc 12 .lss 11 10] (.seq (.cond (.t 12) .skip (.exit 0)) (.seq (.block 1 (zr [zm 13 11,yi 14 6 9 11,yt 15 6 14,zs 7 (.alloc 100 [zi,zi,se,se,zi,sn]),zm 6 13,ys 6 7 15] (.seq (zr [zm 16 6,yk 17 .gtr 16 0] (.cond (.t 17) (.reg [zm 18 0,zm 19 2,zs 20 (.call 56 [.t 18,.t 19])]) .skip)) (.reg [zm 21 0,zf 22 0 4,zl 23 22,yt 24 6 7,zs 25 (.call 203 [.t 21,.t 23,.t 24])])))) (.reg [yp 26 11,zm 11 26]))))))),[]⟩
def RW:dD:=⟨28,zr [zs 5 (.box 100 (.t 2))] (.seq (zr [zf 6 0 5,zl 7 6,yk 8 .eql 7 1,zm 9 8,gf 10 9 false 0 5,gl 11 9 false 10,gk 12 9 false .eql 11 0,zh 13 9 false 12,zh 14 13 true 1,gk 15 13 true .neq 14 1,zg 16 9 false (.pick (.t 13) (.t 15) (.c (.bl false))),yq 17 9 true 16] (.cond (.t 17) (zr [zm 18 0,zs 19 (.call 56 [.t 18,.c (.str ⟨#[40]⟩)])] (zr [zm 20 0,yt 21 6 5,zs 22 (.call 112 [.t 20,.t 21])] (zr [zm 23 0,zs 24 (.call 56 [.t 23,.c (.str ⟨#[41]⟩)])] .ret))) .skip)) (.reg [zm 25 0,yt 26 6 5,zs 27 (.call 112 [.t 25,.t 26])])),[]⟩
def TG:dD:=⟨36,zr [yb 2 false] (.seq (zr [zm 4 0,yz 5 4,yk 6 .lss 5 1,zm 7 6,zh 8 7 false 0,gz 9 7 false 8,gk 10 7 false .gtr 9 16,yq 11 7 true 10] (.cond (.t 11) (zr [yb 2 false] .ret) .skip)) (.seq (zr [zm 12 0,yz 13 12,yj 14 0] (.block 0 (.loop (zr [yc 15 .lss 14 13] (.seq (.cond (.t 15) .skip (.exit 0)) (.seq (.block 1 (zr [zm 16 14,zm 3 16] (zr [zm 17 0,zm 18 3,zs 19 (.idx (.t 17) (.t 18)),zs 20 (.call 283 [.t 19]),yo 21 20,zm 22 21,zh 23 22 true 0,zh 24 22 true 3,zg 25 22 true (.idx (.t 23) (.t 24)),zg 26 22 true (.call 284 [.t 25]),go 27 22 true 26,yr 28 22 27 false,zm 29 28,zh 30 29 true 0,zh 31 29 true 3,zg 32 29 true (.idx (.t 30) (.t 31)),zg 33 29 true (.cmp .neq (.t 32) (.c (.int .u8 45))),yr 34 29 33 false] (.cond (.t 34) (zr [yb 2 false] .ret) .skip)))) (.reg [yp 35 14,zm 14 35]))))))) (zr [yb 2 true] .ret))),[.tmp 2]⟩
def T1:dD:=⟨16,zr [zs 1 (.box 179 (.t 0)),yb 2 false] (zr [zf 3 0 1,zl 4 3,yk 5 .eql 4 0,zm 6 5,gf 7 6 false 0 1,gl 8 6 false 7,gk 9 6 false .eql 8 1,yq 10 6 true 9,zm 11 10,gf 12 11 false 0 1,gl 13 11 false 12,gk 14 11 false .eql 13 2,yq 15 11 true 14,zm 2 15] .ret),[.tmp 2]⟩
def QY:dD:=⟨19,zr [yj 4 0] (.seq (zr [zm 6 0,yl 7 6,yj 8 0] (.block 0 (.loop (zr [yc 9 .lss 8 7] (.seq (.cond (.t 9) .skip (.exit 0)) (.seq (.block 1 (zr [zm 10 8,zm 5 10] (zr [zm 11 1,zm 12 0,zm 13 5,yi 14 8 12 13,yt 15 8 14,zs 16 (.cav (.t 11) [.t 15])] (.cond (.t 16) (zr [zm 17 5,zm 4 17] .ret) .skip)))) (.reg [yp 18 8,zm 8 18]))))))) (zr [yj 4 (-1)] .ret)),[.tmp 4]⟩
def RS:dD:=⟨18,zr [zs 2 (.box 100 (.t 0)),zs 3 (.box 3 (.t 1)),yb 4 false] (.seq (zr [zf 5 5 2,zl 6 5,yl 7 6,yk 8 .eql 7 0] (.cond (.t 8) (zr [yb 4 true] .ret) .skip)) (zr [zl 9 3,yk 10 .gtr 9 0,zm 11 10,gf 12 11 true 5 2,gl 13 11 true 12,zg 14 11 true (.mkf 285 [.t 3]),zg 15 11 true (.call 198 [.t 13,.t 14]),go 16 11 true 15,yr 17 11 16 false,zm 4 17] .ret)),[.tmp 4]⟩
def Tc:dD:=⟨9,zr [yb 2 false] (zr [zm 3 0,zs 4 (.cmp .geq (.t 3) (.c (.int .u8 48))),zm 5 4,zh 6 5 true 0,zg 7 5 true (.cmp .leq (.t 6) (.c (.int .u8 57))),yr 8 5 7 false,zm 2 8] .ret),[.tmp 2]⟩
def SR:dD:=⟨29,zr [yj 2 0] (.seq (zr [zm 5 0,yz 6 5,yk 7 .gtr 6 1,zm 8 7,zh 9 8 true 0,zg 10 8 true (.idx (.t 9) (.c zi)),zg 11 8 true (.cmp .eql (.t 10) (.c (.int .u8 48))),yr 12 8 11 false] (.cond (.t 12) (zr [yj 2 2] .ret) .skip)) (zr [yj 3 0] (.seq (zr [zm 13 0,yz 14 13,yj 15 0] (.block 0 (.loop (zr [yc 16 .lss 15 14] (.seq (.cond (.t 16) .skip (.exit 0)) (.seq (.block 1 (zr [zm 17 15,zm 4 17] (zr [zm 18 3,zs 19 (.ari .mul .i64 (.t 18) (.c (.int .i64 10))),zm 20 0,zm 21 4,zs 22 (.idx (.t 20) (.t 21)),zs 23 (.ari .sub .u8 (.t 22) (.c (.int .u8 48))),zs 24 (.cvi .i64 (.t 23)),ya 25 .add .i64 19 24,zm 3 25] (zr [zm 26 3,yk 27 .gtr 26 1099511627776] (.cond (.t 27) (zr [yj 2 3] .ret) .skip))))) (.reg [yp 28 15,zm 15 28]))))))) (zr [yj 2 0] .ret)))),[.tmp 2]⟩
def TI:dD:=⟨13,zr [yb 2 false] (.seq (zr [zs 5 (.ld true 35 (.g 5)),yj 6 0] (.block 0 (.loop (zr [yk 7 .lss 6 35] (.seq (.cond (.t 7) .skip (.exit 0)) (.seq (.block 1 (zr [zs 8 (.aix false 1 35 (.t 5) (.t 6)),zm 4 8] (zr [zm 9 4,zm 10 0,yc 11 .eql 9 10] (.cond (.t 11) (zr [yb 2 true] .ret) .skip)))) (.reg [yp 12 6,zm 6 12]))))))) (zr [yb 2 false] .ret)),[.tmp 2]⟩
def T8:dD:=⟨13,zr [yb 2 false] (zr [zm 3 0,zs 4 (.cmp .neq (.t 3) (.c (.int .u8 34))),zm 5 4,zh 6 5 true 0,zg 7 5 true (.cmp .geq (.t 6) (.c (.int .u8 32))),yr 8 5 7 false,zm 9 8,zh 10 9 true 0,zg 11 9 true (.cmp .leq (.t 10) (.c (.int .u8 126))),yr 12 9 11 false,zm 2 12] .ret),[.tmp 2]⟩
def TV:dD:=⟨22,.seq (zr [zm 5 0,yl 6 5,yj 7 0] (.block 0 (.loop (zr [yc 8 .lss 7 6] (.seq (.cond (.t 8) .skip (.exit 0)) (.seq (.block 1 (zr [yi 9 2 5 7,yt 10 2 9,zs 4 (.alloc 295 [se,zi]),ys 2 4 10] (.dreg (.take 0 (zf 11 0 4) (.take 1 (zl 12 11) (.take 2 (zs 13 (.ari .add .i64 (.c (.str ⟨#[32]⟩)) (.t 12))) (.take 3 (zs 14 (.ari .add .i64 (.t 13) (.c (.str ⟨#[58]⟩)))) (.take 4 (zf 15 1 4) (.take 5 (zl 16 15) (.eff 6 0 true (zs 17 (.call 109 [.t 16])) (.take 7 (ya 18 .add .i64 14 17) (.eff 8 0 false (zs 19 (.call 56 [.t 1,.t 18])) (.phase .nil)))))))))) 0 [4]))) (.reg [yp 20 7,zm 7 20]))))))) (.reg [zs 21 (.call 250 [.t 1,.c (.int .u8 10)])]),[]⟩
def TX:dD:=⟨8,zr [zs 2 (.mov (.c se))] (.seq (zr [zm 3 0] (.block 0 (zr [yk 5 .eql 3 0,zm 4 5] (.cond (.t 4) (zr [zs 2 (.mov (.c (.str ⟨#[115,109,97,108,108]⟩)))] .ret) (zr [yk 7 .eql 3 1,zm 6 7] (.cond (.t 6) (zr [zs 2 (.mov (.c (.str ⟨#[108,97,114,103,101]⟩)))] .ret) .skip)))))) (zr [zs 2 (.mov (.c (.str ⟨#[111,116,104,101,114]⟩)))] .ret)),[.tmp 2]⟩
def Sx:dD:=⟨19,zr [zs 2 (.mov (.c sn))] (zr [zs 3 (.mov (.c sn))] (.seq (zr [zm 6 0,yl 7 6,yj 8 0] (.block 0 (.loop (zr [yc 9 .lss 8 7] (.seq (.cond (.t 9) .skip (.exit 0)) (.seq (.block 1 (zr [yi 10 3 6 8,yt 11 3 10,zs 5 (.alloc 83 [se,zi,sn]),ys 3 5 11] (.reg [zm 12 3,zf 13 2 5,zl 14 13,zs 15 (.app 81 81 295 2 24 (.t 12) (.t 14)),zm 3 15]))) (.reg [yp 16 8,zm 8 16]))))))) (zr [zm 17 3,zs 18 (.call 297 [.t 17]),zm 2 18] .ret))),[.tmp 2]⟩
def SL:dD:=⟨33,zr [zs 1 (.box 33 (.t 0)),yb 2 false] (zr [zf 3 7 1,zf 4 1 3,zl 5 4,yk 6 .geq 5 1,zm 7 6,gf 8 7 true 7 1,gf 9 7 true 1 8,gl 10 7 true 9,gk 11 7 true .leq 10 1099511627776,yr 12 7 11 false,zm 13 12,gf 14 13 true 9 1,gl 15 13 true 14,zg 16 13 true (.call 298 [.t 15]),yr 17 13 16 false,zm 18 17,gf 19 18 true 10 1,gl 20 18 true 19,zg 21 18 true (.call 298 [.t 20]),yr 22 18 21 false,zm 23 22,gf 24 23 true 12 1,gl 25 23 true 24,gk 26 23 true .geq 25 0,yr 27 23 26 false,zm 28 27,gf 29 28 true 12 1,gl 30 28 true 29,gk 31 28 true .leq 30 1048576,yr 32 28 31 false,zm 2 32] .ret),[.tmp 2]⟩
def Sj:dD:=⟨11,zr [zs 1 (.box 33 (.t 0)),yj 2 0] (zr [zf 3 7 1,zf 4 1 3,zl 5 4,zf 6 9 1,zl 7 6,zs 8 (.ari .add .i64 (.c (.int .i64 1000)) (.t 7)),ya 9 .mul .i64 5 8,zs 10 (.ari .quo .i64 (.t 9) (.c (.int .i64 1000))),zm 2 10] .ret),[.tmp 2]⟩
def Ta:dD:=⟨13,zr [zs 1 (.box 33 (.t 0)),yj 2 0] (zr [zf 3 7 1,zf 4 1 3,zl 5 4,zf 6 10 1,zl 7 6,zs 8 (.ari .sub .i64 (.c (.int .i64 1000)) (.t 7)),ya 9 .mul .i64 5 8,zs 10 (.ari .add .i64 (.t 9) (.c (.int .i64 1000))),zs 11 (.ari .sub .i64 (.t 10) (.c (.int .i64 1))),zs 12 (.ari .quo .i64 (.t 11) (.c (.int .i64 1000))),zm 2 12] .ret),[.tmp 2]⟩
def QO:dD:=⟨19,zr [yj 4 0] (.seq (zr [zm 6 0,yl 7 6,yj 8 0] (.block 0 (.loop (zr [yc 9 .lss 8 7] (.seq (.cond (.t 9) .skip (.exit 0)) (.seq (.block 1 (zr [zm 10 8,zm 5 10] (zr [zm 11 1,zm 12 0,zm 13 5,yi 14 6 12 13,yt 15 6 14,zs 16 (.cav (.t 11) [.t 15])] (.cond (.t 16) (zr [zm 17 5,zm 4 17] .ret) .skip)))) (.reg [yp 18 8,zm 8 18]))))))) (zr [yj 4 (-1)] .ret)),[.tmp 4]⟩
def Tz:dD:=⟨9,zr [yb 2 false] (zr [zm 3 0,zs 4 (.cmp .geq (.t 3) (.c (.int .u8 97))),zm 5 4,zh 6 5 true 0,zg 7 5 true (.cmp .leq (.t 6) (.c (.int .u8 122))),yr 8 5 7 false,zm 2 8] .ret),[.tmp 2]⟩
def TO:dD:=⟨9,zr [yb 2 false] (zr [zm 3 0,zs 4 (.cmp .geq (.t 3) (.c (.int .u8 48))),zm 5 4,zh 6 5 true 0,zg 7 5 true (.cmp .leq (.t 6) (.c (.int .u8 57))),yr 8 5 7 false,zm 2 8] .ret),[.tmp 2]⟩
def Ud:dD:=⟨9,zr [zs 2 (.box 100 (.t 0)),yb 3 false] (zr [yt 4 6 2,zl 5 1,zs 6 (.ari .sub .i64 (.t 5) (.c (.int .i64 1))),zs 7 (.call 225 [.t 4,.t 6]),yo 8 7,zm 3 8] .ret),[.tmp 3]⟩
def SO:dD:=⟨6,zr [zs 2 (.mov (.c sn))] (zr [zm 3 0,zs 4 (.call 319 [.t 3]),zs 5 (.call 318 [.t 4]),zm 2 5] .ret),[.tmp 2]⟩
def T6:dD:=⟨9,zr [yb 2 false] (zr [zm 3 0,yk 4 .geq 3 0,zm 5 4,zh 6 5 true 0,gk 7 5 true .leq 6 1000,yr 8 5 7 false,zm 2 8] .ret),[.tmp 2]⟩
def TH:dD:=⟨22,zr [zs 2 (.mov (.c sn))] (zr [zs 3 (.mov (.c sn))] (.seq (zr [zm 6 0,zs 7 (.rng (.t 6))] (.block 0 (.loop (zr [zs 8 (.nxt (.t 7)),yx 9 8 0] (.seq (.cond (.t 9) .skip (.exit 0)) (.block 1 (zr [zs 10 (.ent (.t 7)),yx 11 10 0,yx 12 10 1,zm 4 11,zm 5 12] (.reg [zm 13 3,zm 14 4,zm 15 5,zs 16 (.bld [se,zi] [(0,(1,.t 14)),(1,(1,.t 15))]),zs 17 (.bsl 295 2 1 [se,zi] [(0,.t 16)]),zs 18 (.app 81 81 295 2 24 (.t 13) (.t 17)),zm 3 18])))))))) (zr [zm 19 3,zs 20 (.call 326 [.t 19,.c (.clo 327 [])])] (zr [zm 21 3,zm 2 21] .ret)))),[.tmp 2]⟩
def Tn:dD:=⟨25,zr [zs 2 (.mov (.c (.v (.map none))))] (zr [zs 6 (.mkm 349),zm 3 6] (.seq (zr [zm 7 0,yl 8 7,yj 9 0] (.block 0 (.loop (zr [yc 10 .lss 9 8] (.seq (.cond (.t 10) .skip (.exit 0)) (.seq (.block 1 (zr [yi 11 2 7 9,yt 12 2 11,zs 5 (.alloc 295 [se,zi]),ys 2 5 12] (zr [zf 13 1 5,zl 14 13,yk 15 .gtr 14 0] (.cond (.t 15) (.reg [zm 16 3,zf 17 0 5,zl 18 17,zs 19 (.lkp .none false zi (.t 16) (.t 18)),zf 20 1 5,zl 21 20,ya 22 .add .i64 19 21,zn (.upd .none (.t 16) (.t 18) (.t 22))]) .skip)))) (.reg [yp 23 9,zm 9 23]))))))) (zr [zm 24 3,zm 2 24] .ret))),[.tmp 2]⟩
set_option maxHeartbeats 1000000
set_option maxRecDepth 100000
theorem mT {K:AV→List cC→Prop}{b c:Bool}{H:List cC}(h:K (.bl c) H) (e:b=c):K (.bl b) H:=e ▸ h
theorem Uh {K:AV→List cC→Prop}{b c:Int}{H:List cC}(h:K (.i c) H) (e:b=c):K (.i b) H:=e ▸ h
def xA (g:Int→Bool):cQ:=spec (fun z:Int=>[.int .u8 z]) (fun _=>[]) (fun _=>True) (fun z=>.bl (g z)) fun _=>[]
theorem wI (P:bG):bL P Tz (xA tS):=by
 intro args H K hc;obtain⟨z,rfl,rfl,_,hK⟩:=hc;refine⟨cW,?_⟩;dsimp only at hK⊢;cbv;repeat'((first|refine .mk (fun h=>?_) fun h=>?_|fail)<;>cbv)
 all_goals exact nF.mk ⟨_,Gh.refl _,.inl (.v9 (mT hK (by(unfold tS;simp;omega))))⟩
theorem zS (P:bG):bL P TO (xA qM):=by
 intro args H K hc;obtain⟨z,rfl,rfl,_,hK⟩:=hc;refine⟨cW,?_⟩;dsimp only at hK⊢;cbv;repeat'((first|refine .mk (fun h=>?_) fun h=>?_|fail)<;>cbv)
 all_goals exact nF.mk ⟨_,Gh.refl _,.inl (.v9 (mT hK (by(unfold qM;simp;omega))))⟩
def DG (p:bF→Prop) (g:bF→Bool):cQ:=spec (fun s:bF=>[.str s]) (fun _=>[]) p (fun s=>.bl (g s)) fun _=>[]
theorem Q1 {c:UInt8}{z:Int}(hz:z=c.toNat):OW c=(tS z || qM z || decide (z=45)):=by subst hz;rfl
theorem rO {s:bF}(h:s.size < 1∨16 < s.size):Wt s=false:=by
 unfold Wt;rcases h with h|h
 ·rw[aG (by omega)];rfl
 ·rw[aG (p:=s.size≤16) (by omega)];simp
theorem Dg {s:bF}(h:lA s s.size) (h1:1≤s.size) (h2:s.size≤16):Wt s=true:=by rw[GL h];simp[h1,h2]
theorem Ir (P:bG) (hl:bH P 283 (xA tS)) (hd:bH P 284 (xA qM)):bL P TG (DG (fun _=>True) Wt):=by
 intro args H K hc;obtain⟨s,rfl,rfl,_,hK⟩:=hc;refine⟨cW,?_⟩;dsimp only at hK⊢;cbv;repeat'((first|refine .mk (fun h=>?_) fun h=>?_|refine .k fun z hz=>?_|fail)<;>cbv)
 ·exact nF.mk ⟨_,Gh.refl _,.inl (.v9 (mT hK (by(rw[rO bR]))))⟩
 ·exact nF.mk ⟨_,Gh.refl _,.inl (.v9 (mT hK (by(rw[rO bR]))))⟩
 obtain⟨n,hn⟩:∃n,n=s.size:=⟨_,rfl⟩
 refine bZ [] (fun p:{ k:Nat // k≤s.size∧lA s k }=>[(14,.i (nI p.1))]) (fun _=>[]) (fun p=>iH n p.1) ⟨0,aI _,wG s⟩ ?_;rintro ⟨k,hk,hf⟩;dsimp only;cbv;repeat'((first|refine .mk (fun h=>?_) fun h=>?_|fail)<;>cbv)
 rotate_left
 ·obtain rfl:k=s.size:=bR;exact nF.mk ⟨_,Gh.refl _,.inl (.v9 (mT hK (by(rw[Dg hf bR bR]))))⟩
 have hks:k < s.size:=bR;refine dS hks fun z hz=>?_
 have hch:=Q1 (c:=s[k]) hz;cbv
 (refine hP hl z trivial ?_;try dsimp only)
 cases h1:tS z with
 |true=>
  cbv;repeat'((first|refine .k fun z hz=>?_|fail)<;>cbv)
  obtain rfl:=hz;exact bP ⟨k+1,hks,kI hks hf (by rw[hch,h1];rfl)⟩ (bQ (by omega))
 |false=>
  cbv;refine dS hks fun z2 hz2=>?_
  obtain rfl:z=z2:=hz.trans hz2.symm;cbv
  (refine hP hd z trivial ?_;try dsimp only)
  cases h2:qM z with
  |true=>
   cbv;repeat'((first|refine .k fun z hz=>?_|fail)<;>cbv)
   obtain rfl:=hz;exact bP ⟨k+1,hks,kI hks hf (by rw[hch,h1,h2];rfl)⟩ (bQ (by omega))
  |false=>
   cbv;refine dS hks fun z2 hz2=>?_
   obtain rfl:z=z2:=hz.trans hz2.symm;cbv;repeat'((first|refine .mk (fun h=>?_) fun h=>?_|refine .k fun z hz=>?_|fail)<;>cbv)
   ·obtain rfl:=hz;exact bP ⟨k+1,hks,kI hks hf (by rw[hch,h1,h2];simp[h])⟩ (bQ (by omega))
   ·exact nF.mk ⟨_,Gh.refl _,.inl (.v9 (mT hK (by(rw[Gr hks (by rw[hch,h1,h2];simp[h])]))))⟩
set_option maxHeartbeats 2000000
section
variable {α:Type}
def Ww (p:α→Bool) (l:List α):Int:=match l.findIdx? p with
 |some i=>Int.ofNat i
 |none=>-1
def lJ (p:α→Bool) (l:List α) (k:Nat):Prop:=∀j y,j < k→l[j]?=some y→p y=false
theorem lJ.zero {p:α→Bool}{l:List α}:lJ p l 0:=fun j y h=>absurd h (Nat.not_lt_zero j)
theorem lJ.succ {p:α→Bool}{l:List α}{k:Nat}{x:α}(h:lJ p l k) (hx:l[k]?=some x) (hp:p x=false):lJ p l (k+1):=fun j y hj hy=>by
 rcases aL j k with h1|h1
 ·exact h j y h1 hy
 ·obtain rfl:j=k:=by omega
  rw[hx]at hy;cases hy;exact hp
theorem Mo {p:α→Bool}{l:List α}{k:Nat}{x:α}(h:lJ p l k) (hx:l[k]?=some x) (hp:p x=true):Ww p l=Int.ofNat k:=by
 obtain⟨hk,rfl⟩:=aA.1 hx;have:l.findIdx? p=some k:=List.findIdx?_eq_some_iff_getElem.2 ⟨hk,hp,fun j hj=>by rw[h j _ hj (aB (Nat.lt_trans hj hk))];exact Bool.false_ne_true⟩;unfold Ww;rw[this]
theorem GR {p:α→Bool}{l:List α}(h:lJ p l l.length):Ww p l=-1:=by
 have:l.findIdx? p=none:=List.findIdx?_eq_none_iff.2 fun x hx=>by
  obtain⟨j,hj,rfl⟩:=List.getElem_of_mem hx;exact h j _ hj (aB hj)
 unfold Ww;rw[this]
theorem Xs (p:α→Bool) (l:List α):decide (0≤Ww p l)=l.any p:=by
 unfold Ww;cases h:l.findIdx? p with
 |none=>
  have:=List.findIdx?_eq_none_iff.1 h;dsimp only;rw[eq_comm,aG (by decide),List.any_eq_false];exact fun x hx=>by rw[this x hx];exact Bool.false_ne_true
 |some i=>
  obtain⟨hk,hp,_⟩:=List.findIdx?_eq_some_iff_getElem.1 h;dsimp only;rw[aH (show (0:Int)≤Int.ofNat i from Int.natCast_nonneg i),eq_comm,List.any_eq_true];exact⟨_,List.getElem_mem hk,hp⟩
theorem vH (p:α→Bool) (l:List α):(∃i x,Ww p l=Int.ofNat i∧l[i]?=some x∧p x=true∧l.find? p=some x)∨(Ww p l=-1∧l.find? p=none):=by
 unfold Ww;cases h:l.findIdx? p with
 |none=>exact .inr ⟨rfl,List.find?_eq_none.2 fun x hx=>by rw[List.findIdx?_eq_none_iff.1 h x hx];exact Bool.false_ne_true⟩
 |some i=>
  obtain⟨hk,hp,hlt⟩:=List.findIdx?_eq_some_iff_getElem.1 h;refine .inl ⟨i,l[i],rfl,aB hk,hp,?_⟩;exact List.find?_eq_some_iff_getElem.2 ⟨hp,i,hk,rfl,fun j hj=>by have:=hlt j hj;simpa using this⟩
end
def dJ {ι κ:Type}(a:ι→List AV) (h:ι→List cC) (p:ι→Prop) (q:ι→κ→Prop) (r:ι→κ→AV) (h':ι→κ→List cC):cQ:=fun args H K=>∃i,args=a i∧H=h i∧p i∧∀k,q i k→K (r i k) (h' i k)
theorem bI {P:bG}{f:Nat}{ι κ:Type}{a:ι→List AV}{h:ι→List cC}{p:ι→Prop}{q:ι→κ→Prop}{r:ι→κ→AV}{h':ι→κ→List cC}(hf:bH P f (dJ a h p q r h')) (i:ι) (sel:List Nat) {keep:List Nat}{args:List AV}{st:St}{K:AV→St→Prop}
  (hp:p i) (ha:args=AV.renL sel st.H.length (a i)) (hlen:sel.length=(h i).length) (hnd:sel.Nodup) (hlt:(sel.all fun k=>Nat.blt k st.H.length)=true) (hH:sel.map (fun k=>st.H[k]?)=(gY sel st.H.length (h i)).map some)
  (hb:AV.bndL (h i).length (a i)=true) (hbH:lD (h i).length (h i)=true) (hkeep:(keep.all fun k=>!sel.contains k && Nat.blt k st.H.length)=true)
  (hK:∀k,q i k→K ((r i k).ren sel st.H.length) ⟨iY st.T (eR sel (h i)),nC (gK st.H (eR sel (h i))) sel (gY sel st.H.length (h' i k))⟩):fZ P keep f args st K:=
 pM hf sel ha hlen hnd (fun k hk=>by simpa [Nat.blt_eq]using aS.1 hlt k hk) hH hb hbH (fun k hk=>by
  have:=aS.1 hkeep k hk;simp only[aO,Bool.not_eq_true',Nat.blt_eq]at this;exact⟨fun h=>by rw[List.contains_eq_mem]at this;simp[h]at this,this.2⟩) ⟨i,rfl,rfl,hp,hK⟩
def cT (n:Int):bF:=⟨(Lib.itoa n).toArray⟩
structure Fl where
 n:bF
 v:bF
def sS:Fl→AV
 |⟨n,v⟩=>.agg [.str n,.str v]
structure Dc where
 kind:Int
 number:bF
 issuer:bF
 fields:List Fl
def eP:Dc→AV
 |⟨kind,number,issuer,fields⟩=>.agg [.i kind,.str number,.str issuer,.sl 2 (bK sS fields)]
def jL (s:bF) (f:Fl):Bool:=decide (f.n=s)
def dT (l:List Fl) (s:bF):Bool:=l.any (jL s)
def eB:bF:=⟨#[]⟩
def HA (l:List Fl) (s:bF):bF:=match l.find? (jL s) with
 |some f=>f.v
 |none=>eB
def Pd:cQ:=spec (fun i:bF×Fl=>[sS i.2,.ptr 0 0]) (fun i=>[.blk 9 [.str i.1]]) (fun _=>True) (fun i=>.bl (jL i.1 i.2)) fun i=>[.blk 9 [.str i.1]]
theorem CG (P:bG):bL P SA Pd:=by
 intro args H K hc;obtain⟨⟨s,⟨n,v⟩⟩,rfl,rfl,hp,hK⟩:=hc;refine⟨cW,?_⟩;dsimp only at hp hK⊢;unfold jL at hK;dsimp only at hK;cbv;repeat'((first|refine .mk (fun h=>?_) fun h=>?_|fail)<;>cbv)
 ·(refine .q9 ?_;cbv;exact .inl (.f9 (mT hK (by rw[aH (by assumption)]))))
 ·(refine .q9 ?_;cbv;exact .inl (.f9 (mT hK (by rw[aG (by assumption)]))))
def KC:cQ:=spec (fun i:List Fl×bF=>[.sl 2 (bK sS i.1),.clo 186 [.ptr 0 0]]) (fun i=>[.blk 9 [.str i.2]]) (fun i=>i.1.length≤1048576) (fun i=>.i (Ww (jL i.2) i.1)) fun i=>[.blk 9 [.str i.2]]
theorem H6 (P:bG) (hm:cL P 186) (hf:bH P 186 Pd):bL P Ue KC:=by
 intro args H K hc;obtain⟨⟨l,s⟩,rfl,rfl,hp,hK⟩:=hc;refine⟨cW,?_⟩;dsimp only at hp hK⊢
 try dsimp only at hp
 cbv;repeat'((first|refine .k fun z hz=>?_|fail)<;>cbv)
 refine bZ [] (fun q:{ k:Nat // k≤l.length∧lJ (jL s) l k }=>[(8,.i (nI q.1))]) (fun _=>[.blk 9 [.str s]]) (fun q=>iH 1048577 q.1) ⟨0,aI _,.zero⟩ ?_;rintro ⟨k,hk,hn⟩;dsimp only at hk hn⊢;cbv;repeat'((first|refine .mk (fun h=>?_) fun h=>?_|fail)<;>cbv)
 ·refine cZ bR bR fun j f hi hx=>?_
  obtain rfl:k=j:=bR;obtain⟨b,hb⟩:∃b,b=jL s f:=⟨_,rfl⟩
  have hat:=fun hb1:b=true=>Mo hn hx (hb.symm.trans hb1)
  have hsu:=fun hb1:b=false=>hn.succ hx (hb.symm.trans hb1)
  clear hx;obtain⟨n,v⟩:=f;cbv;repeat'((first|refine And.intro ?_ ?_|fail)<;>cbv)
  ·exact hm
  ·(refine jR hf ((s,⟨n,v⟩):bF×Fl) [0] trivial ?_;try dsimp only)
   rw[←hb];cases b with
   |true=>
    cbv
    (refine .q9 ?_;cbv;exact .inl (.f9 (Uh hK (by rw[hat rfl]))))
   |false=>
    cbv;repeat'((first|refine .k fun z hz=>?_|fail)<;>cbv)
    obtain rfl:z=nI (k+1):=bR;exact bP ⟨k+1,by exact bR,hsu rfl⟩ (bQ bR)
 ·obtain rfl:k=l.length:=bR
  (refine .q9 ?_;cbv;exact .inl (.f9 (Uh hK (by rw[GR hn]))))
def An:cQ:=spec (fun i:List Fl×bF=>[.sl 2 (bK sS i.1),.str i.2]) (fun _=>[]) (fun i=>i.1.length≤1048576) (fun i=>.i (Ww (jL i.2) i.1)) fun _=>[]
theorem CZ (P:bG) (hf:bH P 185 KC):bL P Vy An:=by
 intro args H K hc;obtain⟨⟨l,s⟩,rfl,rfl,hp,hK⟩:=hc;refine⟨cW,?_⟩;dsimp only at hp hK⊢
 try dsimp only at hp
 obtain⟨q,hq⟩:∃q,q=Ww (jL s) l:=⟨_,rfl⟩
 rw[←hq]at hK;cbv
 (refine jR hf ((l,s):List Fl×bF) [0] hp ?_;try dsimp only)
 rw[←hq];cbv
 (refine .q9 ?_;cbv;exact .inl (.f9 hK))
def vU:cQ:=spec (fun i:List Fl×bF=>[.sl 2 (bK sS i.1),.str i.2]) (fun _=>[]) (fun i=>i.1.length≤1048576) (fun i=>.tup [.str (HA i.1 i.2),.bl (dT i.1 i.2)]) fun _=>[]
theorem iF {l:List Fl}{s:bF}{f:Fl}(h:l.find? (jL s)=some f):HA l s=f.v∧dT l s=true:=by
 refine⟨by unfold HA;rw[h],?_⟩;unfold dT;rw[List.any_eq_true];exact⟨f,List.mem_of_find?_eq_some h,List.find?_some h⟩
theorem lE {l:List Fl}{s:bF}(h:l.find? (jL s)=none):HA l s=eB∧dT l s=false:=by
 refine⟨by unfold HA;rw[h],?_⟩;unfold dT;rw[List.any_eq_false];exact List.find?_eq_none.1 h
theorem JH (P:bG) (hf:bH P 97 An):bL P VP vU:=by
 intro args H K hc;obtain⟨⟨l,s⟩,rfl,rfl,hp,hK⟩:=hc;refine⟨cW,?_⟩;dsimp only at hp hK⊢
 try dsimp only at hp
 have hc:=vH (jL s) l;obtain⟨q,hq⟩:∃q,q=Ww (jL s) l:=⟨_,rfl⟩
 obtain⟨v1,hv1⟩:∃q,q=HA l s:=⟨_,rfl⟩
 obtain⟨b1,hb1⟩:∃q,q=dT l s:=⟨_,rfl⟩
 rw[←hv1,←hb1]at hK;rw[←hq]at hc;cbv
 (refine hP hf ((l,s):List Fl×bF) hp ?_;try dsimp only)
 rw[←hq];rcases hc with ⟨i,⟨n,v⟩,hi,hx,hp1,hf1⟩|⟨hi,hf1⟩
 ·obtain⟨h1,h2⟩:=iF hf1;obtain rfl:v1=v:=hv1.trans h1;obtain rfl:b1=true:=hb1.trans h2;obtain rfl:q=nI i:=hi;cbv;repeat'((first|refine .e ?_|refine .y fun h=>?_|fail)<;>cbv)
  (refine .q9 ?_;cbv;exact .inl (.f9 hK))
 ·obtain⟨h1,h2⟩:=lE hf1;obtain rfl:v1=⟨#[]⟩:=hv1.trans h1;obtain rfl:b1=false:=hb1.trans h2;subst hi;cbv;repeat'((first|refine .n fun h=>?_|fail)<;>cbv)
  (refine .q9 ?_;cbv;exact .inl (.f9 hK))
def sP:cQ:=spec (fun l:List Fl=>[.sl 2 (bK sS l)]) (fun _=>[]) (fun l=>l.length≤1048576) (fun _=>.hd 0) fun l=>[.row 126 2 (bK sS l)]
theorem Cq (P:bG):bL P Uq sP:=by
 intro args H K hc;obtain⟨l,rfl,rfl,hp,hK⟩:=hc;refine⟨cW,?_⟩;dsimp only at hp hK⊢
 try dsimp only at hp
 obtain⟨xs,hxs⟩:∃xs,xs=bK sS l:=⟨_,rfl⟩
 have hl:xs.length=l.length:=by rw[hxs,bN]
 rw[←hxs]at hK⊢;cbv;repeat'((first|refine .zl fun zs hzs hzl=>?_|refine .mk (fun h=>?_) ?_|fail)<;>cbv)
 ·subst h;exact⟨⟨_,Gh.adopt 2 126 2 rfl,.inl (mH.pre [.row 126 2 []] rfl (aI _) rfl rfl (Le.refl _) (sK.refl _) hK)⟩⟩
 ·have hzs:zs=xs:=hzs;subst hzs;exact⟨⟨_,Gh.refl _,.inl (mH.pre [.row 126 2 zs] rfl (aI _) rfl rfl (Le.refl _) (sK.refl _) hK)⟩⟩
def gG (l:List Fl) (s v:bF):List Fl:=match l.findIdx? (jL s) with
 |some i=>l.set i ⟨s,v⟩
 |none=>l++[⟨s,v⟩]
structure Nd where
 kind:Int
 field:bF
 text:bF
 num:Int
def jW:Nd→AV
 |⟨kind,field,text,num⟩=>.agg [.i kind,.i 0,.str field,.str text,.i num,.v (.slice none 0 0)]
structure Ne where
 kind:Int
 rules:List Nd
def iQ:Ne→AV
 |⟨kind,rules⟩=>.agg [.i kind,.i 1,.i 0,.i 0,.str ⟨#[]⟩,.str ⟨#[]⟩,.i 0,.sl 6 (bK jW rules)]
def Sf:cQ:=spec (fun i:bF×bF=>[.str i.1,.str i.2]) (fun _=>[]) (fun _=>True) (fun i=>jW ⟨3,i.1,i.2,0⟩) fun _=>[]
theorem NP (P:bG):bL P Wb Sf:=by
 intro args H K hc;obtain⟨⟨s,v⟩,rfl,rfl,hp,hK⟩:=hc;refine⟨cW,?_⟩;dsimp only at hp hK⊢;cbv
 (refine .q9 ?_;cbv;exact .inl (.f9 hK))
def K6:cQ:=spec (fun i:Int×List Nd=>[.i i.1,.sl 6 (bK jW i.2)]) (fun _=>[]) (fun _=>True) (fun i=>iQ ⟨i.1,i.2⟩) fun _=>[]
theorem Hw (P:bG):bL P UH K6:=by
 intro args H K hc;obtain⟨⟨k,l⟩,rfl,rfl,hp,hK⟩:=hc;refine⟨cW,?_⟩;dsimp only at hp hK⊢;cbv
 (refine .q9 ?_;cbv;exact .inl (.f9 hK))
def gW (fs:List Fl) (names:List bF):List Nd:=names.map fun n=>⟨3,n,HA fs n,0⟩
def Eh:cQ:=spec (fun i:Dc×List bF=>[eP i.1,.sl 1 (bK .str i.2)]) (fun _=>[]) (fun i=>i.1.fields.length≤1048576∧i.2.length≤100) (fun i=>.sl 6 (bK jW (gW i.1.fields i.2))) fun _=>[]
theorem Dl (P:bG) (hg:bH P 40 vU) (hi:bH P 86 Sf):bL P Vh Eh:=by
 intro args H K hc;obtain⟨⟨⟨kind,number,issuer,fields⟩,names⟩,rfl,rfl,hp,hK⟩:=hc;refine⟨cW,?_⟩;dsimp only at hp hK⊢;obtain⟨hp1,hp2⟩:=hp
 try dsimp only at hp1 hp2
 cbv;repeat'((first|refine .k fun z hz=>?_|fail)<;>cbv)
 refine iD (Gh.adopt 5 100 6 rfl) ?_;cbv;refine bZ [1] (fun q:{ k:Nat // k≤names.length }=>[(5,.hd 1),(12,.i (nI q.1))]) (fun q=>[.blk 88 [.i kind,.str number,.str issuer,.sl 2 (bK sS fields)],.row 100 6 (bK jW (gW fields (names.take q.1)))]) (fun q=>iH 101 q.1) ⟨0,aI _⟩ ?_;rintro ⟨k,hk⟩
 try dsimp only at hk⊢
 have hql:(gW fields (names.take k)).length=k:=by unfold gW;rw[aJ,aR];omega
 obtain⟨q,hq⟩:∃q,q=gW fields (names.take k):=⟨_,rfl⟩
 rw[←hq]at hql⊢;cbv;repeat'((first|refine .mk (fun h=>?_) fun h=>?_|fail)<;>cbv)
 ·refine cZ bR bR fun j s hj hx=>?_
  obtain rfl:k=j:=bR;obtain⟨g,hg1⟩:∃g,g=HA fields s:=⟨_,rfl⟩
  have htk:=cE hx;cbv
  (refine hP hg ((fields,s):List Fl×bF) hp1 ?_;try dsimp only)
  rw[←hg1];cbv
  (refine hP hi ((s,g):bF×bF) trivial ?_;try dsimp only)
  cbv;repeat'((first|refine .k fun z hz=>?_|refine .zl fun zs hzs hzl=>?_|fail)<;>cbv)
  obtain rfl:z=nI (k+1):=bR;have hq2:gW fields (names.take (k+1))=q++[⟨3,s,g,0⟩]:=by rw[htk,hq,hg1];unfold gW;rw[List.map_append];rfl
  obtain rfl:zs=bK jW (gW fields (names.take (k+1))):=by rw[hq2,cP,cS];exact hzs
  exact bP ⟨k+1,by exact bR⟩ (bQ bR)
 ·obtain rfl:k=names.length:=bR;rw[List.take_length]at hq;rw[←hq]at hK
  (refine .r9 (Gh.plain 1 rfl) ?_;cbv;exact .inl (.g9 hK))
def jY:List bF→List Fl
 |a :: b :: l=>⟨a,b⟩ :: jY l
 |_=>[]
theorem xR:∀l:List bF,(jY l).length≤l.length
 |[]=>aN _
 |[_]=>aI _
 |a :: b :: l=>by have:=xR l;simp only[jY,List.length_cons];omega
theorem uV:∀(k:Nat) (l:List bF) (a b:bF),l[2 * k]?=some a→l[2 * k+1]?=some b→jY (l.take (2 * (k+1)))=jY (l.take (2 * k))++[⟨a,b⟩]
 |0,l,a,b,h1,h2=>by
  match l,h1,h2 with
  |a :: b :: l,h1,h2=>cases h1;cases h2;rfl
 |k+1,l,a,b,h1,h2=>by
  match l,h1,h2 with
  |c :: d :: l,h1,h2=>
   have e:2 * (k+1)=2 * k+1+1:=by omega
   rw[e]at h1 h2;simp only[List.getElem?_cons_succ]at h1 h2;rw[show 2 * (k+1+1)=2 * (k+1)+1+1 by omega,List.take_succ_cons,List.take_succ_cons,e,List.take_succ_cons,List.take_succ_cons,jY,jY];have:=uV k l a b h1 h2;rw[e]at this;rw[this];rfl
  |[c],h1,h2=>simp at h1
  |[],h1,h2=>simp at h1
def mB:cQ:=spec (fun l:List bF=>[.sl 1 (bK .str l)]) (fun _=>[]) (fun l=>l.length≤100∧l.length % 2=0) (fun l=>.sl 2 (bK sS (jY l))) fun _=>[]
theorem B4 (P:bG):bL P UY mB:=by
 intro args H K hc;obtain⟨l,rfl,rfl,hp,hK⟩:=hc;refine⟨cW,?_⟩;dsimp only at hp hK⊢;obtain⟨hp1,hp2⟩:=hp
 try dsimp only at hp1 hp2
 obtain⟨n,hn⟩:∃n,l.length=2 * n:=⟨l.length / 2,by omega⟩
 cbv;repeat'((first|refine .q fun z hz hz0 hz1=>?_|refine .k fun z hz=>?_|refine .zl fun zs hzs hzl=>?_|fail)<;>cbv)
 obtain rfl:zs=bK sS []:=hzs;refine bZ [0] (fun q:{ q:Nat×Nat // q.2=2 * q.1∧q.1≤n }=>[(3,.hd 0),(4,.i (nI q.1.2))]) (fun q=>[.row 126 2 (bK sS (jY (l.take q.1.2)))]) (fun q=>iH 101 q.1.1) ⟨(0,0),rfl,aI _⟩ ?_;rintro ⟨⟨k,m⟩,hkm,hk⟩
 try dsimp only at hkm hk⊢
 have hql:(jY (l.take m)).length≤100:=by
  have h1:=xR (l.take m);rw[aR]at h1;omega
 obtain⟨q,hq⟩:∃q,q=jY (l.take m):=⟨_,rfl⟩
 rw[←hq]at hql⊢;rcases aL k n with hkn|hkn
 ·obtain⟨a,ha⟩:=cY (L:=l) (i:=m) (by omega);obtain⟨b,hb⟩:=cY (L:=l) (i:=m+1) (by omega);have htk:=uV k l a b (by rw[←hkm];exact ha) (by rw[←hkm];exact hb);cbv;repeat'((first|refine .e ?_|refine .y fun h=>?_|refine .k fun z hz=>?_|fail)<;>cbv)
  refine cZ bR bR fun j b2 hj hx=>?_
  obtain rfl:m+1=j:=bR;obtain rfl:b=b2:=by rw[hb]at hx;exact Option.some.inj hx
  clear hx hb;cbv;repeat'((first|refine .k fun z hz=>?_|refine .zl fun zs hzs hzl=>?_|fail)<;>cbv)
  obtain⟨m2,hm2⟩:∃m2,m2=m+2:=⟨_,rfl⟩
  obtain rfl:z=nI m2:=bR;have hq2:jY (l.take m2)=q++[⟨a,b⟩]:=by rw[hm2,hq,show m+2=2 * (k+1) by omega,htk,hkm]
  obtain rfl:zs=bK sS (jY (l.take m2)):=by rw[hq2,cP,cS];exact hzs
  exact bP ⟨(k+1,m2),by(try dsimp only);omega,by(try dsimp only);omega⟩ (bQ (by(try dsimp only);omega))
 ·obtain rfl:k=n:=by omega
  cbv;repeat'((first|refine .n fun h=>?_|refine .k fun z hz=>?_|fail)<;>cbv)
  obtain rfl:q=jY l:=by rw[hq,hkm,←hn,List.take_length]
  (refine .r9 (Gh.plain 0 rfl) ?_;cbv;exact .inl (.g9 hK))
set_option maxHeartbeats 4000000
structure Lo where
 good:bF
 count:Int
def rX:Lo→AV
 |⟨good,count⟩=>.agg [.str good,.i count]
structure Bx where
 mark:bF
 kind:Int
 lots:List Lo
def CO:Bx→AV
 |⟨mark,kind,lots⟩=>.agg [.str mark,.i kind,.sl 2 (bK rX lots)]
structure De where
 number:bF
 seller:bF
 buyer:bF
 carrier:bF
 issuer:bF
 house:bF
 insurer:bF
 frm:bF
 to:bF
 cur:bF
 amt:Int
 boxes:List Bx
 term:Int
 latest:Int
 expiry:Int
 tenor:Int
 duty:Int
def DeA:De→AV
 |⟨number,seller,buyer,carrier,issuer,house,insurer,frm,to,cur,amt,boxes,term,latest,expiry,tenor,duty⟩=>.agg [.str number,.str seller,.str buyer,.str carrier,.str issuer,.str house,.str insurer,.str frm,.str to,.str cur,.i amt,.sl 3 (bK CO boxes),.i term,.i latest,.i expiry,.i tenor,.i duty]
structure Bi where
 number:bF
 carrier:bF
 shipper:bF
 frm:bF
 to:bF
 boxes:List bF
 parents:List bF
 issued:Int
 clean:Bool
def Qw:Bi→AV
 |⟨number,carrier,shipper,frm,to,boxes,parents,issued,clean⟩=>.agg [.str number,.str carrier,.str shipper,.str frm,.str to,.sl 1 (bK .str boxes),.sl 1 (bK .str parents),.i issued,.bl clean]
def bU:bF:=⟨#[115,101,108,108,101,114]⟩
def dH:bF:=⟨#[98,117,121,101,114]⟩
def eE:bF:=⟨#[99,117,114,114,101,110,99,121]⟩
def eW:bF:=⟨#[115,117,109]⟩
def dK:bF:=⟨#[102,114,111,109]⟩
def kE:bF:=⟨#[116,111]⟩
def dF:bF:=⟨#[98,111,120,101,115]⟩
def NW:bF:=⟨#[116,101,114,109]⟩
def dL:bF:=⟨#[109,97,114,107,115]⟩
def AH:bF:=⟨#[99,111,110,116,101,110,116]⟩
def lB:bF:=⟨#[99,97,114,114,105,101,114]⟩
def kS:bF:=⟨#[115,104,105,112,112,101,114]⟩
def dU:bF:=⟨#[105,115,115,117,101,100]⟩
def qO:bF:=⟨#[99,108,101,97,110]⟩
def sV:bF:=⟨#[112,97,114,101,110,116,115]⟩
def gS:bF:=⟨#[99,111,117,110,116,114,121]⟩
def K8:bF:=⟨#[121,101,115]⟩
def Ur:bF:=⟨#[110,111]⟩
def Us:bF:=⟨#[105,118,45]⟩
def Um:bF:=⟨#[112,107,45]⟩
def Uo:bF:=⟨#[105,110,45]⟩
def Ug:bF:=⟨#[111,114,45]⟩
def gI:bF:=⟨#[44]⟩
def i64 (n:Int):Prop:=-9223372036854775808≤n∧n≤9223372036854775807
def kP:cQ:=spec (fun n:Int=>[.i n]) (fun _=>[]) i64 (fun n=>.str (cT n)) fun _=>[]
def H9:cQ:=spec (fun n:Int=>[.i n,.i 10]) (fun _=>[]) i64 (fun n=>.str (cT n)) fun _=>[]
def xH:cQ:=spec (fun i:List bF×bF=>[.sl 1 (bK (fun s=>.str s) i.1),.str i.2]) (fun _=>[]) (fun i=>(eS i.1 i.2).size≤140737488355328∧i.1.length≤140737488355328) (fun i=>.str (eS i.1 i.2)) fun _=>[]
theorem Ba (P:bG) (hf:bH P 99 H9):bL P Vf kP:=by
 intro args H K hc;obtain⟨n,rfl,rfl,hp,hK⟩:=hc;refine⟨cW,?_⟩;dsimp only at hp hK⊢;obtain⟨w,hw⟩:∃w,w=cT n:=⟨_,rfl⟩
 rw[←hw]at hK;cbv
 (refine hP hf n hp ?_;try dsimp only)
 rw[←hw];cbv
 (refine .q9 ?_;cbv;exact .inl (.f9 hK))
theorem DJ (P:bG) (hf:bH P 109 kP):bL P SX kP:=by
 intro args H K hc;obtain⟨n,rfl,rfl,hp,hK⟩:=hc;refine⟨cW,?_⟩;dsimp only at hp hK⊢;obtain⟨w,hw⟩:∃w,w=cT n:=⟨_,rfl⟩
 rw[←hw]at hK;cbv
 (refine hP hf n hp ?_;try dsimp only)
 rw[←hw];cbv
 (refine .q9 ?_;cbv;exact .inl (.f9 hK))
def hZ (l:List Bx):bF:=eS (l.map Bx.mark) gI
structure Rq (l:List Bx):Prop where
 few:l.length≤1048576
 sz:(hZ l).size≤140737488355328
def Aw:cQ:=spec (fun l:List Bx=>[.sl 3 (bK CO l)]) (fun _=>[]) Rq (fun l=>.str (hZ l)) fun _=>[]
theorem C4 (P:bG) (hj:bH P 110 xH):bL P Vz Aw:=by
 intro args H K hc;obtain⟨l,rfl,rfl,hp,hK⟩:=hc;refine⟨cW,?_⟩;dsimp only at hp hK⊢;obtain⟨hp1,hp2⟩:=hp;obtain⟨w,hw⟩:∃w,w=hZ l:=⟨_,rfl⟩
 rw[←hw]at hK;cbv;repeat'((first|refine .k fun z hz=>?_|refine .zl fun zs hzs hzl=>?_|fail)<;>cbv)
 obtain rfl:zs=bK .str []:=hzs;refine bZ [0] (fun q:{ k:Nat // k≤l.length }=>[(3,.hd 0),(11,.i (nI q.1))]) (fun q=>[.row 9 1 (bK .str ((l.take q.1).map Bx.mark))]) (fun q=>iH 1048577 q.1) ⟨0,aI _⟩ ?_;rintro ⟨k,hk⟩
 try dsimp only at hk⊢
 have hql:((l.take k).map Bx.mark).length=k:=by rw[aJ,aR];omega
 obtain⟨q,hq⟩:∃q,q=(l.take k).map Bx.mark:=⟨_,rfl⟩
 rw[←hq]at hql⊢;rcases aL k l.length with hks|hks
 ·obtain⟨⟨mark,kind,lots⟩,hx⟩:=cY hks;have htk:=cE hx;cbv;repeat'((first|refine .e ?_|refine .y fun h=>?_|refine .k fun z hz=>?_|refine .zl fun zs hzs hzl=>?_|fail)<;>cbv)
  obtain rfl:z=nI (k+1):=bR;have hq2:(l.take (k+1)).map Bx.mark=q++[mark]:=by rw[htk,hq,List.map_append];rfl
  obtain rfl:zs=bK .str ((l.take (k+1)).map Bx.mark):=by rw[hq2,cP,cS];exact hzs
  exact bP ⟨k+1,by exact bR⟩ (bQ bR)
 ·cbv;repeat'((first|refine .n fun h=>?_|fail)<;>cbv)
  obtain rfl:k=l.length:=by omega
  rw[List.take_length]at hq;refine bT 0 rfl ?_
  (refine hP hj ((q,⟨#[44]⟩):List bF×bF) ⟨by subst hq;exact hp2,by(try dsimp only);omega⟩ ?_;try dsimp only)
  rw[show eS q ⟨#[44]⟩=w by rw[hw,hq];rfl];cbv
  (refine .q9 ?_;cbv;exact .inl (.f9 hK))
def A7 (l:List Lo):Nat:=(l.map fun x=>x.good.size+3).sum
def pE (l:List Bx):Nat:=(l.map fun x=>x.mark.size+3+A7 x.lots).sum
structure RD (l:List Bx):Prop where
 w:pE l≤1048576
 c:∀b∈l,∀x∈b.lots,i64 x.count
def Ko:cQ:=dJ (fun l:List Bx=>[.sl 3 (bK CO l)]) (fun _=>[]) RD (fun _ (t:bF)=>t.size≤4398046511104) (fun _ t=>.str t) fun _ _=>[]
structure Al (d:De):Prop where
 mks:Rq d.boxes
 amt:i64 d.amt
 term:i64 d.term
 sz:d.number.size≤1048576
 bw:RD d.boxes
def fJ (d:De):Dc:=⟨0,Us++d.number,d.seller,[⟨bU,d.seller⟩,⟨dH,d.buyer⟩,⟨eE,d.cur⟩,⟨eW,cT d.amt⟩,⟨dK,d.frm⟩,⟨kE,d.to⟩,⟨dF,cT d.boxes.length⟩,⟨NW,cT d.term⟩]⟩
def Mt:cQ:=spec (fun d:De=>[DeA d]) (fun _=>[]) Al (fun d=>eP (fJ d)) fun _=>[]
theorem Kt (P:bG) (hd:bH P 43 kP) (hc:bH P 173 kP) (hf:bH P 89 mB):bL P VV Mt:=by
 intro args H K hc;obtain⟨⟨number,seller,buyer,carrier,issuer,house,insurer,frm,to,cur,amt,boxes,term,latest,expiry,tenor,duty⟩,rfl,rfl,hp,hK⟩:=hc;refine⟨cW,?_⟩;dsimp only at hp hK⊢;obtain⟨⟨hb1,hb2⟩,ha,ht,hn,hbw⟩:=hp
 try dsimp only at hb1 hb2 ha ht hn hbw
 unfold fJ at hK;dsimp only at hK;obtain⟨w1,hw1⟩:∃w,w=cT amt:=⟨_,rfl⟩
 obtain⟨w2,hw2⟩:∃w,w=cT boxes.length:=⟨_,rfl⟩
 obtain⟨w3,hw3⟩:∃w,w=cT term:=⟨_,rfl⟩
 rw[←hw1,←hw2,←hw3]at hK;have hk:(ByteArray.mk (Array.mk [105,118,45])).size=3:=rfl;cbv;repeat'((first|refine .k fun z hz=>?_|refine .u fun u hu hul=>?_|fail)<;>cbv)
 (refine hP hd amt ha ?_;try dsimp only)
 rw[←hw1];cbv
 (refine hP hc z ⟨by exact bR,by exact bR⟩ ?_;try dsimp only)
 rw[show cT z=w2 by rw[hw2,hz,bN]];cbv
 (refine hP hc term ht ?_;try dsimp only)
 rw[←hw3];cbv;refine bT 2 rfl ?_
 (refine hP hf ([bU,seller,dH,buyer,eE,cur,eW,w1,dK,frm,kE,to,dF,w2,NW,w3]:List bF) ⟨Nat.le_of_ble_eq_true rfl,by simp⟩ ?_;try dsimp only)
 cbv;obtain rfl:u=Us++number:=hu
 (refine .q9 ?_;cbv;exact .inl (.f9 hK))
def lG (d:De) (t:bF):Dc:=⟨1,Um++d.number,d.seller,[⟨bU,d.seller⟩,⟨dK,d.frm⟩,⟨kE,d.to⟩,⟨dF,cT d.boxes.length⟩,⟨dL,hZ d.boxes⟩,⟨AH,t⟩]⟩
def Nb:cQ:=dJ (fun d:De=>[DeA d]) (fun _=>[]) Al (fun _ (t:bF)=>t.size≤4398046511104) (fun d t=>eP (lG d t)) fun _ _=>[]
theorem Lr (P:bG) (hc:bH P 173 kP) (hm:bH P 87 Aw) (hl:bH P 174 Ko) (hf:bH P 89 mB):bL P Vx Nb:=by
 intro args H K hc;obtain⟨⟨number,seller,buyer,carrier,issuer,house,insurer,frm,to,cur,amt,boxes,term,latest,expiry,tenor,duty⟩,rfl,rfl,hp,hK⟩:=hc;refine⟨cW,?_⟩;dsimp only at hp hK⊢;obtain⟨⟨hb1,hb2⟩,ha,ht,hn,hbw⟩:=hp
 try dsimp only at hb1 hb2 ha ht hn hbw
 unfold lG at hK;dsimp only at hK;obtain⟨w1,hw1⟩:∃w,w=hZ boxes:=⟨_,rfl⟩
 obtain⟨w2,hw2⟩:∃w,w=cT boxes.length:=⟨_,rfl⟩
 rw[←hw1,←hw2]at hK;have hk:(ByteArray.mk (Array.mk [112,107,45])).size=3:=rfl;cbv;repeat'((first|refine .k fun z hz=>?_|refine .u fun u hu hul=>?_|fail)<;>cbv)
 (refine hP hc z ⟨by exact bR,by exact bR⟩ ?_;try dsimp only)
 rw[show cT z=w2 by rw[hw2,hz,bN]];cbv
 (refine hP hm boxes ⟨hb1,hb2⟩ ?_;try dsimp only)
 rw[←hw1];cbv;refine bI hl boxes [] hbw rfl rfl (by decide) rfl rfl rfl rfl rfl ?_;intro t ht1;have hK:=hK t ht1;cbv;refine bT 2 rfl ?_
 (refine hP hf ([bU,seller,dK,frm,kE,to,dF,w2,dL,w1,AH,t]:List bF) ⟨Nat.le_of_ble_eq_true rfl,by simp⟩ ?_;try dsimp only)
 cbv;obtain rfl:u=Um++number:=hu
 (refine .q9 ?_;cbv;exact .inl (.f9 hK))
structure Mi (b:Bi):Prop where
 bx:(eS b.boxes gI).size≤140737488355328∧b.boxes.length≤1048576
 pa:(eS b.parents gI).size≤140737488355328∧b.parents.length≤1048576
 is:i64 b.issued
def yn (b:Bool):bF:=if b=true then K8 else Ur
def iS (b:Bi):Dc:=⟨2,b.number,b.carrier,[⟨lB,b.carrier⟩,⟨kS,b.shipper⟩,⟨dK,b.frm⟩,⟨kE,b.to⟩,⟨dF,cT b.boxes.length⟩,⟨dL,eS b.boxes gI⟩,⟨dU,cT b.issued⟩,⟨qO,yn b.clean⟩,⟨sV,eS b.parents gI⟩]⟩
def PL:cQ:=spec (fun b:Bi=>[Qw b]) (fun _=>[]) Mi (fun b=>eP (iS b)) fun _=>[]
theorem Ll (P:bG) (hc:bH P 173 kP) (hj:bH P 110 xH) (hf:bH P 89 mB):bL P UA PL:=by
 intro args H K hc;obtain⟨⟨number,carrier,shipper,frm,to,boxes,parents,issued,clean⟩,rfl,rfl,hp,hK⟩:=hc;refine⟨cW,?_⟩;dsimp only at hp hK⊢;obtain⟨⟨hb1,hb2⟩,⟨hp1,hp2⟩,hi⟩:=hp
 try dsimp only at hb1 hb2 hp1 hp2 hi
 unfold iS at hK;dsimp only at hK;obtain⟨w1,hw1⟩:∃w,w=eS boxes gI:=⟨_,rfl⟩
 obtain⟨w2,hw2⟩:∃w,w=cT boxes.length:=⟨_,rfl⟩
 obtain⟨w3,hw3⟩:∃w,w=eS parents gI:=⟨_,rfl⟩
 obtain⟨w4,hw4⟩:∃w,w=cT issued:=⟨_,rfl⟩
 obtain⟨w5,hw5⟩:∃w,w=yn clean:=⟨_,rfl⟩
 rw[←hw1,←hw2,←hw3,←hw4,←hw5]at hK;rw[←hw1]at hb1;rw[←hw3]at hp1;have h5:clean=true→w5=⟨#[121,101,115]⟩:=fun h=>by rw[hw5,h];rfl
 have h6:clean=false→w5=⟨#[110,111]⟩:=fun h=>by rw[hw5,h];rfl
 cases clean
 all_goals
  first|obtain rfl:=h5 rfl|obtain rfl:=h6 rfl
  clear h5 h6 hw5;cbv;repeat'((first|refine .k fun z hz=>?_|fail)<;>cbv)
  (refine hP hc z ⟨by exact bR,by exact bR⟩ ?_;try dsimp only)
  rw[show cT z=w2 by rw[hw2,hz,bN]];cbv
  (refine hP hj ((boxes,gI):List bF×bF) ⟨by(try dsimp only);rw[←hw1];exact hb1,by(try dsimp only);omega⟩ ?_;try dsimp only)
  rw[←hw1];cbv
  (refine hP hc issued hi ?_;try dsimp only)
  rw[←hw4];cbv
  (refine hP hj ((parents,gI):List bF×bF) ⟨by(try dsimp only);rw[←hw3];exact hp1,by(try dsimp only);omega⟩ ?_;try dsimp only)
  rw[←hw3];cbv;refine bT 2 rfl ?_
  first
   |(refine hP hf ([lB,carrier,kS,shipper,dK,frm,kE,to,dF,w2,dL,w1,dU,w4,qO,K8,sV,w3]:List bF) ⟨Nat.le_of_ble_eq_true rfl,by simp⟩ ?_;try dsimp only)
   |(refine hP hf ([lB,carrier,kS,shipper,dK,frm,kE,to,dF,w2,dL,w1,dU,w4,qO,Ur,sV,w3]:List bF) ⟨Nat.le_of_ble_eq_true rfl,by simp⟩ ?_;try dsimp only)
  cbv
  (refine .q9 ?_;cbv;exact .inl (.f9 hK))
structure OR where
 d:De
 cur:bF
 amt:Int
def uX (i:OR):Dc:=⟨3,Uo++i.d.number,i.d.insurer,[⟨bU,i.d.seller⟩,⟨dK,i.d.frm⟩,⟨kE,i.d.to⟩,⟨eE,i.cur⟩,⟨eW,cT i.amt⟩]⟩
def Oj:cQ:=spec (fun i:OR=>[DeA i.d,.agg [.str i.cur,.i i.amt]]) (fun _=>[]) (fun i=>i64 i.amt∧i.d.number.size≤1048576) (fun i=>eP (uX i)) fun _=>[]
theorem LC (P:bG) (hd:bH P 43 kP) (hf:bH P 89 mB):bL P Vt Oj:=by
 intro args H K hc;obtain⟨⟨⟨number,seller,buyer,carrier,issuer,house,insurer,frm,to,cur,amt,boxes,term,latest,expiry,tenor,duty⟩,c2,a2⟩,rfl,rfl,hp,hK⟩:=hc;refine⟨cW,?_⟩;dsimp only at hp hK⊢;obtain⟨ha,hn⟩:=hp
 try dsimp only at ha hn
 unfold uX at hK;dsimp only at hK;obtain⟨w1,hw1⟩:∃w,w=cT a2:=⟨_,rfl⟩
 rw[←hw1]at hK;have hk:(ByteArray.mk (Array.mk [105,110,45])).size=3:=rfl;cbv;repeat'((first|refine .u fun u hu hul=>?_|fail)<;>cbv)
 (refine hP hd a2 ha ?_;try dsimp only)
 rw[←hw1];cbv;refine bT 3 rfl ?_
 (refine hP hf ([bU,seller,dK,frm,kE,to,eE,c2,eW,w1]:List bF) ⟨Nat.le_of_ble_eq_true rfl,by simp⟩ ?_;try dsimp only)
 cbv;obtain rfl:u=Uo++number:=hu
 (refine .q9 ?_;cbv;exact .inl (.f9 hK))
def oF (d:De) (country:bF):Dc:=⟨4,Ug++d.number,d.seller,[⟨bU,d.seller⟩,⟨gS,country⟩,⟨dF,cT d.boxes.length⟩]⟩
def NE:cQ:=spec (fun i:De×bF=>[DeA i.1,.str i.2]) (fun _=>[]) (fun i=>Al i.1) (fun i=>eP (oF i.1 i.2)) fun _=>[]
theorem Lm (P:bG) (hc:bH P 173 kP) (hf:bH P 89 mB):bL P U5 NE:=by
 intro args H K hc;obtain⟨⟨⟨number,seller,buyer,carrier,issuer,house,insurer,frm,to,cur,amt,boxes,term,latest,expiry,tenor,duty⟩,country⟩,rfl,rfl,hp,hK⟩:=hc;refine⟨cW,?_⟩;dsimp only at hp hK⊢;obtain⟨⟨hb1,hb2⟩,ha,ht,hn,hbw⟩:=hp
 try dsimp only at hb1 hb2 ha ht hn hbw
 unfold oF at hK;dsimp only at hK;obtain⟨w2,hw2⟩:∃w,w=cT boxes.length:=⟨_,rfl⟩
 rw[←hw2]at hK;have hk:(ByteArray.mk (Array.mk [111,114,45])).size=3:=rfl;cbv;repeat'((first|refine .k fun z hz=>?_|refine .u fun u hu hul=>?_|fail)<;>cbv)
 (refine hP hc z ⟨by exact bR,by exact bR⟩ ?_;try dsimp only)
 rw[show cT z=w2 by rw[hw2,hz,bN]];cbv;refine bT 2 rfl ?_
 (refine hP hf ([bU,seller,gS,country,dF,w2]:List bF) ⟨Nat.le_of_ble_eq_true rfl,by simp⟩ ?_;try dsimp only)
 cbv;obtain rfl:u=Ug++number:=hu
 (refine .q9 ?_;cbv;exact .inl (.f9 hK))
set_option maxHeartbeats 8000000
def C5:cQ:=spec (fun d:Dc=>[eP d]) (fun _=>[]) (fun d=>d.fields.length≤1048576) eP fun _=>[]
theorem DH (P:bG) (hc:bH P 53 sP):bL P U9 C5:=by
 intro args H K hc;obtain⟨⟨kind,number,issuer,fields⟩,rfl,rfl,hp,hK⟩:=hc;refine⟨cW,?_⟩;dsimp only at hp hK⊢
 try dsimp only at hp
 cbv
 (refine Sm hc fields hp ?_;try dsimp only)
 cbv
 (refine .r9 (Gh.plain 2 rfl) ?_;cbv;exact .inl (.g9 hK))
structure Jf where
 d:De
 b:Bi
 cover:List Dc
def DT (i:Jf) (t:bF):List Dc:=fJ i.d :: lG i.d t :: iS i.b :: (i.cover++[oF i.d i.d.frm])
structure Rp (i:Jf):Prop where
 d:Al i.d
 b:Mi i.b
 c:i.cover.length≤16
 f:∀p∈i.cover,p.fields.length≤1048576
def yB:cQ:=dJ (fun i:Jf=>[DeA i.d,Qw i.b,.sl 4 (bK eP i.cover)]) (fun _=>[]) Rp (fun _ (t:bF)=>t.size≤4398046511104) (fun i t=>.sl 4 (bK eP (DT i t))) fun _ _=>[]
theorem Bw (P:bG) (hi:bH P 84 Mt) (hpk:bH P 85 Nb) (hl:bH P 90 PL) (ho:bH P 88 NE) (hc:bH P 36 C5):bL P Wd yB:=by
 intro args H K hcc;obtain⟨⟨d,b,cover⟩,rfl,rfl,⟨hd,hb,hcl,hcf⟩,hK⟩:=hcc;refine⟨cW,?_⟩
 try dsimp only at hd hb hcl hcf hK
 obtain⟨di,hdi⟩:∃x,x=fJ d:=⟨_,rfl⟩
 obtain⟨dl,hdl⟩:∃x,x=iS b:=⟨_,rfl⟩
 unfold DT at hK;dsimp only at hK;obtain⟨dox,hdox⟩:∃x,x=oF d d.frm:=⟨_,rfl⟩
 rw[←hdi,←hdl,←hdox]at hK;obtain⟨number,seller,buyer,carrier,issuer,house,insurer,frm,to,cur,amt,boxes,term,latest,expiry,tenor,duty⟩:=d;obtain⟨bnumber,bcarrier,shipper,bfrm,bto,bboxes,parents,issued,clean⟩:=b;cbv
 (refine hP hi (⟨number,seller,buyer,carrier,issuer,house,insurer,frm,to,cur,amt,boxes,term,latest,expiry,tenor,duty⟩:De) hd ?_;try dsimp only)
 rw[←hdi];obtain⟨ik,inn,iis,ifl⟩:=di;cbv;refine bI hpk (⟨number,seller,buyer,carrier,issuer,house,insurer,frm,to,cur,amt,boxes,term,latest,expiry,tenor,duty⟩:De) [] hd rfl rfl (by decide) rfl rfl rfl rfl rfl ?_;intro t ht;have hK:=hK t ht;obtain⟨dp,hdp⟩:∃x,x=lG (⟨number,seller,buyer,carrier,issuer,house,insurer,frm,to,cur,amt,boxes,term,latest,expiry,tenor,duty⟩:De) t:=⟨_,rfl⟩
 rw[←hdp]at hK⊢;obtain⟨pk,pnn,pis,pfl⟩:=dp;cbv
 (refine hP hl (⟨bnumber,bcarrier,shipper,bfrm,bto,bboxes,parents,issued,clean⟩:Bi) hb ?_;try dsimp only)
 rw[←hdl];obtain⟨lk,lnn,lis,lfl⟩:=dl;cbv;repeat'((first|refine .k fun z hz=>?_|fail)<;>cbv)
 obtain⟨n,hn⟩:∃n,n=cover.length:=⟨_,rfl⟩
 refine bZ [2] (fun q:{ q:Nat×List Dc // q.1≤n∧q.2=⟨ik,inn,iis,ifl⟩ :: ⟨pk,pnn,pis,pfl⟩ :: ⟨lk,lnn,lis,lfl⟩ :: cover.take q.1 }=>[(7,.hd 2),(19,.i (nI q.1.1))]) (fun q=>[.blk 26 [.str number,.str seller,.str buyer,.str carrier,.str issuer,.str house,.str insurer,.str frm,.str to,.str cur,.i amt,.sl 3 (bK CO boxes),.i term,.i latest,.i expiry,.i tenor,.i duty],.blk 85 [.str bnumber,.str bcarrier,.str shipper,.str bfrm,.str bto,.sl 1 (bK .str bboxes),.sl 1 (bK .str parents),.i issued,.bl clean],.row 88 4 (bK eP q.1.2)]) (fun q=>iH 17 q.1.1) ⟨(0,[⟨ik,inn,iis,ifl⟩,⟨pk,pnn,pis,pfl⟩,⟨lk,lnn,lis,lfl⟩]),aI _,rfl⟩ ?_;rintro ⟨⟨k,q⟩,hk,hq⟩
 try dsimp only at hk hq⊢
 have hql:q.length=k+3:=by rw[hq];simp only[List.length_cons,aR];omega
 rcases aL k n with hks|hks
 ·obtain⟨⟨ck,cnn,cis,cfl⟩,hx⟩:=cY (L:=cover) (i:=k) (by omega);have hcf1:=hcf _ (aC hx);have htk:=cE hx;cbv;repeat'((first|refine .e ?_|refine .y fun h=>?_|fail)<;>cbv)
  (refine hP hc (⟨ck,cnn,cis,cfl⟩:Dc) hcf1 ?_;try dsimp only)
  cbv;repeat'((first|refine .k fun z hz=>?_|refine .zl fun zs hzs hzl=>?_|fail)<;>cbv)
  obtain rfl:z=nI (k+1):=bR;obtain⟨q2,hq2⟩:∃q2,q2=q++[(⟨ck,cnn,cis,cfl⟩:Dc)]:=⟨_,rfl⟩
  obtain rfl:zs=bK eP q2:=by rw[hq2,cP,cS];exact hzs
  exact bP ⟨(k+1,q2),by(try dsimp only);omega,by(try dsimp only);rw[hq2,hq,htk];rfl⟩ (bQ (by(try dsimp only);omega))
 ·obtain rfl:k=n:=by omega
  rw[hn,List.take_length]at hq;cbv;repeat'((first|refine .n fun h=>?_|fail)<;>cbv)
  (refine hP ho ((⟨number,seller,buyer,carrier,issuer,house,insurer,frm,to,cur,amt,boxes,term,latest,expiry,tenor,duty⟩,frm):De×bF) hd ?_;try dsimp only)
  rw[←hdox];obtain⟨ok,onn,ois,ofl⟩:=dox;cbv;repeat'((first|refine .zl fun zs hzs hzl=>?_|fail)<;>cbv)
  obtain⟨q2,hq2⟩:∃q2,q2=q++[(⟨ok,onn,ois,ofl⟩:Dc)]:=⟨_,rfl⟩
  obtain rfl:zs=bK eP q2:=by rw[hq2,cP,cS];exact hzs
  have hK:K (.sl 4 (bK eP q2)) []:=by rw[hq2,hq];exact hK
  (refine .r9 (Gh.plain 2 rfl) ?_;cbv;exact .inl (.g9 hK))
structure Cr where
 number:bF
 applicant:bF
 beneficiary:bF
 issuer:bF
 confirmer:bF
 frm:bF
 to:bF
 cur:bF
 amt:Int
 above:Int
 below:Int
 latest:Int
 expiry:Int
 within:Int
 tenor:Int
 partial_:Bool
 change:Bool
 needs:List Ne
def vS:Cr→AV
 |⟨number,applicant,beneficiary,issuer,confirmer,frm,to,cur,amt,above,below,latest,expiry,within,tenor,partial_,change,needs⟩=>.agg [.str number,.str applicant,.str beneficiary,.str issuer,.str confirmer,.str frm,.str to,.str cur,.i amt,.i above,.i below,.i latest,.i expiry,.i within,.i tenor,.bl partial_,.bl change,.sl 8 (bK iQ needs)]
def fL (d:De):Ne:=⟨0,[⟨3,bU,d.seller,0⟩,⟨3,dH,d.buyer,0⟩,⟨3,eE,d.cur,0⟩,⟨3,eW,cT d.amt,0⟩,⟨3,dK,d.frm,0⟩,⟨3,kE,d.to,0⟩]⟩
def fS (d:De):Ne:=⟨1,[⟨3,dF,cT d.boxes.length,0⟩,⟨3,dL,hZ d.boxes,0⟩]⟩
def fQ (d:De):Ne:=⟨2,[⟨3,lB,d.carrier,0⟩,⟨3,kS,d.seller,0⟩,⟨3,dK,d.frm,0⟩,⟨3,kE,d.to,0⟩,⟨3,dL,hZ d.boxes,0⟩,⟨3,qO,K8,0⟩,⟨5,dU,⟨#[]⟩,d.latest⟩]⟩
def iN (d:De):Ne:=⟨3,[⟨3,dK,d.frm,0⟩,⟨3,kE,d.to,0⟩,⟨3,eE,d.cur,0⟩,⟨6,eW,⟨#[]⟩,d.amt⟩]⟩
def hO (d:De):Ne:=⟨4,[⟨3,bU,d.seller,0⟩,⟨3,gS,d.frm,0⟩]⟩
def cR (d:De):List Ne:=if d.insurer=⟨#[]⟩ then [fL d,fS d,fQ d,hO d] else [fL d,fS d,fQ d,iN d,hO d]
def eO (d:De):Cr:=⟨d.number,d.buyer,d.seller,d.issuer,⟨#[]⟩,d.frm,d.to,d.cur,d.amt,0,0,d.latest,d.expiry,21,d.tenor,false,true,cR d⟩
theorem sI (s v:bF):jL s ⟨s,v⟩=true:=by simp[jL]
theorem pU {s v:bF}{l:List Fl}:HA (⟨s,v⟩ :: l) s=v:=by unfold HA;rw[List.find?_cons_of_pos (sI s v)]
theorem cK {s t v:bF}{l:List Fl}(h:t≠s):HA (⟨t,v⟩ :: l) s=HA l s:=by unfold HA;rw[List.find?_cons_of_neg (by simp[jL,h])]
theorem Is (d:De):gW (fJ d).fields [bU,dH,eE,eW,dK,kE]=(fL d).rules:=by
 unfold gW fJ fL;simp only[List.map_cons,List.map_nil,pU,cK (show bU≠dH by decide),cK (show bU≠eE by decide),cK (show dH≠eE by decide),cK (show bU≠eW by decide),cK (show dH≠eW by decide),cK (show eE≠eW by decide),cK (show bU≠dK by decide),cK (show dH≠dK by decide),cK (show eE≠dK by decide),cK (show eW≠dK by decide),cK (show bU≠kE by decide),cK (show dH≠kE by decide),cK (show eE≠kE by decide),cK (show eW≠kE by decide),cK (show dK≠kE by decide)]
theorem Hf (d:De) (t:bF):gW (lG d t).fields [dF,dL]=(fS d).rules:=by
 unfold gW lG fS;simp only[List.map_cons,List.map_nil,pU,cK (show bU≠dF by decide),cK (show dK≠dF by decide),cK (show kE≠dF by decide),cK (show bU≠dL by decide),cK (show dK≠dL by decide),cK (show kE≠dL by decide),cK (show dF≠dL by decide)]
theorem Ig (d:De) (c:bF):gW (oF d c).fields [bU,gS]=[⟨3,bU,d.seller,0⟩,⟨3,gS,c,0⟩]:=by
 unfold gW oF;simp only[List.map_cons,List.map_nil,pU,cK (show bU≠gS by decide)]
def Fz:cQ:=spec (fun d:De=>[DeA d]) (fun _=>[]) Al (fun d=>vS (eO d)) fun _=>[]
structure QR (P:bG):Prop where
 inv:bH P 84 Mt
 pak:bH P 85 Nb
 ori:bH P 88 NE
 al:bH P 83 Eh
 nd:bH P 82 K6
 is_:bH P 86 Sf
 mks:bH P 87 Aw
theorem Ie (P:bG) (F:QR P):bL P Vk Fz:=by
 intro args H K hc;obtain⟨d,rfl,rfl,hp,hK⟩:=hc;refine⟨cW,?_⟩;dsimp only at hp hK⊢;have hd:=hp;obtain⟨di,hdi⟩:∃x,x=fJ d:=⟨_,rfl⟩
 have hai:=Is d;have hap:=Hf d;have hao:=Ig d d.frm;obtain⟨dox,hdox⟩:∃x,x=oF d d.frm:=⟨_,rfl⟩
 rw[←hdi]at hai;rw[←hdox]at hao;obtain⟨w1,hw1⟩:∃w,w=hZ d.boxes:=⟨_,rfl⟩
 obtain⟨w2,hw2⟩:∃w,w=cT d.boxes.length:=⟨_,rfl⟩
 obtain⟨w3,hw3⟩:∃w,w=cT d.amt:=⟨_,rfl⟩
 unfold fL at hai;unfold fS at hap;unfold eO cR fL fS fQ iN hO at hK;rw[←hw3]at hai;rw[←hw1,←hw2]at hap;rw[←hw1,←hw2,←hw3]at hK;obtain⟨number,seller,buyer,carrier,issuer,house,insurer,frm,to,cur,amt,boxes,term,latest,expiry,tenor,duty⟩:=d;dsimp only at hai hap hao hK hw1 hw2 hw3;obtain⟨⟨hb1,hb2⟩,ha,ht,hn,hbw⟩:=hp
 try dsimp only at hb1 hb2 ha ht hn hbw
 obtain⟨ik,inn,iis,ifl⟩:=di;obtain⟨ok,onn,ois,ofl⟩:=dox;have hil:ifl.length≤1048576:=by have:(fJ ⟨number,seller,buyer,carrier,issuer,house,insurer,frm,to,cur,amt,boxes,term,latest,expiry,tenor,duty⟩).fields.length=8:=rfl;rw[←hdi]at this;dsimp only at this;omega
 have hol:ofl.length≤1048576:=by have:(oF ⟨number,seller,buyer,carrier,issuer,house,insurer,frm,to,cur,amt,boxes,term,latest,expiry,tenor,duty⟩ frm).fields.length=3:=rfl;rw[←hdox]at this;dsimp only at this;omega
 dsimp only at hai hao;cbv;repeat'((first|refine And.intro ?_ ?_|fail)<;>cbv)
 all_goals
  (refine hP F.inv (⟨number,seller,buyer,carrier,issuer,house,insurer,frm,to,cur,amt,boxes,term,latest,expiry,tenor,duty⟩:De) hd ?_;try dsimp only)
  rw[←hdi];cbv;repeat'((first|refine And.intro ?_ ?_|fail)<;>cbv)
 all_goals
  refine bT 3 rfl ?_
  (refine hP F.al ((⟨ik,inn,iis,ifl⟩,[bU,dH,eE,eW,dK,kE]):Dc×List bF) ⟨hil,Nat.le_of_ble_eq_true rfl⟩ ?_;try dsimp only)
  rw[hai];cbv;repeat'((first|refine And.intro ?_ ?_|fail)<;>cbv)
 all_goals
  (refine hP F.nd ((0,[⟨3,bU,seller,0⟩,⟨3,dH,buyer,0⟩,⟨3,eE,cur,0⟩,⟨3,eW,w3,0⟩,⟨3,dK,frm,0⟩,⟨3,kE,to,0⟩]):Int×List Nd) trivial ?_;try dsimp only)
  cbv;repeat'((first|refine And.intro ?_ ?_|fail)<;>cbv)
 all_goals
  refine bI F.pak (⟨number,seller,buyer,carrier,issuer,house,insurer,frm,to,cur,amt,boxes,term,latest,expiry,tenor,duty⟩:De) [] hd rfl rfl (by decide) rfl rfl rfl rfl rfl ?_;intro t ht;have hap1:=hap t;have hpl:(lG (⟨number,seller,buyer,carrier,issuer,house,insurer,frm,to,cur,amt,boxes,term,latest,expiry,tenor,duty⟩:De) t).fields.length≤1048576:=Nat.le_of_ble_eq_true rfl;obtain⟨dp,hdp⟩:∃x,x=lG (⟨number,seller,buyer,carrier,issuer,house,insurer,frm,to,cur,amt,boxes,term,latest,expiry,tenor,duty⟩:De) t:=⟨_,rfl⟩
  rw[←hdp]at hap1 hpl⊢;obtain⟨pk,pnn,pis,pfl⟩:=dp;dsimp only at hap1 hpl;cbv
 all_goals
  refine bT 4 rfl ?_
  (refine hP F.al ((⟨pk,pnn,pis,pfl⟩,[dF,dL]):Dc×List bF) ⟨hpl,Nat.le_of_ble_eq_true rfl⟩ ?_;try dsimp only)
  rw[hap1];cbv
 all_goals
  (refine hP F.nd ((1,[⟨3,dF,w2,0⟩,⟨3,dL,w1,0⟩]):Int×List Nd) trivial ?_;try dsimp only)
  cbv
 all_goals
  (refine hP F.is_ ((lB,carrier):bF×bF) trivial ?_;try dsimp only)
  cbv
 all_goals
  (refine hP F.is_ ((kS,seller):bF×bF) trivial ?_;try dsimp only)
  cbv
 all_goals
  (refine hP F.is_ ((dK,frm):bF×bF) trivial ?_;try dsimp only)
  cbv
 all_goals
  (refine hP F.is_ ((kE,to):bF×bF) trivial ?_;try dsimp only)
  cbv
 all_goals
  (refine hP F.mks boxes ⟨hb1,hb2⟩ ?_;try dsimp only)
  rw[←hw1];cbv
 all_goals
  (refine hP F.is_ ((dL,w1):bF×bF) trivial ?_;try dsimp only)
  cbv
 all_goals
  (refine hP F.is_ ((qO,K8):bF×bF) trivial ?_;try dsimp only)
  cbv
 all_goals
  refine bT 5 rfl ?_
  (refine hP F.nd ((2,[⟨3,lB,carrier,0⟩,⟨3,kS,seller,0⟩,⟨3,dK,frm,0⟩,⟨3,kE,to,0⟩,⟨3,dL,w1,0⟩,⟨3,qO,K8,0⟩,⟨5,dU,⟨#[]⟩,latest⟩]):Int×List Nd) trivial ?_;try dsimp only)
  cbv;repeat'((first|refine .mk (fun h=>?_) fun h=>?_|refine And.intro ?_ ?_|fail)<;>cbv)
 all_goals repeat'(first
  |((refine hP F.is_ ((dK,frm):bF×bF) trivial ?_;try dsimp only);cbv)
  |((refine hP F.is_ ((kE,to):bF×bF) trivial ?_;try dsimp only);cbv)
  |((refine hP F.is_ ((eE,cur):bF×bF) trivial ?_;try dsimp only);cbv)
  |(refine bT 7 rfl ?_;(refine hP F.nd ((3,[⟨3,dK,frm,0⟩,⟨3,kE,to,0⟩,⟨3,eE,cur,0⟩,⟨6,eW,⟨#[]⟩,amt⟩]):Int×List Nd) trivial ?_;try dsimp only);cbv;repeat'((first|refine .zl fun zs hzs hzl=>?_|refine And.intro ?_ ?_|fail)<;>cbv))
  |((refine hP F.ori ((⟨number,seller,buyer,carrier,issuer,house,insurer,frm,to,cur,amt,boxes,term,latest,expiry,tenor,duty⟩,frm):De×bF) hd ?_;try dsimp only);rw[←hdox];cbv)
  |(refine bT 7 rfl ?_;(refine hP F.al ((⟨ok,onn,ois,ofl⟩,[bU,gS]):Dc×List bF) ⟨hol,Nat.le_of_ble_eq_true rfl⟩ ?_;try dsimp only);rw[hao];cbv)
  |(refine bT 10 rfl ?_;(refine hP F.al ((⟨ok,onn,ois,ofl⟩,[bU,gS]):Dc×List bF) ⟨hol,Nat.le_of_ble_eq_true rfl⟩ ?_;try dsimp only);rw[hao];cbv)
  |((refine hP F.nd ((4,[⟨3,bU,seller,0⟩,⟨3,gS,frm,0⟩]):Int×List Nd) trivial ?_;try dsimp only);cbv;repeat'((first|refine .zl fun zs hzs hzl=>?_|fail)<;>cbv)))
 all_goals
  first|rw[aF (by assumption)]at hK|rw[aE (by assumption)]at hK
  subst hzs
  try subst ‹(_:List AV)=_++_›
  (refine .r9 (Gh.plain 6 rfl) ?_;cbv;exact .inl (.g9 hK))
theorem J9 (u:Nat) (h:u < 10):Lib.decDigits u=[UInt8.ofNat (48+u)]:=by rw[Lib.decDigits,dif_pos h]
theorem Ji (u:Nat) (h:¬u < 10):Lib.decDigits u=Lib.decDigits (u / 10)++[UInt8.ofNat (48+u % 10)]:=by rw[Lib.decDigits,dif_neg h]
theorem Wo (d:Nat) (h:d < 10):(UInt8.ofNat (48+d)).toNat=48+d:=by
  rw[UInt8.toNat_ofNat'];omega
theorem Cf (u:Nat):∃c r,Lib.decDigits u=c :: r∧48≤c.toNat∧c.toNat≤57:=by
  induction u using Nat.strongRecOn with
  |_ u ih=>
   by_cases h0:u < 10
   · rw[J9 u h0]
     exact⟨_,_,rfl,by rw[Wo u h0];omega,by rw[Wo u h0];omega⟩
   · obtain⟨c,r,h1,h2,h3⟩:=ih (u / 10) (by omega)
     rw[Ji u h0,h1];exact⟨c,_,rfl,h2,h3⟩
theorem E6 (M:Nat) (c:UInt8) (hc:48≤c.toNat∧c.toNat≤57) (v:Nat) (hv:v < 1844674407370955162) (hM:v * 10+(c.toNat - 48)≤M) :
    ∀(l:List UInt8) (acc:Nat),Lib.parseUintM M acc l=.ok v→Lib.parseUintM M acc (l++[c])=.ok (v * 10+(c.toNat - 48))
  |[],acc,h=>by
   simp only[Lib.parseUintM,Lib.NumEnd.ok.injEq]at h;subst h;simp only[List.nil_append,Lib.parseUintM];rw[aF hc,aE (by omega),aE (by omega)]
  |x :: r,acc,h=>by
   simp only[List.cons_append,Lib.parseUintM]at h⊢
   split at h
   · rename_i h1
     rw[aF h1]
     split at h
     · cases h
     · rename_i h2
       rw[aE h2]
       split at h
       · cases h
       · rename_i h3
         rw[aE h3];exact E6 M c hc v hv hM r _ h
   · cases h
theorem OE (u:Nat) (h:u≤18446744073709551615):Lib.parseUintM 18446744073709551615 0 (Lib.decDigits u)=.ok u:=by
  induction u using Nat.strongRecOn with
  |_ u ih=>
   by_cases h0:u < 10
   · rw[J9 u h0]
     simp only[Lib.parseUintM];rw[Wo u h0,aF (by omega),aE (by omega),aE (by omega)];simp
   · rw[Ji u h0]
     have h1:=ih (u / 10) (by omega) (by omega);have h2:=E6 18446744073709551615 (UInt8.ofNat (48+u % 10)) (by rw[Wo _ (by omega)];omega) (u / 10) (by omega) (by rw[Wo _ (by omega)];omega) _ _ h1;rw[Wo _ (by omega)]at h2;rw[h2];congr 1;omega
theorem JS (u:Nat) (h:u≤18446744073709551615):Lib.parseUintB 64 (Lib.decDigits u)=.ok u:=by
  obtain⟨c,r,h1,_⟩:=Cf u;unfold Lib.parseUintB;rw[aE (by rw[h1];simp)];exact OE u h
def CM (n:Int):Prop:=-4611686018427387904≤n∧n≤4611686018427387904
instance (n:Int):Decidable (CM n):=by unfold CM;infer_instance
theorem zR (n:Int) (h:-9223372036854775808≤n∧n≤9223372036854775807):Lib.parseIntB 64 (Lib.itoa n)=.ok n:=by
  unfold Lib.itoa;by_cases h0:n < 0
  · rw[aF h0]
    have h1:=JS n.natAbs (by omega);simp only[Lib.parseIntB];rw[aF (by simp),h1];simp only;rw[aE (by simp),aE (by simp;omega),aF (by simp)];congr 1;omega
  · rw[aE h0]
    have h1:=JS n.toNat (by omega);obtain⟨c,r,h2,h3,h4⟩:=Cf n.toNat
    rw[h2]at h1⊢;simp only[Lib.parseIntB];rw[aE (by omega),h1];simp only;rw[aE (by simp;omega),aE (by omega),aE (by omega)];congr 1;omega
theorem DK (n:Int) (h:CM n):Lib.parseIntB 64 (Lib.itoa n)=.ok n:=zR n (by unfold CM at h;omega)
def sA (l:List UInt8):Option Int:=
  match Lib.parseIntB 64 l with
  |.ok v=>if CM v∧Lib.itoa v=l then some v else none
  |_=>none
theorem Bv (l:List UInt8) (v:Int):sA l=some v↔CM v∧l=Lib.itoa v:=by
  unfold sA;constructor
  · intro h
    split at h
    · split at h
      · rename_i h1
        cases h;exact⟨h1.1,h1.2.symm⟩
      · cases h
    · cases h
  · rintro ⟨h1,rfl⟩
    rw[DK v h1];simp only;rw[aF ⟨h1,trivial⟩]
def iU (s:bF):Int:=(sA s.data.toList).getD 0
def lO (s:bF):Bool:=(sA s.data.toList).isSome
def HY:cQ:=spec (fun s:bF=>[.str s]) (fun _=>[]) (fun s=>s.size≤281474976710656) (fun s=>.tup [.i (iU s),.bl (lO s)]) fun _=>[]
def OG (k:Int) (d:Dc):Bool:=decide (d.kind=k)
def mU:bF:=⟨#[110,111,119,104,101,114,101]⟩
def eK (d:Dc) (s v:bF):Dc:=⟨d.kind,d.number,d.issuer,gG d.fields s v⟩
def gT (n:Int) (l:List Dc):List Dc:=
 if n=1 then (match l.findIdx? (OG 0) with
  |some i=>(match l[i]? with
   |some d=>if lO (HA d.fields eW)=true then l.set i (eK d eW (cT (iU (HA d.fields eW)+1))) else l
   |none=>l)
  |none=>l)
 else if n=2 then (match l.findIdx? (OG 1) with
  |some i=>l.eraseIdx i
  |none=>l)
 else if n=3 then (match l.findIdx? (OG 2) with
  |some i=>(match l[i]? with
   |some d=>l.set i (eK d kE mU)
   |none=>l)
  |none=>l)
 else l
structure SN where
 n:Int
 l:List Dc
structure auK (i:SN):Prop where
 len:i.l.length≤100
 fl:∀d∈i.l,d.fields.length≤1000
 sz:∀d∈i.l,(HA d.fields eW).size≤1048576
theorem zZ (v:bF):-4611686018427387904≤iU v∧iU v≤4611686018427387904:=by
 unfold iU;cases h:sA v.data.toList with
 |none=>exact⟨by decide,by decide⟩
 |some n=>have:=((Bv _ _).1 h).1;unfold CM at this;exact this
structure Fa where
 paper:Int
 kind:Int
 field:bF
 why:Int
def mD:Fa→AV
 |⟨paper,kind,field,why⟩=>.agg [.i paper,.i kind,.str field,.i why]
def nZ:Fa→AV×AV
 |⟨paper,kind,field,why⟩=>(.agg [.i paper,.i kind,.str field,.i why],.bl true)
structure Xm where
 c:Cr
 docs:List Dc
 day:Int
 F:List Fa
def Ew:Xm→List cC
 |⟨⟨number,applicant,beneficiary,issuer,confirmer,frm,to,cur,amt,above,below,latest,expiry,within,tenor,partial_,change,needs⟩,docs,day,F⟩=>
  [.blk 95 [.str number,.str applicant,.str beneficiary,.str issuer,.str confirmer,.str frm,.str to,.str cur,.i amt,.i above,.i below,.i latest,.i expiry,.i within,.i tenor,.bl partial_,.bl change,.sl 8 (bK iQ needs),.sl 4 (bK eP docs),.i day,.clo 33 [.ptr 3 0,.ptr 1 0]],
   .blk 38 [.hd 4],.map 91 (bK nZ F),.blk 91 [.hd 2],.row 44 4 (bK mD F)]
def yV (a b:Fa):Bool:=decide (a.paper=b.paper) && (decide (a.kind=b.kind) && (decide (a.field=b.field) && decide (a.why=b.why)))
theorem lF (a b:Fa):yV a b=true↔a=b:=by
 obtain⟨p,k,f,w⟩:=a;obtain⟨p2,k2,f2,w2⟩:=b;simp[yV]
def lH (F:List Fa) (f:Fa):Bool:=F.any (yV f)
def eD (F:List Fa) (f:Fa):List Fa:=if lH F f=true then F else F++[f]
theorem Qn (f g:Fa):gE (nZ f).1 (nZ g).1=some (yV f g):=by
 obtain⟨p,k,s,w⟩:=f;obtain⟨p2,k2,s2,w2⟩:=g;have hs:(s == s2)=decide (s=s2):=by
  by_cases h:s=s2
  ·subst h;rw[(MapKept.bytes_beq _ _).2 rfl];simp
  ·rw[aG h];exact Bool.eq_false_iff.2 fun hb=>h ((MapKept.bytes_beq _ _).1 hb)
 have hi:∀x y:Int,(x == y)=decide (x=y):=fun x y=>by rw[Bool.eq_iff_iff];simp
 simp[gE,nZ,xV,yV,hs,hi]
theorem vE (f:Fa):∀(F:List Fa) (i:Nat),(∃j,fY (nZ f).1 (bK nZ F) i=some (some (i+j))∧F[j]?=some f∧lH F f=true)∨(fY (nZ f).1 (bK nZ F) i=some none∧lH F f=false)
 |[],i=>.inr ⟨rfl,rfl⟩
 |g :: F,i=>by
  have e:bK nZ (g :: F)=nZ g :: bK nZ F:=rfl;rw[e];unfold fY;rw[Qn];cases h:yV f g with
  |true=>
   left;refine⟨0,rfl,?_,?_⟩
   ·rw[(lF f g).1 h];rfl
   ·unfold lH;rw[List.any_cons,h];rfl
  |false=>
   dsimp only;have hi:lH (g :: F) f=lH F f:=by unfold lH;rw[List.any_cons,h];rfl
   rcases vE f F (i+1)with ⟨j,h1,h2,h3⟩|⟨h1,h2⟩
   ·left;exact⟨j+1,by rw[h1];congr 2;omega,by simpa using h2,by rw[hi];exact h3⟩
   ·right;exact⟨h1,by rw[hi];exact h2⟩
theorem uI {f:Fa}{F:List Fa}{K:Option (Nat×AV)→Prop}(hin:lH F f=true→∀i,K (some (i,.bl true))) (hno:lH F f=false→K none):rM (nZ f).1 (bK nZ F) K:=by
 rcases vE f F 0 with ⟨j,h1,h2,h3⟩|⟨h1,h2⟩
 ·refine⟨.inl ⟨j,(nZ f).1,.bl true,by rw[h1,Nat.zero_add],?_,hin h3 j⟩⟩;rw[dC,aD,h2];rfl
 ·exact⟨.inr ⟨h1,hno h2⟩⟩
def tZ:cQ:=spec (fun i:Xm×Fa=>[mD i.2,.ptr 3 0,.ptr 1 0]) (fun i=>Ew i.1) (fun i=>i.1.F.length≤1000000) (fun _=>.tup []) fun i=>Ew ⟨i.1.c,i.1.docs,i.1.day,eD i.1.F i.2⟩
theorem GG (P:bG):bL P UM tZ:=by
 intro args H K hc;obtain⟨⟨⟨⟨number,applicant,beneficiary,issuer,confirmer,frm,to,cur,amt,above,below,latest,expiry,within,tenor,partial_,change,needs⟩,docs,day,F⟩,⟨paper,kind,field,why⟩⟩,rfl,rfl,hp,hK⟩:=hc;refine⟨cW,?_⟩;dsimp only at hp hK⊢
 try dsimp only at hp
 unfold eD at hK;obtain⟨b,hb⟩:∃b,b=lH F ⟨paper,kind,field,why⟩:=⟨_,rfl⟩
 rw[←hb]at hK;cbv;refine uI (f:=⟨paper,kind,field,why⟩) (fun h1 i=>?_) (fun h1=>?_)
 ·obtain rfl:b=true:=hb.trans h1;cbv
  (refine .q9 ?_;cbv;exact .inl (.f9 hK))
 ·obtain rfl:b=false:=hb.trans h1;cbv;refine uI (f:=⟨paper,kind,field,why⟩) (fun h2 i=>by rw[h1]at h2;cases h2) (fun h2=>?_);cbv;repeat'((first|refine .zl fun zs hzs hzl=>?_|refine .ms fun ms hms=>?_|fail)<;>cbv)
  obtain⟨F2,hF2⟩:∃F2,F2=F++[(⟨paper,kind,field,why⟩:Fa)]:=⟨_,rfl⟩
  have hK:K (.tup []) (Ew ⟨⟨number,applicant,beneficiary,issuer,confirmer,frm,to,cur,amt,above,below,latest,expiry,within,tenor,partial_,change,needs⟩,docs,day,F2⟩):=by rw[hF2];exact hK
  obtain rfl:ms=bK nZ F2:=by rw[hF2,cP,cS];exact hms
  obtain rfl:zs=bK mD F2:=by rw[hF2,cP,cS];exact hzs
  (refine .q9 ?_;cbv;exact .inl (.f9 hK))
def E5 (n:Nd) (v:bF):Bool:=if n.kind=3 then decide (v=n.text) else if n.kind=5 then lO v && decide (iU v≤n.num) else lO v && decide (n.num≤iU v)
def pF (n:Nd) (v:bF):Int:=if E5 n v=true then 0 else 2
theorem zK (f t:bF) (n:Int) (v:bF):E5 ⟨3,f,t,n⟩ v=decide (v=t):=aF rfl
theorem E3 (f t:bF) (n:Int) (v:bF):E5 ⟨5,f,t,n⟩ v=(lO v && decide (iU v≤n)):=(aE (show ¬(5:Int)=3 by decide)).trans (aF rfl)
theorem FS (f t:bF) (n:Int) (v:bF):E5 ⟨6,f,t,n⟩ v=(lO v && decide (n≤iU v)):=(aE (show ¬(6:Int)=3 by decide)).trans (aE (show ¬(6:Int)=5 by decide))
def cD (fs:List Fl) (n:Nd):Int:=if dT fs n.field=true then pF n (HA fs n.field) else 1
def dG (n:Nd):Prop:=n.kind=3∨n.kind=5∨n.kind=6
def DN:cQ:=spec (fun n:Nd=>[jW n]) (fun _=>[]) dG (fun _=>.bl true) fun _=>[]
theorem BM (P:bG):bL P Vi DN:=by
 intro args H K hc;obtain⟨⟨kind,field,text,num⟩,rfl,rfl,hp,hK⟩:=hc;refine⟨cW,?_⟩;dsimp only at hp hK⊢;unfold dG at hp;dsimp only at hp;rcases hp with h1|h1|h1<;>subst h1
 all_goals
  cbv;repeat'((first|refine .n fun h=>?_|refine .y fun h=>?_|fail)<;>cbv)
  (refine .q9 ?_;cbv;exact .inl (.f9 hK))
def KQ:cQ:=spec (fun i:Nd×List Dc×bF=>[jW i.1,.sl 4 (bK eP i.2.1),.str i.2.2]) (fun _=>[]) (fun i=>dG i.1∧i.2.2.size≤281474976710656) (fun i=>.i (pF i.1 i.2.2)) fun _=>[]
theorem HH (P:bG) (hn:bH P 41 HY):bL P TS KQ:=by
 intro args H K hc;obtain⟨⟨⟨kind,field,text,num⟩,docs,v⟩,rfl,rfl,hp,hK⟩:=hc;refine⟨cW,?_⟩;dsimp only at hp hK⊢;obtain⟨hp,hv⟩:=hp;unfold dG at hp
 try dsimp only at hp hv
 unfold pF at hK;obtain⟨nb,hnb⟩:∃b,b=lO v:=⟨_,rfl⟩
 obtain⟨nv,hnv⟩:∃b,b=iU v:=⟨_,rfl⟩
 rcases hp with h1|h1|h1<;>subst h1
 ·rw[zK]at hK;cbv;repeat'((first|refine .y fun h=>?_|refine .mk (fun h=>?_) fun h=>?_|fail)<;>cbv)
  ·rw[aF (aH (by assumption))]at hK
   (refine .q9 ?_;cbv;exact .inl (.f9 hK))
  ·rw[aE (by rw[aG (by assumption)];decide)]at hK
   (refine .q9 ?_;cbv;exact .inl (.f9 hK))
 ·rw[E3,←hnb,←hnv]at hK;cbv;repeat'((first|refine .n fun h=>?_|refine .y fun h=>?_|fail)<;>cbv)
  (refine hP hn v hv ?_;try dsimp only)
  rw[←hnb,←hnv];cases nb
  ·cbv
   (refine .q9 ?_;cbv;exact .inl (.f9 hK))
  ·rw[Bool.true_and]at hK;cbv;repeat'((first|refine .mk (fun h=>?_) fun h=>?_|fail)<;>cbv)
   ·rw[aF (aH (by assumption))]at hK
    (refine .q9 ?_;cbv;exact .inl (.f9 hK))
   ·rw[aE (by rw[aG (by omega)];decide)]at hK
    (refine .q9 ?_;cbv;exact .inl (.f9 hK))
 ·rw[FS,←hnb,←hnv]at hK;cbv;repeat'((first|refine .n fun h=>?_|refine .y fun h=>?_|fail)<;>cbv)
  (refine hP hn v hv ?_;try dsimp only)
  rw[←hnb,←hnv];cases nb
  ·cbv
   (refine .q9 ?_;cbv;exact .inl (.f9 hK))
  ·rw[Bool.true_and]at hK;cbv;repeat'((first|refine .mk (fun h=>?_) fun h=>?_|fail)<;>cbv)
   ·rw[aF (aH (by assumption))]at hK
    (refine .q9 ?_;cbv;exact .inl (.f9 hK))
   ·rw[aE (by rw[aG (by omega)];decide)]at hK
    (refine .q9 ?_;cbv;exact .inl (.f9 hK))
structure Qy where
 n:Nd
 docs:List Dc
 at_:Nat
 d:Dc
structure So (i:Qy):Prop where
 n:dG i.n
 d:i.docs[i.at_]?=some i.d
 l:i.d.fields.length≤1048576
 v:(HA i.d.fields i.n.field).size≤281474976710656
def uF:cQ:=spec (fun i:Qy=>[jW i.n,.sl 4 (bK eP i.docs),.i (nI i.at_)]) (fun _=>[]) So (fun i=>.i (cD i.d.fields i.n)) fun _=>[]
theorem D5 (P:bG) (hg:bH P 40 vU) (ha:bH P 184 KQ):bL P UI uF:=by
 intro args H K hc;obtain⟨⟨⟨kind,field,text,num⟩,docs,at_,⟨dk,dn,ds,dl⟩⟩,rfl,rfl,hp,hK⟩:=hc;refine⟨cW,?_⟩;dsimp only at hp hK⊢;obtain⟨hn,hd,hl,hv⟩:=hp
 try dsimp only at hn hd hl hv
 have hn2:=hn;unfold dG at hn;dsimp only at hn;unfold cD at hK;dsimp only at hK;have hat:at_ < docs.length:=(aA.1 hd).1;obtain⟨b,hb⟩:∃b,b=dT dl field:=⟨_,rfl⟩
 obtain⟨v,hv1⟩:∃b,b=HA dl field:=⟨_,rfl⟩
 obtain⟨r,hr⟩:∃b,b=pF ⟨kind,field,text,num⟩ v:=⟨_,rfl⟩
 rw[←hb,←hv1,←hr]at hK;rw[←hv1]at hv;rcases hn with h1|h1|h1<;>subst h1
 all_goals
  cbv;repeat'((first|refine .e ?_|refine .n fun h=>?_|refine .y fun h=>?_|refine .k fun z hz=>?_|fail)<;>cbv)
  (refine hP hg ((dl,field):List Fl×bF) hl ?_;try dsimp only)
  rw[←hb,←hv1];cases b
  ·cbv
   (refine .q9 ?_;cbv;exact .inl (.f9 hK))
  ·cbv
   first
    |(refine hP ha ((⟨3,field,text,num⟩,docs,v):Nd×List Dc×bF) ⟨hn2,hv⟩ ?_;try dsimp only)
    |(refine hP ha ((⟨5,field,text,num⟩,docs,v):Nd×List Dc×bF) ⟨hn2,hv⟩ ?_;try dsimp only)
    |(refine hP ha ((⟨6,field,text,num⟩,docs,v):Nd×List Dc×bF) ⟨hn2,hv⟩ ?_;try dsimp only)
   rw[←hr];cbv
   (refine .q9 ?_;cbv;exact .inl (.f9 hK))
structure vC (c:Cr):Prop where
 amt:1≤c.amt∧c.amt≤1099511627776
 above:c.above=0
 below:c.below=0
 expiry:0≤c.expiry∧c.expiry≤1048576
 latest:0≤c.latest∧c.latest≤1048576
 within:c.within=21
def OA:cQ:=spec (fun _:Unit=>[.i 0]) (fun _=>[]) (fun _=>True) (fun _=>.bl true) fun _=>[]
theorem KK (P:bG):bL P T6 OA:=by
 intro args H K hc;obtain⟨u,rfl,rfl,hp,hK⟩:=hc;refine⟨cW,?_⟩;dsimp only at hp hK⊢;cbv;repeat'((first|refine .y fun h=>?_|fail)<;>cbv)
 (refine .q9 ?_;cbv;exact .inl (.f9 hK))
def NH:cQ:=spec (fun c:Cr=>[vS c]) (fun _=>[]) vC (fun _=>.bl true) fun _=>[]
theorem Li (P:bG) (ht:bH P 298 OA):bL P SL NH:=by
 intro args H K hc;obtain⟨⟨number,applicant,beneficiary,issuer,confirmer,frm,to,cur,amt,above,below,latest,expiry,within,tenor,partial_,change,needs⟩,rfl,rfl,hp,hK⟩:=hc;refine⟨cW,?_⟩;dsimp only at hp hK⊢;obtain⟨ha,hb,hc,he,hl,hw⟩:=hp
 try dsimp only at ha hb hc he hl hw
 subst hb hc;cbv;repeat'((first|refine .y fun h=>?_|fail)<;>cbv)
 (refine hP ht () trivial ?_;try dsimp only)
 cbv
 (refine hP ht () trivial ?_;try dsimp only)
 cbv;repeat'((first|refine .y fun h=>?_|fail)<;>cbv)
 (refine .q9 ?_;cbv;exact .inl (.f9 hK))
def Zu:cQ:=spec (fun c:Cr=>[vS c]) (fun _=>[]) vC (fun c=>.i c.amt) fun _=>[]
theorem DE (P:bG):bL P Sj Zu:=by
 intro args H K hc;obtain⟨⟨number,applicant,beneficiary,issuer,confirmer,frm,to,cur,amt,above,below,latest,expiry,within,tenor,partial_,change,needs⟩,rfl,rfl,hp,hK⟩:=hc;refine⟨cW,?_⟩;dsimp only at hp hK⊢;obtain⟨ha,hb,hc,he,hl,hw⟩:=hp
 try dsimp only at ha hb hc he hl hw
 subst hb hc;cbv;repeat'((first|refine .k fun z hz=>?_|fail)<;>cbv)
 have e:z=1000:=by omega
 subst e;refine LH.k (fun z1 hz1=>?_) (by omega);cbv;repeat'((first|refine .q fun z hz hz0 hz1=>?_|fail)<;>cbv)
 obtain rfl:z=amt:=by rw[hz,Int.tdiv_eq_ediv_of_nonneg (by omega)];omega
 (refine .q9 ?_;cbv;exact .inl (.f9 hK))
def zG:cQ:=spec (fun c:Cr=>[vS c]) (fun _=>[]) vC (fun c=>.i c.amt) fun _=>[]
theorem A5 (P:bG):bL P Ta zG:=by
 intro args H K hc;obtain⟨⟨number,applicant,beneficiary,issuer,confirmer,frm,to,cur,amt,above,below,latest,expiry,within,tenor,partial_,change,needs⟩,rfl,rfl,hp,hK⟩:=hc;refine⟨cW,?_⟩;dsimp only at hp hK⊢;obtain⟨ha,hb,hc,he,hl,hw⟩:=hp
 try dsimp only at ha hb hc he hl hw
 subst hb hc;cbv;repeat'((first|refine .k fun z hz=>?_|fail)<;>cbv)
 have e:z=1000:=by omega
 subst e;refine LH.k (fun z1 hz1=>?_) (by omega);cbv;repeat'((first|refine .q fun z hz hz0 hz1=>?_|refine .k fun z hz=>?_|fail)<;>cbv)
 obtain rfl:z=amt:=by rw[hz,Int.tdiv_eq_ediv_of_nonneg (by omega)];omega
 (refine .q9 ?_;cbv;exact .inl (.f9 hK))
def rR:cQ:=spec (fun c:Cr=>[vS c]) (fun _=>[]) vC (fun c=>.tup [.i c.amt,.i 0]) fun _=>[]
theorem GE (P:bG) (hb:bH P 253 NH) (hm:bH P 254 Zu):bL P Sq rR:=by
 intro args H K hc;obtain⟨⟨number,applicant,beneficiary,issuer,confirmer,frm,to,cur,amt,above,below,latest,expiry,within,tenor,partial_,change,needs⟩,rfl,rfl,hp,hK⟩:=hc;refine⟨cW,?_⟩;dsimp only at hp hK⊢;cbv
 (refine hP hb (⟨number,applicant,beneficiary,issuer,confirmer,frm,to,cur,amt,above,below,latest,expiry,within,tenor,partial_,change,needs⟩:Cr) hp ?_;try dsimp only)
 cbv
 (refine hP hm (⟨number,applicant,beneficiary,issuer,confirmer,frm,to,cur,amt,above,below,latest,expiry,within,tenor,partial_,change,needs⟩:Cr) hp ?_;try dsimp only)
 cbv
 (refine .q9 ?_;cbv;exact .inl (.f9 hK))
theorem DW (P:bG) (hb:bH P 253 NH) (hm:bH P 255 zG):bL P Tu rR:=by
 intro args H K hc;obtain⟨⟨number,applicant,beneficiary,issuer,confirmer,frm,to,cur,amt,above,below,latest,expiry,within,tenor,partial_,change,needs⟩,rfl,rfl,hp,hK⟩:=hc;refine⟨cW,?_⟩;dsimp only at hp hK⊢;cbv
 (refine hP hb (⟨number,applicant,beneficiary,issuer,confirmer,frm,to,cur,amt,above,below,latest,expiry,within,tenor,partial_,change,needs⟩:Cr) hp ?_;try dsimp only)
 cbv
 (refine hP hm (⟨number,applicant,beneficiary,issuer,confirmer,frm,to,cur,amt,above,below,latest,expiry,within,tenor,partial_,change,needs⟩:Cr) hp ?_;try dsimp only)
 cbv
 (refine .q9 ?_;cbv;exact .inl (.f9 hK))
def Ov:cQ:=spec (fun i:Int×Int×Int=>[.i i.1,.i i.2.1,.i i.2.2]) (fun _=>[]) (fun i=>i.2.2=21∧-4611686018427387904≤i.2.1∧i.2.1≤4611686018427387904) (fun i=>.bl (decide (i.2.1+i.2.2 < i.1))) fun _=>[]
theorem Lw (P:bG):bL P Tf Ov:=by
 intro args H K hc;obtain⟨⟨d,f,n⟩,rfl,rfl,hp,hK⟩:=hc;refine⟨cW,?_⟩;dsimp only at hp hK⊢;obtain⟨h1,h2,h3⟩:=hp
 try dsimp only at h1 h2 h3
 subst h1;cbv;repeat'((first|refine .n fun h=>?_|refine .y fun h=>?_|refine .mk (fun h=>?_) fun h=>?_|refine .k fun z hz=>?_|fail)<;>cbv)
 ·(refine .q9 ?_;cbv;exact .inl (.f9 (mT hK (by simp;omega))))
 ·(refine .q9 ?_;cbv;exact .inl (.f9 (mT hK (by simp;omega))))
def pQ (t v:bF):Int:=if v=t then 0 else 3
def OV:cQ:=spec (fun i:bF×bF=>[.str i.1,.rp [.str i.2] 0]) (fun _=>[]) (fun _=>True) (fun i=>.i (pQ i.2 i.1)) fun _=>[]
theorem Jt (P:bG):bL P TC OV:=by
 intro args H K hc;obtain⟨⟨v,t⟩,rfl,rfl,hp,hK⟩:=hc;refine⟨cW,?_⟩;dsimp only at hp hK⊢;unfold pQ at hK;cbv;repeat'((first|refine .mk (fun h=>?_) fun h=>?_|fail)<;>cbv)
 ·rw[aF (by assumption)]at hK
  (refine .q9 ?_;cbv;exact .inl (.f9 hK))
 ·rw[aE (by assumption)]at hK
  (refine .q9 ?_;cbv;exact .inl (.f9 hK))
def OD:cQ:=spec (fun t:bF=>[.str t]) (fun _=>[]) (fun _=>True) (fun t=>.clo 176 [.rp [.str t] 0]) fun _=>[]
theorem KV (P:bG):bL P T3 OD:=by
 intro args H K hc;obtain⟨t,rfl,rfl,hp,hK⟩:=hc;refine⟨cW,?_⟩;dsimp only at hp hK⊢;cbv
 (refine .r9 (Gh.pubB 0 rfl) ?_;cbv;exact .inl (.f9 hK))
def eT (fs:List Fl) (name:bF) (w:bF→Int):Int:=if dT fs name=true then w (HA fs name) else 1
def HN (F:List Fa) (at_:Nat) (kind:Int) (name:bF) (why:Int):List Fa:=if why=0 then F else eD F ⟨at_,kind,name,why⟩
structure RK where
 x:Xm
 at_:Nat
 d:Dc
 name:bF
 t:bF
structure Tv (i:RK):Prop where
 d:i.x.docs[i.at_]?=some i.d
 l:i.d.fields.length≤1048576
 v:(HA i.d.fields i.name).size≤281474976710656
 F:i.x.F.length≤1000000
def oA (x:Xm) (F:List Fa):Xm:=⟨x.c,x.docs,x.day,F⟩
def J1:cQ:=spec (fun i:RK=>[.ptr 0 0,.i (nI i.at_),.str i.name,.clo 176 [.rp [.str i.t] 0]]) (fun i=>Ew i.x) Tv (fun _=>.tup []) fun i=>Ew (oA i.x (HN i.x.F i.at_ i.d.kind i.name (eT i.d.fields i.name (pQ i.t))))
theorem GQ (P:bG) (hg:bH P 40 vU) (m1:cL P 176) (hw:bH P 176 OV) (m2:cL P 33) (ht:bH P 33 tZ):bL P Rz J1:=by
 intro args H K hc;obtain⟨⟨⟨⟨number,applicant,beneficiary,issuer,confirmer,frm,to,cur,amt,above,below,latest,expiry,within,tenor,partial_,change,needs⟩,docs,day,F⟩,at_,⟨dk,dn,ds,dl⟩,name,t⟩,rfl,rfl,hp,hK⟩:=hc;refine⟨cW,?_⟩;dsimp only at hp hK⊢;obtain⟨hd,hl,hv,hF⟩:=hp
 try dsimp only at hd hl hv hF
 have hat:at_ < docs.length:=(aA.1 hd).1;unfold eT HN oA at hK;dsimp only at hK;obtain⟨b,hb⟩:∃b,b=dT dl name:=⟨_,rfl⟩
 obtain⟨v,hv1⟩:∃b,b=HA dl name:=⟨_,rfl⟩
 obtain⟨w,hw1⟩:∃b,b=pQ t v:=⟨_,rfl⟩
 rw[←hb,←hv1,←hw1]at hK;cases b
 ·rw[show (if false=true then w else (1:Int))=1 from rfl,aE (show ¬(1:Int)=0 by decide)]at hK;obtain⟨F2,hF2⟩:∃F2,F2=eD F ⟨at_,dk,name,1⟩:=⟨_,rfl⟩
  rw[←hF2]at hK;cbv;repeat'((first|refine .e ?_|fail)<;>cbv)
  (refine hP hg ((dl,name):List Fl×bF) hl ?_;try dsimp only)
  rw[←hb,←hv1];cbv;repeat'((first|refine .n fun h=>?_|refine And.intro ?_ ?_|fail)<;>cbv)
  ·exact m2
  (refine jR ht ((⟨⟨number,applicant,beneficiary,issuer,confirmer,frm,to,cur,amt,above,below,latest,expiry,within,tenor,partial_,change,needs⟩,docs,day,F⟩,⟨at_,dk,name,1⟩):Xm×Fa) [0,1,2,3,4] hF ?_;try dsimp only)
  rw[←hF2];cbv
  (refine .q9 ?_;cbv;exact .inl (.f9 hK))
 ·rw[show (if true=true then w else (1:Int))=w from rfl]at hK;cbv;repeat'((first|refine .e ?_|fail)<;>cbv)
  (refine hP hg ((dl,name):List Fl×bF) hl ?_;try dsimp only)
  rw[←hb,←hv1];cbv;repeat'((first|refine And.intro ?_ ?_|fail)<;>cbv)
  ·exact m1
  (refine hP hw ((v,t):bF×bF) trivial ?_;try dsimp only)
  rw[←hw1];by_cases h0:w=0
  ·rw[aF h0]at hK;subst h0;cbv;repeat'((first|refine .y fun h=>?_|fail)<;>cbv)
   (refine .q9 ?_;cbv;exact .inl (.f9 hK))
  ·rw[aE h0]at hK;obtain⟨F2,hF2⟩:∃F2,F2=eD F ⟨at_,dk,name,w⟩:=⟨_,rfl⟩
   rw[←hF2]at hK;cbv;repeat'((first|refine .n fun h=>?_|refine And.intro ?_ ?_|fail)<;>cbv)
   ·exact m2
   (refine jR ht ((⟨⟨number,applicant,beneficiary,issuer,confirmer,frm,to,cur,amt,above,below,latest,expiry,within,tenor,partial_,change,needs⟩,docs,day,F⟩,⟨at_,dk,name,w⟩):Xm×Fa) [0,1,2,3,4] hF ?_;try dsimp only)
   rw[←hF2];cbv
   (refine .q9 ?_;cbv;exact .inl (.f9 hK))
def R9 (x:Xm):List cC:=Ew x++[.blk 92 [.ptr 0 0]]
structure Sn where
 x:Xm
 v:bF
structure U2 (i:Sn):Prop where
 c:vC i.x.c
 v:i.v.size≤281474976710656
 day:0≤i.x.day∧i.x.day≤1048576
def KA (f:Nat) (w:Xm→bF→Int):cQ:=spec (fun i:Sn=>[.str i.v,.ptr 5 0]) (fun i=>R9 i.x) U2 (fun i=>.i (w i.x i.v)) fun i=>R9 i.x
def mF (x:Xm) (v:bF):Int:=if lO v=true then (if x.c.amt < iU v then 5 else if iU v < x.c.amt then 6 else 0) else 2
def nV (x:Xm) (v:bF):Int:=if lO v=true then (if x.c.latest < iU v∨iU v+21 < x.day then 4 else 0) else 2
theorem GD (P:bG) (hn:bH P 41 HY) (hm:bH P 179 rR) (hl:bH P 180 rR):bL P Sy (KA 178 mF):=by
 intro args H K hc;obtain⟨⟨⟨⟨number,applicant,beneficiary,issuer,confirmer,frm,to,cur,amt,above,below,latest,expiry,within,tenor,partial_,change,needs⟩,docs,day,F⟩,v⟩,rfl,rfl,hp,hK⟩:=hc;refine⟨cW,?_⟩;dsimp only at hp hK⊢;obtain⟨hc,hv,hdy⟩:=hp
 try dsimp only at hc hv hdy
 unfold mF at hK;dsimp only at hK;obtain⟨nb,hnb⟩:∃b,b=lO v:=⟨_,rfl⟩
 obtain⟨nv,hnv⟩:∃b,b=iU v:=⟨_,rfl⟩
 rw[←hnb,←hnv]at hK;cbv
 (refine hP hn v hv ?_;try dsimp only)
 rw[←hnb,←hnv];cases nb
 ·rw[aE (show ¬(false=true) by decide)]at hK;cbv
  (refine .q9 ?_;cbv;exact .inl (.f9 hK))
 ·rw[aF rfl]at hK;cbv
  (refine hP hm (⟨number,applicant,beneficiary,issuer,confirmer,frm,to,cur,amt,above,below,latest,expiry,within,tenor,partial_,change,needs⟩:Cr) hc ?_;try dsimp only)
  cbv;repeat'((first|refine .y fun h=>?_|refine .mk (fun h=>?_) fun h=>?_|fail)<;>cbv)
  ·rw[aF (by assumption)]at hK
   (refine .q9 ?_;cbv;exact .inl (.f9 hK))
  ·rw[aE (by omega)]at hK
   (refine hP hl (⟨number,applicant,beneficiary,issuer,confirmer,frm,to,cur,amt,above,below,latest,expiry,within,tenor,partial_,change,needs⟩:Cr) hc ?_;try dsimp only)
   cbv;repeat'((first|refine .y fun h=>?_|refine .mk (fun h=>?_) fun h=>?_|fail)<;>cbv)
   ·rw[aF (by assumption)]at hK
    (refine .q9 ?_;cbv;exact .inl (.f9 hK))
   ·rw[aE (by omega)]at hK
    (refine .q9 ?_;cbv;exact .inl (.f9 hK))
theorem Ii (P:bG) (hn:bH P 41 HY) (hb:bH P 182 Ov):bL P TU (KA 181 nV):=by
 intro args H K hc;obtain⟨⟨⟨⟨number,applicant,beneficiary,issuer,confirmer,frm,to,cur,amt,above,below,latest,expiry,within,tenor,partial_,change,needs⟩,docs,day,F⟩,v⟩,rfl,rfl,hp,hK⟩:=hc;refine⟨cW,?_⟩;dsimp only at hp hK⊢;obtain⟨hc,hv,hdy⟩:=hp
 try dsimp only at hc hv hdy
 have hw:=hc.within;have hl2:=hc.latest;dsimp only at hw hl2;subst hw;unfold nV at hK;dsimp only at hK;have hin:=zZ v;obtain⟨nb,hnb⟩:∃b,b=lO v:=⟨_,rfl⟩
 obtain⟨nv,hnv⟩:∃b,b=iU v:=⟨_,rfl⟩
 rw[←hnb,←hnv]at hK;rw[←hnv]at hin;cbv
 (refine hP hn v hv ?_;try dsimp only)
 rw[←hnb,←hnv];cases nb
 ·rw[aE (show ¬(false=true) by decide)]at hK;cbv
  (refine .q9 ?_;cbv;exact .inl (.f9 hK))
 ·rw[aF rfl]at hK;cbv;repeat'((first|refine .mk (fun h=>?_) fun h=>?_|fail)<;>cbv)
  ·rw[aF (.inl (by assumption))]at hK
   (refine .q9 ?_;cbv;exact .inl (.f9 hK))
  ·(refine hP hb ((day,nv,21):Int×Int×Int) ⟨rfl,by(try dsimp only);omega,by(try dsimp only);omega⟩ ?_;try dsimp only)
   by_cases h5:nv+21 < day
   ·rw[aH h5];rw[aF (.inr h5)]at hK;cbv
    (refine .q9 ?_;cbv;exact .inl (.f9 hK))
   ·rw[aG h5];rw[aE (by omega)]at hK;cbv
    (refine .q9 ?_;cbv;exact .inl (.f9 hK))
structure Sg where
 x:Xm
 at_:Nat
 d:Dc
 name:bF
structure SU (i:Sg):Prop where
 d:i.x.docs[i.at_]?=some i.d
 l:i.d.fields.length≤1048576
 v:(HA i.d.fields i.name).size≤281474976710656
 F:i.x.F.length≤1000000
 c:vC i.x.c
 day:0≤i.x.day∧i.x.day≤1048576
def BK (f:Nat) (w:Xm→bF→Int):cQ:=spec (fun i:Sg=>[.ptr 0 0,.i (nI i.at_),.str i.name,.clo f [.ptr 5 0]]) (fun i=>R9 i.x) SU (fun _=>.tup []) fun i=>R9 (oA i.x (HN i.x.F i.at_ i.d.kind i.name (eT i.d.fields i.name (w i.x))))
theorem wO (P:bG) (f:Nat) (w:Xm→bF→Int) (hg:bH P 40 vU) (m1:cL P f) (hw:bH P f (KA f w)) (m2:cL P 33) (ht:bH P 33 tZ):bL P Rz (BK f w):=by
 intro args H K hc;obtain⟨⟨⟨⟨number,applicant,beneficiary,issuer,confirmer,frm,to,cur,amt,above,below,latest,expiry,within,tenor,partial_,change,needs⟩,docs,day,F⟩,at_,⟨dk,dn,ds,dl⟩,name⟩,rfl,rfl,hp,hK⟩:=hc;refine⟨cW,?_⟩;dsimp only at hp hK⊢;obtain⟨hd,hl,hv,hF,hc,hdy⟩:=hp
 try dsimp only at hd hl hv hF hc hdy
 have hat:at_ < docs.length:=(aA.1 hd).1;unfold eT HN oA at hK;dsimp only at hK;obtain⟨b,hb⟩:∃b,b=dT dl name:=⟨_,rfl⟩
 obtain⟨v,hv1⟩:∃b,b=HA dl name:=⟨_,rfl⟩
 obtain⟨wv,hw1⟩:∃b,b=w ⟨⟨number,applicant,beneficiary,issuer,confirmer,frm,to,cur,amt,above,below,latest,expiry,within,tenor,partial_,change,needs⟩,docs,day,F⟩ v:=⟨_,rfl⟩
 rw[←hb,←hv1,←hw1]at hK;rw[←hv1]at hv;cases b
 ·rw[show (if false=true then wv else (1:Int))=1 from rfl,aE (show ¬(1:Int)=0 by decide)]at hK;obtain⟨F2,hF2⟩:∃F2,F2=eD F ⟨at_,dk,name,1⟩:=⟨_,rfl⟩
  rw[←hF2]at hK;cbv;repeat'((first|refine .e ?_|fail)<;>cbv)
  (refine hP hg ((dl,name):List Fl×bF) hl ?_;try dsimp only)
  rw[←hb,←hv1];cbv;repeat'((first|refine .n fun h=>?_|refine And.intro ?_ ?_|fail)<;>cbv)
  ·exact m2
  (refine jR ht ((⟨⟨number,applicant,beneficiary,issuer,confirmer,frm,to,cur,amt,above,below,latest,expiry,within,tenor,partial_,change,needs⟩,docs,day,F⟩,⟨at_,dk,name,1⟩):Xm×Fa) [0,1,2,3,4] hF ?_;try dsimp only)
  rw[←hF2];cbv
  (refine .q9 ?_;cbv;exact .inl (.f9 hK))
 ·rw[show (if true=true then wv else (1:Int))=wv from rfl]at hK;cbv;repeat'((first|refine .e ?_|fail)<;>cbv)
  (refine hP hg ((dl,name):List Fl×bF) hl ?_;try dsimp only)
  rw[←hb,←hv1];cbv;repeat'((first|refine And.intro ?_ ?_|fail)<;>cbv)
  ·exact m1
  (refine jR hw (⟨⟨⟨number,applicant,beneficiary,issuer,confirmer,frm,to,cur,amt,above,below,latest,expiry,within,tenor,partial_,change,needs⟩,docs,day,F⟩,v⟩:Sn) [0,1,2,3,4,5] ⟨hc,hv,hdy⟩ ?_;try dsimp only)
  rw[←hw1];by_cases h0:wv=0
  ·rw[aF h0]at hK;subst h0;cbv;repeat'((first|refine .y fun h=>?_|fail)<;>cbv)
   (refine .q9 ?_;cbv;exact .inl (.f9 hK))
  ·rw[aE h0]at hK;obtain⟨F2,hF2⟩:∃F2,F2=eD F ⟨at_,dk,name,wv⟩:=⟨_,rfl⟩
   rw[←hF2]at hK;cbv;repeat'((first|refine .n fun h=>?_|refine And.intro ?_ ?_|fail)<;>cbv)
   ·exact m2
   (refine jR ht ((⟨⟨number,applicant,beneficiary,issuer,confirmer,frm,to,cur,amt,above,below,latest,expiry,within,tenor,partial_,change,needs⟩,docs,day,F⟩,⟨at_,dk,name,wv⟩):Xm×Fa) [0,1,2,3,4] hF ?_;try dsimp only)
   rw[←hF2];cbv
   (refine .q9 ?_;cbv;exact .inl (.f9 hK))
structure gL where
 x:Xm
 at_:Nat
 d:Dc
structure NC (i:gL):Prop where
 d:i.x.docs[i.at_]?=some i.d
 l:i.d.fields.length≤1048576
 v:∀n,(HA i.d.fields n).size≤281474976710656
 F:i.x.F.length≤900000
 c:vC i.x.c
 day:0≤i.x.day∧i.x.day≤1048576
def Hq (i:gL) (F:List Fa):List Fa:=HN F i.at_ i.d.kind dU (eT i.d.fields dU (nV i.x))
def yA:cQ:=spec (fun i:gL=>[.ptr 0 0,.i (nI i.at_)]) (fun i=>Ew i.x) NC (fun _=>.tup []) fun i=>Ew (oA i.x (Hq i i.x.F))
theorem Av (P:bG) (ha:bH P 177 (BK 181 nV)):bL P UN yA:=by
 intro args H K hc;obtain⟨⟨⟨⟨number,applicant,beneficiary,issuer,confirmer,frm,to,cur,amt,above,below,latest,expiry,within,tenor,partial_,change,needs⟩,docs,day,F⟩,at_,⟨dk,dn,ds,dl⟩⟩,rfl,rfl,hp,hK⟩:=hc;refine⟨cW,?_⟩;dsimp only at hp hK⊢;obtain⟨hd,hl,hv,hF,hc,hdy⟩:=hp
 try dsimp only at hd hl hv hF hc hdy
 unfold Hq oA at hK;dsimp only at hK;obtain⟨F2,hF2⟩:∃F2,F2=HN F at_ dk dU (eT dl dU (nV ⟨⟨number,applicant,beneficiary,issuer,confirmer,frm,to,cur,amt,above,below,latest,expiry,within,tenor,partial_,change,needs⟩,docs,day,F⟩)):=⟨_,rfl⟩
 rw[←hF2]at hK;cbv;refine cU ha (⟨⟨⟨number,applicant,beneficiary,issuer,confirmer,frm,to,cur,amt,above,below,latest,expiry,within,tenor,partial_,change,needs⟩,docs,day,F⟩,at_,⟨dk,dn,ds,dl⟩,dU⟩:Sg) [0,1,2,3,4,5] ⟨hd,hl,hv dU,by(try dsimp only);omega,hc,hdy⟩ rfl rfl (by decide) rfl rfl rfl rfl rfl ?_;unfold oA
 try dsimp only
 rw[←hF2];cbv
 (refine .q9 ?_;cbv;exact .inl (.f9 hK))
theorem fW (F:List Fa) (at_:Nat) (kind:Int) (name:bF) (why:Int):(HN F at_ kind name why).length≤F.length+1:=by
 unfold HN
 split
 ·omega
 ·unfold eD
  split
  ·omega
  ·rw[aM];exact aN _
def Dh (i:gL) (F:List Fa):List Fa:=HN F i.at_ i.d.kind bU (eT i.d.fields bU (pQ i.x.c.beneficiary))
def Ek (i:gL) (F:List Fa):List Fa:=HN F i.at_ i.d.kind dH (eT i.d.fields dH (pQ i.x.c.applicant))
def C0 (i:gL) (F:List Fa):List Fa:=HN F i.at_ i.d.kind eE (eT i.d.fields eE (pQ i.x.c.cur))
def Du (i:gL) (F:List Fa):List Fa:=HN F i.at_ i.d.kind eW (eT i.d.fields eW (mF i.x))
def qI:cQ:=spec (fun i:gL=>[.ptr 0 0,.i (nI i.at_)]) (fun i=>Ew i.x) NC (fun _=>.tup []) fun i=>Ew (oA i.x (Du i (C0 i (Ek i (Dh i i.x.F)))))
theorem wF (P:bG) (m1:cL P 175) (hi:bH P 175 OD) (hk:bH P 177 J1) (ha:bH P 177 (BK 178 mF)):bL P UD qI:=by
 intro args H K hc;obtain⟨⟨⟨⟨number,applicant,beneficiary,issuer,confirmer,frm,to,cur,amt,above,below,latest,expiry,within,tenor,partial_,change,needs⟩,docs,day,F⟩,at_,⟨dk,dn,ds,dl⟩⟩,rfl,rfl,hp,hK⟩:=hc;refine⟨cW,?_⟩;dsimp only at hp hK⊢;obtain⟨hd,hl,hv,hF,hc,hdy⟩:=hp
 try dsimp only at hd hl hv hF hc hdy
 unfold Dh Ek C0 Du oA at hK;dsimp only at hK;obtain⟨F1,hF1⟩:∃F1,F1=HN F at_ dk bU (eT dl bU (pQ beneficiary)):=⟨_,rfl⟩
 rw[←hF1]at hK;obtain⟨F2,hF2⟩:∃F2,F2=HN F1 at_ dk dH (eT dl dH (pQ applicant)):=⟨_,rfl⟩
 rw[←hF2]at hK;obtain⟨F3,hF3⟩:∃F3,F3=HN F2 at_ dk eE (eT dl eE (pQ cur)):=⟨_,rfl⟩
 rw[←hF3]at hK;obtain⟨F4,hF4⟩:∃F4,F4=HN F3 at_ dk eW (eT dl eW (mF ⟨⟨number,applicant,beneficiary,issuer,confirmer,frm,to,cur,amt,above,below,latest,expiry,within,tenor,partial_,change,needs⟩,docs,day,F⟩)):=⟨_,rfl⟩
 rw[←hF4]at hK;have l1:F1.length≤900001:=by have:=fW F at_ dk bU (eT dl bU (pQ beneficiary));rw[←hF1]at this;omega
 have l2:F2.length≤900002:=by have:=fW F1 at_ dk dH (eT dl dH (pQ applicant));rw[←hF2]at this;omega
 have l3:F3.length≤900003:=by have:=fW F2 at_ dk eE (eT dl eE (pQ cur));rw[←hF3]at this;omega
 cbv;repeat'((first|refine And.intro ?_ ?_|fail)<;>cbv)
 ·exact m1
 (refine hP hi beneficiary trivial ?_;try dsimp only)
 cbv;refine cU hk (⟨⟨⟨number,applicant,beneficiary,issuer,confirmer,frm,to,cur,amt,above,below,latest,expiry,within,tenor,partial_,change,needs⟩,docs,day,F⟩,at_,⟨dk,dn,ds,dl⟩,bU,beneficiary⟩:RK) [0,1,2,3,4] ⟨hd,hl,hv bU,by(try dsimp only);omega⟩ rfl rfl (by decide) rfl rfl rfl rfl rfl ?_;unfold oA
 try dsimp only
 rw[←hF1];cbv;repeat'((first|refine And.intro ?_ ?_|fail)<;>cbv)
 ·exact m1
 (refine hP hi applicant trivial ?_;try dsimp only)
 cbv;refine cU hk (⟨⟨⟨number,applicant,beneficiary,issuer,confirmer,frm,to,cur,amt,above,below,latest,expiry,within,tenor,partial_,change,needs⟩,docs,day,F1⟩,at_,⟨dk,dn,ds,dl⟩,dH,applicant⟩:RK) [0,1,2,3,4] ⟨hd,hl,hv dH,by(try dsimp only);omega⟩ rfl rfl (by decide) rfl rfl rfl rfl rfl ?_;unfold oA
 try dsimp only
 rw[←hF2];cbv;repeat'((first|refine And.intro ?_ ?_|fail)<;>cbv)
 ·exact m1
 (refine hP hi cur trivial ?_;try dsimp only)
 cbv;refine cU hk (⟨⟨⟨number,applicant,beneficiary,issuer,confirmer,frm,to,cur,amt,above,below,latest,expiry,within,tenor,partial_,change,needs⟩,docs,day,F2⟩,at_,⟨dk,dn,ds,dl⟩,eE,cur⟩:RK) [0,1,2,3,4] ⟨hd,hl,hv eE,by(try dsimp only);omega⟩ rfl rfl (by decide) rfl rfl rfl rfl rfl ?_;unfold oA
 try dsimp only
 rw[←hF3];cbv;refine cU ha (⟨⟨⟨number,applicant,beneficiary,issuer,confirmer,frm,to,cur,amt,above,below,latest,expiry,within,tenor,partial_,change,needs⟩,docs,day,F3⟩,at_,⟨dk,dn,ds,dl⟩,eW⟩:Sg) [0,1,2,3,4,5] ⟨hd,hl,hv eW,by(try dsimp only);omega,hc,hdy⟩ rfl rfl (by decide) rfl rfl rfl rfl rfl ?_;unfold oA
 try dsimp only
 rw[show mF ⟨⟨number,applicant,beneficiary,issuer,confirmer,frm,to,cur,amt,above,below,latest,expiry,within,tenor,partial_,change,needs⟩,docs,day,F3⟩=mF ⟨⟨number,applicant,beneficiary,issuer,confirmer,frm,to,cur,amt,above,below,latest,expiry,within,tenor,partial_,change,needs⟩,docs,day,F⟩ from rfl,←hF4];cbv
 (refine .q9 ?_;cbv;exact .inl (.f9 hK))
def QB (x:Xm) (at_:Nat) (kind:Int):List cC:=Ew x++[.blk 92 [.ptr 0 0],.blk 3 [.i (nI at_)],.blk 3 [.i kind]]
structure QF (i:gL) (n:Nd):Prop where
 n:dG n
 d:i.x.docs[i.at_]?=some i.d
 l:i.d.fields.length≤1048576
 v:∀n,(HA i.d.fields n).size≤281474976710656
 F:i.x.F.length≤980000
def jA (i:gL) (n:Nd) (F:List Fa):List Fa:=HN F i.at_ i.d.kind n.field (cD i.d.fields n)
def Jq:cQ:=spec (fun i:gL×Nd=>[jW i.2,.ptr 5 0,.ptr 6 0,.ptr 7 0]) (fun i=>QB i.1.x i.1.at_ i.1.d.kind) (fun i=>QF i.1 i.2) (fun _=>.tup []) fun i=>QB (oA i.1.x (jA i.1 i.2 i.1.x.F)) i.1.at_ i.1.d.kind
theorem Hc (P:bG) (hh:bH P 95 uF) (hi:bH P 96 DN) (m2:cL P 33) (ht:bH P 33 tZ):bL P Vd Jq:=by
 intro args H K hc;obtain⟨⟨⟨⟨⟨number,applicant,beneficiary,issuer,confirmer,frm,to,cur,amt,above,below,latest,expiry,within,tenor,partial_,change,needs⟩,docs,day,F⟩,at_,⟨dk,dn,ds,dl⟩⟩,⟨kind,field,text,num⟩⟩,rfl,rfl,hp,hK⟩:=hc;refine⟨cW,?_⟩;dsimp only at hp hK⊢;obtain⟨hn,hd,hl,hv,hF⟩:=hp
 try dsimp only at hn hd hl hv hF
 have hn2:=hn;unfold dG at hn;dsimp only at hn;unfold jA HN oA at hK;dsimp only at hK;obtain⟨s,hs⟩:∃s,s=cD dl ⟨kind,field,text,num⟩:=⟨_,rfl⟩
 obtain⟨F2,hF2⟩:∃F2,F2=eD F ⟨at_,dk,field,s⟩:=⟨_,rfl⟩
 rw[←hs,←hF2]at hK;have h7:kind≠7:=by omega
 cbv
 (refine hP hh (⟨⟨kind,field,text,num⟩,docs,at_,⟨dk,dn,ds,dl⟩⟩:Qy) ⟨hn2,hd,hl,hv field⟩ ?_;try dsimp only)
 try dsimp only
 rw[←hs];cbv
 (refine hP hi (⟨kind,field,text,num⟩:Nd) hn2 ?_;try dsimp only)
 cbv;repeat'((first|refine .n fun h=>?_|refine .mk (fun h=>?_) fun h=>?_|refine And.intro ?_ ?_|fail)<;>cbv)
 ·rw[aF (by omega)]at hK
  (refine .q9 ?_;cbv;exact .inl (.f9 hK))
 ·exact m2
 ·rw[aE (by omega)]at hK
  (refine jR ht ((⟨⟨number,applicant,beneficiary,issuer,confirmer,frm,to,cur,amt,above,below,latest,expiry,within,tenor,partial_,change,needs⟩,docs,day,F⟩,⟨at_,dk,field,s⟩):Xm×Fa) [0,1,2,3,4] (show F.length≤1000000 by omega) ?_;try dsimp only)
  rw[←hF2];cbv
  (refine .q9 ?_;cbv;exact .inl (.f9 hK))
end Go.Proofs.YtooioahiijbomaaGreatDoor
end
