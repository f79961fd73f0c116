/-
  Texts of this proof, joined: X, RA, Y, RB, RC, RD, VN, RE, RF, RG.
-/
import Derived.Test.YtigdiekbiphhmaaGreatDoorB3
import Derived.IntWalk
import Derived.KernelRfl
set_option linter.unusedVariables false
set_option linter.unusedSimpArgs false
noncomputable section
namespace Go.Proofs.YtigdiekbiphhmaaGreatDoor
open Go.RowKit
def zs (d : Nat) (o : XOp) : XStep := ⟨some d, none, o⟩
def zm (d a : Nat) : XStep := ⟨some d, none, .mov (.t a)⟩
def zf (d f a : Nat) : XStep := ⟨some d, none, .fad f (.t a)⟩
def zl (d a : Nat) : XStep := ⟨some d, none, .ld false 1 (.t a)⟩
def zg (d g : Nat) (b : Bool) (o : XOp) : XStep := ⟨some d, some (g, b), o⟩
def zh (d g : Nat) (b : Bool) (a : Nat) : XStep := ⟨some d, some (g, b), .mov (.t a)⟩
def zn (o : XOp) : XStep := ⟨none, none, o⟩
def yl (d a : Nat) : XStep := zs d (.lenl (.t a))
def yz (d a : Nat) : XStep := zs d (.lens (.t a))
def yi (d n a b : Nat) : XStep := zs d (.iad n (.t a) (.t b))
def yt (d n a : Nat) : XStep := zs d (.ld true n (.t a))
def yc (d : Nat) (o : BinOp) (a b : Nat) : XStep := zs d (.cmp o (.t a) (.t b))
def yk (d : Nat) (o : BinOp) (a : Nat) (n : Int) : XStep := zs d (.cmp o (.t a) (.c (.int .i64 n)))
def yn (d : Nat) (n : Int) : XStep := zs d (.mov (.c (.int .i64 n)))
def yb (d : Nat) (b : Bool) : XStep := zs d (.mov (.c (.bl b)))
def yp (d a : Nat) : XStep := zs d (.ari .add .i64 (.t a) (.c (.int .i64 1)))
def ya (d : Nat) (o : BinOp) (k : IntKind) (a b : Nat) : XStep := zs d (.ari o k (.t a) (.t b))
def yq (d a : Nat) (b : Bool) (c : Nat) : XStep := zs d (.pick (.t a) (.c (.bl b)) (.t c))
def yr (d a c : Nat) (b : Bool) : XStep := zs d (.pick (.t a) (.t c) (.c (.bl b)))
def yx (d a n : Nat) : XStep := zs d (.ext (.t a) n)
def yo (d a : Nat) : XStep := zs d (.not (.t a))
def ys (n a b : Nat) : XStep := zn (.st n (.t a) (.t b))
def gl (d g : Nat) (b : Bool) (a : Nat) : XStep := zg d g b (.ld false 1 (.t a))
def gf (d g : Nat) (b : Bool) (f a : Nat) : XStep := zg d g b (.fad f (.t a))
def ge (d g : Nat) (b : Bool) (a : Nat) : XStep := zg d g b (.lenl (.t a))
def gz (d g : Nat) (b : Bool) (a : Nat) : XStep := zg d g b (.lens (.t a))
def gc (d g : Nat) (b : Bool) (o : BinOp) (a c : Nat) : XStep := zg d g b (.cmp o (.t a) (.t c))
def gk (d g : Nat) (b : Bool) (o : BinOp) (a : Nat) (n : Int) : XStep := zg d g b (.cmp o (.t a) (.c (.int .i64 n)))
def go (d g : Nat) (b : Bool) (a : Nat) : XStep := zg d g b (.not (.t a))
def gi (d g : Nat) (b : Bool) (n a c : Nat) : XStep := zg d g b (.iad n (.t a) (.t c))
def zr (l : List XStep) (c : XCode) : XCode := .seq (.reg l) c
def x11 : XFn := ⟨83, zr [yb 0 false] (zr [zs 9 (.bld [.str ⟨#[]⟩, .str ⟨#[]⟩, .int .i64 0] [(0, (1, .c (.str ⟨#[115]⟩)))]), zs 10 (.bld [.str ⟨#[]⟩, .str ⟨#[]⟩, .int .i64 0] [(0, (1, .c (.str ⟨#[99]⟩)))]), zs 11 (.bsp 112 3 2 [.str ⟨#[]⟩, .str ⟨#[]⟩, .int .i64 0] [(0, .t 9), (1, .t 10)]), zs 12 (.bld [.str ⟨#[]⟩, .int .i64 0, .v (.slice none 0 0)] [(0, (1, .c (.str ⟨#[97, 97, 97, 97, 48, 48, 48, 48, 48, 49, 50, 48]⟩)))]), zs 13 (.bsp 115 3 1 [.str ⟨#[]⟩, .int .i64 0, .v (.slice none 0 0)] [(0, .t 12)]), zs 14 (.bld [.str ⟨#[]⟩, .str ⟨#[]⟩, .str ⟨#[]⟩, .str ⟨#[]⟩, .str ⟨#[]⟩, .str ⟨#[]⟩, .str ⟨#[]⟩, .str ⟨#[]⟩, .str ⟨#[]⟩, .str ⟨#[]⟩, .int .i64 0, .v (.slice none 0 0), .int .i64 0, .int .i64 0, .int .i64 0, .int .i64 0, .int .i64 0] [(0, (1, .c (.str ⟨#[100]⟩))), (1, (1, .c (.str ⟨#[115]⟩))), (2, (1, .c (.str ⟨#[121]⟩))), (3, (1, .c (.str ⟨#[99]⟩))), (7, (1, .c (.str ⟨#[102]⟩))), (8, (1, .c (.str ⟨#[116]⟩))), (11, (1, .t 13))]), zs 15 (.bsp 67 17 1 [.str ⟨#[]⟩, .str ⟨#[]⟩, .str ⟨#[]⟩, .str ⟨#[]⟩, .str ⟨#[]⟩, .str ⟨#[]⟩, .str ⟨#[]⟩, .str ⟨#[]⟩, .str ⟨#[]⟩, .str ⟨#[]⟩, .int .i64 0, .v (.slice none 0 0), .int .i64 0, .int .i64 0, .int .i64 0, .int .i64 0, .int .i64 0] [(0, .t 14)]), zs 16 (.bld [.v (.slice none 0 0), .v (.slice none 0 0), .v (.slice none 0 0), .v (.slice none 0 0), .v (.slice none 0 0)] [(0, (1, .t 11)), (1, (1, .t 15))]), zs 1 (.alloc 29 [.v (.slice none 0 0), .v (.slice none 0 0), .v (.slice none 0 0), .v (.slice none 0 0), .v (.slice none 0 0)]), ys 5 1 16] (zr [yt 17 5 1, zs 18 (.call 21 [.c (.str ⟨#[99]⟩), .t 17]), zm 2 18] (.seq (zr [zm 19 2, zs 20 (.cmn false (.t 19))] (.cond (.t 20) (zr [yb 0 false] .ret) .skip)) (zr [zm 21 2, zs 22 (.bld [.str ⟨#[]⟩, .str ⟨#[]⟩, .int .i64 0, .int .i64 0, .int .i64 0, .str ⟨#[]⟩, .str ⟨#[]⟩, .str ⟨#[]⟩, .int .i64 0, .int .i64 0, .str ⟨#[]⟩, .int .i64 0, .v (.slice none 0 0), .v (.slice none 0 0)] [(0, (1, .c (.str ⟨#[115]⟩))), (3, (1, .c (.int .i64 4))), (5, (1, .c (.str ⟨#[100]⟩)))]), zs 23 (.call 18 [.t 21, .t 22, .c (.int .i64 1)]), zm 3 23] (zr [zm 25 2, zs 26 (.bld [.int .i64 0, .int .i64 0, .str ⟨#[]⟩] [(0, (1, .c (.int .i64 5))), (2, (1, .c (.str ⟨#[100]⟩)))]), zs 27 (.call 23 [.t 25, .t 26, .c (.int .i64 2)]), zm 24 27, yx 28 24 0, yx 29 24 1, zm 4 28, zm 5 29] (zr [zm 31 2, zs 32 (.bld [.int .i64 0, .int .i64 0, .str ⟨#[]⟩] [(0, (1, .c (.int .i64 6))), (2, (1, .c (.str ⟨#[100]⟩)))]), zs 33 (.call 23 [.t 31, .t 32, .c (.int .i64 3)]), zm 30 33, yx 34 30 0, yx 35 30 1, zm 6 34, zm 7 35] (zr [zm 36 2, zs 37 (.bld [.str ⟨#[]⟩, .str ⟨#[]⟩, .int .i64 0, .int .i64 0, .int .i64 0, .str ⟨#[]⟩, .str ⟨#[]⟩, .str ⟨#[]⟩, .int .i64 0, .int .i64 0, .str ⟨#[]⟩, .int .i64 0, .v (.slice none 0 0), .v (.slice none 0 0)] [(0, (1, .c (.str ⟨#[115]⟩))), (3, (1, .c (.int .i64 20))), (5, (1, .c (.str ⟨#[100]⟩)))]), zs 38 (.call 18 [.t 36, .t 37, .c (.int .i64 4)]), zm 8 38] (zr [zm 39 3, yl 40 39, yk 41 .eql 40 0, zm 42 41, zh 43 42 true 4, ge 44 42 true 43, gk 45 42 true .eql 44 1, yr 46 42 45 false, zm 47 46, zh 48 47 true 5, gk 49 47 true .eql 48 0, yr 50 47 49 false, zm 51 50, zh 52 51 true 6, ge 53 51 true 52, gk 54 51 true .eql 53 1, yr 55 51 54 false, zm 56 55, zh 57 56 true 7, gk 58 56 true .eql 57 0, yr 59 56 58 false, zm 60 59, zh 61 60 true 8, ge 62 60 true 61, gk 63 60 true .eql 62 1, yr 64 60 63 false, zm 65 64, zh 66 65 true 8, zg 67 65 true (.iad 14 (.t 66) (.c (.int .i64 0))), gf 68 65 true 3 67, gl 69 65 true 68, gk 70 65 true .eql 69 21, yr 71 65 70 false, zm 72 71, zh 73 72 true 2, zg 74 72 true (.call 22 [.t 73]), ge 75 72 true 74, gk 76 72 true .eql 75 1, yr 77 72 76 false, zm 78 77, zh 79 78 true 2, zg 80 78 true (.call 30 [.t 79]), gk 81 78 true .eql 80 1, yr 82 78 81 false, zm 0 82] .ret)))))))), [.tmp 0]⟩
def x12 : XFn := ⟨146, zr [zs 3 (.box 29 (.t 0)), yb 6 false] (.seq (zr [zf 12 0 3, zl 13 12, yl 14 13, yk 15 .gtr 14 20, zm 16 15, gf 17 16 false 1 3, gl 18 16 false 17, ge 19 16 false 18, gk 20 16 false .gtr 19 8, yq 21 16 true 20, zm 22 21, zh 23 22 false 1, gz 24 22 false 23, gk 25 22 false .gtr 24 60, yq 26 22 true 25, zm 27 26, zh 28 27 false 2, ge 29 27 false 28, gk 30 27 false .gtr 29 40, yq 31 27 true 30] (.cond (.t 31) (zr [yb 6 false] .ret) .skip)) (.seq (zr [yn 7 0] (.block 0 (.loop (.seq (zr [zm 32 7, zf 33 0 3, zl 34 33, yl 35 34, yc 36 .lss 32 35] (.cond (.t 36) .skip (.exit 0))) (.seq (.block 1 (zr [zf 39 0 3, zl 40 39, zm 41 7, yi 42 3 40 41, zf 43 0 42, zl 44 43, yz 45 44, yk 46 .gtr 45 60] (.cond (.t 46) (zr [yb 6 false] .ret) .skip))) (.reg [zm 37 7, yp 38 37, zm 7 38])))))) (.seq (zr [yn 8 0] (.block 2 (.loop (.seq (zr [zm 47 8, zf 48 1 3, zl 49 48, yl 50 49, yc 51 .lss 47 50] (.cond (.t 51) .skip (.exit 2))) (.seq (.block 3 (zr [zf 54 1 3, zl 55 54, zm 56 8, yi 57 17 55 56, yt 58 17 57, zs 9 (.alloc 67 [.str ⟨#[]⟩, .str ⟨#[]⟩, .str ⟨#[]⟩, .str ⟨#[]⟩, .str ⟨#[]⟩, .str ⟨#[]⟩, .str ⟨#[]⟩, .str ⟨#[]⟩, .str ⟨#[]⟩, .str ⟨#[]⟩, .int .i64 0, .v (.slice none 0 0), .int .i64 0, .int .i64 0, .int .i64 0, .int .i64 0, .int .i64 0]), ys 17 9 58] (.seq (zr [zf 59 0 9, zl 60 59, yz 61 60, zf 62 1 9, zl 63 62, yz 64 63, ya 65 .add .i64 61 64, zf 66 2 9, zl 67 66, yz 68 67, ya 69 .add .i64 65 68, zf 70 3 9, zl 71 70, yz 72 71, ya 73 .add .i64 69 72, zf 74 5 9, zl 75 74, yz 76 75, ya 77 .add .i64 73 76, zf 78 7 9, zl 79 78, yz 80 79, ya 81 .add .i64 77 80, zf 82 8 9, zl 83 82, yz 84 83, ya 85 .add .i64 81 84, yk 86 .gtr 85 300, zm 87 86, gf 88 87 false 11 9, gl 89 87 false 88, ge 90 87 false 89, gk 91 87 false .gtr 90 70, yq 92 87 true 91] (.cond (.t 92) (zr [yb 6 false] .ret) .skip)) (zr [yn 10 0] (.block 4 (.loop (.seq (zr [zm 93 10, zf 94 11 9, zl 95 94, yl 96 95, yc 97 .lss 93 96] (.cond (.t 97) .skip (.exit 4))) (.seq (.block 5 (zr [zf 100 11 9, zl 101 100, zm 102 10, yi 103 3 101 102, zf 104 0 103, zl 105 104, yz 106 105, yk 107 .gtr 106 60] (.cond (.t 107) (zr [yb 6 false] .ret) .skip))) (.reg [zm 98 10, yp 99 98, zm 10 99]))))))))) (.reg [zm 52 8, yp 53 52, zm 8 53])))))) (.seq (zr [yn 11 0] (.block 6 (.loop (.seq (zr [zm 108 11, zm 109 2, yl 110 109, yc 111 .lss 108 110] (.cond (.t 111) .skip (.exit 6))) (.seq (.block 7 (.seq (.dreg (.take 0 (zm 114 2) (.take 1 (zm 115 11) (.take 2 (yi 116 19 114 115) (.take 3 (zf 117 2 116) (.take 4 (zf 118 2 117) (.take 5 (zl 119 118) (.take 6 (yz 120 119) (.take 7 (zm 121 2) (.take 8 (zm 122 11) (.take 9 (yi 123 19 121 122) (.take 10 (zf 124 5 123) (.take 11 (zf 125 0 124) (.take 12 (zl 126 125) (.take 13 (yz 127 126) (.take 14 (ya 128 .add .i64 120 127) (.take 15 (zm 129 2) (.take 16 (zm 130 11) (.take 17 (yi 131 19 129 130) (.take 18 (zf 132 5 131) (.take 19 (zf 133 5 132) (.take 20 (zl 134 133) (.take 21 (yz 135 134) (.take 22 (ya 136 .add .i64 128 135) (.take 23 (zm 137 2) (.take 24 (zm 138 11) (.take 25 (yi 139 19 137 138) (.take 26 (zf 140 5 139) (.take 27 (zf 141 7 140) (.take 28 (zl 142 141) (.take 29 (yz 143 142) (.take 30 (ya 144 .add .i64 136 143) (.take 31 (yk 145 .gtr 144 300) .nil)))))))))))))))))))))))))))))))) 0 [2]) (.cond (.t 145) (zr [yb 6 false] .ret) .skip))) (.reg [zm 112 11, yp 113 112, zm 11 113])))))) (zr [yb 6 true] .ret))))), [.tmp 6]⟩
def x15 : XFn := ⟨8, zr [zs 2 (.mov (.c (.v (.pointer none))))] (zr [zm 3 0, zs 4 (.nck (.t 3)), zf 5 3 4, zl 6 5, zs 7 (.call 47 [.t 6]), zm 2 7] .ret), [.tmp 2]⟩
def x18 : XFn := ⟨47, zr [zs 4 (.box 58 (.t 1)), zs 6 (.mov (.c (.v (.slice none 0 0))))] (.seq (.dreg (.take 0 (zm 11 0) (.take 1 (zs 12 (.nck (.t 11))) (.take 2 (zf 13 2 12) (.take 3 (zl 14 13) (.take 4 (zf 15 5 4) (.take 5 (zl 16 15) (.eff 6 0 false (zs 17 (.plk none true (.v (.pointer none)) (.t 14) (.t 16))) (.phase [3, 5] (.take 7 (zm 10 17) (.take 8 (yx 18 10 0) (.take 9 (yx 19 10 1) (.take 10 (zm 7 18) (.take 11 (zm 8 19) .nil))))))))))))) 0 [0, 4]) (.seq (.seq (.dreg (.take 0 (zm 20 8) (.take 1 (yo 21 20) (.take 2 (zm 22 21) (.take 3 (zh 23 22 false 0) (.take 4 (zg 24 22 false (.nck (.t 23))) (.take 5 (gf 25 22 false 1 24) (.take 6 (gl 26 22 false 25) (.take 7 (gf 27 22 false 0 4) (.take 8 (gl 28 22 false 27) (.take 9 (zg 29 22 false (.lkp none false (.bl false) (.t 26) (.t 28))) (.take 10 (go 30 22 false 29) (.take 11 (yq 31 22 true 30) .nil)))))))))))) 0 [0, 4]) (.cond (.t 31) (zr [zs 6 (.mov (.c (.v (.slice none 0 0))))] .ret) .skip)) (.seq (.dreg (.take 1 (zf 33 3 4) (.take 2 (zl 34 33) (.eff 0 0 true (zs 32 (.call 48 [])) (.phase [2, 3] (.phase [2, 3] (.take 3 (zs 35 (.lkp (some .i64) false (.v .nilFunc) (.t 32) (.t 34))) (.take 4 (zm 9 35) .nil))))))) 0 [4]) (.seq (zr [zm 36 9, zs 37 (.cmf false (.t 36))] (.cond (.t 37) (zr [zs 6 (.mov (.c (.v (.slice none 0 0))))] .ret) .skip)) (zr [zm 38 9, zm 39 0, zm 40 7, yt 41 14 4, zm 42 2, zs 43 (.cav (.t 38) [.t 39, .t 40, .t 41, .t 42]), zm 44 7, zm 45 2, zs 46 (.call 49 [.t 43, .t 44, .t 45]), zm 6 46] .ret))))), [.tmp 6]⟩
def x21 : XFn := ⟨106, zr [zs 3 (.box 29 (.t 1)), zs 4 (.mov (.c (.v (.pointer none))))] (zr [zm 15 0, zs 16 (.mkm 70), zs 17 (.mkp 116), zm 18 0, zs 19 (.call 50 [.t 18]), zs 20 (.call 51 []), zs 21 (.bld [.str ⟨#[]⟩, .v (.map none), .v (.map none), .v (.pointer none), .v (.pointer none), .v (.slice none 0 0)] [(0, (1, .t 15)), (1, (1, .t 16)), (2, (1, .t 17)), (3, (1, .t 19)), (4, (1, .t 20))]), zs 22 (.box 118 (.t 21)), zm 5 22] (.seq (zr [zf 23 0 3, zl 24 23, yl 25 24, yn 26 0] (.block 0 (.loop (zr [yc 27 .lss 26 25] (.seq (.cond (.t 27) .skip (.exit 0)) (.seq (.block 1 (zr [yi 28 3 24 26, yt 29 3 28, zs 7 (.alloc 112 [.str ⟨#[]⟩, .str ⟨#[]⟩, .int .i64 0]), ys 3 7 29] (.dreg (.take 0 (zm 30 5) (.take 1 (zs 31 (.nck (.t 30))) (.take 2 (zf 32 1 31) (.take 3 (zl 33 32) (.take 4 (zf 34 0 7) (.take 5 (zl 35 34) (.eff 6 0 false (zn (.upd none (.t 33) (.t 35) (.c (.bl true)))) (.phase [3, 5] .nil)))))))) 0 [5, 7]))) (.reg [yp 36 26, zm 26 36]))))))) (.seq (zr [zf 37 1 3, zl 38 37, yl 39 38, yn 40 0] (.block 2 (.loop (zr [yc 41 .lss 40 39] (.seq (.cond (.t 41) .skip (.exit 2)) (.seq (.block 3 (zr [yi 42 17 38 40, yt 43 17 42, zs 9 (.alloc 67 [.str ⟨#[]⟩, .str ⟨#[]⟩, .str ⟨#[]⟩, .str ⟨#[]⟩, .str ⟨#[]⟩, .str ⟨#[]⟩, .str ⟨#[]⟩, .str ⟨#[]⟩, .str ⟨#[]⟩, .str ⟨#[]⟩, .int .i64 0, .v (.slice none 0 0), .int .i64 0, .int .i64 0, .int .i64 0, .int .i64 0, .int .i64 0]), ys 17 9 43] (.seq (.seq (.dreg (.take 0 (zm 45 5) (.take 1 (zs 46 (.nck (.t 45))) (.take 2 (zf 47 2 46) (.take 3 (zl 48 47) (.take 4 (zf 49 0 9) (.take 5 (zl 50 49) (.eff 6 0 false (zs 51 (.plk none true (.v (.pointer none)) (.t 48) (.t 50))) (.phase [3, 5] (.take 7 (zm 44 51) (.take 8 (yx 52 44 0) (.take 9 (yx 53 44 1) (.take 10 (zm 10 52) (.take 11 (zm 11 53) .nil))))))))))))) 0 [5, 9]) (zr [zm 54 11, zm 55 54, gf 56 55 false 3 9, gl 57 55 false 56, zh 58 55 false 0, gc 59 55 false .neq 57 58, yq 60 55 true 59] (.cond (.t 60) (.exit 3) .skip))) (zr [zf 61 0 9, zl 62 61, zf 63 1 9, zl 64 63, zf 65 2 9, zl 66 65, zf 67 5 9, zl 68 67, zf 69 7 9, zl 70 69, zf 71 8 9, zl 72 71, zf 73 5 9, zl 74 73, zs 75 (.cmp .eql (.t 74) (.c (.str ⟨#[]⟩))), zs 76 (.bld [.str ⟨#[]⟩, .str ⟨#[]⟩, .str ⟨#[]⟩, .str ⟨#[]⟩, .str ⟨#[]⟩, .str ⟨#[]⟩, .v (.slice none 0 0), .int .i64 0, .bl false] [(0, (1, .t 62)), (1, (1, .t 64)), (2, (1, .t 66)), (3, (1, .t 68)), (4, (1, .t 70)), (5, (1, .t 72)), (8, (1, .t 75))]), zs 77 (.box 136 (.t 76)), zm 12 77] (.seq (zr [zf 78 11 9, zl 79 78, yl 80 79, yn 81 0] (.block 4 (.loop (zr [yc 82 .lss 81 80] (.seq (.cond (.t 82) .skip (.exit 4)) (.seq (.block 5 (zr [yi 83 3 79 81, yt 84 3 83, zs 14 (.alloc 115 [.str ⟨#[]⟩, .int .i64 0, .v (.slice none 0 0)]), ys 3 14 84] (.dreg (.take 0 (zm 85 12) (.take 1 (zm 86 12) (.take 2 (zs 87 (.nck (.t 86))) (.take 3 (zf 88 6 87) (.take 4 (zl 89 88) (.take 5 (zf 90 0 14) (.take 6 (zl 91 90) (.eff 7 0 true (zs 92 (.bsl 9 1 1 [.str ⟨#[]⟩] [(0, .t 91)])) (.eff 8 1 false (zs 93 (.app 56 56 9 1 16 (.t 89) (.t 92))) (.take 9 (zs 94 (.nck (.t 85))) (.take 10 (zf 95 6 94) (.eff 11 2 false (ys 1 95 93) (.phase [4, 6] .nil))))))))))))) 2 [12, 14]))) (.reg [yp 96 81, zm 81 96]))))))) (.dreg (.take 0 (zm 97 5) (.take 1 (zs 98 (.nck (.t 97))) (.take 2 (zf 99 2 98) (.take 3 (zl 100 99) (.take 4 (zf 101 0 9) (.take 5 (zl 102 101) (.take 6 (zm 103 12) (.eff 7 0 false (zn (.pup none (.t 100) (.t 102) (.t 103))) (.phase [3, 5] .nil))))))))) 0 [5, 9])))))) (.reg [yp 104 40, zm 40 104]))))))) (zr [zm 105 5, zm 4 105] .ret)))), [.tmp 4]⟩
def x22 : XFn := ⟨8, zr [zs 2 (.mov (.c (.v (.slice none 0 0))))] (zr [zm 3 0, zs 4 (.nck (.t 3)), zf 5 5 4, zl 6 5, zs 7 (.call 52 [.t 6]), zm 2 7] .ret), [.tmp 2]⟩
def x23 : XFn := ⟨57, zr [zs 4 (.box 52 (.t 1)), zs 6 (.mov (.c (.v (.slice none 0 0)))), yn 7 0] (.seq (.dreg (.take 1 (zf 15 0 4) (.take 2 (zl 16 15) (.fork (.eff 0 0 true (zs 14 (.call 53 [])) (.fork (.eff 3 0 true (zs 17 (.lkp (some .i64) true (.agg [.int .i64 0, .v .nilFunc]) (.t 14) (.t 16))) (.take 4 (zm 13 17) (.take 5 (yx 18 13 0) (.take 6 (yx 19 13 1) (.eff 7 0 true (zs 8 (.alloc 140 [.int .i64 0, .v .nilFunc])) (.eff 8 1 false (ys 2 8 18) (.take 9 (zm 9 19) .nil))))))) (.eff 7 0 true (zs 8 (.alloc 140 [.int .i64 0, .v .nilFunc])) (.phase [2, 3] (.take 3 (zs 17 (.lkp (some .i64) true (.agg [.int .i64 0, .v .nilFunc]) (.t 14) (.t 16))) (.take 4 (zm 13 17) (.take 5 (yx 18 13 0) (.take 6 (yx 19 13 1) (.eff 8 1 false (ys 2 8 18) (.take 9 (zm 9 19) .nil)))))))))) (.eff 7 0 true (zs 8 (.alloc 140 [.int .i64 0, .v .nilFunc])) (.eff 0 0 true (zs 14 (.call 53 [])) (.phase [2, 3] (.phase [2, 3] (.take 3 (zs 17 (.lkp (some .i64) true (.agg [.int .i64 0, .v .nilFunc]) (.t 14) (.t 16))) (.take 4 (zm 13 17) (.take 5 (yx 18 13 0) (.take 6 (yx 19 13 1) (.eff 8 1 false (ys 2 8 18) (.take 9 (zm 9 19) .nil))))))))))))) 1 [4]) (.seq (zr [zm 20 9, yo 21 20] (.cond (.t 21) (zr [zs 6 (.mov (.c (.v (.slice none 0 0)))), yn 7 1] .ret) .skip)) (.seq (.dreg (.take 0 (zm 23 0) (.take 1 (zs 24 (.nck (.t 23))) (.take 2 (zf 25 2 24) (.take 3 (zl 26 25) (.take 4 (zf 27 2 4) (.take 5 (zl 28 27) (.eff 6 0 false (zs 29 (.plk none true (.v (.pointer none)) (.t 26) (.t 28))) (.phase [3, 5] (.take 7 (zm 22 29) (.take 8 (yx 30 22 0) (.take 9 (yx 31 22 1) (.take 10 (zm 10 30) (.take 11 (zm 9 31) .nil))))))))))))) 0 [0, 4]) (.seq (zr [zm 32 9, yo 33 32] (.cond (.t 33) (zr [zs 6 (.mov (.c (.v (.slice none 0 0)))), yn 7 4] .ret) .skip)) (.seq (.seq (.dreg (.take 0 (zm 34 10) (.take 1 (zs 35 (.nck (.t 34))) (.take 2 (zf 36 7 35) (.take 3 (zl 37 36) (.take 4 (zf 38 0 8) (.take 5 (zl 39 38) (.take 6 (yc 40 .neq 37 39) .nil))))))) 0 [10, 8]) (.cond (.t 40) (zr [zs 6 (.mov (.c (.v (.slice none 0 0)))), yn 7 9] .ret) .skip)) (zr [zf 42 1 8, zl 43 42, zm 44 0, zm 45 10, zm 46 2, zs 47 (.cav (.t 43) [.t 44, .t 45, .t 46]), zm 41 47, yx 48 41 0, yx 49 41 1, zm 11 48, zm 12 49] (.seq (zr [zm 50 12, yk 51 .neq 50 0] (.cond (.t 51) (zr [zm 52 12, zs 6 (.mov (.c (.v (.slice none 0 0)))), zm 7 52] .ret) .skip)) (zr [zm 53 11, zm 54 10, zm 55 2, zs 56 (.call 49 [.t 53, .t 54, .t 55]), zm 6 56, yn 7 0] .ret)))))))), [.tmp 6, .tmp 7]⟩
def x24 : XFn := ⟨5, zr [zs 4 (.mov (.c (.v (.slice none 0 0))))] (zr [zs 4 (.mov (.c (.v (.slice none 0 0))))] .ret), [.tmp 4]⟩
def x25 : XFn := ⟨21, zr [zs 4 (.alloc 79 [.str ⟨#[]⟩, .str ⟨#[]⟩, .str ⟨#[]⟩, .str ⟨#[]⟩, .str ⟨#[]⟩, .v (.slice none 0 0), .v (.slice none 0 0), .int .i64 0, .bl false]), yb 5 false] (zr [zm 7 0, zs 8 (.nck (.t 7)), zf 9 1 8, zl 10 9, zm 11 1, zs 12 (.plk none false (.v (.pointer none)) (.t 10) (.t 11)), zm 6 12] (.seq (zr [zm 13 6, zs 14 (.cmn false (.t 13))] (.cond (.t 14) (zr [zs 15 (.bld [.str ⟨#[]⟩, .str ⟨#[]⟩, .str ⟨#[]⟩, .str ⟨#[]⟩, .str ⟨#[]⟩, .v (.slice none 0 0), .v (.slice none 0 0), .int .i64 0, .bl false] []), ys 9 4 15, yb 5 false] .ret) .skip)) (zr [zm 16 6, zs 17 (.nck (.t 16)), zf 18 0 17, yt 19 9 18, zs 20 (.call 54 [.t 19]), ys 9 4 20, yb 5 true] .ret))), [.cell 4 true 9, .tmp 5]⟩
def x26 : XFn := ⟨18, zr [yn 4 0] (zr [zm 6 0, zs 7 (.nck (.t 6)), zf 8 1 7, zl 9 8, zm 10 1, zs 11 (.plk none false (.v (.pointer none)) (.t 9) (.t 10)), zm 5 11] (.seq (zr [zm 12 5, zs 13 (.cmn false (.t 12))] (.cond (.t 13) (zr [yn 4 (-1)] .ret) .skip)) (zr [zm 14 5, zs 15 (.nck (.t 14)), zf 16 9 15, zl 17 16, zm 4 17] .ret))), [.tmp 4]⟩
def x30 : XFn := ⟨3, zr [yn 2 0] (zr [yn 2 1] .ret), [.tmp 2]⟩
def x43 : XFn := ⟨74, zr [zs 3 (.box 77 (.t 1)), yn 4 0] (.seq (zr [zf 8 0 3, zl 9 8, zf 10 1 3, zl 11 10, zf 12 2 3, zl 13 12, zf 14 3 3, zl 15 14, zs 16 (.bsl 9 1 4 [.str ⟨#[]⟩] [(0, .t 9), (1, .t 11), (2, .t 13), (3, .t 15)]), zs 17 (.call 74 [.t 16]), yo 18 17, zm 19 18, gf 20 19 false 1 3, gl 21 19 false 20, gf 22 19 false 2 3, gl 23 19 false 22, gc 24 19 false .eql 21 23, yq 25 19 true 24] (.cond (.t 25) (zr [yn 4 1] .ret) .skip)) (.seq (zr [zf 26 4 3, zl 27 26, zs 28 (.call 75 [.t 27]), yo 29 28] (.cond (.t 29) (zr [yn 4 3] .ret) .skip)) (.seq (.dreg (.take 0 (zm 31 0) (.take 1 (zs 32 (.nck (.t 31))) (.take 2 (zf 33 0 32) (.take 3 (zl 34 33) (.take 4 (zf 35 0 3) (.take 5 (zl 36 35) (.eff 6 0 false (zs 37 (.plk none true (.v (.slice none 0 0)) (.t 34) (.t 36))) (.phase [3, 5] (.take 7 (zm 30 37) (.take 8 (yx 38 30 0) (.take 9 (yx 39 30 1) (.take 10 (zm 5 38) (.take 11 (zm 6 39) .nil))))))))))))) 0 [0, 3]) (.seq (zr [zm 40 6, yo 41 40] (.cond (.t 41) (zr [yn 4 4] .ret) .skip)) (zr [zm 42 5, zm 43 5, yl 44 43, zs 45 (.ari .sub .i64 (.t 44) (.c (.int .i64 1))), yi 46 5 42 45, yt 47 5 46, zs 7 (.alloc 77 [.str ⟨#[]⟩, .str ⟨#[]⟩, .str ⟨#[]⟩, .str ⟨#[]⟩, .int .i64 0]), ys 5 7 47] (.seq (.block 0 (zr [zf 49 2 7, zl 50 49, zf 51 1 3, zl 52 51, yc 53 .neq 50 52, zm 48 53] (.cond (.t 48) (zr [yn 4 8] .ret) (zr [zf 55 4 3, zl 56 55, zf 57 4 7, zl 58 57, yc 59 .lss 56 58, zm 54 59] (.cond (.t 54) (zr [yn 4 6] .ret) (zr [zm 61 5, yl 62 61, yk 63 .geq 62 4096, zm 60 63] (.cond (.t 60) (zr [yn 4 7] .ret) .skip))))))) (.seq (.dreg (.take 0 (zm 64 0) (.take 1 (zs 65 (.nck (.t 64))) (.take 2 (zf 66 0 65) (.take 3 (zl 67 66) (.take 4 (zf 68 0 3) (.take 5 (zl 69 68) (.take 6 (zm 70 5) (.take 7 (yt 71 5 3) (.eff 8 0 true (zs 72 (.bsl 77 5 1 [.str ⟨#[]⟩, .str ⟨#[]⟩, .str ⟨#[]⟩, .str ⟨#[]⟩, .int .i64 0] [(0, .t 71)])) (.eff 9 1 true (zs 73 (.app 39 39 77 5 72 (.t 70) (.t 72))) (.eff 10 2 false (zn (.pup none (.t 67) (.t 69) (.t 73))) (.phase [3, 5, 7] .nil)))))))))))) 2 [0, 3]) (zr [yn 4 0] .ret)))))))), [.tmp 4]⟩
def x46 : XFn := ⟨30, zr [yn 8 0] (zr [zm 10 0, zm 11 1, zm 12 2, zm 13 3, zs 14 (.bld [.str ⟨#[]⟩, .int .i64 0, .int .i64 0, .str ⟨#[]⟩, .int .i64 0, .int .i64 0, .bl false, .bl false] [(0, (1, .t 11)), (1, (1, .t 12)), (3, (1, .t 13)), (4, (1, .c (.int .i64 0)))]), zs 15 (.call 78 [.t 10, .t 14]), zm 9 15] (.seq (zr [zm 16 9, yk 17 .eql 16 0] (.cond (.t 17) (.reg [zm 18 0, zs 19 (.nck (.t 18)), zf 20 1 19, zl 21 20, zm 22 1, zs 23 (.plk none false (.v (.pointer none)) (.t 21) (.t 22)), zm 24 2, zs 25 (.nck (.t 23)), zf 26 10 25, zs 27 (.aia 3 3 (.t 26) (.t 24)), zf 28 0 27, zn (.st 1 (.t 28) (.c (.int .i64 3)))]) .skip)) (zr [zm 29 9, zm 8 29] .ret))), [.tmp 8]⟩
def x47 : XFn := ⟨63, zr [zs 2 (.mov (.c (.v (.pointer none))))] (zr [zm 8 0, zs 9 (.nck (.t 8)), zf 10 0 9, zl 11 10, zs 12 (.call 50 [.t 11]), zm 3 12] (.seq (zr [zm 13 0, zs 14 (.nck (.t 13)), zf 15 1 14, zl 16 15, zs 17 (.rng (.t 16))] (.block 0 (.loop (zr [zs 18 (.nxt (.t 17)), yx 19 18 0] (.seq (.cond (.t 19) .skip (.exit 0)) (.block 1 (zr [zs 20 (.ent (.t 17)), yx 21 20 0, yx 22 20 1, zm 4 21, zm 5 22] (.seq (.dreg (.take 0 (zm 23 5) (.take 1 (zs 24 (.nck (.t 23))) (.take 2 (zf 25 0 24) (.take 3 (yt 26 9 25) (.take 5 (zm 28 5) (.take 6 (zs 29 (.nck (.t 28))) (.take 7 (zf 30 9 29) (.take 8 (zl 31 30) (.take 9 (zm 32 5) (.take 10 (zs 33 (.nck (.t 32))) (.take 11 (zf 34 10 33) (.take 12 (yt 35 9 34) (.eff 4 0 true (zs 27 (.call 54 [.t 26])) (.take 13 (zs 36 (.bld [.str ⟨#[]⟩, .str ⟨#[]⟩, .str ⟨#[]⟩, .str ⟨#[]⟩, .str ⟨#[]⟩, .v (.slice none 0 0), .v (.slice none 0 0), .int .i64 0, .bl false, .int .i64 0, .int .i64 0, .str ⟨#[]⟩, .v (.slice none 0 0), .int .i64 0, .str ⟨#[]⟩, .v (.slice none 0 0), .int .i64 0, .str ⟨#[]⟩, .v (.slice none 0 0)] [(0, (9, .t 27)), (9, (1, .t 31)), (10, (9, .t 35))])) (.eff 14 0 false (zs 37 (.box 127 (.t 36))) (.phase [3, 8, 12] (.take 15 (zm 6 37) .nil))))))))))))))))) 1 [5]) (.seq (zr [yn 38 0] (.block 2 (.loop (zr [yk 39 .lss 38 3] (.seq (.cond (.t 39) .skip (.exit 2)) (.seq (.block 3 (zr [zm 40 38, zm 7 40] (.dreg (.take 0 (zm 41 6) (.take 1 (zm 42 7) (.take 2 (zm 43 6) (.take 3 (zm 44 7) (.take 4 (zs 45 (.nck (.t 43))) (.take 5 (zf 46 10 45) (.take 6 (zs 47 (.aia 3 3 (.t 46) (.t 44))) (.take 7 (zf 48 2 47) (.take 8 (zl 49 48) (.take 10 (zs 51 (.nck (.t 41))) (.take 11 (zf 52 10 51) (.eff 9 0 false (zs 50 (.call 77 [.t 49])) (.take 12 (zs 53 (.aia 3 3 (.t 52) (.t 42))) (.take 13 (zf 54 2 53) (.eff 14 0 false (ys 1 54 50) (.phase [8] .nil)))))))))))))))) 0 [6]))) (.reg [yp 55 38, zm 38 55]))))))) (.reg [zm 56 3, zs 57 (.nck (.t 56)), zf 58 1 57, zl 59 58, zm 60 4, zm 61 6, zn (.pup none (.t 59) (.t 60) (.t 61))])))))))))) (zr [zm 62 3, zm 2 62] .ret))), [.tmp 2]⟩
def x48 : XFn := ⟨3, zr [zs 0 (.mov (.c (.v (.map none))))] (zr [zs 1 (.mkm 131), zn (.upd (some .i64) (.t 1) (.c (.int .i64 4)) (.c (.clo 79 []))), zn (.upd (some .i64) (.t 1) (.c (.int .i64 8)) (.c (.clo 80 []))), zn (.upd (some .i64) (.t 1) (.c (.int .i64 20)) (.c (.clo 81 []))), zn (.upd (some .i64) (.t 1) (.c (.int .i64 19)) (.c (.clo 82 []))), zn (.upd (some .i64) (.t 1) (.c (.int .i64 23)) (.c (.clo 83 []))), zn (.upd (some .i64) (.t 1) (.c (.int .i64 24)) (.c (.clo 84 []))), zm 2 1, zm 0 2] .ret), [.tmp 0]⟩
def x49 : XFn := ⟨28, zr [zs 6 (.mov (.c (.v (.slice none 0 0))))] (.seq (zr [zm 8 0, yl 9 8, yn 10 0] (.block 0 (.loop (zr [yc 11 .lss 10 9] (.seq (.cond (.t 11) .skip (.exit 0)) (.seq (.block 1 (zr [zm 12 10, zm 7 12] (.reg [zm 13 0, zm 14 7, zm 15 0, zm 16 7, zm 17 1, zs 18 (.nck (.t 17)), zf 19 0 18, zl 20 19, zm 21 2, yi 22 14 13 14, zf 23 5 22, ys 1 23 20, yi 24 14 15 16, zf 25 9 24, ys 1 25 21]))) (.reg [yp 26 10, zm 10 26]))))))) (zr [zm 27 0, zm 6 27] .ret)), [.tmp 6]⟩
def x50 : XFn := ⟨7, zr [zs 2 (.mov (.c (.v (.pointer none))))] (zr [zm 3 0, zs 4 (.mkp 120), zs 5 (.bld [.str ⟨#[]⟩, .v (.map none)] [(0, (1, .t 3)), (1, (1, .t 4))]), zs 6 (.box 122 (.t 5)), zm 2 6] .ret), [.tmp 2]⟩
def x51 : XFn := ⟨4, zr [zs 0 (.mov (.c (.v (.pointer none))))] (zr [zs 1 (.mkp 172), zs 2 (.bld [.v (.map none)] [(0, (1, .t 1))]), zs 3 (.box 174 (.t 2)), zm 0 3] .ret), [.tmp 0]⟩
def x52 : XFn := ⟨8, zr [zs 2 (.mov (.c (.v (.slice none 0 0))))] (.seq (zr [zm 3 0, zs 4 (.nils false (.t 3))] (.cond (.t 4) (zr [zs 2 (.mov (.c (.v (.slice none 0 0))))] .ret) .skip)) (zr [zs 5 (.bsl 77 5 0 [.str ⟨#[]⟩, .str ⟨#[]⟩, .str ⟨#[]⟩, .str ⟨#[]⟩, .int .i64 0] []), zm 6 0, zs 7 (.app 39 39 77 5 72 (.t 5) (.t 6)), zm 2 7] .ret)), [.tmp 2]⟩
def x53 : XFn := ⟨5, zr [zs 0 (.mov (.c (.v (.map none))))] (zr [zs 1 (.mkm 142), zs 2 (.bld [.int .i64 0, .v .nilFunc] [(0, (1, .c (.int .i64 1))), (1, (1, .c (.clo 85 [])))]), zn (.upd (some .i64) (.t 1) (.c (.int .i64 5)) (.t 2)), zs 3 (.bld [.int .i64 0, .v .nilFunc] [(0, (1, .c (.int .i64 2))), (1, (1, .c (.clo 86 [])))]), zn (.upd (some .i64) (.t 1) (.c (.int .i64 6)) (.t 3)), zm 4 1, zm 0 4] .ret), [.tmp 0]⟩
def x54 : XFn := ⟨12, zr [zs 1 (.box 79 (.t 0)), zs 2 (.alloc 79 [.str ⟨#[]⟩, .str ⟨#[]⟩, .str ⟨#[]⟩, .str ⟨#[]⟩, .str ⟨#[]⟩, .v (.slice none 0 0), .v (.slice none 0 0), .int .i64 0, .bl false])] (zr [zf 3 5 1, zl 4 3, zs 5 (.call 87 [.t 4]), zf 6 5 1, ys 1 6 5] (zr [zf 7 6 1, zl 8 7, zs 9 (.call 87 [.t 8]), zf 10 6 1, ys 1 10 9] (zr [yt 11 9 1, ys 9 2 11] .ret))), [.cell 2 true 9]⟩
def x68 : XFn := ⟨25, zr [zs 2 (.mov (.c (.v (.pointer none))))] (zr [zs 6 (.call 51 []), zm 3 6] (.seq (zr [zm 7 0, zs 8 (.nck (.t 7)), zf 9 0 8, zl 10 9, zs 11 (.rng (.t 10))] (.block 0 (.loop (zr [zs 12 (.nxt (.t 11)), yx 13 12 0] (.seq (.cond (.t 13) .skip (.exit 0)) (.block 1 (zr [zs 14 (.ent (.t 11)), yx 15 14 0, yx 16 14 1, zm 4 15, zm 5 16] (.dreg (.take 0 (zm 17 3) (.take 1 (zs 18 (.nck (.t 17))) (.take 2 (zf 19 0 18) (.take 3 (zl 20 19) (.take 4 (zm 21 4) (.take 5 (zm 22 5) (.eff 6 0 true (zs 23 (.call 52 [.t 22])) (.eff 7 0 false (zn (.pup none (.t 20) (.t 21) (.t 23))) (.phase [3] .nil))))))))) 0 [3])))))))) (zr [zm 24 3, zm 2 24] .ret))), [.tmp 2]⟩
def x69 : XFn := ⟨28, zr [zs 4 (.mov (.c (.v (.slice none 0 0))))] (zr [zs 5 (.mov (.c (.v (.slice none 0 0))))] (.seq (zr [zm 8 0, zs 9 (.nck (.t 8)), zf 10 1 9, zl 11 10, zs 12 (.rng (.t 11))] (.block 0 (.loop (zr [zs 13 (.nxt (.t 12)), yx 14 13 0] (.seq (.cond (.t 14) .skip (.exit 0)) (.block 1 (zr [zs 15 (.ent (.t 12)), yx 16 15 0, yx 17 15 1, zm 6 16, zm 7 17] (zr [zm 18 1, zm 19 7, zs 20 (.cav (.t 18) [.t 19])] (.cond (.t 20) (.reg [zm 21 5, zm 22 6, zs 23 (.bsl 9 1 1 [.str ⟨#[]⟩] [(0, .t 22)]), zs 24 (.app 56 56 9 1 16 (.t 21) (.t 23)), zm 5 24]) .skip))))))))) (zr [zm 25 5, zs 26 (.call 91 [.t 25])] (zr [zm 27 5, zm 4 27] .ret)))), [.tmp 4]⟩
def x74 : XFn := ⟨15, zr [yb 2 false] (.seq (zr [zm 5 0, yl 6 5, yn 7 0] (.block 0 (.loop (zr [yc 8 .lss 7 6] (.seq (.cond (.t 8) .skip (.exit 0)) (.seq (.block 1 (zr [yi 9 1 5 7, zl 10 9, zm 4 10] (zr [zm 11 4, zs 12 (.call 104 [.t 11]), yo 13 12] (.cond (.t 13) (zr [yb 2 false] .ret) .skip)))) (.reg [yp 14 7, zm 7 14]))))))) (zr [yb 2 true] .ret)), [.tmp 2]⟩
def x75 : XFn := ⟨9, zr [yb 2 false] (zr [zm 3 0, yk 4 .geq 3 0, zm 5 4, zh 6 5 true 0, gk 7 5 true .leq 6 1048576, yr 8 5 7 false, zm 2 8] .ret), [.tmp 2]⟩
def x77 : XFn := ⟨8, zr [zs 2 (.mov (.c (.v (.slice none 0 0))))] (.seq (zr [zm 3 0, zs 4 (.nils false (.t 3))] (.cond (.t 4) (zr [zs 2 (.mov (.c (.v (.slice none 0 0))))] .ret) .skip)) (zr [zs 5 (.bsl 180 4 0 [.str ⟨#[]⟩, .str ⟨#[]⟩, .int .i64 0, .int .i64 0] []), zm 6 0, zs 7 (.app 105 105 180 4 48 (.t 5) (.t 6)), zm 2 7] .ret)), [.tmp 2]⟩
def x78 : XFn := ⟨27, zr [zs 3 (.box 186 (.t 1)), yn 4 0] (.seq (.dreg (.take 0 (zm 6 0) (.take 1 (zs 7 (.nck (.t 6))) (.take 2 (zf 8 1 7) (.take 3 (zl 9 8) (.take 4 (zf 10 0 3) (.take 5 (zl 11 10) (.fork (.eff 6 0 true (zs 12 (.plk none false (.v (.pointer none)) (.t 9) (.t 11))) (.eff 7 0 true (zs 5 (.alloc 119 [.v (.pointer none)])) (.eff 8 1 false (ys 1 5 12) (.phase [3, 5] .nil)))) (.eff 7 0 true (zs 5 (.alloc 119 [.v (.pointer none)])) (.eff 6 0 false (zs 12 (.plk none false (.v (.pointer none)) (.t 9) (.t 11))) (.eff 8 1 false (ys 1 5 12) (.phase [3, 5] .nil))))))))))) 1 [0, 3]) (zr [zs 13 (.mkf 106 [.t 5]), zs 14 (.bld [.int .i64 0, .v .nilFunc] [(0, (1, .c (.int .i64 4))), (1, (1, .t 13))]), zs 15 (.mkf 107 [.t 3]), zs 16 (.bld [.int .i64 0, .v .nilFunc] [(0, (1, .c (.int .i64 3))), (1, (1, .t 15))]), zs 17 (.mkf 108 [.t 3]), zs 18 (.bld [.int .i64 0, .v .nilFunc] [(0, (1, .c (.int .i64 1))), (1, (1, .t 17))]), zs 19 (.mkf 110 [.t 5, .t 3]), zs 20 (.bld [.int .i64 0, .v .nilFunc] [(0, (1, .c (.int .i64 9))), (1, (1, .t 19))]), zs 21 (.mkf 113 [.t 5, .t 3]), zs 22 (.bld [.int .i64 0, .v .nilFunc] [(0, (1, .c (.int .i64 8))), (1, (1, .t 21))]), zs 23 (.mkf 115 [.t 3, .t 5]), zs 24 (.bld [.int .i64 0, .v .nilFunc] [(0, (1, .c (.int .i64 6))), (1, (1, .t 23))]), zs 25 (.bsl 210 2 6 [.int .i64 0, .v .nilFunc] [(0, .t 14), (1, .t 16), (2, .t 18), (3, .t 20), (4, .t 22), (5, .t 24)]), zs 26 (.call 105 [.t 25]), zm 4 26] .ret)), [.tmp 4]⟩
def x79 : XFn := ⟨79, zr [zs 6 (.box 58 (.t 2)), zs 8 (.mov (.c (.v (.slice none 0 0))))] (.seq (.seq (.dreg (.take 0 (zf 12 0 6) (.take 1 (zl 13 12) (.take 2 (zm 14 1) (.take 3 (zs 15 (.nck (.t 14))) (.take 4 (zf 16 1 15) (.take 5 (zl 17 16) (.take 6 (yc 18 .neq 13 17) (.take 7 (zm 19 18) (.take 8 (zh 20 19 false 1) (.take 9 (zg 21 19 false (.nck (.t 20))) (.take 10 (gf 22 19 false 7 21) (.take 11 (gl 23 19 false 22) (.take 12 (gk 24 19 false .neq 23 0) (.take 13 (yq 25 19 true 24) .nil)))))))))))))) 0 [6, 1]) (.cond (.t 25) (zr [zs 8 (.mov (.c (.v (.slice none 0 0))))] .ret) .skip)) (zr [zm 26 0, zs 27 (.nck (.t 26)), zf 28 4 27, zl 29 28, zs 30 (.call 68 [.t 29]), zm 9 30] (.seq (zr [zm 31 1, zs 32 (.nck (.t 31)), zf 33 6 32, zl 34 33, yl 35 34, yn 36 0] (.block 0 (.loop (zr [yc 37 .lss 36 35] (.seq (.cond (.t 37) .skip (.exit 0)) (.seq (.block 1 (zr [yi 38 1 34 36, zl 39 38, zm 11 39] (.seq (.seq (.dreg (.take 0 (zm 40 9) (.take 1 (zm 41 11) (.take 2 (zm 42 1) (.take 3 (zs 43 (.nck (.t 42))) (.take 4 (zf 44 1 43) (.take 5 (zl 45 44) (.take 6 (zm 46 1) (.take 7 (zs 47 (.nck (.t 46))) (.take 8 (zf 48 4 47) (.take 9 (zl 49 48) (.take 10 (zm 50 3) (.eff 11 0 false (zs 51 (.call 118 [.t 40, .t 41, .t 45, .t 49, .t 50])) (.phase [5, 9] (.take 12 (yk 52 .neq 51 0) .nil)))))))))))))) 0 [1]) (.cond (.t 52) (zr [zs 8 (.mov (.c (.v (.slice none 0 0))))] .ret) .skip)) (.seq (.dreg (.take 0 (zm 53 9) (.take 1 (zm 54 11) (.take 2 (zm 55 1) (.take 3 (zs 56 (.nck (.t 55))) (.take 4 (zf 57 1 56) (.take 5 (zl 58 57) (.take 6 (zm 59 0) (.take 7 (zs 60 (.nck (.t 59))) (.take 8 (zf 61 0 60) (.take 9 (zl 62 61) (.take 10 (zm 63 1) (.take 11 (zs 64 (.nck (.t 63))) (.take 12 (zf 65 4 64) (.take 13 (zl 66 65) (.take 14 (zm 67 3) (.take 15 (zs 68 (.bld [.str ⟨#[]⟩, .str ⟨#[]⟩, .str ⟨#[]⟩, .str ⟨#[]⟩, .int .i64 0] [(0, (1, .t 54)), (1, (1, .t 58)), (2, (1, .t 62)), (3, (1, .t 66)), (4, (1, .t 67))])) (.eff 16 0 false (zs 69 (.call 43 [.t 53, .t 68])) (.phase [5, 9, 13] (.take 17 (yk 70 .neq 69 0) .nil))))))))))))))))))) 0 [1, 0]) (.cond (.t 70) (zr [zs 8 (.mov (.c (.v (.slice none 0 0))))] .ret) .skip))))) (.reg [yp 71 36, zm 36 71]))))))) (zr [zm 72 0, zm 73 9, zs 74 (.nck (.t 72)), zf 75 4 74, ys 1 75 73] (zr [zm 76 1, zs 77 (.nck (.t 76)), zf 78 7 77, zn (.st 1 (.t 78) (.c (.int .i64 1)))] (zr [zs 8 (.mov (.c (.v (.slice none 0 0))))] .ret)))))), [.tmp 8]⟩
def x80 : XFn := ⟨51, zr [zs 6 (.box 58 (.t 2)), zs 8 (.mov (.c (.v (.slice none 0 0))))] (.seq (.seq (.dreg (.take 0 (zm 9 0) (.take 1 (zs 10 (.nck (.t 9))) (.take 2 (zf 11 1 10) (.take 3 (zl 12 11) (.take 4 (zf 13 7 6) (.take 5 (zl 14 13) (.take 6 (zs 15 (.lkp none false (.bl false) (.t 12) (.t 14))) (.take 7 (yo 16 15) (.take 8 (zm 17 16) (.take 9 (gf 18 17 false 7 6) (.take 10 (gl 19 17 false 18) (.take 11 (gf 20 17 false 0 6) (.take 12 (gl 21 17 false 20) (.take 13 (gc 22 17 false .eql 19 21) (.take 14 (yq 23 17 true 22) (.take 15 (zm 24 23) (.take 16 (zh 25 24 false 0) (.take 17 (zg 26 24 false (.nck (.t 25))) (.take 18 (gf 27 24 false 3 26) (.take 19 (gl 28 24 false 27) (.take 20 (zh 29 24 false 1) (.take 22 (gf 31 24 false 8 6) (.take 23 (gl 32 24 false 31) (.take 24 (gf 33 24 false 0 6) (.take 25 (gl 34 24 false 33) (.take 26 (gf 35 24 false 7 6) (.take 27 (gl 36 24 false 35) (.take 28 (zh 37 24 false 3) (.eff 21 0 true (zg 30 24 false (.call 120 [.t 29])) (.eff 29 0 false (zg 38 24 false (.call 119 [.t 28, .t 30, .t 32, .t 34, .t 36, .t 37])) (.phase [3, 5, 6, 10, 12, 19, 23, 25, 27] (.take 30 (gk 39 24 false .neq 38 0) (.take 31 (yq 40 24 true 39) .nil))))))))))))))))))))))))))))))))) 0 [0, 6]) (.cond (.t 40) (zr [yt 41 14 6, zs 42 (.call 121 [.t 41]), zm 8 42] .ret) .skip)) (zr [zf 43 7 6, zl 44 43, zf 45 8 6, zl 46 45, zf 47 7 6, zl 48 47, zs 49 (.bld [.str ⟨#[]⟩, .str ⟨#[]⟩, .int .i64 0, .int .i64 0, .int .i64 0, .str ⟨#[]⟩, .str ⟨#[]⟩, .str ⟨#[]⟩, .int .i64 0, .int .i64 0, .str ⟨#[]⟩, .int .i64 0, .v (.slice none 0 0), .v (.slice none 0 0)] [(1, (1, .t 44)), (3, (1, .c (.int .i64 9))), (8, (1, .t 46)), (7, (1, .t 48))]), zs 50 (.bsl 58 14 1 [.str ⟨#[]⟩, .str ⟨#[]⟩, .int .i64 0, .int .i64 0, .int .i64 0, .str ⟨#[]⟩, .str ⟨#[]⟩, .str ⟨#[]⟩, .int .i64 0, .int .i64 0, .str ⟨#[]⟩, .int .i64 0, .v (.slice none 0 0), .v (.slice none 0 0)] [(0, .t 49)]), zm 8 50] .ret)), [.tmp 8]⟩
def x81 : XFn := ⟨112, zr [zs 6 (.box 58 (.t 2)), zs 8 (.mov (.c (.v (.slice none 0 0))))] (.seq (zr [zm 16 1, zs 17 (.nck (.t 16)), zf 18 7 17, zl 19 18, yk 20 .neq 19 3, zm 21 20, zh 22 21 false 1, zg 23 21 false (.nck (.t 22)), gf 24 21 false 8 23, gl 25 21 false 24, go 26 21 false 25, yq 27 21 true 26] (.cond (.t 27) (zr [yt 28 14 6, zs 29 (.call 121 [.t 28]), zm 8 29] .ret) .skip)) (zr [zm 30 0, zs 31 (.nck (.t 30)), zf 32 4 31, zl 33 32, zs 34 (.call 68 [.t 33]), zm 9 34] (zr [zs 10 (.mov (.c (.v (.slice none 0 0))))] (.seq (zr [zm 35 1, zs 36 (.nck (.t 35)), zf 37 6 36, zl 38 37, yl 39 38, yn 40 0] (.block 0 (.loop (zr [yc 41 .lss 40 39] (.seq (.cond (.t 41) .skip (.exit 0)) (.seq (.block 1 (zr [yi 42 1 38 40, zl 43 42, zm 12 43] (.seq (.dreg (.take 0 (zm 44 12) (.take 1 (zm 45 0) (.take 2 (zs 46 (.nck (.t 45))) (.take 3 (zf 47 0 46) (.take 4 (zl 48 47) (.take 5 (zf 49 0 6) (.take 6 (zl 50 49) (.take 7 (zm 51 1) (.take 8 (zs 52 (.nck (.t 51))) (.take 9 (zf 53 5 52) (.take 10 (zl 54 53) (.take 11 (zm 55 3) (.take 12 (zs 56 (.bld [.str ⟨#[]⟩, .str ⟨#[]⟩, .str ⟨#[]⟩, .str ⟨#[]⟩, .int .i64 0] [(0, (1, .t 44)), (1, (1, .t 48)), (2, (1, .t 50)), (3, (1, .t 54)), (4, (1, .t 55))])) (.eff 13 0 true (zs 13 (.alloc 77 [.str ⟨#[]⟩, .str ⟨#[]⟩, .str ⟨#[]⟩, .str ⟨#[]⟩, .int .i64 0])) (.eff 14 1 false (ys 5 13 56) (.phase [4, 6, 10] .nil)))))))))))))))) 1 [0, 6, 1]) (.seq (zr [zm 57 9, yt 58 5 13, zs 59 (.call 43 [.t 57, .t 58]), yk 60 .neq 59 0] (.cond (.t 60) (zr [yt 61 14 6, zs 62 (.call 121 [.t 61]), zm 8 62] .ret) .skip)) (.reg [zm 63 10, yt 64 5 13, zs 65 (.bsl 77 5 1 [.str ⟨#[]⟩, .str ⟨#[]⟩, .str ⟨#[]⟩, .str ⟨#[]⟩, .int .i64 0] [(0, .t 64)]), zs 66 (.app 39 39 77 5 72 (.t 63) (.t 65)), zm 10 66]))))) (.reg [yp 67 40, zm 40 67]))))))) (.seq (.seq (.dreg (.take 0 (zm 69 0) (.take 1 (zs 70 (.nck (.t 69))) (.take 2 (zf 71 3 70) (.take 3 (zl 72 71) (.take 4 (zm 73 1) (.take 6 (zf 75 8 6) (.take 7 (zl 76 75) (.take 8 (zf 77 0 6) (.take 9 (zl 78 77) (.take 10 (zm 79 3) (.eff 5 0 true (zs 74 (.call 120 [.t 73])) (.eff 11 0 false (zs 80 (.call 122 [.t 72, .t 74, .t 76, .t 78, .t 79])) (.phase [3, 7, 9] (.take 12 (zm 68 80) (.take 13 (yx 81 68 0) (.take 14 (yx 82 68 1) (.take 15 (zm 14 81) (.take 16 (zm 15 82) .nil)))))))))))))))))) 0 [0, 6]) (zr [zm 83 15, yk 84 .neq 83 0] (.cond (.t 84) (zr [yt 85 14 6, zs 86 (.call 121 [.t 85]), zm 8 86] .ret) .skip))) (zr [zm 87 0, zm 88 9, zs 89 (.nck (.t 87)), zf 90 4 89, ys 1 90 88] (zr [zm 91 0, zm 92 0, zs 93 (.nck (.t 92)), zf 94 5 93, zl 95 94, zm 96 10, zs 97 (.app 39 39 77 5 72 (.t 95) (.t 96)), zs 98 (.nck (.t 91)), zf 99 5 98, ys 1 99 97] (zr [zm 100 1, zs 101 (.nck (.t 100)), zf 102 7 101, zn (.st 1 (.t 102) (.c (.int .i64 4)))] (.seq (.dreg (.take 0 (zf 103 0 6) (.take 1 (zl 104 103) (.take 2 (zm 105 1) (.take 3 (zs 106 (.nck (.t 105))) (.take 4 (zf 107 6 106) (.take 5 (zl 108 107) (.eff 6 0 true (zs 109 (.call 87 [.t 108])) (.take 7 (zs 110 (.bld [.str ⟨#[]⟩, .str ⟨#[]⟩, .int .i64 0, .int .i64 0, .int .i64 0, .str ⟨#[]⟩, .str ⟨#[]⟩, .str ⟨#[]⟩, .int .i64 0, .int .i64 0, .str ⟨#[]⟩, .int .i64 0, .v (.slice none 0 0), .v (.slice none 0 0)] [(1, (1, .t 104)), (3, (1, .c (.int .i64 21))), (13, (1, .t 109))])) (.eff 8 0 false (zs 111 (.bsl 58 14 1 [.str ⟨#[]⟩, .str ⟨#[]⟩, .int .i64 0, .int .i64 0, .int .i64 0, .str ⟨#[]⟩, .str ⟨#[]⟩, .str ⟨#[]⟩, .int .i64 0, .int .i64 0, .str ⟨#[]⟩, .int .i64 0, .v (.slice none 0 0), .v (.slice none 0 0)] [(0, .t 110)])) (.phase [1, 5] (.take 9 (zm 8 111) .nil))))))))))) 1 [6, 1]) .ret))))))))), [.tmp 8]⟩
def x82 : XFn := ⟨26, zr [zs 6 (.box 58 (.t 2)), zs 8 (.mov (.c (.v (.slice none 0 0))))] (.seq (.seq (.dreg (.take 0 (zm 9 1) (.take 1 (zs 10 (.nck (.t 9))) (.take 2 (zf 11 3 10) (.take 3 (zl 12 11) (.take 4 (zs 13 (.cmp .neq (.t 12) (.c (.str ⟨#[]⟩)))) (.take 5 (zm 14 13) (.take 6 (gf 15 14 true 0 6) (.take 7 (gl 16 14 true 15) (.take 8 (zh 17 14 true 1) (.take 9 (zg 18 14 true (.nck (.t 17))) (.take 10 (gf 19 14 true 3 18) (.take 11 (gl 20 14 true 19) (.take 12 (gc 21 14 true .eql 16 20) (.take 13 (yr 22 14 21 false) .nil)))))))))))))) 0 [1, 6]) (.cond (.t 22) (.reg [zm 23 1, zs 24 (.nck (.t 23)), zf 25 8 24, zn (.st 1 (.t 25) (.c (.bl true)))]) .skip)) (zr [zs 8 (.mov (.c (.v (.slice none 0 0))))] .ret)), [.tmp 8]⟩
def x83 : XFn := ⟨23, zr [zs 6 (.box 58 (.t 2)), zs 8 (.mov (.c (.v (.slice none 0 0))))] (.seq (.seq (.dreg (.take 0 (zm 9 0) (.take 1 (zs 10 (.nck (.t 9))) (.take 2 (zf 11 3 10) (.take 3 (zl 12 11) (.take 4 (zm 13 1) (.take 6 (zf 15 8 6) (.take 7 (zl 16 15) (.take 8 (zf 17 0 6) (.take 9 (zl 18 17) (.eff 5 0 true (zs 14 (.call 120 [.t 13])) (.eff 10 0 false (zs 19 (.call 46 [.t 12, .t 14, .t 16, .t 18])) (.phase [3, 7, 9] (.take 11 (yk 20 .neq 19 0) .nil))))))))))))) 0 [0, 6]) (.cond (.t 20) (zr [yt 21 14 6, zs 22 (.call 121 [.t 21]), zm 8 22] .ret) .skip)) (zr [zs 8 (.mov (.c (.v (.slice none 0 0))))] .ret)), [.tmp 8]⟩
def x84 : XFn := ⟨30, zr [zs 6 (.box 58 (.t 2)), zs 8 (.mov (.c (.v (.slice none 0 0))))] (.seq (.seq (.dreg (.take 0 (zm 9 0) (.take 1 (zs 10 (.nck (.t 9))) (.take 2 (zf 11 3 10) (.take 3 (zl 12 11) (.take 4 (zm 13 1) (.take 6 (zf 15 8 6) (.take 7 (zl 16 15) (.take 8 (zf 17 0 6) (.take 9 (zl 18 17) (.take 10 (zm 19 3) (.eff 5 0 true (zs 14 (.call 120 [.t 13])) (.eff 11 0 false (zs 20 (.call 123 [.t 12, .t 14, .t 16, .t 18, .t 19])) (.phase [3, 7, 9] (.take 12 (yk 21 .neq 20 0) .nil)))))))))))))) 0 [0, 6]) (.cond (.t 21) (zr [yt 22 14 6, zs 23 (.call 121 [.t 22]), zm 8 23] .ret) .skip)) (zr [zf 24 0 6, zl 25 24, zf 26 8 6, zl 27 26, zs 28 (.bld [.str ⟨#[]⟩, .str ⟨#[]⟩, .int .i64 0, .int .i64 0, .int .i64 0, .str ⟨#[]⟩, .str ⟨#[]⟩, .str ⟨#[]⟩, .int .i64 0, .int .i64 0, .str ⟨#[]⟩, .int .i64 0, .v (.slice none 0 0), .v (.slice none 0 0)] [(1, (1, .t 25)), (3, (1, .c (.int .i64 25))), (8, (1, .t 27))]), zs 29 (.bsl 58 14 1 [.str ⟨#[]⟩, .str ⟨#[]⟩, .int .i64 0, .int .i64 0, .int .i64 0, .str ⟨#[]⟩, .str ⟨#[]⟩, .str ⟨#[]⟩, .int .i64 0, .int .i64 0, .str ⟨#[]⟩, .int .i64 0, .v (.slice none 0 0), .v (.slice none 0 0)] [(0, .t 28)]), zm 8 29] .ret)), [.tmp 8]⟩
def x85 : XFn := ⟨60, zr [zs 6 (.mov (.c (.v (.slice none 0 0)))), yn 7 0] (.seq (.dreg (.take 0 (zm 10 1) (.take 2 (zm 12 0) (.take 3 (zs 13 (.nck (.t 12))) (.take 4 (zf 14 0 13) (.take 5 (zl 15 14) (.take 6 (zm 16 1) (.take 7 (zs 17 (.nck (.t 16))) (.take 8 (zf 18 1 17) (.take 9 (zl 19 18) (.take 10 (zm 20 1) (.take 11 (zs 21 (.nck (.t 20))) (.take 12 (zf 22 4 21) (.take 13 (zl 23 22) (.take 14 (zm 24 1) (.take 15 (zs 25 (.nck (.t 24))) (.take 16 (zf 26 5 25) (.take 17 (zl 27 26) (.take 18 (zm 28 1) (.take 19 (zs 29 (.nck (.t 28))) (.take 20 (zf 30 6 29) (.take 21 (zl 31 30) (.take 23 (zm 33 2) (.fork (.eff 1 0 true (zs 11 (.call 120 [.t 10])) (.fork (.eff 22 0 true (zs 32 (.call 87 [.t 31])) (.take 24 (zs 34 (.bld [.str ⟨#[]⟩, .str ⟨#[]⟩, .str ⟨#[]⟩, .str ⟨#[]⟩, .str ⟨#[]⟩, .v (.slice none 0 0), .v (.slice none 0 0), .int .i64 0, .bl false] [(0, (1, .t 11)), (1, (1, .t 15)), (2, (1, .t 19)), (3, (1, .t 23)), (4, (1, .t 27)), (5, (1, .t 32)), (7, (1, .t 33)), (8, (1, .c (.bl true)))])) (.eff 25 0 true (zs 8 (.alloc 79 [.str ⟨#[]⟩, .str ⟨#[]⟩, .str ⟨#[]⟩, .str ⟨#[]⟩, .str ⟨#[]⟩, .v (.slice none 0 0), .v (.slice none 0 0), .int .i64 0, .bl false])) (.eff 26 1 false (ys 9 8 34) (.phase [5, 9, 13, 17, 21] .nil))))) (.eff 25 0 true (zs 8 (.alloc 79 [.str ⟨#[]⟩, .str ⟨#[]⟩, .str ⟨#[]⟩, .str ⟨#[]⟩, .str ⟨#[]⟩, .v (.slice none 0 0), .v (.slice none 0 0), .int .i64 0, .bl false])) (.eff 22 0 true (zs 32 (.call 87 [.t 31])) (.take 24 (zs 34 (.bld [.str ⟨#[]⟩, .str ⟨#[]⟩, .str ⟨#[]⟩, .str ⟨#[]⟩, .str ⟨#[]⟩, .v (.slice none 0 0), .v (.slice none 0 0), .int .i64 0, .bl false] [(0, (1, .t 11)), (1, (1, .t 15)), (2, (1, .t 19)), (3, (1, .t 23)), (4, (1, .t 27)), (5, (1, .t 32)), (7, (1, .t 33)), (8, (1, .c (.bl true)))])) (.eff 26 1 false (ys 9 8 34) (.phase [5, 9, 13, 17, 21] .nil))))))) (.eff 25 0 true (zs 8 (.alloc 79 [.str ⟨#[]⟩, .str ⟨#[]⟩, .str ⟨#[]⟩, .str ⟨#[]⟩, .str ⟨#[]⟩, .v (.slice none 0 0), .v (.slice none 0 0), .int .i64 0, .bl false])) (.eff 1 0 true (zs 11 (.call 120 [.t 10])) (.eff 22 0 true (zs 32 (.call 87 [.t 31])) (.take 24 (zs 34 (.bld [.str ⟨#[]⟩, .str ⟨#[]⟩, .str ⟨#[]⟩, .str ⟨#[]⟩, .str ⟨#[]⟩, .v (.slice none 0 0), .v (.slice none 0 0), .int .i64 0, .bl false] [(0, (1, .t 11)), (1, (1, .t 15)), (2, (1, .t 19)), (3, (1, .t 23)), (4, (1, .t 27)), (5, (1, .t 32)), (7, (1, .t 33)), (8, (1, .c (.bl true)))])) (.eff 26 1 false (ys 9 8 34) (.phase [5, 9, 13, 17, 21] .nil))))))))))))))))))))))))))))) 1 [0, 1]) (.seq (.seq (.dreg (.take 0 (zm 35 0) (.take 1 (zs 36 (.nck (.t 35))) (.take 2 (zf 37 3 36) (.take 3 (zl 38 37) (.take 4 (yt 39 9 8) (.take 5 (zm 40 1) (.take 6 (zs 41 (.nck (.t 40))) (.take 7 (zf 42 1 41) (.take 8 (zl 43 42) (.eff 9 0 false (zs 44 (.call 124 [.t 38, .t 39, .t 43])) (.phase [3, 4, 8] (.take 10 (zm 9 44) .nil)))))))))))) 0 [0, 8, 1]) (zr [zm 45 9, yk 46 .neq 45 0] (.cond (.t 46) (zr [zm 47 9, zs 6 (.mov (.c (.v (.slice none 0 0)))), zm 7 47] .ret) .skip))) (zr [zm 48 1, zs 49 (.nck (.t 48)), zf 50 7 49, zn (.st 1 (.t 50) (.c (.int .i64 2)))] (.seq (.dreg (.take 0 (zm 51 1) (.take 1 (zs 52 (.nck (.t 51))) (.take 2 (zf 53 1 52) (.take 3 (zl 54 53) (.take 4 (yt 55 9 8) (.eff 5 0 true (zs 56 (.call 125 [.t 55])) (.eff 6 0 true (zs 57 (.bsp 200 4 1 [.int .i64 0, .str ⟨#[]⟩, .str ⟨#[]⟩, .v (.slice none 0 0)] [(0, .t 56)])) (.take 7 (zs 58 (.bld [.str ⟨#[]⟩, .str ⟨#[]⟩, .int .i64 0, .int .i64 0, .int .i64 0, .str ⟨#[]⟩, .str ⟨#[]⟩, .str ⟨#[]⟩, .int .i64 0, .int .i64 0, .str ⟨#[]⟩, .int .i64 0, .v (.slice none 0 0), .v (.slice none 0 0)] [(1, (1, .t 54)), (3, (1, .c (.int .i64 5))), (12, (1, .t 57))])) (.eff 8 1 false (zs 59 (.bsl 58 14 1 [.str ⟨#[]⟩, .str ⟨#[]⟩, .int .i64 0, .int .i64 0, .int .i64 0, .str ⟨#[]⟩, .str ⟨#[]⟩, .str ⟨#[]⟩, .int .i64 0, .int .i64 0, .str ⟨#[]⟩, .int .i64 0, .v (.slice none 0 0), .v (.slice none 0 0)] [(0, .t 58)])) (.phase [3, 4] (.take 9 (zm 6 59) (.take 10 (yn 7 0) .nil)))))))))))) 2 [1, 8]) .ret)))), [.tmp 6, .tmp 7]⟩
def x86 : XFn := ⟨22, zr [zs 6 (.mov (.c (.v (.slice none 0 0)))), yn 7 0] (zr [zm 8 1, zs 9 (.nck (.t 8)), zf 10 7 9, zn (.st 1 (.t 10) (.c (.int .i64 3)))] (.seq (.dreg (.take 0 (zm 11 1) (.take 1 (zs 12 (.nck (.t 11))) (.take 2 (zf 13 2 12) (.take 3 (zl 14 13) (.take 4 (zm 15 1) (.take 5 (zs 16 (.nck (.t 15))) (.take 6 (zf 17 6 16) (.take 7 (zl 18 17) (.eff 8 0 true (zs 19 (.call 87 [.t 18])) (.take 9 (zs 20 (.bld [.str ⟨#[]⟩, .str ⟨#[]⟩, .int .i64 0, .int .i64 0, .int .i64 0, .str ⟨#[]⟩, .str ⟨#[]⟩, .str ⟨#[]⟩, .int .i64 0, .int .i64 0, .str ⟨#[]⟩, .int .i64 0, .v (.slice none 0 0), .v (.slice none 0 0)] [(1, (1, .t 14)), (3, (1, .c (.int .i64 26))), (13, (1, .t 19))])) (.eff 10 0 false (zs 21 (.bsl 58 14 1 [.str ⟨#[]⟩, .str ⟨#[]⟩, .int .i64 0, .int .i64 0, .int .i64 0, .str ⟨#[]⟩, .str ⟨#[]⟩, .str ⟨#[]⟩, .int .i64 0, .int .i64 0, .str ⟨#[]⟩, .int .i64 0, .v (.slice none 0 0), .v (.slice none 0 0)] [(0, .t 20)])) (.phase [3, 7] (.take 11 (zm 6 21) (.take 12 (yn 7 0) .nil)))))))))))))) 1 [1]) .ret)), [.tmp 6, .tmp 7]⟩
def x87 : XFn := ⟨8, zr [zs 2 (.mov (.c (.v (.slice none 0 0))))] (.seq (zr [zm 3 0, zs 4 (.nils false (.t 3))] (.cond (.t 4) (zr [zs 2 (.mov (.c (.v (.slice none 0 0))))] .ret) .skip)) (zr [zs 5 (.bsl 9 1 0 [.str ⟨#[]⟩] []), zm 6 0, zs 7 (.app 56 56 9 1 16 (.t 5) (.t 6)), zm 2 7] .ret)), [.tmp 2]⟩
def x104 : XFn := ⟨40, zr [yb 2 false] (.seq (zr [zm 5 0, yz 6 5, yk 7 .lss 6 1, zm 8 7, zh 9 8 false 0, gz 10 8 false 9, gk 11 8 false .gtr 10 16, yq 12 8 true 11] (.cond (.t 12) (zr [yb 2 false] .ret) .skip)) (.seq (zr [zm 13 0, yz 14 13, yn 15 0] (.block 0 (.loop (zr [yc 16 .lss 15 14] (.seq (.cond (.t 16) .skip (.exit 0)) (.seq (.block 1 (zr [zm 17 15, zm 3 17] (zr [zm 18 0, zm 19 3, zs 20 (.idx (.t 18) (.t 19)), zm 4 20] (zr [zm 21 4, zs 22 (.cmp .lss (.t 21) (.c (.int .u8 97))), zm 23 22, zh 24 23 false 4, zg 25 23 false (.cmp .gtr (.t 24) (.c (.int .u8 122))), yq 26 23 true 25, zm 27 26, zh 28 27 true 4, zg 29 27 true (.cmp .lss (.t 28) (.c (.int .u8 48))), zh 30 27 true 29, zh 31 30 false 4, zg 32 30 false (.cmp .gtr (.t 31) (.c (.int .u8 57))), zg 33 27 true (.pick (.t 30) (.c (.bl true)) (.t 32)), yr 34 27 33 false, zm 35 34, zh 36 35 true 4, zg 37 35 true (.cmp .neq (.t 36) (.c (.int .u8 45))), yr 38 35 37 false] (.cond (.t 38) (zr [yb 2 false] .ret) .skip))))) (.reg [yp 39 15, zm 15 39]))))))) (zr [yb 2 true] .ret))), [.tmp 2]⟩
def x105 : XFn := ⟨17, zr [yn 2 0] (.seq (zr [zm 5 0, yl 6 5, yn 7 0] (.block 0 (.loop (zr [yc 8 .lss 7 6] (.seq (.cond (.t 8) .skip (.exit 0)) (.seq (.block 1 (zr [yi 9 2 5 7, yt 10 2 9, zs 4 (.alloc 210 [.int .i64 0, .v .nilFunc]), ys 2 4 10] (zr [zf 11 1 4, zl 12 11, zs 13 (.cav (.t 12) [])] (.cond (.t 13) (zr [zf 14 0 4, zl 15 14, zm 2 15] .ret) .skip)))) (.reg [yp 16 7, zm 7 16]))))))) (zr [yn 2 0] .ret)), [.tmp 2]⟩
def x106 : XFn := ⟨4, zr [yb 1 false] (zr [zl 2 0, zs 3 (.cmn false (.t 2)), zm 1 3] .ret), [.tmp 1]⟩
def x107 : XFn := ⟨12, zr [yb 1 false] (zr [zf 2 1 0, zl 3 2, zf 4 2 0, zl 5 4, yc 6 .lss 3 5, zm 7 6, gf 8 7 false 1 0, gl 9 7 false 8, gk 10 7 false .geq 9 3, yq 11 7 true 10, zm 1 11] .ret), [.tmp 1]⟩
def x108 : XFn := ⟨14, zr [yb 1 false] (zr [zf 2 7 0, zl 3 2, zm 4 3, gf 5 4 false 6 0, gl 6 4 false 5, zh 7 4 false 6, gf 8 7 true 5 0, gl 9 7 true 8, zg 10 7 true (.call 109 [.t 9]), go 11 7 true 10, zg 12 4 false (.pick (.t 7) (.t 11) (.c (.bl false))), yq 13 4 true 12, zm 1 13] .ret), [.tmp 1]⟩
def x109 : XFn := ⟨9, zr [yb 2 false] (zr [zm 3 0, yk 4 .geq 3 0, zm 5 4, zh 6 5 true 0, gk 7 5 true .leq 6 1048576, yr 8 5 7 false, zm 2 8] .ret), [.tmp 2]⟩
def x110 : XFn := ⟨15, zr [yb 2 false] (zr [zl 3 0, zs 4 (.nck (.t 3)), zf 5 9 4, zl 6 5, yk 7 .neq 6 0, zm 8 7, gl 9 8 false 0, gf 10 8 false 1 1, gl 11 8 false 10, zg 12 8 false (.mkf 112 [.t 1]), zg 13 8 false (.call 111 [.t 9, .t 11, .t 12]), yq 14 8 true 13, zm 2 14] .ret), [.tmp 2]⟩
def x111 : XFn := ⟨30, zr [yb 6 false] (.seq (zr [zm 9 0, zs 10 (.nck (.t 9)), zf 11 10 10, yt 12 9 11, yn 13 0] (.block 0 (.loop (zr [yk 14 .lss 13 3] (.seq (.cond (.t 14) .skip (.exit 0)) (.seq (.block 1 (zr [zm 15 13, zs 16 (.aix true 3 3 (.t 12) (.t 13)), zs 8 (.alloc 124 [.int .i64 0, .str ⟨#[]⟩, .v (.slice none 0 0)]), zm 7 15, ys 3 8 16] (zr [zm 17 1, yk 18 .eql 17 (-1), zm 19 18, zh 20 19 false 1, zh 21 19 false 7, gc 22 19 false .eql 20 21, yq 23 19 true 22, zm 24 23, zh 25 24 true 2, zg 26 24 true (.ld true 3 (.t 8)), zg 27 24 true (.cav (.t 25) [.t 26]), yr 28 24 27 false] (.cond (.t 28) (zr [yb 6 true] .ret) .skip)))) (.reg [yp 29 13, zm 13 29]))))))) (zr [yb 6 false] .ret)), [.tmp 6]⟩
def x112 : XFn := ⟨9, zr [zs 2 (.box 124 (.t 0)), yb 3 false] (zr [zf 4 0 2, zl 5 4, zf 6 4 1, zl 7 6, yc 8 .neq 5 7, zm 3 8] .ret), [.tmp 3]⟩
def x113 : XFn := ⟨8, zr [yb 2 false] (zr [zl 3 0, zf 4 1 1, zl 5 4, zs 6 (.mkf 114 [.t 1]), zs 7 (.call 111 [.t 3, .t 5, .t 6]), zm 2 7] .ret), [.tmp 2]⟩
def x114 : XFn := ⟨9, zr [zs 2 (.box 124 (.t 0)), yb 3 false] (zr [zf 4 1 2, zl 5 4, zf 6 3 1, zl 7 6, yc 8 .neq 5 7, zm 3 8] .ret), [.tmp 3]⟩
def x115 : XFn := ⟨12, zr [yb 2 false] (zr [zf 3 6 0, zl 4 3, zm 5 4, gl 6 5 true 1, gf 7 5 true 1 0, gl 8 5 true 7, zg 9 5 true (.mkf 116 [.t 0, .t 1]), zg 10 5 true (.call 111 [.t 6, .t 8, .t 9]), yr 11 5 10 false, zm 2 11] .ret), [.tmp 2]⟩
def x116 : XFn := ⟨15, zr [zs 3 (.box 124 (.t 0)), yb 4 false] (.seq (.dreg (.take 0 (zf 5 5 1) (.take 1 (zl 6 5) (.take 2 (yt 7 3 3) (.take 3 (zl 8 2) (.take 4 (zs 9 (.nck (.t 8))) (.take 5 (zf 10 0 9) (.take 6 (zf 11 7 10) (.take 7 (zl 12 11) (.eff 8 0 true (zs 13 (.call 117 [.t 7, .t 12])) (.take 9 (yc 14 .lss 6 13) (.take 10 (zm 4 14) .nil))))))))))) 0 [1, 3, 2]) .ret), [.tmp 4]⟩
def x117 : XFn := ⟨19, zr [zs 2 (.box 124 (.t 0)), yn 4 0] (.seq (zr [zf 5 2 2, zl 6 5, yl 7 6, yk 8 .eql 7 0] (.cond (.t 8) (zr [zm 9 1, zm 4 9] .ret) .skip)) (zr [zf 10 2 2, zl 11 10, zf 12 2 2, zl 13 12, yl 14 13, zs 15 (.ari .sub .i64 (.t 14) (.c (.int .i64 1))), yi 16 4 11 15, zf 17 3 16, zl 18 17, zm 4 18] .ret)), [.tmp 4]⟩
def x118 : XFn := ⟨58, zr [yn 10 0] (.seq (zr [zm 13 1, zm 14 2, zm 15 3, zs 16 (.bsl 9 1 3 [.str ⟨#[]⟩] [(0, .t 13), (1, .t 14), (2, .t 15)]), zs 17 (.call 74 [.t 16]), yo 18 17] (.cond (.t 18) (zr [yn 10 1] .ret) .skip)) (.seq (zr [zm 19 4, zs 20 (.call 75 [.t 19]), yo 21 20] (.cond (.t 21) (zr [yn 10 3] .ret) .skip)) (.seq (zr [zm 23 0, zs 24 (.nck (.t 23)), zf 25 0 24, zl 26 25, zm 27 1, zs 28 (.plk none true (.v (.slice none 0 0)) (.t 26) (.t 27)), zm 22 28, yx 29 22 0, yx 30 22 1, zm 11 29, zm 12 30] (zr [zm 31 12] (.cond (.t 31) (zr [yn 10 5] .ret) .skip))) (.seq (zr [zm 32 0, zs 33 (.nck (.t 32)), zf 34 0 33, zl 35 34, zs 36 (.lenm (.t 35)), yk 37 .geq 36 4096] (.cond (.t 37) (zr [yn 10 7] .ret) .skip)) (.seq (zr [zm 38 0, zs 39 (.nck (.t 38)), zf 40 0 39, zl 41 40, zs 42 (.nilm false (.t 41))] (.cond (.t 42) (.reg [zm 43 0, zs 44 (.mkp 172), zs 45 (.nck (.t 43)), zf 46 0 45, ys 1 46 44]) .skip)) (zr [zm 47 0, zs 48 (.nck (.t 47)), zf 49 0 48, zl 50 49, zm 51 1, zm 52 1, zm 53 2, zm 54 3, zm 55 4, zs 56 (.bld [.str ⟨#[]⟩, .str ⟨#[]⟩, .str ⟨#[]⟩, .str ⟨#[]⟩, .int .i64 0] [(0, (1, .t 52)), (2, (1, .t 53)), (3, (1, .t 54)), (4, (1, .t 55))]), zs 57 (.bsl 77 5 1 [.str ⟨#[]⟩, .str ⟨#[]⟩, .str ⟨#[]⟩, .str ⟨#[]⟩, .int .i64 0] [(0, .t 56)]), zn (.pup none (.t 50) (.t 51) (.t 57))] (zr [yn 10 0] .ret))))))), [.tmp 10]⟩
def x119 : XFn := ⟨82, zr [yn 12 0] (zr [zm 18 0, zm 19 1, zm 20 2, zm 21 3, zm 22 5, zm 23 4, zs 24 (.call 144 [.t 23]), yo 25 24, zm 26 25, zh 27 26 false 4, zh 28 26 false 3, gc 29 26 false .eql 27 28, yq 30 26 true 29, zs 31 (.bld [.str ⟨#[]⟩, .int .i64 0, .int .i64 0, .str ⟨#[]⟩, .int .i64 0, .int .i64 0, .bl false, .bl false] [(0, (1, .t 19)), (1, (1, .t 20)), (2, (1, .c (.int .i64 (-1)))), (3, (1, .t 21)), (4, (1, .c (.int .i64 0))), (5, (1, .t 22)), (6, (1, .c (.bl true))), (7, (1, .t 30))]), zs 32 (.call 78 [.t 18, .t 31]), zm 13 32] (.seq (zr [zm 33 13, yk 34 .neq 33 0] (.cond (.t 34) (zr [zm 35 13, zm 12 35] .ret) .skip)) (zr [zm 36 0, zs 37 (.nck (.t 36)), zf 38 1 37, zl 39 38, zm 40 1, zs 41 (.plk none false (.v (.pointer none)) (.t 39) (.t 40)), zm 14 41] (.seq (zr [yn 42 0] (.block 0 (.loop (zr [yk 43 .lss 42 3] (.seq (.cond (.t 43) .skip (.exit 0)) (.seq (.block 1 (zr [zm 44 42, zm 15 44] (zr [zm 45 2, yk 46 .eql 45 (-1), zm 47 46, zh 48 47 false 2, zh 49 47 false 15, gc 50 47 false .eql 48 49, yq 51 47 true 50] (.cond (.t 51) (zr [zm 52 14, zm 53 15, zs 54 (.nck (.t 52)), zf 55 10 54, zs 56 (.aia 3 3 (.t 55) (.t 53)), zm 16 56] (zr [zm 57 3, zm 58 4, zm 59 5, zs 60 (.bld [.str ⟨#[]⟩, .str ⟨#[]⟩, .int .i64 0, .int .i64 0] [(0, (1, .t 57)), (1, (1, .t 58)), (2, (1, .c (.int .i64 0))), (3, (1, .t 59))]), zs 17 (.alloc 180 [.str ⟨#[]⟩, .str ⟨#[]⟩, .int .i64 0, .int .i64 0]), ys 4 17 60] (.seq (.dreg (.take 0 (zm 61 16) (.take 1 (zm 62 16) (.take 2 (zs 63 (.nck (.t 62))) (.take 3 (zf 64 2 63) (.take 4 (zl 65 64) (.take 5 (yt 66 4 17) (.eff 6 0 true (zs 67 (.bsl 180 4 1 [.str ⟨#[]⟩, .str ⟨#[]⟩, .int .i64 0, .int .i64 0] [(0, .t 66)])) (.eff 7 1 false (zs 68 (.app 105 105 180 4 48 (.t 65) (.t 67))) (.take 8 (zs 69 (.nck (.t 61))) (.take 9 (zf 70 2 69) (.eff 10 2 false (ys 1 70 68) (.phase [4, 5] .nil)))))))))))) 2 [16, 17]) (.dreg (.take 0 (zm 71 16) (.take 1 (zm 72 16) (.take 2 (zs 73 (.nck (.t 72))) (.take 3 (zf 74 1 73) (.take 4 (zl 75 74) (.take 5 (yt 76 4 17) (.eff 6 0 true (zs 77 (.bsl 180 4 1 [.str ⟨#[]⟩, .str ⟨#[]⟩, .int .i64 0, .int .i64 0] [(0, .t 76)])) (.eff 7 1 false (zs 78 (.call 145 [.t 75, .t 77])) (.take 8 (zs 79 (.nck (.t 71))) (.take 9 (zf 80 1 79) (.eff 10 1 false (ys 1 80 78) (.phase [4, 5] .nil)))))))))))) 1 [16, 17])))) .skip)))) (.reg [yp 81 42, zm 42 81]))))))) (zr [yn 12 0] .ret))))), [.tmp 12]⟩
def x120 : XFn := ⟨8, zr [zs 2 (.mov (.c (.str ⟨#[]⟩)))] (zr [zm 3 0, zs 4 (.nck (.t 3)), zf 5 0 4, zl 6 5, zs 7 (.ari .add .i64 (.c (.str ⟨#[98, 108, 45]⟩)) (.t 6)), zm 2 7] .ret), [.tmp 2]⟩
def x121 : XFn := ⟨14, zr [zs 1 (.box 58 (.t 0)), zs 2 (.mov (.c (.v (.slice none 0 0))))] (.seq (.dreg (.take 0 (zf 3 0 1) (.take 1 (zl 4 3) (.take 2 (zf 5 3 1) (.take 3 (zl 6 5) (.take 5 (zf 8 8 1) (.take 6 (zl 9 8) (.take 7 (zf 10 7 1) (.take 8 (zl 11 10) (.eff 4 0 true (zs 7 (.call 146 [.t 6])) (.take 9 (zs 12 (.bld [.str ⟨#[]⟩, .str ⟨#[]⟩, .int .i64 0, .int .i64 0, .int .i64 0, .str ⟨#[]⟩, .str ⟨#[]⟩, .str ⟨#[]⟩, .int .i64 0, .int .i64 0, .str ⟨#[]⟩, .int .i64 0, .v (.slice none 0 0), .v (.slice none 0 0)] [(1, (1, .t 4)), (3, (1, .c (.int .i64 22))), (6, (1, .t 7)), (8, (1, .t 9)), (7, (1, .t 11))])) (.eff 10 0 false (zs 13 (.bsl 58 14 1 [.str ⟨#[]⟩, .str ⟨#[]⟩, .int .i64 0, .int .i64 0, .int .i64 0, .str ⟨#[]⟩, .str ⟨#[]⟩, .str ⟨#[]⟩, .int .i64 0, .int .i64 0, .str ⟨#[]⟩, .int .i64 0, .v (.slice none 0 0), .v (.slice none 0 0)] [(0, .t 12)])) (.phase [1, 3, 6, 8] (.take 11 (zm 2 13) .nil))))))))))))) 1 [1]) .ret), [.tmp 2]⟩
def x122 : XFn := ⟨44, zr [zs 10 (.mov (.c (.v (.slice none 0 0)))), yn 11 0] (zr [zm 14 0, zm 15 1, zm 16 2, zm 17 3, zm 18 4, zs 19 (.bld [.str ⟨#[]⟩, .int .i64 0, .int .i64 0, .str ⟨#[]⟩, .int .i64 0, .int .i64 0, .bl false, .bl false] [(0, (1, .t 15)), (1, (1, .t 16)), (3, (1, .t 17)), (4, (1, .c (.int .i64 0))), (5, (1, .t 18)), (6, (1, .c (.bl true)))]), zs 20 (.call 78 [.t 14, .t 19]), zm 12 20] (.seq (zr [zm 21 12, yk 22 .neq 21 0] (.cond (.t 22) (zr [zm 23 12, zs 10 (.mov (.c (.v (.slice none 0 0)))), zm 11 23] .ret) .skip)) (zr [zm 24 0, zs 25 (.nck (.t 24)), zf 26 1 25, zl 27 26, zm 28 1, zs 29 (.plk none false (.v (.pointer none)) (.t 27) (.t 28)), zm 13 29] (zr [zm 30 13, zs 31 (.call 147 [.t 30, .c (.int .i64 1)])] (zr [zm 32 13, zm 33 2, zs 34 (.nck (.t 32)), zf 35 10 34, zs 36 (.aia 3 3 (.t 35) (.t 33)), zf 37 0 36, zn (.st 1 (.t 37) (.c (.int .i64 1)))] (zr [zm 38 13, zs 39 (.nck (.t 38)), zf 40 0 39, zf 41 5 40, zl 42 41, zs 43 (.call 87 [.t 42]), zm 10 43, yn 11 0] .ret)))))), [.tmp 10, .tmp 11]⟩
def x123 : XFn := ⟨33, zr [yn 10 0] (zr [zm 12 0, zm 13 1, zm 14 2, zm 15 3, zm 16 4, zs 17 (.bld [.str ⟨#[]⟩, .int .i64 0, .int .i64 0, .str ⟨#[]⟩, .int .i64 0, .int .i64 0, .bl false, .bl false] [(0, (1, .t 13)), (1, (1, .t 14)), (3, (1, .t 15)), (4, (1, .c (.int .i64 3))), (5, (1, .t 16)), (6, (1, .c (.bl true)))]), zs 18 (.call 78 [.t 12, .t 17]), zm 11 18] (.seq (zr [zm 19 11, yk 20 .eql 19 0] (.cond (.t 20) (.reg [zm 21 0, zs 22 (.nck (.t 21)), zf 23 1 22, zl 24 23, zm 25 1, zs 26 (.plk none false (.v (.pointer none)) (.t 24) (.t 25)), zm 27 2, zs 28 (.nck (.t 26)), zf 29 10 28, zs 30 (.aia 3 3 (.t 29) (.t 27)), zf 31 0 30, zn (.st 1 (.t 31) (.c (.int .i64 0)))]) .skip)) (zr [zm 32 11, zm 10 32] .ret))), [.tmp 10]⟩
def x124 : XFn := ⟨45, zr [zs 3 (.box 45 (.t 0)), zs 4 (.box 79 (.t 1)), zs 5 (.box 9 (.t 2)), yn 6 0] (zr [zs 10 (.mkf 148 [.t 3, .t 4, .t 5]), zs 11 (.bld [.int .i64 0, .v .nilFunc] [(0, (1, .c (.int .i64 1))), (1, (1, .t 10))]), zs 12 (.mkf 150 [.t 3, .t 4]), zs 13 (.bld [.int .i64 0, .v .nilFunc] [(0, (1, .c (.int .i64 5))), (1, (1, .t 12))]), zs 14 (.mkf 151 [.t 4, .t 3]), zs 15 (.bld [.int .i64 0, .v .nilFunc] [(0, (1, .c (.int .i64 9))), (1, (1, .t 14))]), zs 16 (.mkf 155 [.t 3]), zs 17 (.bld [.int .i64 0, .v .nilFunc] [(0, (1, .c (.int .i64 7))), (1, (1, .t 16))]), zs 18 (.bsl 210 2 4 [.int .i64 0, .v .nilFunc] [(0, .t 11), (1, .t 13), (2, .t 15), (3, .t 17)]), zs 19 (.call 105 [.t 18]), zm 7 19] (.seq (zr [zm 20 7, yk 21 .neq 20 0] (.cond (.t 21) (zr [zm 22 7, zm 6 22] .ret) .skip)) (zr [yt 23 9 4, zs 24 (.call 54 [.t 23]), zs 25 (.bld [.str ⟨#[]⟩, .str ⟨#[]⟩, .str ⟨#[]⟩, .str ⟨#[]⟩, .str ⟨#[]⟩, .v (.slice none 0 0), .v (.slice none 0 0), .int .i64 0, .bl false, .int .i64 0, .int .i64 0, .str ⟨#[]⟩, .v (.slice none 0 0), .int .i64 0, .str ⟨#[]⟩, .v (.slice none 0 0), .int .i64 0, .str ⟨#[]⟩, .v (.slice none 0 0)] [(0, (9, .t 24)), (9, (1, .c (.int .i64 0)))]), zs 26 (.box 127 (.t 25)), zm 8 26] (.seq (zr [yn 27 0] (.block 0 (.loop (zr [yk 28 .lss 27 3] (.seq (.cond (.t 28) .skip (.exit 0)) (.seq (.block 1 (zr [zm 29 27, zm 9 29] (.dreg (.take 0 (zm 30 8) (.take 1 (zm 31 9) (.take 2 (zl 32 5) (.take 3 (zs 33 (.bld [.int .i64 0, .str ⟨#[]⟩, .v (.slice none 0 0)] [(0, (1, .c (.int .i64 0))), (1, (1, .t 32))])) (.take 4 (zs 34 (.nck (.t 30))) (.take 5 (zf 35 10 34) (.take 6 (zs 36 (.aia 3 3 (.t 35) (.t 31))) (.eff 7 0 false (ys 3 36 33) (.phase [2] .nil))))))))) 0 [5]))) (.reg [yp 37 27, zm 27 37]))))))) (.seq (.dreg (.take 0 (zl 38 3) (.take 1 (zs 39 (.nck (.t 38))) (.take 2 (zf 40 1 39) (.take 3 (zl 41 40) (.take 4 (zf 42 0 4) (.take 5 (zl 43 42) (.take 6 (zm 44 8) (.eff 7 0 false (zn (.pup none (.t 41) (.t 43) (.t 44))) (.phase [0, 3, 5] .nil))))))))) 0 [3, 4]) (zr [yn 6 0] .ret)))))), [.tmp 6]⟩
def x125 : XFn := ⟨35, zr [zs 1 (.box 79 (.t 0)), zs 2 (.alloc 200 [.int .i64 0, .str ⟨#[]⟩, .str ⟨#[]⟩, .v (.slice none 0 0)])] (zr [zs 3 (.mov (.c (.str ⟨#[110, 111]⟩)))] (.seq (zr [zf 4 8 1, zl 5 4] (.cond (.t 5) (.reg [zs 3 (.mov (.c (.str ⟨#[121, 101, 115]⟩)))]) .skip)) (.seq (.dreg (.take 0 (zf 6 0 1) (.take 1 (zl 7 6) (.take 2 (zf 8 1 1) (.take 3 (zl 9 8) (.take 4 (zf 10 1 1) (.take 5 (zl 11 10) (.take 6 (zf 12 2 1) (.take 7 (zl 13 12) (.take 8 (zf 14 3 1) (.take 9 (zl 15 14) (.take 10 (zf 16 4 1) (.take 11 (zl 17 16) (.take 12 (zf 18 5 1) (.take 13 (zl 19 18) (.take 14 (yl 20 19) (.take 16 (zf 22 5 1) (.take 17 (zl 23 22) (.take 19 (zf 25 7 1) (.take 20 (zl 26 25) (.take 22 (zm 28 3) (.take 23 (zf 29 6 1) (.take 24 (zl 30 29) (.eff 15 0 true (zs 21 (.call 157 [.t 20])) (.eff 18 0 true (zs 24 (.call 57 [.t 23, .c (.str ⟨#[44]⟩)])) (.eff 21 0 true (zs 27 (.call 157 [.t 26])) (.eff 25 0 true (zs 31 (.call 57 [.t 30, .c (.str ⟨#[44]⟩)])) (.eff 26 0 true (zs 32 (.bsl 9 1 18 [.str ⟨#[]⟩] [(0, .c (.str ⟨#[99, 97, 114, 114, 105, 101, 114]⟩)), (1, .t 11), (2, .c (.str ⟨#[115, 104, 105, 112, 112, 101, 114]⟩)), (3, .t 13), (4, .c (.str ⟨#[102, 114, 111, 109]⟩)), (5, .t 15), (6, .c (.str ⟨#[116, 111]⟩)), (7, .t 17), (8, .c (.str ⟨#[98, 111, 120, 101, 115]⟩)), (9, .t 21), (10, .c (.str ⟨#[109, 97, 114, 107, 115]⟩)), (11, .t 24), (12, .c (.str ⟨#[105, 115, 115, 117, 101, 100]⟩)), (13, .t 27), (14, .c (.str ⟨#[99, 108, 101, 97, 110]⟩)), (15, .t 28), (16, .c (.str ⟨#[112, 97, 114, 101, 110, 116, 115]⟩)), (17, .t 31)])) (.eff 27 1 true (zs 33 (.call 156 [.t 32])) (.take 28 (zs 34 (.bld [.int .i64 0, .str ⟨#[]⟩, .str ⟨#[]⟩, .v (.slice none 0 0)] [(0, (1, .c (.int .i64 2))), (1, (1, .t 7)), (2, (1, .t 9)), (3, (1, .t 33))])) (.eff 29 1 false (ys 4 2 34) (.phase [1, 3, 5, 7, 9, 11, 13, 17, 20, 24] .nil))))))))))))))))))))))))))))))) 1 [1]) .ret))), [.cell 2 true 4]⟩
def x144 : XFn := ⟨36, zr [yb 2 false] (.seq (zr [zm 4 0, yz 5 4, yk 6 .lss 5 1, zm 7 6, zh 8 7 false 0, gz 9 7 false 8, gk 10 7 false .gtr 9 16, yq 11 7 true 10] (.cond (.t 11) (zr [yb 2 false] .ret) .skip)) (.seq (zr [zm 12 0, yz 13 12, yn 14 0] (.block 0 (.loop (zr [yc 15 .lss 14 13] (.seq (.cond (.t 15) .skip (.exit 0)) (.seq (.block 1 (zr [zm 16 14, zm 3 16] (zr [zm 17 0, zm 18 3, zs 19 (.idx (.t 17) (.t 18)), zs 20 (.call 184 [.t 19]), yo 21 20, zm 22 21, zh 23 22 true 0, zh 24 22 true 3, zg 25 22 true (.idx (.t 23) (.t 24)), zg 26 22 true (.call 185 [.t 25]), go 27 22 true 26, yr 28 22 27 false, zm 29 28, zh 30 29 true 0, zh 31 29 true 3, zg 32 29 true (.idx (.t 30) (.t 31)), zg 33 29 true (.cmp .neq (.t 32) (.c (.int .u8 45))), yr 34 29 33 false] (.cond (.t 34) (zr [yb 2 false] .ret) .skip)))) (.reg [yp 35 14, zm 14 35]))))))) (zr [yb 2 true] .ret))), [.tmp 2]⟩
def x145 : XFn := ⟨16, zr [zs 4 (.mov (.c (.str ⟨#[]⟩)))] (zr [zm 9 0, zm 10 1, zs 11 (.call 186 [.t 9, .t 10]), zm 8 11, yx 12 8 0, yx 13 8 1, yx 14 8 2, zm 5 12, zm 6 13, zm 7 14] (zr [zm 15 5, zm 4 15] .ret)), [.tmp 4]⟩
def x146 : XFn := ⟨12, zr [zs 2 (.mov (.c (.str ⟨#[]⟩)))] (.seq (zr [zm 3 0, yk 4 .lss 3 0, zm 5 4, zh 6 5 false 0, gk 7 5 false .geq 6 29, yq 8 5 true 7] (.cond (.t 8) (zr [zs 2 (.mov (.c (.str ⟨#[]⟩)))] .ret) .skip)) (zr [zm 9 0, zs 10 (.aia 1 29 (.g 2) (.t 9)), zl 11 10, zm 2 11] .ret)), [.tmp 2]⟩
def x147 : XFn := ⟨19, zr [zm 5 0, zm 6 1, zs 7 (.nck (.t 5)), zf 8 9 7, ys 1 8 6] (zr [yn 9 0] (.block 0 (.loop (zr [yk 10 .lss 9 3] (.seq (.cond (.t 10) .skip (.exit 0)) (.seq (.block 1 (zr [zm 11 9, zm 4 11] (.reg [zm 12 0, zm 13 4, zs 14 (.nck (.t 12)), zf 15 10 14, zs 16 (.aia 3 3 (.t 15) (.t 13)), zf 17 0 16, zn (.st 1 (.t 17) (.c (.int .i64 2)))]))) (.reg [yp 18 9, zm 9 18]))))))), []⟩
def x148 : XFn := ⟨13, zr [yb 3 false] (zr [zl 4 0, yt 5 9 1, zs 6 (.call 149 [.t 4, .t 5]), yo 7 6, zm 8 7, gl 9 8 false 2, zg 10 8 false (.call 144 [.t 9]), go 11 8 false 10, yq 12 8 true 11, zm 3 12] .ret), [.tmp 3]⟩
def x149 : XFn := ⟨85, zr [zs 3 (.box 79 (.t 1)), yb 4 false] (.seq (zr [zf 8 0 3, zl 9 8, zs 10 (.call 144 [.t 9]), yo 11 10, zm 12 11, gf 13 12 false 2 3, gl 14 12 false 13, zg 15 12 false (.call 144 [.t 14]), go 16 12 false 15, yq 17 12 true 16, zm 18 17, gf 19 18 false 3 3, gl 20 18 false 19, zg 21 18 false (.call 144 [.t 20]), go 22 18 false 21, yq 23 18 true 22, zm 24 23, gf 25 24 false 4 3, gl 26 24 false 25, zg 27 24 false (.call 144 [.t 26]), go 28 24 false 27, yq 29 24 true 28] (.cond (.t 29) (zr [yb 4 false] .ret) .skip)) (.seq (.seq (.dreg (.take 0 (zf 30 1 3) (.take 1 (zl 31 30) (.take 2 (zm 32 0) (.take 3 (zs 33 (.nck (.t 32))) (.take 4 (zf 34 0 33) (.take 5 (zl 35 34) (.take 6 (yc 36 .neq 31 35) (.take 7 (zm 37 36) (.take 8 (gf 38 37 false 7 3) (.take 9 (gl 39 37 false 38) (.eff 10 0 false (zg 40 37 false (.call 109 [.t 39])) (.phase [1, 5, 9] (.take 11 (go 41 37 false 40) (.take 12 (yq 42 37 true 41) .nil)))))))))))))) 0 [3, 0]) (.cond (.t 42) (zr [yb 4 false] .ret) .skip)) (.seq (zr [zf 43 5 3, zl 44 43, yl 45 44, yk 46 .lss 45 1, zm 47 46, gf 48 47 false 5 3, gl 49 47 false 48, ge 50 47 false 49, gk 51 47 false .gtr 50 64, yq 52 47 true 51, zm 53 52, gf 54 53 false 6 3, gl 55 53 false 54, ge 56 53 false 55, gk 57 53 false .gtr 56 64, yq 58 53 true 57] (.cond (.t 58) (zr [yb 4 false] .ret) .skip)) (zr [zf 59 5 3, zl 60 59, yl 61 60, zs 62 (.mkr 70 (.t 61)), zm 5 62] (.seq (zr [zf 63 5 3, zl 64 63, yl 65 64, yn 66 0] (.block 0 (.loop (zr [yc 67 .lss 66 65] (.seq (.cond (.t 67) .skip (.exit 0)) (.seq (.block 1 (zr [yi 68 1 64 66, zl 69 68, zm 7 69] (.seq (zr [zm 70 7, zs 71 (.call 187 [.t 70]), yo 72 71, zm 73 72, zh 74 73 false 5, zh 75 73 false 7, zg 76 73 false (.lkp none false (.bl false) (.t 74) (.t 75)), yq 77 73 true 76] (.cond (.t 77) (zr [yb 4 false] .ret) .skip)) (.reg [zm 78 5, zm 79 7, zn (.upd none (.t 78) (.t 79) (.c (.bl true)))])))) (.reg [yp 80 66, zm 66 80]))))))) (zr [zf 81 6 3, zl 82 81, zs 83 (.call 152 [.t 82, .c (.clo 188 [])]), yo 84 83, zm 4 84] .ret)))))), [.tmp 4]⟩
def x150 : XFn := ⟨11, zr [yb 2 false] (.seq (.dreg (.take 0 (zl 3 0) (.take 1 (zs 4 (.nck (.t 3))) (.take 2 (zf 5 1 4) (.take 3 (zl 6 5) (.take 4 (zf 7 0 1) (.take 5 (zl 8 7) (.eff 6 0 false (zs 9 (.plk none false (.v (.pointer none)) (.t 6) (.t 8))) (.phase [0, 3, 5] (.take 7 (zs 10 (.cmn true (.t 9))) (.take 8 (zm 2 10) .nil)))))))))) 0 [0, 1]) .ret), [.tmp 2]⟩
def x151 : XFn := ⟨7, zr [yb 2 false] (zr [zf 3 5 0, zl 4 3, zs 5 (.mkf 153 [.t 1]), zs 6 (.call 152 [.t 4, .t 5]), zm 2 6] .ret), [.tmp 2]⟩
def x152 : XFn := ⟨9, zr [yb 4 false] (zr [zm 5 0, zm 6 1, zs 7 (.call 189 [.t 5, .t 6]), yk 8 .geq 7 0, zm 4 8] .ret), [.tmp 4]⟩
def x153 : XFn := ⟨13, zr [yb 3 false] (zr [zl 7 1, zm 8 0, zs 9 (.call 154 [.t 7, .t 8]), zm 6 9, yx 10 6 0, yx 11 6 1, zm 4 10, zm 5 11] (zr [zm 12 5, zm 3 12] .ret)), [.tmp 3]⟩
def x154 : XFn := ⟨16, zr [zs 3 (.box 9 (.t 1)), zs 4 (.mov (.c (.str ⟨#[]⟩))), yb 5 false] (zr [zm 7 0, zs 8 (.mkf 190 [.t 3]), zs 9 (.call 69 [.t 7, .t 8]), zm 6 9] (.seq (zr [zm 10 6, yl 11 10, yk 12 .eql 11 0] (.cond (.t 12) (zr [zs 4 (.mov (.c (.str ⟨#[]⟩))), yb 5 false] .ret) .skip)) (zr [zm 13 6, zs 14 (.iad 1 (.t 13) (.c (.int .i64 0))), zl 15 14, zm 4 15, yb 5 true] .ret))), [.tmp 4, .tmp 5]⟩
def x155 : XFn := ⟨8, zr [yb 1 false] (zr [zl 2 0, zs 3 (.nck (.t 2)), zf 4 1 3, zl 5 4, zs 6 (.lenm (.t 5)), yk 7 .geq 6 256, zm 1 7] .ret), [.tmp 1]⟩
def x156 : XFn := ⟨30, zr [zs 2 (.mov (.c (.v (.slice none 0 0))))] (zr [zm 5 0, yl 6 5, zs 7 (.ari .quo .i64 (.t 6) (.c (.int .i64 2))), zs 8 (.mks 230 2 32 [.str ⟨#[]⟩, .str ⟨#[]⟩] (.c (.int .i64 0)) (.t 7)), zm 3 8] (.seq (zr [yn 4 0] (.block 0 (.loop (.seq (zr [zm 9 4, yp 10 9, zm 11 0, yl 12 11, yc 13 .lss 10 12] (.cond (.t 13) .skip (.exit 0))) (.seq (.block 1 (.dreg (.take 0 (zm 16 3) (.take 1 (zm 17 0) (.take 2 (zm 18 4) (.take 3 (yi 19 1 17 18) (.take 4 (zl 20 19) (.take 5 (zm 21 0) (.take 6 (zm 22 4) (.take 7 (yp 23 22) (.take 8 (yi 24 1 21 23) (.take 9 (zl 25 24) (.take 10 (zs 26 (.bld [.str ⟨#[]⟩, .str ⟨#[]⟩] [(0, (1, .t 20)), (1, (1, .t 25))])) (.eff 11 0 false (zs 27 (.bsl 230 2 1 [.str ⟨#[]⟩, .str ⟨#[]⟩] [(0, .t 26)])) (.eff 12 1 false (zs 28 (.app 198 198 230 2 32 (.t 16) (.t 27))) (.phase [4, 9] (.take 13 (zm 3 28) .nil))))))))))))))) 2 [0])) (.reg [zm 14 4, zs 15 (.ari .add .i64 (.t 14) (.c (.int .i64 2))), zm 4 15])))))) (zr [zm 29 3, zm 2 29] .ret))), [.tmp 2]⟩
def x157 : XFn := ⟨5, zr [zs 2 (.mov (.c (.str ⟨#[]⟩)))] (zr [zm 3 0, zs 4 (.call 60 [.t 3]), zm 2 4] .ret), [.tmp 2]⟩
def x184 : XFn := ⟨9, zr [yb 2 false] (zr [zm 3 0, zs 4 (.cmp .geq (.t 3) (.c (.int .u8 97))), zm 5 4, zh 6 5 true 0, zg 7 5 true (.cmp .leq (.t 6) (.c (.int .u8 122))), yr 8 5 7 false, zm 2 8] .ret), [.tmp 2]⟩
def x185 : XFn := ⟨9, zr [yb 2 false] (zr [zm 3 0, zs 4 (.cmp .geq (.t 3) (.c (.int .u8 48))), zm 5 4, zh 6 5 true 0, zg 7 5 true (.cmp .leq (.t 6) (.c (.int .u8 57))), yr 8 5 7 false, zm 2 8] .ret), [.tmp 2]⟩
def x186 : XFn := ⟨42, zr [zs 4 (.mov (.c (.str ⟨#[]⟩))), yn 5 0, yn 6 0] (.scope (.seq (zr [zm 8 0, zs 9 (.call 144 [.t 8]), yo 10 9] (.cond (.t 10) (zr [zs 4 (.mov (.c (.str ⟨#[]⟩))), yn 5 0, yn 6 1] .ret) .skip)) (zr [zm 11 0, zm 4 11] (.seq (.label 0) (.seq (zr [zm 12 1, yl 13 12, yn 14 0] (.block 0 (.loop (zr [yc 15 .lss 14 13] (.seq (.cond (.t 15) .skip (.exit 0)) (.seq (.block 1 (zr [zm 16 14, zm 7 16] (.seq (.dreg (.take 0 (zm 17 4) (.take 1 (zm 18 1) (.take 2 (zm 19 7) (.take 3 (zs 20 (.sli 4 (.t 18) none (some (.t 19)))) (.take 4 (zm 21 1) (.take 5 (zm 22 7) (.take 6 (yi 23 4 21 22) (.take 7 (yt 24 4 23) (.eff 8 0 false (zs 25 (.call 205 [.t 17, .t 20, .t 24])) (.phase [7] (.take 9 (zm 6 25) .nil))))))))))) 0 [1]) (.seq (zr [zm 26 6, yk 27 .neq 26 0] (.cond (.t 27) (zr [zm 28 7, zm 5 28] (.exit 0)) .skip)) (.reg [zm 29 1, zm 30 7, yi 31 4 29 30, zf 32 1 31, zl 33 32, zm 4 33]))))) (.reg [yp 34 14, zm 14 34]))))))) (.seq (zr [zm 35 6, yk 36 .neq 35 0] (.cond (.t 36) (zr [zm 37 5, zm 38 6, zs 4 (.mov (.c (.str ⟨#[]⟩))), zm 5 37, zm 6 38] .ret) .skip)) (zr [zm 39 4, zm 40 1, yl 41 40, zm 4 39, zm 5 41, yn 6 0] .ret))))))), [.tmp 4, .tmp 5, .tmp 6]⟩
def x187 : XFn := ⟨18, zr [yb 2 false] (.seq (zr [zm 4 0, yz 5 4, yk 6 .neq 5 12] (.cond (.t 6) (zr [yb 2 false] .ret) .skip)) (zr [zm 7 0, zs 8 (.call 206 [.t 7]), zm 3 8] (.seq (.dreg (.take 0 (zm 9 3) (.take 1 (yk 10 .geq 9 0) (.take 2 (zm 11 10) (.take 3 (zh 12 11 true 0) (.take 4 (zg 13 11 true (.sls (.t 12) (some (.c (.int .i64 10))) none)) (.take 5 (zh 14 11 true 3) (.eff 6 0 false (zg 15 11 true (.call 207 [.t 14, .c (.int .i64 2)])) (.take 7 (gc 16 11 true .eql 13 15) (.take 8 (yr 17 11 16 false) (.take 9 (zm 2 17) .nil)))))))))) 0 []) .ret))), [.tmp 2]⟩
def x188 : XFn := ⟨6, zr [yb 2 false] (zr [zm 3 0, zs 4 (.call 144 [.t 3]), yo 5 4, zm 2 5] .ret), [.tmp 2]⟩
def x189 : XFn := ⟨19, zr [yn 4 0] (.seq (zr [zm 6 0, yl 7 6, yn 8 0] (.block 0 (.loop (zr [yc 9 .lss 8 7] (.seq (.cond (.t 9) .skip (.exit 0)) (.seq (.block 1 (zr [zm 10 8, zm 5 10] (zr [zm 11 1, zm 12 0, zm 13 5, yi 14 1 12 13, zl 15 14, zs 16 (.cav (.t 11) [.t 15])] (.cond (.t 16) (zr [zm 17 5, zm 4 17] .ret) .skip)))) (.reg [yp 18 8, zm 8 18]))))))) (zr [yn 4 (-1)] .ret)), [.tmp 4]⟩
def x190 : XFn := ⟨18, zr [yb 3 false] (.seq (.dreg (.take 0 (zm 4 0) (.take 1 (zs 5 (.nck (.t 4))) (.take 2 (zf 6 9 5) (.take 3 (zl 7 6) (.take 4 (yk 8 .eql 7 0) (.take 5 (zm 9 8) (.take 6 (zh 10 9 true 0) (.take 7 (zg 11 9 true (.nck (.t 10))) (.take 8 (gf 12 9 true 0 11) (.take 9 (gf 13 9 true 5 12) (.take 10 (gl 14 9 true 13) (.take 11 (gl 15 9 true 1) (.eff 12 0 false (zg 16 9 true (.call 191 [.t 14, .t 15])) (.phase [3, 10, 11] (.take 13 (yr 17 9 16 false) (.take 14 (zm 3 17) .nil)))))))))))))))) 0 [0, 1]) .ret), [.tmp 3]⟩
def x191 : XFn := ⟨9, zr [yb 4 false] (zr [zm 5 0, zm 6 1, zs 7 (.call 208 [.t 5, .t 6]), yk 8 .geq 7 0, zm 4 8] .ret), [.tmp 4]⟩
def x205 : XFn := ⟨36, zr [zs 5 (.box 180 (.t 2)), yn 6 0] (.seq (zr [yt 7 4 5, zs 8 (.call 212 [.t 7]), yo 9 8] (.cond (.t 9) (zr [yn 6 2] .ret) .skip)) (.seq (zr [zm 10 1, zs 11 (.call 213 [.t 10])] (.cond (.t 11) (zr [yn 6 9] .ret) .skip)) (.seq (zr [zm 12 1, zs 13 (.call 214 [.t 12]), yo 14 13, zm 15 14, gf 16 15 true 0 5, gl 17 15 true 16, zh 18 15 true 0, gc 19 15 true .neq 17 18, yr 20 15 19 false] (.cond (.t 20) (zr [yn 6 8] .ret) .skip)) (.seq (.seq (.dreg (.take 0 (zm 21 1) (.take 1 (yl 22 21) (.take 2 (yk 23 .gtr 22 0) (.take 3 (zm 24 23) (.take 4 (gf 25 24 true 3 5) (.take 5 (gl 26 24 true 25) (.take 6 (zh 27 24 true 1) (.take 7 (zh 28 24 true 1) (.take 8 (ge 29 24 true 28) (.take 9 (zg 30 24 true (.ari .sub .i64 (.t 29) (.c (.int .i64 1)))) (.take 10 (gi 31 24 true 4 27 30) (.take 11 (gf 32 24 true 3 31) (.take 12 (gl 33 24 true 32) (.take 13 (gc 34 24 true .lss 26 33) (.take 14 (yr 35 24 34 false) .nil))))))))))))))) 0 [1, 5]) (.cond (.t 35) (zr [yn 6 6] .ret) .skip)) (zr [yn 6 0] .ret))))), [.tmp 6]⟩
def x206 : XFn := ⟨50, zr [yn 2 0] (.seq (zr [zm 6 0, yz 7 6, yk 8 .lss 7 10] (.cond (.t 8) (zr [yn 2 (-1)] .ret) .skip)) (zr [yn 3 0] (.seq (zr [yn 9 0] (.block 0 (.loop (zr [yk 10 .lss 9 10] (.seq (.cond (.t 10) .skip (.exit 0)) (.seq (.block 1 (zr [zm 11 9, zm 4 11] (zr [yn 5 0] (.seq (.block 2 (zr [zm 13 4, yk 14 .lss 13 4, zm 15 14, zh 16 15 true 0, zh 17 15 true 4, zg 18 15 true (.idx (.t 16) (.t 17)), zg 19 15 true (.call 184 [.t 18]), yr 20 15 19 false, zm 12 20] (.cond (.t 12) (.reg [zm 21 0, zm 22 4, zs 23 (.idx (.t 21) (.t 22)), zs 24 (.ari .sub .u8 (.t 23) (.c (.int .u8 97))), zs 25 (.cvi .i64 (.t 24)), yp 26 25, zm 5 26]) (zr [zm 28 4, yk 29 .geq 28 4, zm 30 29, zh 31 30 true 0, zh 32 30 true 4, zg 33 30 true (.idx (.t 31) (.t 32)), zg 34 30 true (.call 185 [.t 33]), yr 35 30 34 false, zm 27 35] (.cond (.t 27) (.reg [zm 36 0, zm 37 4, zs 38 (.idx (.t 36) (.t 37)), zs 39 (.ari .sub .u8 (.t 38) (.c (.int .u8 48))), zs 40 (.cvi .i64 (.t 39)), zm 5 40]) (zr [yn 2 (-1)] .ret)))))) (.reg [zm 41 3, zm 42 5, zm 43 4, yp 44 43, ya 45 .mul .i64 42 44, ya 46 .add .i64 41 45, zm 3 46]))))) (.reg [yp 47 9, zm 9 47]))))))) (zr [zm 48 3, zs 49 (.ari .rem .i64 (.t 48) (.c (.int .i64 97))), zm 2 49] .ret)))), [.tmp 2]⟩
def x207 : XFn := ⟨15, zr [zs 4 (.mov (.c (.str ⟨#[]⟩)))] (zr [zm 6 0, zs 7 (.call 60 [.t 6]), zm 5 7] (.seq (.block 0 (.loop (.seq (zr [zm 8 5, yz 9 8, zm 10 1, yc 11 .lss 9 10] (.cond (.t 11) .skip (.exit 0))) (.block 1 (.reg [zm 12 5, zs 13 (.ari .add .i64 (.c (.str ⟨#[48]⟩)) (.t 12)), zm 5 13]))))) (zr [zm 14 5, zm 4 14] .ret))), [.tmp 4]⟩
def x208 : XFn := ⟨19, zr [yn 4 0] (.seq (zr [zm 6 0, yl 7 6, yn 8 0] (.block 0 (.loop (zr [yc 9 .lss 8 7] (.seq (.cond (.t 9) .skip (.exit 0)) (.seq (.block 1 (zr [zm 10 8, zm 5 10] (zr [zm 11 1, zm 12 0, zm 13 5, yi 14 1 12 13, zl 15 14, yc 16 .eql 11 15] (.cond (.t 16) (zr [zm 17 5, zm 4 17] .ret) .skip)))) (.reg [yp 18 8, zm 8 18]))))))) (zr [yn 4 (-1)] .ret)), [.tmp 4]⟩
def x212 : XFn := ⟨37, zr [zs 1 (.box 180 (.t 0)), yb 2 false] (.seq (zr [zf 3 0 1, zl 4 3, zs 5 (.call 144 [.t 4]), yo 6 5, zm 7 6, gf 8 7 false 3 1, gl 9 7 false 8, gk 10 7 false .lss 9 0, yq 11 7 true 10, zm 12 11, gf 13 12 false 3 1, gl 14 12 false 13, gk 15 12 false .gtr 14 1048576, yq 16 12 true 15] (.cond (.t 16) (zr [yb 2 false] .ret) .skip)) (.seq (zr [zf 17 2 1, zl 18 17] (.block 0 (zr [yk 20 .eql 18 1, zm 19 20] (.cond (.t 19) (zr [zf 21 1 1, zl 22 21, zs 23 (.cmp .eql (.t 22) (.c (.str ⟨#[]⟩))), zm 2 23] .ret) (.seq (zr [yk 25 .eql 18 0, zm 24 25] (.cond (.t 24) .skip (.reg [yk 26 .eql 18 2, zm 24 26]))) (.cond (.t 24) (zr [zf 27 1 1, zl 28 27, zs 29 (.call 144 [.t 28]), zm 30 29, gf 31 30 true 1 1, gl 32 30 true 31, gf 33 30 true 0 1, gl 34 30 true 33, gc 35 30 true .neq 32 34, yr 36 30 35 false, zm 2 36] .ret) .skip)))))) (zr [yb 2 false] .ret))), [.tmp 2]⟩
def x213 : XFn := ⟨16, zr [yb 2 false] (zr [zm 3 0, yl 4 3, yk 5 .gtr 4 0, zm 6 5, zh 7 6 true 0, zh 8 6 true 0, ge 9 6 true 8, zg 10 6 true (.ari .sub .i64 (.t 9) (.c (.int .i64 1))), gi 11 6 true 4 7 10, gf 12 6 true 2 11, gl 13 6 true 12, gk 14 6 true .eql 13 2, yr 15 6 14 false, zm 2 15] .ret), [.tmp 2]⟩
def x214 : XFn := ⟨16, zr [yb 2 false] (zr [zm 3 0, yl 4 3, yk 5 .gtr 4 0, zm 6 5, zh 7 6 true 0, zh 8 6 true 0, ge 9 6 true 8, zg 10 6 true (.ari .sub .i64 (.t 9) (.c (.int .i64 1))), gi 11 6 true 4 7 10, gf 12 6 true 2 11, gl 13 6 true 12, gk 14 6 true .eql 13 1, yr 15 6 14 false, zm 2 15] .ret), [.tmp 2]⟩
set_option maxHeartbeats 1000000
set_option maxRecDepth 100000
theorem K_of {K : AV → List Ent → Prop} {x y : AV} {H : List Ent} (h : K y H) (e : x = y) : K x H := e ▸ h
theorem K_bl {K : AV → List Ent → Prop} {b c : Bool} {H : List Ent} (h : K (.bl c) H) (e : b = c) : K (.bl b) H := e ▸ h
theorem K_i {K : AV → List Ent → Prop} {b c : Int} {H : List Ent} (h : K (.i c) H) (e : b = c) : K (.i b) H := e ▸ h
def ByC (g : Int → Bool) : Ctr := spec (fun z : Int => [.int .u8 z]) (fun _ => []) (fun _ => True) (fun z => .bl (g z)) fun _ => []
theorem isLetter_body (P : Program) : BodyOk P x184 (ByC letB) := by
 intro args H K hc
 obtain ⟨z, rfl, rfl, _, hK⟩ := hc
 refine ⟨nb9, ?_⟩
 dsimp only at hK ⊢
 cbv; repeat' ((first | refine .mk (fun h => ?_) fun h => ?_ | fail) <;> cbv)
 all_goals exact FinK.mk ⟨_, Gh.refl _, .inl (.v9 (K_bl hK (by (unfold letB; simp; omega))))⟩
theorem isDigit_body (P : Program) : BodyOk P x185 (ByC digB) := by
 intro args H K hc
 obtain ⟨z, rfl, rfl, _, hK⟩ := hc
 refine ⟨nb9, ?_⟩
 dsimp only at hK ⊢
 cbv; repeat' ((first | refine .mk (fun h => ?_) fun h => ?_ | fail) <;> cbv)
 all_goals exact FinK.mk ⟨_, Gh.refl _, .inl (.v9 (K_bl hK (by (unfold digB; simp; omega))))⟩
def StrC (p : ByteArray → Prop) (g : ByteArray → Bool) : Ctr := spec (fun s : ByteArray => [.str s]) (fun _ => []) p (fun s => .bl (g s)) fun _ => []
theorem ch_or {c : UInt8} {z : Int} (hz : z = c.toNat) : chB c = (letB z || digB z || decide (z = 45)) := by subst hz; rfl
theorem nameB_short {s : ByteArray} (h : s.size < 1 ∨ 16 < s.size) : nameB s = false := by
 unfold nameB
 rcases h with h | h
 ·rw [decide_eq_false (by omega)]; rfl
 ·rw [decide_eq_false (p := s.size ≤ 16) (by omega)]; simp
theorem nameB_long {s : ByteArray} (h : firstAll s s.size) (h1 : 1 ≤ s.size) (h2 : s.size ≤ 16) : nameB s = true := by rw [nameB_all h]; simp [h1, h2]
theorem name_body (P : Program) (hl : FnOk P 184 (ByC letB)) (hd : FnOk P 185 (ByC digB)) : BodyOk P x144 (StrC (fun _ => True) nameB) := by
 intro args H K hc
 obtain ⟨s, rfl, rfl, _, hK⟩ := hc
 refine ⟨nb9, ?_⟩
 dsimp only at hK ⊢
 cbv; repeat' ((first | refine .mk (fun h => ?_) fun h => ?_ | refine .k fun z hz => ?_ | fail) <;> cbv)
 ·exact FinK.mk ⟨_, Gh.refl _, .inl (.v9 (K_bl hK (by (rw [nameB_short om9]))))⟩
 ·exact FinK.mk ⟨_, Gh.refl _, .inl (.v9 (K_bl hK (by (rw [nameB_short om9]))))⟩
 obtain ⟨n, hn⟩ : ∃ n, n = s.size := ⟨_, rfl⟩
 refine xloopV [] (fun p : { k : Nat // k ≤ s.size ∧ firstAll s k } => [(14, .i (nI p.1))]) (fun _ => []) (fun p => lft n p.1) ⟨0, Nat.zero_le _, firstAll_zero s⟩ ?_
 rintro ⟨k, hk, hf⟩
 dsimp only
 cbv; repeat' ((first | refine .mk (fun h => ?_) fun h => ?_ | fail) <;> cbv)
 rotate_left
 ·obtain rfl : k = s.size := om9
  exact FinK.mk ⟨_, Gh.refl _, .inl (.v9 (K_bl hK (by (rw [nameB_long hf om9 om9]))))⟩
 have hks : k < s.size := om9
 refine askByte_nI hks fun z hz => ?_
 have hch := ch_or (c := s[k]) hz
 cbv
 (refine c09 hl z trivial ?_; try dsimp only)
 cases h1 : letB z with
 | true =>
  cbv; repeat' ((first | refine .k fun z hz => ?_ | fail) <;> cbv)
  obtain rfl := hz
  exact roundV ⟨k + 1, hks, firstAll_succ hks hf (by rw [hch, h1]; rfl)⟩ (lft_lt (by omega))
 | false =>
  cbv
  refine askByte_nI hks fun z2 hz2 => ?_
  obtain rfl : z = z2 := hz.trans hz2.symm
  cbv
  (refine c09 hd z trivial ?_; try dsimp only)
  cases h2 : digB z with
  | true =>
   cbv; repeat' ((first | refine .k fun z hz => ?_ | fail) <;> cbv)
   obtain rfl := hz
   exact roundV ⟨k + 1, hks, firstAll_succ hks hf (by rw [hch, h1, h2]; rfl)⟩ (lft_lt (by omega))
  | false =>
   cbv
   refine askByte_nI hks fun z2 hz2 => ?_
   obtain rfl : z = z2 := hz.trans hz2.symm
   cbv; repeat' ((first | refine .mk (fun h => ?_) fun h => ?_ | refine .k fun z hz => ?_ | fail) <;> cbv)
   ·obtain rfl := hz
    exact roundV ⟨k + 1, hks, firstAll_succ hks hf (by rw [hch, h1, h2]; simp [h])⟩ (lft_lt (by omega))
   ·exact FinK.mk ⟨_, Gh.refl _, .inl (.v9 (K_bl hK (by (rw [nameB_not hks (by rw [hch, h1, h2]; simp [h])]))))⟩
def x60 : XFn := ⟨5, zr [zs 2 (.mov (.c (.str ⟨#[]⟩)))] (zr [zm 3 0, zs 4 (.call 93 [.t 3]), zm 2 4] .ret), [.tmp 2]⟩
def x93 : XFn := ⟨5, zr [zs 2 (.mov (.c (.str ⟨#[]⟩)))] (zr [zm 3 0, zs 4 (.call 131 [.t 3, .c (.int .i64 10)]), zm 2 4] .ret), [.tmp 2]⟩
def x131 : XFn := ⟨54, zr [zs 4 (.mov (.c (.str ⟨#[]⟩)))] (.seq (zr [zm 10 1, yk 11 .eql 10 10] (.cond (.t 11) (.seq (zr [zm 12 0, zs 13 (.cmp .leq (.c (.int .i64 0)) (.t 12)), zm 14 13, zh 15 14 true 0, gk 16 14 true .lss 15 100, yr 17 14 16 false] (.cond (.t 17) (zr [zm 18 0, zs 19 (.call 170 [.t 18]), zm 4 19] .ret) .skip)) (zr [zs 5 (.alloc 261 [.int .u8 0, .int .u8 0, .int .u8 0, .int .u8 0, .int .u8 0, .int .u8 0, .int .u8 0, .int .u8 0, .int .u8 0, .int .u8 0, .int .u8 0, .int .u8 0, .int .u8 0, .int .u8 0, .int .u8 0, .int .u8 0, .int .u8 0, .int .u8 0, .int .u8 0, .int .u8 0, .int .u8 0, .int .u8 0, .int .u8 0, .int .u8 0])] (zr [zm 20 0, zs 21 (.cvi .u64 (.t 20)), zm 6 21] (.seq (zr [zm 22 0, yk 23 .lss 22 0] (.cond (.t 23) (.reg [zm 24 6, zs 25 (.neg .u64 (.t 24)), zm 6 25]) .skip)) (zr [zm 26 6, zs 27 (.call 171 [.t 26]), zm 7 27] (zr [zm 28 7, zs 29 (.ari .add .i64 (.c (.int .i64 1)) (.t 28)), zs 30 (.bad), zm 31 6, zs 32 (.call 172 [.t 30, .t 31])] (.seq (zr [zm 33 0, yk 34 .lss 33 0] (.cond (.t 34) (zr [zs 35 (.aia 1 24 (.t 5) (.c (.int .i64 0))), zn (.st 1 (.t 35) (.c (.int .u8 45)))] (zr [zm 36 7, zs 37 (.ari .add .i64 (.c (.int .i64 1)) (.t 36)), zs 38 (.bad), zs 39 (.b2s (.t 38)), zm 4 39] .ret)) .skip)) (zr [zm 40 7, zs 41 (.ari .add .i64 (.c (.int .i64 1)) (.t 40)), zs 42 (.bad), zs 43 (.b2s (.t 42)), zm 4 43] .ret)))))))) .skip)) (zr [zm 45 0, zs 46 (.cvi .u64 (.t 45)), zm 47 1, zm 48 0, yk 49 .lss 48 0, zs 50 (.call 173 [.c (.v (.slice none 0 0)), .t 46, .t 47, .t 49, .c (.bl false)]), zm 44 50, yx 51 44 0, yx 52 44 1, zm 8 51, zm 9 52] (zr [zm 53 9, zm 4 53] .ret))), [.tmp 4]⟩
def x170 : XFn := ⟨15, zr [zs 2 (.mov (.c (.str ⟨#[]⟩)))] (.seq (zr [zm 3 0, yk 4 .lss 3 10] (.cond (.t 4) (zr [zm 5 0, zm 6 0, yp 7 6, zs 8 (.sls (.c (.str ⟨#[48, 49, 50, 51, 52, 53, 54, 55, 56, 57, 97, 98, 99, 100, 101, 102, 103, 104, 105, 106, 107, 108, 109, 110, 111, 112, 113, 114, 115, 116, 117, 118, 119, 120, 121, 122]⟩)) (some (.t 5)) (some (.t 7))), zm 2 8] .ret) .skip)) (zr [zm 9 0, zs 10 (.ari .mul .i64 (.t 9) (.c (.int .i64 2))), zm 11 0, zs 12 (.ari .mul .i64 (.t 11) (.c (.int .i64 2))), zs 13 (.ari .add .i64 (.t 12) (.c (.int .i64 2))), zs 14 (.sls (.c (.str ⟨#[48, 48, 48, 49, 48, 50, 48, 51, 48, 52, 48, 53, 48, 54, 48, 55, 48, 56, 48, 57, 49, 48, 49, 49, 49, 50, 49, 51, 49, 52, 49, 53, 49, 54, 49, 55, 49, 56, 49, 57, 50, 48, 50, 49, 50, 50, 50, 51, 50, 52, 50, 53, 50, 54, 50, 55, 50, 56, 50, 57, 51, 48, 51, 49, 51, 50, 51, 51, 51, 52, 51, 53, 51, 54, 51, 55, 51, 56, 51, 57, 52, 48, 52, 49, 52, 50, 52, 51, 52, 52, 52, 53, 52, 54, 52, 55, 52, 56, 52, 57, 53, 48, 53, 49, 53, 50, 53, 51, 53, 52, 53, 53, 53, 54, 53, 55, 53, 56, 53, 57, 54, 48, 54, 49, 54, 50, 54, 51, 54, 52, 54, 53, 54, 54, 54, 55, 54, 56, 54, 57, 55, 48, 55, 49, 55, 50, 55, 51, 55, 52, 55, 53, 55, 54, 55, 55, 55, 56, 55, 57, 56, 48, 56, 49, 56, 50, 56, 51, 56, 52, 56, 53, 56, 54, 56, 55, 56, 56, 56, 57, 57, 48, 57, 49, 57, 50, 57, 51, 57, 52, 57, 53, 57, 54, 57, 55, 57, 56, 57, 57]⟩)) (some (.t 10)) (some (.t 13))), zm 2 14] .ret)), [.tmp 2]⟩
def itoS (n : Nat) : ByteArray := if n < 10 then ⟨#[UInt8.ofNat (48 + n)]⟩ else ⟨#[UInt8.ofNat (48 + n / 10), UInt8.ofNat (48 + n % 10)]⟩
def digS (n : Nat) : ByteArray := ⟨#[UInt8.ofNat (48 + n / 10), UInt8.ofNat (48 + n % 10)]⟩
def SmallC : Ctr := spec (fun n : Nat => [.i n]) (fun _ => []) (fun n => n < 100) (fun n => .str (itoS n)) fun _ => []
def FmtC : Ctr := spec (fun n : Nat => [.i n, .i 10]) (fun _ => []) (fun n => n < 100) (fun n => .str (itoS n)) fun _ => []
theorem K_str {K : AV → List Ent → Prop} {b c : ByteArray} {H : List Ent} (h : K (.str c) H) (e : b = c) : K (.str b) H := e ▸ h
theorem small_body (P : Program) : BodyOk P x170 SmallC := by
 intro args H K hc; obtain ⟨n, rfl, rfl, hp, hK⟩ := hc; refine ⟨nb9, ?_⟩; dsimp only at hp hK ⊢
 cbv; repeat' ((first | refine .mk (fun h => ?_) fun h => ?_ | refine .k fun z hz => ?_ | fail) <;> cbv)
 ·refine ⟨⟨by exact om9, by exact om9, by subst hz; show Int.ofNat n + 1 ≤ 36; omega⟩, fun u hu => ?_⟩
  cbv
  exact FinK.mk ⟨_, Gh.refl _, .inl (.v9 (K_str hK (by subst hu hz; clear hK; revert hp h; revert n; decide +kernel)))⟩
 ·refine ⟨⟨by exact om9, by exact om9, by subst_vars; show Int.ofNat n * 2 + 2 ≤ 200; ((try simp only [vn] at *) <;> omega)⟩, fun u hu => ?_⟩
  cbv
  exact FinK.mk ⟨_, Gh.refl _, .inl (.v9 (K_str hK (by subst_vars; clear hK; revert hp h; revert n; decide +kernel)))⟩
theorem fmt_body (P : Program) (hsm : FnOk P 170 SmallC) : BodyOk P x131 FmtC := by
 intro args H K hc; obtain ⟨n, rfl, rfl, hp, hK⟩ := hc; refine ⟨nb9, ?_⟩; dsimp only at hp hK ⊢
 cbv; repeat' ((first | refine .y fun h => ?_ | fail) <;> cbv)
 ·(refine c09 hsm n hp ?_; try dsimp only)
  obtain ⟨s, hs⟩ : ∃ x, x = (itoS n) := ⟨_, rfl⟩
  rw [← hs] at hK ⊢
  cbv
  exact FinK.mk ⟨_, Gh.refl _, .inl (.v9 hK)⟩
theorem itoa2_body (P : Program) (hf : FnOk P 131 FmtC) : BodyOk P x93 SmallC := by
 intro args H K hc; obtain ⟨n, rfl, rfl, hp, hK⟩ := hc; refine ⟨nb9, ?_⟩; dsimp only at hp hK ⊢
 cbv
 (refine c09 hf n hp ?_; try dsimp only)
 obtain ⟨s, hs⟩ : ∃ x, x = (itoS n) := ⟨_, rfl⟩
 rw [← hs] at hK ⊢
 cbv
 exact FinK.mk ⟨_, Gh.refl _, .inl (.v9 hK)⟩
theorem itoa_body (P : Program) (hf : FnOk P 93 SmallC) : BodyOk P x60 SmallC := by
 intro args H K hc; obtain ⟨n, rfl, rfl, hp, hK⟩ := hc; refine ⟨nb9, ?_⟩; dsimp only at hp hK ⊢
 cbv
 (refine c09 hf n hp ?_; try dsimp only)
 obtain ⟨s, hs⟩ : ∃ x, x = (itoS n) := ⟨_, rfl⟩
 rw [← hs] at hK ⊢
 cbv
 exact FinK.mk ⟨_, Gh.refl _, .inl (.v9 hK)⟩
def DigC : Ctr := spec (fun n : Nat => [.i n, .i 2]) (fun _ => []) (fun n => n < 100) (fun n => .str (digS n)) fun _ => []
theorem itoS_facts : ∀ n, n < 100 → (itoS n).size < 2 ∧ (⟨#[48]⟩ : ByteArray) ++ itoS n = digS n ∧ (itoS n).size = 1 ∨ 2 ≤ (itoS n).size ∧ itoS n = digS n := by decide +kernel
theorem digS_size (n : Nat) : (digS n).size = 2 := rfl
theorem digits_body (P : Program) (hf : FnOk P 60 SmallC) : BodyOk P x207 DigC := by
 intro args H K hc; obtain ⟨n, rfl, rfl, hp, hK⟩ := hc; refine ⟨nb9, ?_⟩; dsimp only at hp hK ⊢
 cbv
 (refine c09 hf n hp ?_; try dsimp only)
 have hfa := itoS_facts n hp
 have hds := digS_size n
 obtain ⟨s, hs⟩ : ∃ x, x = (itoS n) := ⟨_, rfl⟩
 obtain ⟨t, ht⟩ : ∃ x, x = (digS n) := ⟨_, rfl⟩
 rw [← hs] at hfa ⊢
 rw [← ht] at hfa hds hK
 cbv
 refine xloopV [] (fun p : { p : ByteArray × Nat // p.2 ≤ 1 ∧ (p.1 = s ∧ p.2 = 0 ∨ p.1 = t) } => [(5, .str p.1.1)]) (fun _ => []) (fun p => lft 2 p.1.2) ⟨(s, 0), Nat.zero_le _, .inl ⟨rfl, rfl⟩⟩ ?_
 rintro ⟨⟨u, q⟩, hq, hu⟩
 dsimp only at hq hu ⊢
 cbv; repeat' ((first | refine .mk (fun h => ?_) fun h => ?_ | refine .k fun z hz => ?_ | fail) <;> cbv)
 ·rcases hfa with ⟨h1, h2, h3⟩ | ⟨h1, h2⟩
  ·rcases hu with ⟨rfl, rfl⟩ | rfl
   ·refine CatK.mk' (by (show 1 + u.size ≤ maxLen); unfold maxLen; omega) fun v hv hvl => ?_
    cbv
    obtain rfl : v = t := by rw [hv]; exact h2
    exact roundV ⟨(v, 1), Nat.le_refl _, .inr rfl⟩ (lft_lt (by decide))
   ·exfalso; ((try simp only [vn] at *) <;> omega)
  ·exfalso
   subst h2
   rcases hu with ⟨rfl, _⟩ | rfl <;> ((try simp only [vn] at *) <;> omega)
 ·obtain rfl : u = t := by
   rcases hfa with ⟨h1, h2, h3⟩ | ⟨h1, h2⟩
   ·rcases hu with ⟨rfl, _⟩ | rfl
    ·exfalso; ((try simp only [vn] at *) <;> omega)
    ·rfl
   ·rcases hu with ⟨rfl, _⟩ | rfl
    ·exact h2
    ·rfl
  exact FinK.mk ⟨_, Gh.refl _, .inl (.v9 hK)⟩
def vM (c : UInt8) (i : Nat) : Option Int := if i < 4 then if letB c.toNat then some ((c.toNat : Int) - 96) else none else if digB c.toNat then some ((c.toNat : Int) - 48) else none
def accM (s : ByteArray) : Nat → Option Int
 | 0 => some 0
 | k + 1 => match accM s k, s.data[k]? with
  | some a, some c => (vM c k).map fun v => a + v * ((k : Int) + 1)
  | _, _ => none
def sumM (s : ByteArray) : Int := match accM s 10 with
 | some a => a.tmod 97
 | none => -1
theorem vM_bd {c : UInt8} {i : Nat} {v : Int} (h : vM c i = some v) : 0 ≤ v ∧ v ≤ 26 := by
 unfold vM letB digB at h
 split at h
 ·split at h
  ·rename_i h1; simp at h1; cases h; omega
  ·cases h
 ·split at h
  ·rename_i h1; simp at h1; cases h; omega
  ·cases h
theorem accM_bd {s : ByteArray} : ∀ {k : Nat} {a : Int}, accM s k = some a → k ≤ 10 → 0 ≤ a ∧ a ≤ 260 * k
 | 0, a, h, _ => by cases h; omega
 | k + 1, a, h, hk => by
  unfold accM at h
  split at h
  ·rename_i b c hb hc
   obtain ⟨h1, h2⟩ := accM_bd hb (by omega)
   simp only [Option.map_eq_some_iff] at h
   obtain ⟨v, hv, rfl⟩ := h
   obtain ⟨h3, h4⟩ := vM_bd hv
   have h5 : 0 ≤ v * ((k : Int) + 1) := Int.mul_nonneg h3 (by omega)
   have h6 : v * ((k : Int) + 1) ≤ 26 * 10 := Int.mul_le_mul h4 (by omega) (by omega) (by omega)
   constructor <;> push_cast <;> omega
  ·cases h
theorem accM_none {s : ByteArray} {k : Nat} (h : accM s k = none) : ∀ m, accM s (k + m) = none
 | 0 => h
 | m + 1 => by
  show accM s (k + m + 1) = none
  unfold accM
  rw [accM_none h m]
theorem accM_at {s : ByteArray} {k : Nat} (hk : k < s.size) {a : Int} (ha : accM s k = some a) : accM s (k + 1) = (vM s[k] k).map fun v => a + v * ((k : Int) + 1) := by
 conv => lhs; unfold accM
 rw [ha]
 have : s.data[k]? = some s[k] := Array.getElem?_eq_getElem hk
 rw [this]
theorem sumM_not {s : ByteArray} {k : Nat} (hk : k < 10) (hs : k < s.size) {a : Int} (ha : accM s k = some a) (hv : vM s[k] k = none) : sumM s = -1 := by
 have h1 : accM s (k + 1) = none := by rw [accM_at hs ha, hv]; rfl
 have h2 := accM_none h1 (9 - k)
 rw [show k + 1 + (9 - k) = 10 by omega] at h2
 unfold sumM
 rw [h2]
theorem accM_short {s : ByteArray} : ∀ {k : Nat}, s.size < k → accM s k = none
 | 0, h => by omega
 | k + 1, h => by
  unfold accM
  have : s.data[k]? = none := Array.getElem?_eq_none (by show s.size ≤ k; omega)
  rw [this]
  split
  ·rename_i h1; cases h1
  ·rfl
theorem sumM_short {s : ByteArray} (h : s.size < 10) : sumM s = -1 := by
 unfold sumM
 rw [accM_short h]
theorem sumM_all {s : ByteArray} {a : Int} (h : accM s 10 = some a) : sumM s = a.tmod 97 := by unfold sumM; rw [h]
theorem sumM_bd (s : ByteArray) : -1 ≤ sumM s ∧ sumM s < 97 := by
 unfold sumM
 split
 ·rename_i a ha
  have := (accM_bd ha (Nat.le_refl _)).1
  have h1 := Int.tmod_nonneg 97 this
  have h2 := Int.tmod_lt_of_pos a (show (0 : Int) < 97 by decide)
  omega
 ·omega
def SumC : Ctr := spec (fun s : ByteArray => [.str s]) (fun _ => []) (fun _ => True) (fun s => .i (sumM s)) fun _ => []
theorem mul_bd {a b : Int} (h : 0 ≤ a ∧ a ≤ 26) (h2 : 0 ≤ b ∧ b ≤ 10) : 0 ≤ a * b ∧ a * b ≤ 260 := ⟨Int.mul_nonneg h.1 h2.1, Int.mul_le_mul h.2 h2.2 h2.1 (by decide)⟩
theorem sum_body (P : Program) (hl : FnOk P 184 (ByC letB)) (hd : FnOk P 185 (ByC digB)) : BodyOk P x206 SumC := by
 intro args H K hc; obtain ⟨s, rfl, rfl, hp, hK⟩ := hc; refine ⟨nb9, ?_⟩; dsimp only at hp hK ⊢
 obtain ⟨u, hu⟩ : ∃ x, x = (sumM s) := ⟨_, rfl⟩
 rw [← hu] at hK
 cbv; repeat' ((first | refine .mk (fun h => ?_) fun h => ?_ | refine .k fun z hz => ?_ | fail) <;> cbv)
 ·exact FinK.mk ⟨_, Gh.refl _, .inl (.v9 (K_i hK (by (rw [hu, sumM_short om9]))))⟩
 refine xloopV [] (fun p : { p : Nat × Int // p.1 ≤ 10 ∧ accM s p.1 = some p.2 } => [(9, .i (nI p.1.1)), (3, .i p.1.2)]) (fun _ => []) (fun p => lft 10 p.1.1) ⟨(0, 0), Nat.zero_le _, rfl⟩ ?_
 rintro ⟨⟨k, a⟩, hk, ha⟩
 dsimp only at hk ha ⊢
 have hbd := accM_bd ha hk
 have hsz : 10 ≤ s.size := om9
 clear hz
 rcases Nat.lt_or_ge k 10 with hk10 | hk10
 rotate_left
 ·obtain rfl : k = 10 := by omega
  have hs := sumM_all ha
  have hs0 := Int.tmod_nonneg 97 hbd.1
  cbv; repeat' ((first | refine .n fun h => ?_ | refine .q fun z hz hz0 hz1 => ?_ | fail) <;> cbv)
  exact FinK.mk ⟨_, Gh.refl _, .inl (.v9 (K_i hK (by (rw [hu, hs]; assumption))))⟩
 have hks : k < s.size := by omega
 have hat := accM_at hks ha
 rcases Nat.lt_or_ge k 4 with hk4 | hk4
 ·cbv; repeat' ((first | refine .y fun h => ?_ | fail) <;> cbv)
  refine askByte_nI hks fun z hz => ?_
  cbv
  (refine c09 hl z trivial ?_; try dsimp only)
  cases h1 : letB z with
  | true =>
   have hzr : 97 ≤ z ∧ z ≤ 122 := by unfold letB at h1; simpa using h1
   have hv : vM s[k] k = some (z - 96) := by rw [hz] at h1 ⊢; unfold vM; rw [if_pos hk4, if_pos (show letB (s[k].toNat : Int) = true from h1)]; rfl
   rw [hv] at hat
   cbv
   refine askByte_nI hks fun z2 hz2 => ?_
   obtain rfl : z = z2 := hz.trans hz2.symm
   obtain ⟨c, hc⟩ : ∃ c, c = z := ⟨_, rfl⟩
   have e := IntWalk.u8_in (z - 97) (by omega)
   cbv; repeat' ((first | refine .k fun z hz => ?_ | refine .o ?_ | fail) <;> cbv)
   rename_i w hw v hvv
   obtain rfl : v = c - 96 := by omega
   obtain rfl : z = (k : Int) + 1 := om9
   have hm2 := mul_bd (a := c - 96) (b := (k : Int) + 1) (by omega) (by omega)
   refine MulK.k (fun m hm => ?_) (by omega)
   rw [← hm] at hm2
   cbv; repeat' ((first | refine .k fun z hz => ?_ | fail) <;> cbv)
   rename_i z4 hz4
   obtain rfl : z = nI (k + 1) := om9
   exact roundV ⟨(k + 1, z4), by dsimp only; omega, by rw [hat, hz4, hm, hc]; rfl⟩ (lft_lt (by omega))
  | false =>
   cbv; repeat' ((first | refine .n fun h => ?_ | fail) <;> cbv)
   have hv : vM s[k] k = none := by rw [hz] at h1; unfold vM; rw [if_pos hk4, if_neg (by rw [show letB ((s[k].toNat : Nat) : Int) = false from h1]; decide)]
   exact FinK.mk ⟨_, Gh.refl _, .inl (.v9 (K_i hK (by (rw [hu, sumM_not hk10 hks ha hv]))))⟩
 ·cbv; repeat' ((first | refine .n fun h => ?_ | refine .y fun h => ?_ | fail) <;> cbv)
  refine askByte_nI hks fun z hz => ?_
  cbv
  (refine c09 hd z trivial ?_; try dsimp only)
  cases h1 : digB z with
  | true =>
   have hzr : 48 ≤ z ∧ z ≤ 57 := by unfold digB at h1; simpa using h1
   have hv : vM s[k] k = some (z - 48) := by rw [hz] at h1 ⊢; unfold vM; rw [if_neg (by omega), if_pos (show digB (s[k].toNat : Int) = true from h1)]; rfl
   rw [hv] at hat
   cbv
   refine askByte_nI hks fun z2 hz2 => ?_
   obtain rfl : z = z2 := hz.trans hz2.symm
   obtain ⟨c, hc⟩ : ∃ c, c = z := ⟨_, rfl⟩
   have e := IntWalk.u8_in (z - 48) (by omega)
   cbv; repeat' ((first | refine .k fun z hz => ?_ | refine .o ?_ | fail) <;> cbv)
   rename_i w hw
   obtain rfl : w = c - 48 := by omega
   obtain rfl : z = (k : Int) + 1 := om9
   have hm2 := mul_bd (a := c - 48) (b := (k : Int) + 1) (by omega) (by omega)
   refine MulK.k (fun m hm => ?_) (by omega)
   rw [← hm] at hm2
   cbv; repeat' ((first | refine .k fun z hz => ?_ | fail) <;> cbv)
   rename_i z4 hz4
   obtain rfl : z = nI (k + 1) := om9
   exact roundV ⟨(k + 1, z4), by dsimp only; omega, by rw [hat, hz4, hm, hc]; rfl⟩ (lft_lt (by omega))
  | false =>
   cbv
   have hv : vM s[k] k = none := by rw [hz] at h1; unfold vM; rw [if_neg (by omega), if_neg (by rw [show digB ((s[k].toNat : Nat) : Int) = false from h1]; decide)]
   exact FinK.mk ⟨_, Gh.refl _, .inl (.v9 (K_i hK (by (rw [hu, sumM_not hk10 hks ha hv]))))⟩
def markB (s : ByteArray) : Bool := decide (s.size = 12) && (decide (0 ≤ sumM s) && decide (s.extract 10 12 = digS (sumM s).toNat))
theorem right_body (P : Program) (hs : FnOk P 206 SumC) (hd : FnOk P 207 DigC) : BodyOk P x187 (StrC (fun _ => True) markB) := by
 intro args H K hc; obtain ⟨s, rfl, rfl, hp, hK⟩ := hc; refine ⟨nb9, ?_⟩; dsimp only at hp hK ⊢
 have hb := sumM_bd s
 unfold markB at hK
 obtain ⟨q, hq⟩ : ∃ x, x = (sumM s) := ⟨_, rfl⟩
 rw [← hq] at hK hb
 cbv; repeat' ((first | refine .mk (fun h => ?_) fun h => ?_ | refine .k fun z hz => ?_ | fail) <;> cbv)
 rotate_left
 ·exact FinK.mk ⟨_, Gh.refl _, .inl (.v9 (K_bl hK (by (rw [decide_eq_false om9]; rfl))))⟩
 ·have hsz : s.size = 12 := om9
  (refine c09 hs s trivial ?_; try dsimp only)
  rw [← hq]
  cbv; repeat' ((first | refine .mk (fun h => ?_) fun h => ?_ | refine .u fun u hu hul => ?_ | fail) <;> cbv)
  ·obtain ⟨n, rfl⟩ := Int.eq_ofNat_of_zero_le h
   cbv
   have hv2 : u = s.extract 10 12 := by rw [hu, ← hsz]; rfl
   (refine c09 hd n (by have : (n : Int) < 97 := hb.2; omega) ?_; try dsimp only)
   have e1 : ((n : Int)).toNat = n := rfl
   rw [e1] at hK
   obtain ⟨t, ht⟩ : ∃ x, x = (digS n) := ⟨_, rfl⟩
   rw [← ht] at hK ⊢
   cbv; repeat' ((first | refine .mk (fun h => ?_) fun h => ?_ | fail) <;> cbv)
   ·exact FinK.mk ⟨_, Gh.refl _, .inl (.v9 (K_bl hK (by (rw [decide_eq_true hsz, decide_eq_true (by omega), decide_eq_true (by rw [← hv2]; exact h)]; rfl))))⟩
   ·exact FinK.mk ⟨_, Gh.refl _, .inl (.v9 (K_bl hK (by (rw [decide_eq_true hsz, decide_eq_true (by omega), decide_eq_false (by rw [← hv2]; exact h)]; rfl))))⟩
  ·exact FinK.mk ⟨_, Gh.refl _, .inl (.v9 (K_bl hK (by (rw [decide_eq_true hsz, decide_eq_false (by omega)]; rfl))))⟩
section
variable {x1 x2 : Int} {K : Int → Prop}
theorem ArrK.o {n : Nat} {K : Prop} (k : K) (d : 0 ≤ x1 ∧ x1 < n := by (try simp only [vn] at *) <;> omega) : ArrK n x1 K := ⟨d, k⟩
theorem IdxH.o {n : Nat} {K : Nat → Prop} (k : K x1.toNat) (d : 0 ≤ x1 ∧ x1 < n := by (try simp only [vn] at *) <;> omega) : IdxH n x1 K := ⟨d, k⟩
theorem MksK.zl {bytes : Nat} {x : AV} {K : List AV → Prop} (k : ∀ zs, zs = List.replicate x1.toNat x → zs.length = x1.toNat → K zs) (d : 0 ≤ x1 ∧ x1 ≤ x2 ∧ x2 ≤ maxLen ∧ bytes * x2 ≤ 140737488355328 := by (try simp only [vn] at *) <;> (try unfold maxLen) <;> omega) : MksK x1 x2 bytes x K :=
 ⟨d, fun zs h => k zs h (by rw [h, List.length_replicate])⟩
end
theorem Gh.viewT {M : Nat} {st : St} : Gh M st ⟨st.T.map fun p => (p.1, st.view p.2), st.H⟩ := fun C a w r pub _ h => by
 refine ⟨r, pub, h.mod, h.own, h.fr, fun n => ?_, h.defers, h.size, h.stab, h.low⟩
 have hs := h.slots n
 have e : ∀ T : List (Nat × AV), tget (T.map fun p => (p.1, st.view p.2)) n = st.view (tget T n) := fun T => by
  induction T with
  | nil => rfl
  | cons p T ih =>
   obtain ⟨m, x⟩ := p
   show (if m = n then st.view x else tget (T.map fun p => (p.1, st.view p.2)) n) = st.view (if m = n then x else tget T n)
   split
   ·rfl
   ·exact ih
 dsimp only
 rw [e]
 exact h.view hs
theorem Gh.viewE {M : Nat} {st : St} (q : Nat) {t : TypeId} {cs : List AV} (hq : st.H[q]? = some (.blk t cs)) : Gh M st ⟨st.T, st.H.set q (.blk t (cs.map st.view1))⟩ := fun C a w r pub _ h => by
 obtain ⟨b, arr, hr, hb, hc, hp⟩ := h.ent_blk hq
 refine ⟨r, pub, h.mod.set hr (Fr.refl (fun _ => False) _ _) (fun _ h => h.elim) h.mod.fresh h.mod.there (.blk hb ⟨by rw [List.length_map]; exact hc.len, fun i x u hx hu => ?_⟩ hp), h.own, h.fr, h.slots, h.defers, h.size, h.stab, h.low.1, by simpa using h.low.2⟩
 rw [List.getElem?_map] at hx
 cases hy : cs[i]? with
 | none => rw [hy] at hx; cases hx
 | some y => rw [hy] at hx; cases hx; exact h.view1 (hc.at_ i y u hy hu)
section
variable {α : Type} {f : α → PEl} {L : List α}
theorem LenP.k {K : Int → Prop} (k : ∀ z : Int, z = (L.length : Int) → K z) : LenP (mapA f L) K := ⟨fun z hz => k z (by rw [hz, mapA_len])⟩
def atS (key : α → ByteArray) (L : List α) (s : ByteArray) : Option Nat := L.findIdx? fun a => decide (key a = s)
theorem atS_some {key : α → ByteArray} {L : List α} {s : ByteArray} {i : Nat} (h : atS key L s = some i) : ∃ a, L[i]? = some a ∧ key a = s := by
 unfold atS at h
 rw [List.findIdx?_eq_some_iff_getElem] at h
 obtain ⟨hi, h1, _⟩ := h
 exact ⟨L[i], List.getElem?_eq_getElem hi, by simpa using h1⟩
theorem atS_none {key : α → ByteArray} {L : List α} {s : ByteArray} (h : atS key L s = none) : ∀ a ∈ L, key a ≠ s := by
 unfold atS at h
 rw [List.findIdx?_eq_none_iff] at h
 intro a ha e
 have := h a ha
 simp [e] at this
theorem findL_str (key : α → ByteArray) (hf : ∀ a, (f a).1 = .str (key a)) (s : ByteArray) : ∀ (L : List α) (i : Nat), findL (.str s) ((mapA f L).map (·.1)) i = some ((atS key L s).map (· + i))
 | [], i => rfl
 | x :: L, i => by
  have e : (mapA f (x :: L)).map (·.1) = (f x).1 :: (mapA f L).map (·.1) := rfl
  rw [e, hf x]
  unfold findL atS
  rw [List.findIdx?_cons]
  by_cases h : key x = s
  ·have h2 : keyIs (.str s) (.str (key x)) = some true := congrArg some ((MapKept.bytes_beq _ _).2 h.symm)
   simp only [h2]
   simp [h]
  ·have h3 : ¬ s = key x := fun e => h e.symm
   have h2 : keyIs (.str s) (.str (key x)) = some false := congrArg some (Bool.eq_false_iff.2 fun hb => h3 ((MapKept.bytes_beq _ _).1 hb))
   simp only [h2, findL_str key hf s L (i + 1), h, decide_false, Bool.false_eq_true, if_false, Option.map_map, atS]
   congr 1
   cases (L.findIdx? fun a => decide (key a = s)) with
   | none => rfl
   | some n => simp; omega
theorem poolK_in (key : α → ByteArray) (hf : ∀ a, (f a).1 = .str (key a)) {s : ByteArray} {Kin : Nat → AV → List Ent → Prop} {Kout : AV → Prop} {Kno : Unit → Prop} (h : ∀ i y, atS key L s = some i → L[i]? = some y → key y = s → Kin i (f y).2.1 (f y).2.2) (hn : atS key L s = none → Kno ()) :
  PoolK (.str s) (mapA f L) [] Kin Kout Kno := by
 refine ⟨?_⟩
 have hfl := findL_str (f := f) key hf s L 0
 cases ha : atS key L s with
 | none => rw [ha] at hfl; exact .inr (.inr ⟨hfl, hn ha⟩)
 | some i =>
  rw [ha] at hfl
  obtain ⟨y, hy, hk⟩ := atS_some ha
  exact .inl ⟨i, (f y).1, (f y).2.1, (f y).2.2, hfl, by rw [mapA_eq, List.getElem?_map, hy]; rfl, by simp, h i y ha hy hk⟩
theorem pupK_new (key : α → ByteArray) (hf : ∀ a, (f a).1 = .str (key a)) {s : ByteArray} {outs : List (Nat × AV)} {v : AV} {K : List PEl → List (Nat × AV) → Prop} (ha : atS key L s = none) (h : K (mapA f L ++ [(.str s, .any, [])]) ((L.length, v) :: outs)) :
  PupK (.str s) (mapA f L) outs v K := by
 have hfl := findL_str (f := f) key hf s L 0
 rw [ha] at hfl
 exact ⟨.inl ⟨hfl, fun es' n h1 h2 => by rw [mapA_len] at h2; subst h1 h2; exact h⟩⟩
theorem pupK_old (key : α → ByteArray) (hf : ∀ a, (f a).1 = .str (key a)) {s : ByteArray} {i : Nat} {x v : AV} {K : List PEl → List (Nat × AV) → Prop} (ha : atS key L s = some i) (h : K (mapA f L) [(i, v)]) :
  PupK (.str s) (mapA f L) [(i, x)] v K := by
 have hfl := findL_str (f := f) key hf s L 0
 rw [ha] at hfl
 exact ⟨.inr ⟨i, x, [], hfl, rfl, by simp, h⟩⟩
theorem nxtK_in {since : Nat} {seen : List Nat} {K : Nat → AV → AV → List Ent → Prop} {D : Unit → Prop} (hs : since = L.length) (h : ∀ i y, L[i]? = some y → i ∉ seen → K i (f y).1 (f y).2.1 (f y).2.2) (hd : (∀ i, i < L.length → i ∈ seen) → D ()) : NxtK (mapA f L) since seen K D := by
 refine ⟨by rw [mapA_len]; exact hs, fun i k hd' l he hn => ?_, fun h => hd fun i hi => h i (by rw [mapA_len]; exact hi)⟩
 rw [mapA_eq, List.getElem?_map] at he
 cases hy : L[i]? with
 | none => rw [hy] at he; cases he
 | some y =>
  rw [hy] at he
  have := h i y hy hn
  simp only [Option.map_some, Option.some.injEq] at he
  rw [he] at this
  exact this
theorem entK_in {since i : Nat} {seen : List Nat} {x : AV} {y : α} {K : AV → AV → Prop} (hs : since = L.length) (hy : L[i]? = some y) (h : K (f y).1 x) : EntK (mapA f L) [(i, x)] since (seen ++ [i]) K :=
 ⟨i, (f y).1, x, by rw [mapA_len]; exact hs, by simp, by rw [mapA_eq, List.getElem?_map, hy]; rfl, by simp, h⟩
theorem Gh.back {M : Nat} {st : St} (k : Nat) (sel : List Nat) (f : α → PEl) {L : List α} {i : Nat} {y0 : α} (y : α) {t : TypeId} {x : AV} (hk : st.H[k]? = some (.pool t (mapA f L) [(i, x)])) (hy : L[i]? = some y0) (hkey : (f y0).1 = (f y).1 := by rfl)
  (hx : x = (f y).2.1.ren sel 0 := by rfl) (hH : sel.map (fun q => st.H[q]?) = (renH sel 0 (f y).2.2).map some := by rfl) (hnd : sel.Nodup := by decide) (hsel : sel.all (fun q => Nat.ble M q && q != k) = true := by decide) (hb : (f y).2.1.bnd sel.length = true := by rfl) (hbH : bndH sel.length (f y).2.2 = true := by rfl) (hpl : (f y).2.2.all plainE = true := by rfl) :
  Gh M st ⟨killTs st.T sel, dieH (killHs (st.H.set k (.pool t (mapA f (L.set i y)) [])) sel) sel⟩ := by
 have h := Gh.putIn (M := M) (st := st) k 0 sel (f y).2.1 (f y).2.2 (x := x) (i := i) (key := (f y0).1) hk rfl (by simp) (by rw [mapA_eq, List.getElem?_map, hy]; rfl) hx hH hnd hsel hb hbH hpl
 have e : (mapA f L).set i ((f y0).1, (f y).2.1, (f y).2.2) = mapA f (L.set i y) := by
  rw [hkey]
  show (mapA f L).set i (f y) = _
  rw [mapA_eq, mapA_eq, List.map_set]
 rw [e] at h
 exact h
theorem set_same {L : List α} {i : Nat} {y : α} (hy : L[i]? = some y) : L.set i y = L := by
 obtain ⟨h, rfl⟩ := List.getElem?_eq_some_iff.1 hy
 exact List.set_getElem_self h
theorem Gh.back0 {M : Nat} {st : St} (k : Nat) (sel : List Nat) (f : α → PEl) {L : List α} {i : Nat} {y : α} {t : TypeId} {x : AV} (hk : st.H[k]? = some (.pool t (mapA f L) [(i, x)])) (hy : L[i]? = some y)
  (hx : x = (f y).2.1.ren sel 0 := by rfl) (hH : sel.map (fun q => st.H[q]?) = (renH sel 0 (f y).2.2).map some := by rfl) (hnd : sel.Nodup := by decide) (hsel : sel.all (fun q => Nat.ble M q && q != k) = true := by decide) (hb : (f y).2.1.bnd sel.length = true := by rfl) (hbH : bndH sel.length (f y).2.2 = true := by rfl) (hpl : (f y).2.2.all plainE = true := by rfl) :
  Gh M st ⟨killTs st.T sel, dieH (killHs (st.H.set k (.pool t (mapA f L) [])) sel) sel⟩ := by
 have h := Gh.back k sel f y hk hy rfl hx hH hnd hsel hb hbH hpl
 rw [set_same hy] at h
 exact h
theorem Gh.backN {M : Nat} {st : St} (k : Nat) (sel : List Nat) (f : α → PEl) {L : List α} (y : α) {key : AV} {t : TypeId} {x : AV} (hk : st.H[k]? = some (.pool t (mapA f L ++ [(key, .any, [])]) [(L.length, x)])) (hkey : (f y).1 = key := by rfl)
  (hx : x = (f y).2.1.ren sel 0 := by rfl) (hH : sel.map (fun q => st.H[q]?) = (renH sel 0 (f y).2.2).map some := by rfl) (hnd : sel.Nodup := by decide) (hsel : sel.all (fun q => Nat.ble M q && q != k) = true := by decide) (hb : (f y).2.1.bnd sel.length = true := by rfl) (hbH : bndH sel.length (f y).2.2 = true := by rfl) (hpl : (f y).2.2.all plainE = true := by rfl) :
  Gh M st ⟨killTs st.T sel, dieH (killHs (st.H.set k (.pool t (mapA f (L ++ [y])) [])) sel) sel⟩ := by
 have hl : (mapA f L).length = L.length := mapA_len f L
 have h := Gh.putIn (M := M) (st := st) k 0 sel (f y).2.1 (f y).2.2 (x := x) (i := L.length) (key := key) hk rfl (by simp) (by rw [List.getElem?_append_right (by omega)]; simp [hl]) hx hH hnd hsel hb hbH hpl
 have e : (mapA f L ++ [(key, AV.any, [])]).set L.length (key, (f y).2.1, (f y).2.2) = mapA f (L ++ [y]) := by
  rw [List.set_append_right _ _ (by omega), hl, Nat.sub_self, mapA_app, mapA_one, ← hkey]
  rfl
 rw [e] at h
 exact h
end
structure Edm where
 frm : ByteArray
 to : ByteArray
 kind : Int
 day : Int
structure Bl where
 number : ByteArray
 carrier : ByteArray
 shipper : ByteArray
 frm : ByteArray
 to : ByteArray
 boxes : List ByteArray
 parents : List ByteArray
 issued : Int
 clean : Bool
structure Og where
 state : Int
 holder : ByteArray
 chain : List Edm
structure Br where
 b : Bl
 st : Int
 o0 : Og
 o1 : Og
 o2 : Og
structure Rg where
 carrier : ByteArray
 bills : List Br
def EdA : Edm → AV
 | ⟨f, t, k, d⟩ => .agg [.str f, .str t, .i k, .i d]
def BlL : Bl → List AV
 | ⟨number, carrier, shipper, frm, to, boxes, parents, issued, clean⟩ => [.str number, .str carrier, .str shipper, .str frm, .str to, .sl 1 (mapA .str boxes), .sl 1 (mapA .str parents), .i issued, .bl clean]
def BlA (b : Bl) : AV := .agg (BlL b)
def EntC : Br → List Ent
 | ⟨⟨number, carrier, shipper, frm, to, boxes, parents, issued, clean⟩, st, ⟨sa, ha, ca⟩, ⟨sb, hb, cb⟩, ⟨sc, hc, cc⟩⟩ =>
  [.blk 127 [.str number, .str carrier, .str shipper, .str frm, .str to, .sl 1 (mapA .str boxes), .sl 1 (mapA .str parents), .i issued, .bl clean, .i st, .i sa, .str ha, .hd 1, .i sb, .str hb, .hd 2, .i sc, .str hc, .hd 3],
   .tip 180 4 (mapA EdA ca), .tip 180 4 (mapA EdA cb), .tip 180 4 (mapA EdA cc)]
def PelA (b : Br) : PEl := (.str b.b.number, .ptr 0 0, EntC b)
def RegH (R : Rg) : List Ent := [.blk 122 [.str R.carrier, .ph 1], .pool 120 (mapA PelA R.bills) []]
def bAt (L : List Br) (s : ByteArray) : Option Nat := atS (fun b : Br => b.b.number) L s
def stateM (L : List Br) (s : ByteArray) : Int := match bAt L s with
 | some i => match L[i]? with
  | some b => b.st
  | none => -1
 | none => -1
def NewC : Ctr := spec (fun s : ByteArray => [.str s]) (fun _ => []) (fun _ => True) (fun _ => .ptr 0 0) fun s => RegH ⟨s, []⟩
theorem new_body (P : Program) : BodyOk P x50 NewC := by
 intro args H K hc; obtain ⟨s, rfl, rfl, hp, hK⟩ := hc; refine ⟨nb9, ?_⟩; dsimp only at hp hK ⊢
 cbv
 exact FinK.mk ⟨_, Gh.refl _, .inl (CutK.sel [1, 0] (RegH ⟨s, []⟩) (.ptr 0 0) (by rfl) (by rfl) (by decide) (by rfl) nb9 (by rfl) (by rfl) (Le.refl _) (LeH.refl _) hK)⟩
def StateC : Ctr := spec (fun i : Rg × ByteArray => [.ptr 0 0, .str i.2]) (fun i => RegH i.1) (fun _ => True) (fun i => .i (stateM i.1.bills i.2)) fun i => RegH i.1
theorem state_body (P : Program) : BodyOk P x26 StateC := by
 intro args H K hc
 obtain ⟨⟨⟨carrier, L⟩, s⟩, rfl, rfl, _, hK⟩ := hc
 refine ⟨nb9, ?_⟩
 dsimp only at hK ⊢
 cbv
 refine poolK_in (fun b : Br => b.b.number) (fun _ => rfl) (fun i y hai hy hky => ?_) (fun hai => ?_) <;> dsimp only at *
 ·obtain ⟨⟨nq1, cq1, sq1, frm1, to1, bq1, pq1, iq1, lq1⟩, st1, ⟨sa1, ha1, ca1⟩, ⟨sb1, hb1, cb1⟩, ⟨sc1, hc1, cc1⟩⟩ := y
  cbv
  (refine .r9 (Gh.back0 1 [2, 3, 4, 5] PelA rfl hy) ?_; cbv; exact .inl (.f9 (K_i hK (by unfold stateM bAt; rw [hai]; dsimp only; rw [hy]))))
 ·cbv
  (refine .r9 (Gh.refl _) ?_; cbv; exact .inl (.f9 (K_i hK (by unfold stateM bAt; rw [hai]))))
def CloneC (sz bytes : Nat) : Ctr := spec (fun xs : List AV => [.sl sz xs]) (fun _ => []) (fun xs => xs.length ≤ maxLen ∧ xs.length * bytes ≤ 140737488355328) (fun xs => .sl sz xs) fun _ => []
def CloneR (t sz bytes : Nat) : Ctr := spec (fun xs : List AV => [.sl sz xs]) (fun _ => []) (fun xs => xs.length ≤ maxLen ∧ xs.length * bytes ≤ 140737488355328) (fun _ => .hd 0) fun xs => [.row t sz xs]
theorem cloneS_body (P : Program) : BodyOk P x87 (CloneC 1 16) := by
 intro args H K hc
 obtain ⟨xs, rfl, rfl, ⟨h1, h2⟩, hK⟩ := hc
 refine ⟨nb9, ?_⟩
 dsimp only at h1 h2 hK ⊢
 cbv; repeat' ((first | refine .zl fun zs hzs hzl => ?_ | refine .mk (fun h => ?_) ?_ | fail) <;> cbv)
 ·subst h
  exact ⟨⟨_, Gh.refl _, .inl (CutK.val rfl (.one (.one (.nil _))) hK)⟩⟩
 ·have hzs : zs = xs := hzs
  subst hzs
  exact ⟨⟨_, Gh.publish 0 rfl, .inr (.v9 hK)⟩⟩
theorem cloneER_body (P : Program) : BodyOk P x77 (CloneR 180 4 48) := by
 intro args H K hc
 obtain ⟨xs, rfl, rfl, ⟨h1, h2⟩, hK⟩ := hc
 refine ⟨nb9, ?_⟩
 dsimp only at h1 h2 hK ⊢
 cbv; repeat' ((first | refine .zl fun zs hzs hzl => ?_ | refine .mk (fun h => ?_) ?_ | fail) <;> cbv)
 ·subst h
  exact ⟨⟨_, Gh.adopt 2 180 4 rfl, .inl (CutK.pre [.row 180 4 []] rfl (Nat.zero_le _) rfl rfl (Le.refl _) (LeH.refl _) hK)⟩⟩
 ·have hzs : zs = xs := hzs
  subst hzs
  exact ⟨⟨_, Gh.refl _, .inl (CutK.pre [.row 180 4 zs] rfl (Nat.zero_le _) rfl rfl (Le.refl _) (LeH.refl _) hK)⟩⟩
def okB (b : Bl) : Prop := b.boxes.length ≤ 5000 ∧ b.parents.length ≤ 5000
def CopyBC : Ctr := spec (fun b : Bl => [BlA b]) (fun _ => []) okB (fun b => BlA b) fun _ => []
theorem copyBill_body (P : Program) (hc1 : FnOk P 87 (CloneC 1 16)) : BodyOk P x54 CopyBC := by
 intro args H K hc
 obtain ⟨⟨number, carrier, shipper, frm, to, boxes, parents, issued, clean⟩, rfl, rfl, ⟨h1, h2⟩, hK⟩ := hc
 refine ⟨nb9, ?_⟩
 dsimp only at h1 h2 hK ⊢
 cbv
 (refine c09 hc1 _ ⟨by rw [mapA_len]; unfold maxLen; omega, by rw [mapA_len]; omega⟩ ?_; try dsimp only)
 cbv
 (refine c09 hc1 _ ⟨by rw [mapA_len]; unfold maxLen; omega, by rw [mapA_len]; omega⟩ ?_; try dsimp only)
 cbv
 (refine .r9 (Gh.refl _) ?_; cbv; exact .inl (.f9 hK))
structure OkR (R : Rg) : Prop where
 few : R.bills.length ≤ 256
 bills : ∀ b ∈ R.bills, okB b.b
 chains : ∀ b ∈ R.bills, b.o0.chain.length ≤ 4096 ∧ b.o1.chain.length ≤ 4096 ∧ b.o2.chain.length ≤ 4096
def zeroB : Bl := ⟨⟨#[]⟩, ⟨#[]⟩, ⟨#[]⟩, ⟨#[]⟩, ⟨#[]⟩, [], [], 0, false⟩
def getM (L : List Br) (s : ByteArray) : Bl × Bool := match bAt L s with
 | some i => match L[i]? with
  | some b => (b.b, true)
  | none => (zeroB, false)
 | none => (zeroB, false)
theorem getM_some {L : List Br} {s : ByteArray} {i : Nat} {y : Br} (h : bAt L s = some i) (hy : L[i]? = some y) : getM L s = (y.b, true) := by unfold getM; rw [h]; dsimp only; rw [hy]
theorem getM_none {L : List Br} {s : ByteArray} (h : bAt L s = none) : getM L s = (zeroB, false) := by unfold getM; rw [h]
def GetC : Ctr := spec (fun i : Rg × ByteArray => [.ptr 0 0, .str i.2]) (fun i => RegH i.1) (fun i => OkR i.1) (fun i => .tup [BlA (getM i.1.bills i.2).1, .bl (getM i.1.bills i.2).2]) fun i => RegH i.1
theorem get_body (P : Program) (hcp : FnOk P 54 CopyBC) : BodyOk P x25 GetC := by
 intro args H K hc; obtain ⟨⟨⟨carrier, L⟩, s⟩, rfl, rfl, hp, hK⟩ := hc; refine ⟨nb9, ?_⟩; dsimp only at hp hK ⊢
 have hob := hp.bills
 dsimp only at hob
 cbv
 refine poolK_in (fun b : Br => b.b.number) (fun _ => rfl) (fun i y hai hy hky => ?_) (fun hai => ?_) <;> dsimp only at *
 ·rw [getM_some hai hy] at hK
  have ho := hob y (List.mem_of_getElem? hy)
  obtain ⟨⟨nq1, cq1, sq1, frm1, to1, bq1, pq1, iq1, lq1⟩, st1, ⟨sa1, ha1, ca1⟩, ⟨sb1, hb1, cb1⟩, ⟨sc1, hc1, cc1⟩⟩ := y
  cbv
  (refine c09 hcp ⟨nq1, cq1, sq1, frm1, to1, bq1, pq1, iq1, lq1⟩ ho ?_; try dsimp only)
  cbv
  (refine .r9 (Gh.back0 1 [3, 4, 5, 6] PelA rfl hy) ?_; cbv; exact .inl (.f9 hK))
 ·rw [getM_none hai] at hK
  cbv
  (refine .r9 (Gh.refl _) ?_; cbv; exact .inl (.g9 hK))
set_option maxHeartbeats 2000000
structure Ak where
 bill : ByteArray
 index : Int
 least : Int
 by_ : ByteArray
 state : Int
 day : Int
 dated : Bool
 wrong : Bool
def AkL : Ak → List AV
 | ⟨bill, index, least, by_, state, day, dated, wrong⟩ => [.str bill, .i index, .i least, .str by_, .i state, .i day, .bl dated, .bl wrong]
def OgA : Og → AV
 | ⟨s, h, c⟩ => .agg [.i s, .str h, .sl 4 (mapA EdA c)]
def lastM (o : Og) (issued : Int) : Int := match o.chain.getLast? with
 | some e => e.day
 | none => issued
def LastC : Ctr := spec (fun i : Og × Int => [OgA i.1, .i i.2]) (fun _ => []) (fun i => i.1.chain.length ≤ 5000) (fun i => .i (lastM i.1 i.2)) fun _ => []
theorem last_body (P : Program) : BodyOk P x117 LastC := by
 intro args H K hc; obtain ⟨⟨⟨s, h, c⟩, issued⟩, rfl, rfl, hp, hK⟩ := hc; refine ⟨nb9, ?_⟩; dsimp only at hp hK ⊢
 have hd : lastM ⟨s, h, c⟩ issued = match c.getLast? with
  | some e => e.day
  | none => issued := rfl
 obtain ⟨q, hq⟩ : ∃ x, x = (lastM ⟨s, h, c⟩ issued) := ⟨_, rfl⟩
 rw [← hq] at hK hd
 cbv; repeat' ((first | refine .mk (fun h => ?_) fun h => ?_ | refine .k fun z hz => ?_ | fail) <;> cbv)
 ·have e0 : c = [] := List.eq_nil_of_length_eq_zero om9
  exact FinK.mk ⟨_, Gh.refl _, .inl (.v9 (K_i hK (by (rw [hd, e0]; rfl))))⟩
 ·refine askEl_int om9 om9 fun i l hi hl => ?_
  obtain ⟨f, t, k, d⟩ := l
  cbv
  have hlast : c.getLast? = some ⟨f, t, k, d⟩ := by
   rw [List.getLast?_eq_getElem?]
   rw [show c.length - 1 = i by exact om9]
   exact hl
  exact FinK.mk ⟨_, Gh.refl _, .inl (.v9 (K_i hK (by (rw [hd, hlast]))))⟩
def hitB (idx : Int) (k : Int) : Bool := decide (idx = -1) || decide (idx = k)
def some3 (idx : Int) (b : Br) (p : Og → Bool) : Bool := (hitB idx 0 && p b.o0) || ((hitB idx 1 && p b.o1) || (hitB idx 2 && p b.o2))
def chOk (b : Br) : Prop := b.o0.chain.length ≤ 4500 ∧ b.o1.chain.length ≤ 4500 ∧ b.o2.chain.length ≤ 4500
def pState (a : Ak) (o : Og) : Bool := !decide (o.state = a.state)
def pHolder (a : Ak) (o : Og) : Bool := !decide (o.holder = a.by_)
def pDay (b : Br) (a : Ak) (o : Og) : Bool := decide (a.day < lastM o b.b.issued)
def CloA (p : Ak → Og → Bool) : Ctr := spec (fun i : Og × Ak => [OgA i.1, .ptr 0 0]) (fun i => [.blk 186 (AkL i.2)]) (fun _ => True) (fun i => .bl (p i.2 i.1)) fun i => [.blk 186 (AkL i.2)]
def AskH (b : Br) (a : Ak) : List Ent := [.blk 186 (AkL a), .blk 119 [.ptr 2 0]] ++ renH [] 2 (EntC b)
def CloE : Ctr := spec (fun i : Og × Br × Ak => [OgA i.1, .ptr 0 0, .ptr 1 0]) (fun i => AskH i.2.1 i.2.2) (fun i => i.1.chain.length ≤ 5000) (fun i => .bl (pDay i.2.1 i.2.2 i.1)) fun i => AskH i.2.1 i.2.2
theorem c41_body (P : Program) : BodyOk P x112 (CloA pState) := by
 intro args H K hc; obtain ⟨⟨⟨s, hl, c⟩, ⟨bill, index, least, by_, state, day, dated, wrong⟩⟩, rfl, rfl, hp, hK⟩ := hc; refine ⟨nb9, ?_⟩; dsimp only at hp hK ⊢
 unfold pState at hK
 dsimp only at hK
 cbv; repeat' ((first | refine .mk (fun h => ?_) fun h => ?_ | fail) <;> cbv)
 ·(refine .r9 (Gh.refl _) ?_; cbv; exact .inl (.f9 (K_bl hK (by rw [decide_eq_true h]; rfl))))
 ·(refine .r9 (Gh.refl _) ?_; cbv; exact .inl (.f9 (K_bl hK (by rw [decide_eq_false h]; rfl))))
theorem c51_body (P : Program) : BodyOk P x114 (CloA pHolder) := by
 intro args H K hc; obtain ⟨⟨⟨s, hl, c⟩, ⟨bill, index, least, by_, state, day, dated, wrong⟩⟩, rfl, rfl, hp, hK⟩ := hc; refine ⟨nb9, ?_⟩; dsimp only at hp hK ⊢
 unfold pHolder at hK
 dsimp only at hK
 cbv; repeat' ((first | refine .mk (fun h => ?_) fun h => ?_ | fail) <;> cbv)
 ·(refine .r9 (Gh.refl _) ?_; cbv; exact .inl (.f9 (K_bl hK (by rw [decide_eq_true h]; rfl))))
 ·(refine .r9 (Gh.refl _) ?_; cbv; exact .inl (.f9 (K_bl hK (by rw [decide_eq_false h]; rfl))))
theorem hitB_not {idx k : Int} (h : idx ≠ -1) (h2 : idx ≠ k) : hitB idx k = false := by unfold hitB; rw [decide_eq_false h, decide_eq_false h2]; rfl
theorem c61_body (P : Program) (hlast : FnOk P 117 LastC) : BodyOk P x116 CloE := by
 intro args H K hc
 obtain ⟨⟨⟨s, hl, c⟩, y, ⟨bill, index, least, by_, state, day, dated, wrong⟩⟩, rfl, rfl, hp, hK⟩ := hc
 obtain ⟨⟨nq1, cq1, sq1, frm1, to1, bq1, pq1, iq1, lq1⟩, st1, ⟨sa1, ha1, ca1⟩, ⟨sb1, hb1, cb1⟩, ⟨sc1, hc1, cc1⟩⟩ := y
 refine ⟨nb9, ?_⟩
 dsimp only at hp hK ⊢
 unfold pDay at hK
 dsimp only at hK
 obtain ⟨q, hq⟩ : ∃ x, x = (lastM ⟨s, hl, c⟩ iq1) := ⟨_, rfl⟩
 rw [← hq] at hK
 cbv
 (refine c09 hlast (⟨s, hl, c⟩, iq1) hp ?_; try dsimp only)
 rw [← hq]
 cbv; repeat' ((first | refine .mk (fun h => ?_) fun h => ?_ | fail) <;> cbv)
 ·(refine .r9 (Gh.refl _) ?_; cbv; exact .inl (.f9 (K_bl hK (by simp [h]))))
 ·(refine .r9 (Gh.refl _) ?_; cbv; exact .inl (.f9 (K_bl hK (by simp; omega))))
def SomeA (f : Nat) (p : Ak → Og → Bool) : Ctr := spec (fun i : Br × Int × Ak => [.ptr 0 0, .i i.2.1, .clo f [.ptr 4 0]]) (fun i => EntC i.1 ++ [.blk 186 (AkL i.2.2)]) (fun i => chOk i.1) (fun i => .bl (some3 i.2.1 i.1 (p i.2.2))) fun i => EntC i.1 ++ [.blk 186 (AkL i.2.2)]
theorem someA_body (P : Program) (f : Nat) (p : Ak → Og → Bool) (hcl : MayCall P f) (hf : FnOk P f (CloA p)) : BodyOk P x111 (SomeA f p) := by
 intro args H K hc
 obtain ⟨⟨y, idx, ⟨bill, index, least, by_, state, day, dated, wrong⟩⟩, rfl, rfl, hp, hK⟩ := hc
 obtain ⟨⟨nq1, cq1, sq1, frm1, to1, bq1, pq1, iq1, lq1⟩, st1, ⟨sa1, ha1, ca1⟩, ⟨sb1, hb1, cb1⟩, ⟨sc1, hc1, cc1⟩⟩ := y
 refine ⟨nb9, ?_⟩
 obtain ⟨hp0, hp1, hp2⟩ := hp
 dsimp only at hp0 hp1 hp2 hK ⊢
 unfold some3 at hK
 dsimp only at hK
 obtain ⟨q0, hq0⟩ : ∃ q, q = p ⟨bill, index, least, by_, state, day, dated, wrong⟩ ⟨sa1, ha1, ca1⟩ := ⟨_, rfl⟩
 obtain ⟨q1, hq1⟩ : ∃ q, q = p ⟨bill, index, least, by_, state, day, dated, wrong⟩ ⟨sb1, hb1, cb1⟩ := ⟨_, rfl⟩
 obtain ⟨q2, hq2⟩ : ∃ q, q = p ⟨bill, index, least, by_, state, day, dated, wrong⟩ ⟨sc1, hc1, cc1⟩ := ⟨_, rfl⟩
 rw [← hq0, ← hq1, ← hq2] at hK
 cbv
 refine xloopG Gh.viewT ?_
 cbv
 refine xloopV [] (fun p : { k : Nat // k ≤ 3 ∧ (1 ≤ k → (hitB idx 0 && q0) = false) ∧ (2 ≤ k → (hitB idx 1 && q1) = false) ∧ (3 ≤ k → (hitB idx 2 && q2) = false) } => [(13, .i (nI p.1))]) (fun _ => EntC ⟨⟨nq1, cq1, sq1, frm1, to1, bq1, pq1, iq1, lq1⟩, st1, ⟨sa1, ha1, ca1⟩, ⟨sb1, hb1, cb1⟩, ⟨sc1, hc1, cc1⟩⟩ ++ [.blk 186 (AkL ⟨bill, index, least, by_, state, day, dated, wrong⟩)]) (fun p => lft 3 p.1) ⟨0, by decide, fun h => absurd h (by decide), fun h => absurd h (by decide), fun h => absurd h (by decide)⟩ ?_
 rintro ⟨k, hk, g0, g1, g2⟩
 dsimp only at hk g0 g1 g2 ⊢
 have hk4 : k = 0 ∨ k = 1 ∨ k = 2 ∨ k = 3 := by omega
 rcases hk4 with rfl | rfl | rfl | rfl
 rotate_right
 ·have e0 := g0 (by decide)
  have e1 := g1 (by decide)
  have e2 := g2 (by decide)
  cbv; repeat' ((first | refine .n fun h => ?_ | fail) <;> cbv)
  (refine .r9 (Gh.refl _) ?_; cbv; exact .inl (.f9 (K_bl hK (by rw [e0, e1, e2]; rfl))))
 ·cbv; repeat' ((first | refine .n fun h => ?_ | refine .y fun h => ?_ | refine .mk (fun h => ?_) fun h => ?_ | refine .k fun z hz => ?_ | refine .o ?_ | refine And.intro ?_ ?_ | fail) <;> cbv)
  ·exact hcl
  ·(refine cs9 hf (⟨sa1, ha1, ca1⟩, ⟨bill, index, least, by_, state, day, dated, wrong⟩) [4] trivial ?_; try dsimp only)
   rw [← hq0]
   cases q0 with
   | true =>
    cbv
    (refine .r9 (Gh.refl _) ?_; cbv; exact .inl (.f9 (K_bl hK (by simp [hitB, h]))))
   | false =>
    cbv; repeat' ((first | refine .k fun z hz => ?_ | fail) <;> cbv)
    obtain rfl : z = nI 1 := om9
    exact roundV ⟨1, by decide, fun _ => Bool.and_false _, fun h => absurd h (by decide), fun h => absurd h (by decide)⟩ (lft_lt (by decide))
  ·exact hcl
  ·(refine cs9 hf (⟨sa1, ha1, ca1⟩, ⟨bill, index, least, by_, state, day, dated, wrong⟩) [4] trivial ?_; try dsimp only)
   rw [← hq0]
   cases q0 with
   | true =>
    cbv
    (refine .r9 (Gh.refl _) ?_; cbv; exact .inl (.f9 (K_bl hK (by simp [hitB, h]))))
   | false =>
    cbv; repeat' ((first | refine .k fun z hz => ?_ | fail) <;> cbv)
    obtain rfl : z = nI 1 := om9
    exact roundV ⟨1, by decide, fun _ => Bool.and_false _, fun h => absurd h (by decide), fun h => absurd h (by decide)⟩ (lft_lt (by decide))
  ·obtain rfl : z = nI 1 := om9
   exact roundV ⟨1, by decide, fun _ => by rw [hitB_not om9 om9]; rfl, fun h => absurd h (by decide), fun h => absurd h (by decide)⟩ (lft_lt (by decide))
 ·cbv; repeat' ((first | refine .n fun h => ?_ | refine .y fun h => ?_ | refine .mk (fun h => ?_) fun h => ?_ | refine .k fun z hz => ?_ | refine .o ?_ | refine And.intro ?_ ?_ | fail) <;> cbv)
  ·exact hcl
  ·(refine cs9 hf (⟨sb1, hb1, cb1⟩, ⟨bill, index, least, by_, state, day, dated, wrong⟩) [4] trivial ?_; try dsimp only)
   rw [← hq1]
   cases q1 with
   | true =>
    cbv
    (refine .r9 (Gh.refl _) ?_; cbv; exact .inl (.f9 (K_bl hK (by simp [hitB, h]))))
   | false =>
    cbv; repeat' ((first | refine .k fun z hz => ?_ | fail) <;> cbv)
    obtain rfl : z = nI 2 := om9
    exact roundV ⟨2, by decide, fun _ => g0 (by decide), fun _ => Bool.and_false _, fun h => absurd h (by decide)⟩ (lft_lt (by decide))
  ·exact hcl
  ·(refine cs9 hf (⟨sb1, hb1, cb1⟩, ⟨bill, index, least, by_, state, day, dated, wrong⟩) [4] trivial ?_; try dsimp only)
   rw [← hq1]
   cases q1 with
   | true =>
    cbv
    (refine .r9 (Gh.refl _) ?_; cbv; exact .inl (.f9 (K_bl hK (by simp [hitB, h]))))
   | false =>
    cbv; repeat' ((first | refine .k fun z hz => ?_ | fail) <;> cbv)
    obtain rfl : z = nI 2 := om9
    exact roundV ⟨2, by decide, fun _ => g0 (by decide), fun _ => Bool.and_false _, fun h => absurd h (by decide)⟩ (lft_lt (by decide))
  ·obtain rfl : z = nI 2 := om9
   exact roundV ⟨2, by decide, fun _ => g0 (by decide), fun _ => by rw [hitB_not om9 om9]; rfl, fun h => absurd h (by decide)⟩ (lft_lt (by decide))
 ·cbv; repeat' ((first | refine .y fun h => ?_ | refine .mk (fun h => ?_) fun h => ?_ | refine .k fun z hz => ?_ | refine .o ?_ | refine And.intro ?_ ?_ | fail) <;> cbv)
  ·exact hcl
  ·(refine cs9 hf (⟨sc1, hc1, cc1⟩, ⟨bill, index, least, by_, state, day, dated, wrong⟩) [4] trivial ?_; try dsimp only)
   rw [← hq2]
   cases q2 with
   | true =>
    cbv
    (refine .r9 (Gh.refl _) ?_; cbv; exact .inl (.f9 (K_bl hK (by simp [hitB, h]))))
   | false =>
    cbv; repeat' ((first | refine .k fun z hz => ?_ | fail) <;> cbv)
    obtain rfl : z = nI 3 := om9
    exact roundV ⟨3, by decide, fun _ => g0 (by decide), fun _ => g1 (by decide), fun _ => Bool.and_false _⟩ (lft_lt (by decide))
  ·exact hcl
  ·(refine cs9 hf (⟨sc1, hc1, cc1⟩, ⟨bill, index, least, by_, state, day, dated, wrong⟩) [4] trivial ?_; try dsimp only)
   rw [← hq2]
   cases q2 with
   | true =>
    cbv
    (refine .r9 (Gh.refl _) ?_; cbv; exact .inl (.f9 (K_bl hK (by simp [hitB, h]))))
   | false =>
    cbv; repeat' ((first | refine .k fun z hz => ?_ | fail) <;> cbv)
    obtain rfl : z = nI 3 := om9
    exact roundV ⟨3, by decide, fun _ => g0 (by decide), fun _ => g1 (by decide), fun _ => Bool.and_false _⟩ (lft_lt (by decide))
  ·obtain rfl : z = nI 3 := om9
   exact roundV ⟨3, by decide, fun _ => g0 (by decide), fun _ => g1 (by decide), fun _ => by rw [hitB_not om9 om9]; rfl⟩ (lft_lt (by decide))
def SomeE (f : Nat)  : Ctr := spec (fun i : Br × Int × Ak => [.ptr 0 0, .i i.2.1, .clo f [.ptr 4 0, .ptr 5 0]]) (fun i => EntC i.1 ++ [.blk 186 (AkL i.2.2), .blk 119 [.ptr 0 0]]) (fun i => chOk i.1) (fun i => .bl (some3 i.2.1 i.1 (pDay i.1 i.2.2))) fun i => EntC i.1 ++ [.blk 186 (AkL i.2.2), .blk 119 [.ptr 0 0]]
theorem someE_body (P : Program) (f : Nat)  (hcl : MayCall P f) (hf : FnOk P f CloE) : BodyOk P x111 (SomeE f) := by
 intro args H K hc
 obtain ⟨⟨y, idx, ⟨bill, index, least, by_, state, day, dated, wrong⟩⟩, rfl, rfl, hp, hK⟩ := hc
 obtain ⟨⟨nq1, cq1, sq1, frm1, to1, bq1, pq1, iq1, lq1⟩, st1, ⟨sa1, ha1, ca1⟩, ⟨sb1, hb1, cb1⟩, ⟨sc1, hc1, cc1⟩⟩ := y
 refine ⟨nb9, ?_⟩
 obtain ⟨hp0, hp1, hp2⟩ := hp
 dsimp only at hp0 hp1 hp2 hK ⊢
 unfold some3 at hK
 dsimp only at hK
 obtain ⟨q0, hq0⟩ : ∃ q, q = pDay ⟨⟨nq1, cq1, sq1, frm1, to1, bq1, pq1, iq1, lq1⟩, st1, ⟨sa1, ha1, ca1⟩, ⟨sb1, hb1, cb1⟩, ⟨sc1, hc1, cc1⟩⟩ ⟨bill, index, least, by_, state, day, dated, wrong⟩ ⟨sa1, ha1, ca1⟩ := ⟨_, rfl⟩
 obtain ⟨q1, hq1⟩ : ∃ q, q = pDay ⟨⟨nq1, cq1, sq1, frm1, to1, bq1, pq1, iq1, lq1⟩, st1, ⟨sa1, ha1, ca1⟩, ⟨sb1, hb1, cb1⟩, ⟨sc1, hc1, cc1⟩⟩ ⟨bill, index, least, by_, state, day, dated, wrong⟩ ⟨sb1, hb1, cb1⟩ := ⟨_, rfl⟩
 obtain ⟨q2, hq2⟩ : ∃ q, q = pDay ⟨⟨nq1, cq1, sq1, frm1, to1, bq1, pq1, iq1, lq1⟩, st1, ⟨sa1, ha1, ca1⟩, ⟨sb1, hb1, cb1⟩, ⟨sc1, hc1, cc1⟩⟩ ⟨bill, index, least, by_, state, day, dated, wrong⟩ ⟨sc1, hc1, cc1⟩ := ⟨_, rfl⟩
 rw [← hq0, ← hq1, ← hq2] at hK
 cbv
 refine xloopG Gh.viewT ?_
 cbv
 refine xloopV [] (fun p : { k : Nat // k ≤ 3 ∧ (1 ≤ k → (hitB idx 0 && q0) = false) ∧ (2 ≤ k → (hitB idx 1 && q1) = false) ∧ (3 ≤ k → (hitB idx 2 && q2) = false) } => [(13, .i (nI p.1))]) (fun _ => EntC ⟨⟨nq1, cq1, sq1, frm1, to1, bq1, pq1, iq1, lq1⟩, st1, ⟨sa1, ha1, ca1⟩, ⟨sb1, hb1, cb1⟩, ⟨sc1, hc1, cc1⟩⟩ ++ [.blk 186 (AkL ⟨bill, index, least, by_, state, day, dated, wrong⟩), .blk 119 [.ptr 0 0]]) (fun p => lft 3 p.1) ⟨0, by decide, fun h => absurd h (by decide), fun h => absurd h (by decide), fun h => absurd h (by decide)⟩ ?_
 rintro ⟨k, hk, g0, g1, g2⟩
 dsimp only at hk g0 g1 g2 ⊢
 have hk4 : k = 0 ∨ k = 1 ∨ k = 2 ∨ k = 3 := by omega
 rcases hk4 with rfl | rfl | rfl | rfl
 rotate_right
 ·have e0 := g0 (by decide)
  have e1 := g1 (by decide)
  have e2 := g2 (by decide)
  cbv; repeat' ((first | refine .n fun h => ?_ | fail) <;> cbv)
  (refine .r9 (Gh.refl _) ?_; cbv; exact .inl (.f9 (K_bl hK (by rw [e0, e1, e2]; rfl))))
 ·cbv; repeat' ((first | refine .n fun h => ?_ | refine .y fun h => ?_ | refine .mk (fun h => ?_) fun h => ?_ | refine .k fun z hz => ?_ | refine .o ?_ | refine And.intro ?_ ?_ | fail) <;> cbv)
  ·exact hcl
  ·(refine cs9 hf (⟨sa1, ha1, ca1⟩, ⟨⟨nq1, cq1, sq1, frm1, to1, bq1, pq1, iq1, lq1⟩, st1, ⟨sa1, ha1, ca1⟩, ⟨sb1, hb1, cb1⟩, ⟨sc1, hc1, cc1⟩⟩, ⟨bill, index, least, by_, state, day, dated, wrong⟩) [4, 5, 0, 1, 2, 3] (by dsimp only; omega) ?_; try dsimp only)
   rw [← hq0]
   cases q0 with
   | true =>
    cbv
    (refine .r9 (Gh.refl _) ?_; cbv; exact .inl (.f9 (K_bl hK (by simp [hitB, h]))))
   | false =>
    cbv; repeat' ((first | refine .k fun z hz => ?_ | fail) <;> cbv)
    obtain rfl : z = nI 1 := om9
    exact roundV ⟨1, by decide, fun _ => Bool.and_false _, fun h => absurd h (by decide), fun h => absurd h (by decide)⟩ (lft_lt (by decide))
  ·exact hcl
  ·(refine cs9 hf (⟨sa1, ha1, ca1⟩, ⟨⟨nq1, cq1, sq1, frm1, to1, bq1, pq1, iq1, lq1⟩, st1, ⟨sa1, ha1, ca1⟩, ⟨sb1, hb1, cb1⟩, ⟨sc1, hc1, cc1⟩⟩, ⟨bill, index, least, by_, state, day, dated, wrong⟩) [4, 5, 0, 1, 2, 3] (by dsimp only; omega) ?_; try dsimp only)
   rw [← hq0]
   cases q0 with
   | true =>
    cbv
    (refine .r9 (Gh.refl _) ?_; cbv; exact .inl (.f9 (K_bl hK (by simp [hitB, h]))))
   | false =>
    cbv; repeat' ((first | refine .k fun z hz => ?_ | fail) <;> cbv)
    obtain rfl : z = nI 1 := om9
    exact roundV ⟨1, by decide, fun _ => Bool.and_false _, fun h => absurd h (by decide), fun h => absurd h (by decide)⟩ (lft_lt (by decide))
  ·obtain rfl : z = nI 1 := om9
   exact roundV ⟨1, by decide, fun _ => by rw [hitB_not om9 om9]; rfl, fun h => absurd h (by decide), fun h => absurd h (by decide)⟩ (lft_lt (by decide))
 ·cbv; repeat' ((first | refine .n fun h => ?_ | refine .y fun h => ?_ | refine .mk (fun h => ?_) fun h => ?_ | refine .k fun z hz => ?_ | refine .o ?_ | refine And.intro ?_ ?_ | fail) <;> cbv)
  ·exact hcl
  ·(refine cs9 hf (⟨sb1, hb1, cb1⟩, ⟨⟨nq1, cq1, sq1, frm1, to1, bq1, pq1, iq1, lq1⟩, st1, ⟨sa1, ha1, ca1⟩, ⟨sb1, hb1, cb1⟩, ⟨sc1, hc1, cc1⟩⟩, ⟨bill, index, least, by_, state, day, dated, wrong⟩) [4, 5, 0, 1, 2, 3] (by dsimp only; omega) ?_; try dsimp only)
   rw [← hq1]
   cases q1 with
   | true =>
    cbv
    (refine .r9 (Gh.refl _) ?_; cbv; exact .inl (.f9 (K_bl hK (by simp [hitB, h]))))
   | false =>
    cbv; repeat' ((first | refine .k fun z hz => ?_ | fail) <;> cbv)
    obtain rfl : z = nI 2 := om9
    exact roundV ⟨2, by decide, fun _ => g0 (by decide), fun _ => Bool.and_false _, fun h => absurd h (by decide)⟩ (lft_lt (by decide))
  ·exact hcl
  ·(refine cs9 hf (⟨sb1, hb1, cb1⟩, ⟨⟨nq1, cq1, sq1, frm1, to1, bq1, pq1, iq1, lq1⟩, st1, ⟨sa1, ha1, ca1⟩, ⟨sb1, hb1, cb1⟩, ⟨sc1, hc1, cc1⟩⟩, ⟨bill, index, least, by_, state, day, dated, wrong⟩) [4, 5, 0, 1, 2, 3] (by dsimp only; omega) ?_; try dsimp only)
   rw [← hq1]
   cases q1 with
   | true =>
    cbv
    (refine .r9 (Gh.refl _) ?_; cbv; exact .inl (.f9 (K_bl hK (by simp [hitB, h]))))
   | false =>
    cbv; repeat' ((first | refine .k fun z hz => ?_ | fail) <;> cbv)
    obtain rfl : z = nI 2 := om9
    exact roundV ⟨2, by decide, fun _ => g0 (by decide), fun _ => Bool.and_false _, fun h => absurd h (by decide)⟩ (lft_lt (by decide))
  ·obtain rfl : z = nI 2 := om9
   exact roundV ⟨2, by decide, fun _ => g0 (by decide), fun _ => by rw [hitB_not om9 om9]; rfl, fun h => absurd h (by decide)⟩ (lft_lt (by decide))
 ·cbv; repeat' ((first | refine .y fun h => ?_ | refine .mk (fun h => ?_) fun h => ?_ | refine .k fun z hz => ?_ | refine .o ?_ | refine And.intro ?_ ?_ | fail) <;> cbv)
  ·exact hcl
  ·(refine cs9 hf (⟨sc1, hc1, cc1⟩, ⟨⟨nq1, cq1, sq1, frm1, to1, bq1, pq1, iq1, lq1⟩, st1, ⟨sa1, ha1, ca1⟩, ⟨sb1, hb1, cb1⟩, ⟨sc1, hc1, cc1⟩⟩, ⟨bill, index, least, by_, state, day, dated, wrong⟩) [4, 5, 0, 1, 2, 3] (by dsimp only; omega) ?_; try dsimp only)
   rw [← hq2]
   cases q2 with
   | true =>
    cbv
    (refine .r9 (Gh.refl _) ?_; cbv; exact .inl (.f9 (K_bl hK (by simp [hitB, h]))))
   | false =>
    cbv; repeat' ((first | refine .k fun z hz => ?_ | fail) <;> cbv)
    obtain rfl : z = nI 3 := om9
    exact roundV ⟨3, by decide, fun _ => g0 (by decide), fun _ => g1 (by decide), fun _ => Bool.and_false _⟩ (lft_lt (by decide))
  ·exact hcl
  ·(refine cs9 hf (⟨sc1, hc1, cc1⟩, ⟨⟨nq1, cq1, sq1, frm1, to1, bq1, pq1, iq1, lq1⟩, st1, ⟨sa1, ha1, ca1⟩, ⟨sb1, hb1, cb1⟩, ⟨sc1, hc1, cc1⟩⟩, ⟨bill, index, least, by_, state, day, dated, wrong⟩) [4, 5, 0, 1, 2, 3] (by dsimp only; omega) ?_; try dsimp only)
   rw [← hq2]
   cases q2 with
   | true =>
    cbv
    (refine .r9 (Gh.refl _) ?_; cbv; exact .inl (.f9 (K_bl hK (by simp [hitB, h]))))
   | false =>
    cbv; repeat' ((first | refine .k fun z hz => ?_ | fail) <;> cbv)
    obtain rfl : z = nI 3 := om9
    exact roundV ⟨3, by decide, fun _ => g0 (by decide), fun _ => g1 (by decide), fun _ => Bool.and_false _⟩ (lft_lt (by decide))
  ·obtain rfl : z = nI 3 := om9
   exact roundV ⟨3, by decide, fun _ => g0 (by decide), fun _ => g1 (by decide), fun _ => by rw [hitB_not om9 om9]; rfl⟩ (lft_lt (by decide))
end Go.Proofs.YtigdiekbiphhmaaGreatDoor
end
