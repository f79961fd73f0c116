/-
  Texts of this proof, joined: X, PA, PB, FEq, FKind, PC, PD, PE, PF, PG, PH, PI, PJ, PK, PL, PM, FTextRef, PN, PO, NumLaw, PQ, Itoa, PP, Y, PR.
-/
import Derived.Test.YtblkcnmecfppnaaGreatDoorJ3
import Derived.Lib.ParseIntBCases
import Derived.Lib.ItoaMem
import Derived.Shelf.Strconv.Itoa4
import Derived.Test.YtblkcnmecfppnaaGreatDoorChecked
import Derived.Lib.Walk
import Derived.Lib.AppendIntMem
import Derived.WalkKit
import Derived.BigCall
import Derived.BigGuard
set_option linter.unusedVariables false
set_option linter.unusedSimpArgs false
/-
  Functions of the program as code on abstract values (printed by xgen.sh).
-/
namespace Go.Proofs.YtblkcnmecfppnaaGreatDoor
def zs (d : Nat) (o : XOp) : XStep := ⟨some d, none, o⟩
def zm (d a : Nat) : XStep := ⟨some d, none, .mov (.t a)⟩
def zf (d f a : Nat) : XStep := ⟨some d, none, .fad f (.t a)⟩
def zl (d a : Nat) : XStep := ⟨some d, none, .ld false 1 (.t a)⟩
def zg (d g : Nat) (b : Bool) (o : XOp) : XStep := ⟨some d, some (g, b), o⟩
def zh (d g : Nat) (b : Bool) (a : Nat) : XStep := ⟨some d, some (g, b), .mov (.t a)⟩
def zn (o : XOp) : XStep := ⟨none, none, o⟩
def x3 : XFn := ⟨71, .seq (.reg [(zs 2 (.mov (.c (.bl false))))]) (.seq (.reg [(zs 3 (.mov (.c (.int .i64 0))))]) (.seq (.seq (.reg [(zm 10 0), (zs 11 (.lenl (.t 10))), (zs 12 (.mov (.c (.int .i64 0))))]) (.block 0 (.loop (.seq (.reg [(zs 13 (.cmp .lss (.t 12) (.t 11)))]) (.seq (.cond (.t 13) .skip (.exit 0)) (.seq (.block 1 (.seq (.reg [(zs 14 (.iad 2 (.t 10) (.t 12))), (zs 15 (.ld true 2 (.t 14))), (zs 5 (.alloc 24 [.str ⟨#[]⟩, .str ⟨#[]⟩])), (zn (.st 2 (.t 5) (.t 15)))]) (.seq (.reg [(zm 16 3), (zf 17 0 5), (zl 18 17), (zs 19 (.lens (.t 18))), (zf 20 1 5), (zl 21 20), (zs 22 (.lens (.t 21))), (zs 23 (.ari .add .i64 (.t 19) (.t 22))), (zs 24 (.ari .add .i64 (.t 16) (.t 23))), (zm 3 24)]) (.seq (.reg [(zm 25 3), (zs 26 (.cmp .gtr (.t 25) (.c (.int .i64 9000))))]) (.cond (.t 26) (.seq (.reg [(zs 27 (.call 6 [])), (zm 2 27)]) .ret) .skip))))) (.reg [(zs 28 (.ari .add .i64 (.t 12) (.c (.int .i64 1)))), (zm 12 28)]))))))) (.seq (.seq (.reg [(zm 29 0), (zs 30 (.lenl (.t 29))), (zs 31 (.cmp .gtr (.t 30) (.c (.int .i64 80))))]) (.cond (.t 31) (.seq (.reg [(zs 32 (.call 6 [])), (zm 2 32)]) .ret) .skip)) (.seq (.reg [(zm 34 0), (zs 35 (.call 7 [.t 34])), (zm 33 35), (zs 36 (.ext (.t 33) 0)), (zs 37 (.ext (.t 33) 1)), (zs 6 (.alloc 31 [.str ⟨#[]⟩, .str ⟨#[]⟩, .int .i64 0, .int .i64 0, .int .i64 0, .str ⟨#[]⟩, .str ⟨#[]⟩, .str ⟨#[]⟩, .int .i64 0, .int .i64 0, .str ⟨#[]⟩, .int .i64 0, .v (.slice none 0 0), .v (.slice none 0 0)])), (zn (.st 14 (.t 6) (.t 36))), (zm 7 37)]) (.seq (.reg [(zm 39 0), (zs 40 (.call 8 [.t 39])), (zm 38 40), (zs 41 (.ext (.t 38) 0)), (zs 42 (.ext (.t 38) 1)), (zs 8 (.alloc 31 [.str ⟨#[]⟩, .str ⟨#[]⟩, .int .i64 0, .int .i64 0, .int .i64 0, .str ⟨#[]⟩, .str ⟨#[]⟩, .str ⟨#[]⟩, .int .i64 0, .int .i64 0, .str ⟨#[]⟩, .int .i64 0, .v (.slice none 0 0), .v (.slice none 0 0)])), (zn (.st 14 (.t 8) (.t 41))), (zm 9 42)]) (.seq (.seq (.reg [(zm 43 9), (zs 44 (.not (.t 43)))]) (.cond (.t 44) (.seq (.reg [(zs 45 (.ld true 14 (.t 6))), (zs 46 (.bld [.str ⟨#[]⟩, .str ⟨#[]⟩, .int .i64 0, .int .i64 0, .int .i64 0, .str ⟨#[]⟩, .str ⟨#[]⟩, .str ⟨#[]⟩, .int .i64 0, .int .i64 0, .str ⟨#[]⟩, .int .i64 0, .v (.slice none 0 0), .v (.slice none 0 0)] [])), (zs 47 (.call 9 [.t 45, .t 46])), (zm 48 47), (zh 49 48 true 7), (zg 50 48 true (.cmp .eql (.t 49) (.c (.int .i64 2)))), (zs 51 (.pick (.t 48) (.t 50) (.c (.bl false)))), (zm 52 51), (zg 53 52 true (.call 6 [])), (zs 54 (.pick (.t 52) (.t 53) (.c (.bl false)))), (zm 2 54)]) .ret) .skip)) (.seq (.reg [(zs 55 (.ld true 14 (.t 6))), (zs 56 (.ld true 14 (.t 8))), (zs 57 (.call 9 [.t 55, .t 56])), (zm 58 57), (zh 59 58 true 7), (zg 60 58 true (.cmp .eql (.t 59) (.c (.int .i64 0)))), (zs 61 (.pick (.t 58) (.t 60) (.c (.bl false)))), (zm 62 61), (zg 63 62 true (.ld true 14 (.t 6))), (zg 64 62 true (.call 11 [.t 63])), (zh 65 62 true 0), (zg 66 62 true (.call 10 [.t 64, .t 65])), (zs 67 (.pick (.t 62) (.t 66) (.c (.bl false)))), (zm 68 67), (zg 69 68 true (.call 6 [])), (zs 70 (.pick (.t 68) (.t 69) (.c (.bl false)))), (zm 2 70)]) .ret))))))), [.tmp 2]⟩
def x4 : XFn := ⟨66, .seq (.reg [(zs 1 (.box 31 (.t 0))), (zs 2 (.mov (.c (.bl false))))]) (.seq (.seq (.reg [(zs 10 (.ld true 14 (.t 1))), (zs 11 (.call 12 [.t 10])), (zs 12 (.not (.t 11)))]) (.cond (.t 12) (.seq (.reg [(zs 13 (.call 6 [])), (zm 2 13)]) .ret) .skip)) (.seq (.reg [(zs 15 (.ld true 14 (.t 1))), (zs 16 (.call 13 [.t 15])), (zm 14 16), (zs 17 (.ext (.t 14) 0)), (zs 18 (.ext (.t 14) 1)), (zm 3 17), (zm 4 18)]) (.seq (.seq (.reg [(zs 19 (.ld true 14 (.t 1))), (zs 20 (.call 14 [.t 19])), (zs 21 (.not (.t 20)))]) (.cond (.t 21) (.seq (.reg [(zm 22 3), (zs 23 (.cmp .eql (.t 22) (.c (.str ⟨#[]⟩)))), (zm 24 23), (zh 25 24 true 4), (zg 26 24 true (.cmp .eql (.t 25) (.c (.int .i64 1)))), (zs 27 (.pick (.t 24) (.t 26) (.c (.bl false)))), (zm 28 27), (zg 29 28 true (.call 6 [])), (zs 30 (.pick (.t 28) (.t 29) (.c (.bl false)))), (zm 2 30)]) .ret) .skip)) (.seq (.reg [(zs 32 (.ld true 14 (.t 1))), (zs 33 (.call 16 [.t 32])), (zs 34 (.call 15 [.t 33])), (zm 31 34), (zs 35 (.ext (.t 31) 0)), (zs 36 (.ext (.t 31) 1)), (zm 5 35), (zm 6 36)]) (.seq (.reg [(zm 38 3), (zs 39 (.call 17 [.t 38])), (zm 37 39), (zs 40 (.ext (.t 37) 0)), (zs 41 (.ext (.t 37) 1)), (zs 42 (.ext (.t 37) 2)), (zs 7 (.alloc 31 [.str ⟨#[]⟩, .str ⟨#[]⟩, .int .i64 0, .int .i64 0, .int .i64 0, .str ⟨#[]⟩, .str ⟨#[]⟩, .str ⟨#[]⟩, .int .i64 0, .int .i64 0, .str ⟨#[]⟩, .int .i64 0, .v (.slice none 0 0), .v (.slice none 0 0)])), (zn (.st 14 (.t 7) (.t 40))), (zm 8 41), (zm 9 42)]) (.seq (.reg [(zm 43 3), (zm 44 5), (zs 45 (.cmp .eql (.t 43) (.t 44))), (zm 46 45), (zh 47 46 true 4), (zg 48 46 true (.cmp .eql (.t 47) (.c (.int .i64 0)))), (zs 49 (.pick (.t 46) (.t 48) (.c (.bl false)))), (zm 50 49), (zg 51 50 true (.ld true 14 (.t 7))), (zg 52 50 true (.ld true 14 (.t 1))), (zg 53 50 true (.call 9 [.t 51, .t 52])), (zs 54 (.pick (.t 50) (.t 53) (.c (.bl false)))), (zm 55 54), (zh 56 55 true 8), (zg 57 55 true (.cmp .eql (.t 56) (.c (.int .i64 0)))), (zs 58 (.pick (.t 55) (.t 57) (.c (.bl false)))), (zm 59 58), (zh 60 59 true 9), (zg 61 59 true (.cmp .eql (.t 60) (.c (.int .i64 0)))), (zs 62 (.pick (.t 59) (.t 61) (.c (.bl false)))), (zm 63 62), (zg 64 63 true (.call 6 [])), (zs 65 (.pick (.t 63) (.t 64) (.c (.bl false)))), (zm 2 65)]) .ret)))))), [.tmp 2]⟩
def x5 : XFn := ⟨96, .seq (.reg [(zs 2 (.mov (.c (.bl false))))]) (.seq (.seq (.reg [(zm 13 0), (zs 14 (.lens (.t 13))), (zs 15 (.cmp .gtr (.t 14) (.c (.int .i64 9000))))]) (.cond (.t 15) (.seq (.reg [(zs 16 (.call 6 [])), (zm 2 16)]) .ret) .skip)) (.seq (.reg [(zm 18 0), (zs 19 (.call 17 [.t 18])), (zm 17 19), (zs 20 (.ext (.t 17) 0)), (zs 21 (.ext (.t 17) 1)), (zs 22 (.ext (.t 17) 2)), (zs 3 (.alloc 31 [.str ⟨#[]⟩, .str ⟨#[]⟩, .int .i64 0, .int .i64 0, .int .i64 0, .str ⟨#[]⟩, .str ⟨#[]⟩, .str ⟨#[]⟩, .int .i64 0, .int .i64 0, .str ⟨#[]⟩, .int .i64 0, .v (.slice none 0 0), .v (.slice none 0 0)])), (zn (.st 14 (.t 3) (.t 20))), (zm 4 21), (zm 5 22)]) (.seq (.reg [(zm 24 0), (zs 25 (.call 18 [.t 24])), (zm 23 25), (zs 26 (.ext (.t 23) 0)), (zs 27 (.ext (.t 23) 1)), (zs 28 (.ext (.t 23) 2)), (zm 6 26), (zm 7 27), (zm 8 28)]) (.seq (.seq (.reg [(zm 29 8), (zs 30 (.cmp .neq (.t 29) (.c (.int .i64 0))))]) (.cond (.t 30) (.seq (.reg [(zs 31 (.ld true 14 (.t 3))), (zs 32 (.bld [.str ⟨#[]⟩, .str ⟨#[]⟩, .int .i64 0, .int .i64 0, .int .i64 0, .str ⟨#[]⟩, .str ⟨#[]⟩, .str ⟨#[]⟩, .int .i64 0, .int .i64 0, .str ⟨#[]⟩, .int .i64 0, .v (.slice none 0 0), .v (.slice none 0 0)] [])), (zs 33 (.call 9 [.t 31, .t 32])), (zm 34 33), (zh 35 34 true 4), (zh 36 34 true 7), (zg 37 34 true (.cmp .eql (.t 35) (.t 36))), (zs 38 (.pick (.t 34) (.t 37) (.c (.bl false)))), (zm 39 38), (zh 40 39 true 5), (zh 41 39 true 8), (zg 42 39 true (.cmp .eql (.t 40) (.t 41))), (zs 43 (.pick (.t 39) (.t 42) (.c (.bl false)))), (zm 44 43), (zg 45 44 true (.call 6 [])), (zs 46 (.pick (.t 44) (.t 45) (.c (.bl false)))), (zm 2 46)]) .ret) .skip)) (.seq (.reg [(zm 48 6), (zs 49 (.call 8 [.t 48])), (zm 47 49), (zs 50 (.ext (.t 47) 0)), (zs 51 (.ext (.t 47) 1)), (zs 9 (.alloc 31 [.str ⟨#[]⟩, .str ⟨#[]⟩, .int .i64 0, .int .i64 0, .int .i64 0, .str ⟨#[]⟩, .str ⟨#[]⟩, .str ⟨#[]⟩, .int .i64 0, .int .i64 0, .str ⟨#[]⟩, .int .i64 0, .v (.slice none 0 0), .v (.slice none 0 0)])), (zn (.st 14 (.t 9) (.t 50))), (zm 10 51)]) (.seq (.seq (.reg [(zm 52 10), (zs 53 (.not (.t 52)))]) (.cond (.t 53) (.seq (.reg [(zs 54 (.ld true 14 (.t 3))), (zs 55 (.bld [.str ⟨#[]⟩, .str ⟨#[]⟩, .int .i64 0, .int .i64 0, .int .i64 0, .str ⟨#[]⟩, .str ⟨#[]⟩, .str ⟨#[]⟩, .int .i64 0, .int .i64 0, .str ⟨#[]⟩, .int .i64 0, .v (.slice none 0 0), .v (.slice none 0 0)] [])), (zs 56 (.call 9 [.t 54, .t 55])), (zm 57 56), (zh 58 57 true 4), (zg 59 57 true (.cmp .eql (.t 58) (.c (.int .i64 0)))), (zs 60 (.pick (.t 57) (.t 59) (.c (.bl false)))), (zm 61 60), (zh 62 61 true 5), (zg 63 61 true (.cmp .eql (.t 62) (.c (.int .i64 2)))), (zs 64 (.pick (.t 61) (.t 63) (.c (.bl false)))), (zm 65 64), (zg 66 65 true (.call 6 [])), (zs 67 (.pick (.t 65) (.t 66) (.c (.bl false)))), (zm 2 67)]) .ret) .skip)) (.seq (.reg [(zs 69 (.ld true 14 (.t 3))), (zs 70 (.call 13 [.t 69])), (zm 68 70), (zs 71 (.ext (.t 68) 0)), (zs 72 (.ext (.t 68) 1)), (zm 11 71), (zm 12 72)]) (.seq (.reg [(zs 73 (.ld true 14 (.t 3))), (zs 74 (.ld true 14 (.t 9))), (zs 75 (.call 9 [.t 73, .t 74])), (zm 76 75), (zh 77 76 true 4), (zg 78 76 true (.cmp .eql (.t 77) (.c (.int .i64 0)))), (zs 79 (.pick (.t 76) (.t 78) (.c (.bl false)))), (zm 80 79), (zh 81 80 true 5), (zg 82 80 true (.cmp .eql (.t 81) (.c (.int .i64 0)))), (zs 83 (.pick (.t 80) (.t 82) (.c (.bl false)))), (zm 84 83), (zh 85 84 true 12), (zg 86 84 true (.cmp .eql (.t 85) (.c (.int .i64 0)))), (zs 87 (.pick (.t 84) (.t 86) (.c (.bl false)))), (zm 88 87), (zh 89 88 true 11), (zh 90 88 true 0), (zg 91 88 true (.cmp .eql (.t 89) (.t 90))), (zs 92 (.pick (.t 88) (.t 91) (.c (.bl false)))), (zm 93 92), (zg 94 93 true (.call 6 [])), (zs 95 (.pick (.t 93) (.t 94) (.c (.bl false)))), (zm 2 95)]) .ret)))))))), [.tmp 2]⟩
def x6 : XFn := ⟨37, .seq (.reg [(zs 0 (.mov (.c (.bl false))))]) (.seq (.reg [(zs 6 (.bld [.str ⟨#[]⟩, .str ⟨#[]⟩, .int .i64 0, .int .i64 0, .int .i64 0, .str ⟨#[]⟩, .str ⟨#[]⟩, .str ⟨#[]⟩, .int .i64 0, .int .i64 0, .str ⟨#[]⟩, .int .i64 0, .v (.slice none 0 0), .v (.slice none 0 0)] [(0, (1, .c (.str ⟨#[97]⟩))), (1, (1, .c (.str ⟨#[98]⟩))), (3, (1, .c (.int .i64 28))), (4, (1, .c (.int .i64 3)))])), (zs 7 (.call 13 [.t 6])), (zm 5 7), (zs 8 (.ext (.t 5) 0)), (zs 9 (.ext (.t 5) 1)), (zm 1 8), (zm 2 9)]) (.seq (.reg [(zs 11 (.call 19 [.c (.str ⟨#[97, 99, 107]⟩)])), (zm 10 11), (zs 12 (.ext (.t 10) 0)), (zs 13 (.ext (.t 10) 1)), (zm 3 12), (zm 4 13)]) (.seq (.reg [(zm 14 2), (zs 15 (.cmp .eql (.t 14) (.c (.int .i64 0)))), (zm 16 15), (zh 17 16 true 1), (zg 18 16 true (.lens (.t 17))), (zg 19 16 true (.cmp .gtr (.t 18) (.c (.int .i64 12)))), (zs 20 (.pick (.t 16) (.t 19) (.c (.bl false)))), (zm 21 20), (zh 22 21 true 1), (zg 23 21 true (.sls (.t 22) none (some (.c (.int .i64 12))))), (zg 24 21 true (.cmp .eql (.t 23) (.c (.str ⟨#[102, 114, 111, 109, 61, 97, 10, 116, 111, 61, 98, 10]⟩)))), (zs 25 (.pick (.t 21) (.t 24) (.c (.bl false)))), (zm 26 25), (zg 27 26 true (.call 20 [.c (.int .i64 0)])), (zg 28 26 true (.cmp .eql (.t 27) (.c (.str ⟨#[111, 114, 100, 101, 114]⟩)))), (zs 29 (.pick (.t 26) (.t 28) (.c (.bl false)))), (zm 30 29), (zh 31 30 true 3), (zg 32 30 true (.cmp .eql (.t 31) (.c (.int .i64 28)))), (zs 33 (.pick (.t 30) (.t 32) (.c (.bl false)))), (zm 34 33), (zh 35 34 true 4), (zs 36 (.pick (.t 34) (.t 35) (.c (.bl false)))), (zm 0 36)]) .ret))), [.tmp 0]⟩
def x7 : XFn := ⟨115, .seq (.reg [(zs 2 (.alloc 31 [.str ⟨#[]⟩, .str ⟨#[]⟩, .int .i64 0, .int .i64 0, .int .i64 0, .str ⟨#[]⟩, .str ⟨#[]⟩, .str ⟨#[]⟩, .int .i64 0, .int .i64 0, .str ⟨#[]⟩, .int .i64 0, .v (.slice none 0 0), .v (.slice none 0 0)])), (zs 3 (.mov (.c (.int .i64 0))))]) (.seq (.reg [(zs 4 (.alloc 31 [.str ⟨#[]⟩, .str ⟨#[]⟩, .int .i64 0, .int .i64 0, .int .i64 0, .str ⟨#[]⟩, .str ⟨#[]⟩, .str ⟨#[]⟩, .int .i64 0, .int .i64 0, .str ⟨#[]⟩, .int .i64 0, .v (.slice none 0 0), .v (.slice none 0 0)]))]) (.seq (.reg [(zs 14 (.call 21 [.t 4])), (zm 5 14)]) (.seq (.seq (.reg [(zm 15 0), (zs 16 (.lenl (.t 15))), (zm 17 5), (zs 18 (.lenl (.t 17))), (zs 19 (.cmp .lss (.t 16) (.t 18))), (zm 20 19), (zh 21 20 false 0), (zg 22 20 false (.lenl (.t 21))), (zh 23 20 false 5), (zg 24 20 false (.lenl (.t 23))), (zg 25 20 false (.ari .add .i64 (.t 24) (.c (.int .i64 8)))), (zg 26 20 false (.ari .add .i64 (.t 25) (.c (.int .i64 32)))), (zg 27 20 false (.cmp .gtr (.t 22) (.t 26))), (zs 28 (.pick (.t 20) (.c (.bl true)) (.t 27)))]) (.cond (.t 28) (.seq (.reg [(zs 29 (.bld [.str ⟨#[]⟩, .str ⟨#[]⟩, .int .i64 0, .int .i64 0, .int .i64 0, .str ⟨#[]⟩, .str ⟨#[]⟩, .str ⟨#[]⟩, .int .i64 0, .int .i64 0, .str ⟨#[]⟩, .int .i64 0, .v (.slice none 0 0), .v (.slice none 0 0)] [])), (zn (.st 14 (.t 2) (.t 29))), (zs 3 (.mov (.c (.int .i64 2))))]) .ret) .skip)) (.seq (.seq (.reg [(zm 30 5), (zs 31 (.lenl (.t 30))), (zs 32 (.mov (.c (.int .i64 0))))]) (.block 0 (.loop (.seq (.reg [(zs 33 (.cmp .lss (.t 32) (.t 31)))]) (.seq (.cond (.t 33) .skip (.exit 0)) (.seq (.block 1 (.seq (.reg [(zm 34 32), (zs 35 (.iad 2 (.t 30) (.t 32))), (zs 36 (.ld true 2 (.t 35))), (zs 7 (.alloc 58 [.str ⟨#[]⟩, .v .nilFunc])), (zm 6 34), (zn (.st 2 (.t 7) (.t 36)))]) (.seq (.dreg (.take 0 (zm 37 0) (.take 1 (zm 38 6) (.take 2 (zs 39 (.iad 2 (.t 37) (.t 38))) (.take 3 (zf 40 0 39) (.take 4 (zl 41 40) (.take 5 (zf 42 0 7) (.take 6 (zl 43 42) (.take 7 (zs 44 (.cmp .neq (.t 41) (.t 43))) (.take 8 (zm 45 44) (.take 9 (zg 46 45 false (.fad 1 (.t 7))) (.take 10 (zg 47 45 false (.ld false 1 (.t 46))) (.take 11 (zh 48 45 false 0) (.take 12 (zh 49 45 false 6) (.take 13 (zg 50 45 false (.iad 2 (.t 48) (.t 49))) (.take 14 (zg 51 45 false (.fad 1 (.t 50))) (.take 15 (zg 52 45 false (.ld false 1 (.t 51))) (.eff 16 0 false (zg 53 45 false (.cav (.t 47) [.t 52])) (.phase [4, 6, 10, 15] (.take 17 (zg 54 45 false (.not (.t 53))) (.take 18 (zs 55 (.pick (.t 45) (.c (.bl true)) (.t 54))) .nil)))))))))))))))))))) 0 [0, 7]) (.cond (.t 55) (.seq (.reg [(zs 56 (.bld [.str ⟨#[]⟩, .str ⟨#[]⟩, .int .i64 0, .int .i64 0, .int .i64 0, .str ⟨#[]⟩, .str ⟨#[]⟩, .str ⟨#[]⟩, .int .i64 0, .int .i64 0, .str ⟨#[]⟩, .int .i64 0, .v (.slice none 0 0), .v (.slice none 0 0)] [])), (zn (.st 14 (.t 2) (.t 56))), (zs 3 (.mov (.c (.int .i64 2))))]) .ret) .skip)))) (.reg [(zs 57 (.ari .add .i64 (.t 32) (.c (.int .i64 1)))), (zm 32 57)]))))))) (.seq (.reg [(zm 58 0), (zm 59 5), (zs 60 (.lenl (.t 59))), (zs 61 (.sli 2 (.t 58) (some (.t 60)) none)), (zm 8 61)]) (.seq (.block 2 (.loop (.seq (.seq (.reg [(zm 62 8), (zs 63 (.lenl (.t 62))), (zs 64 (.cmp .gtr (.t 63) (.c (.int .i64 0)))), (zm 65 64), (zh 66 65 true 8), (zg 67 65 true (.iad 2 (.t 66) (.c (.int .i64 0)))), (zg 68 65 true (.fad 0 (.t 67))), (zg 69 65 true (.ld false 1 (.t 68))), (zg 70 65 true (.cmp .eql (.t 69) (.c (.str ⟨#[100, 111, 99]⟩)))), (zs 71 (.pick (.t 65) (.t 70) (.c (.bl false))))]) (.cond (.t 71) .skip (.exit 2))) (.block 3 (.seq (.reg [(zm 73 8), (zs 74 (.iad 2 (.t 73) (.c (.int .i64 0)))), (zf 75 1 74), (zl 76 75), (zs 77 (.call 22 [.t 76])), (zm 72 77), (zs 78 (.ext (.t 72) 0)), (zs 79 (.ext (.t 72) 1)), (zs 80 (.ext (.t 72) 2)), (zs 9 (.alloc 60 [.int .i64 0, .str ⟨#[]⟩, .str ⟨#[]⟩, .v (.slice none 0 0)])), (zn (.st 4 (.t 9) (.t 78))), (zm 10 79), (zm 11 80)]) (.seq (.seq (.reg [(zm 81 11), (zs 82 (.cmp .neq (.t 81) (.c (.int .i64 0))))]) (.cond (.t 82) (.seq (.reg [(zs 83 (.bld [.str ⟨#[]⟩, .str ⟨#[]⟩, .int .i64 0, .int .i64 0, .int .i64 0, .str ⟨#[]⟩, .str ⟨#[]⟩, .str ⟨#[]⟩, .int .i64 0, .int .i64 0, .str ⟨#[]⟩, .int .i64 0, .v (.slice none 0 0), .v (.slice none 0 0)] [])), (zn (.st 14 (.t 2) (.t 83))), (zs 3 (.mov (.c (.int .i64 2))))]) .ret) .skip)) (.seq (.reg [(zf 84 12 4), (zl 85 84), (zs 86 (.ld true 4 (.t 9))), (zs 87 (.bsl 60 4 1 [.int .i64 0, .str ⟨#[]⟩, .str ⟨#[]⟩, .v (.slice none 0 0)] [(0, .t 86)])), (zs 88 (.app 28 28 60 4 64 (.t 85) (.t 87))), (zf 89 12 4), (zn (.st 1 (.t 89) (.t 88)))]) (.reg [(zm 90 8), (zs 91 (.sli 2 (.t 90) (some (.c (.int .i64 1))) none)), (zm 8 91)])))))))) (.seq (.seq (.reg [(zm 92 8), (zs 93 (.lenl (.t 92))), (zs 94 (.mov (.c (.int .i64 0))))]) (.block 4 (.loop (.seq (.reg [(zs 95 (.cmp .lss (.t 94) (.t 93)))]) (.seq (.cond (.t 95) .skip (.exit 4)) (.seq (.block 5 (.seq (.reg [(zs 96 (.iad 2 (.t 92) (.t 94))), (zs 97 (.ld true 2 (.t 96))), (zs 13 (.alloc 24 [.str ⟨#[]⟩, .str ⟨#[]⟩])), (zn (.st 2 (.t 13) (.t 97)))]) (.seq (.seq (.reg [(zf 98 0 13), (zl 99 98), (zs 100 (.cmp .neq (.t 99) (.c (.str ⟨#[98, 111, 120]⟩))))]) (.cond (.t 100) (.seq (.reg [(zs 101 (.bld [.str ⟨#[]⟩, .str ⟨#[]⟩, .int .i64 0, .int .i64 0, .int .i64 0, .str ⟨#[]⟩, .str ⟨#[]⟩, .str ⟨#[]⟩, .int .i64 0, .int .i64 0, .str ⟨#[]⟩, .int .i64 0, .v (.slice none 0 0), .v (.slice none 0 0)] [])), (zn (.st 14 (.t 2) (.t 101))), (zs 3 (.mov (.c (.int .i64 2))))]) .ret) .skip)) (.reg [(zf 102 13 4), (zl 103 102), (zf 104 1 13), (zl 105 104), (zs 106 (.bsl 9 1 1 [.str ⟨#[]⟩] [(0, .t 105)])), (zs 107 (.app 29 29 9 1 16 (.t 103) (.t 106))), (zf 108 13 4), (zn (.st 1 (.t 108) (.t 107)))])))) (.reg [(zs 109 (.ari .add .i64 (.t 94) (.c (.int .i64 1)))), (zm 94 109)]))))))) (.seq (.seq (.reg [(zs 110 (.ld true 14 (.t 4))), (zs 111 (.call 23 [.t 110])), (zs 112 (.not (.t 111)))]) (.cond (.t 112) (.seq (.reg [(zs 113 (.bld [.str ⟨#[]⟩, .str ⟨#[]⟩, .int .i64 0, .int .i64 0, .int .i64 0, .str ⟨#[]⟩, .str ⟨#[]⟩, .str ⟨#[]⟩, .int .i64 0, .int .i64 0, .str ⟨#[]⟩, .int .i64 0, .v (.slice none 0 0), .v (.slice none 0 0)] [])), (zn (.st 14 (.t 2) (.t 113))), (zs 3 (.mov (.c (.int .i64 2))))]) .ret) .skip)) (.seq (.reg [(zs 114 (.ld true 14 (.t 4))), (zn (.st 14 (.t 2) (.t 114))), (zs 3 (.mov (.c (.int .i64 0))))]) .ret))))))))), [.cell 2 true 14, .tmp 3]⟩
def x8 : XFn := ⟨142, .seq (.reg [(zs 2 (.alloc 31 [.str ⟨#[]⟩, .str ⟨#[]⟩, .int .i64 0, .int .i64 0, .int .i64 0, .str ⟨#[]⟩, .str ⟨#[]⟩, .str ⟨#[]⟩, .int .i64 0, .int .i64 0, .str ⟨#[]⟩, .int .i64 0, .v (.slice none 0 0), .v (.slice none 0 0)])), (zs 3 (.mov (.c (.bl false))))]) (.seq (.seq (.reg [(zm 11 0), (zs 12 (.lenl (.t 11))), (zs 13 (.cmp .lss (.t 12) (.c (.int .i64 11)))), (zm 14 13), (zh 15 14 false 0), (zg 16 14 false (.lenl (.t 15))), (zg 17 14 false (.cmp .gtr (.t 16) (.c (.int .i64 64)))), (zs 18 (.pick (.t 14) (.c (.bl true)) (.t 17)))]) (.cond (.t 18) (.seq (.reg [(zs 19 (.bld [.str ⟨#[]⟩, .str ⟨#[]⟩, .int .i64 0, .int .i64 0, .int .i64 0, .str ⟨#[]⟩, .str ⟨#[]⟩, .str ⟨#[]⟩, .int .i64 0, .int .i64 0, .str ⟨#[]⟩, .int .i64 0, .v (.slice none 0 0), .v (.slice none 0 0)] [])), (zn (.st 14 (.t 2) (.t 19))), (zs 3 (.mov (.c (.bl false))))]) .ret) .skip)) (.seq (.dreg (.take 0 (zm 20 0) (.take 1 (zs 21 (.iad 2 (.t 20) (.c (.int .i64 0)))) (.take 2 (zf 22 1 21) (.take 3 (zl 23 22) (.take 4 (zm 24 0) (.take 5 (zs 25 (.iad 2 (.t 24) (.c (.int .i64 1)))) (.take 6 (zf 26 1 25) (.take 7 (zl 27 26) (.take 8 (zm 28 0) (.take 9 (zs 29 (.iad 2 (.t 28) (.c (.int .i64 2)))) (.take 10 (zs 30 (.ld true 2 (.t 29))) (.take 12 (zm 32 0) (.take 13 (zs 33 (.iad 2 (.t 32) (.c (.int .i64 4)))) (.take 14 (zs 34 (.ld true 2 (.t 33))) (.take 16 (zm 36 0) (.take 17 (zs 37 (.iad 2 (.t 36) (.c (.int .i64 5)))) (.take 18 (zf 38 1 37) (.take 19 (zl 39 38) (.take 20 (zm 40 0) (.take 21 (zs 41 (.iad 2 (.t 40) (.c (.int .i64 6)))) (.take 22 (zf 42 1 41) (.take 23 (zl 43 42) (.take 24 (zm 44 0) (.take 25 (zs 45 (.iad 2 (.t 44) (.c (.int .i64 7)))) (.take 26 (zf 46 1 45) (.take 27 (zl 47 46) (.take 28 (zm 48 0) (.take 29 (zs 49 (.iad 2 (.t 48) (.c (.int .i64 8)))) (.take 30 (zs 50 (.ld true 2 (.t 49))) (.take 32 (zm 52 0) (.take 33 (zs 53 (.iad 2 (.t 52) (.c (.int .i64 9)))) (.take 34 (zs 54 (.ld true 2 (.t 53))) (.fork (.eff 11 0 true (zs 31 (.call 24 [.t 30])) (.fork (.eff 15 0 true (zs 35 (.call 24 [.t 34])) (.fork (.eff 31 0 true (zs 51 (.call 24 [.t 50])) (.fork (.eff 35 0 true (zs 55 (.call 24 [.t 54])) (.take 36 (zs 56 (.bld [.str ⟨#[]⟩, .str ⟨#[]⟩, .int .i64 0, .int .i64 0, .int .i64 0, .str ⟨#[]⟩, .str ⟨#[]⟩, .str ⟨#[]⟩, .int .i64 0, .int .i64 0, .str ⟨#[]⟩, .int .i64 0, .v (.slice none 0 0), .v (.slice none 0 0)] [(0, (1, .t 23)), (1, (1, .t 27)), (2, (1, .t 31)), (3, (1, .c (.int .i64 (-1)))), (4, (1, .t 35)), (5, (1, .t 39)), (6, (1, .t 43)), (7, (1, .t 47)), (8, (1, .t 51)), (9, (1, .t 55))])) (.eff 37 0 true (zs 4 (.alloc 31 [.str ⟨#[]⟩, .str ⟨#[]⟩, .int .i64 0, .int .i64 0, .int .i64 0, .str ⟨#[]⟩, .str ⟨#[]⟩, .str ⟨#[]⟩, .int .i64 0, .int .i64 0, .str ⟨#[]⟩, .int .i64 0, .v (.slice none 0 0), .v (.slice none 0 0)])) (.eff 38 1 false (zn (.st 14 (.t 4) (.t 56))) (.phase [3, 7, 10, 14, 19, 23, 27, 30, 34] .nil))))) (.eff 37 0 true (zs 4 (.alloc 31 [.str ⟨#[]⟩, .str ⟨#[]⟩, .int .i64 0, .int .i64 0, .int .i64 0, .str ⟨#[]⟩, .str ⟨#[]⟩, .str ⟨#[]⟩, .int .i64 0, .int .i64 0, .str ⟨#[]⟩, .int .i64 0, .v (.slice none 0 0), .v (.slice none 0 0)])) (.eff 35 0 true (zs 55 (.call 24 [.t 54])) (.take 36 (zs 56 (.bld [.str ⟨#[]⟩, .str ⟨#[]⟩, .int .i64 0, .int .i64 0, .int .i64 0, .str ⟨#[]⟩, .str ⟨#[]⟩, .str ⟨#[]⟩, .int .i64 0, .int .i64 0, .str ⟨#[]⟩, .int .i64 0, .v (.slice none 0 0), .v (.slice none 0 0)] [(0, (1, .t 23)), (1, (1, .t 27)), (2, (1, .t 31)), (3, (1, .c (.int .i64 (-1)))), (4, (1, .t 35)), (5, (1, .t 39)), (6, (1, .t 43)), (7, (1, .t 47)), (8, (1, .t 51)), (9, (1, .t 55))])) (.eff 38 1 false (zn (.st 14 (.t 4) (.t 56))) (.phase [3, 7, 10, 14, 19, 23, 27, 30, 34] .nil))))))) (.eff 37 0 true (zs 4 (.alloc 31 [.str ⟨#[]⟩, .str ⟨#[]⟩, .int .i64 0, .int .i64 0, .int .i64 0, .str ⟨#[]⟩, .str ⟨#[]⟩, .str ⟨#[]⟩, .int .i64 0, .int .i64 0, .str ⟨#[]⟩, .int .i64 0, .v (.slice none 0 0), .v (.slice none 0 0)])) (.eff 31 0 true (zs 51 (.call 24 [.t 50])) (.eff 35 0 true (zs 55 (.call 24 [.t 54])) (.take 36 (zs 56 (.bld [.str ⟨#[]⟩, .str ⟨#[]⟩, .int .i64 0, .int .i64 0, .int .i64 0, .str ⟨#[]⟩, .str ⟨#[]⟩, .str ⟨#[]⟩, .int .i64 0, .int .i64 0, .str ⟨#[]⟩, .int .i64 0, .v (.slice none 0 0), .v (.slice none 0 0)] [(0, (1, .t 23)), (1, (1, .t 27)), (2, (1, .t 31)), (3, (1, .c (.int .i64 (-1)))), (4, (1, .t 35)), (5, (1, .t 39)), (6, (1, .t 43)), (7, (1, .t 47)), (8, (1, .t 51)), (9, (1, .t 55))])) (.eff 38 1 false (zn (.st 14 (.t 4) (.t 56))) (.phase [3, 7, 10, 14, 19, 23, 27, 30, 34] .nil)))))))) (.eff 37 0 true (zs 4 (.alloc 31 [.str ⟨#[]⟩, .str ⟨#[]⟩, .int .i64 0, .int .i64 0, .int .i64 0, .str ⟨#[]⟩, .str ⟨#[]⟩, .str ⟨#[]⟩, .int .i64 0, .int .i64 0, .str ⟨#[]⟩, .int .i64 0, .v (.slice none 0 0), .v (.slice none 0 0)])) (.eff 15 0 true (zs 35 (.call 24 [.t 34])) (.eff 31 0 true (zs 51 (.call 24 [.t 50])) (.eff 35 0 true (zs 55 (.call 24 [.t 54])) (.take 36 (zs 56 (.bld [.str ⟨#[]⟩, .str ⟨#[]⟩, .int .i64 0, .int .i64 0, .int .i64 0, .str ⟨#[]⟩, .str ⟨#[]⟩, .str ⟨#[]⟩, .int .i64 0, .int .i64 0, .str ⟨#[]⟩, .int .i64 0, .v (.slice none 0 0), .v (.slice none 0 0)] [(0, (1, .t 23)), (1, (1, .t 27)), (2, (1, .t 31)), (3, (1, .c (.int .i64 (-1)))), (4, (1, .t 35)), (5, (1, .t 39)), (6, (1, .t 43)), (7, (1, .t 47)), (8, (1, .t 51)), (9, (1, .t 55))])) (.eff 38 1 false (zn (.st 14 (.t 4) (.t 56))) (.phase [3, 7, 10, 14, 19, 23, 27, 30, 34] .nil))))))))) (.eff 37 0 true (zs 4 (.alloc 31 [.str ⟨#[]⟩, .str ⟨#[]⟩, .int .i64 0, .int .i64 0, .int .i64 0, .str ⟨#[]⟩, .str ⟨#[]⟩, .str ⟨#[]⟩, .int .i64 0, .int .i64 0, .str ⟨#[]⟩, .int .i64 0, .v (.slice none 0 0), .v (.slice none 0 0)])) (.eff 11 0 true (zs 31 (.call 24 [.t 30])) (.eff 15 0 true (zs 35 (.call 24 [.t 34])) (.eff 31 0 true (zs 51 (.call 24 [.t 50])) (.eff 35 0 true (zs 55 (.call 24 [.t 54])) (.take 36 (zs 56 (.bld [.str ⟨#[]⟩, .str ⟨#[]⟩, .int .i64 0, .int .i64 0, .int .i64 0, .str ⟨#[]⟩, .str ⟨#[]⟩, .str ⟨#[]⟩, .int .i64 0, .int .i64 0, .str ⟨#[]⟩, .int .i64 0, .v (.slice none 0 0), .v (.slice none 0 0)] [(0, (1, .t 23)), (1, (1, .t 27)), (2, (1, .t 31)), (3, (1, .c (.int .i64 (-1)))), (4, (1, .t 35)), (5, (1, .t 39)), (6, (1, .t 43)), (7, (1, .t 47)), (8, (1, .t 51)), (9, (1, .t 55))])) (.eff 38 1 false (zn (.st 14 (.t 4) (.t 56))) (.phase [3, 7, 10, 14, 19, 23, 27, 30, 34] .nil))))))))))))))))))))))))))))))))))))))))) 1 [0]) (.seq (.reg [(zs 57 (.call 25 [])), (zm 5 57)]) (.seq (.seq (.reg [(zs 6 (.mov (.c (.int .i64 0))))]) (.block 0 (.loop (.seq (.seq (.reg [(zm 58 6), (zm 59 5), (zs 60 (.lenl (.t 59))), (zs 61 (.cmp .lss (.t 58) (.t 60)))]) (.cond (.t 61) .skip (.exit 0))) (.seq (.block 1 (.seq (.dreg (.take 0 (zm 64 5) (.take 1 (zm 65 6) (.take 2 (zs 66 (.iad 1 (.t 64) (.t 65))) (.take 3 (zl 67 66) (.take 4 (zm 68 0) (.take 5 (zs 69 (.iad 2 (.t 68) (.c (.int .i64 3)))) (.take 6 (zf 70 1 69) (.take 7 (zl 71 70) (.take 8 (zs 72 (.cmp .eql (.t 67) (.t 71))) .nil))))))))) 0 [5, 0]) (.cond (.t 72) (.reg [(zm 73 6), (zf 74 3 4), (zn (.st 1 (.t 74) (.t 73)))]) .skip))) (.reg [(zm 62 6), (zs 63 (.ari .add .i64 (.t 62) (.c (.int .i64 1)))), (zm 6 63)])))))) (.seq (.seq (.reg [(zm 75 0), (zs 76 (.iad 2 (.t 75) (.c (.int .i64 10)))), (zf 77 1 76), (zl 78 77), (zs 79 (.cmp .neq (.t 78) (.c (.str ⟨#[]⟩))))]) (.cond (.t 79) (.reg [(zm 81 0), (zs 82 (.iad 2 (.t 81) (.c (.int .i64 10)))), (zf 83 1 82), (zl 84 83), (zs 85 (.call 26 [.t 84])), (zm 80 85), (zs 86 (.ext (.t 80) 0)), (zs 87 (.ext (.t 80) 1)), (zf 88 10 4), (zn (.st 2 (.t 88) (.t 86)))]) .skip)) (.seq (.seq (.reg [(zs 7 (.mov (.c (.int .i64 11))))]) (.block 2 (.loop (.seq (.seq (.reg [(zm 89 7), (zm 90 0), (zs 91 (.lenl (.t 90))), (zs 92 (.cmp .lss (.t 89) (.t 91)))]) (.cond (.t 92) .skip (.exit 2))) (.seq (.block 3 (.seq (.seq (.reg [(zm 95 0), (zm 96 7), (zs 97 (.iad 2 (.t 95) (.t 96))), (zf 98 0 97), (zl 99 98), (zs 100 (.cmp .eql (.t 99) (.c (.str ⟨#[98, 111, 120]⟩))))]) (.cond (.t 100) (.seq (.dreg (.take 0 (zf 101 13 4) (.take 1 (zl 102 101) (.take 2 (zm 103 0) (.take 3 (zm 104 7) (.take 4 (zs 105 (.iad 2 (.t 103) (.t 104))) (.take 5 (zf 106 1 105) (.take 6 (zl 107 106) (.eff 7 0 true (zs 108 (.bsl 9 1 1 [.str ⟨#[]⟩] [(0, .t 107)])) (.eff 8 1 false (zs 109 (.app 29 29 9 1 16 (.t 102) (.t 108))) (.phase [1, 6] (.take 9 (zf 110 13 4) (.eff 10 2 false (zn (.st 1 (.t 110) (.t 109))) (.phase [1, 6] .nil))))))))))))) 2 [4, 0]) (.exit 3)) .skip)) (.seq (.reg [(zm 112 0), (zm 113 7), (zs 114 (.iad 2 (.t 112) (.t 113))), (zf 115 1 114), (zl 116 115), (zs 117 (.call 27 [.t 116])), (zm 111 117), (zs 118 (.ext (.t 111) 0)), (zs 119 (.ext (.t 111) 1)), (zs 120 (.ext (.t 111) 2)), (zs 8 (.alloc 60 [.int .i64 0, .str ⟨#[]⟩, .str ⟨#[]⟩, .v (.slice none 0 0)])), (zn (.st 4 (.t 8) (.t 118))), (zm 9 119), (zm 10 120)]) (.seq (.seq (.reg [(zm 121 10), (zs 122 (.cmp .neq (.t 121) (.c (.int .i64 0))))]) (.cond (.t 122) (.seq (.reg [(zs 123 (.bld [.str ⟨#[]⟩, .str ⟨#[]⟩, .int .i64 0, .int .i64 0, .int .i64 0, .str ⟨#[]⟩, .str ⟨#[]⟩, .str ⟨#[]⟩, .int .i64 0, .int .i64 0, .str ⟨#[]⟩, .int .i64 0, .v (.slice none 0 0), .v (.slice none 0 0)] [])), (zn (.st 14 (.t 2) (.t 123))), (zs 3 (.mov (.c (.bl false))))]) .ret) .skip)) (.reg [(zf 124 12 4), (zl 125 124), (zs 126 (.ld true 4 (.t 8))), (zs 127 (.bsl 60 4 1 [.int .i64 0, .str ⟨#[]⟩, .str ⟨#[]⟩, .v (.slice none 0 0)] [(0, .t 126)])), (zs 128 (.app 28 28 60 4 64 (.t 125) (.t 127))), (zf 129 12 4), (zn (.st 1 (.t 129) (.t 128)))]))))) (.reg [(zm 93 7), (zs 94 (.ari .add .i64 (.t 93) (.c (.int .i64 1)))), (zm 7 94)])))))) (.seq (.seq (.reg [(zs 130 (.ld true 14 (.t 4))), (zs 131 (.call 14 [.t 130])), (zs 132 (.not (.t 131))), (zm 133 132), (zg 134 133 false (.ld true 14 (.t 4))), (zg 135 133 false (.call 16 [.t 134])), (zh 136 133 false 0), (zg 137 133 false (.call 10 [.t 135, .t 136])), (zg 138 133 false (.not (.t 137))), (zs 139 (.pick (.t 133) (.c (.bl true)) (.t 138)))]) (.cond (.t 139) (.seq (.reg [(zs 140 (.bld [.str ⟨#[]⟩, .str ⟨#[]⟩, .int .i64 0, .int .i64 0, .int .i64 0, .str ⟨#[]⟩, .str ⟨#[]⟩, .str ⟨#[]⟩, .int .i64 0, .int .i64 0, .str ⟨#[]⟩, .int .i64 0, .v (.slice none 0 0), .v (.slice none 0 0)] [])), (zn (.st 14 (.t 2) (.t 140))), (zs 3 (.mov (.c (.bl false))))]) .ret) .skip)) (.seq (.reg [(zs 141 (.ld true 14 (.t 4))), (zn (.st 14 (.t 2) (.t 141))), (zs 3 (.mov (.c (.bl true))))]) .ret)))))))), [.cell 2 true 14, .tmp 3]⟩
def x9 : XFn := ⟨137, .seq (.reg [(zs 2 (.box 31 (.t 0))), (zs 3 (.box 31 (.t 1))), (zs 4 (.mov (.c (.bl false))))]) (.seq (.seq (.reg [(zf 7 0 2), (zl 8 7), (zf 9 0 3), (zl 10 9), (zs 11 (.cmp .neq (.t 8) (.t 10))), (zm 12 11), (zg 13 12 false (.fad 1 (.t 2))), (zg 14 12 false (.ld false 1 (.t 13))), (zg 15 12 false (.fad 1 (.t 3))), (zg 16 12 false (.ld false 1 (.t 15))), (zg 17 12 false (.cmp .neq (.t 14) (.t 16))), (zs 18 (.pick (.t 12) (.c (.bl true)) (.t 17))), (zm 19 18), (zg 20 19 false (.fad 2 (.t 2))), (zg 21 19 false (.ld false 1 (.t 20))), (zg 22 19 false (.fad 2 (.t 3))), (zg 23 19 false (.ld false 1 (.t 22))), (zg 24 19 false (.cmp .neq (.t 21) (.t 23))), (zs 25 (.pick (.t 19) (.c (.bl true)) (.t 24))), (zm 26 25), (zg 27 26 false (.fad 3 (.t 2))), (zg 28 26 false (.ld false 1 (.t 27))), (zg 29 26 false (.fad 3 (.t 3))), (zg 30 26 false (.ld false 1 (.t 29))), (zg 31 26 false (.cmp .neq (.t 28) (.t 30))), (zs 32 (.pick (.t 26) (.c (.bl true)) (.t 31))), (zm 33 32), (zg 34 33 false (.fad 4 (.t 2))), (zg 35 33 false (.ld false 1 (.t 34))), (zg 36 33 false (.fad 4 (.t 3))), (zg 37 33 false (.ld false 1 (.t 36))), (zg 38 33 false (.cmp .neq (.t 35) (.t 37))), (zs 39 (.pick (.t 33) (.c (.bl true)) (.t 38))), (zm 40 39), (zg 41 40 false (.fad 5 (.t 2))), (zg 42 40 false (.ld false 1 (.t 41))), (zg 43 40 false (.fad 5 (.t 3))), (zg 44 40 false (.ld false 1 (.t 43))), (zg 45 40 false (.cmp .neq (.t 42) (.t 44))), (zs 46 (.pick (.t 40) (.c (.bl true)) (.t 45))), (zm 47 46), (zg 48 47 false (.fad 6 (.t 2))), (zg 49 47 false (.ld false 1 (.t 48))), (zg 50 47 false (.fad 6 (.t 3))), (zg 51 47 false (.ld false 1 (.t 50))), (zg 52 47 false (.cmp .neq (.t 49) (.t 51))), (zs 53 (.pick (.t 47) (.c (.bl true)) (.t 52))), (zm 54 53), (zg 55 54 false (.fad 7 (.t 2))), (zg 56 54 false (.ld false 1 (.t 55))), (zg 57 54 false (.fad 7 (.t 3))), (zg 58 54 false (.ld false 1 (.t 57))), (zg 59 54 false (.cmp .neq (.t 56) (.t 58))), (zs 60 (.pick (.t 54) (.c (.bl true)) (.t 59))), (zm 61 60), (zg 62 61 false (.fad 8 (.t 2))), (zg 63 61 false (.ld false 1 (.t 62))), (zg 64 61 false (.fad 8 (.t 3))), (zg 65 61 false (.ld false 1 (.t 64))), (zg 66 61 false (.cmp .neq (.t 63) (.t 65))), (zs 67 (.pick (.t 61) (.c (.bl true)) (.t 66))), (zm 68 67), (zg 69 68 false (.fad 9 (.t 2))), (zg 70 68 false (.ld false 1 (.t 69))), (zg 71 68 false (.fad 9 (.t 3))), (zg 72 68 false (.ld false 1 (.t 71))), (zg 73 68 false (.cmp .neq (.t 70) (.t 72))), (zs 74 (.pick (.t 68) (.c (.bl true)) (.t 73))), (zm 75 74), (zg 76 75 false (.fad 10 (.t 2))), (zg 77 75 false (.ld true 2 (.t 76))), (zg 78 75 false (.fad 10 (.t 3))), (zg 79 75 false (.ld true 2 (.t 78))), (zg 80 75 false (.cms true [1, 0] (.t 77) (.t 79))), (zs 81 (.pick (.t 75) (.c (.bl true)) (.t 80))), (zm 82 81), (zg 83 82 false (.fad 12 (.t 2))), (zg 84 82 false (.ld false 1 (.t 83))), (zg 85 82 false (.lenl (.t 84))), (zg 86 82 false (.fad 12 (.t 3))), (zg 87 82 false (.ld false 1 (.t 86))), (zg 88 82 false (.lenl (.t 87))), (zg 89 82 false (.cmp .neq (.t 85) (.t 88))), (zs 90 (.pick (.t 82) (.c (.bl true)) (.t 89))), (zm 91 90), (zg 92 91 false (.fad 13 (.t 2))), (zg 93 91 false (.ld false 1 (.t 92))), (zg 94 91 false (.lenl (.t 93))), (zg 95 91 false (.fad 13 (.t 3))), (zg 96 91 false (.ld false 1 (.t 95))), (zg 97 91 false (.lenl (.t 96))), (zg 98 91 false (.cmp .neq (.t 94) (.t 97))), (zs 99 (.pick (.t 91) (.c (.bl true)) (.t 98)))]) (.cond (.t 99) (.seq (.reg [(zs 4 (.mov (.c (.bl false))))]) .ret) .skip)) (.seq (.seq (.reg [(zs 5 (.mov (.c (.int .i64 0))))]) (.block 0 (.loop (.seq (.seq (.reg [(zm 100 5), (zf 101 12 2), (zl 102 101), (zs 103 (.lenl (.t 102))), (zs 104 (.cmp .lss (.t 100) (.t 103)))]) (.cond (.t 104) .skip (.exit 0))) (.seq (.block 1 (.seq (.dreg (.take 0 (zf 107 12 2) (.take 1 (zl 108 107) (.take 2 (zm 109 5) (.take 3 (zs 110 (.iad 4 (.t 108) (.t 109))) (.take 4 (zs 111 (.ld true 4 (.t 110))) (.take 5 (zf 112 12 3) (.take 6 (zl 113 112) (.take 7 (zm 114 5) (.take 8 (zs 115 (.iad 4 (.t 113) (.t 114))) (.take 9 (zs 116 (.ld true 4 (.t 115))) (.eff 10 0 false (zs 117 (.call 28 [.t 111, .t 116])) (.phase [1, 4, 6, 9] (.take 11 (zs 118 (.not (.t 117))) .nil))))))))))))) 0 [2, 3]) (.cond (.t 118) (.seq (.reg [(zs 4 (.mov (.c (.bl false))))]) .ret) .skip))) (.reg [(zm 105 5), (zs 106 (.ari .add .i64 (.t 105) (.c (.int .i64 1)))), (zm 5 106)])))))) (.seq (.seq (.reg [(zs 6 (.mov (.c (.int .i64 0))))]) (.block 2 (.loop (.seq (.seq (.reg [(zm 119 6), (zf 120 13 2), (zl 121 120), (zs 122 (.lenl (.t 121))), (zs 123 (.cmp .lss (.t 119) (.t 122)))]) (.cond (.t 123) .skip (.exit 2))) (.seq (.block 3 (.seq (.dreg (.take 0 (zf 126 13 2) (.take 1 (zl 127 126) (.take 2 (zm 128 6) (.take 3 (zs 129 (.iad 1 (.t 127) (.t 128))) (.take 4 (zl 130 129) (.take 5 (zf 131 13 3) (.take 6 (zl 132 131) (.take 7 (zm 133 6) (.take 8 (zs 134 (.iad 1 (.t 132) (.t 133))) (.take 9 (zl 135 134) (.take 10 (zs 136 (.cmp .neq (.t 130) (.t 135))) .nil))))))))))) 0 [2, 3]) (.cond (.t 136) (.seq (.reg [(zs 4 (.mov (.c (.bl false))))]) .ret) .skip))) (.reg [(zm 124 6), (zs 125 (.ari .add .i64 (.t 124) (.c (.int .i64 1)))), (zm 6 125)])))))) (.seq (.reg [(zs 4 (.mov (.c (.bl true))))]) .ret)))), [.tmp 4]⟩
def x10 : XFn := ⟨26, .seq (.reg [(zs 4 (.mov (.c (.bl false))))]) (.seq (.seq (.reg [(zm 6 0), (zs 7 (.lenl (.t 6))), (zm 8 1), (zs 9 (.lenl (.t 8))), (zs 10 (.cmp .neq (.t 7) (.t 9)))]) (.cond (.t 10) (.seq (.reg [(zs 4 (.mov (.c (.bl false))))]) .ret) .skip)) (.seq (.seq (.reg [(zs 5 (.mov (.c (.int .i64 0))))]) (.block 0 (.loop (.seq (.seq (.reg [(zm 11 5), (zm 12 0), (zs 13 (.lenl (.t 12))), (zs 14 (.cmp .lss (.t 11) (.t 13)))]) (.cond (.t 14) .skip (.exit 0))) (.seq (.block 1 (.seq (.dreg (.take 0 (zm 17 0) (.take 1 (zm 18 5) (.take 2 (zs 19 (.iad 2 (.t 17) (.t 18))) (.take 3 (zs 20 (.ld true 2 (.t 19))) (.take 4 (zm 21 1) (.take 5 (zm 22 5) (.take 6 (zs 23 (.iad 2 (.t 21) (.t 22))) (.take 7 (zs 24 (.ld true 2 (.t 23))) (.take 8 (zs 25 (.cms true [1, 1] (.t 20) (.t 24))) .nil))))))))) 0 [0, 1]) (.cond (.t 25) (.seq (.reg [(zs 4 (.mov (.c (.bl false))))]) .ret) .skip))) (.reg [(zm 15 5), (zs 16 (.ari .add .i64 (.t 15) (.c (.int .i64 1)))), (zm 5 16)])))))) (.seq (.reg [(zs 4 (.mov (.c (.bl true))))]) .ret))), [.tmp 4]⟩
def x11 : XFn := ⟨85, .seq (.reg [(zs 1 (.box 31 (.t 0))), (zs 2 (.mov (.c (.v (.slice none 0 0)))))]) (.seq (.seq (.reg [(zs 10 (.ld true 14 (.t 1))), (zs 11 (.call 23 [.t 10])), (zs 12 (.not (.t 11)))]) (.cond (.t 12) (.seq (.reg [(zs 2 (.mov (.c (.v (.slice none 0 0)))))]) .ret) .skip)) (.seq (.dreg (.take 0 (zf 13 0 1) (.take 1 (zl 14 13) (.take 2 (zs 15 (.bld [.str ⟨#[]⟩, .str ⟨#[]⟩] [(0, (1, .c (.str ⟨#[102, 114, 111, 109]⟩))), (1, (1, .t 14))])) (.take 3 (zf 16 1 1) (.take 4 (zl 17 16) (.take 5 (zs 18 (.bld [.str ⟨#[]⟩, .str ⟨#[]⟩] [(0, (1, .c (.str ⟨#[116, 111]⟩))), (1, (1, .t 17))])) (.take 6 (zf 19 2 1) (.take 7 (zl 20 19) (.take 10 (zf 23 3 1) (.take 11 (zl 24 23) (.take 14 (zf 27 4 1) (.take 15 (zl 28 27) (.take 18 (zf 31 5 1) (.take 19 (zl 32 31) (.take 20 (zs 33 (.bld [.str ⟨#[]⟩, .str ⟨#[]⟩] [(0, (1, .c (.str ⟨#[100, 101, 97, 108]⟩))), (1, (1, .t 32))])) (.take 21 (zf 34 6 1) (.take 22 (zl 35 34) (.take 23 (zs 36 (.bld [.str ⟨#[]⟩, .str ⟨#[]⟩] [(0, (1, .c (.str ⟨#[116, 101, 120, 116]⟩))), (1, (1, .t 35))])) (.take 24 (zf 37 7 1) (.take 25 (zl 38 37) (.take 26 (zs 39 (.bld [.str ⟨#[]⟩, .str ⟨#[]⟩] [(0, (1, .c (.str ⟨#[112, 97, 114, 116, 121]⟩))), (1, (1, .t 38))])) (.take 27 (zf 40 8 1) (.take 28 (zl 41 40) (.take 31 (zf 44 9 1) (.take 32 (zl 45 44) (.take 35 (zf 48 10 1) (.take 36 (zs 49 (.ld true 2 (.t 48))) (.eff 8 0 true (zs 21 (.call 29 [.t 20])) (.take 9 (zs 22 (.bld [.str ⟨#[]⟩, .str ⟨#[]⟩] [(0, (1, .c (.str ⟨#[110, 117, 109, 98, 101, 114]⟩))), (1, (1, .t 21))])) (.eff 12 0 true (zs 25 (.call 20 [.t 24])) (.take 13 (zs 26 (.bld [.str ⟨#[]⟩, .str ⟨#[]⟩] [(0, (1, .c (.str ⟨#[107, 105, 110, 100]⟩))), (1, (1, .t 25))])) (.eff 16 0 true (zs 29 (.call 29 [.t 28])) (.take 17 (zs 30 (.bld [.str ⟨#[]⟩, .str ⟨#[]⟩] [(0, (1, .c (.str ⟨#[97, 99, 107]⟩))), (1, (1, .t 29))])) (.eff 29 0 true (zs 42 (.call 29 [.t 41])) (.take 30 (zs 43 (.bld [.str ⟨#[]⟩, .str ⟨#[]⟩] [(0, (1, .c (.str ⟨#[105, 110, 100, 101, 120]⟩))), (1, (1, .t 42))])) (.eff 33 0 true (zs 46 (.call 29 [.t 45])) (.take 34 (zs 47 (.bld [.str ⟨#[]⟩, .str ⟨#[]⟩] [(0, (1, .c (.str ⟨#[100, 97, 121]⟩))), (1, (1, .t 46))])) (.eff 37 0 true (zs 50 (.call 30 [.t 49])) (.take 38 (zs 51 (.bld [.str ⟨#[]⟩, .str ⟨#[]⟩] [(0, (1, .c (.str ⟨#[115, 117, 109]⟩))), (1, (1, .t 50))])) (.eff 39 0 false (zs 52 (.bsl 24 2 11 [.str ⟨#[]⟩, .str ⟨#[]⟩] [(0, .t 15), (1, .t 18), (2, .t 22), (3, .t 26), (4, .t 30), (5, .t 33), (6, .t 36), (7, .t 39), (8, .t 43), (9, .t 47), (10, .t 51)])) (.phase [1, 4, 7, 11, 15, 19, 22, 25, 28, 32, 36] (.take 40 (zm 3 52) .nil)))))))))))))))))))))))))))))))))))))))))) 1 [1]) (.seq (.seq (.reg [(zf 53 12 1), (zl 54 53), (zs 55 (.lenl (.t 54))), (zs 56 (.mov (.c (.int .i64 0))))]) (.block 0 (.loop (.seq (.reg [(zs 57 (.cmp .lss (.t 56) (.t 55)))]) (.seq (.cond (.t 57) .skip (.exit 0)) (.seq (.block 1 (.seq (.reg [(zs 58 (.iad 4 (.t 54) (.t 56))), (zs 59 (.ld true 4 (.t 58))), (zs 5 (.alloc 60 [.int .i64 0, .str ⟨#[]⟩, .str ⟨#[]⟩, .v (.slice none 0 0)])), (zn (.st 4 (.t 5) (.t 59)))]) (.seq (.reg [(zs 61 (.ld true 4 (.t 5))), (zs 62 (.call 31 [.t 61])), (zm 60 62), (zs 63 (.ext (.t 60) 0)), (zs 64 (.ext (.t 60) 1)), (zm 6 63), (zm 7 64)]) (.reg [(zm 65 3), (zm 66 6), (zs 67 (.bld [.str ⟨#[]⟩, .str ⟨#[]⟩] [(0, (1, .c (.str ⟨#[100, 111, 99]⟩))), (1, (1, .t 66))])), (zs 68 (.bsl 24 2 1 [.str ⟨#[]⟩, .str ⟨#[]⟩] [(0, .t 67)])), (zs 69 (.app 22 22 24 2 32 (.t 65) (.t 68))), (zm 3 69)])))) (.reg [(zs 70 (.ari .add .i64 (.t 56) (.c (.int .i64 1)))), (zm 56 70)]))))))) (.seq (.seq (.reg [(zf 71 13 1), (zl 72 71), (zs 73 (.lenl (.t 72))), (zs 74 (.mov (.c (.int .i64 0))))]) (.block 2 (.loop (.seq (.reg [(zs 75 (.cmp .lss (.t 74) (.t 73)))]) (.seq (.cond (.t 75) .skip (.exit 2)) (.seq (.block 3 (.seq (.reg [(zs 76 (.iad 1 (.t 72) (.t 74))), (zl 77 76), (zm 9 77)]) (.reg [(zm 78 3), (zm 79 9), (zs 80 (.bld [.str ⟨#[]⟩, .str ⟨#[]⟩] [(0, (1, .c (.str ⟨#[98, 111, 120]⟩))), (1, (1, .t 79))])), (zs 81 (.bsl 24 2 1 [.str ⟨#[]⟩, .str ⟨#[]⟩] [(0, .t 80)])), (zs 82 (.app 22 22 24 2 32 (.t 78) (.t 81))), (zm 3 82)]))) (.reg [(zs 83 (.ari .add .i64 (.t 74) (.c (.int .i64 1)))), (zm 74 83)]))))))) (.seq (.reg [(zm 84 3), (zm 2 84)]) .ret))))), [.tmp 2]⟩
def x12 : XFn := ⟨97, .seq (.reg [(zs 1 (.box 31 (.t 0))), (zs 2 (.mov (.c (.bl false))))]) (.seq (.reg [(zf 10 0 1), (zl 11 10), (zs 12 (.lens (.t 11))), (zf 13 1 1), (zl 14 13), (zs 15 (.lens (.t 14))), (zs 16 (.ari .add .i64 (.t 12) (.t 15))), (zf 17 5 1), (zl 18 17), (zs 19 (.lens (.t 18))), (zs 20 (.ari .add .i64 (.t 16) (.t 19))), (zf 21 7 1), (zl 22 21), (zs 23 (.lens (.t 22))), (zs 24 (.ari .add .i64 (.t 20) (.t 23))), (zf 25 6 1), (zl 26 25), (zs 27 (.lens (.t 26))), (zs 28 (.ari .add .i64 (.t 24) (.t 27))), (zm 3 28)]) (.seq (.seq (.reg [(zf 29 12 1), (zl 30 29), (zs 31 (.lenl (.t 30))), (zs 32 (.mov (.c (.int .i64 0))))]) (.block 0 (.loop (.seq (.reg [(zs 33 (.cmp .lss (.t 32) (.t 31)))]) (.seq (.cond (.t 33) .skip (.exit 0)) (.seq (.block 1 (.seq (.reg [(zs 34 (.iad 4 (.t 30) (.t 32))), (zs 35 (.ld true 4 (.t 34))), (zs 5 (.alloc 60 [.int .i64 0, .str ⟨#[]⟩, .str ⟨#[]⟩, .v (.slice none 0 0)])), (zn (.st 4 (.t 5) (.t 35)))]) (.seq (.reg [(zm 36 3), (zf 37 1 5), (zl 38 37), (zs 39 (.lens (.t 38))), (zf 40 2 5), (zl 41 40), (zs 42 (.lens (.t 41))), (zs 43 (.ari .add .i64 (.t 39) (.t 42))), (zs 44 (.ari .add .i64 (.t 36) (.t 43))), (zm 3 44)]) (.seq (.seq (.reg [(zf 45 3 5), (zl 46 45), (zs 47 (.lenl (.t 46))), (zs 48 (.mov (.c (.int .i64 0))))]) (.block 2 (.loop (.seq (.reg [(zs 49 (.cmp .lss (.t 48) (.t 47)))]) (.seq (.cond (.t 49) .skip (.exit 2)) (.seq (.block 3 (.seq (.reg [(zs 50 (.iad 2 (.t 46) (.t 48))), (zs 51 (.ld true 2 (.t 50))), (zs 7 (.alloc 24 [.str ⟨#[]⟩, .str ⟨#[]⟩])), (zn (.st 2 (.t 7) (.t 51)))]) (.reg [(zm 52 3), (zf 53 0 7), (zl 54 53), (zs 55 (.lens (.t 54))), (zf 56 1 7), (zl 57 56), (zs 58 (.lens (.t 57))), (zs 59 (.ari .add .i64 (.t 55) (.t 58))), (zs 60 (.ari .add .i64 (.t 52) (.t 59))), (zm 3 60)]))) (.reg [(zs 61 (.ari .add .i64 (.t 48) (.c (.int .i64 1)))), (zm 48 61)]))))))) (.seq (.reg [(zm 62 3), (zs 63 (.cmp .gtr (.t 62) (.c (.int .i64 9000)))), (zm 64 63), (zg 65 64 false (.fad 3 (.t 5))), (zg 66 64 false (.ld false 1 (.t 65))), (zg 67 64 false (.lenl (.t 66))), (zg 68 64 false (.cmp .gtr (.t 67) (.c (.int .i64 80)))), (zs 69 (.pick (.t 64) (.c (.bl true)) (.t 68)))]) (.cond (.t 69) (.seq (.reg [(zs 2 (.mov (.c (.bl false))))]) .ret) .skip)))))) (.reg [(zs 70 (.ari .add .i64 (.t 32) (.c (.int .i64 1)))), (zm 32 70)]))))))) (.seq (.seq (.reg [(zf 71 13 1), (zl 72 71), (zs 73 (.lenl (.t 72))), (zs 74 (.mov (.c (.int .i64 0))))]) (.block 4 (.loop (.seq (.reg [(zs 75 (.cmp .lss (.t 74) (.t 73)))]) (.seq (.cond (.t 75) .skip (.exit 4)) (.seq (.block 5 (.seq (.reg [(zs 76 (.iad 1 (.t 72) (.t 74))), (zl 77 76), (zm 9 77)]) (.reg [(zm 78 3), (zm 79 9), (zs 80 (.lens (.t 79))), (zs 81 (.ari .add .i64 (.t 78) (.t 80))), (zm 3 81)]))) (.reg [(zs 82 (.ari .add .i64 (.t 74) (.c (.int .i64 1)))), (zm 74 82)]))))))) (.seq (.reg [(zm 83 3), (zs 84 (.cmp .leq (.t 83) (.c (.int .i64 9000)))), (zm 85 84), (zg 86 85 true (.fad 12 (.t 1))), (zg 87 85 true (.ld false 1 (.t 86))), (zg 88 85 true (.lenl (.t 87))), (zg 89 85 true (.cmp .leq (.t 88) (.c (.int .i64 12)))), (zs 90 (.pick (.t 85) (.t 89) (.c (.bl false)))), (zm 91 90), (zg 92 91 true (.fad 13 (.t 1))), (zg 93 91 true (.ld false 1 (.t 92))), (zg 94 91 true (.lenl (.t 93))), (zg 95 91 true (.cmp .leq (.t 94) (.c (.int .i64 60)))), (zs 96 (.pick (.t 91) (.t 95) (.c (.bl false)))), (zm 2 96)]) .ret)))), [.tmp 2]⟩
def x13 : XFn := ⟨12, .seq (.reg [(zs 1 (.box 31 (.t 0))), (zs 2 (.mov (.c (.str ⟨#[]⟩)))), (zs 3 (.mov (.c (.int .i64 0))))]) (.seq (.seq (.reg [(zs 4 (.ld true 14 (.t 1))), (zs 5 (.call 23 [.t 4])), (zs 6 (.not (.t 5)))]) (.cond (.t 6) (.seq (.reg [(zs 2 (.mov (.c (.str ⟨#[]⟩)))), (zs 3 (.mov (.c (.int .i64 1))))]) .ret) .skip)) (.seq (.reg [(zs 7 (.ld true 14 (.t 1))), (zs 8 (.call 11 [.t 7])), (zs 9 (.call 32 [.t 8])), (zs 10 (.ext (.t 9) 0)), (zs 11 (.ext (.t 9) 1)), (zm 2 10), (zm 3 11)]) .ret)), [.tmp 2, .tmp 3]⟩
def x14 : XFn := ⟨179, .seq (.reg [(zs 1 (.box 31 (.t 0))), (zs 2 (.mov (.c (.bl false))))]) (.seq (.seq (.reg [(zf 7 0 1), (zl 8 7), (zs 9 (.call 33 [.t 8])), (zs 10 (.not (.t 9))), (zm 11 10), (zg 12 11 false (.fad 1 (.t 1))), (zg 13 11 false (.ld false 1 (.t 12))), (zg 14 11 false (.call 33 [.t 13])), (zg 15 11 false (.not (.t 14))), (zs 16 (.pick (.t 11) (.c (.bl true)) (.t 15))), (zm 17 16), (zg 18 17 false (.fad 0 (.t 1))), (zg 19 17 false (.ld false 1 (.t 18))), (zg 20 17 false (.fad 1 (.t 1))), (zg 21 17 false (.ld false 1 (.t 20))), (zg 22 17 false (.cmp .eql (.t 19) (.t 21))), (zs 23 (.pick (.t 17) (.c (.bl true)) (.t 22))), (zm 24 23), (zg 25 24 false (.fad 3 (.t 1))), (zg 26 24 false (.ld false 1 (.t 25))), (zg 27 24 false (.call 34 [.t 26, .c (.int .i64 0), .c (.int .i64 28)])), (zg 28 24 false (.not (.t 27))), (zs 29 (.pick (.t 24) (.c (.bl true)) (.t 28))), (zm 30 29), (zg 31 30 false (.fad 2 (.t 1))), (zg 32 30 false (.ld false 1 (.t 31))), (zg 33 30 false (.call 34 [.t 32, .c (.int .i64 0), .c (.int .i64 1048576)])), (zg 34 30 false (.not (.t 33))), (zs 35 (.pick (.t 30) (.c (.bl true)) (.t 34))), (zm 36 35), (zg 37 36 false (.fad 4 (.t 1))), (zg 38 36 false (.ld false 1 (.t 37))), (zg 39 36 false (.call 34 [.t 38, .c (.int .i64 0), .c (.int .i64 1048576)])), (zg 40 36 false (.not (.t 39))), (zs 41 (.pick (.t 36) (.c (.bl true)) (.t 40)))]) (.cond (.t 41) (.seq (.reg [(zs 2 (.mov (.c (.bl false))))]) .ret) .skip)) (.seq (.seq (.reg [(zf 42 5 1), (zl 43 42), (zs 44 (.call 35 [.t 43])), (zs 45 (.not (.t 44))), (zm 46 45), (zg 47 46 false (.fad 7 (.t 1))), (zg 48 46 false (.ld false 1 (.t 47))), (zg 49 46 false (.call 35 [.t 48])), (zg 50 46 false (.not (.t 49))), (zs 51 (.pick (.t 46) (.c (.bl true)) (.t 50))), (zm 52 51), (zg 53 52 false (.fad 6 (.t 1))), (zg 54 52 false (.ld false 1 (.t 53))), (zg 55 52 false (.lens (.t 54))), (zg 56 52 false (.cmp .gtr (.t 55) (.c (.int .i64 4096)))), (zs 57 (.pick (.t 52) (.c (.bl true)) (.t 56))), (zm 58 57), (zg 59 58 false (.fad 8 (.t 1))), (zg 60 58 false (.ld false 1 (.t 59))), (zg 61 58 false (.call 34 [.t 60, .c (.int .i64 (-1)), .c (.int .i64 2)])), (zg 62 58 false (.not (.t 61))), (zs 63 (.pick (.t 58) (.c (.bl true)) (.t 62))), (zm 64 63), (zg 65 64 false (.fad 9 (.t 1))), (zg 66 64 false (.ld false 1 (.t 65))), (zg 67 64 false (.call 34 [.t 66, .c (.int .i64 0), .c (.int .i64 1048576)])), (zg 68 64 false (.not (.t 67))), (zs 69 (.pick (.t 64) (.c (.bl true)) (.t 68))), (zm 70 69), (zg 71 70 false (.fad 10 (.t 1))), (zg 72 70 false (.ld true 2 (.t 71))), (zg 73 70 false (.call 36 [.t 72])), (zg 74 70 false (.not (.t 73))), (zh 75 70 false 74), (zg 76 75 true (.fad 10 (.t 1))), (zg 77 75 true (.ld true 2 (.t 76))), (zg 78 75 true (.call 37 [.t 77])), (zg 79 75 true (.not (.t 78))), (zg 80 70 false (.pick (.t 75) (.t 79) (.c (.bl false)))), (zs 81 (.pick (.t 70) (.c (.bl true)) (.t 80)))]) (.cond (.t 81) (.seq (.reg [(zs 2 (.mov (.c (.bl false))))]) .ret) .skip)) (.seq (.seq (.reg [(zf 82 12 1), (zl 83 82), (zs 84 (.lenl (.t 83))), (zs 85 (.cmp .gtr (.t 84) (.c (.int .i64 8)))), (zm 86 85), (zg 87 86 false (.fad 13 (.t 1))), (zg 88 86 false (.ld false 1 (.t 87))), (zg 89 86 false (.lenl (.t 88))), (zg 90 86 false (.cmp .gtr (.t 89) (.c (.int .i64 32)))), (zs 91 (.pick (.t 86) (.c (.bl true)) (.t 90)))]) (.cond (.t 91) (.seq (.reg [(zs 2 (.mov (.c (.bl false))))]) .ret) .skip)) (.seq (.seq (.reg [(zs 3 (.mov (.c (.int .i64 0))))]) (.block 0 (.loop (.seq (.seq (.reg [(zm 92 3), (zf 93 12 1), (zl 94 93), (zs 95 (.lenl (.t 94))), (zs 96 (.cmp .lss (.t 92) (.t 95)))]) (.cond (.t 96) .skip (.exit 0))) (.seq (.block 1 (.seq (.seq (.reg [(zf 99 12 1), (zl 100 99), (zm 101 3), (zs 102 (.iad 4 (.t 100) (.t 101))), (zs 103 (.ld true 4 (.t 102))), (zs 104 (.call 38 [.t 103])), (zs 105 (.not (.t 104)))]) (.cond (.t 105) (.seq (.reg [(zs 2 (.mov (.c (.bl false))))]) .ret) .skip)) (.seq (.reg [(zf 107 12 1), (zl 108 107), (zm 109 3), (zs 110 (.iad 4 (.t 108) (.t 109))), (zs 111 (.ld true 4 (.t 110))), (zs 112 (.call 39 [.t 111])), (zs 113 (.call 15 [.t 112])), (zm 106 113), (zs 114 (.ext (.t 106) 0)), (zs 115 (.ext (.t 106) 1)), (zm 4 114), (zm 5 115)]) (.seq (.reg [(zm 116 4), (zs 117 (.lens (.t 116))), (zs 118 (.cmp .gtr (.t 117) (.c (.int .i64 4096))))]) (.cond (.t 118) (.seq (.reg [(zs 2 (.mov (.c (.bl false))))]) .ret) .skip))))) (.reg [(zm 97 3), (zs 98 (.ari .add .i64 (.t 97) (.c (.int .i64 1)))), (zm 3 98)])))))) (.seq (.seq (.reg [(zs 6 (.mov (.c (.int .i64 0))))]) (.block 2 (.loop (.seq (.seq (.reg [(zm 119 6), (zf 120 13 1), (zl 121 120), (zs 122 (.lenl (.t 121))), (zs 123 (.cmp .lss (.t 119) (.t 122)))]) (.cond (.t 123) .skip (.exit 2))) (.seq (.block 3 (.seq (.reg [(zf 126 13 1), (zl 127 126), (zm 128 6), (zs 129 (.iad 1 (.t 127) (.t 128))), (zl 130 129), (zs 131 (.call 33 [.t 130])), (zs 132 (.not (.t 131)))]) (.cond (.t 132) (.seq (.reg [(zs 2 (.mov (.c (.bl false))))]) .ret) .skip))) (.reg [(zm 124 6), (zs 125 (.ari .add .i64 (.t 124) (.c (.int .i64 1)))), (zm 6 125)])))))) (.seq (.seq (.reg [(zf 133 3 1), (zl 134 133), (zs 135 (.cmp .eql (.t 134) (.c (.int .i64 28))))]) (.cond (.t 135) (.seq (.reg [(zf 136 2 1), (zl 137 136), (zs 138 (.cmp .eql (.t 137) (.c (.int .i64 0)))), (zm 139 138), (zg 140 139 true (.fad 5 (.t 1))), (zg 141 139 true (.ld false 1 (.t 140))), (zg 142 139 true (.cmp .eql (.t 141) (.c (.str ⟨#[]⟩)))), (zs 143 (.pick (.t 139) (.t 142) (.c (.bl false)))), (zm 144 143), (zg 145 144 true (.fad 6 (.t 1))), (zg 146 144 true (.ld false 1 (.t 145))), (zg 147 144 true (.cmp .eql (.t 146) (.c (.str ⟨#[]⟩)))), (zs 148 (.pick (.t 144) (.t 147) (.c (.bl false)))), (zm 149 148), (zg 150 149 true (.fad 7 (.t 1))), (zg 151 149 true (.ld false 1 (.t 150))), (zg 152 149 true (.cmp .eql (.t 151) (.c (.str ⟨#[]⟩)))), (zs 153 (.pick (.t 149) (.t 152) (.c (.bl false)))), (zm 154 153), (zg 155 154 true (.fad 8 (.t 1))), (zg 156 154 true (.ld false 1 (.t 155))), (zg 157 154 true (.cmp .eql (.t 156) (.c (.int .i64 0)))), (zs 158 (.pick (.t 154) (.t 157) (.c (.bl false)))), (zm 159 158), (zg 160 159 true (.fad 9 (.t 1))), (zg 161 159 true (.ld false 1 (.t 160))), (zg 162 159 true (.cmp .eql (.t 161) (.c (.int .i64 0)))), (zs 163 (.pick (.t 159) (.t 162) (.c (.bl false)))), (zm 164 163), (zg 165 164 true (.fad 10 (.t 1))), (zg 166 164 true (.ld true 2 (.t 165))), (zg 167 164 true (.call 36 [.t 166])), (zs 168 (.pick (.t 164) (.t 167) (.c (.bl false)))), (zm 169 168), (zg 170 169 true (.fad 12 (.t 1))), (zg 171 169 true (.ld false 1 (.t 170))), (zg 172 169 true (.lenl (.t 171))), (zg 173 169 true (.fad 13 (.t 1))), (zg 174 169 true (.ld false 1 (.t 173))), (zg 175 169 true (.lenl (.t 174))), (zg 176 169 true (.ari .add .i64 (.t 172) (.t 175))), (zg 177 169 true (.cmp .eql (.t 176) (.c (.int .i64 0)))), (zs 178 (.pick (.t 169) (.t 177) (.c (.bl false)))), (zm 2 178)]) .ret) .skip)) (.seq (.reg [(zs 2 (.mov (.c (.bl true))))]) .ret))))))), [.tmp 2]⟩
def x15 : XFn := ⟨70, .seq (.reg [(zs 2 (.mov (.c (.str ⟨#[]⟩)))), (zs 3 (.mov (.c (.int .i64 0))))]) (.seq (.seq (.reg [(zm 8 0), (zs 9 (.lenl (.t 8))), (zs 10 (.cmp .gtr (.t 9) (.c (.int .i64 64))))]) (.cond (.t 10) (.seq (.reg [(zs 2 (.mov (.c (.str ⟨#[]⟩)))), (zs 3 (.mov (.c (.int .i64 7))))]) .ret) .skip)) (.seq (.reg [(zs 4 (.mov (.c (.str ⟨#[]⟩))))]) (.seq (.seq (.reg [(zs 5 (.mov (.c (.int .i64 0))))]) (.block 0 (.loop (.seq (.seq (.reg [(zm 11 5), (zm 12 0), (zs 13 (.lenl (.t 12))), (zs 14 (.cmp .lss (.t 11) (.t 13)))]) (.cond (.t 14) .skip (.exit 0))) (.seq (.block 1 (.seq (.seq (.reg [(zm 17 0), (zm 18 5), (zs 19 (.iad 2 (.t 17) (.t 18))), (zs 20 (.ld true 2 (.t 19))), (zs 21 (.call 40 [.t 20])), (zs 22 (.not (.t 21)))]) (.cond (.t 22) (.seq (.reg [(zs 2 (.mov (.c (.str ⟨#[]⟩)))), (zs 3 (.mov (.c (.int .i64 1))))]) .ret) .skip)) (.seq (.reg [(zm 23 4), (zm 24 0), (zm 25 5), (zs 26 (.iad 2 (.t 24) (.t 25))), (zf 27 0 26), (zl 28 27), (zs 29 (.ari .add .i64 (.t 28) (.c (.str ⟨#[61]⟩)))), (zs 30 (.ari .add .i64 (.t 23) (.t 29))), (zm 4 30)]) (.seq (.seq (.reg [(zs 6 (.mov (.c (.int .i64 0))))]) (.block 2 (.loop (.seq (.seq (.reg [(zm 31 6), (zm 32 0), (zm 33 5), (zs 34 (.iad 2 (.t 32) (.t 33))), (zf 35 1 34), (zl 36 35), (zs 37 (.lens (.t 36))), (zs 38 (.cmp .lss (.t 31) (.t 37)))]) (.cond (.t 38) .skip (.exit 2))) (.seq (.block 3 (.seq (.reg [(zm 41 0), (zm 42 5), (zs 43 (.iad 2 (.t 41) (.t 42))), (zf 44 1 43), (zl 45 44), (zm 46 6), (zs 47 (.idx (.t 45) (.t 46))), (zm 7 47)]) (.seq (.reg [(zm 48 7), (zs 49 (.cmp .eql (.t 48) (.c (.int .u8 92))))]) (.cond (.t 49) (.reg [(zm 50 4), (zs 51 (.ari .add .i64 (.t 50) (.c (.str ⟨#[92, 92]⟩)))), (zm 4 51)]) (.seq (.reg [(zm 52 7), (zs 53 (.cmp .eql (.t 52) (.c (.int .u8 10))))]) (.cond (.t 53) (.reg [(zm 54 4), (zs 55 (.ari .add .i64 (.t 54) (.c (.str ⟨#[92, 110]⟩)))), (zm 4 55)]) (.reg [(zm 56 4), (zm 57 0), (zm 58 5), (zs 59 (.iad 2 (.t 57) (.t 58))), (zf 60 1 59), (zl 61 60), (zm 62 6), (zm 63 6), (zs 64 (.ari .add .i64 (.t 63) (.c (.int .i64 1)))), (zs 65 (.sls (.t 61) (some (.t 62)) (some (.t 64)))), (zs 66 (.ari .add .i64 (.t 56) (.t 65))), (zm 4 66)]))))))) (.reg [(zm 39 6), (zs 40 (.ari .add .i64 (.t 39) (.c (.int .i64 1)))), (zm 6 40)])))))) (.reg [(zm 67 4), (zs 68 (.ari .add .i64 (.t 67) (.c (.str ⟨#[10]⟩)))), (zm 4 68)]))))) (.reg [(zm 15 5), (zs 16 (.ari .add .i64 (.t 15) (.c (.int .i64 1)))), (zm 5 16)])))))) (.seq (.reg [(zm 69 4), (zm 2 69), (zs 3 (.mov (.c (.int .i64 0))))]) .ret)))), [.tmp 2, .tmp 3]⟩
def x16 : XFn := ⟨94, .seq (.reg [(zs 1 (.box 31 (.t 0))), (zs 2 (.mov (.c (.v (.slice none 0 0)))))]) (.seq (.seq (.reg [(zs 9 (.ld true 14 (.t 1))), (zs 10 (.call 14 [.t 9])), (zs 11 (.not (.t 10)))]) (.cond (.t 11) (.seq (.reg [(zs 2 (.mov (.c (.v (.slice none 0 0)))))]) .ret) .skip)) (.seq (.reg [(zs 3 (.mov (.c (.str ⟨#[]⟩))))]) (.seq (.seq (.reg [(zf 12 10 1), (zs 13 (.ld true 2 (.t 12))), (zs 14 (.call 36 [.t 13])), (zs 15 (.not (.t 14)))]) (.cond (.t 15) (.reg [(zf 16 10 1), (zs 17 (.ld true 2 (.t 16))), (zs 18 (.call 41 [.t 17])), (zm 3 18)]) .skip)) (.seq (.dreg (.take 0 (zf 19 0 1) (.take 1 (zl 20 19) (.take 2 (zs 21 (.bld [.str ⟨#[]⟩, .str ⟨#[]⟩] [(0, (1, .c (.str ⟨#[102, 114, 111, 109]⟩))), (1, (1, .t 20))])) (.take 3 (zf 22 1 1) (.take 4 (zl 23 22) (.take 5 (zs 24 (.bld [.str ⟨#[]⟩, .str ⟨#[]⟩] [(0, (1, .c (.str ⟨#[116, 111]⟩))), (1, (1, .t 23))])) (.take 6 (zf 25 2 1) (.take 7 (zl 26 25) (.take 10 (zf 29 3 1) (.take 11 (zl 30 29) (.take 15 (zf 34 4 1) (.take 16 (zl 35 34) (.take 18 (zf 37 5 1) (.take 19 (zl 38 37) (.take 20 (zs 39 (.bld [.str ⟨#[]⟩, .str ⟨#[]⟩] [(0, (1, .c (.str ⟨#[100, 101, 97, 108]⟩))), (1, (1, .t 38))])) (.take 21 (zf 40 6 1) (.take 22 (zl 41 40) (.take 23 (zs 42 (.bld [.str ⟨#[]⟩, .str ⟨#[]⟩] [(0, (1, .c (.str ⟨#[116, 101, 120, 116]⟩))), (1, (1, .t 41))])) (.take 24 (zf 43 7 1) (.take 25 (zl 44 43) (.take 26 (zs 45 (.bld [.str ⟨#[]⟩, .str ⟨#[]⟩] [(0, (1, .c (.str ⟨#[112, 97, 114, 116, 121]⟩))), (1, (1, .t 44))])) (.take 27 (zf 46 8 1) (.take 28 (zl 47 46) (.take 30 (zf 49 9 1) (.take 31 (zl 50 49) (.take 33 (zm 52 3) (.take 34 (zs 53 (.bld [.str ⟨#[]⟩, .str ⟨#[]⟩] [(0, (1, .c (.str ⟨#[115, 117, 109]⟩))), (1, (1, .t 52))])) (.eff 8 0 true (zs 27 (.call 42 [.c (.str ⟨#[110, 117, 109, 98, 101, 114]⟩), .t 26])) (.eff 9 0 true (zs 28 (.call 25 [])) (.take 12 (zs 31 (.iad 1 (.t 28) (.t 30))) (.more [1, 4, 7, 11, 16, 19, 22, 25, 28, 31, 13] (.take 13 (zl 32 31) (.take 14 (zs 33 (.bld [.str ⟨#[]⟩, .str ⟨#[]⟩] [(0, (1, .c (.str ⟨#[107, 105, 110, 100]⟩))), (1, (1, .t 32))])) (.eff 17 0 true (zs 36 (.call 42 [.c (.str ⟨#[97, 99, 107]⟩), .t 35])) (.eff 29 0 true (zs 48 (.call 42 [.c (.str ⟨#[105, 110, 100, 101, 120]⟩), .t 47])) (.eff 32 0 true (zs 51 (.call 42 [.c (.str ⟨#[100, 97, 121]⟩), .t 50])) (.eff 35 0 false (zs 54 (.bsl 24 2 11 [.str ⟨#[]⟩, .str ⟨#[]⟩] [(0, .t 21), (1, .t 24), (2, .t 27), (3, .t 33), (4, .t 36), (5, .t 39), (6, .t 42), (7, .t 45), (8, .t 48), (9, .t 51), (10, .t 53)])) (.phase [1, 4, 7, 11, 13, 16, 19, 22, 25, 28, 31] (.take 36 (zm 4 54) .nil))))))))))))))))))))))))))))))))))))))) 1 [1]) (.seq (.seq (.reg [(zs 5 (.mov (.c (.int .i64 0))))]) (.block 0 (.loop (.seq (.seq (.reg [(zm 55 5), (zf 56 12 1), (zl 57 56), (zs 58 (.lenl (.t 57))), (zs 59 (.cmp .lss (.t 55) (.t 58)))]) (.cond (.t 59) .skip (.exit 0))) (.seq (.block 1 (.seq (.reg [(zf 63 12 1), (zl 64 63), (zm 65 5), (zs 66 (.iad 4 (.t 64) (.t 65))), (zs 67 (.ld true 4 (.t 66))), (zs 68 (.call 39 [.t 67])), (zs 69 (.call 15 [.t 68])), (zm 62 69), (zs 70 (.ext (.t 62) 0)), (zs 71 (.ext (.t 62) 1)), (zm 6 70), (zm 7 71)]) (.reg [(zm 72 4), (zm 73 6), (zs 74 (.bld [.str ⟨#[]⟩, .str ⟨#[]⟩] [(0, (1, .c (.str ⟨#[100, 111, 99]⟩))), (1, (1, .t 73))])), (zs 75 (.bsl 24 2 1 [.str ⟨#[]⟩, .str ⟨#[]⟩] [(0, .t 74)])), (zs 76 (.app 22 22 24 2 32 (.t 72) (.t 75))), (zm 4 76)]))) (.reg [(zm 60 5), (zs 61 (.ari .add .i64 (.t 60) (.c (.int .i64 1)))), (zm 5 61)])))))) (.seq (.seq (.reg [(zs 8 (.mov (.c (.int .i64 0))))]) (.block 2 (.loop (.seq (.seq (.reg [(zm 77 8), (zf 78 13 1), (zl 79 78), (zs 80 (.lenl (.t 79))), (zs 81 (.cmp .lss (.t 77) (.t 80)))]) (.cond (.t 81) .skip (.exit 2))) (.seq (.block 3 (.reg [(zm 84 4), (zf 85 13 1), (zl 86 85), (zm 87 8), (zs 88 (.iad 1 (.t 86) (.t 87))), (zl 89 88), (zs 90 (.bld [.str ⟨#[]⟩, .str ⟨#[]⟩] [(0, (1, .c (.str ⟨#[98, 111, 120]⟩))), (1, (1, .t 89))])), (zs 91 (.bsl 24 2 1 [.str ⟨#[]⟩, .str ⟨#[]⟩] [(0, .t 90)])), (zs 92 (.app 22 22 24 2 32 (.t 84) (.t 91))), (zm 4 92)])) (.reg [(zm 82 8), (zs 83 (.ari .add .i64 (.t 82) (.c (.int .i64 1)))), (zm 8 83)])))))) (.seq (.reg [(zm 93 4), (zm 2 93)]) .ret))))))), [.tmp 2]⟩
def x17 : XFn := ⟨27, .seq (.reg [(zs 2 (.alloc 31 [.str ⟨#[]⟩, .str ⟨#[]⟩, .int .i64 0, .int .i64 0, .int .i64 0, .str ⟨#[]⟩, .str ⟨#[]⟩, .str ⟨#[]⟩, .int .i64 0, .int .i64 0, .str ⟨#[]⟩, .int .i64 0, .v (.slice none 0 0), .v (.slice none 0 0)])), (zs 3 (.mov (.c (.int .i64 0)))), (zs 4 (.mov (.c (.int .i64 0))))]) (.seq (.reg [(zm 10 0), (zs 11 (.call 43 [.t 10])), (zm 9 11), (zs 12 (.ext (.t 9) 0)), (zs 13 (.ext (.t 9) 1)), (zs 14 (.ext (.t 9) 2)), (zm 5 12), (zm 6 13), (zm 7 14)]) (.seq (.seq (.reg [(zm 15 7), (zs 16 (.cmp .neq (.t 15) (.c (.int .i64 0))))]) (.cond (.t 16) (.seq (.reg [(zs 17 (.bld [.str ⟨#[]⟩, .str ⟨#[]⟩, .int .i64 0, .int .i64 0, .int .i64 0, .str ⟨#[]⟩, .str ⟨#[]⟩, .str ⟨#[]⟩, .int .i64 0, .int .i64 0, .str ⟨#[]⟩, .int .i64 0, .v (.slice none 0 0), .v (.slice none 0 0)] [])), (zm 18 6), (zm 19 7), (zn (.st 14 (.t 2) (.t 17))), (zm 3 18), (zm 4 19)]) .ret) .skip)) (.seq (.reg [(zm 21 5), (zs 22 (.call 7 [.t 21])), (zm 20 22), (zs 23 (.ext (.t 20) 0)), (zs 24 (.ext (.t 20) 1)), (zs 8 (.alloc 31 [.str ⟨#[]⟩, .str ⟨#[]⟩, .int .i64 0, .int .i64 0, .int .i64 0, .str ⟨#[]⟩, .str ⟨#[]⟩, .str ⟨#[]⟩, .int .i64 0, .int .i64 0, .str ⟨#[]⟩, .int .i64 0, .v (.slice none 0 0), .v (.slice none 0 0)])), (zn (.st 14 (.t 8) (.t 23))), (zm 7 24)]) (.seq (.reg [(zs 25 (.ld true 14 (.t 8))), (zm 26 7), (zn (.st 14 (.t 2) (.t 25))), (zs 3 (.mov (.c (.int .i64 0)))), (zm 4 26)]) .ret)))), [.cell 2 true 14, .tmp 3, .tmp 4]⟩
def x18 : XFn := ⟨53, .seq (.reg [(zs 2 (.mov (.c (.v (.slice none 0 0))))), (zs 3 (.mov (.c (.int .i64 0)))), (zs 4 (.mov (.c (.int .i64 0))))]) (.seq (.reg [(zs 11 (.bsl 24 2 0 [.str ⟨#[]⟩, .str ⟨#[]⟩] [])), (zm 5 11)]) (.seq (.reg [(zs 6 (.mov (.c (.int .i64 1)))), (zs 7 (.mov (.c (.int .i64 0))))]) (.seq (.seq (.reg [(zs 8 (.mov (.c (.int .i64 0))))]) (.block 0 (.loop (.seq (.seq (.reg [(zm 12 8), (zm 13 0), (zs 14 (.lens (.t 13))), (zs 15 (.cmp .lss (.t 12) (.t 14)))]) (.cond (.t 15) .skip (.exit 0))) (.seq (.block 1 (.seq (.seq (.reg [(zm 18 0), (zm 19 8), (zs 20 (.idx (.t 18) (.t 19))), (zs 21 (.cmp .neq (.t 20) (.c (.int .u8 10))))]) (.cond (.t 21) (.exit 1) .skip)) (.seq (.seq (.reg [(zm 22 6), (zs 23 (.cmp .gtr (.t 22) (.c (.int .i64 64))))]) (.cond (.t 23) (.seq (.reg [(zm 24 6), (zs 2 (.mov (.c (.v (.slice none 0 0))))), (zm 3 24), (zs 4 (.mov (.c (.int .i64 7))))]) .ret) .skip)) (.seq (.reg [(zm 26 0), (zm 27 7), (zm 28 8), (zs 29 (.sls (.t 26) (some (.t 27)) (some (.t 28)))), (zs 30 (.call 44 [.t 29])), (zm 25 30), (zs 31 (.ext (.t 25) 0)), (zs 32 (.ext (.t 25) 1)), (zs 9 (.alloc 24 [.str ⟨#[]⟩, .str ⟨#[]⟩])), (zn (.st 2 (.t 9) (.t 31))), (zm 10 32)]) (.seq (.seq (.reg [(zm 33 10), (zs 34 (.not (.t 33)))]) (.cond (.t 34) (.seq (.reg [(zm 35 6), (zs 2 (.mov (.c (.v (.slice none 0 0))))), (zm 3 35), (zs 4 (.mov (.c (.int .i64 2))))]) .ret) .skip)) (.seq (.reg [(zm 36 5), (zs 37 (.ld true 2 (.t 9))), (zs 38 (.bsl 24 2 1 [.str ⟨#[]⟩, .str ⟨#[]⟩] [(0, .t 37)])), (zs 39 (.app 22 22 24 2 32 (.t 36) (.t 38))), (zm 5 39)]) (.reg [(zm 40 6), (zs 41 (.ari .add .i64 (.t 40) (.c (.int .i64 1)))), (zm 42 8), (zs 43 (.ari .add .i64 (.t 42) (.c (.int .i64 1)))), (zm 6 41), (zm 7 43)]))))))) (.reg [(zm 16 8), (zs 17 (.ari .add .i64 (.t 16) (.c (.int .i64 1)))), (zm 8 17)])))))) (.seq (.seq (.reg [(zm 44 7), (zm 45 0), (zs 46 (.lens (.t 45))), (zs 47 (.cmp .lss (.t 44) (.t 46)))]) (.cond (.t 47) (.seq (.seq (.reg [(zm 48 6), (zs 49 (.cmp .gtr (.t 48) (.c (.int .i64 64))))]) (.cond (.t 49) (.seq (.reg [(zm 50 6), (zs 2 (.mov (.c (.v (.slice none 0 0))))), (zm 3 50), (zs 4 (.mov (.c (.int .i64 7))))]) .ret) .skip)) (.seq (.reg [(zm 51 6), (zs 2 (.mov (.c (.v (.slice none 0 0))))), (zm 3 51), (zs 4 (.mov (.c (.int .i64 2))))]) .ret)) .skip)) (.seq (.reg [(zm 52 5), (zm 2 52), (zs 3 (.mov (.c (.int .i64 0)))), (zs 4 (.mov (.c (.int .i64 0))))]) .ret))))), [.tmp 2, .tmp 3, .tmp 4]⟩
def x19 : XFn := ⟨15, .seq (.reg [(zs 2 (.mov (.c (.int .i64 0)))), (zs 3 (.mov (.c (.bl false))))]) (.seq (.seq (.reg [(zs 5 (.mov (.c (.int .i64 0))))]) (.block 0 (.loop (.seq (.reg [(zs 6 (.cmp .lss (.t 5) (.c (.int .i64 29))))]) (.seq (.cond (.t 6) .skip (.exit 0)) (.seq (.block 1 (.seq (.reg [(zm 7 5), (zm 4 7)]) (.seq (.reg [(zm 8 4), (zs 9 (.aia 1 29 (.g 0) (.t 8))), (zl 10 9), (zm 11 0), (zs 12 (.cmp .eql (.t 10) (.t 11)))]) (.cond (.t 12) (.seq (.reg [(zm 13 4), (zm 2 13), (zs 3 (.mov (.c (.bl true))))]) .ret) .skip)))) (.reg [(zs 14 (.ari .add .i64 (.t 5) (.c (.int .i64 1)))), (zm 5 14)]))))))) (.seq (.reg [(zs 2 (.mov (.c (.int .i64 0)))), (zs 3 (.mov (.c (.bl false))))]) .ret)), [.tmp 2, .tmp 3]⟩
def x20 : XFn := ⟨12, .seq (.reg [(zs 2 (.mov (.c (.str ⟨#[]⟩))))]) (.seq (.seq (.reg [(zm 3 0), (zs 4 (.cmp .lss (.t 3) (.c (.int .i64 0)))), (zm 5 4), (zh 6 5 false 0), (zg 7 5 false (.cmp .geq (.t 6) (.c (.int .i64 29)))), (zs 8 (.pick (.t 5) (.c (.bl true)) (.t 7)))]) (.cond (.t 8) (.seq (.reg [(zs 2 (.mov (.c (.str ⟨#[]⟩))))]) .ret) .skip)) (.seq (.reg [(zm 9 0), (zs 10 (.aia 1 29 (.g 0) (.t 9))), (zl 11 10), (zm 2 11)]) .ret)), [.tmp 2]⟩
def x21 : XFn := ⟨68, .seq (.reg [(zs 1 (.box 56 (.t 0))), (zs 2 (.mov (.c (.v (.slice none 0 0)))))]) (.seq (.reg [(zs 3 (.mov (.c (.clo 45 []))))]) (.seq (.reg [(zs 4 (.mov (.c (.clo 47 []))))]) (.seq (.reg [(zs 7 (.mkf 50 [.t 1])), (zm 5 7)]) (.seq (.reg [(zs 8 (.mkf 51 [.t 1])), (zm 6 8)]) (.seq (.dreg (.take 0 (zm 9 3) (.take 1 (zl 10 1) (.take 2 (zs 11 (.nck (.t 10))) (.take 3 (zf 12 0 11) (.take 6 (zm 15 3) (.take 7 (zl 16 1) (.take 8 (zs 17 (.nck (.t 16))) (.take 9 (zf 18 1 17) (.take 12 (zm 21 4) (.take 13 (zl 22 1) (.take 14 (zs 23 (.nck (.t 22))) (.take 15 (zf 24 2 23) (.take 18 (zm 27 5) (.take 19 (zs 28 (.bld [.str ⟨#[]⟩, .v .nilFunc] [(0, (1, .c (.str ⟨#[107, 105, 110, 100]⟩))), (1, (1, .t 27))])) (.take 20 (zm 29 4) (.take 21 (zl 30 1) (.take 22 (zs 31 (.nck (.t 30))) (.take 23 (zf 32 4 31) (.take 26 (zm 35 3) (.take 27 (zl 36 1) (.take 28 (zs 37 (.nck (.t 36))) (.take 29 (zf 38 5 37) (.take 32 (zm 41 3) (.take 33 (zl 42 1) (.take 34 (zs 43 (.nck (.t 42))) (.take 35 (zf 44 6 43) (.take 38 (zm 47 3) (.take 39 (zl 48 1) (.take 40 (zs 49 (.nck (.t 48))) (.take 41 (zf 50 7 49) (.take 44 (zm 53 4) (.take 45 (zl 54 1) (.take 46 (zs 55 (.nck (.t 54))) (.take 47 (zf 56 8 55) (.take 50 (zm 59 4) (.take 51 (zl 60 1) (.take 52 (zs 61 (.nck (.t 60))) (.take 53 (zf 62 9 61) (.take 56 (zm 65 6) (.take 57 (zs 66 (.bld [.str ⟨#[]⟩, .v .nilFunc] [(0, (1, .c (.str ⟨#[115, 117, 109]⟩))), (1, (1, .t 65))])) (.eff 4 0 true (zs 13 (.cav (.t 9) [.t 12])) (.take 5 (zs 14 (.bld [.str ⟨#[]⟩, .v .nilFunc] [(0, (1, .c (.str ⟨#[102, 114, 111, 109]⟩))), (1, (1, .t 13))])) (.eff 10 0 true (zs 19 (.cav (.t 15) [.t 18])) (.take 11 (zs 20 (.bld [.str ⟨#[]⟩, .v .nilFunc] [(0, (1, .c (.str ⟨#[116, 111]⟩))), (1, (1, .t 19))])) (.eff 16 0 true (zs 25 (.cav (.t 21) [.t 24])) (.take 17 (zs 26 (.bld [.str ⟨#[]⟩, .v .nilFunc] [(0, (1, .c (.str ⟨#[110, 117, 109, 98, 101, 114]⟩))), (1, (1, .t 25))])) (.eff 24 0 true (zs 33 (.cav (.t 29) [.t 32])) (.take 25 (zs 34 (.bld [.str ⟨#[]⟩, .v .nilFunc] [(0, (1, .c (.str ⟨#[97, 99, 107]⟩))), (1, (1, .t 33))])) (.eff 30 0 true (zs 39 (.cav (.t 35) [.t 38])) (.take 31 (zs 40 (.bld [.str ⟨#[]⟩, .v .nilFunc] [(0, (1, .c (.str ⟨#[100, 101, 97, 108]⟩))), (1, (1, .t 39))])) (.eff 36 0 true (zs 45 (.cav (.t 41) [.t 44])) (.take 37 (zs 46 (.bld [.str ⟨#[]⟩, .v .nilFunc] [(0, (1, .c (.str ⟨#[116, 101, 120, 116]⟩))), (1, (1, .t 45))])) (.eff 42 0 true (zs 51 (.cav (.t 47) [.t 50])) (.take 43 (zs 52 (.bld [.str ⟨#[]⟩, .v .nilFunc] [(0, (1, .c (.str ⟨#[112, 97, 114, 116, 121]⟩))), (1, (1, .t 51))])) (.eff 48 0 true (zs 57 (.cav (.t 53) [.t 56])) (.take 49 (zs 58 (.bld [.str ⟨#[]⟩, .v .nilFunc] [(0, (1, .c (.str ⟨#[105, 110, 100, 101, 120]⟩))), (1, (1, .t 57))])) (.eff 54 0 false (zs 63 (.cav (.t 59) [.t 62])) (.take 55 (zs 64 (.bld [.str ⟨#[]⟩, .v .nilFunc] [(0, (1, .c (.str ⟨#[100, 97, 121]⟩))), (1, (1, .t 63))])) (.eff 58 0 false (zs 67 (.bsl 58 2 11 [.str ⟨#[]⟩, .v .nilFunc] [(0, .t 14), (1, .t 20), (2, .t 26), (3, .t 28), (4, .t 34), (5, .t 40), (6, .t 46), (7, .t 52), (8, .t 58), (9, .t 64), (10, .t 66)])) (.phase [1, 7, 13, 21, 27, 33, 39, 45, 51] (.take 59 (zm 2 67) .nil))))))))))))))))))))))))))))))))))))))))))))))))))))))))))))) 1 [1]) .ret))))), [.tmp 2]⟩
def x22 : XFn := ⟨73, .seq (.reg [(zs 2 (.alloc 60 [.int .i64 0, .str ⟨#[]⟩, .str ⟨#[]⟩, .v (.slice none 0 0)])), (zs 3 (.mov (.c (.int .i64 0)))), (zs 4 (.mov (.c (.int .i64 0))))]) (.seq (.reg [(zm 11 0), (zs 12 (.call 43 [.t 11])), (zm 10 12), (zs 13 (.ext (.t 10) 0)), (zs 14 (.ext (.t 10) 1)), (zs 15 (.ext (.t 10) 2)), (zm 5 13), (zm 6 14), (zm 7 15)]) (.seq (.seq (.reg [(zm 16 7), (zs 17 (.cmp .neq (.t 16) (.c (.int .i64 0))))]) (.cond (.t 17) (.seq (.reg [(zs 18 (.bld [.int .i64 0, .str ⟨#[]⟩, .str ⟨#[]⟩, .v (.slice none 0 0)] [])), (zm 19 6), (zm 20 7), (zn (.st 4 (.t 2) (.t 18))), (zm 3 19), (zm 4 20)]) .ret) .skip)) (.seq (.seq (.reg [(zs 21 (.bsl 9 1 3 [.str ⟨#[]⟩] [(0, .c (.str ⟨#[112, 97, 112, 101, 114]⟩)), (1, .c (.str ⟨#[110, 117, 109, 98, 101, 114]⟩)), (2, .c (.str ⟨#[105, 115, 115, 117, 101, 114]⟩))])), (zs 22 (.lenl (.t 21))), (zs 23 (.mov (.c (.int .i64 0))))]) (.block 0 (.loop (.seq (.reg [(zs 24 (.cmp .lss (.t 23) (.t 22)))]) (.seq (.cond (.t 24) .skip (.exit 0)) (.seq (.block 1 (.seq (.reg [(zm 25 23), (zs 26 (.iad 1 (.t 21) (.t 23))), (zl 27 26), (zm 8 25), (zm 9 27)]) (.seq (.seq (.reg [(zm 28 8), (zm 29 5), (zs 30 (.lenl (.t 29))), (zs 31 (.cmp .geq (.t 28) (.t 30))), (zm 32 31), (zh 33 32 false 5), (zh 34 32 false 8), (zg 35 32 false (.iad 2 (.t 33) (.t 34))), (zg 36 32 false (.fad 0 (.t 35))), (zg 37 32 false (.ld false 1 (.t 36))), (zh 38 32 false 9), (zg 39 32 false (.cmp .neq (.t 37) (.t 38))), (zs 40 (.pick (.t 32) (.c (.bl true)) (.t 39)))]) (.cond (.t 40) (.seq (.reg [(zs 41 (.bld [.int .i64 0, .str ⟨#[]⟩, .str ⟨#[]⟩, .v (.slice none 0 0)] [])), (zm 42 8), (zs 43 (.ari .add .i64 (.t 42) (.c (.int .i64 1)))), (zn (.st 4 (.t 2) (.t 41))), (zm 3 43), (zs 4 (.mov (.c (.int .i64 2))))]) .ret) .skip)) (.seq (.reg [(zm 44 8), (zs 45 (.cmp .eql (.t 44) (.c (.int .i64 0)))), (zm 46 45), (zh 47 46 true 5), (zg 48 46 true (.iad 2 (.t 47) (.c (.int .i64 0)))), (zg 49 46 true (.fad 1 (.t 48))), (zg 50 46 true (.ld false 1 (.t 49))), (zg 51 46 true (.call 53 [.t 50])), (zg 52 46 true (.cmp .lss (.t 51) (.c (.int .i64 0)))), (zs 53 (.pick (.t 46) (.t 52) (.c (.bl false))))]) (.cond (.t 53) (.seq (.reg [(zs 54 (.bld [.int .i64 0, .str ⟨#[]⟩, .str ⟨#[]⟩, .v (.slice none 0 0)] [])), (zn (.st 4 (.t 2) (.t 54))), (zs 3 (.mov (.c (.int .i64 1)))), (zs 4 (.mov (.c (.int .i64 2))))]) .ret) .skip))))) (.reg [(zs 55 (.ari .add .i64 (.t 23) (.c (.int .i64 1)))), (zm 23 55)]))))))) (.seq (.dreg (.take 0 (zm 56 5) (.take 1 (zs 57 (.iad 2 (.t 56) (.c (.int .i64 0)))) (.take 2 (zf 58 1 57) (.take 3 (zl 59 58) (.take 5 (zm 61 5) (.take 6 (zs 62 (.iad 2 (.t 61) (.c (.int .i64 1)))) (.take 7 (zf 63 1 62) (.take 8 (zl 64 63) (.take 9 (zm 65 5) (.take 10 (zs 66 (.iad 2 (.t 65) (.c (.int .i64 2)))) (.take 11 (zf 67 1 66) (.take 12 (zl 68 67) (.take 13 (zm 69 5) (.take 14 (zs 70 (.sli 2 (.t 69) (some (.c (.int .i64 3))) none)) (.eff 4 0 true (zs 60 (.call 53 [.t 59])) (.eff 15 0 true (zs 71 (.call 54 [.t 70])) (.take 16 (zs 72 (.bld [.int .i64 0, .str ⟨#[]⟩, .str ⟨#[]⟩, .v (.slice none 0 0)] [(0, (1, .t 60)), (1, (1, .t 64)), (2, (1, .t 68)), (3, (1, .t 71))])) (.eff 17 0 false (zn (.st 4 (.t 2) (.t 72))) (.phase [3, 8, 12] (.take 18 (zs 3 (.mov (.c (.int .i64 0)))) (.take 19 (zs 4 (.mov (.c (.int .i64 0)))) .nil))))))))))))))))))))) 0 [5]) .ret)))), [.cell 2 true 4, .tmp 3, .tmp 4]⟩
def x23 : XFn := ⟨104, .seq (.reg [(zs 1 (.box 31 (.t 0))), (zs 2 (.mov (.c (.bl false))))]) (.seq (.reg [(zf 3 0 1), (zl 4 3), (zs 5 (.call 55 [.t 4])), (zm 6 5), (zg 7 6 true (.fad 1 (.t 1))), (zg 8 6 true (.ld false 1 (.t 7))), (zg 9 6 true (.call 55 [.t 8])), (zs 10 (.pick (.t 6) (.t 9) (.c (.bl false)))), (zm 11 10), (zg 12 11 true (.fad 0 (.t 1))), (zg 13 11 true (.ld false 1 (.t 12))), (zg 14 11 true (.fad 1 (.t 1))), (zg 15 11 true (.ld false 1 (.t 14))), (zg 16 11 true (.cmp .neq (.t 13) (.t 15))), (zs 17 (.pick (.t 11) (.t 16) (.c (.bl false)))), (zm 18 17), (zg 19 18 true (.fad 3 (.t 1))), (zg 20 18 true (.ld false 1 (.t 19))), (zg 21 18 true (.call 20 [.t 20])), (zg 22 18 true (.cmp .neq (.t 21) (.c (.str ⟨#[]⟩)))), (zs 23 (.pick (.t 18) (.t 22) (.c (.bl false)))), (zm 24 23), (zg 25 24 true (.fad 2 (.t 1))), (zg 26 24 true (.ld false 1 (.t 25))), (zg 27 24 true (.call 56 [.t 26, .c (.int .i64 0), .c (.int .i64 1048576)])), (zs 28 (.pick (.t 24) (.t 27) (.c (.bl false)))), (zm 29 28), (zg 30 29 true (.fad 4 (.t 1))), (zg 31 29 true (.ld false 1 (.t 30))), (zg 32 29 true (.call 56 [.t 31, .c (.int .i64 0), .c (.int .i64 1048576)])), (zs 33 (.pick (.t 29) (.t 32) (.c (.bl false)))), (zm 34 33), (zg 35 34 true (.fad 5 (.t 1))), (zg 36 34 true (.ld false 1 (.t 35))), (zg 37 34 true (.call 57 [.t 36])), (zs 38 (.pick (.t 34) (.t 37) (.c (.bl false)))), (zm 39 38), (zg 40 39 true (.fad 7 (.t 1))), (zg 41 39 true (.ld false 1 (.t 40))), (zg 42 39 true (.call 57 [.t 41])), (zs 43 (.pick (.t 39) (.t 42) (.c (.bl false)))), (zm 44 43), (zg 45 44 true (.fad 6 (.t 1))), (zg 46 44 true (.ld false 1 (.t 45))), (zg 47 44 true (.lens (.t 46))), (zg 48 44 true (.cmp .leq (.t 47) (.c (.int .i64 4096)))), (zs 49 (.pick (.t 44) (.t 48) (.c (.bl false)))), (zm 50 49), (zg 51 50 true (.fad 8 (.t 1))), (zg 52 50 true (.ld false 1 (.t 51))), (zg 53 50 true (.call 56 [.t 52, .c (.int .i64 (-1)), .c (.int .i64 2)])), (zs 54 (.pick (.t 50) (.t 53) (.c (.bl false)))), (zm 55 54), (zg 56 55 true (.fad 9 (.t 1))), (zg 57 55 true (.ld false 1 (.t 56))), (zg 58 55 true (.call 56 [.t 57, .c (.int .i64 0), .c (.int .i64 1048576)])), (zs 59 (.pick (.t 55) (.t 58) (.c (.bl false)))), (zm 60 59), (zg 61 60 true (.fad 10 (.t 1))), (zg 62 60 true (.ld true 2 (.t 61))), (zg 63 60 true (.bld [.str ⟨#[]⟩, .int .i64 0] [])), (zg 64 60 true (.cms false [1, 0] (.t 62) (.t 63))), (zh 65 60 true 64), (zg 66 65 false (.fad 10 (.t 1))), (zg 67 65 false (.ld true 2 (.t 66))), (zg 68 65 false (.call 58 [.t 67])), (zg 69 60 true (.pick (.t 65) (.c (.bl true)) (.t 68))), (zs 70 (.pick (.t 60) (.t 69) (.c (.bl false)))), (zm 71 70), (zg 72 71 true (.fad 12 (.t 1))), (zg 73 71 true (.ld false 1 (.t 72))), (zg 74 71 true (.lenl (.t 73))), (zg 75 71 true (.cmp .leq (.t 74) (.c (.int .i64 8)))), (zs 76 (.pick (.t 71) (.t 75) (.c (.bl false)))), (zm 77 76), (zg 78 77 true (.fad 13 (.t 1))), (zg 79 77 true (.ld false 1 (.t 78))), (zg 80 77 true (.lenl (.t 79))), (zg 81 77 true (.cmp .leq (.t 80) (.c (.int .i64 32)))), (zs 82 (.pick (.t 77) (.t 81) (.c (.bl false)))), (zm 83 82), (zg 84 83 true (.fad 12 (.t 1))), (zg 85 83 true (.ld false 1 (.t 84))), (zg 86 83 true (.call 59 [.t 85, .c (.clo 60 [])])), (zg 87 83 true (.not (.t 86))), (zs 88 (.pick (.t 83) (.t 87) (.c (.bl false)))), (zm 89 88), (zg 90 89 true (.fad 13 (.t 1))), (zg 91 89 true (.ld false 1 (.t 90))), (zg 92 89 true (.call 62 [.t 91, .c (.clo 63 [])])), (zg 93 89 true (.not (.t 92))), (zs 94 (.pick (.t 89) (.t 93) (.c (.bl false)))), (zm 95 94), (zg 96 95 true (.fad 3 (.t 1))), (zg 97 95 true (.ld false 1 (.t 96))), (zg 98 95 true (.cmp .neq (.t 97) (.c (.int .i64 28)))), (zh 99 95 true 98), (zg 100 99 false (.ld true 14 (.t 1))), (zg 101 99 false (.call 64 [.t 100])), (zg 102 95 true (.pick (.t 99) (.c (.bl true)) (.t 101))), (zs 103 (.pick (.t 95) (.t 102) (.c (.bl false)))), (zm 2 103)]) .ret), [.tmp 2]⟩
def x24 : XFn := ⟨12, .seq (.reg [(zs 1 (.box 24 (.t 0))), (zs 2 (.mov (.c (.int .i64 0))))]) (.seq (.reg [(zf 6 1 1), (zl 7 6), (zs 8 (.call 65 [.t 7])), (zm 5 8), (zs 9 (.ext (.t 5) 0)), (zs 10 (.ext (.t 5) 1)), (zm 3 9), (zm 4 10)]) (.seq (.reg [(zm 11 3), (zm 2 11)]) .ret)), [.tmp 2]⟩
def x25 : XFn := ⟨2, .seq (.reg [(zs 0 (.mov (.c (.v (.slice none 0 0)))))]) (.seq (.reg [(zs 1 (.bsl 9 1 29 [.str ⟨#[]⟩] [(0, .c (.str ⟨#[111, 114, 100, 101, 114]⟩)), (1, .c (.str ⟨#[97, 112, 112, 108, 121]⟩)), (2, .c (.str ⟨#[105, 115, 115, 117, 101, 100]⟩)), (3, .c (.str ⟨#[100, 101, 99, 108, 105, 110, 101, 100]⟩)), (4, .c (.str ⟨#[115, 104, 105, 112]⟩)), (5, .c (.str ⟨#[108, 97, 100, 105, 110, 103]⟩)), (6, .c (.str ⟨#[99, 111, 118, 101, 114]⟩)), (7, .c (.str ⟨#[99, 111, 118, 101, 114, 101, 100]⟩)), (8, .c (.str ⟨#[101, 110, 100, 111, 114, 115, 101]⟩)), (9, .c (.str ⟨#[101, 110, 100, 111, 114, 115, 101, 100]⟩)), (10, .c (.str ⟨#[112, 114, 101, 115, 101, 110, 116]⟩)), (11, .c (.str ⟨#[114, 101, 102, 117, 115, 101, 100]⟩)), (12, .c (.str ⟨#[97, 99, 99, 101, 112, 116, 101, 100]⟩)), (13, .c (.str ⟨#[112, 97, 105, 100]⟩)), (14, .c (.str ⟨#[112, 97, 112, 101, 114, 115]⟩)), (15, .c (.str ⟨#[100, 101, 99, 108, 97, 114, 101]⟩)), (16, .c (.str ⟨#[100, 117, 116, 121]⟩)), (17, .c (.str ⟨#[116, 114, 97, 110, 115, 102, 101, 114]⟩)), (18, .c (.str ⟨#[99, 114, 101, 100, 105, 116, 101, 100]⟩)), (19, .c (.str ⟨#[114, 101, 108, 101, 97, 115, 101]⟩)), (20, .c (.str ⟨#[115, 117, 114, 114, 101, 110, 100, 101, 114]⟩)), (21, .c (.str ⟨#[100, 101, 108, 105, 118, 101, 114, 101, 100]⟩)), (22, .c (.str ⟨#[111, 98, 106, 101, 99, 116, 101, 100]⟩)), (23, .c (.str ⟨#[108, 111, 115, 116]⟩)), (24, .c (.str ⟨#[114, 101, 112, 108, 97, 99, 101]⟩)), (25, .c (.str ⟨#[114, 101, 112, 108, 97, 99, 101, 100]⟩)), (26, .c (.str ⟨#[108, 97, 110, 100, 101, 100]⟩)), (27, .c (.str ⟨#[114, 101, 109, 105, 116]⟩)), (28, .c (.str ⟨#[97, 99, 107]⟩))])), (zm 0 1)]) .ret), [.tmp 0]⟩
def x26 : XFn := ⟨57, .seq (.reg [(zs 2 (.alloc 27 [.str ⟨#[]⟩, .int .i64 0])), (zs 3 (.mov (.c (.bl false))))]) (.seq (.seq (.reg [(zm 6 0), (zs 7 (.lens (.t 6))), (zs 8 (.cmp .lss (.t 7) (.c (.int .i64 5)))), (zm 9 8), (zh 10 9 false 0), (zg 11 9 false (.lens (.t 10))), (zg 12 9 false (.cmp .gtr (.t 11) (.c (.int .i64 24)))), (zs 13 (.pick (.t 9) (.c (.bl true)) (.t 12)))]) (.cond (.t 13) (.seq (.reg [(zs 14 (.bld [.str ⟨#[]⟩, .int .i64 0] [])), (zn (.st 2 (.t 2) (.t 14))), (zs 3 (.mov (.c (.bl false))))]) .ret) .skip)) (.seq (.reg [(zm 15 0), (zs 16 (.sls (.t 15) none (some (.c (.int .i64 3))))), (zs 17 (.bld [.str ⟨#[]⟩, .int .i64 0] [(0, (1, .t 16))])), (zs 4 (.alloc 27 [.str ⟨#[]⟩, .int .i64 0])), (zn (.st 2 (.t 4) (.t 17)))]) (.seq (.seq (.reg [(zs 5 (.mov (.c (.int .i64 4))))]) (.block 0 (.loop (.seq (.seq (.reg [(zm 18 5), (zm 19 0), (zs 20 (.lens (.t 19))), (zs 21 (.cmp .lss (.t 18) (.t 20)))]) (.cond (.t 21) .skip (.exit 0))) (.seq (.block 1 (.seq (.reg [(zm 24 0), (zm 25 5), (zs 26 (.idx (.t 24) (.t 25))), (zs 27 (.cmp .geq (.t 26) (.c (.int .u8 48)))), (zm 28 27), (zh 29 28 true 0), (zh 30 28 true 5), (zg 31 28 true (.idx (.t 29) (.t 30))), (zg 32 28 true (.cmp .leq (.t 31) (.c (.int .u8 57)))), (zs 33 (.pick (.t 28) (.t 32) (.c (.bl false))))]) (.cond (.t 33) (.dreg (.take 0 (zf 34 1 4) (.take 1 (zl 35 34) (.take 2 (zs 36 (.ari .mul .i64 (.c (.int .i64 10)) (.t 35))) (.take 3 (zm 37 0) (.take 4 (zm 38 5) (.take 5 (zs 39 (.idx (.t 37) (.t 38))) (.take 6 (zs 40 (.cvi .i64 (.t 39))) (.take 7 (zs 41 (.ari .add .i64 (.t 36) (.t 40))) (.take 8 (zs 42 (.ari .sub .i64 (.t 41) (.c (.int .i64 48)))) (.take 9 (zf 43 1 4) (.eff 10 0 false (zn (.st 1 (.t 43) (.t 42))) (.phase [1] .nil)))))))))))) 0 [4]) .skip))) (.reg [(zm 22 5), (zs 23 (.ari .add .i64 (.t 22) (.c (.int .i64 1)))), (zm 5 23)])))))) (.seq (.seq (.reg [(zm 44 0), (zs 45 (.idx (.t 44) (.c (.int .i64 4)))), (zs 46 (.cmp .eql (.t 45) (.c (.int .u8 45))))]) (.cond (.t 46) (.reg [(zf 47 1 4), (zl 48 47), (zs 49 (.neg .i64 (.t 48))), (zf 50 1 4), (zn (.st 1 (.t 50) (.t 49)))]) .skip)) (.seq (.seq (.reg [(zs 51 (.ld true 2 (.t 4))), (zs 52 (.call 41 [.t 51])), (zm 53 0), (zs 54 (.cmp .neq (.t 52) (.t 53)))]) (.cond (.t 54) (.seq (.reg [(zs 55 (.bld [.str ⟨#[]⟩, .int .i64 0] [])), (zn (.st 2 (.t 2) (.t 55))), (zs 3 (.mov (.c (.bl false))))]) .ret) .skip)) (.seq (.reg [(zs 56 (.ld true 2 (.t 4))), (zn (.st 2 (.t 2) (.t 56))), (zs 3 (.mov (.c (.bl true))))]) .ret)))))), [.cell 2 true 2, .tmp 3]⟩
def x27 : XFn := ⟨98, .seq (.reg [(zs 2 (.alloc 60 [.int .i64 0, .str ⟨#[]⟩, .str ⟨#[]⟩, .v (.slice none 0 0)])), (zs 3 (.mov (.c (.int .i64 0)))), (zs 4 (.mov (.c (.int .i64 0))))]) (.seq (.reg [(zm 12 0), (zs 13 (.call 18 [.t 12])), (zm 11 13), (zs 14 (.ext (.t 11) 0)), (zs 15 (.ext (.t 11) 1)), (zs 16 (.ext (.t 11) 2)), (zm 5 14), (zm 6 15), (zm 7 16)]) (.seq (.seq (.reg [(zm 17 7), (zs 18 (.cmp .neq (.t 17) (.c (.int .i64 0))))]) (.cond (.t 18) (.seq (.reg [(zs 19 (.bld [.int .i64 0, .str ⟨#[]⟩, .str ⟨#[]⟩, .v (.slice none 0 0)] [])), (zm 20 6), (zm 21 7), (zn (.st 4 (.t 2) (.t 19))), (zm 3 20), (zm 4 21)]) .ret) .skip)) (.seq (.reg [(zs 22 (.bld [.int .i64 0, .str ⟨#[]⟩, .str ⟨#[]⟩, .v (.slice none 0 0)] [(0, (1, .c (.int .i64 (-1))))])), (zs 8 (.alloc 60 [.int .i64 0, .str ⟨#[]⟩, .str ⟨#[]⟩, .v (.slice none 0 0)])), (zn (.st 4 (.t 8) (.t 22)))]) (.seq (.seq (.reg [(zm 23 5), (zs 24 (.lenl (.t 23))), (zs 25 (.cmp .gtr (.t 24) (.c (.int .i64 0)))), (zm 26 25), (zh 27 26 true 5), (zg 28 26 true (.iad 2 (.t 27) (.c (.int .i64 0)))), (zg 29 26 true (.fad 0 (.t 28))), (zg 30 26 true (.ld false 1 (.t 29))), (zg 31 26 true (.cmp .eql (.t 30) (.c (.str ⟨#[112, 97, 112, 101, 114]⟩)))), (zs 32 (.pick (.t 26) (.t 31) (.c (.bl false))))]) (.cond (.t 32) (.seq (.reg [(zs 9 (.mov (.c (.int .i64 0))))]) (.block 0 (.loop (.seq (.seq (.reg [(zm 33 9), (zs 34 (.cmp .lss (.t 33) (.c (.int .i64 6))))]) (.cond (.t 34) .skip (.exit 0))) (.seq (.block 1 (.seq (.dreg (.take 0 (zm 37 9) (.take 2 (zm 39 5) (.take 3 (zs 40 (.iad 2 (.t 39) (.c (.int .i64 0)))) (.take 4 (zf 41 1 40) (.take 5 (zl 42 41) (.eff 1 0 true (zs 38 (.call 66 [.t 37])) (.take 6 (zs 43 (.cmp .eql (.t 38) (.t 42))) .nil))))))) 0 [5]) (.cond (.t 43) (.reg [(zm 44 9), (zf 45 0 8), (zn (.st 1 (.t 45) (.t 44)))]) .skip))) (.reg [(zm 35 9), (zs 36 (.ari .add .i64 (.t 35) (.c (.int .i64 1)))), (zm 9 36)])))))) .skip)) (.seq (.seq (.reg [(zf 46 0 8), (zl 47 46), (zs 48 (.cmp .lss (.t 47) (.c (.int .i64 0))))]) (.cond (.t 48) (.seq (.reg [(zs 49 (.bld [.int .i64 0, .str ⟨#[]⟩, .str ⟨#[]⟩, .v (.slice none 0 0)] [])), (zn (.st 4 (.t 2) (.t 49))), (zs 3 (.mov (.c (.int .i64 1)))), (zs 4 (.mov (.c (.int .i64 2))))]) .ret) .skip)) (.seq (.seq (.reg [(zm 50 5), (zs 51 (.lenl (.t 50))), (zs 52 (.cmp .lss (.t 51) (.c (.int .i64 2)))), (zm 53 52), (zh 54 53 false 5), (zg 55 53 false (.iad 2 (.t 54) (.c (.int .i64 1)))), (zg 56 53 false (.fad 0 (.t 55))), (zg 57 53 false (.ld false 1 (.t 56))), (zg 58 53 false (.cmp .neq (.t 57) (.c (.str ⟨#[110, 117, 109, 98, 101, 114]⟩)))), (zs 59 (.pick (.t 53) (.c (.bl true)) (.t 58)))]) (.cond (.t 59) (.seq (.reg [(zs 60 (.bld [.int .i64 0, .str ⟨#[]⟩, .str ⟨#[]⟩, .v (.slice none 0 0)] [])), (zn (.st 4 (.t 2) (.t 60))), (zs 3 (.mov (.c (.int .i64 2)))), (zs 4 (.mov (.c (.int .i64 2))))]) .ret) .skip)) (.seq (.seq (.reg [(zm 61 5), (zs 62 (.lenl (.t 61))), (zs 63 (.cmp .lss (.t 62) (.c (.int .i64 3)))), (zm 64 63), (zh 65 64 false 5), (zg 66 64 false (.iad 2 (.t 65) (.c (.int .i64 2)))), (zg 67 64 false (.fad 0 (.t 66))), (zg 68 64 false (.ld false 1 (.t 67))), (zg 69 64 false (.cmp .neq (.t 68) (.c (.str ⟨#[105, 115, 115, 117, 101, 114]⟩)))), (zs 70 (.pick (.t 64) (.c (.bl true)) (.t 69)))]) (.cond (.t 70) (.seq (.reg [(zs 71 (.bld [.int .i64 0, .str ⟨#[]⟩, .str ⟨#[]⟩, .v (.slice none 0 0)] [])), (zn (.st 4 (.t 2) (.t 71))), (zs 3 (.mov (.c (.int .i64 3)))), (zs 4 (.mov (.c (.int .i64 2))))]) .ret) .skip)) (.seq (.dreg (.take 0 (zm 72 5) (.take 1 (zs 73 (.iad 2 (.t 72) (.c (.int .i64 1)))) (.take 2 (zf 74 1 73) (.take 3 (zl 75 74) (.take 4 (zm 76 5) (.take 5 (zs 77 (.iad 2 (.t 76) (.c (.int .i64 2)))) (.take 6 (zf 78 1 77) (.take 7 (zl 79 78) (.take 8 (zf 80 1 8) (.eff 9 0 true (zn (.st 1 (.t 80) (.t 75))) (.take 10 (zf 81 2 8) (.eff 11 0 false (zn (.st 1 (.t 81) (.t 79))) (.phase [3, 7] .nil))))))))))))) 0 [5]) (.seq (.seq (.reg [(zs 10 (.mov (.c (.int .i64 3))))]) (.block 2 (.loop (.seq (.seq (.reg [(zm 82 10), (zm 83 5), (zs 84 (.lenl (.t 83))), (zs 85 (.cmp .lss (.t 82) (.t 84)))]) (.cond (.t 85) .skip (.exit 2))) (.seq (.block 3 (.dreg (.take 0 (zf 88 3 8) (.take 1 (zl 89 88) (.take 2 (zm 90 5) (.take 3 (zm 91 10) (.take 4 (zs 92 (.iad 2 (.t 90) (.t 91))) (.take 5 (zs 93 (.ld true 2 (.t 92))) (.eff 6 0 true (zs 94 (.bsl 24 2 1 [.str ⟨#[]⟩, .str ⟨#[]⟩] [(0, .t 93)])) (.eff 7 1 false (zs 95 (.app 22 22 24 2 32 (.t 89) (.t 94))) (.phase [1, 5] (.take 8 (zf 96 3 8) (.eff 9 2 false (zn (.st 1 (.t 96) (.t 95))) (.phase [1, 5] .nil)))))))))))) 2 [8, 5])) (.reg [(zm 86 10), (zs 87 (.ari .add .i64 (.t 86) (.c (.int .i64 1)))), (zm 10 87)])))))) (.seq (.reg [(zs 97 (.ld true 4 (.t 8))), (zn (.st 4 (.t 2) (.t 97))), (zs 3 (.mov (.c (.int .i64 0)))), (zs 4 (.mov (.c (.int .i64 0))))]) .ret)))))))))), [.cell 2 true 4, .tmp 3, .tmp 4]⟩
def x28 : XFn := ⟨31, .seq (.reg [(zs 2 (.box 60 (.t 0))), (zs 3 (.box 60 (.t 1))), (zs 4 (.mov (.c (.bl false))))]) (.seq (.reg [(zf 5 0 2), (zl 6 5), (zf 7 0 3), (zl 8 7), (zs 9 (.cmp .eql (.t 6) (.t 8))), (zm 10 9), (zg 11 10 true (.fad 1 (.t 2))), (zg 12 10 true (.ld false 1 (.t 11))), (zg 13 10 true (.fad 1 (.t 3))), (zg 14 10 true (.ld false 1 (.t 13))), (zg 15 10 true (.cmp .eql (.t 12) (.t 14))), (zs 16 (.pick (.t 10) (.t 15) (.c (.bl false)))), (zm 17 16), (zg 18 17 true (.fad 2 (.t 2))), (zg 19 17 true (.ld false 1 (.t 18))), (zg 20 17 true (.fad 2 (.t 3))), (zg 21 17 true (.ld false 1 (.t 20))), (zg 22 17 true (.cmp .eql (.t 19) (.t 21))), (zs 23 (.pick (.t 17) (.t 22) (.c (.bl false)))), (zm 24 23), (zg 25 24 true (.fad 3 (.t 2))), (zg 26 24 true (.ld false 1 (.t 25))), (zg 27 24 true (.fad 3 (.t 3))), (zg 28 24 true (.ld false 1 (.t 27))), (zg 29 24 true (.call 10 [.t 26, .t 28])), (zs 30 (.pick (.t 24) (.t 29) (.c (.bl false)))), (zm 4 30)]) .ret), [.tmp 4]⟩
def x30 : XFn := ⟨54, .seq (.reg [(zs 1 (.box 27 (.t 0))), (zs 2 (.mov (.c (.str ⟨#[]⟩))))]) (.seq (.seq (.reg [(zs 6 (.ld true 2 (.t 1))), (zs 7 (.call 58 [.t 6])), (zs 8 (.not (.t 7)))]) (.cond (.t 8) (.seq (.reg [(zs 2 (.mov (.c (.str ⟨#[]⟩))))]) .ret) .skip)) (.seq (.reg [(zs 3 (.mov (.c (.str ⟨#[]⟩))))]) (.seq (.seq (.reg [(zf 9 1 1), (zl 10 9), (zs 11 (.cmp .lss (.t 10) (.c (.int .i64 0))))]) (.cond (.t 11) (.reg [(zs 3 (.mov (.c (.str ⟨#[45]⟩))))]) .skip)) (.seq (.reg [(zf 12 0 1), (zl 13 12), (zs 14 (.call 68 [.t 13])), (zm 4 14)]) (.seq (.reg [(zf 15 1 1), (zl 16 15), (zs 17 (.call 70 [.t 16])), (zs 18 (.call 69 [.t 17, .c (.int .i64 10)])), (zm 5 18)]) (.seq (.seq (.reg [(zm 19 5), (zs 20 (.lens (.t 19))), (zm 21 4), (zs 22 (.cmp .leq (.t 20) (.t 21)))]) (.cond (.t 22) (.reg [(zm 23 4), (zs 24 (.ari .add .i64 (.t 23) (.c (.int .i64 1)))), (zm 25 5), (zs 26 (.lens (.t 25))), (zs 27 (.ari .sub .i64 (.t 24) (.t 26))), (zs 28 (.call 71 [.c (.str ⟨#[48]⟩), .t 27])), (zm 29 5), (zs 30 (.ari .add .i64 (.t 28) (.t 29))), (zm 5 30)]) .skip)) (.seq (.seq (.reg [(zm 31 4), (zs 32 (.cmp .gtr (.t 31) (.c (.int .i64 0))))]) (.cond (.t 32) (.dreg (.take 0 (zm 33 5) (.take 1 (zm 34 5) (.take 2 (zs 35 (.lens (.t 34))) (.take 3 (zm 36 4) (.take 4 (zs 37 (.ari .sub .i64 (.t 35) (.t 36))) (.take 5 (zs 38 (.sls (.t 33) none (some (.t 37)))) (.take 6 (zs 39 (.ari .add .i64 (.t 38) (.c (.str ⟨#[46]⟩)))) (.take 7 (zm 40 5) (.take 8 (zm 41 5) (.take 9 (zs 42 (.lens (.t 41))) (.take 10 (zm 43 4) (.take 11 (zs 44 (.ari .sub .i64 (.t 42) (.t 43))) (.take 12 (zs 45 (.sls (.t 40) (some (.t 44)) none)) (.take 13 (zs 46 (.ari .add .i64 (.t 39) (.t 45))) (.take 14 (zm 5 46) .nil))))))))))))))) 0 []) .skip)) (.seq (.reg [(zf 47 0 1), (zl 48 47), (zs 49 (.ari .add .i64 (.t 48) (.c (.str ⟨#[32]⟩)))), (zm 50 3), (zs 51 (.ari .add .i64 (.t 49) (.t 50))), (zm 52 5), (zs 53 (.ari .add .i64 (.t 51) (.t 52))), (zm 2 53)]) .ret)))))))), [.tmp 2]⟩
def x31 : XFn := ⟨38, .seq (.reg [(zs 1 (.box 60 (.t 0))), (zs 2 (.mov (.c (.str ⟨#[]⟩)))), (zs 3 (.mov (.c (.int .i64 0))))]) (.seq (.seq (.reg [(zf 5 0 1), (zl 6 5), (zs 7 (.cmp .lss (.t 6) (.c (.int .i64 0)))), (zm 8 7), (zg 9 8 false (.fad 0 (.t 1))), (zg 10 8 false (.ld false 1 (.t 9))), (zg 11 8 false (.cmp .geq (.t 10) (.c (.int .i64 6)))), (zs 12 (.pick (.t 8) (.c (.bl true)) (.t 11))), (zm 13 12), (zg 14 13 false (.fad 3 (.t 1))), (zg 15 13 false (.ld false 1 (.t 14))), (zg 16 13 false (.lenl (.t 15))), (zg 17 13 false (.cmp .gtr (.t 16) (.c (.int .i64 61)))), (zs 18 (.pick (.t 13) (.c (.bl true)) (.t 17)))]) (.cond (.t 18) (.seq (.reg [(zs 2 (.mov (.c (.str ⟨#[]⟩)))), (zs 3 (.mov (.c (.int .i64 1))))]) .ret) .skip)) (.seq (.dreg (.take 0 (zf 19 0 1) (.take 1 (zl 20 19) (.take 2 (zs 21 (.aia 1 6 (.g 1) (.t 20))) (.take 3 (zl 22 21) (.take 4 (zs 23 (.bld [.str ⟨#[]⟩, .str ⟨#[]⟩] [(0, (1, .c (.str ⟨#[112, 97, 112, 101, 114]⟩))), (1, (1, .t 22))])) (.take 5 (zf 24 1 1) (.take 6 (zl 25 24) (.take 7 (zs 26 (.bld [.str ⟨#[]⟩, .str ⟨#[]⟩] [(0, (1, .c (.str ⟨#[110, 117, 109, 98, 101, 114]⟩))), (1, (1, .t 25))])) (.take 8 (zf 27 2 1) (.take 9 (zl 28 27) (.take 10 (zs 29 (.bld [.str ⟨#[]⟩, .str ⟨#[]⟩] [(0, (1, .c (.str ⟨#[105, 115, 115, 117, 101, 114]⟩))), (1, (1, .t 28))])) (.eff 11 0 false (zs 30 (.bsl 24 2 3 [.str ⟨#[]⟩, .str ⟨#[]⟩] [(0, .t 23), (1, .t 26), (2, .t 29)])) (.phase [1, 3, 6, 9] (.take 12 (zm 4 30) .nil)))))))))))))) 1 [1]) (.seq (.reg [(zm 31 4), (zf 32 3 1), (zl 33 32), (zs 34 (.app 22 22 24 2 32 (.t 31) (.t 33))), (zs 35 (.call 32 [.t 34])), (zs 36 (.ext (.t 35) 0)), (zs 37 (.ext (.t 35) 1)), (zm 2 36), (zm 3 37)]) .ret))), [.tmp 2, .tmp 3]⟩
def x33 : XFn := ⟨46, .seq (.reg [(zs 2 (.mov (.c (.bl false))))]) (.seq (.seq (.reg [(zs 3 (.mov (.c (.int .i64 0))))]) (.block 0 (.loop (.seq (.seq (.reg [(zm 4 3), (zm 5 0), (zs 6 (.lens (.t 5))), (zs 7 (.cmp .lss (.t 4) (.t 6)))]) (.cond (.t 7) .skip (.exit 0))) (.seq (.block 1 (.seq (.reg [(zm 10 0), (zm 11 3), (zs 12 (.idx (.t 10) (.t 11))), (zs 13 (.cmp .lss (.t 12) (.c (.int .u8 97)))), (zm 14 13), (zh 15 14 false 0), (zh 16 14 false 3), (zg 17 14 false (.idx (.t 15) (.t 16))), (zg 18 14 false (.cmp .gtr (.t 17) (.c (.int .u8 122)))), (zs 19 (.pick (.t 14) (.c (.bl true)) (.t 18))), (zm 20 19), (zh 21 20 true 0), (zh 22 20 true 3), (zg 23 20 true (.idx (.t 21) (.t 22))), (zg 24 20 true (.cmp .lss (.t 23) (.c (.int .u8 48)))), (zh 25 20 true 24), (zh 26 25 false 0), (zh 27 25 false 3), (zg 28 25 false (.idx (.t 26) (.t 27))), (zg 29 25 false (.cmp .gtr (.t 28) (.c (.int .u8 57)))), (zg 30 20 true (.pick (.t 25) (.c (.bl true)) (.t 29))), (zs 31 (.pick (.t 20) (.t 30) (.c (.bl false)))), (zm 32 31), (zh 33 32 true 0), (zh 34 32 true 3), (zg 35 32 true (.idx (.t 33) (.t 34))), (zg 36 32 true (.cmp .neq (.t 35) (.c (.int .u8 45)))), (zs 37 (.pick (.t 32) (.t 36) (.c (.bl false))))]) (.cond (.t 37) (.seq (.reg [(zs 2 (.mov (.c (.bl false))))]) .ret) .skip))) (.reg [(zm 8 3), (zs 9 (.ari .add .i64 (.t 8) (.c (.int .i64 1)))), (zm 3 9)])))))) (.seq (.reg [(zm 38 0), (zs 39 (.lens (.t 38))), (zs 40 (.cmp .geq (.t 39) (.c (.int .i64 1)))), (zm 41 40), (zh 42 41 true 0), (zg 43 41 true (.lens (.t 42))), (zg 44 41 true (.cmp .leq (.t 43) (.c (.int .i64 16)))), (zs 45 (.pick (.t 41) (.t 44) (.c (.bl false)))), (zm 2 45)]) .ret)), [.tmp 2]⟩
def x34 : XFn := ⟨15, .seq (.reg [(zs 6 (.mov (.c (.bl false))))]) (.seq (.reg [(zm 7 0), (zm 8 1), (zs 9 (.cmp .geq (.t 7) (.t 8))), (zm 10 9), (zh 11 10 true 0), (zh 12 10 true 2), (zg 13 10 true (.cmp .leq (.t 11) (.t 12))), (zs 14 (.pick (.t 10) (.t 13) (.c (.bl false)))), (zm 6 14)]) .ret), [.tmp 6]⟩
def x35 : XFn := ⟨9, .seq (.reg [(zs 2 (.mov (.c (.bl false))))]) (.seq (.reg [(zm 3 0), (zs 4 (.cmp .eql (.t 3) (.c (.str ⟨#[]⟩)))), (zm 5 4), (zh 6 5 false 0), (zg 7 5 false (.call 33 [.t 6])), (zs 8 (.pick (.t 5) (.c (.bl true)) (.t 7))), (zm 2 8)]) .ret), [.tmp 2]⟩
def x36 : XFn := ⟨11, .seq (.reg [(zs 1 (.box 27 (.t 0))), (zs 2 (.mov (.c (.bl false))))]) (.seq (.reg [(zf 3 0 1), (zl 4 3), (zs 5 (.cmp .eql (.t 4) (.c (.str ⟨#[]⟩)))), (zm 6 5), (zg 7 6 true (.fad 1 (.t 1))), (zg 8 6 true (.ld false 1 (.t 7))), (zg 9 6 true (.cmp .eql (.t 8) (.c (.int .i64 0)))), (zs 10 (.pick (.t 6) (.t 9) (.c (.bl false)))), (zm 2 10)]) .ret), [.tmp 2]⟩
def x37 : XFn := ⟨16, .seq (.reg [(zs 1 (.box 27 (.t 0))), (zs 2 (.mov (.c (.bl false))))]) (.seq (.reg [(zf 3 0 1), (zl 4 3), (zs 5 (.call 76 [.t 4])), (zm 6 5), (zg 7 6 true (.fad 1 (.t 1))), (zg 8 6 true (.ld false 1 (.t 7))), (zg 9 6 true (.cmp .geq (.t 8) (.c (.int .i64 (-1099511627776))))), (zs 10 (.pick (.t 6) (.t 9) (.c (.bl false)))), (zm 11 10), (zg 12 11 true (.fad 1 (.t 1))), (zg 13 11 true (.ld false 1 (.t 12))), (zg 14 11 true (.cmp .leq (.t 13) (.c (.int .i64 1099511627776)))), (zs 15 (.pick (.t 11) (.t 14) (.c (.bl false)))), (zm 2 15)]) .ret), [.tmp 2]⟩
def x38 : XFn := ⟨40, .seq (.reg [(zs 1 (.box 60 (.t 0))), (zs 2 (.mov (.c (.bl false))))]) (.seq (.seq (.reg [(zs 3 (.mov (.c (.int .i64 0))))]) (.block 0 (.loop (.seq (.seq (.reg [(zm 4 3), (zf 5 3 1), (zl 6 5), (zs 7 (.lenl (.t 6))), (zs 8 (.cmp .lss (.t 4) (.t 7)))]) (.cond (.t 8) .skip (.exit 0))) (.seq (.block 1 (.seq (.reg [(zf 11 3 1), (zl 12 11), (zm 13 3), (zs 14 (.iad 2 (.t 12) (.t 13))), (zs 15 (.ld true 2 (.t 14))), (zs 16 (.call 40 [.t 15])), (zs 17 (.not (.t 16)))]) (.cond (.t 17) (.seq (.reg [(zs 2 (.mov (.c (.bl false))))]) .ret) .skip))) (.reg [(zm 9 3), (zs 10 (.ari .add .i64 (.t 9) (.c (.int .i64 1)))), (zm 3 10)])))))) (.seq (.reg [(zf 18 0 1), (zl 19 18), (zs 20 (.call 66 [.t 19])), (zs 21 (.cmp .neq (.t 20) (.c (.str ⟨#[]⟩)))), (zm 22 21), (zg 23 22 true (.fad 1 (.t 1))), (zg 24 22 true (.ld false 1 (.t 23))), (zg 25 22 true (.lens (.t 24))), (zg 26 22 true (.cmp .leq (.t 25) (.c (.int .i64 4096)))), (zs 27 (.pick (.t 22) (.t 26) (.c (.bl false)))), (zm 28 27), (zg 29 28 true (.fad 2 (.t 1))), (zg 30 28 true (.ld false 1 (.t 29))), (zg 31 28 true (.lens (.t 30))), (zg 32 28 true (.cmp .leq (.t 31) (.c (.int .i64 4096)))), (zs 33 (.pick (.t 28) (.t 32) (.c (.bl false)))), (zm 34 33), (zg 35 34 true (.fad 3 (.t 1))), (zg 36 34 true (.ld false 1 (.t 35))), (zg 37 34 true (.lenl (.t 36))), (zg 38 34 true (.cmp .leq (.t 37) (.c (.int .i64 61)))), (zs 39 (.pick (.t 34) (.t 38) (.c (.bl false)))), (zm 2 39)]) .ret)), [.tmp 2]⟩
def x39 : XFn := ⟨19, .seq (.reg [(zs 1 (.box 60 (.t 0))), (zs 2 (.mov (.c (.v (.slice none 0 0)))))]) (.seq (.dreg (.take 0 (zf 4 0 1) (.take 1 (zl 5 4) (.take 4 (zf 8 1 1) (.take 5 (zl 9 8) (.take 6 (zs 10 (.bld [.str ⟨#[]⟩, .str ⟨#[]⟩] [(0, (1, .c (.str ⟨#[110, 117, 109, 98, 101, 114]⟩))), (1, (1, .t 9))])) (.take 7 (zf 11 2 1) (.take 8 (zl 12 11) (.take 9 (zs 13 (.bld [.str ⟨#[]⟩, .str ⟨#[]⟩] [(0, (1, .c (.str ⟨#[105, 115, 115, 117, 101, 114]⟩))), (1, (1, .t 12))])) (.eff 2 0 true (zs 6 (.call 66 [.t 5])) (.take 3 (zs 7 (.bld [.str ⟨#[]⟩, .str ⟨#[]⟩] [(0, (1, .c (.str ⟨#[112, 97, 112, 101, 114]⟩))), (1, (1, .t 6))])) (.eff 10 0 false (zs 14 (.bsl 24 2 3 [.str ⟨#[]⟩, .str ⟨#[]⟩] [(0, .t 7), (1, .t 10), (2, .t 13)])) (.phase [1, 5, 8] (.take 11 (zm 3 14) .nil))))))))))))) 1 [1]) (.seq (.reg [(zm 15 3), (zf 16 3 1), (zl 17 16), (zs 18 (.app 22 22 24 2 32 (.t 15) (.t 17))), (zm 2 18)]) .ret)), [.tmp 2]⟩
def x40 : XFn := ⟨12, .seq (.reg [(zs 1 (.box 24 (.t 0))), (zs 2 (.mov (.c (.bl false))))]) (.seq (.reg [(zf 3 0 1), (zl 4 3), (zs 5 (.call 33 [.t 4])), (zm 6 5), (zg 7 6 true (.fad 1 (.t 1))), (zg 8 6 true (.ld false 1 (.t 7))), (zg 9 6 true (.lens (.t 8))), (zg 10 6 true (.cmp .leq (.t 9) (.c (.int .i64 4096)))), (zs 11 (.pick (.t 6) (.t 10) (.c (.bl false)))), (zm 2 11)]) .ret), [.tmp 2]⟩
def x41 : XFn := ⟨49, .seq (.reg [(zs 1 (.box 27 (.t 0))), (zs 2 (.mov (.c (.str ⟨#[]⟩))))]) (.seq (.seq (.reg [(zs 8 (.ld true 2 (.t 1))), (zs 9 (.call 37 [.t 8])), (zs 10 (.not (.t 9)))]) (.cond (.t 10) (.seq (.reg [(zs 2 (.mov (.c (.str ⟨#[]⟩))))]) .ret) .skip)) (.seq (.dreg (.take 0 (zf 11 1 1) (.take 1 (zl 12 11) (.take 2 (zf 13 0 1) (.take 3 (zl 14 13) (.take 4 (zs 15 (.ari .add .i64 (.t 14) (.c (.str ⟨#[32]⟩)))) (.take 5 (zm 3 12) (.take 6 (zm 4 15) .nil))))))) 0 [1]) (.seq (.seq (.reg [(zm 16 3), (zs 17 (.cmp .lss (.t 16) (.c (.int .i64 0))))]) (.cond (.t 17) (.reg [(zm 18 3), (zs 19 (.neg .i64 (.t 18))), (zm 20 4), (zs 21 (.ari .add .i64 (.t 20) (.c (.str ⟨#[45]⟩)))), (zm 3 19), (zm 4 21)]) .skip)) (.seq (.reg [(zf 22 0 1), (zl 23 22), (zs 24 (.call 77 [.t 23])), (zm 5 24)]) (.seq (.reg [(zs 6 (.mov (.c (.int .i64 1))))]) (.seq (.seq (.reg [(zs 7 (.mov (.c (.int .i64 0))))]) (.block 0 (.loop (.seq (.seq (.reg [(zm 25 7), (zm 26 5), (zs 27 (.cmp .lss (.t 25) (.t 26)))]) (.cond (.t 27) .skip (.exit 0))) (.seq (.block 1 (.reg [(zm 30 6), (zs 31 (.ari .mul .i64 (.c (.int .i64 10)) (.t 30))), (zm 6 31)])) (.reg [(zm 28 7), (zs 29 (.ari .add .i64 (.t 28) (.c (.int .i64 1)))), (zm 7 29)])))))) (.seq (.reg [(zm 32 4), (zm 33 3), (zm 34 6), (zs 35 (.ari .quo .i64 (.t 33) (.t 34))), (zs 36 (.call 78 [.t 35, .c (.int .i64 1)])), (zs 37 (.ari .add .i64 (.t 32) (.t 36))), (zm 4 37)]) (.seq (.seq (.reg [(zm 38 5), (zs 39 (.cmp .gtr (.t 38) (.c (.int .i64 0))))]) (.cond (.t 39) (.reg [(zm 40 4), (zm 41 3), (zm 42 6), (zs 43 (.ari .rem .i64 (.t 41) (.t 42))), (zm 44 5), (zs 45 (.call 78 [.t 43, .t 44])), (zs 46 (.ari .add .i64 (.c (.str ⟨#[46]⟩)) (.t 45))), (zs 47 (.ari .add .i64 (.t 40) (.t 46))), (zm 4 47)]) .skip)) (.seq (.reg [(zm 48 4), (zm 2 48)]) .ret))))))))), [.tmp 2]⟩
def x42 : XFn := ⟨9, .seq (.reg [(zs 4 (.alloc 24 [.str ⟨#[]⟩, .str ⟨#[]⟩]))]) (.seq (.reg [(zm 5 0), (zm 6 1), (zs 7 (.call 79 [.t 6])), (zs 8 (.bld [.str ⟨#[]⟩, .str ⟨#[]⟩] [(0, (1, .t 5)), (1, (1, .t 7))])), (zn (.st 2 (.t 4) (.t 8)))]) .ret), [.cell 4 true 2]⟩
def x43 : XFn := ⟨99, .seq (.reg [(zs 2 (.mov (.c (.v (.slice none 0 0))))), (zs 3 (.mov (.c (.int .i64 0)))), (zs 4 (.mov (.c (.int .i64 0))))]) (.scope (.seq (.reg [(zs 5 (.mov (.c (.v (.slice none 0 0)))))]) (.seq (.reg [(zs 6 (.mov (.c (.int .i64 0)))), (zs 7 (.mov (.c (.int .i64 0))))]) (.seq (.label 0) (.seq (.block 0 (.loop (.seq (.seq (.reg [(zm 15 0), (zs 16 (.lens (.t 15))), (zs 17 (.cmp .gtr (.t 16) (.c (.int .i64 0))))]) (.cond (.t 17) .skip (.exit 0))) (.block 1 (.seq (.reg [(zm 18 6), (zs 19 (.ari .add .i64 (.t 18) (.c (.int .i64 1)))), (zm 6 19)]) (.seq (.seq (.reg [(zm 20 6), (zs 21 (.cmp .gtr (.t 20) (.c (.int .i64 64))))]) (.cond (.t 21) (.seq (.reg [(zs 7 (.mov (.c (.int .i64 7))))]) (.exit 0)) .skip)) (.seq (.reg [(zm 22 0), (zs 23 (.call 80 [.t 22, .c (.int .u8 10)])), (zm 8 23)]) (.seq (.seq (.reg [(zm 24 8), (zs 25 (.cmp .lss (.t 24) (.c (.int .i64 0))))]) (.cond (.t 25) (.seq (.reg [(zs 7 (.mov (.c (.int .i64 2))))]) (.exit 0)) .skip)) (.seq (.reg [(zm 27 0), (zm 28 8), (zs 29 (.sls (.t 27) none (some (.t 28)))), (zs 30 (.call 81 [.t 29, .c (.str ⟨#[61]⟩)])), (zm 26 30), (zs 31 (.ext (.t 26) 0)), (zs 32 (.ext (.t 26) 1)), (zs 33 (.ext (.t 26) 2)), (zm 9 31), (zm 10 32), (zm 11 33)]) (.seq (.reg [(zm 34 0), (zm 35 8), (zs 36 (.ari .add .i64 (.t 35) (.c (.int .i64 1)))), (zs 37 (.sls (.t 34) (some (.t 36)) none)), (zm 0 37)]) (.seq (.seq (.reg [(zm 38 11), (zs 39 (.not (.t 38))), (zm 40 39), (zh 41 40 false 9), (zg 42 40 false (.call 82 [.t 41])), (zg 43 40 false (.not (.t 42))), (zs 44 (.pick (.t 40) (.c (.bl true)) (.t 43)))]) (.cond (.t 44) (.seq (.reg [(zs 7 (.mov (.c (.int .i64 2))))]) (.exit 0)) .skip)) (.seq (.reg [(zs 12 (.mov (.c (.v (.slice none 0 0)))))]) (.seq (.seq (.reg [(zs 13 (.mov (.c (.int .i64 0))))]) (.block 2 (.loop (.seq (.seq (.reg [(zm 45 13), (zm 46 10), (zs 47 (.lens (.t 46))), (zs 48 (.cmp .lss (.t 45) (.t 47)))]) (.cond (.t 48) .skip (.exit 2))) (.seq (.block 3 (.seq (.reg [(zm 51 10), (zm 52 13), (zs 53 (.idx (.t 51) (.t 52))), (zm 14 53)]) (.seq (.seq (.reg [(zm 54 14), (zs 55 (.cmp .eql (.t 54) (.c (.int .u8 92))))]) (.cond (.t 55) (.seq (.reg [(zm 56 13), (zs 57 (.ari .add .i64 (.t 56) (.c (.int .i64 1)))), (zm 13 57)]) (.block 4 (.seq (.reg [(zm 59 13), (zm 60 10), (zs 61 (.lens (.t 60))), (zs 62 (.cmp .lss (.t 59) (.t 61))), (zm 63 62), (zh 64 63 true 10), (zh 65 63 true 13), (zg 66 63 true (.idx (.t 64) (.t 65))), (zg 67 63 true (.cmp .eql (.t 66) (.c (.int .u8 92)))), (zs 68 (.pick (.t 63) (.t 67) (.c (.bl false)))), (zm 58 68)]) (.cond (.t 58) .skip (.seq (.reg [(zm 70 13), (zm 71 10), (zs 72 (.lens (.t 71))), (zs 73 (.cmp .lss (.t 70) (.t 72))), (zm 74 73), (zh 75 74 true 10), (zh 76 74 true 13), (zg 77 74 true (.idx (.t 75) (.t 76))), (zg 78 74 true (.cmp .eql (.t 77) (.c (.int .u8 110)))), (zs 79 (.pick (.t 74) (.t 78) (.c (.bl false)))), (zm 69 79)]) (.cond (.t 69) (.reg [(zs 14 (.mov (.c (.int .u8 10))))]) (.seq (.reg [(zs 7 (.mov (.c (.int .i64 2))))]) (.exit 0)))))))) .skip)) (.seq (.seq (.reg [(zm 80 12), (zs 81 (.lenl (.t 80))), (zs 82 (.cmp .eql (.t 81) (.c (.int .i64 4096))))]) (.cond (.t 82) (.seq (.reg [(zs 7 (.mov (.c (.int .i64 2))))]) (.exit 0)) .skip)) (.reg [(zm 83 12), (zm 84 14), (zs 85 (.bsl 5 1 1 [.int .u8 0] [(0, .t 84)])), (zs 86 (.app 102 102 5 1 1 (.t 83) (.t 85))), (zm 12 86)]))))) (.reg [(zm 49 13), (zs 50 (.ari .add .i64 (.t 49) (.c (.int .i64 1)))), (zm 13 50)])))))) (.reg [(zm 87 5), (zm 88 9), (zm 89 12), (zs 90 (.b2s (.t 89))), (zs 91 (.bld [.str ⟨#[]⟩, .str ⟨#[]⟩] [(0, (1, .t 88)), (1, (1, .t 90))])), (zs 92 (.bsl 24 2 1 [.str ⟨#[]⟩, .str ⟨#[]⟩] [(0, .t 91)])), (zs 93 (.app 22 22 24 2 32 (.t 87) (.t 92))), (zm 5 93)])))))))))))))) (.seq (.seq (.reg [(zm 94 7), (zs 95 (.cmp .neq (.t 94) (.c (.int .i64 0))))]) (.cond (.t 95) (.seq (.reg [(zm 96 6), (zm 97 7), (zs 2 (.mov (.c (.v (.slice none 0 0))))), (zm 3 96), (zm 4 97)]) .ret) .skip)) (.seq (.reg [(zm 98 5), (zm 2 98), (zs 3 (.mov (.c (.int .i64 0)))), (zs 4 (.mov (.c (.int .i64 0))))]) .ret))))))), [.tmp 2, .tmp 3, .tmp 4]⟩
def x44 : XFn := ⟨92, .seq (.reg [(zs 2 (.alloc 24 [.str ⟨#[]⟩, .str ⟨#[]⟩])), (zs 3 (.mov (.c (.bl false))))]) (.seq (.reg [(zs 4 (.mov (.c (.int .i64 0))))]) (.seq (.block 0 (.loop (.seq (.seq (.reg [(zm 7 4), (zm 8 0), (zs 9 (.lens (.t 8))), (zs 10 (.cmp .lss (.t 7) (.t 9))), (zm 11 10), (zh 12 11 true 0), (zh 13 11 true 4), (zg 14 11 true (.idx (.t 12) (.t 13))), (zg 15 11 true (.cmp .neq (.t 14) (.c (.int .u8 61)))), (zs 16 (.pick (.t 11) (.t 15) (.c (.bl false))))]) (.cond (.t 16) .skip (.exit 0))) (.block 1 (.reg [(zm 17 4), (zs 18 (.ari .add .i64 (.t 17) (.c (.int .i64 1)))), (zm 4 18)]))))) (.seq (.seq (.reg [(zm 19 4), (zm 20 0), (zs 21 (.lens (.t 20))), (zs 22 (.cmp .eql (.t 19) (.t 21))), (zm 23 22), (zh 24 23 false 0), (zh 25 23 false 4), (zg 26 23 false (.sls (.t 24) none (some (.t 25)))), (zg 27 23 false (.call 33 [.t 26])), (zg 28 23 false (.not (.t 27))), (zs 29 (.pick (.t 23) (.c (.bl true)) (.t 28)))]) (.cond (.t 29) (.seq (.reg [(zs 30 (.bld [.str ⟨#[]⟩, .str ⟨#[]⟩] [])), (zn (.st 2 (.t 2) (.t 30))), (zs 3 (.mov (.c (.bl false))))]) .ret) .skip)) (.seq (.reg [(zm 31 0), (zm 32 4), (zs 33 (.sls (.t 31) none (some (.t 32)))), (zs 34 (.bld [.str ⟨#[]⟩, .str ⟨#[]⟩] [(0, (1, .t 33))])), (zs 5 (.alloc 24 [.str ⟨#[]⟩, .str ⟨#[]⟩])), (zn (.st 2 (.t 5) (.t 34)))]) (.seq (.seq (.reg [(zm 35 4), (zs 36 (.ari .add .i64 (.t 35) (.c (.int .i64 1)))), (zm 6 36)]) (.block 2 (.loop (.seq (.seq (.reg [(zm 37 6), (zm 38 0), (zs 39 (.lens (.t 38))), (zs 40 (.cmp .lss (.t 37) (.t 39)))]) (.cond (.t 40) .skip (.exit 2))) (.seq (.block 3 (.seq (.seq (.reg [(zm 43 0), (zm 44 6), (zs 45 (.idx (.t 43) (.t 44))), (zs 46 (.cmp .neq (.t 45) (.c (.int .u8 92))))]) (.cond (.t 46) (.seq (.dreg (.take 0 (zf 47 1 5) (.take 1 (zl 48 47) (.take 2 (zm 49 0) (.take 3 (zm 50 6) (.take 4 (zm 51 6) (.take 5 (zs 52 (.ari .add .i64 (.t 51) (.c (.int .i64 1)))) (.take 6 (zs 53 (.sls (.t 49) (some (.t 50)) (some (.t 52)))) (.take 7 (zs 54 (.ari .add .i64 (.t 48) (.t 53))) (.take 8 (zf 55 1 5) (.eff 9 0 false (zn (.st 1 (.t 55) (.t 54))) (.phase [1] .nil))))))))))) 0 [5]) (.exit 3)) .skip)) (.seq (.reg [(zm 56 6), (zs 57 (.ari .add .i64 (.t 56) (.c (.int .i64 1)))), (zm 6 57)]) (.seq (.seq (.reg [(zm 58 6), (zm 59 0), (zs 60 (.lens (.t 59))), (zs 61 (.cmp .eql (.t 58) (.t 60))), (zm 62 61), (zh 63 62 false 0), (zh 64 62 false 6), (zg 65 62 false (.idx (.t 63) (.t 64))), (zg 66 62 false (.cmp .neq (.t 65) (.c (.int .u8 92)))), (zh 67 62 false 66), (zh 68 67 true 0), (zh 69 67 true 6), (zg 70 67 true (.idx (.t 68) (.t 69))), (zg 71 67 true (.cmp .neq (.t 70) (.c (.int .u8 110)))), (zg 72 62 false (.pick (.t 67) (.t 71) (.c (.bl false)))), (zs 73 (.pick (.t 62) (.c (.bl true)) (.t 72)))]) (.cond (.t 73) (.seq (.reg [(zs 74 (.bld [.str ⟨#[]⟩, .str ⟨#[]⟩] [])), (zn (.st 2 (.t 2) (.t 74))), (zs 3 (.mov (.c (.bl false))))]) .ret) .skip)) (.seq (.reg [(zm 75 0), (zm 76 6), (zs 77 (.idx (.t 75) (.t 76))), (zs 78 (.cmp .eql (.t 77) (.c (.int .u8 110))))]) (.cond (.t 78) (.reg [(zf 79 1 5), (zl 80 79), (zs 81 (.ari .add .i64 (.t 80) (.c (.str ⟨#[10]⟩)))), (zf 82 1 5), (zn (.st 1 (.t 82) (.t 81)))]) (.reg [(zf 83 1 5), (zl 84 83), (zs 85 (.ari .add .i64 (.t 84) (.c (.str ⟨#[92]⟩)))), (zf 86 1 5), (zn (.st 1 (.t 86) (.t 85)))]))))))) (.reg [(zm 41 6), (zs 42 (.ari .add .i64 (.t 41) (.c (.int .i64 1)))), (zm 6 42)])))))) (.seq (.dreg (.take 0 (zs 87 (.ld true 2 (.t 5))) (.take 1 (zf 88 1 5) (.take 2 (zl 89 88) (.take 3 (zs 90 (.lens (.t 89))) (.take 4 (zs 91 (.cmp .leq (.t 90) (.c (.int .i64 4096)))) (.eff 5 0 true (zn (.st 2 (.t 2) (.t 87))) (.take 6 (zm 3 91) .nil))))))) 0 [5]) .ret)))))), [.cell 2 true 2, .tmp 3]⟩
def x45 : XFn := ⟨4, .seq (.reg [(zs 1 (.box 84 (.t 0))), (zs 2 (.mov (.c (.v .nilFunc))))]) (.seq (.reg [(zs 3 (.mkf 46 [.t 1])), (zm 2 3)]) .ret), [.tmp 2]⟩
def x46 : XFn := ⟨7, .seq (.reg [(zs 3 (.mov (.c (.bl false))))]) (.seq (.reg [(zl 4 1), (zm 5 0), (zs 6 (.nck (.t 4))), (zn (.st 1 (.t 6) (.t 5)))]) (.seq (.reg [(zs 3 (.mov (.c (.bl true))))]) .ret)), [.tmp 3]⟩
def x47 : XFn := ⟨4, .seq (.reg [(zs 1 (.box 86 (.t 0))), (zs 2 (.mov (.c (.v .nilFunc))))]) (.seq (.reg [(zs 3 (.mkf 48 [.t 1])), (zm 2 3)]) .ret), [.tmp 2]⟩
def x48 : XFn := ⟨15, .seq (.reg [(zs 3 (.mov (.c (.bl false))))]) (.seq (.reg [(zm 7 0), (zs 8 (.call 49 [.t 7])), (zm 6 8), (zs 9 (.ext (.t 6) 0)), (zs 10 (.ext (.t 6) 1)), (zm 4 9), (zm 5 10)]) (.seq (.reg [(zl 11 1), (zm 12 4), (zs 13 (.nck (.t 11))), (zn (.st 1 (.t 13) (.t 12)))]) (.seq (.reg [(zm 14 5), (zm 3 14)]) .ret))), [.tmp 3]⟩
def x49 : XFn := ⟨28, .seq (.reg [(zs 2 (.mov (.c (.int .i64 0)))), (zs 3 (.mov (.c (.bl false))))]) (.seq (.reg [(zm 7 0), (zs 8 (.call 83 [.t 7, .c (.int .i64 10), .c (.int .i64 64)])), (zm 6 8), (zs 9 (.ext (.t 6) 0)), (zs 10 (.ext (.t 6) 1)), (zm 4 9), (zm 5 10)]) (.seq (.seq (.reg [(zm 11 5), (zs 12 (.bad)), (zm 13 12), (zh 14 13 false 4), (zg 15 13 false (.cmp .lss (.t 14) (.c (.int .i64 (-4611686018427387904))))), (zs 16 (.pick (.t 13) (.c (.bl true)) (.t 15))), (zm 17 16), (zh 18 17 false 4), (zg 19 17 false (.cmp .gtr (.t 18) (.c (.int .i64 4611686018427387904)))), (zs 20 (.pick (.t 17) (.c (.bl true)) (.t 19))), (zm 21 20), (zh 22 21 false 4), (zg 23 21 false (.call 84 [.t 22, .c (.int .i64 10)])), (zh 24 21 false 0), (zg 25 21 false (.cmp .neq (.t 23) (.t 24))), (zs 26 (.pick (.t 21) (.c (.bl true)) (.t 25)))]) (.cond (.t 26) (.seq (.reg [(zs 2 (.mov (.c (.int .i64 0)))), (zs 3 (.mov (.c (.bl false))))]) .ret) .skip)) (.seq (.reg [(zm 27 4), (zm 2 27), (zs 3 (.mov (.c (.bl true))))]) .ret))), [.tmp 2, .tmp 3]⟩
def x50 : XFn := ⟨13, .seq (.reg [(zs 3 (.mov (.c (.bl false))))]) (.seq (.dreg (.take 0 (zl 5 1) (.take 1 (zm 6 0) (.eff 2 0 true (zs 7 (.call 19 [.t 6])) (.take 3 (zm 4 7) (.take 4 (zs 8 (.ext (.t 4) 0)) (.take 5 (zs 9 (.ext (.t 4) 1)) (.take 6 (zs 10 (.nck (.t 5))) (.take 7 (zf 11 3 10) (.eff 8 0 false (zn (.st 1 (.t 11) (.t 8))) (.take 9 (zm 3 9) .nil)))))))))) 0 [1]) (.seq (.reg [(zm 12 3), (zm 3 12)]) .ret)), [.tmp 3]⟩
def x51 : XFn := ⟨19, .seq (.reg [(zs 3 (.mov (.c (.bl false))))]) (.seq (.seq (.reg [(zm 6 0), (zs 7 (.cmp .eql (.t 6) (.c (.str ⟨#[]⟩))))]) (.cond (.t 7) (.seq (.reg [(zs 3 (.mov (.c (.bl true))))]) .ret) .skip)) (.seq (.reg [(zm 9 0), (zs 10 (.call 52 [.t 9])), (zm 8 10), (zs 11 (.ext (.t 8) 0)), (zs 12 (.ext (.t 8) 1)), (zs 4 (.alloc 27 [.str ⟨#[]⟩, .int .i64 0])), (zn (.st 2 (.t 4) (.t 11))), (zm 5 12)]) (.seq (.reg [(zl 13 1), (zs 14 (.ld true 2 (.t 4))), (zs 15 (.nck (.t 13))), (zf 16 10 15), (zn (.st 2 (.t 16) (.t 14)))]) (.seq (.reg [(zm 17 5), (zs 18 (.cmp .eql (.t 17) (.c (.int .i64 0)))), (zm 3 18)]) .ret)))), [.tmp 3]⟩
def x52 : XFn := ⟨65, .seq (.reg [(zs 2 (.alloc 27 [.str ⟨#[]⟩, .int .i64 0])), (zs 3 (.mov (.c (.int .i64 0))))]) (.seq (.seq (.reg [(zm 8 0), (zs 9 (.lens (.t 8))), (zs 10 (.cmp .lss (.t 9) (.c (.int .i64 5)))), (zm 11 10), (zh 12 11 false 0), (zg 13 11 false (.lens (.t 12))), (zg 14 11 false (.cmp .gtr (.t 13) (.c (.int .i64 32)))), (zs 15 (.pick (.t 11) (.c (.bl true)) (.t 14))), (zm 16 15), (zh 17 16 false 0), (zg 18 16 false (.idx (.t 17) (.c (.int .i64 3)))), (zg 19 16 false (.cmp .neq (.t 18) (.c (.int .u8 32)))), (zs 20 (.pick (.t 16) (.c (.bl true)) (.t 19)))]) (.cond (.t 20) (.seq (.reg [(zs 21 (.bld [.str ⟨#[]⟩, .int .i64 0] [])), (zn (.st 2 (.t 2) (.t 21))), (zs 3 (.mov (.c (.int .i64 2))))]) .ret) .skip)) (.seq (.reg [(zm 22 0), (zs 23 (.idx (.t 22) (.c (.int .i64 4)))), (zs 24 (.cmp .eql (.t 23) (.c (.int .u8 45)))), (zm 4 24)]) (.seq (.reg [(zs 5 (.mov (.c (.int .i64 0))))]) (.seq (.seq (.reg [(zs 6 (.mov (.c (.int .i64 4))))]) (.block 0 (.loop (.seq (.seq (.reg [(zm 25 6), (zm 26 0), (zs 27 (.lens (.t 26))), (zs 28 (.cmp .lss (.t 25) (.t 27)))]) (.cond (.t 28) .skip (.exit 0))) (.seq (.block 1 (.seq (.seq (.reg [(zm 31 0), (zm 32 6), (zs 33 (.idx (.t 31) (.t 32))), (zs 34 (.cmp .lss (.t 33) (.c (.int .u8 48)))), (zm 35 34), (zh 36 35 false 0), (zh 37 35 false 6), (zg 38 35 false (.idx (.t 36) (.t 37))), (zg 39 35 false (.cmp .gtr (.t 38) (.c (.int .u8 57)))), (zs 40 (.pick (.t 35) (.c (.bl true)) (.t 39)))]) (.cond (.t 40) (.exit 1) .skip)) (.seq (.reg [(zm 41 5), (zs 42 (.ari .mul .i64 (.t 41) (.c (.int .i64 10)))), (zm 43 0), (zm 44 6), (zs 45 (.idx (.t 43) (.t 44))), (zs 46 (.ari .sub .u8 (.t 45) (.c (.int .u8 48)))), (zs 47 (.cvi .i64 (.t 46))), (zs 48 (.ari .add .i64 (.t 42) (.t 47))), (zm 5 48)]) (.seq (.reg [(zm 49 5), (zs 50 (.cmp .gtr (.t 49) (.c (.int .i64 1099511627776))))]) (.cond (.t 50) (.seq (.reg [(zs 51 (.bld [.str ⟨#[]⟩, .int .i64 0] [])), (zn (.st 2 (.t 2) (.t 51))), (zs 3 (.mov (.c (.int .i64 2))))]) .ret) .skip))))) (.reg [(zm 29 6), (zs 30 (.ari .add .i64 (.t 29) (.c (.int .i64 1)))), (zm 6 30)])))))) (.seq (.seq (.reg [(zm 52 4)]) (.cond (.t 52) (.reg [(zm 53 5), (zs 54 (.neg .i64 (.t 53))), (zm 5 54)]) .skip)) (.seq (.reg [(zm 55 0), (zs 56 (.sls (.t 55) none (some (.c (.int .i64 3))))), (zm 57 5), (zs 58 (.bld [.str ⟨#[]⟩, .int .i64 0] [(0, (1, .t 56)), (1, (1, .t 57))])), (zs 7 (.alloc 27 [.str ⟨#[]⟩, .int .i64 0])), (zn (.st 2 (.t 7) (.t 58)))]) (.seq (.seq (.reg [(zs 59 (.ld true 2 (.t 7))), (zs 60 (.call 30 [.t 59])), (zm 61 0), (zs 62 (.cmp .neq (.t 60) (.t 61)))]) (.cond (.t 62) (.seq (.reg [(zs 63 (.bld [.str ⟨#[]⟩, .int .i64 0] [])), (zn (.st 2 (.t 2) (.t 63))), (zs 3 (.mov (.c (.int .i64 2))))]) .ret) .skip)) (.seq (.reg [(zs 64 (.ld true 2 (.t 7))), (zn (.st 2 (.t 2) (.t 64))), (zs 3 (.mov (.c (.int .i64 0))))]) .ret)))))))), [.cell 2 true 2, .tmp 3]⟩
def x53 : XFn := ⟨14, .seq (.reg [(zs 2 (.mov (.c (.int .i64 0))))]) (.seq (.seq (.reg [(zs 4 (.mov (.c (.int .i64 0))))]) (.block 0 (.loop (.seq (.reg [(zs 5 (.cmp .lss (.t 4) (.c (.int .i64 6))))]) (.seq (.cond (.t 5) .skip (.exit 0)) (.seq (.block 1 (.seq (.reg [(zm 6 4), (zm 3 6)]) (.seq (.reg [(zm 7 3), (zs 8 (.aia 1 6 (.g 1) (.t 7))), (zl 9 8), (zm 10 0), (zs 11 (.cmp .eql (.t 9) (.t 10)))]) (.cond (.t 11) (.seq (.reg [(zm 12 3), (zm 2 12)]) .ret) .skip)))) (.reg [(zs 13 (.ari .add .i64 (.t 4) (.c (.int .i64 1)))), (zm 4 13)]))))))) (.seq (.reg [(zs 2 (.mov (.c (.int .i64 (-1)))))]) .ret)), [.tmp 2]⟩
def x54 : XFn := ⟨8, .seq (.reg [(zs 2 (.mov (.c (.v (.slice none 0 0)))))]) (.seq (.seq (.reg [(zm 3 0), (zs 4 (.nils false (.t 3)))]) (.cond (.t 4) (.seq (.reg [(zs 2 (.mov (.c (.v (.slice none 0 0)))))]) .ret) .skip)) (.seq (.reg [(zs 5 (.bsl 24 2 0 [.str ⟨#[]⟩, .str ⟨#[]⟩] [])), (zm 6 0), (zs 7 (.app 22 22 24 2 32 (.t 5) (.t 6))), (zm 2 7)]) .ret)), [.tmp 2]⟩
def x55 : XFn := ⟨14, .seq (.reg [(zs 2 (.mov (.c (.bl false))))]) (.seq (.reg [(zm 6 0), (zs 7 (.bld [.str ⟨#[]⟩, .str ⟨#[]⟩] [(0, (1, .t 6))])), (zs 8 (.bsl 24 2 1 [.str ⟨#[]⟩, .str ⟨#[]⟩] [(0, .t 7)])), (zs 9 (.call 32 [.t 8])), (zm 5 9), (zs 10 (.ext (.t 5) 0)), (zs 11 (.ext (.t 5) 1)), (zm 3 10), (zm 4 11)]) (.seq (.reg [(zm 12 4), (zs 13 (.cmp .eql (.t 12) (.c (.int .i64 0)))), (zm 2 13)]) .ret)), [.tmp 2]⟩
def x56 : XFn := ⟨15, .seq (.reg [(zs 6 (.mov (.c (.bl false))))]) (.seq (.reg [(zm 7 0), (zm 8 1), (zs 9 (.cmp .geq (.t 7) (.t 8))), (zm 10 9), (zh 11 10 true 0), (zh 12 10 true 2), (zg 13 10 true (.cmp .leq (.t 11) (.t 12))), (zs 14 (.pick (.t 10) (.t 13) (.c (.bl false)))), (zm 6 14)]) .ret), [.tmp 6]⟩
def x57 : XFn := ⟨9, .seq (.reg [(zs 2 (.mov (.c (.bl false))))]) (.seq (.reg [(zm 3 0), (zs 4 (.cmp .eql (.t 3) (.c (.str ⟨#[]⟩)))), (zm 5 4), (zh 6 5 false 0), (zg 7 5 false (.call 55 [.t 6])), (zs 8 (.pick (.t 5) (.c (.bl true)) (.t 7))), (zm 2 8)]) .ret), [.tmp 2]⟩
def x58 : XFn := ⟨16, .seq (.reg [(zs 1 (.box 27 (.t 0))), (zs 2 (.mov (.c (.bl false))))]) (.seq (.reg [(zf 3 0 1), (zl 4 3), (zs 5 (.call 85 [.t 4])), (zm 6 5), (zg 7 6 true (.fad 1 (.t 1))), (zg 8 6 true (.ld false 1 (.t 7))), (zg 9 6 true (.cmp .geq (.t 8) (.c (.int .i64 (-1099511627776))))), (zs 10 (.pick (.t 6) (.t 9) (.c (.bl false)))), (zm 11 10), (zg 12 11 true (.fad 1 (.t 1))), (zg 13 11 true (.ld false 1 (.t 12))), (zg 14 11 true (.cmp .leq (.t 13) (.c (.int .i64 1099511627776)))), (zs 15 (.pick (.t 11) (.t 14) (.c (.bl false)))), (zm 2 15)]) .ret), [.tmp 2]⟩
def x59 : XFn := ⟨9, .seq (.reg [(zs 4 (.mov (.c (.bl false))))]) (.seq (.reg [(zm 5 0), (zm 6 1), (zs 7 (.call 86 [.t 5, .t 6])), (zs 8 (.cmp .geq (.t 7) (.c (.int .i64 0)))), (zm 4 8)]) .ret), [.tmp 4]⟩
def x60 : XFn := ⟨6, .seq (.reg [(zs 1 (.box 60 (.t 0))), (zs 2 (.mov (.c (.bl false))))]) (.seq (.reg [(zs 3 (.ld true 4 (.t 1))), (zs 4 (.call 61 [.t 3])), (zs 5 (.not (.t 4))), (zm 2 5)]) .ret), [.tmp 2]⟩
def x61 : XFn := ⟨17, .seq (.reg [(zs 1 (.box 60 (.t 0))), (zs 2 (.mov (.c (.bl false))))]) (.seq (.reg [(zs 6 (.ld true 4 (.t 1))), (zs 7 (.call 31 [.t 6])), (zm 5 7), (zs 8 (.ext (.t 5) 0)), (zs 9 (.ext (.t 5) 1)), (zm 3 8), (zm 4 9)]) (.seq (.reg [(zm 10 4), (zs 11 (.cmp .eql (.t 10) (.c (.int .i64 0)))), (zm 12 11), (zh 13 12 true 3), (zg 14 12 true (.lens (.t 13))), (zg 15 12 true (.cmp .leq (.t 14) (.c (.int .i64 4096)))), (zs 16 (.pick (.t 12) (.t 15) (.c (.bl false)))), (zm 2 16)]) .ret)), [.tmp 2]⟩
def x62 : XFn := ⟨9, .seq (.reg [(zs 4 (.mov (.c (.bl false))))]) (.seq (.reg [(zm 5 0), (zm 6 1), (zs 7 (.call 87 [.t 5, .t 6])), (zs 8 (.cmp .geq (.t 7) (.c (.int .i64 0)))), (zm 4 8)]) .ret), [.tmp 4]⟩
def x63 : XFn := ⟨6, .seq (.reg [(zs 2 (.mov (.c (.bl false))))]) (.seq (.reg [(zm 3 0), (zs 4 (.call 55 [.t 3])), (zs 5 (.not (.t 4))), (zm 2 5)]) .ret), [.tmp 2]⟩
def x64 : XFn := ⟨49, .seq (.reg [(zs 1 (.box 31 (.t 0))), (zs 2 (.mov (.c (.bl false))))]) (.seq (.reg [(zf 3 2 1), (zl 4 3), (zs 5 (.cmp .eql (.t 4) (.c (.int .i64 0)))), (zm 6 5), (zg 7 6 true (.fad 5 (.t 1))), (zg 8 6 true (.ld false 1 (.t 7))), (zg 9 6 true (.cmp .eql (.t 8) (.c (.str ⟨#[]⟩)))), (zs 10 (.pick (.t 6) (.t 9) (.c (.bl false)))), (zm 11 10), (zg 12 11 true (.fad 6 (.t 1))), (zg 13 11 true (.ld false 1 (.t 12))), (zg 14 11 true (.cmp .eql (.t 13) (.c (.str ⟨#[]⟩)))), (zs 15 (.pick (.t 11) (.t 14) (.c (.bl false)))), (zm 16 15), (zg 17 16 true (.fad 7 (.t 1))), (zg 18 16 true (.ld false 1 (.t 17))), (zg 19 16 true (.cmp .eql (.t 18) (.c (.str ⟨#[]⟩)))), (zs 20 (.pick (.t 16) (.t 19) (.c (.bl false)))), (zm 21 20), (zg 22 21 true (.fad 8 (.t 1))), (zg 23 21 true (.ld false 1 (.t 22))), (zg 24 21 true (.cmp .eql (.t 23) (.c (.int .i64 0)))), (zs 25 (.pick (.t 21) (.t 24) (.c (.bl false)))), (zm 26 25), (zg 27 26 true (.fad 9 (.t 1))), (zg 28 26 true (.ld false 1 (.t 27))), (zg 29 26 true (.cmp .eql (.t 28) (.c (.int .i64 0)))), (zs 30 (.pick (.t 26) (.t 29) (.c (.bl false)))), (zm 31 30), (zg 32 31 true (.fad 10 (.t 1))), (zg 33 31 true (.ld true 2 (.t 32))), (zg 34 31 true (.bld [.str ⟨#[]⟩, .int .i64 0] [])), (zg 35 31 true (.cms false [1, 0] (.t 33) (.t 34))), (zs 36 (.pick (.t 31) (.t 35) (.c (.bl false)))), (zm 37 36), (zg 38 37 true (.fad 12 (.t 1))), (zg 39 37 true (.ld false 1 (.t 38))), (zg 40 37 true (.lenl (.t 39))), (zg 41 37 true (.cmp .eql (.t 40) (.c (.int .i64 0)))), (zs 42 (.pick (.t 37) (.t 41) (.c (.bl false)))), (zm 43 42), (zg 44 43 true (.fad 13 (.t 1))), (zg 45 43 true (.ld false 1 (.t 44))), (zg 46 43 true (.lenl (.t 45))), (zg 47 43 true (.cmp .eql (.t 46) (.c (.int .i64 0)))), (zs 48 (.pick (.t 43) (.t 47) (.c (.bl false)))), (zm 2 48)]) .ret), [.tmp 2]⟩
def x65 : XFn := ⟨63, .seq (.reg [(zs 2 (.mov (.c (.int .i64 0)))), (zs 3 (.mov (.c (.bl false))))]) (.seq (.seq (.reg [(zm 7 0), (zs 8 (.cmp .eql (.t 7) (.c (.str ⟨#[]⟩)))), (zm 9 8), (zh 10 9 false 0), (zg 11 9 false (.lens (.t 10))), (zg 12 9 false (.cmp .gtr (.t 11) (.c (.int .i64 20)))), (zs 13 (.pick (.t 9) (.c (.bl true)) (.t 12)))]) (.cond (.t 13) (.seq (.reg [(zs 2 (.mov (.c (.int .i64 0)))), (zs 3 (.mov (.c (.bl false))))]) .ret) .skip)) (.seq (.reg [(zs 4 (.mov (.c (.int .i64 0)))), (zs 5 (.mov (.c (.int .i64 0))))]) (.seq (.seq (.reg [(zm 14 0), (zs 15 (.idx (.t 14) (.c (.int .i64 0)))), (zs 16 (.cmp .eql (.t 15) (.c (.int .u8 45))))]) (.cond (.t 16) (.reg [(zs 5 (.mov (.c (.int .i64 1))))]) .skip)) (.seq (.seq (.reg [(zm 17 5), (zm 6 17)]) (.block 0 (.loop (.seq (.seq (.reg [(zm 18 6), (zm 19 0), (zs 20 (.lens (.t 19))), (zs 21 (.cmp .lss (.t 18) (.t 20)))]) (.cond (.t 21) .skip (.exit 0))) (.seq (.block 1 (.seq (.seq (.reg [(zm 24 0), (zm 25 6), (zs 26 (.idx (.t 24) (.t 25))), (zs 27 (.cmp .lss (.t 26) (.c (.int .u8 48)))), (zm 28 27), (zh 29 28 false 0), (zh 30 28 false 6), (zg 31 28 false (.idx (.t 29) (.t 30))), (zg 32 28 false (.cmp .gtr (.t 31) (.c (.int .u8 57)))), (zs 33 (.pick (.t 28) (.c (.bl true)) (.t 32))), (zm 34 33), (zh 35 34 false 4), (zg 36 34 false (.cmp .gtr (.t 35) (.c (.int .i64 461168601842738790)))), (zs 37 (.pick (.t 34) (.c (.bl true)) (.t 36)))]) (.cond (.t 37) (.seq (.reg [(zs 2 (.mov (.c (.int .i64 0)))), (zs 3 (.mov (.c (.bl false))))]) .ret) .skip)) (.reg [(zm 38 4), (zs 39 (.ari .mul .i64 (.c (.int .i64 10)) (.t 38))), (zm 40 0), (zm 41 6), (zs 42 (.idx (.t 40) (.t 41))), (zs 43 (.cvi .i64 (.t 42))), (zs 44 (.ari .add .i64 (.t 39) (.t 43))), (zs 45 (.ari .sub .i64 (.t 44) (.c (.int .i64 48)))), (zm 4 45)]))) (.reg [(zm 22 6), (zs 23 (.ari .add .i64 (.t 22) (.c (.int .i64 1)))), (zm 6 23)])))))) (.seq (.seq (.reg [(zm 46 5), (zs 47 (.cmp .eql (.t 46) (.c (.int .i64 1))))]) (.cond (.t 47) (.reg [(zm 48 4), (zs 49 (.neg .i64 (.t 48))), (zm 4 49)]) .skip)) (.seq (.seq (.reg [(zm 50 4), (zs 51 (.cmp .gtr (.t 50) (.c (.int .i64 4611686018427387904)))), (zm 52 51), (zh 53 52 false 4), (zg 54 52 false (.cmp .lss (.t 53) (.c (.int .i64 (-4611686018427387904))))), (zs 55 (.pick (.t 52) (.c (.bl true)) (.t 54))), (zm 56 55), (zh 57 56 false 4), (zg 58 56 false (.call 79 [.t 57])), (zh 59 56 false 0), (zg 60 56 false (.cmp .neq (.t 58) (.t 59))), (zs 61 (.pick (.t 56) (.c (.bl true)) (.t 60)))]) (.cond (.t 61) (.seq (.reg [(zs 2 (.mov (.c (.int .i64 0)))), (zs 3 (.mov (.c (.bl false))))]) .ret) .skip)) (.seq (.reg [(zm 62 4), (zm 2 62), (zs 3 (.mov (.c (.bl true))))]) .ret))))))), [.tmp 2, .tmp 3]⟩
def x66 : XFn := ⟨15, .seq (.reg [(zs 2 (.mov (.c (.str ⟨#[]⟩))))]) (.seq (.reg [(zs 4 (.bsl 9 1 6 [.str ⟨#[]⟩] [(0, .c (.str ⟨#[105, 110, 118, 111, 105, 99, 101]⟩)), (1, .c (.str ⟨#[112, 97, 99, 107, 105, 110, 103]⟩)), (2, .c (.str ⟨#[108, 97, 100, 105, 110, 103]⟩)), (3, .c (.str ⟨#[105, 110, 115, 117, 114, 97, 110, 99, 101]⟩)), (4, .c (.str ⟨#[111, 114, 105, 103, 105, 110]⟩)), (5, .c (.str ⟨#[100, 114, 97, 102, 116]⟩))])), (zm 3 4)]) (.seq (.seq (.reg [(zm 5 0), (zs 6 (.cmp .lss (.t 5) (.c (.int .i64 0)))), (zm 7 6), (zh 8 7 false 0), (zg 9 7 false (.cmp .gtr (.t 8) (.c (.int .i64 5)))), (zs 10 (.pick (.t 7) (.c (.bl true)) (.t 9)))]) (.cond (.t 10) (.seq (.reg [(zs 2 (.mov (.c (.str ⟨#[]⟩))))]) .ret) .skip)) (.seq (.reg [(zm 11 3), (zm 12 0), (zs 13 (.iad 1 (.t 11) (.t 12))), (zl 14 13), (zm 2 14)]) .ret))), [.tmp 2]⟩
def x68 : XFn := ⟨11, .seq (.reg [(zs 2 (.mov (.c (.int .i64 0))))]) (.seq (.seq (.reg [(zm 3 0)]) (.block 0 (.seq (.seq (.reg [(zs 5 (.cmp .eql (.t 3) (.c (.str ⟨#[74, 80, 89]⟩)))), (zm 4 5)]) (.cond (.t 4) .skip (.reg [(zs 6 (.cmp .eql (.t 3) (.c (.str ⟨#[75, 82, 87]⟩)))), (zm 4 6)]))) (.cond (.t 4) (.seq (.reg [(zs 2 (.mov (.c (.int .i64 0))))]) .ret) (.seq (.seq (.reg [(zs 8 (.cmp .eql (.t 3) (.c (.str ⟨#[66, 72, 68]⟩)))), (zm 7 8)]) (.cond (.t 7) .skip (.seq (.reg [(zs 9 (.cmp .eql (.t 3) (.c (.str ⟨#[75, 87, 68]⟩)))), (zm 7 9)]) (.cond (.t 7) .skip (.reg [(zs 10 (.cmp .eql (.t 3) (.c (.str ⟨#[84, 78, 68]⟩)))), (zm 7 10)]))))) (.cond (.t 7) (.seq (.reg [(zs 2 (.mov (.c (.int .i64 3))))]) .ret) .skip)))))) (.seq (.reg [(zs 2 (.mov (.c (.int .i64 2))))]) .ret)), [.tmp 2]⟩
def x70 : XFn := ⟨10, .seq (.reg [(zs 2 (.mov (.c (.int .u64 0))))]) (.seq (.seq (.reg [(zm 3 0), (zs 4 (.cmp .lss (.t 3) (.c (.int .i64 0))))]) (.cond (.t 4) (.seq (.reg [(zm 5 0), (zs 6 (.neg .i64 (.t 5))), (zs 7 (.cvi .u64 (.t 6))), (zm 2 7)]) .ret) .skip)) (.seq (.reg [(zm 8 0), (zs 9 (.cvi .u64 (.t 8))), (zm 2 9)]) .ret)), [.tmp 2]⟩
def x76 : XFn := ⟨21, .seq (.reg [(zs 2 (.mov (.c (.bl false))))]) (.seq (.seq (.reg [(zm 4 0), (zs 5 (.lens (.t 4))), (zs 6 (.cmp .neq (.t 5) (.c (.int .i64 3))))]) (.cond (.t 6) (.seq (.reg [(zs 2 (.mov (.c (.bl false))))]) .ret) .skip)) (.seq (.seq (.reg [(zs 3 (.mov (.c (.int .i64 0))))]) (.block 0 (.loop (.seq (.seq (.reg [(zm 7 3), (zs 8 (.cmp .lss (.t 7) (.c (.int .i64 3))))]) (.cond (.t 8) .skip (.exit 0))) (.seq (.block 1 (.seq (.reg [(zm 11 0), (zm 12 3), (zs 13 (.idx (.t 11) (.t 12))), (zs 14 (.cmp .lss (.t 13) (.c (.int .u8 65)))), (zm 15 14), (zh 16 15 false 0), (zh 17 15 false 3), (zg 18 15 false (.idx (.t 16) (.t 17))), (zg 19 15 false (.cmp .gtr (.t 18) (.c (.int .u8 90)))), (zs 20 (.pick (.t 15) (.c (.bl true)) (.t 19)))]) (.cond (.t 20) (.seq (.reg [(zs 2 (.mov (.c (.bl false))))]) .ret) .skip))) (.reg [(zm 9 3), (zs 10 (.ari .add .i64 (.t 9) (.c (.int .i64 1)))), (zm 3 10)])))))) (.seq (.reg [(zs 2 (.mov (.c (.bl true))))]) .ret))), [.tmp 2]⟩
def x77 : XFn := ⟨19, .seq (.reg [(zs 2 (.mov (.c (.int .i64 0))))]) (.seq (.seq (.reg [(zm 3 0), (zs 4 (.cmp .eql (.t 3) (.c (.str ⟨#[74, 80, 89]⟩)))), (zm 5 4), (zh 6 5 false 0), (zg 7 5 false (.cmp .eql (.t 6) (.c (.str ⟨#[75, 82, 87]⟩)))), (zs 8 (.pick (.t 5) (.c (.bl true)) (.t 7)))]) (.cond (.t 8) (.seq (.reg [(zs 2 (.mov (.c (.int .i64 0))))]) .ret) .skip)) (.seq (.seq (.reg [(zm 9 0), (zs 10 (.cmp .eql (.t 9) (.c (.str ⟨#[66, 72, 68]⟩)))), (zm 11 10), (zh 12 11 false 0), (zg 13 11 false (.cmp .eql (.t 12) (.c (.str ⟨#[75, 87, 68]⟩)))), (zs 14 (.pick (.t 11) (.c (.bl true)) (.t 13))), (zm 15 14), (zh 16 15 false 0), (zg 17 15 false (.cmp .eql (.t 16) (.c (.str ⟨#[84, 78, 68]⟩)))), (zs 18 (.pick (.t 15) (.c (.bl true)) (.t 17)))]) (.cond (.t 18) (.seq (.reg [(zs 2 (.mov (.c (.int .i64 3))))]) .ret) .skip)) (.seq (.reg [(zs 2 (.mov (.c (.int .i64 2))))]) .ret))), [.tmp 2]⟩
def x78 : XFn := ⟨25, .seq (.reg [(zs 4 (.mov (.c (.str ⟨#[]⟩))))]) (.seq (.reg [(zs 5 (.mov (.c (.str ⟨#[]⟩))))]) (.seq (.block 0 (.loop (.seq (.seq (.reg [(zm 6 0), (zs 7 (.cmp .gtr (.t 6) (.c (.int .i64 0)))), (zm 8 7), (zh 9 8 false 5), (zg 10 8 false (.lens (.t 9))), (zh 11 8 false 1), (zg 12 8 false (.cmp .lss (.t 10) (.t 11))), (zs 13 (.pick (.t 8) (.c (.bl true)) (.t 12)))]) (.cond (.t 13) .skip (.exit 0))) (.block 1 (.seq (.reg [(zm 14 0), (zs 15 (.ari .rem .i64 (.t 14) (.c (.int .i64 10)))), (zs 16 (.ari .add .i64 (.c (.int .i64 48)) (.t 15))), (zs 17 (.cvi .u8 (.t 16))), (zs 18 (.bsl 5 1 1 [.int .u8 0] [(0, .t 17)])), (zs 19 (.b2s (.t 18))), (zm 20 5), (zs 21 (.ari .add .i64 (.t 19) (.t 20))), (zm 5 21)]) (.reg [(zm 22 0), (zs 23 (.ari .quo .i64 (.t 22) (.c (.int .i64 10)))), (zm 0 23)])))))) (.seq (.reg [(zm 24 5), (zm 4 24)]) .ret))), [.tmp 4]⟩
def x79 : XFn := ⟨40, .seq (.reg [(zs 2 (.mov (.c (.str ⟨#[]⟩))))]) (.seq (.seq (.reg [(zm 3 0), (zs 4 (.cmp .lss (.t 3) (.c (.int .i64 0))))]) (.cond (.t 4) (.seq (.seq (.reg [(zm 5 0), (zs 6 (.cmp .gtr (.t 5) (.c (.int .i64 (-10)))))]) (.cond (.t 6) (.seq (.reg [(zm 7 0), (zs 8 (.ari .sub .i64 (.c (.int .i64 48)) (.t 7))), (zs 9 (.cvi .u8 (.t 8))), (zs 10 (.bsl 5 1 1 [.int .u8 0] [(0, .t 9)])), (zs 11 (.b2s (.t 10))), (zs 12 (.ari .add .i64 (.c (.str ⟨#[45]⟩)) (.t 11))), (zm 2 12)]) .ret) .skip)) (.seq (.dreg (.take 0 (zm 13 0) (.take 1 (zs 14 (.ari .quo .i64 (.t 13) (.c (.int .i64 10)))) (.take 3 (zm 16 0) (.take 4 (zs 17 (.ari .rem .i64 (.t 16) (.c (.int .i64 10)))) (.take 5 (zs 18 (.ari .sub .i64 (.c (.int .i64 48)) (.t 17))) (.take 6 (zs 19 (.cvi .u8 (.t 18))) (.fork (.eff 2 0 false (zs 15 (.call 79 [.t 14])) (.eff 7 0 false (zs 20 (.bsl 5 1 1 [.int .u8 0] [(0, .t 19)])) (.phase [8] (.take 8 (zs 21 (.b2s (.t 20))) (.take 9 (zs 22 (.ari .add .i64 (.t 15) (.t 21))) (.take 10 (zm 2 22) .nil)))))) (.eff 7 0 false (zs 20 (.bsl 5 1 1 [.int .u8 0] [(0, .t 19)])) (.phase [8] (.take 8 (zs 21 (.b2s (.t 20))) (.eff 2 0 true (zs 15 (.call 79 [.t 14])) (.take 9 (zs 22 (.ari .add .i64 (.t 15) (.t 21))) (.take 10 (zm 2 22) .nil))))))))))))) 1 []) .ret)) .skip)) (.seq (.seq (.reg [(zm 23 0), (zs 24 (.cmp .lss (.t 23) (.c (.int .i64 10))))]) (.cond (.t 24) (.seq (.reg [(zm 25 0), (zs 26 (.ari .add .i64 (.c (.int .i64 48)) (.t 25))), (zs 27 (.cvi .u8 (.t 26))), (zs 28 (.bsl 5 1 1 [.int .u8 0] [(0, .t 27)])), (zs 29 (.b2s (.t 28))), (zm 2 29)]) .ret) .skip)) (.seq (.dreg (.take 0 (zm 30 0) (.take 1 (zs 31 (.ari .quo .i64 (.t 30) (.c (.int .i64 10)))) (.take 3 (zm 33 0) (.take 4 (zs 34 (.ari .rem .i64 (.t 33) (.c (.int .i64 10)))) (.take 5 (zs 35 (.ari .add .i64 (.c (.int .i64 48)) (.t 34))) (.take 6 (zs 36 (.cvi .u8 (.t 35))) (.fork (.eff 2 0 false (zs 32 (.call 79 [.t 31])) (.eff 7 0 false (zs 37 (.bsl 5 1 1 [.int .u8 0] [(0, .t 36)])) (.phase [8] (.take 8 (zs 38 (.b2s (.t 37))) (.take 9 (zs 39 (.ari .add .i64 (.t 32) (.t 38))) (.take 10 (zm 2 39) .nil)))))) (.eff 7 0 false (zs 37 (.bsl 5 1 1 [.int .u8 0] [(0, .t 36)])) (.phase [8] (.take 8 (zs 38 (.b2s (.t 37))) (.eff 2 0 true (zs 32 (.call 79 [.t 31])) (.take 9 (zs 39 (.ari .add .i64 (.t 32) (.t 38))) (.take 10 (zm 2 39) .nil))))))))))))) 1 []) .ret))), [.tmp 2]⟩
def x85 : XFn := ⟨23, .seq (.reg [(zs 2 (.mov (.c (.bl false))))]) (.seq (.seq (.reg [(zm 4 0), (zs 5 (.lens (.t 4))), (zs 6 (.cmp .neq (.t 5) (.c (.int .i64 3))))]) (.cond (.t 6) (.seq (.reg [(zs 2 (.mov (.c (.bl false))))]) .ret) .skip)) (.seq (.seq (.reg [(zm 7 0), (zs 8 (.lens (.t 7))), (zs 9 (.mov (.c (.int .i64 0))))]) (.block 0 (.loop (.seq (.reg [(zs 10 (.cmp .lss (.t 9) (.t 8)))]) (.seq (.cond (.t 10) .skip (.exit 0)) (.seq (.block 1 (.seq (.reg [(zm 11 9), (zm 3 11)]) (.seq (.reg [(zm 12 0), (zm 13 3), (zs 14 (.idx (.t 12) (.t 13))), (zs 15 (.cmp .lss (.t 14) (.c (.int .u8 65)))), (zm 16 15), (zh 17 16 false 0), (zh 18 16 false 3), (zg 19 16 false (.idx (.t 17) (.t 18))), (zg 20 16 false (.cmp .gtr (.t 19) (.c (.int .u8 90)))), (zs 21 (.pick (.t 16) (.c (.bl true)) (.t 20)))]) (.cond (.t 21) (.seq (.reg [(zs 2 (.mov (.c (.bl false))))]) .ret) .skip)))) (.reg [(zs 22 (.ari .add .i64 (.t 9) (.c (.int .i64 1)))), (zm 9 22)]))))))) (.seq (.reg [(zs 2 (.mov (.c (.bl true))))]) .ret))), [.tmp 2]⟩
def x86 : XFn := ⟨19, .seq (.reg [(zs 4 (.mov (.c (.int .i64 0))))]) (.seq (.seq (.reg [(zm 6 0), (zs 7 (.lenl (.t 6))), (zs 8 (.mov (.c (.int .i64 0))))]) (.block 0 (.loop (.seq (.reg [(zs 9 (.cmp .lss (.t 8) (.t 7)))]) (.seq (.cond (.t 9) .skip (.exit 0)) (.seq (.block 1 (.seq (.reg [(zm 10 8), (zm 5 10)]) (.seq (.reg [(zm 11 1), (zm 12 0), (zm 13 5), (zs 14 (.iad 4 (.t 12) (.t 13))), (zs 15 (.ld true 4 (.t 14))), (zs 16 (.cav (.t 11) [.t 15]))]) (.cond (.t 16) (.seq (.reg [(zm 17 5), (zm 4 17)]) .ret) .skip)))) (.reg [(zs 18 (.ari .add .i64 (.t 8) (.c (.int .i64 1)))), (zm 8 18)]))))))) (.seq (.reg [(zs 4 (.mov (.c (.int .i64 (-1)))))]) .ret)), [.tmp 4]⟩
def x87 : XFn := ⟨19, .seq (.reg [(zs 4 (.mov (.c (.int .i64 0))))]) (.seq (.seq (.reg [(zm 6 0), (zs 7 (.lenl (.t 6))), (zs 8 (.mov (.c (.int .i64 0))))]) (.block 0 (.loop (.seq (.reg [(zs 9 (.cmp .lss (.t 8) (.t 7)))]) (.seq (.cond (.t 9) .skip (.exit 0)) (.seq (.block 1 (.seq (.reg [(zm 10 8), (zm 5 10)]) (.seq (.reg [(zm 11 1), (zm 12 0), (zm 13 5), (zs 14 (.iad 1 (.t 12) (.t 13))), (zl 15 14), (zs 16 (.cav (.t 11) [.t 15]))]) (.cond (.t 16) (.seq (.reg [(zm 17 5), (zm 4 17)]) .ret) .skip)))) (.reg [(zs 18 (.ari .add .i64 (.t 8) (.c (.int .i64 1)))), (zm 8 18)]))))))) (.seq (.reg [(zs 4 (.mov (.c (.int .i64 (-1)))))]) .ret)), [.tmp 4]⟩
end Go.Proofs.YtblkcnmecfppnaaGreatDoor
/-
 field.Text over abstract values.
-/
namespace Go.Proofs.YtblkcnmecfppnaaGreatDoor
open Go.RowKit
set_option maxHeartbeats 1000000
set_option maxRecDepth 100000
noncomputable def FdA : Fd → AV
 | ⟨name, value⟩ => .agg [.str name, .str value]
theorem VRel.str_eq {pub : Pub} {w : World} {r : Rho} {s : ByteArray} {v : Value} (h : VRel pub w r (.str s) v) : v = .string s := by cases h; rfl
theorem flat_fd : FlatE Fd.cells FdA := by
 rintro ⟨n, v⟩ j u hu
 match j with
 | 0 => cases hu; exact ⟨_, rfl, fun _ _ _ _ h => h.str_eq⟩
 | 1 => cases hu; exact ⟨_, rfl, fun _ _ _ _ h => h.str_eq⟩
 | j + 2 => simp [Fd.cells] at hu
/-- One answer behind the other: a text and a number. -/
theorem tup2 {pub : Pub} {w : World} {r : Rho} {a b : AV} {u v : Value} (h1 : VRel pub w r a u) (h2 : VRel pub w r b v) : VRel pub w r (.tup [a, b]) (.tuple #[u, v]) :=
 .tup rfl fun i x y hx hy => match i with
  | 0 => by cases hx; cases hy; exact h1
  | 1 => by cases hx; cases hy; exact h2
  | i + 2 => by simp at hx
noncomputable def TextC : Ctr := spec (fun l : List Fd => [.sl 2 (mapA FdA l)]) (fun _ => []) (fun l => ∀ f ∈ l, f.name.size ≤ maxLen) (fun l => .tup [.str ⟨(textS l).toArray⟩, .i (textC l)]) fun _ => []
theorem k_text : FnOk Tryz.prog 32 TextC := fn_add fun l hp pub w vals hf _ hv => by
 obtain ⟨u, us', hl, h1, h2⟩ := hv.cons_inv
 have h3 := h2.nil_inv
 subst h3
 obtain ⟨A, c, rfl, _, _, _, hL⟩ := h1.lst flat_fd
 have h4 : vals = #[.slice A l.length c] := Array.toList_inj.1 (by simpa using hl)
 subst h4
 refine (text_any l A _ c w hL hp).mono fun e w' ⟨he, hb⟩ => ?_
 exact AddPost.plain he hb hf (tup2 (.str _) (.int _ _))
end Go.Proofs.YtblkcnmecfppnaaGreatDoor
/-
 post: names, kinds, numbers between two others.
-/
namespace Go.Proofs.YtblkcnmecfppnaaGreatDoor
open Go.RowKit
set_option maxHeartbeats 1000000
set_option maxRecDepth 100000
theorem K_of {K : AV → List Ent → Prop} {x y : AV} {H : List Ent} (h : K y H) (e : x = y) : K x H := e ▸ h
theorem K_bl {K : AV → List Ent → Prop} {b c : Bool} {H : List Ent} (h : K (.bl c) H) (e : b = c) : K (.bl b) H := e ▸ h
theorem K_i {K : AV → List Ent → Prop} {b c : Int} {H : List Ent} (h : K (.i c) H) (e : b = c) : K (.i b) H := e ▸ h
def StrC (p : ByteArray → Prop) (g : ByteArray → Bool) : Ctr := spec (fun s : ByteArray => [.str s]) (fun _ => []) p (fun s => .bl (g s)) fun _ => []
def shortS (s : ByteArray) : Prop := s.size ≤ maxLen
theorem textC_one (s : ByteArray) : textC [⟨s, ⟨#[]⟩⟩] = if nameB s then 0 else 1 := by
 have h : mayF ⟨s, ⟨#[]⟩⟩ = nameB s := by
  unfold mayF
  rw [show decide ((⟨#[]⟩ : ByteArray).size ≤ 4096) = true from rfl, Bool.and_true]
 unfold textC
 rw [if_neg (by simp), List.all_cons, List.all_nil, h, Bool.and_true]
theorem isName_body (P : Program) (ht : FnOk P 32 TextC) : BodyOk P x55 (StrC shortS nameB) := by
 intro args H K hc
 obtain ⟨s, rfl, rfl, hs, hK⟩ := hc
 refine ⟨Nat.le_of_ble_eq_true rfl, ?_⟩
 dsimp only at hK ⊢
 cbv
 refine callG_publish 0 rfl ?_
 refine callG_spec0 ht [⟨s, ⟨#[]⟩⟩] (fun f hf => by obtain rfl := List.mem_singleton.1 hf; exact hs) rfl rfl rfl ?_
 rw [textC_one]
 obtain ⟨t, ht⟩ : ∃ t, t = textS [⟨s, ⟨#[]⟩⟩] := ⟨_, rfl⟩
 rw [← ht]
 cases hn : nameB s <;> dsimp only
 all_goals cbv; repeat' ((first | refine .n fun h => ?_ | refine .y fun h => ?_ | fail) <;> cbv)
 all_goals first | (exfalso; omega) | exact FinK.mk ⟨_, Gh.refl _, .inl (CutK.val rfl (Le.refl _) (K_bl hK (by (rw [hn]))))⟩
theorem isNameOrNone_body (P : Program) (hn : FnOk P 55 (StrC shortS nameB)) : BodyOk P x57 (StrC shortS fun s => decide (s.size = 0) || nameB s) := by
 intro args H K hc
 obtain ⟨s, rfl, rfl, hs, hK⟩ := hc
 refine ⟨Nat.le_of_ble_eq_true rfl, ?_⟩
 dsimp only at hK ⊢
 cbv; repeat' ((first | refine .mk (fun h => ?_) fun h => ?_ | fail) <;> cbv)
 ·exact FinK.mk ⟨_, Gh.refl _, .inl (CutK.val rfl (Le.refl _) (K_bl hK (by (subst h; rfl))))⟩
 have h0 : s.size ≠ 0 := fun e => h (ByteArray.ext (Array.eq_empty_of_size_eq_zero e))
 (refine callG_spec0 hn s hs rfl rfl rfl ?_; try dsimp only)
 rw [decide_eq_false h0, Bool.false_or] at hK
 obtain ⟨b, hb⟩ : ∃ b, b = nameB s := ⟨_, rfl⟩
 rw [← hb] at hK ⊢
 cbv
 exact FinK.mk ⟨_, Gh.refl _, .inl (CutK.val rfl (Le.refl _) (K_bl hK (by rfl)))⟩
def FromC : Ctr := spec (fun q : Int × Int × Int => [.i q.1, .i q.2.1, .i q.2.2]) (fun _ => []) (fun _ => True) (fun q => .bl (decide (q.2.1 ≤ q.1) && decide (q.1 ≤ q.2.2))) fun _ => []
theorem isFrom_body (P : Program) : BodyOk P x56 FromC := by
 intro args H K hc
 obtain ⟨⟨n, a, b⟩, rfl, rfl, _, hK⟩ := hc
 refine ⟨Nat.le_of_ble_eq_true rfl, ?_⟩
 dsimp only at hK ⊢
 cbv; repeat' ((first | refine .mk (fun h => ?_) fun h => ?_ | fail) <;> cbv)
 all_goals exact FinK.mk ⟨_, Gh.refl _, .inl (CutK.val rfl (Le.refl _) (K_bl hK (by (simp; omega))))⟩
/-- The name of a kind: what the variable holds. -/
def kindN (k : Int) : ByteArray := if 0 ≤ k then match (glob 0)[k.toNat]? with
 | some (.string s) => s
 | _ => ⟨#[]⟩ else ⟨#[]⟩
theorem kindN_out {k : Int} (h : k < 0 ∨ 29 ≤ k) : kindN k = ⟨#[]⟩ := by
 unfold kindN
 by_cases h0 : 0 ≤ k
 ·rw [if_pos h0, List.getElem?_eq_none (by show 29 ≤ k.toNat; omega)]
 ·rw [if_neg h0]
def NameC : Ctr := spec (fun k : Int => [.i k]) (fun _ => []) (fun _ => True) (fun k => .str (kindN k)) fun _ => []
theorem K_s {K : AV → List Ent → Prop} {b c : ByteArray} {H : List Ent} (h : K (.str c) H) (e : b = c) : K (.str b) H := e ▸ h
theorem name_body (P : Program) : BodyOk P x20 NameC := by
 intro args H K hc
 obtain ⟨k, rfl, rfl, _, hK⟩ := hc
 refine ⟨Nat.le_of_ble_eq_true rfl, ?_⟩
 dsimp only at hK ⊢
 cbv; repeat' ((first | refine .mk (fun h => ?_) fun h => ?_ | refine .o ?_ | fail) <;> cbv)
 all_goals first | (obtain rfl := h; exact FinK.mk ⟨_, Gh.refl _, .inl (CutK.val rfl (Le.refl _) (K_s hK rfl))⟩) | (have hk0 : k < 0 ∨ 29 ≤ k := (by omega); exact FinK.mk ⟨_, Gh.refl _, .inl (CutK.val rfl (Le.refl _) (K_s hK (kindN_out hk0).symm))⟩) | (have hk0 : k = 0 := (by simp only [Int.ofNat_eq_natCast] at *; omega); subst hk0; exact FinK.mk ⟨_, Gh.refl _, .inl (CutK.val rfl (Le.refl _) (K_s hK rfl))⟩)
/-- The kind of a name. -/
def kindK : Nat → ByteArray → Option Nat
 | 0, _ => none
 | n + 1, s => match kindK n s with
  | some k => some k
  | none => if kindN n = s then some n else none
def kindOf (s : ByteArray) : Option Nat := kindK 29 s
theorem kindK_up {s : ByteArray} {k : Nat} : ∀ {m n : Nat}, m ≤ n → kindK m s = some k → kindK n s = some k
 | m, 0, h, e => by
  obtain rfl : m = 0 := by omega
  exact e
 | m, n + 1, h, e => by
  by_cases hm : m = n + 1
  ·subst hm; exact e
  ·unfold kindK; rw [kindK_up (by omega : m ≤ n) e]
theorem kindK_hit {s : ByteArray} {k : Nat} (hk : k < 29) (hf : kindK k s = none) (h : kindN k = s) : kindOf s = some k :=
 kindK_up (m := k + 1) hk (by unfold kindK; rw [hf]; dsimp only; rw [if_pos h])
theorem kindK_miss {s : ByteArray} {k : Nat} (hf : kindK k s = none) (h : ¬ kindN k = s) : kindK (k + 1) s = none := by unfold kindK; rw [hf]; dsimp only; rw [if_neg h]
def kindA (s : ByteArray) : AV := match kindOf s with
 | some k => .tup [.i (nI k), .bl true]
 | none => .tup [.i 0, .bl false]
def KindC : Ctr := spec (fun s : ByteArray => [.str s]) (fun _ => []) (fun _ => True) kindA fun _ => []
theorem kind_body (P : Program) : BodyOk P x19 KindC := by
 intro args H K hc
 obtain ⟨s, rfl, rfl, _, hK⟩ := hc
 refine ⟨Nat.le_of_ble_eq_true rfl, ?_⟩
 dsimp only at hK ⊢
 cbv
 refine xloopV [] (fun p : { k : Nat // k ≤ 29 ∧ kindK k s = none } => [(5, .i (nI p.1))]) (fun _ => []) (fun p => lft 29 p.1) ⟨0, Nat.zero_le _, rfl⟩ ?_
 rintro ⟨k, hk, hf⟩
 dsimp only
 have ret : ∀ c : Nat, k = c → k < 29 → kindN c = s → K (.tup [.i (Int.ofNat k), .bl true]) [] := fun c hc hlt he => by
  subst hc
  have e : kindA s = .tup [.i (Int.ofNat k), .bl true] := by unfold kindA; rw [kindK_hit hlt hf he]
  exact e ▸ hK
 have non : ¬ k < 29 → K (.tup [.i 0, .bl false]) [] := fun hn => by
  obtain rfl : k = 29 := by omega
  have e : kindA s = .tup [.i 0, .bl false] := by unfold kindA kindOf; rw [hf]
  exact e ▸ hK
 have nxt : ∀ c : Nat, k = c → k < 29 → ¬ kindN c = s → k + 1 ≤ 29 ∧ kindK (k + 1) s = none := fun c hc hlt he => by
  subst hc
  exact ⟨hlt, kindK_miss hf he⟩
 cbv; repeat' ((first | refine .mk (fun h => ?_) fun h => ?_ | refine .k fun z hz => ?_ | refine .o ?_ | fail) <;> cbv)
 all_goals first
  | exact FinK.mk ⟨_, Gh.refl _, .inl (CutK.val rfl (Le.refl _) (non (by simp only [Int.ofNat_eq_natCast] at *; omega)))⟩
  | (rename_i hkc; exact FinK.mk ⟨_, Gh.refl _, .inl (CutK.val rfl (Le.refl _) (ret _ (Int.ofNat.inj hkc) (by simp only [Int.ofNat_eq_natCast] at *; omega) h))⟩)
  | exact FinK.mk ⟨_, Gh.refl _, .inl (CutK.val rfl (Le.refl _) (ret 0 (by simp only [Int.ofNat_eq_natCast] at *; omega) (by simp only [Int.ofNat_eq_natCast] at *; omega) h))⟩
  | (rename_i hkc; obtain rfl := hz; exact roundV ⟨k + 1, nxt _ (Int.ofNat.inj hkc) (by simp only [Int.ofNat_eq_natCast] at *; omega) h⟩ (lft_lt (by simp only [Int.ofNat_eq_natCast] at *; omega)))
  | (obtain rfl := hz; exact roundV ⟨k + 1, nxt 0 (by simp only [Int.ofNat_eq_natCast] at *; omega) (by simp only [Int.ofNat_eq_natCast] at *; omega) h⟩ (lft_lt (by simp only [Int.ofNat_eq_natCast] at *; omega)))
  | fail
end Go.Proofs.YtblkcnmecfppnaaGreatDoor
/-
  Layer 5: two lists of fields, two papers: are they one. The walks.
-/
namespace Go.Proofs.YtblkcnmecfppnaaGreatDoor
open Go.RowKit

def eqF (x y : Fd) : Bool := (x.name.toList == y.name.toList) && (x.value.toList == y.value.toList)
def sameL : List Fd → List Fd → Bool
  | [], [] => true
  | x :: r, y :: s => eqF x y && sameL r s
  | [], _ :: _ => false
  | _ :: _, [] => false
def eqTo (l l' : List Fd) (k : Nat) : Prop := ∀ j (h : j < l.length) (h' : j < l'.length), j < k → eqF l[j] l'[j] = true
theorem sameL_len : ∀ {l l' : List Fd}, l.length ≠ l'.length → sameL l l' = false
  | [], [], h => absurd rfl h
  | _ :: _, [], _ => rfl
  | [], _ :: _, _ => rfl
  | x :: r, y :: s, h => by
    have := sameL_len (l := r) (l' := s) (fun e => h (by simp [e]))
    simp [sameL, this]
theorem sameL_not : ∀ {l l' : List Fd} {k : Nat} (h : k < l.length) (h' : k < l'.length), eqF l[k] l'[k] = false → sameL l l' = false
  | x :: r, y :: s, 0, _, _, he => by
    have he' : eqF x y = false := he
    simp [sameL, he']
  | x :: r, y :: s, k + 1, h, h', he => by
    have := sameL_not (l := r) (l' := s) (k := k) (by simpa using h) (by simpa using h') (by simpa using he)
    simp [sameL, this]
theorem sameL_all : ∀ {l l' : List Fd}, l.length = l'.length → eqTo l l' l.length → sameL l l' = true
  | [], [], _, _ => rfl
  | [], _ :: _, h, _ => by simp at h
  | _ :: _, [], h, _ => by simp at h
  | x :: r, y :: s, h, he => by
    have h0 : eqF x y = true := he 0 (by simp) (by simp) (by simp)
    have h1 := sameL_all (l := r) (l' := s) (by simpa using h) (fun j hj hj' hk => by
      have := he (j + 1) (by simpa using hj) (by simpa using hj') (by simpa using hk)
      simpa using this)
    simp [sameL, h0, h1]
theorem eqTo_succ {l l' : List Fd} {k : Nat} (h : k < l.length) (h' : k < l'.length) (ht : eqTo l l' k) (he : eqF l[k] l'[k] = true) : eqTo l l' (k + 1) := fun j hj hj' hk => by
  by_cases e : j = k
  · subst e; exact he
  · exact ht j hj hj' (by omega)
theorem sameL_self (l : List Fd) : sameL l l = true := sameL_all rfl (fun j _ _ _ => by simp [eqF])

/-- A paper. -/
structure Dc where
  kind : Int
  number : ByteArray
  issuer : ByteArray
  fields : List Fd
structure DocIn (w : World) (A : Option Addr) (d : Dc) : Prop where
  lst : Lst Fd.cells 2 w A d.fields.length d.fields
  max : d.fields.length ≤ maxLen
theorem DocIn.below {w w' : World} {A : Option Addr} {d : Dc} (h : DocIn w A d) (hb : Below w.heap.size w w') : DocIn w' A d := ⟨h.lst.below hb, h.max⟩
def sameD (a b : Dc) : Bool := (a.kind == b.kind) && (a.number.toList == b.number.toList) && (a.issuer.toList == b.issuer.toList) && sameL a.fields b.fields
theorem sameD_self (a : Dc) : sameD a a = true := by simp [sameD, sameL_self]

set_option maxRecDepth 100000 in
set_option maxHeartbeats 4000000 in
set_option maxRecDepth 100000 in
set_option maxHeartbeats 4000000 in
theorem refEq_any (l l' : List Fd) (A A' : Option Addr) (n c n' c' : Nat) (w : World) (h : Lst Fd.cells 2 w A n l) (h' : Lst Fd.cells 2 w A' n' l') (hnm : n ≤ maxLen) (hnm' : n' ≤ maxLen) :
    Calls Tryz.prog 10 #[.slice A n c, .slice A' n' c'] w fun e w' => e = .returned (.bool (sameL l l')) ∧ Below w.heap.size w w' := by
  have HL := Lib.hid h.len
  have HL' := Lib.hid h'.len
  unfold maxLen at hnm hnm'
  by_cases hnn : n = n'
  · subst hnn
    go_enter Tryz.func10, Tryz.ntmps10
    go_wp2
    go_loopw [5] (fun i wr => ∃ k : Nat, k ≤ n ∧ i = .int .i64 k ∧ Below w.heap.size w wr ∧ eqTo l l' k) (fun i _ => n - (intOf i).toNat)
    case atStart => exact ⟨0, by omega, rfl, Below.refl _ _, fun j _ _ hj => absurd hj (by omega)⟩
    case round =>
      obtain ⟨k, hk, rfl, hw, he⟩ := hrel
      have HE := Lib.hid he
      clear he
      by_cases hlt : k < n
      · have hlk : k < l.length := by rw [HL.out]; exact hlt
        have hlk' : k < l'.length := by rw [HL'.out]; exact hlt
        obtain ⟨ba, oa, rfl, hba, f0, f1⟩ := (h.below hw).fd k hlk
        obtain ⟨bb, ob, rfl, hbb, g0, g1⟩ := (h'.below hw).fd k hlk'
        have hs := eqTo_succ hlk hlk' HE.out
        have hf := sameL_not hlk hlk'
        generalize l[k] = x at *
        generalize l'[k] = y at *
        unfold eqF at hs hf
        cases e1 : (x.name.toList == y.name.toList)
        · rw [e1] at hf
          have HF := Lib.hid (hf (by simp))
          clear hf hs
          go_wp2
          refine wp_region_plan_still [(true, 0, none), (true, 1, none), (true, 2, none), (true, 3, none), (true, 4, none), (true, 5, none), (true, 6, none), (true, 7, none), (true, 8, none)] (by kernel_rfl) (by kernel_rfl) (fun _ _ d _ _ h => by cases d <;> exact h) rfl ?_
          repeat (first | (refine wpPlan_skip (by rfl) ?_; (try simp only [Act.put, List.setIfInBounds_toArray, List.set_cons_zero, List.set_cons_succ])) | (refine wpPlan_take (v := ?_) (by rfl) (by rfl) ?_ ?_; rotate_left; (focus (intro w hSw; (try dsimp only at hSw); go_simp; (try with_reducible rfl))); (try simp only [Act.put, List.setIfInBounds_toArray, List.set_cons_zero, List.set_cons_succ])))
          refine wpPlan_nil ?_
          go_wp2
          go_ret
          exact ⟨ret_bool HF.out.symm, hw.drew⟩
        · cases e2 : (x.value.toList == y.value.toList)
          · rw [e1, e2] at hf
            have HF := Lib.hid (hf (by simp))
            clear hf hs
            go_wp2
            refine wp_region_plan_still [(true, 0, none), (true, 1, none), (true, 2, none), (true, 3, none), (true, 4, none), (true, 5, none), (true, 6, none), (true, 7, none), (true, 8, none)] (by kernel_rfl) (by kernel_rfl) (fun _ _ d _ _ h => by cases d <;> exact h) rfl ?_
            repeat (first | (refine wpPlan_skip (by rfl) ?_; (try simp only [Act.put, List.setIfInBounds_toArray, List.set_cons_zero, List.set_cons_succ])) | (refine wpPlan_take (v := ?_) (by rfl) (by rfl) ?_ ?_; rotate_left; (focus (intro w hSw; (try dsimp only at hSw); go_simp; (try with_reducible rfl))); (try simp only [Act.put, List.setIfInBounds_toArray, List.set_cons_zero, List.set_cons_succ])))
            refine wpPlan_nil ?_
            go_wp2
            go_ret
            exact ⟨ret_bool HF.out.symm, hw.drew⟩
          · rw [e1, e2] at hs
            have HS := Lib.hid (hs (by simp))
            clear hf hs
            go_wp2
            refine wp_region_plan_still [(true, 0, none), (true, 1, none), (true, 2, none), (true, 3, none), (true, 4, none), (true, 5, none), (true, 6, none), (true, 7, none), (true, 8, none)] (by kernel_rfl) (by kernel_rfl) (fun _ _ d _ _ h => by cases d <;> exact h) rfl ?_
            repeat (first | (refine wpPlan_skip (by rfl) ?_; (try simp only [Act.put, List.setIfInBounds_toArray, List.set_cons_zero, List.set_cons_succ])) | (refine wpPlan_take (v := ?_) (by rfl) (by rfl) ?_ ?_; rotate_left; (focus (intro w hSw; (try dsimp only at hSw); go_simp; (try with_reducible rfl))); (try simp only [Act.put, List.setIfInBounds_toArray, List.set_cons_zero, List.set_cons_succ])))
            refine wpPlan_nil ?_
            go_wp2
            go_roundw
            case rel => exact ⟨k + 1, by omega, by go_num, hw.drew, HS.out⟩
            case measure => simp [intOf]; omega
      · obtain rfl : k = n := by omega
        have hall := sameL_all (HL.out.trans HL'.out.symm) (by rw [HL.out]; exact HE.out)
        have HA := Lib.hid hall
        clear hall
        go_wp2
        go_ret
        exact ⟨ret_bool HA.out.symm, hw⟩
  · have hf : sameL l l' = false := sameL_len (by rw [HL.out, HL'.out]; exact hnn)
    rw [hf]
    clear hf
    have hnz : ((n : Int) != (n' : Int)) = true := by rw [bne_iff_ne]; omega
    go_enter Tryz.func10, Tryz.ntmps10
    go_wp2
    go_ret
    exact ⟨rfl, Below.refl _ _⟩

set_option maxRecDepth 100000 in
set_option maxHeartbeats 4000000 in
set_option maxRecDepth 100000 in
set_option maxHeartbeats 4000000 in
theorem alike_any (a b : Dc) (A A' : Option Addr) (c c' : Nat) (w : World) (h : DocIn w A a) (h' : DocIn w A' b) :
    Calls Tryz.prog 28 #[.agg #[.int .i64 a.kind, .string a.number, .string a.issuer, .slice A a.fields.length c], .agg #[.int .i64 b.kind, .string b.number, .string b.issuer, .slice A' b.fields.length c']] w fun e w' => e = .returned (.bool (sameD a b)) ∧ Below w.heap.size w w' := by
  have hw0 : Below w.heap.size w ((w.alloc (.cells #[.int .i64 a.kind, .string a.number, .string a.issuer, .slice A a.fields.length c] 60)).alloc (.cells #[.int .i64 b.kind, .string b.number, .string b.issuer, .slice A' b.fields.length c'] 60)) := ((Below.refl _ _).alloc (Nat.le_refl _) _).alloc (by simp) _
  unfold sameD
  cases e0 : (a.kind == b.kind)
  · go_enter Tryz.func28, Tryz.ntmps28
    go_wp2
    go_ret
    exact ⟨ret_bool (by simp), hw0⟩
  · cases e1 : (a.number.toList == b.number.toList)
    · go_enter Tryz.func28, Tryz.ntmps28
      go_wp2
      go_ret
      exact ⟨ret_bool (by simp), hw0⟩
    · cases e2 : (a.issuer.toList == b.issuer.toList)
      · go_enter Tryz.func28, Tryz.ntmps28
        go_wp2
        go_ret
        exact ⟨ret_bool (by simp), hw0⟩
      · go_enter Tryz.func28, Tryz.ntmps28
        go_wp2_with (go_at_call 10; refine (refEq_any a.fields b.fields A A' _ c _ c' _ (h.lst.below hw0) (h'.lst.below hw0) h.max h'.max).mono ?_; rintro e w1 ⟨rfl, hb⟩; have hw1 := Below.go hw0 hb)
        go_ret
        exact ⟨ret_bool (by simp), hw1⟩

end Go.Proofs.YtblkcnmecfppnaaGreatDoor
/-
  The kinds' names; the reference's Kind.
-/
namespace Go.Proofs.YtblkcnmecfppnaaGreatDoor
open Go.RowKit

def kindS (k : Int) : ByteArray := if k = 0 then ⟨#[105, 110, 118, 111, 105, 99, 101]⟩ else if k = 1 then ⟨#[112, 97, 99, 107, 105, 110, 103]⟩ else if k = 2 then ⟨#[108, 97, 100, 105, 110, 103]⟩ else if k = 3 then ⟨#[105, 110, 115, 117, 114, 97, 110, 99, 101]⟩ else if k = 4 then ⟨#[111, 114, 105, 103, 105, 110]⟩ else if k = 5 then ⟨#[100, 114, 97, 102, 116]⟩ else ⟨#[]⟩
theorem kind_ways (k : Int) : (k < 0 ∧ kindS k = ⟨#[]⟩) ∨ (5 < k ∧ kindS k = ⟨#[]⟩) ∨ k = 0 ∨ k = 1 ∨ k = 2 ∨ k = 3 ∨ k = 4 ∨ k = 5 := by
  by_cases h : k < 0
  · exact .inl ⟨h, by unfold kindS; repeat rw [if_neg (by omega)]⟩
  · by_cases h5 : 5 < k
    · exact .inr (.inl ⟨h5, by unfold kindS; repeat rw [if_neg (by omega)]⟩)
    · omega

set_option maxHeartbeats 2000000 in
theorem refKind_any (k : Int) (w : World) : Calls Tryz.prog 66 #[.int .i64 k] w fun e w' => e = .returned (.string (kindS k)) ∧ Below w.heap.size w w' := by
  rcases kind_ways k with ⟨h, e⟩ | ⟨h, e⟩ | rfl | rfl | rfl | rfl | rfl | rfl
  · rw [e]
    clear e
    go_enter Tryz.func66, Tryz.ntmps66
    go_wp2
    go_ret
    exact ⟨rfl, by repeat (first | with_reducible exact Below.refl _ _ | (with_reducible refine Below.setCell ?_ (by first | omega | (simp <;> omega)) _) | (with_reducible refine Below.alloc ?_ (by first | omega | (simp <;> omega)) _) | (with_reducible refine Below.drew ?_) | (with_reducible refine belowN ?_ _))⟩
  · rw [e]
    clear e
    go_enter Tryz.func66, Tryz.ntmps66
    go_wp2
    go_ret
    exact ⟨rfl, by repeat (first | with_reducible exact Below.refl _ _ | (with_reducible refine Below.setCell ?_ (by first | omega | (simp <;> omega)) _) | (with_reducible refine Below.alloc ?_ (by first | omega | (simp <;> omega)) _) | (with_reducible refine Below.drew ?_) | (with_reducible refine belowN ?_ _))⟩
  all_goals
    go_enter Tryz.func66, Tryz.ntmps66
    go_wp2
    go_ret
    exact ⟨rfl, by repeat (first | with_reducible exact Below.refl _ _ | (with_reducible refine Below.setCell ?_ (by first | omega | (simp <;> omega)) _) | (with_reducible refine Below.alloc ?_ (by first | omega | (simp <;> omega)) _) | (with_reducible refine Below.drew ?_) | (with_reducible refine belowN ?_ _))⟩
end Go.Proofs.YtblkcnmecfppnaaGreatDoor
/-
 Papers: field.Doc; post.isDoc.
-/
namespace Go.Proofs.YtblkcnmecfppnaaGreatDoor
open Go.RowKit
set_option maxHeartbeats 2000000
set_option maxRecDepth 100000
noncomputable def DcA : Dc → AV
 | ⟨kind, number, issuer, fields⟩ => .agg [.i kind, .str number, .str issuer, .sl 2 (mapA FdA fields)]
/-- A paper's record. -/
def recP (d : Dc) : List Fd := ⟨⟨#[112, 97, 112, 101, 114]⟩, kindS d.kind⟩ :: ⟨⟨#[110, 117, 109, 98, 101, 114]⟩, d.number⟩ :: ⟨⟨#[105, 115, 115, 117, 101, 114]⟩, d.issuer⟩ :: d.fields
def docR (d : Dc) : Bool := decide (0 ≤ d.kind) && decide (d.kind < 6) && decide (d.fields.length ≤ 61)
def docC (d : Dc) : Int := if docR d then textC (recP d) else 1
def docS (d : Dc) : List UInt8 := if docR d then textS (recP d) else []
structure NamesS (l : List Fd) : Prop where
 len : l.length ≤ maxLen
 each : ∀ f ∈ l, f.name.size ≤ maxLen
theorem recP_names {d : Dc} (h : NamesS d.fields) : ∀ f ∈ recP d, f.name.size ≤ maxLen := by
 intro f hf
 unfold recP at hf
 simp only [List.mem_cons] at hf
 rcases hf with rfl | rfl | rfl | hf
 ·exact of_decide_eq_true (p := (⟨#[112, 97, 112, 101, 114]⟩ : ByteArray).size ≤ maxLen) (by decide)
 ·exact of_decide_eq_true (p := (⟨#[110, 117, 109, 98, 101, 114]⟩ : ByteArray).size ≤ maxLen) (by decide)
 ·exact of_decide_eq_true (p := (⟨#[105, 115, 115, 117, 101, 114]⟩ : ByteArray).size ≤ maxLen) (by decide)
 ·exact h.each f hf
theorem docS_yes {d : Dc} (h1 : 0 ≤ d.kind) (h2 : d.kind < 6) (h3 : d.fields.length ≤ 61) : docS d = textS (recP d) ∧ docC d = textC (recP d) := by
 have h : docR d = true := by unfold docR; simp [h1, h2, h3]
 unfold docS docC
 rw [h]
 exact ⟨rfl, rfl⟩
theorem docS_no {d : Dc} (h0 : d.kind < 0 ∨ 6 ≤ d.kind ∨ 61 < d.fields.length) : docS d = [] ∧ docC d = 1 := by
 have h : docR d = false := by unfold docR; simp; omega
 unfold docS docC
 rw [h]
 exact ⟨rfl, rfl⟩
theorem callG_eq {P : Program} {keep : List Nat} {f : Nat} {args args' : List AV} {st : St} {K : AV → St → Prop} (e : args = args') (h : CallG P keep f args' st K) : CallG P keep f args st K := e ▸ h
noncomputable def DocC : Ctr := spec (fun d : Dc => [DcA d]) (fun _ => []) (fun d => NamesS d.fields) (fun d => .tup [.str ⟨(docS d).toArray⟩, .i (docC d)]) fun _ => []
theorem doc_body (P : Program) (ht : FnOk P 32 TextC) : BodyOk P x31 DocC := by
 intro args H K hc
 obtain ⟨d, rfl, rfl, hp, hK⟩ := hc
 refine ⟨Nat.le_of_ble_eq_true rfl, ?_⟩
 obtain ⟨kind, number, issuer, fields⟩ := d
 dsimp only at hK hp ⊢
 have no : (kind < 0 ∨ 6 ≤ kind ∨ 61 < fields.length) → K (.tup [.str ⟨#[]⟩, .i 1]) [] := fun h0 => by
  obtain ⟨e1, e2⟩ := docS_no (d := ⟨kind, number, issuer, fields⟩) h0
  rw [e1, e2] at hK
  exact hK
 have yes : ∀ t c, 0 ≤ kind → kind < 6 → fields.length ≤ 61 → t = textS (recP ⟨kind, number, issuer, fields⟩) → c = textC (recP ⟨kind, number, issuer, fields⟩) → K (.tup [.str ⟨t.toArray⟩, .i c]) [] := fun t c h1 h2 h3 e3 e4 => by
  obtain ⟨e1, e2⟩ := docS_yes (d := ⟨kind, number, issuer, fields⟩) h1 h2 h3
  rw [e1, e2] at hK
  rw [e3, e4]
  exact hK
 have hl : ∀ z : Int, z = ↑(mapA FdA fields).length → z = fields.length := fun z h => by rw [h, mapA_len]
 clear hK
 cbv; repeat' ((first | refine .mk (fun h => ?_) fun h => ?_ | refine .k fun z hz => ?_ | refine .o ?_ | refine .zl fun zs hzs hzl => ?_ | fail) <;> cbv)
 ·exact FinK.mk ⟨_, Gh.refl _, .inl (CutK.val rfl (Le.refl _) (no (.inl h)))⟩
 ·exact FinK.mk ⟨_, Gh.refl _, .inl (CutK.val rfl (Le.refl _) (no (.inr (.inl h))))⟩
 ·have := hl z hz
  exact FinK.mk ⟨_, Gh.refl _, .inl (CutK.val rfl (Le.refl _) (no (.inr (.inr (by ((try simp only [vn] at *) <;> omega))))))⟩
 all_goals
  have hll := hl z hz
  subst hzs
  refine callG_publish 1 rfl ?_
  refine callG_eq (args' := [.sl 2 (mapA FdA (recP ⟨kind, number, issuer, fields⟩))]) (by first | (rw [h]; rfl) | (rw [show kind = 0 by simp only [Int.ofNat_eq_natCast] at *; omega]; rfl)) ?_
  refine callG_spec0 ht (recP ⟨kind, number, issuer, fields⟩) (recP_names hp) rfl rfl rfl ?_
  obtain ⟨t, hht⟩ : ∃ t, t = textS (recP ⟨kind, number, issuer, fields⟩) := ⟨_, rfl⟩
  obtain ⟨c, hhc⟩ : ∃ c, c = textC (recP ⟨kind, number, issuer, fields⟩) := ⟨_, rfl⟩
  rw [← hht, ← hhc]
  have hy := yes t c (by omega) (by omega) (by ((try simp only [vn] at *) <;> omega)) hht hhc
  clear yes no
  cbv
  exact FinK.mk ⟨_, Gh.refl _, .inl (CutK.val rfl (Le.refl _) hy)⟩
end Go.Proofs.YtblkcnmecfppnaaGreatDoor
/-
 post: whether a letter may be: its parts.
-/
namespace Go.Proofs.YtblkcnmecfppnaaGreatDoor
open Go.RowKit
set_option maxHeartbeats 2000000
set_option maxRecDepth 100000
structure Lt where
 frm : ByteArray
 to : ByteArray
 number : Int
 kind : Int
 ack : Int
 deal : ByteArray
 text : ByteArray
 party : ByteArray
 index : Int
 day : Int
 cur : ByteArray
 amt : Int
 docs : List Dc
 boxes : List ByteArray
noncomputable def LtA : Lt → AV
 | ⟨frm, to, number, kind, ack, deal, text, party, index, day, cur, amt, docs, boxes⟩ => .agg [.str frm, .str to, .i number, .i kind, .i ack, .str deal, .str text, .str party, .i index, .i day, .str cur, .i amt, .sl 4 (mapA DcA docs), .sl 1 (mapA .str boxes)]
/-! ### Lists: the first that is so -/
section
variable {α : Type}
def idxP (p : α → Bool) (l : List α) : Int := match l.findIdx? p with
 | some i => Int.ofNat i
 | none => -1
def NoneTo (p : α → Bool) (l : List α) (k : Nat) : Prop := ∀ j y, j < k → l[j]? = some y → p y = false
theorem NoneTo.zero {p : α → Bool} {l : List α} : NoneTo p l 0 := fun j y h => absurd h (Nat.not_lt_zero j)
theorem NoneTo.succ {p : α → Bool} {l : List α} {k : Nat} {x : α} (h : NoneTo p l k) (hx : l[k]? = some x) (hp : p x = false) : NoneTo p l (k + 1) := fun j y hj hy => by
 rcases Nat.lt_or_ge j k with h1 | h1
 ·exact h j y h1 hy
 ·obtain rfl : j = k := by omega
  rw [hx] at hy
  cases hy
  exact hp
theorem idxP_at {p : α → Bool} {l : List α} {k : Nat} {x : α} (h : NoneTo p l k) (hx : l[k]? = some x) (hp : p x = true) : idxP p l = Int.ofNat k := by
 obtain ⟨hk, rfl⟩ := List.getElem?_eq_some_iff.1 hx
 have : l.findIdx? p = some k := List.findIdx?_eq_some_iff_getElem.2 ⟨hk, hp, fun j hj => by rw [h j _ hj (List.getElem?_eq_getElem (Nat.lt_trans hj hk))]; exact Bool.false_ne_true⟩
 unfold idxP
 rw [this]
theorem idxP_none {p : α → Bool} {l : List α} (h : NoneTo p l l.length) : idxP p l = -1 := by
 have : l.findIdx? p = none := List.findIdx?_eq_none_iff.2 fun x hx => by
  obtain ⟨j, hj, rfl⟩ := List.getElem_of_mem hx
  exact h j _ hj (List.getElem?_eq_getElem hj)
 unfold idxP
 rw [this]
theorem idxP_any (p : α → Bool) (l : List α) : decide (0 ≤ idxP p l) = l.any p := by
 unfold idxP
 cases h : l.findIdx? p with
 | none =>
  have := List.findIdx?_eq_none_iff.1 h
  dsimp only
  rw [eq_comm, decide_eq_false (by decide), List.any_eq_false]
  exact fun x hx => by rw [this x hx]; exact Bool.false_ne_true
 | some i =>
  obtain ⟨hk, hp, _⟩ := List.findIdx?_eq_some_iff_getElem.1 h
  dsimp only
  rw [decide_eq_true (show (0 : Int) ≤ Int.ofNat i from Int.natCast_nonneg i), eq_comm, List.any_eq_true]
  exact ⟨_, List.getElem_mem hk, hp⟩
end
/-! ### Papers -/
def isDocB (d : Dc) : Bool := decide (docC d = 0) && decide ((docS d).length ≤ 4096)
noncomputable def DocP (g : Dc → Bool) : Ctr := spec (fun d : Dc => [DcA d]) (fun _ => []) (fun d => NamesS d.fields) (fun d => .bl (g d)) fun _ => []
theorem isDoc_body (P : Program) (hd : FnOk P 31 DocC) : BodyOk P x61 (DocP isDocB) := by
 intro args H K hc
 obtain ⟨d, rfl, rfl, hp, hK⟩ := hc
 refine ⟨Nat.le_of_ble_eq_true rfl, ?_⟩
 unfold isDocB at hK
 obtain ⟨t, ht⟩ : ∃ t, t = docS d := ⟨_, rfl⟩
 obtain ⟨c, hcc⟩ : ∃ c, c = docC d := ⟨_, rfl⟩
 have hd2 := hd
 dsimp only at hK
 rw [← ht, ← hcc] at hK
 obtain ⟨kind, number, issuer, fields⟩ := d
 dsimp only at hp ⊢
 cbv
 refine callG_spec0 hd ⟨kind, number, issuer, fields⟩ hp rfl rfl rfl ?_
 try dsimp only
 rw [← ht, ← hcc]
 cbv; repeat' ((first | refine .mk (fun h => ?_) fun h => ?_ | refine .k fun z hz => ?_ | fail) <;> cbv)
 ·exact FinK.mk ⟨_, Gh.refl _, .inl (CutK.val rfl (Le.refl _) (K_bl hK (by (rw [decide_eq_true ‹c = 0›, decide_eq_true (by have e : z = t.length := hz; omega), Bool.and_self]))))⟩
 ·exact FinK.mk ⟨_, Gh.refl _, .inl (CutK.val rfl (Le.refl _) (K_bl hK (by (rw [decide_eq_false (p := t.length ≤ 4096) (by have e : z = t.length := hz; omega), Bool.and_false]))))⟩
 ·exact FinK.mk ⟨_, Gh.refl _, .inl (CutK.val rfl (Le.refl _) (K_bl hK (by (rw [decide_eq_false h, Bool.false_and]))))⟩
theorem may1_body (P : Program) (hd : FnOk P 61 (DocP isDocB)) : BodyOk P x60 (DocP fun d => !isDocB d) := by
 intro args H K hc
 obtain ⟨d, rfl, rfl, hp, hK⟩ := hc
 refine ⟨Nat.le_of_ble_eq_true rfl, ?_⟩
 obtain ⟨b, hb⟩ : ∃ b, b = isDocB d := ⟨_, rfl⟩
 dsimp only at hK
 rw [← hb] at hK
 obtain ⟨kind, number, issuer, fields⟩ := d
 dsimp only at hp ⊢
 cbv
 refine callG_spec0 hd ⟨kind, number, issuer, fields⟩ hp rfl rfl rfl ?_
 rw [← hb]
 cases b
 ·cbv
  exact FinK.mk ⟨_, Gh.refl _, .inl (CutK.val rfl (Le.refl _) (K_bl hK (by rfl)))⟩
 ·cbv
  exact FinK.mk ⟨_, Gh.refl _, .inl (CutK.val rfl (Le.refl _) (K_bl hK (by rfl)))⟩
theorem may2_body (P : Program) (hd : FnOk P 55 (StrC shortS nameB)) : BodyOk P x63 (StrC shortS fun s => !nameB s) := by
 intro args H K hc
 obtain ⟨s, rfl, rfl, hp, hK⟩ := hc
 refine ⟨Nat.le_of_ble_eq_true rfl, ?_⟩
 obtain ⟨b, hb⟩ : ∃ b, b = nameB s := ⟨_, rfl⟩
 dsimp only at hK hp ⊢
 rw [← hb] at hK
 cbv
 refine callG_spec0 hd s hp rfl rfl rfl ?_
 rw [← hb]
 cases b
 ·cbv
  exact FinK.mk ⟨_, Gh.refl _, .inl (CutK.val rfl (Le.refl _) (K_bl hK (by rfl)))⟩
 ·cbv
  exact FinK.mk ⟨_, Gh.refl _, .inl (CutK.val rfl (Le.refl _) (K_bl hK (by rfl)))⟩
structure DocsS (l : List Dc) : Prop where
 len : l.length ≤ 9223372036854775807
 each : ∀ d ∈ l, NamesS d.fields
structure StrsS (l : List ByteArray) : Prop where
 len : l.length ≤ 9223372036854775807
 each : ∀ s ∈ l, shortS s
noncomputable def IdxDC (f : Nat) (p : Dc → Bool) : Ctr := spec (fun l : List Dc => [.sl 4 (mapA DcA l), .clo f []]) (fun _ => []) DocsS (fun l => .i (idxP p l)) fun _ => []
theorem idxD_body (P : Program) (f : Nat) (p : Dc → Bool) (hm : MayCall P f) (hf : FnOk P f (DocP p)) : BodyOk P x86 (IdxDC f p) := by
 intro args H K hc
 obtain ⟨l, rfl, rfl, hp, hK⟩ := hc
 refine ⟨Nat.le_of_ble_eq_true rfl, ?_⟩
 have hlen := hp.len
 dsimp only at hK ⊢
 cbv; repeat' ((first | refine .k fun z hz => ?_ | fail) <;> cbv)
 refine xloopV [] (fun q : { k : Nat // k ≤ l.length ∧ NoneTo p l k } => [(8, .i (nI q.1))]) (fun _ => []) (fun q => lft 9223372036854775808 q.1) ⟨0, Nat.zero_le _, .zero⟩ ?_
 rintro ⟨k, hk, hn⟩
 dsimp only at hk hn ⊢
 cbv; repeat' ((first | refine .mk (fun h => ?_) fun h => ?_ | fail) <;> cbv)
 ·refine askEl_int (by ((try simp only [vn] at *) <;> omega)) (by ((try simp only [vn] at *) <;> omega)) fun i x hi hx => ?_
  obtain rfl : k = i := by ((try simp only [vn] at *) <;> omega)
  have hxs := hp.each x (List.mem_of_getElem? hx)
  obtain ⟨b, hb⟩ : ∃ b, b = p x := ⟨_, rfl⟩
  have hat := fun hb1 : b = true => idxP_at hn hx (hb.symm.trans hb1)
  have hsu := fun hb1 : b = false => hn.succ hx (hb.symm.trans hb1)
  clear hx
  obtain ⟨kind, number, issuer, fields⟩ := x
  cbv; repeat' ((first | refine And.intro ?_ ?_ | fail) <;> cbv)
  ·exact hm
  ·refine callG_spec0 hf ⟨kind, number, issuer, fields⟩ hxs rfl rfl rfl ?_
   rw [← hb]
   cases b with
   | true =>
    cbv
    exact FinK.mk ⟨_, Gh.refl _, .inl (CutK.val rfl (Le.refl _) (K_i hK (by (rw [hat rfl]))))⟩
   | false =>
    cbv; repeat' ((first | refine .k fun z hz => ?_ | fail) <;> cbv)
    obtain rfl : z = nI (k + 1) := by ((try simp only [vn] at *) <;> omega)
    exact roundV ⟨k + 1, by ((try simp only [vn] at *) <;> omega), hsu rfl⟩ (lft_lt (by ((try simp only [vn] at *) <;> omega)))
 ·obtain rfl : k = l.length := by ((try simp only [vn] at *) <;> omega)
  exact FinK.mk ⟨_, Gh.refl _, .inl (CutK.val rfl (Le.refl _) (K_i hK (by (rw [idxP_none hn]))))⟩
noncomputable def IdxSC (f : Nat) (p : ByteArray → Bool) : Ctr := spec (fun l : List ByteArray => [.sl 1 (mapA .str l), .clo f []]) (fun _ => []) StrsS (fun l => .i (idxP p l)) fun _ => []
theorem idxS_body (P : Program) (f : Nat) (p : ByteArray → Bool) (hm : MayCall P f) (hf : FnOk P f (StrC shortS p)) : BodyOk P x87 (IdxSC f p) := by
 intro args H K hc
 obtain ⟨l, rfl, rfl, hp, hK⟩ := hc
 refine ⟨Nat.le_of_ble_eq_true rfl, ?_⟩
 have hlen := hp.len
 dsimp only at hK ⊢
 cbv; repeat' ((first | refine .k fun z hz => ?_ | fail) <;> cbv)
 refine xloopV [] (fun q : { k : Nat // k ≤ l.length ∧ NoneTo p l k } => [(8, .i (nI q.1))]) (fun _ => []) (fun q => lft 9223372036854775808 q.1) ⟨0, Nat.zero_le _, .zero⟩ ?_
 rintro ⟨k, hk, hn⟩
 dsimp only at hk hn ⊢
 cbv; repeat' ((first | refine .mk (fun h => ?_) fun h => ?_ | fail) <;> cbv)
 ·refine askEl_int (by ((try simp only [vn] at *) <;> omega)) (by ((try simp only [vn] at *) <;> omega)) fun i x hi hx => ?_
  obtain rfl : k = i := by ((try simp only [vn] at *) <;> omega)
  have hxs := hp.each x (List.mem_of_getElem? hx)
  cbv; repeat' ((first | refine And.intro ?_ ?_ | fail) <;> cbv)
  ·exact hm
  ·obtain ⟨b, hb⟩ : ∃ b, b = p x := ⟨_, rfl⟩
   refine callG_spec0 hf x hxs rfl rfl rfl ?_
   rw [← hb]
   cases b with
   | true =>
    cbv
    exact FinK.mk ⟨_, Gh.refl _, .inl (CutK.val rfl (Le.refl _) (K_i hK (by (rw [idxP_at hn hx hb.symm]))))⟩
   | false =>
    cbv; repeat' ((first | refine .k fun z hz => ?_ | fail) <;> cbv)
    obtain rfl : z = nI (k + 1) := by ((try simp only [vn] at *) <;> omega)
    exact roundV ⟨k + 1, by ((try simp only [vn] at *) <;> omega), hn.succ hx hb.symm⟩ (lft_lt (by ((try simp only [vn] at *) <;> omega)))
 ·obtain rfl : k = l.length := by ((try simp only [vn] at *) <;> omega)
  exact FinK.mk ⟨_, Gh.refl _, .inl (CutK.val rfl (Le.refl _) (K_i hK (by (rw [idxP_none hn]))))⟩
noncomputable def ConDC (f : Nat) (p : Dc → Bool) : Ctr := spec (fun l : List Dc => [.sl 4 (mapA DcA l), .clo f []]) (fun _ => []) DocsS (fun l => .bl (l.any p)) fun _ => []
theorem conD_body (P : Program) (f : Nat) (p : Dc → Bool) (hi : FnOk P 86 (IdxDC f p)) : BodyOk P x59 (ConDC f p) := by
 intro args H K hc
 obtain ⟨l, rfl, rfl, hp, hK⟩ := hc
 refine ⟨Nat.le_of_ble_eq_true rfl, ?_⟩
 dsimp only at hK ⊢
 rw [← idxP_any] at hK
 obtain ⟨e, he⟩ : ∃ e, e = idxP p l := ⟨_, rfl⟩
 rw [← he] at hK
 cbv
 (refine callG_spec0 hi l hp rfl rfl rfl ?_; try dsimp only)
 rw [← he]
 cbv; repeat' ((first | refine .mk (fun h => ?_) fun h => ?_ | fail) <;> cbv)
 ·exact FinK.mk ⟨_, Gh.refl _, .inl (CutK.val rfl (Le.refl _) (K_bl hK (by (rw [decide_eq_true h]))))⟩
 ·exact FinK.mk ⟨_, Gh.refl _, .inl (CutK.val rfl (Le.refl _) (K_bl hK (by (rw [decide_eq_false (by omega)]))))⟩
noncomputable def ConSC (f : Nat) (p : ByteArray → Bool) : Ctr := spec (fun l : List ByteArray => [.sl 1 (mapA .str l), .clo f []]) (fun _ => []) StrsS (fun l => .bl (l.any p)) fun _ => []
theorem conS_body (P : Program) (f : Nat) (p : ByteArray → Bool) (hi : FnOk P 87 (IdxSC f p)) : BodyOk P x62 (ConSC f p) := by
 intro args H K hc
 obtain ⟨l, rfl, rfl, hp, hK⟩ := hc
 refine ⟨Nat.le_of_ble_eq_true rfl, ?_⟩
 dsimp only at hK ⊢
 rw [← idxP_any] at hK
 obtain ⟨e, he⟩ : ∃ e, e = idxP p l := ⟨_, rfl⟩
 rw [← he] at hK
 cbv
 (refine callG_spec0 hi l hp rfl rfl rfl ?_; try dsimp only)
 rw [← he]
 cbv; repeat' ((first | refine .mk (fun h => ?_) fun h => ?_ | fail) <;> cbv)
 ·exact FinK.mk ⟨_, Gh.refl _, .inl (CutK.val rfl (Le.refl _) (K_bl hK (by (rw [decide_eq_true h]))))⟩
 ·exact FinK.mk ⟨_, Gh.refl _, .inl (CutK.val rfl (Le.refl _) (K_bl hK (by (rw [decide_eq_false (by omega)]))))⟩
end Go.Proofs.YtblkcnmecfppnaaGreatDoor
/-
 money.May; post.isBare.
-/
namespace Go.Proofs.YtblkcnmecfppnaaGreatDoor
open Go.RowKit
set_option maxHeartbeats 2000000
set_option maxRecDepth 100000
def upB (n : Int) : Bool := decide (65 ≤ n) && decide (n ≤ 90)
def upTo (s : ByteArray) (k : Nat) : Prop := ∀ j (h : j < s.size), j < k → upB s[j].toNat = true
theorem upTo_zero (s : ByteArray) : upTo s 0 := fun _ _ h => absurd h (by omega)
theorem upTo_succ {s : ByteArray} {k : Nat} (hk : k < s.size) (h : upTo s k) (hc : upB s[k].toNat = true) : upTo s (k + 1) := fun j hj hjk => by
 by_cases e : j = k
 ·subst e; exact hc
 ·exact h j hj (by omega)
def curB (s : ByteArray) : Bool := decide (s.size = 3) && s.data.toList.all fun c => upB c.toNat
theorem curB_all {s : ByteArray} (h3 : s.size = 3) (h : upTo s s.size) : curB s = true := by
 have : (s.data.toList.all fun c => upB c.toNat) = true := by
  rw [List.all_eq_true]
  intro c hc
  obtain ⟨j, hj, rfl⟩ := List.getElem_of_mem hc
  exact h j (by simpa using hj) (by simpa using hj)
 simp [curB, this, h3]
theorem curB_not {s : ByteArray} {k : Nat} (hk : k < s.size) (h : upB s[k].toNat = false) : curB s = false := by
 have : (s.data.toList.all fun c => upB c.toNat) = false := by
  rw [← Bool.not_eq_true, List.all_eq_true]
  intro hh
  have := hh (s[k]) (by exact List.getElem_mem (l := s.data.toList) (by simpa using hk))
  rw [h] at this
  cases this
 simp [curB, this]
theorem curB_size {s : ByteArray} (h : s.size ≠ 3) : curB s = false := by simp [curB, h]
theorem isCur_body (P : Program) : BodyOk P x85 (StrC (fun _ => True) curB) := by
 intro args H K hc
 obtain ⟨s, rfl, rfl, _, hK⟩ := hc
 refine ⟨Nat.le_of_ble_eq_true rfl, ?_⟩
 dsimp only at hK ⊢
 have big : s.size ≠ 3 → K (.bl false) [] := fun h => K_bl hK (curB_size h).symm
 have all : s.size = 3 → upTo s s.size → K (.bl true) [] := fun h h1 => K_bl hK (curB_all h h1).symm
 have bad : ∀ k (hk : k < s.size), upB s[k].toNat = false → K (.bl false) [] := fun k hk h => K_bl hK (curB_not hk h).symm
 clear hK
 cbv; repeat' ((first | refine .mk (fun h => ?_) fun h => ?_ | refine .k fun z hz => ?_ | fail) <;> cbv)
 ·refine xloopV [] (fun p : { k : Nat // k ≤ s.size ∧ upTo s k } => [(9, .i (nI p.1))]) (fun _ => []) (fun p => lft 3 p.1) ⟨0, Nat.zero_le _, upTo_zero s⟩ ?_
  rintro ⟨k, hk, hf⟩
  dsimp only
  cbv; repeat' ((first | refine .mk (fun h => ?_) fun h => ?_ | fail) <;> cbv)
  ·have hks : k < s.size := by ((try simp only [vn] at *) <;> omega)
   refine askByte_nI hks fun y hy => ?_
   have hu : upB s[k].toNat = (decide (65 ≤ y) && decide (y ≤ 90)) := by rw [show y = (s[k].toNat : Int) from hy]; rfl
   cbv; repeat' ((first | refine .mk (fun h => ?_) fun h => ?_ | fail) <;> cbv)
   ·exact FinK.mk ⟨_, Gh.refl _, .inl (CutK.val rfl (Le.refl _) (bad k hks (by rw [hu, decide_eq_false (by omega), Bool.false_and])))⟩
   refine askByte_nI hks fun x hx => ?_
   obtain rfl : x = y := (show x = (s[k].toNat : Int) from hx).trans (show y = (s[k].toNat : Int) from hy).symm
   clear hx hy
   cbv; repeat' ((first | refine .mk (fun h => ?_) fun h => ?_ | refine .k fun z hz => ?_ | fail) <;> cbv)
   ·exact FinK.mk ⟨_, Gh.refl _, .inl (CutK.val rfl (Le.refl _) (bad k hks (by rw [hu, decide_eq_false (p := x ≤ (90 : Int)) (by omega), Bool.and_false])))⟩
   ·rw [decide_eq_true (by omega), decide_eq_true (by omega), Bool.and_self] at hu
    obtain rfl : z = nI (k + 1) := by ((try simp only [vn] at *) <;> omega)
    exact roundV ⟨k + 1, hks, upTo_succ hks hf hu⟩ (lft_lt (by ((try simp only [vn] at *) <;> omega)))
  ·obtain rfl : k = s.size := by ((try simp only [vn] at *) <;> omega)
   exact FinK.mk ⟨_, Gh.refl _, .inl (CutK.val rfl (Le.refl _) (all (by ((try simp only [vn] at *) <;> omega)) hf))⟩
 ·exact FinK.mk ⟨_, Gh.refl _, .inl (CutK.val rfl (Le.refl _) (big (by ((try simp only [vn] at *) <;> omega))))⟩
def moneyB (c : ByteArray) (a : Int) : Bool := curB c && decide (-1099511627776 ≤ a) && decide (a ≤ 1099511627776)
def MoneyC : Ctr := spec (fun q : ByteArray × Int => [.agg [.str q.1, .i q.2]]) (fun _ => []) (fun _ => True) (fun q => .bl (moneyB q.1 q.2)) fun _ => []
theorem money_body (P : Program) (hc : FnOk P 85 (StrC (fun _ => True) curB)) : BodyOk P x58 MoneyC := by
 intro args H K hcc
 obtain ⟨⟨c, a⟩, rfl, rfl, _, hK⟩ := hcc
 refine ⟨Nat.le_of_ble_eq_true rfl, ?_⟩
 dsimp only at hK ⊢
 unfold moneyB at hK
 obtain ⟨b, hb⟩ : ∃ b, b = curB c := ⟨_, rfl⟩
 rw [← hb] at hK
 cbv
 refine callG_spec0 hc c trivial rfl rfl rfl ?_
 rw [← hb]
 cases b
 ·cbv
  exact FinK.mk ⟨_, Gh.refl _, .inl (CutK.val rfl (Le.refl _) (K_bl hK (by rfl)))⟩
 ·cbv; repeat' ((first | refine .mk (fun h => ?_) fun h => ?_ | fail) <;> cbv)
  all_goals exact FinK.mk ⟨_, Gh.refl _, .inl (CutK.val rfl (Le.refl _) (K_bl hK (by (simp; omega))))⟩
def zeroS (s : ByteArray) : Bool := decide (s = ⟨#[]⟩)
def bareB (l : Lt) : Bool := decide (l.number = 0) && zeroS l.deal && zeroS l.text && zeroS l.party && decide (l.index = 0) && decide (l.day = 0) && (zeroS l.cur && decide (l.amt = 0)) && decide (l.docs.length = 0) && decide (l.boxes.length = 0)
structure SmallL (l : Lt) : Prop where
 docs : DocsS l.docs
 boxes : StrsS l.boxes
 frm : shortS l.frm
 to : shortS l.to
 deal : shortS l.deal
 text : shortS l.text
 party : shortS l.party
noncomputable def LtP (g : Lt → Bool) : Ctr := spec (fun l : Lt => [LtA l]) (fun _ => []) SmallL (fun l => .bl (g l)) fun _ => []
theorem bare_body (P : Program) : BodyOk P x64 (LtP bareB) := by
 intro args H K hc
 obtain ⟨⟨frm, to, number, kind, ack, deal, text, party, index, day, cur, amt, docs, boxes⟩, rfl, rfl, hp, hK⟩ := hc
 refine ⟨Nat.le_of_ble_eq_true rfl, ?_⟩
 unfold bareB zeroS at hK
 dsimp only at hK ⊢
 clear hp
 obtain ⟨m, hm, hm2⟩ : ∃ m : Int, (∀ z : Int, z = ↑(mapA DcA docs).length → z = m) ∧ decide (docs.length = 0) = decide (m = 0) := ⟨docs.length, fun z h => by rw [h, mapA_len], by simp⟩
 obtain ⟨n, hn, hn2⟩ : ∃ m : Int, (∀ z : Int, z = ↑(mapA AV.str boxes).length → z = m) ∧ decide (boxes.length = 0) = decide (m = 0) := ⟨boxes.length, fun z h => by rw [h, mapA_len], by simp⟩
 rw [hm2, hn2] at hK
 clear hm2 hn2
 cbv; repeat' ((first | refine .mk (fun h => ?_) fun h => ?_ | refine .k fun z hz => ?_ | fail) <;> cbv)
 all_goals exact FinK.mk ⟨_, Gh.refl _, .inl (CutK.val rfl (Le.refl _) (K_bl hK (by (first | (have e1 := hm _ (by assumption); have e2 := hn _ (by assumption); clear hm hn; simp_all; done) | (have e1 := hm _ (by assumption); clear hm hn; simp_all; done) | (clear hm hn; simp_all; done)))))⟩
end Go.Proofs.YtblkcnmecfppnaaGreatDoor
/-
 post.May.
-/
namespace Go.Proofs.YtblkcnmecfppnaaGreatDoor
open Go.RowKit
set_option maxHeartbeats 4000000
set_option maxRecDepth 100000
def fromB (n a b : Int) : Bool := decide (a ≤ n) && decide (n ≤ b)
def FromD : Ctr := spec (fun q : Int × Int × Int => [.i q.1, .i q.2.1, .i q.2.2]) (fun _ => []) (fun _ => True) (fun q => .bl (fromB q.1 q.2.1 q.2.2)) fun _ => []
def noneB (s : ByteArray) : Bool := decide (s.size = 0) || nameB s
/-- Whether a letter may be. -/
def mayB (l : Lt) : Bool := nameB l.frm && nameB l.to && !decide (l.frm = l.to) && !decide (kindN l.kind = ⟨#[]⟩) && fromB l.number 0 1048576 && fromB l.ack 0 1048576 && noneB l.deal && noneB l.party && decide (l.text.size ≤ 4096) && fromB l.index (-1) 2 && fromB l.day 0 1048576 &&
 (decide (l.cur = ⟨#[]⟩ ∧ l.amt = 0) || moneyB l.cur l.amt) && decide (l.docs.length ≤ 8) && decide (l.boxes.length ≤ 32) && !(l.docs.any fun d => !isDocB d) && !(l.boxes.any fun s => !nameB s) && (!decide (l.kind = 28) || bareB l)
theorem may_body (P : Program) (hN : FnOk P 55 (StrC shortS nameB)) (hNN : FnOk P 57 (StrC shortS noneB)) (hK0 : FnOk P 20 NameC) (hF : FnOk P 56 FromD)
  (hM : FnOk P 58 MoneyC) (hD : FnOk P 59 (ConDC 60 fun d => !isDocB d)) (hS : FnOk P 62 (ConSC 63 fun s => !nameB s)) (hB : FnOk P 64 (LtP bareB)) :
  BodyOk P x23 (LtP mayB) := by
 intro args H K hc
 obtain ⟨l, rfl, rfl, hp, hK⟩ := hc
 refine ⟨Nat.le_of_ble_eq_true rfl, ?_⟩
 obtain ⟨h1, h2, h3, h4, h5, h6, h7⟩ := hp
 have hp : SmallL l := ⟨h1, h2, h3, h4, h5, h6, h7⟩
 unfold mayB at hK
 obtain ⟨bare, hbare⟩ : ∃ b, b = bareB l := ⟨_, rfl⟩
 dsimp only at hK
 rw [← hbare] at hK
 obtain ⟨frm, to, number, kind, ack, deal, text, party, index, day, cur, amt, docs, boxes⟩ := l
 dsimp only at hK h1 h2 h3 h4 h5 h6 h7 ⊢
 obtain ⟨md, hmd, hm2⟩ : ∃ m : Int, (∀ z : Int, z = ↑(mapA DcA docs).length → z = m) ∧ decide (docs.length ≤ 8) = decide (m ≤ 8) := ⟨docs.length, fun z h => by rw [h, mapA_len], by simp; omega⟩
 obtain ⟨nb, hnb, hn2⟩ : ∃ m : Int, (∀ z : Int, z = ↑(mapA AV.str boxes).length → z = m) ∧ decide (boxes.length ≤ 32) = decide (m ≤ 32) := ⟨boxes.length, fun z h => by rw [h, mapA_len], by simp; omega⟩
 rw [hm2, hn2] at hK
 clear hm2 hn2
 obtain ⟨b1, e_b1⟩ : ∃ b, b = (nameB frm) := ⟨_, rfl⟩
 obtain ⟨b2, e_b2⟩ : ∃ b, b = (nameB to) := ⟨_, rfl⟩
 obtain ⟨b5, e_b5⟩ : ∃ b, b = (fromB number 0 1048576) := ⟨_, rfl⟩
 obtain ⟨b6, e_b6⟩ : ∃ b, b = (fromB ack 0 1048576) := ⟨_, rfl⟩
 obtain ⟨b7, e_b7⟩ : ∃ b, b = (noneB deal) := ⟨_, rfl⟩
 obtain ⟨b8, e_b8⟩ : ∃ b, b = (noneB party) := ⟨_, rfl⟩
 obtain ⟨c1, e_c1⟩ : ∃ b, b = (fromB index (-1) 2) := ⟨_, rfl⟩
 obtain ⟨c2, e_c2⟩ : ∃ b, b = (fromB day 0 1048576) := ⟨_, rfl⟩
 obtain ⟨c3, e_c3⟩ : ∃ b, b = (moneyB cur amt) := ⟨_, rfl⟩
 obtain ⟨c4, e_c4⟩ : ∃ b, b = (docs.any fun d => !isDocB d) := ⟨_, rfl⟩
 obtain ⟨c5, e_c5⟩ : ∃ b, b = (boxes.any fun s => !nameB s) := ⟨_, rfl⟩
 obtain ⟨nm, e_nm⟩ : ∃ b, b = kindN kind := ⟨_, rfl⟩
 rw [← e_b1, ← e_b2, ← e_b5, ← e_b6, ← e_b7, ← e_b8, ← e_c1, ← e_c2, ← e_c3, ← e_c4, ← e_c5, ← e_nm] at hK
 cbv
 refine callG_spec0 hN frm h3 rfl rfl rfl ?_
 try dsimp only
 rw [show (nameB frm) = b1 from e_b1.symm]
 cases b1
 ·cbv
  exact FinK.mk ⟨_, Gh.refl _, .inl (CutK.val rfl (Le.refl _) (K_bl hK rfl))⟩
 cbv
 refine callG_spec0 hN to h4 rfl rfl rfl ?_
 try dsimp only
 rw [show (nameB to) = b2 from e_b2.symm]
 cases b2
 ·cbv
  exact FinK.mk ⟨_, Gh.refl _, .inl (CutK.val rfl (Le.refl _) (K_bl hK rfl))⟩
 cbv; repeat' ((first | refine .mk (fun h => ?_) fun h => ?_ | fail) <;> cbv)
 ·rw [decide_eq_true h] at hK
  exact FinK.mk ⟨_, Gh.refl _, .inl (CutK.val rfl (Le.refl _) (K_bl hK rfl))⟩
 rw [decide_eq_false h] at hK
 refine callG_spec0 hK0 kind trivial rfl rfl rfl ?_
 try dsimp only
 rw [← e_nm]
 cbv; repeat' ((first | refine .mk (fun h => ?_) fun h => ?_ | fail) <;> cbv)
 ·rw [decide_eq_true h] at hK
  exact FinK.mk ⟨_, Gh.refl _, .inl (CutK.val rfl (Le.refl _) (K_bl hK rfl))⟩
 rw [decide_eq_false h] at hK
 refine callG_spec0 hF (number, 0, 1048576) trivial rfl rfl rfl ?_
 try dsimp only
 rw [show (fromB number 0 1048576) = b5 from e_b5.symm]
 cases b5
 ·cbv
  exact FinK.mk ⟨_, Gh.refl _, .inl (CutK.val rfl (Le.refl _) (K_bl hK rfl))⟩
 cbv
 refine callG_spec0 hF (ack, 0, 1048576) trivial rfl rfl rfl ?_
 try dsimp only
 rw [show (fromB ack 0 1048576) = b6 from e_b6.symm]
 cases b6
 ·cbv
  exact FinK.mk ⟨_, Gh.refl _, .inl (CutK.val rfl (Le.refl _) (K_bl hK rfl))⟩
 cbv
 refine callG_spec0 hNN deal h5 rfl rfl rfl ?_
 try dsimp only
 rw [show (noneB deal) = b7 from e_b7.symm]
 cases b7
 ·cbv
  exact FinK.mk ⟨_, Gh.refl _, .inl (CutK.val rfl (Le.refl _) (K_bl hK rfl))⟩
 cbv
 refine callG_spec0 hNN party h7 rfl rfl rfl ?_
 try dsimp only
 rw [show (noneB party) = b8 from e_b8.symm]
 cases b8
 ·cbv
  exact FinK.mk ⟨_, Gh.refl _, .inl (CutK.val rfl (Le.refl _) (K_bl hK rfl))⟩
 cbv; repeat' ((first | refine .mk (fun h => ?_) fun h => ?_ | refine .k fun z hz => ?_ | fail) <;> cbv)
 rotate_left
 ·rw [decide_eq_false (p := text.size ≤ 4096) (by ((try simp only [vn] at *) <;> omega))] at hK
  exact FinK.mk ⟨_, Gh.refl _, .inl (CutK.val rfl (Le.refl _) (K_bl hK rfl))⟩
 rw [decide_eq_true (p := text.size ≤ 4096) (by ((try simp only [vn] at *) <;> omega))] at hK
 refine callG_spec0 hF (index, -1, 2) trivial rfl rfl rfl ?_
 try dsimp only
 rw [show (fromB index (-1) 2) = c1 from e_c1.symm]
 cases c1
 ·cbv
  exact FinK.mk ⟨_, Gh.refl _, .inl (CutK.val rfl (Le.refl _) (K_bl hK rfl))⟩
 cbv
 refine callG_spec0 hF (day, 0, 1048576) trivial rfl rfl rfl ?_
 try dsimp only
 rw [show (fromB day 0 1048576) = c2 from e_c2.symm]
 cases c2
 ·cbv
  exact FinK.mk ⟨_, Gh.refl _, .inl (CutK.val rfl (Le.refl _) (K_bl hK rfl))⟩
 cbv; repeat' ((first | refine .mk (fun h => ?_) fun h => ?_ | refine .k fun z hz => ?_ | fail) <;> cbv)
 rotate_left 3
 ·rw [decide_eq_false (p := cur = ⟨#[]⟩ ∧ amt = 0) (fun e => h ⟨e.1, e.2, trivial⟩)] at hK
  refine callG_spec0 hM (cur, amt) trivial rfl rfl rfl ?_
  try dsimp only
  rw [show (moneyB cur amt) = c3 from e_c3.symm]
  cases c3
  ·cbv
   exact FinK.mk ⟨_, Gh.refl _, .inl (CutK.val rfl (Le.refl _) (K_bl hK rfl))⟩
  cbv; repeat' ((first | refine .mk (fun h => ?_) fun h => ?_ | refine .k fun z hz => ?_ | fail) <;> cbv)
  rotate_left
  ·rw [decide_eq_true (p := md ≤ 8) (by have e := hmd _ (by assumption); omega), decide_eq_false (p := nb ≤ 32) (by have e := hnb _ (by assumption); omega)] at hK
   exact FinK.mk ⟨_, Gh.refl _, .inl (CutK.val rfl (Le.refl _) (K_bl hK rfl))⟩
  ·rw [decide_eq_false (p := md ≤ 8) (by have e := hmd _ (by assumption); omega)] at hK
   exact FinK.mk ⟨_, Gh.refl _, .inl (CutK.val rfl (Le.refl _) (K_bl hK rfl))⟩
  rw [decide_eq_true (p := md ≤ 8) (by have e := hmd _ (by assumption); omega), decide_eq_true (p := nb ≤ 32) (by have e := hnb _ (by assumption); omega)] at hK
  refine callG_spec0 hD docs h1 rfl rfl rfl ?_
  try dsimp only
  rw [show (docs.any fun d => !isDocB d) = c4 from e_c4.symm]
  cases c4
  rotate_left
  ·cbv
   exact FinK.mk ⟨_, Gh.refl _, .inl (CutK.val rfl (Le.refl _) (K_bl hK rfl))⟩
  cbv
  refine callG_spec0 hS boxes h2 rfl rfl rfl ?_
  try dsimp only
  rw [show (boxes.any fun s => !nameB s) = c5 from e_c5.symm]
  cases c5
  rotate_left
  ·cbv
   exact FinK.mk ⟨_, Gh.refl _, .inl (CutK.val rfl (Le.refl _) (K_bl hK rfl))⟩
  cbv; repeat' ((first | refine .mk (fun h => ?_) fun h => ?_ | fail) <;> cbv)
  ·rw [decide_eq_true h] at hK
   refine callG_spec0 hB ⟨frm, to, number, kind, ack, deal, text, party, index, day, cur, amt, docs, boxes⟩ hp rfl rfl rfl ?_
   rw [← hbare]
   cbv
   exact FinK.mk ⟨_, Gh.refl _, .inl (CutK.val rfl (Le.refl _) (K_bl hK rfl))⟩
  ·rw [decide_eq_false h] at hK
   exact FinK.mk ⟨_, Gh.refl _, .inl (CutK.val rfl (Le.refl _) (K_bl hK rfl))⟩
 all_goals (have hcur : cur = ⟨#[]⟩ ∧ amt = 0 ∧ True := (by assumption); rw [decide_eq_true (p := cur = ⟨#[]⟩ ∧ amt = 0) ⟨hcur.1, hcur.2.1⟩] at hK)
 rotate_left
 ·rw [decide_eq_true (p := md ≤ 8) (by have e := hmd _ (by assumption); omega), decide_eq_false (p := nb ≤ 32) (by have e := hnb _ (by assumption); omega)] at hK
  exact FinK.mk ⟨_, Gh.refl _, .inl (CutK.val rfl (Le.refl _) (K_bl hK rfl))⟩
 ·rw [decide_eq_false (p := md ≤ 8) (by have e := hmd _ (by assumption); omega)] at hK
  exact FinK.mk ⟨_, Gh.refl _, .inl (CutK.val rfl (Le.refl _) (K_bl hK rfl))⟩
 rw [decide_eq_true (p := md ≤ 8) (by have e := hmd _ (by assumption); omega), decide_eq_true (p := nb ≤ 32) (by have e := hnb _ (by assumption); omega)] at hK
 refine callG_spec0 hD docs h1 rfl rfl rfl ?_
 try dsimp only
 rw [show (docs.any fun d => !isDocB d) = c4 from e_c4.symm]
 cases c4
 rotate_left
 ·cbv
  exact FinK.mk ⟨_, Gh.refl _, .inl (CutK.val rfl (Le.refl _) (K_bl hK rfl))⟩
 cbv
 refine callG_spec0 hS boxes h2 rfl rfl rfl ?_
 try dsimp only
 rw [show (boxes.any fun s => !nameB s) = c5 from e_c5.symm]
 cases c5
 rotate_left
 ·cbv
  exact FinK.mk ⟨_, Gh.refl _, .inl (CutK.val rfl (Le.refl _) (K_bl hK rfl))⟩
 cbv; repeat' ((first | refine .mk (fun h => ?_) fun h => ?_ | fail) <;> cbv)
 ·rw [decide_eq_true h] at hK
  refine callG_spec0 hB ⟨frm, to, number, kind, ack, deal, text, party, index, day, cur, amt, docs, boxes⟩ hp rfl rfl rfl ?_
  rw [← hbare]
  cbv
  exact FinK.mk ⟨_, Gh.refl _, .inl (CutK.val rfl (Le.refl _) (K_bl hK rfl))⟩
 ·rw [decide_eq_false h] at hK
  exact FinK.mk ⟨_, Gh.refl _, .inl (CutK.val rfl (Le.refl _) (K_bl hK rfl))⟩
end Go.Proofs.YtblkcnmecfppnaaGreatDoor
/-
 Are two lists, two papers one?
-/
namespace Go.Proofs.YtblkcnmecfppnaaGreatDoor
open Go.RowKit
set_option maxHeartbeats 2000000
set_option maxRecDepth 100000
noncomputable def eqB {α : Type} (a b : α) : Bool := @decide (a = b) (Classical.propDecidable _)
theorem eqB_true {α : Type} {a b : α} (h : a = b) : eqB a b = true := by unfold eqB; exact @decide_eq_true _ (Classical.propDecidable _) h
theorem eqB_false {α : Type} {a b : α} (h : ¬ a = b) : eqB a b = false := by unfold eqB; exact @decide_eq_false _ (Classical.propDecidable _) h
def EqTo {α : Type} (l m : List α) (k : Nat) : Prop := ∀ j, j < k → l[j]? = m[j]?
theorem EqTo.zero {α : Type} (l m : List α) : EqTo l m 0 := fun j h => absurd h (Nat.not_lt_zero j)
theorem EqTo.succ {α : Type} {l m : List α} {k : Nat} {x : α} (h : EqTo l m k) (hl : l[k]? = some x) (hm : m[k]? = some x) : EqTo l m (k + 1) := fun j hj => by
 by_cases e : j = k
 ·subst e; rw [hl, hm]
 ·exact h j (by omega)
theorem EqTo.all {α : Type} {l m : List α} (hl : l.length = m.length) (h : EqTo l m l.length) : l = m := List.ext_getElem? fun j => by
 rcases Nat.lt_or_ge j l.length with h1 | h1
 ·exact h j h1
 ·rw [List.getElem?_eq_none h1, List.getElem?_eq_none (by omega)]
theorem ne_at {α : Type} {l m : List α} {k : Nat} {x y : α} (hl : l[k]? = some x) (hm : m[k]? = some y) (h : ¬ x = y) : ¬ l = m := fun e => h (by subst e; rw [hl] at hm; exact Option.some.inj hm)
noncomputable def EqLC {α : Type} (sz : Nat) (F : α → AV) : Ctr := spec (fun q : List α × List α => [.sl sz (mapA F q.1), .sl sz (mapA F q.2)]) (fun _ => []) (fun q => q.1.length ≤ 9223372036854775807 ∧ q.2.length ≤ 9223372036854775807) (fun q => .bl (eqB q.1 q.2)) fun _ => []
theorem refF_body (P : Program) : BodyOk P x10 (EqLC 2 FdA) := by
 intro args H K hc
 obtain ⟨⟨l, m⟩, rfl, rfl, ⟨hp1, hp2⟩, hK⟩ := hc
 refine ⟨Nat.le_of_ble_eq_true rfl, ?_⟩
 dsimp only at hK hp1 hp2 ⊢
 have no : ¬ l = m → K (.bl false) [] := fun h => K_bl hK (eqB_false h).symm
 have yes : l = m → K (.bl true) [] := fun h => K_bl hK (eqB_true h).symm
 clear hK
 have h1 := mapA_len FdA l
 have h2 := mapA_len FdA m
 cbv; repeat' ((first | refine .mk (fun h => ?_) fun h => ?_ | refine .k fun z hz => ?_ | fail) <;> cbv)
 rotate_left
 ·exact FinK.mk ⟨_, Gh.refl _, .inl (CutK.val rfl (Le.refl _) (no (by rintro rfl; exact h ((by assumption : _ = _).trans (by symm; assumption)))))⟩
 have hlm : l.length = m.length := by ((try simp only [vn] at *) <;> omega)
 refine xloopV [] (fun p : { k : Nat // k ≤ l.length ∧ EqTo l m k } => [(5, .i (nI p.1))]) (fun _ => []) (fun p => lft 9223372036854775808 p.1) ⟨0, Nat.zero_le _, .zero l m⟩ ?_
 rintro ⟨k, hk, hf⟩
 dsimp only
 cbv; repeat' ((first | refine .mk (fun h => ?_) fun h => ?_ | refine .k fun z hz => ?_ | fail) <;> cbv)
 ·refine askEl_int (by ((try simp only [vn] at *) <;> omega)) (by ((try simp only [vn] at *) <;> omega)) fun i x hi hx => ?_
  obtain rfl : k = i := by ((try simp only [vn] at *) <;> omega)
  have hx0 := hx
  have key : ∀ y, m[k]? = some y → (¬ x = y → ¬ l = m) ∧ (x = y → EqTo l m (k + 1)) := fun y hy => ⟨ne_at hx0 hy, fun e => by subst e; exact hf.succ hx0 hy⟩
  obtain ⟨n1, v1⟩ := x
  cbv
  refine askEl_int (by ((try simp only [vn] at *) <;> omega)) (by ((try simp only [vn] at *) <;> omega)) fun j y hj hy => ?_
  obtain rfl : k = j := by ((try simp only [vn] at *) <;> omega)
  obtain ⟨ky1, ky2⟩ := key y hy
  obtain ⟨n2, v2⟩ := y
  cbv; repeat' ((first | refine .mk (fun h => ?_) fun h => ?_ | refine .k fun z hz => ?_ | fail) <;> cbv)
  ·obtain rfl : z = nI (k + 1) := by ((try simp only [vn] at *) <;> omega)
   exact roundV ⟨k + 1, by ((try simp only [vn] at *) <;> omega), ky2 (by rw [h.1, h.2.1])⟩ (lft_lt (by ((try simp only [vn] at *) <;> omega)))
  ·exact FinK.mk ⟨_, Gh.refl _, .inl (CutK.val rfl (Le.refl _) (no (ky1 (fun e => h (by cases e; exact ⟨rfl, rfl, trivial⟩)))))⟩
 ·obtain rfl : k = l.length := by ((try simp only [vn] at *) <;> omega)
  exact FinK.mk ⟨_, Gh.refl _, .inl (CutK.val rfl (Le.refl _) (yes (hf.all hlm)))⟩
end Go.Proofs.YtblkcnmecfppnaaGreatDoor
/-
 Are two papers one; two lists of papers?
-/
namespace Go.Proofs.YtblkcnmecfppnaaGreatDoor
open Go.RowKit
set_option maxHeartbeats 2000000
set_option maxRecDepth 100000
noncomputable def EqDC : Ctr := spec (fun q : Dc × Dc => [DcA q.1, DcA q.2]) (fun _ => []) (fun q => q.1.fields.length ≤ 9223372036854775807 ∧ q.2.fields.length ≤ 9223372036854775807) (fun q => .bl (eqB q.1 q.2)) fun _ => []
theorem alike_body (P : Program) (hE : FnOk P 10 (EqLC 2 FdA)) : BodyOk P x28 EqDC := by
 intro args H K hc
 obtain ⟨⟨⟨k1, n1, i1, f1⟩, ⟨k2, n2, i2, f2⟩⟩, rfl, rfl, hp, hK⟩ := hc
 refine ⟨Nat.le_of_ble_eq_true rfl, ?_⟩
 dsimp only at hK hp ⊢
 have no : ¬ (k1 = k2 ∧ n1 = n2 ∧ i1 = i2 ∧ f1 = f2) → K (.bl false) [] := fun h => K_bl hK (eqB_false fun e => h (by cases e; exact ⟨rfl, rfl, rfl, rfl⟩)).symm
 have yes : k1 = k2 → n1 = n2 → i1 = i2 → K (.bl (eqB f1 f2)) [] := fun h1 h2 h3 => by
  subst h1 h2 h3
  by_cases h : f1 = f2
  ·subst h
   rw [eqB_true rfl]
   exact K_bl hK (eqB_true rfl).symm
  ·rw [eqB_false h]
   exact K_bl hK (eqB_false fun e => h (by cases e; rfl)).symm
 clear hK
 obtain ⟨b, hb⟩ : ∃ b, b = eqB f1 f2 := ⟨_, rfl⟩
 rw [← hb] at yes
 cbv; repeat' ((first | refine .mk (fun h => ?_) fun h => ?_ | fail) <;> cbv)
 ·refine callG_spec0 hE (f1, f2) hp rfl rfl rfl ?_
  try dsimp only
  rw [← hb]
  cbv
  exact FinK.mk ⟨_, Gh.refl _, .inl (CutK.val rfl (Le.refl _) (yes (by assumption) (by assumption) (by assumption)))⟩
 all_goals exact FinK.mk ⟨_, Gh.refl _, .inl (CutK.val rfl (Le.refl _) (no (fun e => h (by first | exact e.1 | exact e.2.1 | exact e.2.2.1))))⟩
structure DocsE (l m : List Dc) : Prop where
 l1 : l.length ≤ 9223372036854775807
 l2 : m.length ≤ 9223372036854775807
 e1 : ∀ d ∈ l, d.fields.length ≤ 9223372036854775807
 e2 : ∀ d ∈ m, d.fields.length ≤ 9223372036854775807
noncomputable def EqDsC (f : Nat) : Ctr := spec (fun q : List Dc × List Dc => [.sl 4 (mapA DcA q.1), .sl 4 (mapA DcA q.2), .clo f []]) (fun _ => []) (fun q => DocsE q.1 q.2) (fun q => .bl (eqB q.1 q.2)) fun _ => []
end Go.Proofs.YtblkcnmecfppnaaGreatDoor
/-
 post.Same.
-/
namespace Go.Proofs.YtblkcnmecfppnaaGreatDoor
open Go.RowKit
set_option maxHeartbeats 4000000
set_option maxRecDepth 100000
structure LtE (l : Lt) : Prop where
 docs : l.docs.length ≤ 9223372036854775807
 boxes : l.boxes.length ≤ 9223372036854775807
 each : ∀ d ∈ l.docs, d.fields.length ≤ 9223372036854775807
noncomputable def EqLtC : Ctr := spec (fun q : Lt × Lt => [LtA q.1, LtA q.2]) (fun _ => []) (fun q => LtE q.1 ∧ LtE q.2) (fun q => .bl (eqB q.1 q.2)) fun _ => []
end Go.Proofs.YtblkcnmecfppnaaGreatDoor
/-
 The reference's Same of letters.
-/
namespace Go.Proofs.YtblkcnmecfppnaaGreatDoor
open Go.RowKit
set_option maxHeartbeats 4000000
set_option maxRecDepth 100000
theorem refL_body (P : Program) (hA : FnOk P 28 EqDC) : BodyOk P x9 EqLtC := by
 intro args H K hc
 obtain ⟨⟨⟨a0, a1, a2, a3, a4, a5, a6, a7, a8, a9, a10, a11, a12, a13⟩, ⟨b0, b1, b2, b3, b4, b5, b6, b7, b8, b9, b10, b11, b12, b13⟩⟩, rfl, rfl, ⟨⟨p1, p2, p3⟩, ⟨q1, q2, q3⟩⟩, hK⟩ := hc
 refine ⟨Nat.le_of_ble_eq_true rfl, ?_⟩
 dsimp only at hK p1 p2 p3 q1 q2 q3 ⊢
 have no : ¬ (a0 = b0 ∧ a1 = b1 ∧ a2 = b2 ∧ a3 = b3 ∧ a4 = b4 ∧ a5 = b5 ∧ a6 = b6 ∧ a7 = b7 ∧ a8 = b8 ∧ a9 = b9 ∧ a10 = b10 ∧ a11 = b11 ∧ a12 = b12 ∧ a13 = b13) → K (.bl false) [] := fun h => K_bl hK (eqB_false fun e => h (by cases e; exact ⟨rfl, rfl, rfl, rfl, rfl, rfl, rfl, rfl, rfl, rfl, rfl, rfl, rfl, rfl⟩)).symm
 have yes : (a0 = b0 ∧ a1 = b1 ∧ a2 = b2 ∧ a3 = b3 ∧ a4 = b4 ∧ a5 = b5 ∧ a6 = b6 ∧ a7 = b7 ∧ a8 = b8 ∧ a9 = b9 ∧ a10 = b10 ∧ a11 = b11 ∧ a12 = b12 ∧ a13 = b13) → K (.bl true) [] := fun h => K_bl hK (eqB_true (by obtain ⟨rfl, rfl, rfl, rfl, rfl, rfl, rfl, rfl, rfl, rfl, rfl, rfl, rfl, rfl⟩ := h; rfl)).symm
 clear hK
 have h1 := mapA_len DcA a12
 have h2 := mapA_len DcA b12
 have h3 := mapA_len AV.str a13
 have h4 := mapA_len AV.str b13
 cbv; repeat' ((first | refine .mk (fun h => ?_) fun h => ?_ | refine .k fun z hz => ?_ | fail) <;> cbv)
 rotate_left
 all_goals first | exact FinK.mk ⟨_, Gh.refl _, .inl (CutK.val rfl (Le.refl _) (no fun ⟨e0, e1, e2, e3, e4, e5, e6, e7, e8, e9, e10, e11, e12, e13⟩ => h (by first | assumption | exact ⟨e10, e11, trivial⟩ | (subst_vars; rfl))))⟩ | skip
 have hsum : a10 = b10 ∧ a11 = b11 ∧ True := by assumption
 have hl1 : a12.length = b12.length := by ((try simp only [vn] at *) <;> omega)
 have hl2 : a13.length = b13.length := by ((try simp only [vn] at *) <;> omega)
 have yes2 : a12 = b12 → a13 = b13 → K (.bl true) [] := fun hd hb => yes ⟨by assumption, by assumption, by assumption, by assumption, by assumption, by assumption, by assumption, by assumption, by assumption, by assumption, hsum.1, hsum.2.1, hd, hb⟩
 have no2 : ¬ a12 = b12 → K (.bl false) [] := fun hd => no fun ⟨e0, e1, e2, e3, e4, e5, e6, e7, e8, e9, e10, e11, e12, e13⟩ => hd e12
 have no3 : ¬ a13 = b13 → K (.bl false) [] := fun hd => no fun ⟨e0, e1, e2, e3, e4, e5, e6, e7, e8, e9, e10, e11, e12, e13⟩ => hd e13
 clear yes no
 refine xloopV [] (fun p : { k : Nat // k ≤ a12.length ∧ EqTo a12 b12 k } => [(5, .i (nI p.1))]) (fun _ => [.blk 31 [.str a0, .str a1, .i a2, .i a3, .i a4, .str a5, .str a6, .str a7, .i a8, .i a9, .str a10, .i a11, .sl 4 (mapA DcA a12), .sl 1 (mapA .str a13)], .blk 31 [.str b0, .str b1, .i b2, .i b3, .i b4, .str b5, .str b6, .str b7, .i b8, .i b9, .str b10, .i b11, .sl 4 (mapA DcA b12), .sl 1 (mapA .str b13)]]) (fun p => lft 9223372036854775808 p.1) ⟨0, Nat.zero_le _, .zero _ _⟩ ?_
 rintro ⟨k, hk, hf⟩
 dsimp only
 cbv; repeat' ((first | refine .mk (fun h => ?_) fun h => ?_ | refine .k fun z hz => ?_ | fail) <;> cbv)
 ·refine askEl_int (by ((try simp only [vn] at *) <;> omega)) (by ((try simp only [vn] at *) <;> omega)) fun i x hi hx => ?_
  obtain rfl : k = i := by ((try simp only [vn] at *) <;> omega)
  have hx0 := hx
  have key : ∀ y, b12[k]? = some y → (¬ x = y → ¬ a12 = b12) ∧ (x = y → EqTo a12 b12 (k + 1)) ∧ x.fields.length ≤ 9223372036854775807 ∧ y.fields.length ≤ 9223372036854775807 := fun y hy => ⟨ne_at hx0 hy, fun e => by subst e; exact hf.succ hx0 hy, p3 x (List.mem_of_getElem? hx0), q3 y (List.mem_of_getElem? hy)⟩
  obtain ⟨k1, n1, i1, f1⟩ := x
  cbv
  refine askEl_int (by ((try simp only [vn] at *) <;> omega)) (by ((try simp only [vn] at *) <;> omega)) fun j y hj hy => ?_
  obtain rfl : k = j := by ((try simp only [vn] at *) <;> omega)
  obtain ⟨ky1, ky2, ky3⟩ := key y hy
  obtain ⟨b, hb⟩ : ∃ b, b = eqB (⟨k1, n1, i1, f1⟩ : Dc) y := ⟨_, rfl⟩
  have ky4 : b = false → ¬ a12 = b12 := fun h => ky1 fun e => (by rw [eqB_true e] at hb; rw [hb] at h; cases h)
  have ky5 : b = true → EqTo a12 b12 (k + 1) := fun h => ky2 (Classical.byContradiction fun e => (by rw [eqB_false e] at hb; rw [hb] at h; cases h))
  clear ky1 ky2 hy key hx hx0
  obtain ⟨k2, n2, i2, f2⟩ := y
  cbv
  refine callG_spec0 hA (⟨k1, n1, i1, f1⟩, ⟨k2, n2, i2, f2⟩) ky3 rfl rfl rfl ?_
  try dsimp only
  rw [← hb]
  cases b
  ·cbv
   exact FinK.mk ⟨_, Gh.refl _, .inl (CutK.val rfl (Le.refl _) (no2 (ky4 rfl)))⟩
  ·cbv; repeat' ((first | refine .k fun z hz => ?_ | fail) <;> cbv)
   obtain rfl : z = nI (k + 1) := by ((try simp only [vn] at *) <;> omega)
   exact roundV ⟨k + 1, by ((try simp only [vn] at *) <;> omega), ky5 rfl⟩ (lft_lt (by ((try simp only [vn] at *) <;> omega)))
 ·have hke : k = a12.length := by ((try simp only [vn] at *) <;> omega)
  have hdocs : a12 = b12 := EqTo.all hl1 (hke ▸ hf)
  clear hf hke hk
  refine xloopV [] (fun p : { k : Nat // k ≤ a13.length ∧ EqTo a13 b13 k } => [(6, .i (nI p.1))]) (fun _ => [.blk 31 [.str a0, .str a1, .i a2, .i a3, .i a4, .str a5, .str a6, .str a7, .i a8, .i a9, .str a10, .i a11, .sl 4 (mapA DcA a12), .sl 1 (mapA .str a13)], .blk 31 [.str b0, .str b1, .i b2, .i b3, .i b4, .str b5, .str b6, .str b7, .i b8, .i b9, .str b10, .i b11, .sl 4 (mapA DcA b12), .sl 1 (mapA .str b13)]]) (fun p => lft 9223372036854775808 p.1) ⟨0, Nat.zero_le _, .zero _ _⟩ ?_
  rintro ⟨k, hk, hf⟩
  dsimp only
  cbv; repeat' ((first | refine .mk (fun h => ?_) fun h => ?_ | refine .k fun z hz => ?_ | fail) <;> cbv)
  ·refine askEl_int (by ((try simp only [vn] at *) <;> omega)) (by ((try simp only [vn] at *) <;> omega)) fun i x hi hx => ?_
   obtain rfl : k = i := by ((try simp only [vn] at *) <;> omega)
   have hx0 := hx
   have key : ∀ y, b13[k]? = some y → (¬ x = y → ¬ a13 = b13) ∧ (x = y → EqTo a13 b13 (k + 1)) := fun y hy => ⟨ne_at hx0 hy, fun e => by subst e; exact hf.succ hx0 hy⟩
   cbv
   refine askEl_int (by ((try simp only [vn] at *) <;> omega)) (by ((try simp only [vn] at *) <;> omega)) fun j y hj hy => ?_
   obtain rfl : k = j := by ((try simp only [vn] at *) <;> omega)
   obtain ⟨ky1, ky2⟩ := key y hy
   cbv; repeat' ((first | refine .mk (fun h => ?_) fun h => ?_ | refine .k fun z hz => ?_ | fail) <;> cbv)
   ·obtain rfl : z = nI (k + 1) := by ((try simp only [vn] at *) <;> omega)
    exact roundV ⟨k + 1, by ((try simp only [vn] at *) <;> omega), ky2 h⟩ (lft_lt (by ((try simp only [vn] at *) <;> omega)))
   ·exact FinK.mk ⟨_, Gh.refl _, .inl (CutK.val rfl (Le.refl _) (no3 (ky1 h)))⟩
  ·obtain rfl : k = a13.length := by ((try simp only [vn] at *) <;> omega)
   exact FinK.mk ⟨_, Gh.refl _, .inl (CutK.val rfl (Le.refl _) (yes2 hdocs (hf.all hl2)))⟩
end Go.Proofs.YtblkcnmecfppnaaGreatDoor
/-
 The reference's small functions of letters.
-/
namespace Go.Proofs.YtblkcnmecfppnaaGreatDoor
open Go.RowKit
set_option maxHeartbeats 2000000
set_option maxRecDepth 100000
theorem k_refName : FnOk Tryz.prog 33 (StrC shortS nameB) := fn_strB fun s w hs => refName_any s w hs
theorem between_body (P : Program) : BodyOk P x34 FromC := by
 intro args H K hc
 obtain ⟨⟨n, a, b⟩, rfl, rfl, _, hK⟩ := hc
 refine ⟨Nat.le_of_ble_eq_true rfl, ?_⟩
 dsimp only at hK ⊢
 cbv; repeat' ((first | refine .mk (fun h => ?_) fun h => ?_ | fail) <;> cbv)
 all_goals exact FinK.mk ⟨_, Gh.refl _, .inl (CutK.val rfl (Le.refl _) (K_bl hK (by (simp; omega))))⟩
theorem some_body (P : Program) (hn : FnOk P 33 (StrC shortS nameB)) : BodyOk P x35 (StrC shortS noneB) := by
 intro args H K hc
 obtain ⟨s, rfl, rfl, hs, hK⟩ := hc
 refine ⟨Nat.le_of_ble_eq_true rfl, ?_⟩
 unfold noneB at hK
 dsimp only at hK ⊢
 cbv; repeat' ((first | refine .mk (fun h => ?_) fun h => ?_ | fail) <;> cbv)
 ·exact FinK.mk ⟨_, Gh.refl _, .inl (CutK.val rfl (Le.refl _) (K_bl hK (by (subst h; rfl))))⟩
 have h0 : s.size ≠ 0 := fun e => h (ByteArray.ext (Array.eq_empty_of_size_eq_zero e))
 (refine callG_spec0 hn s hs rfl rfl rfl ?_; try dsimp only)
 rw [decide_eq_false h0, Bool.false_or] at hK
 obtain ⟨b, hb⟩ : ∃ b, b = nameB s := ⟨_, rfl⟩
 rw [← hb] at hK ⊢
 cbv
 exact FinK.mk ⟨_, Gh.refl _, .inl (CutK.val rfl (Le.refl _) (K_bl hK (by rfl)))⟩
def NoneC : Ctr := spec (fun q : ByteArray × Int => [.agg [.str q.1, .i q.2]]) (fun _ => []) (fun _ => True) (fun q => .bl (decide (q.1 = ⟨#[]⟩ ∧ q.2 = 0))) fun _ => []
theorem none_body (P : Program) : BodyOk P x36 NoneC := by
 intro args H K hc
 obtain ⟨⟨c, a⟩, rfl, rfl, _, hK⟩ := hc
 refine ⟨Nat.le_of_ble_eq_true rfl, ?_⟩
 dsimp only at hK ⊢
 cbv; repeat' ((first | refine .mk (fun h => ?_) fun h => ?_ | fail) <;> cbv)
 all_goals exact FinK.mk ⟨_, Gh.refl _, .inl (CutK.val rfl (Le.refl _) (K_bl hK (by (simp_all))))⟩
theorem rmoney_body (P : Program) (hc : FnOk P 76 (StrC (fun _ => True) curB)) : BodyOk P x37 MoneyC := by
 intro args H K hcc
 obtain ⟨⟨c, a⟩, rfl, rfl, _, hK⟩ := hcc
 refine ⟨Nat.le_of_ble_eq_true rfl, ?_⟩
 dsimp only at hK ⊢
 unfold moneyB at hK
 obtain ⟨b, hb⟩ : ∃ b, b = curB c := ⟨_, rfl⟩
 rw [← hb] at hK
 cbv
 refine callG_spec0 hc c trivial rfl rfl rfl ?_
 rw [← hb]
 cases b
 ·cbv
  exact FinK.mk ⟨_, Gh.refl _, .inl (CutK.val rfl (Le.refl _) (K_bl hK (by rfl)))⟩
 ·cbv; repeat' ((first | refine .mk (fun h => ?_) fun h => ?_ | fail) <;> cbv)
  all_goals exact FinK.mk ⟨_, Gh.refl _, .inl (CutK.val rfl (Le.refl _) (K_bl hK (by (simp; omega))))⟩
end Go.Proofs.YtblkcnmecfppnaaGreatDoor
/-
 The reference's currency; its names.
-/
namespace Go.Proofs.YtblkcnmecfppnaaGreatDoor
open Go.RowKit
set_option maxHeartbeats 2000000
set_option maxRecDepth 100000
theorem rcur_body (P : Program) : BodyOk P x76 (StrC (fun _ => True) curB) := by
 intro args H K hc
 obtain ⟨s, rfl, rfl, _, hK⟩ := hc
 refine ⟨Nat.le_of_ble_eq_true rfl, ?_⟩
 dsimp only at hK ⊢
 have big : s.size ≠ 3 → K (.bl false) [] := fun h => K_bl hK (curB_size h).symm
 have all : s.size = 3 → upTo s s.size → K (.bl true) [] := fun h h1 => K_bl hK (curB_all h h1).symm
 have bad : ∀ k (hk : k < s.size), upB s[k].toNat = false → K (.bl false) [] := fun k hk h => K_bl hK (curB_not hk h).symm
 clear hK
 cbv; repeat' ((first | refine .mk (fun h => ?_) fun h => ?_ | refine .k fun z hz => ?_ | fail) <;> cbv)
 ·have h3 : s.size = 3 := by ((try simp only [vn] at *) <;> omega)
  refine xloopV [] (fun p : { k : Nat // k ≤ 3 ∧ upTo s k } => [(3, .i (nI p.1))]) (fun _ => []) (fun p => lft 3 p.1) ⟨0, Nat.zero_le _, upTo_zero s⟩ ?_
  rintro ⟨k, hk, hf⟩
  dsimp only
  cbv; repeat' ((first | refine .mk (fun h => ?_) fun h => ?_ | fail) <;> cbv)
  ·have hks : k < s.size := by ((try simp only [vn] at *) <;> omega)
   refine askByte_nI hks fun y hy => ?_
   have hu : upB s[k].toNat = (decide (65 ≤ y) && decide (y ≤ 90)) := by rw [show y = (s[k].toNat : Int) from hy]; rfl
   cbv; repeat' ((first | refine .mk (fun h => ?_) fun h => ?_ | fail) <;> cbv)
   ·exact FinK.mk ⟨_, Gh.refl _, .inl (CutK.val rfl (Le.refl _) (bad k hks (by rw [hu, decide_eq_false (by omega), Bool.false_and])))⟩
   refine askByte_nI hks fun x hx => ?_
   obtain rfl : x = y := (show x = (s[k].toNat : Int) from hx).trans (show y = (s[k].toNat : Int) from hy).symm
   clear hx hy
   cbv; repeat' ((first | refine .mk (fun h => ?_) fun h => ?_ | refine .k fun z hz => ?_ | fail) <;> cbv)
   ·exact FinK.mk ⟨_, Gh.refl _, .inl (CutK.val rfl (Le.refl _) (bad k hks (by rw [hu, decide_eq_false (p := x ≤ (90 : Int)) (by omega), Bool.and_false])))⟩
   ·rw [decide_eq_true (by omega), decide_eq_true (by omega), Bool.and_self] at hu
    obtain rfl : z = nI (k + 1) := by ((try simp only [vn] at *) <;> omega)
    exact roundV ⟨k + 1, by ((try simp only [vn] at *) <;> omega), upTo_succ hks hf hu⟩ (lft_lt (by ((try simp only [vn] at *) <;> omega)))
  ·have hke : k = s.size := by ((try simp only [vn] at *) <;> omega)
   subst hke
   exact FinK.mk ⟨_, Gh.refl _, .inl (CutK.val rfl (Le.refl _) (all h3 hf))⟩
 ·exact FinK.mk ⟨_, Gh.refl _, .inl (CutK.val rfl (Le.refl _) (big (by ((try simp only [vn] at *) <;> omega))))⟩
end Go.Proofs.YtblkcnmecfppnaaGreatDoor
/-
 The reference's names of kinds.
-/
namespace Go.Proofs.YtblkcnmecfppnaaGreatDoor
open Go.RowKit
set_option maxHeartbeats 2000000
set_option maxRecDepth 100000
def names29 : List ByteArray := (List.range 29).map fun i => kindN (Int.ofNat i)
noncomputable def NamesC : Ctr := spec (fun _ : Unit => []) (fun _ => []) (fun _ => True) (fun _ => .sl 1 (mapA .str names29)) fun _ => []
theorem names_body (P : Program) : BodyOk P x25 NamesC := by
 intro args H K hc
 obtain ⟨_, rfl, rfl, _, hK⟩ := hc
 refine ⟨Nat.le_of_ble_eq_true rfl, ?_⟩
 dsimp only at hK ⊢
 obtain ⟨ns, hns⟩ : ∃ ns, ns = mapA AV.str names29 := ⟨_, rfl⟩
 rw [← hns] at hK
 cbv
 refine FinK.mk ⟨_, Gh.plain 0 rfl, ?_⟩
 cbv
 exact .inl (CutK.val rfl (Le.refl _) (K_of hK (by rw [hns]; rfl)))
end Go.Proofs.YtblkcnmecfppnaaGreatDoor
/-
  The reference's Text (layer 5): the walk.
-/
namespace Go.Proofs.YtblkcnmecfppnaaGreatDoor
open Go.RowKit

theorem one_byte (s : ByteArray) (m : Nat) (h : m < s.size) : (s.data.toList.drop m).take 1 = [s[m]] := by
  rw [List.drop_eq_getElem_cons (by simpa using h)]
  rfl
theorem size_of_list' {S : ByteArray} {L : List UInt8} (h : S.data.toList = L) : S.size = L.length := by rw [← h]; simp

set_option maxRecDepth 100000 in
set_option maxHeartbeats 8000000 in
theorem refText_any (l : List Fd) (A : Option Addr) (n c : Nat) (w : World) (h : Lst Fd.cells 2 w A n l) (hs : ∀ f ∈ l, f.name.size ≤ maxLen) :
    Calls Tryz.prog 15 #[.slice A n c] w (TextPost l w) := by
  have HL := Lib.hid h.len
  by_cases hn : 64 < n
  · have hc : textC l = 7 := by unfold textC; rw [if_pos (by rw [HL.out]; exact hn)]
    have hS : textS l = [] := by unfold textS; rw [if_neg (by rw [hc]; decide)]
    have HP : TextPost l w = fun e w' => e = .returned (.tuple #[.string ⟨#[]⟩, .int .i64 7]) ∧ Below w.heap.size w w' := by unfold TextPost; rw [hc, hS]
    rw [HP]
    clear HP hc hS
    have hn' : (64 : Int) < (n : Int) := by omega
    go_enter Tryz.func15, Tryz.ntmps15
    go_wp2
    go_ret2
    exact ⟨rfl, Below.refl _ _⟩
  have hn' : ¬ (64 : Int) < (n : Int) := by omega
  go_enter Tryz.func15, Tryz.ntmps15
  go_wp2
  go_loopw [4, 5] (fun t i wr => ∃ k : Nat, k ≤ n ∧ i = .int .i64 k ∧ (∃ S : ByteArray, t = .string S ∧ S.data.toList = textL (l.take k)) ∧ Below w.heap.size w wr ∧ ∀ j (hj : j < l.length), j < k → mayF l[j] = true) (fun _ i _ => n - (intOf i).toNat)
  case atStart => exact ⟨0, by omega, rfl, ⟨_, rfl, rfl⟩, Below.refl _ _, fun j hj h => by omega⟩
  case round =>
    obtain ⟨k, hk, rfl, ⟨S0, rfl, hS0⟩, hw, hall⟩ := hrel
    have HS0 := Lib.hid hS0
    clear hS0
    have HA := Lib.hid hall
    clear hall
    by_cases hlt : k < n
    · have hlk : k < l.length := by rw [HL.out]; exact hlt
      obtain ⟨ba, oa, rfl, hba, f0, f1⟩ := (h.below hw).fd k hlk
      have hns := hs _ (List.getElem_mem hlk)
      have htl := upto_len (by omega) HA.out
      have hz0 : S0.size ≤ 525440 := by rw [size_of_list' HS0.out]; exact htl
      have hg2 := (h.below hw)
      generalize hx : l[k] = x at *
      have HX := Lib.hid hx
      clear hx
      generalize hT : textL (l.take k) = T at *
      have HT := Lib.hid hT
      clear hT
      cases hm : mayF x
      · have hc : textC l = 1 := textC_bad hlk (by rw [HL.out]; omega) (by rw [HX.out]; exact hm)
        have hS : textS l = [] := by unfold textS; rw [if_neg (by rw [hc]; decide)]
        have HC := Lib.hid hc
        have HS := Lib.hid hS
        have HM := Lib.hid hm
        clear hm hc hS
        go_wp2_with (go_at_call 40; refine (refMay_any x _ hns).mono ?_; rw [HM.out]; rintro e w1 ⟨rfl, hb1⟩; have hw1 := Below.go hw hb1)
        go_ret2
        refine ⟨?_, hw1⟩
        rw [HC.out, HS.out]
        rfl
      · have HM := Lib.hid hm
        have hbd := mayF_bd hm
        clear hm
        go_wp2_with (go_at_call 40; refine (refMay_any x _ hns).mono ?_; rw [HM.out]; rintro e w1 ⟨rfl, hb1⟩; have hw1 := Below.go hw hb1; have e0 := hb1.cell (p := ⟨ba, oa + k * 2, none⟩) hba; have e1 := hb1.cell (p := ⟨ba, oa + k * 2 + 1, none⟩) hba; rw [f0] at e0; rw [f1] at e1; have hz1 := hb1.size; have hba1 : ba < w1.heap.size := (by have := hb1.size; omega); clear f0 f1)
        clear hw hb1 hg2
        go_loop [4, 6] (fun t i => ∃ m : Nat, m ≤ x.value.size ∧ i = .int .i64 m ∧ ∃ S : ByteArray, t = .string S ∧ S.data.toList = T ++ x.name.data.toList ++ [61] ++ esc (x.value.data.toList.take m)) (fun _ i => x.value.size - (intOf i).toNat)
        case atStart => exact ⟨0, by omega, rfl, _, rfl, by simp [esc, HS0.out]⟩
        case round =>
          obtain ⟨m, hm, rfl, S, rfl, hS⟩ := hrel
          have hzS : S.size ≤ 534000 := by
            rw [size_of_list' hS]
            have h1 := esc_len (x.value.data.toList.take m)
            have h2 : (x.value.data.toList.take m).length ≤ m := List.length_take_le _ _
            have h3 : x.name.data.size = x.name.size := rfl
            simp only [List.length_append, List.length_cons, List.length_nil, Array.length_toList]
            omega
          have HS := Lib.hid hS
          clear hS
          by_cases hlm : m < x.value.size
          · have hsn := esc_byte x.value m hlm
            rcases byte_ways x.value[m] with ⟨q1, q3⟩ | ⟨q1, q2, q3⟩ | ⟨q1, q2, q3⟩
            all_goals
              rw [q3] at hsn
              have HN := Lib.hid hsn
              clear hsn q3
              go_wp2
            all_goals
              go_round
              case rel =>
                refine ⟨m + 1, by omega, by go_num, _, rfl, ?_⟩
                rw [HN.out]
                first | (simp [HS.out]; done) | (simp [HS.out]; exact one_byte x.value m hlm)
              case measure => simp [intOf]; omega
          · obtain rfl : m = x.value.size := by omega
            have hfull : x.value.data.toList.take x.value.size = x.value.data.toList := List.take_of_length_le (by simp)
            rw [hfull] at HS
            clear hfull
            go_wp2
            go_roundw
            case rel =>
              refine ⟨k + 1, by omega, by go_num, ⟨_, rfl, ?_⟩, hw1, fun j hj hjk => ?_⟩
              · rw [textL_snoc l k hlk, HT.out, HX.out]
                simp [HS.out, lineL]
              · by_cases e : j = k
                · subst e; rw [HX.out]; exact HM.out
                · exact HA.out j hj (by omega)
            case measure => simp [intOf]; omega
    · obtain rfl : k = n := by omega
      have hc : textC l = 0 := textC_good (by rw [HL.out]; omega) (fun j hj => HA.out j hj (by rw [← HL.out]; exact hj))
      have hS : textS l = textL l := by unfold textS; rw [if_pos hc]
      have HC := Lib.hid hc
      have HS := Lib.hid hS
      clear hc hS
      rw [List.take_of_length_le (by rw [HL.out]; omega)] at HS0
      go_wp2
      go_ret2
      refine ⟨?_, hw⟩
      have e : S0 = ⟨(textL l).toArray⟩ := by
        cases S0
        have := HS0.out
        simp only at this
        rw [← this]
      rw [HC.out, HS.out, e]
      rfl
end Go.Proofs.YtblkcnmecfppnaaGreatDoor
/-
 The reference's text of fields, kinds of papers, papers, records.
-/
namespace Go.Proofs.YtblkcnmecfppnaaGreatDoor
open Go.RowKit
set_option maxHeartbeats 2000000
set_option maxRecDepth 100000
theorem k_refText : FnOk Tryz.prog 15 TextC := fn_add fun l hp pub w vals hf _ hv => by
 obtain ⟨u, us', hl, h1, h2⟩ := hv.cons_inv
 have h3 := h2.nil_inv
 subst h3
 obtain ⟨A, c, rfl, _, _, _, hL⟩ := h1.lst flat_fd
 have h4 : vals = #[.slice A l.length c] := Array.toList_inj.1 (by simpa using hl)
 subst h4
 refine (refText_any l A _ c w hL hp).mono fun e w' ⟨he, hb⟩ => ?_
 exact AddPost.plain he hb hf (tup2 (.str _) (.int _ _))
def KindSC : Ctr := spec (fun k : Int => [.i k]) (fun _ => []) (fun _ => True) (fun k => .str (kindS k)) fun _ => []
theorem k_refKind : FnOk Tryz.prog 66 KindSC := fn_add fun k _ pub w vals hf _ hv => by
 obtain ⟨u, us', hl, h1, h2⟩ := hv.cons_inv
 have h3 := h2.nil_inv
 subst h3
 cases h1
 have h4 : vals = #[.int .i64 k] := Array.toList_inj.1 (by simpa using hl)
 subst h4
 exact (refKind_any k w).mono fun e w' ⟨he, hb⟩ => AddPost.plain he hb hf (.str _)
noncomputable def RecC : Ctr := spec (fun d : Dc => [DcA d]) (fun _ => []) (fun d => d.fields.length ≤ 4000) (fun d => .sl 2 (mapA FdA (recP d))) fun _ => []
theorem record_body (P : Program) (hk : FnOk P 66 KindSC) : BodyOk P x39 RecC := by
 intro args H K hc
 obtain ⟨⟨kind, number, issuer, fields⟩, rfl, rfl, hp, hK⟩ := hc
 refine ⟨Nat.le_of_ble_eq_true rfl, ?_⟩
 dsimp only at hK hp ⊢
 have hl := mapA_len FdA fields
 obtain ⟨s, hs⟩ : ∃ s, s = kindS kind := ⟨_, rfl⟩
 obtain ⟨r, hr⟩ : ∃ r, r = mapA FdA (recP ⟨kind, number, issuer, fields⟩) := ⟨_, rfl⟩
 rw [← hr] at hK
 cbv
 refine callG_spec0 hk kind trivial rfl rfl rfl ?_
 rw [← hs]
 cbv; repeat' ((first | refine .zl fun zs hzs hzl => ?_ | fail) <;> cbv)
 refine FinK.mk ⟨_, Gh.plain 1 rfl, ?_⟩
 cbv
 exact .inl (CutK.val rfl (Le.refl _) (K_of hK (by rw [hr, hzs, hs]; rfl)))
end Go.Proofs.YtblkcnmecfppnaaGreatDoor
/-
 post.Text: of a letter's record (what the record is comes in as a function).
-/
namespace Go.Proofs.YtblkcnmecfppnaaGreatDoor
open Go.RowKit
set_option maxHeartbeats 2000000
set_option maxRecDepth 100000
noncomputable def FieldsC (fl : Lt → List Fd) : Ctr := spec (fun l : Lt => [LtA l]) (fun _ => []) SmallL (fun l => .sl 2 (mapA FdA (fl l))) fun _ => []
noncomputable def TextLC (fl : Lt → List Fd) : Ctr := spec (fun l : Lt => [LtA l]) (fun _ => []) SmallL (fun l => .tup [.str ⟨(if mayB l then textS (fl l) else []).toArray⟩, .i (if mayB l then textC (fl l) else 1)]) fun _ => []
theorem text_body (P : Program) (fl : Lt → List Fd) (hfl : ∀ l, ∀ f ∈ fl l, f.name.size ≤ maxLen) (hm : FnOk P 23 (LtP mayB)) (hf : FnOk P 11 (FieldsC fl)) (ht : FnOk P 32 TextC) : BodyOk P x13 (TextLC fl) := by
 intro args H K hc
 obtain ⟨l, rfl, rfl, hp, hK⟩ := hc
 refine ⟨Nat.le_of_ble_eq_true rfl, ?_⟩
 dsimp only at hK ⊢
 obtain ⟨b, hb⟩ : ∃ b, b = mayB l := ⟨_, rfl⟩
 obtain ⟨fs, hfs⟩ : ∃ fs, fs = fl l := ⟨_, rfl⟩
 have hfn := hfl l
 rw [← hfs] at hfn
 rw [← hb, ← hfs] at hK
 obtain ⟨t, hht⟩ : ∃ t, t = textS fs := ⟨_, rfl⟩
 obtain ⟨c, hhc⟩ : ∃ c, c = textC fs := ⟨_, rfl⟩
 rw [← hht, ← hhc] at hK
 obtain ⟨frm, to, number, kind, ack, deal, text, party, index, day, cur, amt, docs, boxes⟩ := l
 cbv
 refine callG_spec0 hm ⟨frm, to, number, kind, ack, deal, text, party, index, day, cur, amt, docs, boxes⟩ hp rfl rfl rfl ?_
 rw [← hb]
 cases b
 ·cbv
  exact FinK.mk ⟨_, Gh.refl _, .inl (CutK.val rfl (Le.refl _) (K_of hK rfl))⟩
 ·cbv
  refine callG_spec0 hf ⟨frm, to, number, kind, ack, deal, text, party, index, day, cur, amt, docs, boxes⟩ hp rfl rfl rfl ?_
  rw [← hfs]
  cbv
  refine callG_spec0 ht fs hfn rfl rfl rfl ?_
  try dsimp only
  rw [← hht, ← hhc]
  cbv
  exact FinK.mk ⟨_, Gh.refl _, .inl (CutK.val rfl (Le.refl _) (K_of hK rfl))⟩
end Go.Proofs.YtblkcnmecfppnaaGreatDoor
/-
  Numbers and their digits: the plain law.
-/
namespace Go.Proofs.YtblkcnmecfppnaaGreatDoor

theorem dec_lt (u : Nat) (h : u < 10) : Lib.decDigits u = [UInt8.ofNat (48 + u)] := by rw [Lib.decDigits, dif_pos h]
theorem dec_ge (u : Nat) (h : ¬ u < 10) : Lib.decDigits u = Lib.decDigits (u / 10) ++ [UInt8.ofNat (48 + u % 10)] := by rw [Lib.decDigits, dif_neg h]
theorem dig_nat (d : Nat) (h : d < 10) : (UInt8.ofNat (48 + d)).toNat = 48 + d := by
  rw [UInt8.toNat_ofNat']; omega
theorem dec_len : ∀ (k u : Nat), 1 ≤ k → u < 10 ^ k → (Lib.decDigits u).length ≤ k
  | 0, u, h, _ => by omega
  | k + 1, u, _, h => by
    by_cases h0 : u < 10
    · rw [dec_lt u h0]; simp
    · rw [dec_ge u h0]
      have hk : 1 ≤ k := by
        rcases k with _ | k
        · simp at h; omega
        · omega
      have := dec_len k (u / 10) hk (by rw [Nat.pow_succ] at h; omega)
      simp; omega
theorem dec_head (u : Nat) : ∃ c r, Lib.decDigits u = c :: r ∧ 48 ≤ c.toNat ∧ c.toNat ≤ 57 := by
  induction u using Nat.strongRecOn with
  | _ u ih =>
    by_cases h0 : u < 10
    · rw [dec_lt u h0]
      exact ⟨_, _, rfl, by rw [dig_nat u h0]; omega, by rw [dig_nat u h0]; omega⟩
    · obtain ⟨c, r, h1, h2, h3⟩ := ih (u / 10) (by omega)
      rw [dec_ge u h0, h1]
      exact ⟨c, _, rfl, h2, h3⟩

/-! ### the library's -/
theorem pM_snoc (M : Nat) (c : UInt8) (hc : 48 ≤ c.toNat ∧ c.toNat ≤ 57) (v : Nat) (hv : v < 1844674407370955162) (hM : v * 10 + (c.toNat - 48) ≤ M) :
    ∀ (l : List UInt8) (acc : Nat), Lib.parseUintM M acc l = .ok v → Lib.parseUintM M acc (l ++ [c]) = .ok (v * 10 + (c.toNat - 48))
  | [], acc, h => by
    simp only [Lib.parseUintM, Lib.NumEnd.ok.injEq] at h
    subst h
    simp only [List.nil_append, Lib.parseUintM]
    rw [if_pos hc, if_neg (by omega), if_neg (by omega)]
  | x :: r, acc, h => by
    simp only [List.cons_append, Lib.parseUintM] at h ⊢
    split at h
    · rename_i h1
      rw [if_pos h1]
      split at h
      · cases h
      · rename_i h2
        rw [if_neg h2]
        split at h
        · cases h
        · rename_i h3
          rw [if_neg h3]
          exact pM_snoc M c hc v hv hM r _ h
    · cases h
theorem pM_dec (u : Nat) (h : u ≤ 18446744073709551615) : Lib.parseUintM 18446744073709551615 0 (Lib.decDigits u) = .ok u := by
  induction u using Nat.strongRecOn with
  | _ u ih =>
    by_cases h0 : u < 10
    · rw [dec_lt u h0]
      simp only [Lib.parseUintM]
      rw [dig_nat u h0, if_pos (by omega), if_neg (by omega), if_neg (by omega)]
      simp
    · rw [dec_ge u h0]
      have h1 := ih (u / 10) (by omega) (by omega)
      have h2 := pM_snoc 18446744073709551615 (UInt8.ofNat (48 + u % 10)) (by rw [dig_nat _ (by omega)]; omega) (u / 10) (by omega) (by rw [dig_nat _ (by omega)]; omega) _ _ h1
      rw [dig_nat _ (by omega)] at h2
      rw [h2]
      congr 1
      omega
theorem pB_dec (u : Nat) (h : u ≤ 18446744073709551615) : Lib.parseUintB 64 (Lib.decDigits u) = .ok u := by
  obtain ⟨c, r, h1, _⟩ := dec_head u
  unfold Lib.parseUintB
  rw [if_neg (by rw [h1]; simp)]
  exact pM_dec u h

def inR (n : Int) : Prop := -4611686018427387904 ≤ n ∧ n ≤ 4611686018427387904
instance (n : Int) : Decidable (inR n) := by unfold inR; infer_instance
theorem parse_itoa64 (n : Int) (h : -9223372036854775808 ≤ n ∧ n ≤ 9223372036854775807) : Lib.parseIntB 64 (Lib.itoa n) = .ok n := by
  unfold Lib.itoa
  by_cases h0 : n < 0
  · rw [if_pos h0]
    have h1 := pB_dec n.natAbs (by omega)
    simp only [Lib.parseIntB]
    rw [if_pos (by simp), h1]
    simp only
    rw [if_neg (by simp), if_neg (by simp; omega), if_pos (by simp)]
    congr 1
    omega
  · rw [if_neg h0]
    have h1 := pB_dec n.toNat (by omega)
    obtain ⟨c, r, h2, h3, h4⟩ := dec_head n.toNat
    rw [h2] at h1 ⊢
    simp only [Lib.parseIntB]
    rw [if_neg (by omega), h1]
    simp only
    rw [if_neg (by simp; omega), if_neg (by omega), if_neg (by omega)]
    congr 1
    omega
theorem parse_itoa (n : Int) (h : inR n) : Lib.parseIntB 64 (Lib.itoa n) = .ok n := parse_itoa64 n (by unfold inR at h; omega)
/-- The number of digits, by the program. -/
def numP (l : List UInt8) : Option Int :=
  match Lib.parseIntB 64 l with
  | .ok v => if inR v ∧ Lib.itoa v = l then some v else none
  | _ => none
theorem numP_iff (l : List UInt8) (v : Int) : numP l = some v ↔ inR v ∧ l = Lib.itoa v := by
  unfold numP
  constructor
  · intro h
    split at h
    · split at h
      · rename_i h1
        cases h
        exact ⟨h1.1, h1.2.symm⟩
      · cases h
    · cases h
  · rintro ⟨h1, rfl⟩
    rw [parse_itoa v h1]
    simp only
    rw [if_pos ⟨h1, trivial⟩]

theorem numP_itoa (n : Int) (h : -9223372036854775808 ≤ n ∧ n ≤ 9223372036854775807) : (inR n → numP (Lib.itoa n) = some n) ∧ (¬ inR n → numP (Lib.itoa n) = none) := by
  unfold numP
  rw [parse_itoa64 n h]
  exact ⟨fun h1 => if_pos ⟨h1, rfl⟩, fun h1 => if_neg (fun h2 => h1 h2.1)⟩

/-! ### the reference's -/
def refLoop (n : Nat) : List UInt8 → Option Nat
  | [] => some n
  | c :: r => if c.toNat < 48 ∨ 57 < c.toNat ∨ 461168601842738790 < n then none else refLoop (10 * n + (c.toNat - 48)) r
theorem refLoop_snoc (c : UInt8) : ∀ (l : List UInt8) (n : Nat), refLoop n (l ++ [c]) = (refLoop n l).bind fun v => if c.toNat < 48 ∨ 57 < c.toNat ∨ 461168601842738790 < v then none else some (10 * v + (c.toNat - 48))
  | [], n => by simp only [List.nil_append, refLoop, Option.bind_some]
  | x :: r, n => by
    simp only [List.cons_append, refLoop]
    split
    · rfl
    · exact refLoop_snoc c r _
theorem refLoop_dec (u : Nat) (h : u ≤ 4611686018427387904) : refLoop 0 (Lib.decDigits u) = some u := by
  induction u using Nat.strongRecOn with
  | _ u ih =>
    by_cases h0 : u < 10
    · rw [dec_lt u h0]
      simp only [refLoop]
      rw [dig_nat u h0, if_neg (by omega)]
      simp
    · rw [dec_ge u h0, refLoop_snoc, ih (u / 10) (by omega) (by omega)]
      simp only [Option.bind_some]
      rw [dig_nat _ (by omega), if_neg (by omega)]
      congr 1
      omega
def refV (l : List UInt8) (m : Nat) : Int := if l.head? = some 45 then -(m : Int) else m
def refNum (l : List UInt8) : Option Int :=
  if l = [] ∨ 20 < l.length then none
  else match refLoop 0 (if l.head? = some 45 then l.tail else l) with
    | none => none
    | some m => if inR (refV l m) ∧ Lib.itoa (refV l m) = l then some (refV l m) else none
theorem refNum_iff (l : List UInt8) (v : Int) : refNum l = some v ↔ inR v ∧ l = Lib.itoa v := by
  unfold refNum
  constructor
  · intro h
    split at h
    · cases h
    · split at h
      · cases h
      · split at h
        · rename_i h1
          cases h
          exact ⟨h1.1, h1.2.symm⟩
        · cases h
  · rintro ⟨h1, rfl⟩
    have h1' := h1
    unfold inR at h1'
    unfold Lib.itoa
    by_cases h0 : v < 0
    · rw [if_pos h0]
      have hl := dec_len 19 v.natAbs (by omega) (by omega)
      rw [if_neg (by simp; omega)]
      simp only [List.head?_cons, List.tail_cons, if_true]
      rw [refLoop_dec v.natAbs (by omega)]
      have e : refV (45 :: Lib.decDigits v.natAbs) v.natAbs = v := by unfold refV; simp; omega
      simp only [e]
      rw [if_pos ⟨h1, by rw [if_pos h0]⟩]
    · rw [if_neg h0]
      have hl := dec_len 19 v.toNat (by omega) (by omega)
      obtain ⟨c, r, h2, h3, h4⟩ := dec_head v.toNat
      have hh : ¬ (Lib.decDigits v.toNat).head? = some 45 := by
        rw [h2]
        simp
        rintro rfl
        simp at h3
      rw [if_neg (by rw [h2]; rw [h2] at hl; simp at hl ⊢; omega), if_neg hh, refLoop_dec v.toNat (by omega)]
      have e : refV (Lib.decDigits v.toNat) v.toNat = v := by unfold refV; rw [if_neg hh]; omega
      simp only [e]
      rw [if_pos ⟨h1, by rw [if_neg h0]⟩]
theorem ref_prog (l : List UInt8) : refNum l = numP l := by
  cases h : numP l with
  | some v => exact (refNum_iff l v).2 ((numP_iff l v).1 h)
  | none =>
    cases h' : refNum l with
    | none => rfl
    | some v => rw [(numP_iff l v).2 ((refNum_iff l v).1 h')] at h; cases h
end Go.Proofs.YtblkcnmecfppnaaGreatDoor
/-
 The digits of money: the plain law.
-/
namespace Go.Proofs.YtblkcnmecfppnaaGreatDoor
/-- A number's digits, so many at least. -/
def wholeL (u least : Nat) : List UInt8 := if h : u = 0 ∧ least = 0 then [] else wholeL (u / 10) (least - 1) ++ [UInt8.ofNat (48 + u % 10)]
termination_by u + least
decreasing_by omega
theorem whole_nil : wholeL 0 0 = [] := by rw [wholeL, dif_pos ⟨rfl, rfl⟩]
theorem whole_step {u least : Nat} (h : ¬ (u = 0 ∧ least = 0)) : wholeL u least = wholeL (u / 10) (least - 1) ++ [UInt8.ofNat (48 + u % 10)] := by rw [wholeL, dif_neg h]
theorem whole_pos {v : Nat} (h : v ≠ 0) : wholeL v 0 = wholeL v 1 := by rw [whole_step (by omega), whole_step (u := v) (least := 1) (by omega)]
theorem dec_whole (u : Nat) : Lib.decDigits u = wholeL u 1 := by
 induction u using Nat.strongRecOn with
 | _ u ih =>
  by_cases h : u < 10
  ·rw [dec_lt u h, whole_step (by omega), show u / 10 = 0 by omega, show (1 - 1 : Nat) = 0 from rfl, whole_nil, show u % 10 = u by omega]; rfl
  ·rw [dec_ge u h, whole_step (u := u) (least := 1) (by omega), ih (u / 10) (by omega), show (1 - 1 : Nat) = 0 from rfl, whole_pos (by omega)]
theorem dec_len_pos (u : Nat) : 1 ≤ (wholeL u 1).length := by rw [whole_step (by omega)]; simp
theorem whole_pad : ∀ (k u : Nat), 1 ≤ k → wholeL u k = List.replicate (k - (wholeL u 1).length) 48 ++ wholeL u 1
 | 0, _, h => by omega
 | 1, u, _ => by rw [show 1 - (wholeL u 1).length = 0 by have := dec_len_pos u; omega]; rfl
 | k + 2, u, _ => by
  rw [whole_step (by omega), show k + 2 - 1 = k + 1 from rfl, whole_pad (k + 1) (u / 10) (by omega)]
  by_cases h : u < 10
  ·rw [show u / 10 = 0 by omega]
   have e0 : wholeL 0 1 = [48] := by rw [whole_step (by omega), show (0 : Nat) / 10 = 0 from rfl, show (1 - 1 : Nat) = 0 from rfl, whole_nil]; rfl
   have eu : wholeL u 1 = [UInt8.ofNat (48 + u % 10)] := by rw [whole_step (by omega), show u / 10 = 0 by omega, show (1 - 1 : Nat) = 0 from rfl, whole_nil]; rfl
   rw [e0, eu]
   simp only [List.length_singleton, Nat.add_sub_cancel, show k + 2 - 1 = k + 1 from rfl]
   rw [List.replicate_succ']
  ·have e1 : wholeL u 1 = wholeL (u / 10) 1 ++ [UInt8.ofNat (48 + u % 10)] := by rw [whole_step (u := u) (least := 1) (by omega), show (1 - 1 : Nat) = 0 from rfl, whole_pos (by omega)]
   rw [e1]
   simp only [List.length_append, List.length_singleton]
   rw [show k + 2 - ((wholeL (u / 10) 1).length + 1) = k + 1 - (wholeL (u / 10) 1).length by omega, List.append_assoc]
theorem whole_two (u : Nat) : wholeL u 3 = wholeL (u / 100) 1 ++ wholeL (u % 100) 2 := by
 rw [whole_step (u := u) (by omega), whole_step (u := u / 10) (by omega), whole_step (u := u % 100) (by omega), whole_step (u := u % 100 / 10) (by omega)]
 simp only [show (3 - 1 : Nat) = 2 from rfl, show (2 - 1 : Nat) = 1 from rfl, show (1 - 1 : Nat) = 0 from rfl]
 rw [show u % 100 / 10 / 10 = 0 by omega, whole_nil, show u / 10 / 10 = u / 100 by omega, show u % 100 % 10 = u % 10 by omega, show u % 100 / 10 % 10 = u / 10 % 10 by omega]
 simp
theorem whole_three (u : Nat) : wholeL u 4 = wholeL (u / 1000) 1 ++ wholeL (u % 1000) 3 := by
 rw [whole_step (u := u) (by omega), whole_step (u := u / 10) (by omega), whole_step (u := u / 10 / 10) (by omega), whole_step (u := u % 1000) (by omega), whole_step (u := u % 1000 / 10) (by omega), whole_step (u := u % 1000 / 10 / 10) (by omega)]
 simp only [show (4 - 1 : Nat) = 3 from rfl, show (3 - 1 : Nat) = 2 from rfl, show (2 - 1 : Nat) = 1 from rfl, show (1 - 1 : Nat) = 0 from rfl]
 rw [show u % 1000 / 10 / 10 / 10 = 0 by omega, whole_nil, show u / 10 / 10 / 10 = u / 1000 by omega, show u % 1000 % 10 = u % 10 by omega, show u % 1000 / 10 % 10 = u / 10 % 10 by omega, show u % 1000 / 10 / 10 % 10 = u / 10 / 10 % 10 by omega]
 simp
theorem whole_len : ∀ (k u : Nat), u < 10 ^ k → (wholeL u k).length = k
 | 0, u, h => by
  obtain rfl : u = 0 := by simp at h; omega
  rw [whole_nil]; rfl
 | k + 1, u, h => by
  rw [whole_step (by omega), List.length_append, show k + 1 - 1 = k from rfl, whole_len k (u / 10) (by rw [Nat.pow_succ] at h; omega)]; rfl
/-- A number with so many digits behind the point. -/
def fracL (n u : Nat) : List UInt8 := if n = 0 then wholeL u 1 else wholeL (u / 10 ^ n) 1 ++ 46 :: wholeL (u % 10 ^ n) n
/-- The program's way: filled up with zeros, and cut. -/
theorem frac_cut (n u : Nat) (hn : n = 2 ∨ n = 3) : fracL n u = (wholeL u (n + 1)).take ((wholeL u (n + 1)).length - n) ++ 46 :: (wholeL u (n + 1)).drop ((wholeL u (n + 1)).length - n) := by
 have key : wholeL u (n + 1) = wholeL (u / 10 ^ n) 1 ++ wholeL (u % 10 ^ n) n := by
  rcases hn with rfl | rfl
  ·exact whole_two u
  ·exact whole_three u
 have hl : (wholeL (u % 10 ^ n) n).length = n := whole_len _ _ (Nat.mod_lt _ (Nat.pow_pos (by omega)))
 rw [key, List.length_append, hl, Nat.add_sub_cancel, List.take_left, List.drop_left]
 unfold fracL
 rw [if_neg (by omega)]
end Go.Proofs.YtblkcnmecfppnaaGreatDoor
/-
  strconv.Itoa and strconv.FormatUint at base 10, at this program's numbers: the digits, over abstract values.
-/
namespace Go.Proofs.YtblkcnmecfppnaaGreatDoor
open Go.Shelf Go.RowKit
set_option maxRecDepth 100000

def laysM171_ren : Go.Shelf.Ren := ⟨fun | 171 => 29 | 243 => 67 | 246 => 88 | 283 => 99 | 284 => 100 | 285 => 101 | 286 => 102 | 129 => 116 | 317 => 115 | 318 => 117 | 319 => 118 | 320 => 119 | 337 => 128 | 338 => 129 | n => n, fun | 3 => 3 | 9 => 9 | 2 => 2 | 4 => 4 | 171 => 128 | 0 => 0 | 53 => 97 | 37 => 102 | 5 => 5 | 173 => 131 | 212 => 149 | 51 => 133 | 20 => 20 | 213 => 150 | 46 => 120 | 232 => 164 | 233 => 165 | n => n, fun | 17 => 2 | 18 => 6 | 19 => 7 | n => n⟩
theorem laysM171 : Go.Proofs.LaysM.n171 Tryz.prog laysM171_ren := {
  mixed := by kernel_rfl
  f129 := Tryz.func116.trans (congrArg some (by kernel_rfl))
  f171 := Tryz.func29.trans (congrArg some (by kernel_rfl))
  f243 := Tryz.func67.trans (congrArg some (by kernel_rfl))
  f246 := Tryz.func88.trans (congrArg some (by kernel_rfl))
  f283 := Tryz.func99.trans (congrArg some (by kernel_rfl))
  f284 := Tryz.func100.trans (congrArg some (by kernel_rfl))
  f285 := Tryz.func101.trans (congrArg some (by kernel_rfl))
  f286 := Tryz.func102.trans (congrArg some (by kernel_rfl))
  f317 := Tryz.func115.trans (congrArg some (by kernel_rfl))
  f318 := Tryz.func117.trans (congrArg some (by kernel_rfl))
  f319 := Tryz.func118.trans (congrArg some (by kernel_rfl))
  f320 := Tryz.func119.trans (congrArg some (by kernel_rfl))
  f337 := Tryz.func128.trans (congrArg some (by kernel_rfl))
  f338 := Tryz.func129.trans (congrArg some (by kernel_rfl))
  t0 := Tryz.underlying0
  a0 := Tryz.isAgg0
  z0 := Tryz.sizeOf0
  v0 := Tryz.zeroValue0
  t2 := Tryz.underlying2
  a2 := Tryz.isAgg2
  z2 := Tryz.sizeOf2
  v2 := Tryz.zeroValue2
  t3 := Tryz.underlying3
  a3 := Tryz.isAgg3
  z3 := Tryz.sizeOf3
  v3 := Tryz.zeroValue3
  t4 := Tryz.underlying4
  a4 := Tryz.isAgg4
  z4 := Tryz.sizeOf4
  v4 := Tryz.zeroValue4
  t5 := Tryz.underlying5
  a5 := Tryz.isAgg5
  z5 := Tryz.sizeOf5
  v5 := Tryz.zeroValue5
  t9 := Tryz.underlying9
  a9 := Tryz.isAgg9
  z9 := Tryz.sizeOf9
  v9 := Tryz.zeroValue9
  t20 := Tryz.underlying20
  a20 := Tryz.isAgg20
  z20 := Tryz.sizeOf20
  v20 := Tryz.zeroValue20
  t37 := Tryz.underlying102
  a37 := Tryz.isAgg102
  z37 := Tryz.sizeOf102
  v37 := Tryz.zeroValue102
  t46 := Tryz.underlying120
  a46 := Tryz.isAgg120
  z46 := Tryz.sizeOf120
  v46 := Tryz.zeroValue120
  t51 := Tryz.underlying133
  a51 := Tryz.isAgg133
  z51 := Tryz.sizeOf133
  v51 := Tryz.zeroValue133
  t53 := Tryz.underlying97
  a53 := Tryz.isAgg97
  z53 := Tryz.sizeOf97
  v53 := Tryz.zeroValue97
  t171 := Tryz.underlying128
  a171 := Tryz.isAgg128
  z171 := Tryz.sizeOf128
  v171 := Tryz.zeroValue128
  t173 := Tryz.underlying131
  a173 := Tryz.isAgg131
  z173 := Tryz.sizeOf131
  v173 := Tryz.zeroValue131
  t212 := Tryz.underlying149
  a212 := Tryz.isAgg149
  z212 := Tryz.sizeOf149
  v212 := Tryz.zeroValue149
  t213 := Tryz.underlying150
  a213 := Tryz.isAgg150
  z213 := Tryz.sizeOf150
  t232 := Tryz.underlying164
  a232 := Tryz.isAgg164
  z232 := Tryz.sizeOf164
  v232 := Tryz.zeroValue164
  t233 := Tryz.underlying165
  a233 := Tryz.isAgg165
  z233 := Tryz.sizeOf165
  v233 := Tryz.zeroValue165
  g17 := by kernel_rfl
  g18 := by kernel_rfl
  g19 := by kernel_rfl
  i0 := by kernel_rfl
  i2 := by kernel_rfl
  i3 := by kernel_rfl
  i4 := by kernel_rfl
  i5 := by kernel_rfl
  i9 := by kernel_rfl
  i20 := by kernel_rfl
  i37 := by kernel_rfl
  i46 := by kernel_rfl
  i51 := by kernel_rfl
  i53 := by kernel_rfl
  i171 := by kernel_rfl
  i173 := by kernel_rfl
  i212 := by kernel_rfl
  i232 := by kernel_rfl
  i233 := by kernel_rfl
  m17 := by kernel_rfl
  m18 := by kernel_rfl
  m19 := by kernel_rfl }

theorem below_grow (w : World) (k : Nat) (os : Array Obj) : Below w.heap.size w (Sort.grow (w.drewN k) os) :=
  ⟨rfl, rfl, rfl, by simp [Sort.grow, World.drewN], fun j hj => by
    show ((w.drewN k).heap ++ os)[j]? = _
    rw [Array.getElem?_append_left (by exact hj)]
    rfl⟩
theorem tab_of_glob {pub : Pub} {w : World} (h : GlobOk pub w) : Lib.TabIs Tryz.prog w "internal/strconv.uint64pow10" .u64 Lib.pow10Tab := by
  obtain ⟨t, fz, hb⟩ := h.block (g := 2) (by show 0 < 20; omega)
  have hg : Tryz.prog.globalNamed "internal/strconv.uint64pow10" = some 2 := by kernel_rfl
  unfold Lib.TabIs World.var?
  rw [hg]
  simp only [Option.bind_some]
  rw [hb]
  rfl
def itoS (n : Int) : ByteArray := ⟨(Lib.itoa n).toArray⟩
def ItoC (ito : Int → ByteArray) : Ctr := spec (fun n : Int => [.i n]) (fun _ => []) (fun n => -9223372036854775808 ≤ n ∧ n ≤ 9223372036854775807) (fun n => .str (ito n)) fun _ => []
theorem k_itoa : FnOk Tryz.prog 29 (ItoC itoS) := fn_add fun n hp pub w vals hf hg hv => by
  obtain ⟨u, us', hl, h1, h2⟩ := hv.cons_inv
  have h3 := h2.nil_inv
  subst h3
  cases h1
  have h4 : vals = #[.int .i64 n] := Array.toList_inj.1 (by simpa using hl)
  subst h4
  refine (Any.strconv_Itoa laysM171 n hp.1 hp.2 w (tab_of_glob hg)).mono fun e w' ⟨he, k, os, hw⟩ => ?_
  subst hw
  exact AddPost.plain he (below_grow w k os) hf (.str _)

open Go.Sort Go.Lib in
set_option maxHeartbeats 6400000 in
theorem formatUint_in (n : Nat) (hn : n < 18446744073709551616) (w : World) (htab : Lib.TabIs Tryz.prog w "internal/strconv.uint64pow10" .u64 Lib.pow10Tab) :
    Calls Tryz.prog 89 #[.int .u64 n, .int .i64 10] w fun e w' => e = .returned (.string ⟨(Lib.decDigits n).toArray⟩) ∧ ∃ k os, w' = grow (w.drewN k) os := by
  have L := laysM171
  have L283 : Go.Proofs.Lays.n283 Tryz.prog laysM171_ren := { L with }
  have L284 : Go.Proofs.LaysM.n284 Tryz.prog laysM171_ren := { L with }
  have L285 : Go.Proofs.Lays.n285 Tryz.prog laysM171_ren := { L with }
  by_cases hs : n < 100
  · go_enter Tryz.func89, Tryz.ntmps89
    go_wp2_with (go_at_call 99; refine (Any.internal_strconv_small L283 n hs _).mono ?_; rintro e w' ⟨rfl, rfl⟩)
    go_ret
    refine ⟨?_, 0, #[], by simp [World.drewN_zero]⟩
    rfl
  · have hu1 : 1 ≤ n := by omega
    have hnd20 : Lib.nDigits n ≤ 20 := by have := Lib.numDigits_eq n hu1 hn; split at this <;> omega
    have hal : Tryz.prog.arrayLen 128 = 24 := by kernel_rfl
    have hsl1 : ∀ W, (Instr.sliceAt 128 (.pointer (some ⟨w.heap.size, 0, none⟩)) none (some (.int .i64 (Lib.nDigits n : Int))) none).run Tryz.prog W = .ok (.slice (some ⟨w.heap.size, 0, none⟩) (Lib.nDigits n) 24) W := fun W => by
      rw [run_sliceAt_array_h W 128 ⟨w.heap.size, 0, none⟩ (by simp [Program.arrayLen, Program.elem, Tryz.underlying128]) .i64 (Lib.nDigits n : Int) (by omega) (by rw [hal]; omega)]
      go_simp
    have hH0 := Lib.holds_zero0 w 128 (Lib.nDigits n) (by omega)
    have hfmt := Any.internal_strconv_formatBase10 L285 w.heap.size 0 24 n (Array.replicate (Lib.nDigits n) 0) (w.alloc (.cells Lib.zeros24 128)) hH0 (by rw [Array.size_replicate]; exact Lib.lt_pow_nDigits n) hn (by rw [Array.size_replicate]; omega)
    rw [Array.size_replicate] at hfmt
    have HH0 := Lib.hid hH0
    clear hH0 hal
    go_enter Tryz.func89, Tryz.ntmps89
    go_wp2_with (first
      | (go_at_call 100; refine (Any.internal_strconv_numDigits L284 n hu1 hn _ (Lib.tabIs_alloc htab _)).mono ?_; rintro e w' ⟨rfl, rfl⟩))
    go_at_call 101
    refine hfmt.mono ?_
    rintro e w' ⟨rfl, k, v', dk, rfl, hF⟩
    have hcv : (convert 102 9 (.slice (some ⟨w.heap.size, 0, none⟩) (Lib.nDigits n) 24)).run Tryz.prog ((putRow (fun (b : UInt8) => Value.int .u8 (b.toNat : Int)) (w.alloc (.cells Lib.zeros24 128)) w.heap.size 0 dk).drewN k) = .ok (.string ⟨(Lib.decDigits n).toArray⟩) ((putRow (fun (b : UInt8) => Value.int .u8 (b.toNat : Int)) (w.alloc (.cells Lib.zeros24 128)) w.heap.size 0 dk).drewN k) := by
      have h := run_convert_bytes_back (P := Tryz.prog) ((putRow (fun (b : UInt8) => Value.int .u8 (b.toNat : Int)) (w.alloc (.cells Lib.zeros24 128)) w.heap.size 0 dk).drewN k) 102 9 5 ⟨w.heap.size, 0, none⟩ 24 (Lib.decDigits n) Tryz.underlying102 Tryz.underlying5 Tryz.underlying9 (fun j hj => by
        rw [Lib.row_is_numeral hF j hj, Lib.add_plain, World.cell?_drewN]
        exact cell?_putRow (fun (b : UInt8) => Value.int .u8 (b.toNat : Int)) _ w.heap.size 0 _ dk HH0.out (by rw [hF.size, Array.size_replicate]) j (by rw [hF.size]; rw [Lib.decDigits_length] at hj; exact hj))
      rw [Lib.decDigits_length] at h
      exact h
    go_wp2
    go_ret
    obtain ⟨os, eo⟩ := Lib.fin_at w (.cells Lib.zeros24 128) dk k 0
    exact ⟨rfl, k, os, eo⟩
theorem formatUint_any (n : Nat) (hn : n < 18446744073709551616) (w : World) (htab : Lib.TabIs Tryz.prog w "internal/strconv.uint64pow10" .u64 Lib.pow10Tab) :
    Calls Tryz.prog 69 #[.int .u64 n, .int .i64 10] w fun e w' => e = .returned (.string ⟨(Lib.decDigits n).toArray⟩) ∧ ∃ k os, w' = Sort.grow (w.drewN k) os := by
  go_enter Tryz.func69, Tryz.ntmps69
  go_wp2_with (go_at_call 89; refine (formatUint_in n hn _ htab).mono ?_; rintro e w' ⟨rfl, k, os, rfl⟩)
  go_ret
  exact ⟨rfl, k, os, rfl⟩
def FmtC : Ctr := spec (fun n : Nat => [.int .u64 n, .i 10]) (fun _ => []) (fun n => n < 18446744073709551616) (fun n => .str ⟨(wholeL n 1).toArray⟩) fun _ => []
theorem k_fmtUint : FnOk Tryz.prog 69 FmtC := fn_add fun n hp pub w vals hf hg hv => by
  obtain ⟨u, us', hl, h1, h2⟩ := hv.cons_inv
  obtain ⟨u2, us2, hl2, h12, h22⟩ := h2.cons_inv
  have h3 := h22.nil_inv
  subst h3
  cases h1
  cases h12
  subst hl2
  have h4 : vals = #[.int .u64 n, .int .i64 10] := Array.toList_inj.1 (by simpa using hl)
  subst h4
  refine (formatUint_any n hp w (tab_of_glob hg)).mono fun e w' ⟨he, k, os, hw⟩ => ?_
  subst hw
  rw [dec_whole] at he
  exact AddPost.plain he (below_grow w k os) hf (.str _)
end Go.Proofs.YtblkcnmecfppnaaGreatDoor
/-
 post.Fields.
-/
namespace Go.Proofs.YtblkcnmecfppnaaGreatDoor
open Go.RowKit
set_option maxHeartbeats 4000000
set_option maxRecDepth 100000
def MonC (mon : ByteArray → Int → ByteArray) : Ctr := spec (fun q : ByteArray × Int => [.agg [.str q.1, .i q.2]]) (fun _ => []) (fun _ => True) (fun q => .str (mon q.1 q.2)) fun _ => []
theorem mayB_facts {l : Lt} (h : mayB l = true) : (0 ≤ l.number ∧ l.number ≤ 1048576) ∧ (0 ≤ l.ack ∧ l.ack ≤ 1048576) ∧ (-1 ≤ l.index ∧ l.index ≤ 2) ∧ (0 ≤ l.day ∧ l.day ≤ 1048576) ∧ l.docs.length ≤ 8 ∧ l.boxes.length ≤ 32 := by
 simp only [mayB, fromB, Bool.and_eq_true, decide_eq_true_eq] at h
 omega
def recB (frm to i1 kn i2 deal text party i3 i4 mo : ByteArray) : List Fd := [⟨⟨#[102, 114, 111, 109]⟩, frm⟩, ⟨⟨#[116, 111]⟩, to⟩, ⟨⟨#[110, 117, 109, 98, 101, 114]⟩, i1⟩, ⟨⟨#[107, 105, 110, 100]⟩, kn⟩, ⟨⟨#[97, 99, 107]⟩, i2⟩, ⟨⟨#[100, 101, 97, 108]⟩, deal⟩, ⟨⟨#[116, 101, 120, 116]⟩, text⟩, ⟨⟨#[112, 97, 114, 116, 121]⟩, party⟩, ⟨⟨#[105, 110, 100, 101, 120]⟩, i3⟩, ⟨⟨#[100, 97, 121]⟩, i4⟩, ⟨⟨#[115, 117, 109]⟩, mo⟩]
def docF (d : Dc) : Fd := ⟨⟨#[100, 111, 99]⟩, ⟨(docS d).toArray⟩⟩
def boxF (s : ByteArray) : Fd := ⟨⟨#[98, 111, 120]⟩, s⟩
def fieldsL (ito : Int → ByteArray) (mon : ByteArray → Int → ByteArray) (l : Lt) : List Fd := if mayB l then recB l.frm l.to (ito l.number) (kindN l.kind) (ito l.ack) l.deal l.text l.party (ito l.index) (ito l.day) (mon l.cur l.amt) ++ l.docs.map docF ++ l.boxes.map boxF else []
theorem fields_body (P : Program) (ito : Int → ByteArray) (mon : ByteArray → Int → ByteArray) (hm : FnOk P 23 (LtP mayB)) (hN : FnOk P 20 NameC) (hI : FnOk P 29 (ItoC ito)) (hM : FnOk P 30 (MonC mon)) (hD : FnOk P 31 DocC) : BodyOk P x11 (FieldsC (fieldsL ito mon)) := by
 intro args H K hc
 obtain ⟨l, rfl, rfl, hp, hK⟩ := hc
 refine ⟨Nat.le_of_ble_eq_true rfl, ?_⟩
 dsimp only at hK ⊢
 obtain ⟨b, hb⟩ : ∃ b, b = mayB l := ⟨_, rfl⟩
 obtain ⟨frm, to, number, kind, ack, deal, text, party, index, day, cur, amt, docs, boxes⟩ := l
 cbv
 refine callG_spec0 hm ⟨frm, to, number, kind, ack, deal, text, party, index, day, cur, amt, docs, boxes⟩ hp rfl rfl rfl ?_
 rw [← hb]
 obtain ⟨i1, hi1⟩ : ∃ s, s = ito number := ⟨_, rfl⟩
 obtain ⟨i2, hi2⟩ : ∃ s, s = ito ack := ⟨_, rfl⟩
 obtain ⟨i3, hi3⟩ : ∃ s, s = ito index := ⟨_, rfl⟩
 obtain ⟨i4, hi4⟩ : ∃ s, s = ito day := ⟨_, rfl⟩
 obtain ⟨kn, hkn⟩ : ∃ s, s = kindN kind := ⟨_, rfl⟩
 obtain ⟨mo, hmo⟩ : ∃ s, s = mon cur amt := ⟨_, rfl⟩
 cases b
 ·have hK0 : K (.sl 2 (mapA FdA [])) [] := by unfold fieldsL at hK; rw [← hb] at hK; exact hK
  cbv
  exact FinK.mk ⟨_, Gh.refl _, .inl (CutK.val rfl (by repeat' (first | exact LeL.nil | exact LeL0.nil | exact LeH.nil | exact LeE.refl _ | exact Le.refl _ | exact Le0.one (.refl _) | exact Le0.one (.nil _) | exact Le1.refl _ | exact Le1.nil _ | refine LeH.cons ?_ ?_ | refine LeE.row ?_ | refine LeE.blk ?_ | refine LeL0.cons ?_ ?_ | refine LeL.cons ?_ ?_ | refine Le0.agg ?_ | refine Le.tup ?_ | exact Le.one (.one (.nil _)) | refine Le.one (.agg ?_))) hK0)⟩
 ·obtain ⟨f1, f2, f3, f4, f5, f6⟩ := mayB_facts hb.symm
  dsimp only at f1 f2 f3 f4 f5 f6
  cbv
  refine callG_spec0 hI number (by omega) rfl rfl rfl ?_
  rw [← hi1]
  cbv
  refine callG_spec0 hN kind trivial rfl rfl rfl ?_
  rw [← hkn]
  cbv
  refine callG_spec0 hI ack (by omega) rfl rfl rfl ?_
  rw [← hi2]
  cbv
  refine callG_spec0 hI index (by omega) rfl rfl rfl ?_
  rw [← hi3]
  cbv
  refine callG_spec0 hI day (by omega) rfl rfl rfl ?_
  rw [← hi4]
  cbv
  refine callG_spec0 hM (cur, amt) trivial rfl rfl rfl ?_
  try dsimp only
  rw [← hmo]
  cbv; repeat' ((first | refine .k fun z hz => ?_ | fail) <;> cbv)
  have hl1 := mapA_len DcA docs
  have hK1 : K (.sl 2 (mapA FdA (recB frm to i1 kn i2 deal text party i3 i4 mo ++ docs.map docF ++ boxes.map boxF))) [] := by
   unfold fieldsL at hK
   rw [← hb] at hK
   dsimp only at hK
   rw [← hi1, ← hi2, ← hi3, ← hi4, ← hkn, ← hmo] at hK
   exact hK
  clear hK
  obtain ⟨B, hB⟩ : ∃ B, B = recB frm to i1 kn i2 deal text party i3 i4 mo := ⟨_, rfl⟩
  refine xloopV [1] (fun q : { q : Nat × List Fd // q.1 ≤ docs.length ∧ q.2 = B ++ (docs.take q.1).map docF } => [(56, .i (nI q.1.1)), (3, .hd 1)]) (fun q => [.blk 31 [.str frm, .str to, .i number, .i kind, .i ack, .str deal, .str text, .str party, .i index, .i day, .str cur, .i amt, .sl 4 (mapA DcA docs), .sl 1 (mapA .str boxes)], .row 24 2 (mapA FdA q.1.2)]) (fun q => lft 9 q.1.1) ⟨(0, recB frm to i1 kn i2 deal text party i3 i4 mo), Nat.zero_le _, by rw [hB]; simp⟩ ?_
  rintro ⟨⟨k, L⟩, hk, hL⟩
  dsimp only at hk hL ⊢
  cbv; repeat' ((first | refine .mk (fun h => ?_) fun h => ?_ | refine .k fun z hz => ?_ | fail) <;> cbv)
  ·refine askEl_int (by ((try simp only [vn] at *) <;> omega)) (by ((try simp only [vn] at *) <;> omega)) fun i x hi hx => ?_
   obtain rfl : k = i := by ((try simp only [vn] at *) <;> omega)
   have hxs : NamesS x.fields := hp.docs.each x (List.mem_of_getElem? hx)
   have hkl : k < docs.length := (List.getElem?_eq_some_iff.1 hx).1
   have hnx : B ++ (docs.take (k + 1)).map docF = L ++ [docF x] := by rw [hL, List.take_add_one, hx]; simp
   obtain ⟨t, ht⟩ : ∃ t, t = docS x := ⟨_, rfl⟩
   obtain ⟨c, hcc⟩ : ∃ c, c = docC x := ⟨_, rfl⟩
   have hfx : docF x = ⟨⟨#[100, 111, 99]⟩, ⟨t.toArray⟩⟩ := by rw [ht]; rfl
   rw [hfx] at hnx
   clear hx hfx
   obtain ⟨k1, n1, is1, fs1⟩ := x
   have hLl : L.length ≤ 30 := by rw [hL, hB]; simp [recB]; omega
   have hLl2 := mapA_len FdA L
   cbv
   refine callG_spec0 hD ⟨k1, n1, is1, fs1⟩ hxs rfl rfl rfl ?_
   try dsimp only
   rw [← ht, ← hcc]
   cbv; repeat' ((first | refine .k fun z hz => ?_ | refine .zl fun zs hzs hzl => ?_ | fail) <;> cbv)
   obtain rfl : zs = mapA FdA (L ++ [(⟨⟨#[100, 111, 99]⟩, ⟨t.toArray⟩⟩ : Fd)]) := by (rw [mapA_app, mapA_one]; first | exact hzs | (subst_vars; rfl))
   obtain rfl : z = nI (k + 1) := by ((try simp only [vn] at *) <;> omega)
   exact roundV ⟨(k + 1, L ++ [⟨⟨#[100, 111, 99]⟩, ⟨t.toArray⟩⟩]), hkl, hnx.symm⟩ (lft_lt (by ((try simp only [vn] at *) <;> omega)))
  have hke : k = docs.length := by ((try simp only [vn] at *) <;> omega)
  have hL2 : L = B ++ docs.map docF := by rw [hL, hke, List.take_length]
  have hLl : L.length ≤ 30 := by rw [hL2, hB]; simp [recB]; omega
  clear hL hke hk
  have hl2 := mapA_len AV.str boxes
  refine xloopV [1] (fun q : { q : Nat × List Fd // q.1 ≤ boxes.length ∧ q.2 = L ++ (boxes.take q.1).map boxF } => [(74, .i (nI q.1.1)), (3, .hd 1)]) (fun q => [.blk 31 [.str frm, .str to, .i number, .i kind, .i ack, .str deal, .str text, .str party, .i index, .i day, .str cur, .i amt, .sl 4 (mapA DcA docs), .sl 1 (mapA .str boxes)], .row 24 2 (mapA FdA q.1.2)]) (fun q => lft 33 q.1.1) ⟨(0, L), Nat.zero_le _, by simp⟩ ?_
  rintro ⟨⟨k, M⟩, hk, hM⟩
  dsimp only at hk hM ⊢
  cbv; repeat' ((first | refine .mk (fun h => ?_) fun h => ?_ | fail) <;> cbv)
  ·refine askEl_int (by ((try simp only [vn] at *) <;> omega)) (by ((try simp only [vn] at *) <;> omega)) fun i x hi hx => ?_
   obtain rfl : k = i := by ((try simp only [vn] at *) <;> omega)
   have hkl : k < boxes.length := (List.getElem?_eq_some_iff.1 hx).1
   have hnx : L ++ (boxes.take (k + 1)).map boxF = M ++ [⟨⟨#[98, 111, 120]⟩, x⟩] := by rw [hM, List.take_add_one, hx]; simp [boxF]
   clear hx
   have hMl : M.length ≤ 70 := by rw [hM]; simp; omega
   have hMl2 := mapA_len FdA M
   cbv; repeat' ((first | refine .k fun z hz => ?_ | refine .zl fun zs hzs hzl => ?_ | fail) <;> cbv)
   obtain rfl : zs = mapA FdA (M ++ [(⟨⟨#[98, 111, 120]⟩, x⟩ : Fd)]) := by (rw [mapA_app, mapA_one]; first | exact hzs | (subst_vars; rfl))
   obtain rfl : z = nI (k + 1) := by ((try simp only [vn] at *) <;> omega)
   exact roundV ⟨(k + 1, M ++ [⟨⟨#[98, 111, 120]⟩, x⟩]), hkl, hnx.symm⟩ (lft_lt (by ((try simp only [vn] at *) <;> omega)))
  have hke : k = boxes.length := by ((try simp only [vn] at *) <;> omega)
  have hM2 : M = recB frm to i1 kn i2 deal text party i3 i4 mo ++ docs.map docF ++ boxes.map boxF := by rw [hM, hke, List.take_length, hL2, hB]
  rw [← hM2] at hK1
  refine FinK.mk ⟨_, Gh.plain 1 rfl, ?_⟩
  cbv
  exact .inl (CutK.val rfl (Le.refl _) hK1)
end Go.Proofs.YtblkcnmecfppnaaGreatDoor
/-
  Functions of the program as code on abstract values (printed by xgen.sh).
-/
namespace Go.Proofs.YtblkcnmecfppnaaGreatDoor
def x71 : XFn := ⟨125, .seq (.reg [(zs 4 (.mov (.c (.str ⟨#[]⟩))))]) (.seq (.seq (.reg [(zm 11 1)]) (.block 0 (.seq (.reg [(zs 13 (.cmp .eql (.t 11) (.c (.int .i64 0)))), (zm 12 13)]) (.cond (.t 12) (.seq (.reg [(zs 4 (.mov (.c (.str ⟨#[]⟩))))]) .ret) (.seq (.reg [(zs 15 (.cmp .eql (.t 11) (.c (.int .i64 1)))), (zm 14 15)]) (.cond (.t 14) (.seq (.reg [(zm 16 0), (zm 4 16)]) .ret) .skip)))))) (.seq (.seq (.reg [(zm 17 1), (zs 18 (.cmp .lss (.t 17) (.c (.int .i64 0))))]) (.cond (.t 18) (.reg [(zs 19 (.bad)), (zn (.bad))]) .skip)) (.seq (.reg [(zm 21 0), (zs 22 (.lens (.t 21))), (zs 23 (.cvi .u64 (.t 22))), (zm 24 1), (zs 25 (.cvi .u64 (.t 24))), (zs 26 (.call 90 [.t 23, .t 25])), (zm 20 26), (zs 27 (.ext (.t 20) 0)), (zs 28 (.ext (.t 20) 1)), (zm 5 27), (zm 6 28)]) (.seq (.seq (.reg [(zm 29 5), (zs 30 (.cmp .gtr (.t 29) (.c (.int .u64 0)))), (zm 31 30), (zh 32 31 false 6), (zg 33 31 false (.cmp .gtr (.t 32) (.c (.int .u64 9223372036854775807)))), (zs 34 (.pick (.t 31) (.c (.bl true)) (.t 33)))]) (.cond (.t 34) (.reg [(zs 35 (.bad)), (zn (.bad))]) .skip)) (.seq (.reg [(zm 36 6), (zs 37 (.cvi .i64 (.t 36))), (zm 7 37)]) (.seq (.seq (.reg [(zm 38 0), (zs 39 (.lens (.t 38))), (zs 40 (.cmp .eql (.t 39) (.c (.int .i64 0))))]) (.cond (.t 40) (.seq (.reg [(zs 4 (.mov (.c (.str ⟨#[]⟩))))]) .ret) .skip)) (.seq (.seq (.reg [(zm 41 0), (zs 42 (.idx (.t 41) (.c (.int .i64 0))))]) (.block 1 (.seq (.seq (.reg [(zs 44 (.cmp .eql (.t 42) (.c (.int .u8 32)))), (zm 43 44)]) (.cond (.t 43) .skip (.seq (.reg [(zs 45 (.cmp .eql (.t 42) (.c (.int .u8 45)))), (zm 43 45)]) (.cond (.t 43) .skip (.seq (.reg [(zs 46 (.cmp .eql (.t 42) (.c (.int .u8 48)))), (zm 43 46)]) (.cond (.t 43) .skip (.seq (.reg [(zs 47 (.cmp .eql (.t 42) (.c (.int .u8 61)))), (zm 43 47)]) (.cond (.t 43) .skip (.reg [(zs 48 (.cmp .eql (.t 42) (.c (.int .u8 9)))), (zm 43 48)]))))))))) (.cond (.t 43) (.block 2 (.seq (.reg [(zm 50 7), (zs 51 (.cmp .leq (.t 50) (.c (.int .i64 128)))), (zm 52 51), (zh 53 52 true 0), (zg 54 52 true (.call 91 [.c (.str ⟨#[32, 32, 32, 32, 32, 32, 32, 32, 32, 32, 32, 32, 32, 32, 32, 32, 32, 32, 32, 32, 32, 32, 32, 32, 32, 32, 32, 32, 32, 32, 32, 32, 32, 32, 32, 32, 32, 32, 32, 32, 32, 32, 32, 32, 32, 32, 32, 32, 32, 32, 32, 32, 32, 32, 32, 32, 32, 32, 32, 32, 32, 32, 32, 32, 32, 32, 32, 32, 32, 32, 32, 32, 32, 32, 32, 32, 32, 32, 32, 32, 32, 32, 32, 32, 32, 32, 32, 32, 32, 32, 32, 32, 32, 32, 32, 32, 32, 32, 32, 32, 32, 32, 32, 32, 32, 32, 32, 32, 32, 32, 32, 32, 32, 32, 32, 32, 32, 32, 32, 32, 32, 32, 32, 32, 32, 32, 32, 32]⟩), .t 53])), (zs 55 (.pick (.t 52) (.t 54) (.c (.bl false)))), (zm 49 55)]) (.cond (.t 49) (.seq (.reg [(zm 56 7), (zs 57 (.sls (.c (.str ⟨#[32, 32, 32, 32, 32, 32, 32, 32, 32, 32, 32, 32, 32, 32, 32, 32, 32, 32, 32, 32, 32, 32, 32, 32, 32, 32, 32, 32, 32, 32, 32, 32, 32, 32, 32, 32, 32, 32, 32, 32, 32, 32, 32, 32, 32, 32, 32, 32, 32, 32, 32, 32, 32, 32, 32, 32, 32, 32, 32, 32, 32, 32, 32, 32, 32, 32, 32, 32, 32, 32, 32, 32, 32, 32, 32, 32, 32, 32, 32, 32, 32, 32, 32, 32, 32, 32, 32, 32, 32, 32, 32, 32, 32, 32, 32, 32, 32, 32, 32, 32, 32, 32, 32, 32, 32, 32, 32, 32, 32, 32, 32, 32, 32, 32, 32, 32, 32, 32, 32, 32, 32, 32, 32, 32, 32, 32, 32, 32]⟩)) none (some (.t 56)))), (zm 4 57)]) .ret) (.seq (.reg [(zm 59 7), (zs 60 (.cmp .leq (.t 59) (.c (.int .i64 128)))), (zm 61 60), (zh 62 61 true 0), (zg 63 61 true (.call 91 [.c (.str ⟨#[45, 45, 45, 45, 45, 45, 45, 45, 45, 45, 45, 45, 45, 45, 45, 45, 45, 45, 45, 45, 45, 45, 45, 45, 45, 45, 45, 45, 45, 45, 45, 45, 45, 45, 45, 45, 45, 45, 45, 45, 45, 45, 45, 45, 45, 45, 45, 45, 45, 45, 45, 45, 45, 45, 45, 45, 45, 45, 45, 45, 45, 45, 45, 45, 45, 45, 45, 45, 45, 45, 45, 45, 45, 45, 45, 45, 45, 45, 45, 45, 45, 45, 45, 45, 45, 45, 45, 45, 45, 45, 45, 45, 45, 45, 45, 45, 45, 45, 45, 45, 45, 45, 45, 45, 45, 45, 45, 45, 45, 45, 45, 45, 45, 45, 45, 45, 45, 45, 45, 45, 45, 45, 45, 45, 45, 45, 45, 45]⟩), .t 62])), (zs 64 (.pick (.t 61) (.t 63) (.c (.bl false)))), (zm 58 64)]) (.cond (.t 58) (.seq (.reg [(zm 65 7), (zs 66 (.sls (.c (.str ⟨#[45, 45, 45, 45, 45, 45, 45, 45, 45, 45, 45, 45, 45, 45, 45, 45, 45, 45, 45, 45, 45, 45, 45, 45, 45, 45, 45, 45, 45, 45, 45, 45, 45, 45, 45, 45, 45, 45, 45, 45, 45, 45, 45, 45, 45, 45, 45, 45, 45, 45, 45, 45, 45, 45, 45, 45, 45, 45, 45, 45, 45, 45, 45, 45, 45, 45, 45, 45, 45, 45, 45, 45, 45, 45, 45, 45, 45, 45, 45, 45, 45, 45, 45, 45, 45, 45, 45, 45, 45, 45, 45, 45, 45, 45, 45, 45, 45, 45, 45, 45, 45, 45, 45, 45, 45, 45, 45, 45, 45, 45, 45, 45, 45, 45, 45, 45, 45, 45, 45, 45, 45, 45, 45, 45, 45, 45, 45, 45]⟩)) none (some (.t 65)))), (zm 4 66)]) .ret) (.seq (.reg [(zm 68 7), (zs 69 (.cmp .leq (.t 68) (.c (.int .i64 64)))), (zm 70 69), (zh 71 70 true 0), (zg 72 70 true (.call 91 [.c (.str ⟨#[48, 48, 48, 48, 48, 48, 48, 48, 48, 48, 48, 48, 48, 48, 48, 48, 48, 48, 48, 48, 48, 48, 48, 48, 48, 48, 48, 48, 48, 48, 48, 48, 48, 48, 48, 48, 48, 48, 48, 48, 48, 48, 48, 48, 48, 48, 48, 48, 48, 48, 48, 48, 48, 48, 48, 48, 48, 48, 48, 48, 48, 48, 48, 48]⟩), .t 71])), (zs 73 (.pick (.t 70) (.t 72) (.c (.bl false)))), (zm 67 73)]) (.cond (.t 67) (.seq (.reg [(zm 74 7), (zs 75 (.sls (.c (.str ⟨#[48, 48, 48, 48, 48, 48, 48, 48, 48, 48, 48, 48, 48, 48, 48, 48, 48, 48, 48, 48, 48, 48, 48, 48, 48, 48, 48, 48, 48, 48, 48, 48, 48, 48, 48, 48, 48, 48, 48, 48, 48, 48, 48, 48, 48, 48, 48, 48, 48, 48, 48, 48, 48, 48, 48, 48, 48, 48, 48, 48, 48, 48, 48, 48]⟩)) none (some (.t 74)))), (zm 4 75)]) .ret) (.seq (.reg [(zm 77 7), (zs 78 (.cmp .leq (.t 77) (.c (.int .i64 128)))), (zm 79 78), (zh 80 79 true 0), (zg 81 79 true (.call 91 [.c (.str ⟨#[61, 61, 61, 61, 61, 61, 61, 61, 61, 61, 61, 61, 61, 61, 61, 61, 61, 61, 61, 61, 61, 61, 61, 61, 61, 61, 61, 61, 61, 61, 61, 61, 61, 61, 61, 61, 61, 61, 61, 61, 61, 61, 61, 61, 61, 61, 61, 61, 61, 61, 61, 61, 61, 61, 61, 61, 61, 61, 61, 61, 61, 61, 61, 61, 61, 61, 61, 61, 61, 61, 61, 61, 61, 61, 61, 61, 61, 61, 61, 61, 61, 61, 61, 61, 61, 61, 61, 61, 61, 61, 61, 61, 61, 61, 61, 61, 61, 61, 61, 61, 61, 61, 61, 61, 61, 61, 61, 61, 61, 61, 61, 61, 61, 61, 61, 61, 61, 61, 61, 61, 61, 61, 61, 61, 61, 61, 61, 61]⟩), .t 80])), (zs 82 (.pick (.t 79) (.t 81) (.c (.bl false)))), (zm 76 82)]) (.cond (.t 76) (.seq (.reg [(zm 83 7), (zs 84 (.sls (.c (.str ⟨#[61, 61, 61, 61, 61, 61, 61, 61, 61, 61, 61, 61, 61, 61, 61, 61, 61, 61, 61, 61, 61, 61, 61, 61, 61, 61, 61, 61, 61, 61, 61, 61, 61, 61, 61, 61, 61, 61, 61, 61, 61, 61, 61, 61, 61, 61, 61, 61, 61, 61, 61, 61, 61, 61, 61, 61, 61, 61, 61, 61, 61, 61, 61, 61, 61, 61, 61, 61, 61, 61, 61, 61, 61, 61, 61, 61, 61, 61, 61, 61, 61, 61, 61, 61, 61, 61, 61, 61, 61, 61, 61, 61, 61, 61, 61, 61, 61, 61, 61, 61, 61, 61, 61, 61, 61, 61, 61, 61, 61, 61, 61, 61, 61, 61, 61, 61, 61, 61, 61, 61, 61, 61, 61, 61, 61, 61, 61, 61]⟩)) none (some (.t 83)))), (zm 4 84)]) .ret) (.seq (.reg [(zm 86 7), (zs 87 (.cmp .leq (.t 86) (.c (.int .i64 64)))), (zm 88 87), (zh 89 88 true 0), (zg 90 88 true (.call 91 [.c (.str ⟨#[9, 9, 9, 9, 9, 9, 9, 9, 9, 9, 9, 9, 9, 9, 9, 9, 9, 9, 9, 9, 9, 9, 9, 9, 9, 9, 9, 9, 9, 9, 9, 9, 9, 9, 9, 9, 9, 9, 9, 9, 9, 9, 9, 9, 9, 9, 9, 9, 9, 9, 9, 9, 9, 9, 9, 9, 9, 9, 9, 9, 9, 9, 9, 9]⟩), .t 89])), (zs 91 (.pick (.t 88) (.t 90) (.c (.bl false)))), (zm 85 91)]) (.cond (.t 85) (.seq (.reg [(zm 92 7), (zs 93 (.sls (.c (.str ⟨#[9, 9, 9, 9, 9, 9, 9, 9, 9, 9, 9, 9, 9, 9, 9, 9, 9, 9, 9, 9, 9, 9, 9, 9, 9, 9, 9, 9, 9, 9, 9, 9, 9, 9, 9, 9, 9, 9, 9, 9, 9, 9, 9, 9, 9, 9, 9, 9, 9, 9, 9, 9, 9, 9, 9, 9, 9, 9, 9, 9, 9, 9, 9, 9]⟩)) none (some (.t 92)))), (zm 4 93)]) .ret) .skip))))))))))) .skip)))) (.seq (.reg [(zm 94 7), (zm 8 94)]) (.seq (.seq (.reg [(zm 95 7), (zs 96 (.cmp .gtr (.t 95) (.c (.int .i64 8192))))]) (.cond (.t 96) (.seq (.reg [(zm 97 0), (zs 98 (.lens (.t 97))), (zs 99 (.ari .quo .i64 (.c (.int .i64 8192)) (.t 98))), (zm 100 0), (zs 101 (.lens (.t 100))), (zs 102 (.ari .mul .i64 (.t 99) (.t 101))), (zm 8 102)]) (.seq (.reg [(zm 103 8), (zs 104 (.cmp .eql (.t 103) (.c (.int .i64 0))))]) (.cond (.t 104) (.reg [(zm 105 0), (zs 106 (.lens (.t 105))), (zm 8 106)]) .skip))) .skip)) (.seq (.reg [(zs 9 (.alloc 104 [.v (.pointer none), .v (.slice none 0 0)]))]) (.seq (.reg [(zm 107 7), (zs 108 (.call 92 [.t 9, .t 107]))]) (.seq (.reg [(zm 109 0), (zs 110 (.call 73 [.t 9, .t 109]))]) (.seq (.block 3 (.loop (.seq (.seq (.reg [(zs 111 (.call 93 [.t 9])), (zm 112 7), (zs 113 (.cmp .lss (.t 111) (.t 112)))]) (.cond (.t 113) .skip (.exit 3))) (.block 4 (.seq (.reg [(zm 114 7), (zs 115 (.call 93 [.t 9])), (zs 116 (.ari .sub .i64 (.t 114) (.t 115))), (zs 117 (.call 93 [.t 9])), (zm 118 8), (zs 119 (.bad)), (zm 10 119)]) (.reg [(zs 120 (.call 75 [.t 9])), (zm 121 10), (zs 122 (.sls (.t 120) none (some (.t 121)))), (zs 123 (.call 73 [.t 9, .t 122]))])))))) (.seq (.reg [(zs 124 (.call 75 [.t 9])), (zm 4 124)]) .ret)))))))))))))), [.tmp 4]⟩
def x81 : XFn := ⟨13, .seq (.reg [(zs 4 (.mov (.c (.str ⟨#[]⟩)))), (zs 5 (.mov (.c (.str ⟨#[]⟩)))), (zs 6 (.mov (.c (.bl false))))]) (.seq (.reg [(zm 7 0), (zm 8 1), (zs 9 (.call 96 [.t 7, .t 8])), (zs 10 (.ext (.t 9) 0)), (zs 11 (.ext (.t 9) 1)), (zs 12 (.ext (.t 9) 2)), (zm 4 10), (zm 5 11), (zm 6 12)]) .ret), [.tmp 4, .tmp 5, .tmp 6]⟩
def x90 : XFn := ⟨30, .seq (.reg [(zs 4 (.mov (.c (.int .u64 0)))), (zs 5 (.mov (.c (.int .u64 0))))]) (.seq (.cond (.c (.bl false)) (.seq (.reg [(zm 11 0), (zs 12 (.cvi .u32 (.t 11))), (zm 13 1), (zs 14 (.cvi .u32 (.t 13))), (zs 15 (.call 103 [.t 12, .t 14])), (zm 10 15), (zs 16 (.ext (.t 10) 0)), (zs 17 (.ext (.t 10) 1)), (zm 6 16), (zm 7 17)]) (.seq (.reg [(zm 18 6), (zs 19 (.cvi .u64 (.t 18))), (zm 20 7), (zs 21 (.cvi .u64 (.t 20))), (zm 4 19), (zm 5 21)]) .ret)) .skip) (.seq (.reg [(zm 23 0), (zm 24 1), (zs 25 (.call 104 [.t 23, .t 24])), (zm 22 25), (zs 26 (.ext (.t 22) 0)), (zs 27 (.ext (.t 22) 1)), (zm 8 26), (zm 9 27)]) (.seq (.reg [(zm 28 8), (zm 29 9), (zm 4 28), (zm 5 29)]) .ret))), [.tmp 4, .tmp 5]⟩
def x91 : XFn := ⟨8, .seq (.reg [(zs 4 (.mov (.c (.bl false))))]) (.seq (.reg [(zm 5 0), (zm 6 1), (zs 7 (.call 105 [.t 5, .t 6])), (zm 4 7)]) .ret), [.tmp 4]⟩
def x96 : XFn := ⟨23, .seq (.reg [(zs 4 (.mov (.c (.str ⟨#[]⟩)))), (zs 5 (.mov (.c (.str ⟨#[]⟩)))), (zs 6 (.mov (.c (.bl false))))]) (.seq (.seq (.reg [(zm 8 0), (zm 9 1), (zs 10 (.call 109 [.t 8, .t 9])), (zm 7 10)]) (.seq (.reg [(zm 11 7), (zs 12 (.cmp .geq (.t 11) (.c (.int .i64 0))))]) (.cond (.t 12) (.seq (.dreg (.take 0 (zm 13 0) (.take 1 (zm 14 7) (.take 2 (zs 15 (.sls (.t 13) none (some (.t 14)))) (.take 3 (zm 16 0) (.take 4 (zm 17 7) (.take 5 (zm 18 1) (.take 6 (zs 19 (.lens (.t 18))) (.take 7 (zs 20 (.ari .add .i64 (.t 17) (.t 19))) (.take 8 (zs 21 (.sls (.t 16) (some (.t 20)) none)) (.take 9 (zm 4 15) (.take 10 (zm 5 21) (.take 11 (zs 6 (.mov (.c (.bl true)))) .nil)))))))))))) 0 [1]) .ret) .skip))) (.seq (.reg [(zm 22 0), (zm 4 22), (zs 5 (.mov (.c (.str ⟨#[]⟩)))), (zs 6 (.mov (.c (.bl false))))]) .ret)), [.tmp 4, .tmp 5, .tmp 6]⟩
def x104 : XFn := ⟨51, .seq (.reg [(zs 4 (.mov (.c (.int .u64 0)))), (zs 5 (.mov (.c (.int .u64 0))))]) (.seq (.reg [(zm 14 0), (zs 15 (.ari .and .u64 (.t 14) (.c (.int .u64 4294967295)))), (zm 6 15)]) (.seq (.reg [(zm 16 0), (zs 17 (.shf .shr .u64 (.t 16) (.c (.int .u64 32)))), (zm 7 17)]) (.seq (.reg [(zm 18 1), (zs 19 (.ari .and .u64 (.t 18) (.c (.int .u64 4294967295)))), (zm 8 19)]) (.seq (.reg [(zm 20 1), (zs 21 (.shf .shr .u64 (.t 20) (.c (.int .u64 32)))), (zm 9 21)]) (.seq (.reg [(zm 22 6), (zm 23 8), (zs 24 (.ari .mul .u64 (.t 22) (.t 23))), (zm 10 24)]) (.seq (.reg [(zm 25 7), (zm 26 8), (zs 27 (.ari .mul .u64 (.t 25) (.t 26))), (zm 28 10), (zs 29 (.shf .shr .u64 (.t 28) (.c (.int .u64 32)))), (zs 30 (.ari .add .u64 (.t 27) (.t 29))), (zm 11 30)]) (.seq (.reg [(zm 31 11), (zs 32 (.ari .and .u64 (.t 31) (.c (.int .u64 4294967295)))), (zm 12 32)]) (.seq (.reg [(zm 33 11), (zs 34 (.shf .shr .u64 (.t 33) (.c (.int .u64 32)))), (zm 13 34)]) (.seq (.reg [(zm 35 12), (zm 36 6), (zm 37 9), (zs 38 (.ari .mul .u64 (.t 36) (.t 37))), (zs 39 (.ari .add .u64 (.t 35) (.t 38))), (zm 12 39)]) (.seq (.reg [(zm 40 7), (zm 41 9), (zs 42 (.ari .mul .u64 (.t 40) (.t 41))), (zm 43 13), (zs 44 (.ari .add .u64 (.t 42) (.t 43))), (zm 45 12), (zs 46 (.shf .shr .u64 (.t 45) (.c (.int .u64 32)))), (zs 47 (.ari .add .u64 (.t 44) (.t 46))), (zm 4 47)]) (.seq (.reg [(zm 48 0), (zm 49 1), (zs 50 (.ari .mul .u64 (.t 48) (.t 49))), (zm 5 50)]) .ret))))))))))), [.tmp 4, .tmp 5]⟩
def x105 : XFn := ⟨18, .seq (.reg [(zs 4 (.mov (.c (.bl false))))]) (.seq (.reg [(zm 5 0), (zs 6 (.lens (.t 5))), (zm 7 1), (zs 8 (.lens (.t 7))), (zs 9 (.cmp .geq (.t 6) (.t 8))), (zm 10 9), (zh 11 10 true 0), (zh 12 10 true 1), (zg 13 10 true (.lens (.t 12))), (zg 14 10 true (.sls (.t 11) none (some (.t 13)))), (zh 15 10 true 1), (zg 16 10 true (.cmp .eql (.t 14) (.t 15))), (zs 17 (.pick (.t 10) (.t 16) (.c (.bl false)))), (zm 4 17)]) .ret), [.tmp 4]⟩
end Go.Proofs.YtblkcnmecfppnaaGreatDoor
/-
 strings.Repeat of the sign 0, up to four times.
-/
namespace Go.Proofs.YtblkcnmecfppnaaGreatDoor
open Go.RowKit
set_option maxHeartbeats 4000000
set_option maxRecDepth 100000
def two4 (k : Nat) : Prop := k = 2 ∨ k = 3 ∨ k = 4
def MulC : Ctr := spec (fun k : Nat => [.int .u64 1, .int .u64 (Int.ofNat k)]) (fun _ => []) two4 (fun k => .tup [.int .u64 0, .int .u64 (Int.ofNat k)]) fun _ => []
theorem mul64_body (P : Program) : BodyOk P x104 MulC := by
 intro args H K hc
 obtain ⟨k, rfl, rfl, hp, hK⟩ := hc
 refine ⟨Nat.le_of_ble_eq_true rfl, ?_⟩
 dsimp only at hK ⊢
 rcases hp with rfl | rfl | rfl
 all_goals
  cbv
  repeat' ((first | (refine ⟨rfl, ?_⟩) | (refine BitK.k fun z hz => ?_; simp [IntKind.wrap, IntKind.bits, IntKind.signed] at hz; subst hz) | (refine ⟨by decide, fun z hz => ?_⟩; simp at hz; subst hz) | first | refine .k fun z hz => ?_ | fail) <;> cbv)
 all_goals
  subst_vars
  exact FinK.mk ⟨_, Gh.refl _, .inl (CutK.val rfl (Le.refl _) (K_of hK (by kernel_rfl)))⟩
theorem mul_body (P : Program) (h : FnOk P 104 MulC) : BodyOk P x90 MulC := by
 intro args H K hc
 obtain ⟨k, rfl, rfl, hp, hK⟩ := hc
 refine ⟨Nat.le_of_ble_eq_true rfl, ?_⟩
 dsimp only at hK ⊢
 cbv
 (refine callG_spec0 h k hp rfl rfl rfl ?_; try dsimp only)
 cbv
 exact FinK.mk ⟨_, Gh.refl _, .inl (CutK.val rfl (Le.refl _) hK)⟩
/-- Does a text begin with another one? -/
def hasB (s p : ByteArray) : Bool := decide (p.size ≤ s.size) && decide (s.extract 0 p.size = p)
def HasC : Ctr := spec (fun c : ByteArray × ByteArray => [.str c.1, .str c.2]) (fun _ => []) (fun _ => True) (fun c => .bl (hasB c.1 c.2)) fun _ => []
theorem hasIn_body (P : Program) : BodyOk P x105 HasC := by
 intro args H K hc
 obtain ⟨⟨s, p⟩, rfl, rfl, _, hK⟩ := hc
 refine ⟨Nat.le_of_ble_eq_true rfl, ?_⟩
 unfold hasB at hK
 dsimp only at hK ⊢
 cbv; repeat' ((first | refine .mk (fun h => ?_) fun h => ?_ | refine .k fun z hz => ?_ | refine .u fun u hu hul => ?_ | fail) <;> cbv)
 ·refine FinK.mk ⟨_, Gh.refl _, .inl (CutK.val rfl (Le.refl _) (K_bl hK ?_))⟩
  have hu' : u = s.extract 0 p.size := by rw [hu, hz]; rfl
  rw [decide_eq_true (by ((try simp only [vn] at *) <;> omega)), decide_eq_true (by rw [← hu', h]), Bool.and_self]
 ·refine FinK.mk ⟨_, Gh.refl _, .inl (CutK.val rfl (Le.refl _) (K_bl hK ?_))⟩
  have hu' : u = s.extract 0 p.size := by rw [hu, hz]; rfl
  rw [← hu', decide_eq_false h, Bool.and_false]
 ·exact FinK.mk ⟨_, Gh.refl _, .inl (CutK.val rfl (Le.refl _) (K_bl hK (by (rw [decide_eq_false (by ((try simp only [vn] at *) <;> omega)), Bool.false_and]))))⟩
theorem has_body (P : Program) (h : FnOk P 105 HasC) : BodyOk P x91 HasC := by
 intro args H K hc
 obtain ⟨⟨s, p⟩, rfl, rfl, _, hK⟩ := hc
 refine ⟨Nat.le_of_ble_eq_true rfl, ?_⟩
 dsimp only at hK ⊢
 obtain ⟨b, hb⟩ : ∃ b, b = hasB s p := ⟨_, rfl⟩
 rw [← hb] at hK
 cbv
 refine callG_spec0 h (s, p) trivial rfl rfl rfl ?_
 rw [← hb]
 cbv
 exact FinK.mk ⟨_, Gh.refl _, .inl (CutK.val rfl (Le.refl _) hK)⟩
def rep0 (k : Nat) : ByteArray := ⟨(List.replicate k 48).toArray⟩
def RepC : Ctr := spec (fun k : Nat => [.str ⟨#[48]⟩, .i (Int.ofNat k)]) (fun _ => []) (fun k => k = 1 ∨ two4 k) (fun k => .str (rep0 k)) fun _ => []
theorem repeat_body (P : Program) (hM : FnOk P 90 MulC) (hH : FnOk P 91 HasC) : BodyOk P x71 RepC := by
 intro args H K hc
 obtain ⟨k, rfl, rfl, hp, hK⟩ := hc
 refine ⟨Nat.le_of_ble_eq_true rfl, ?_⟩
 dsimp only at hK ⊢
 rcases hp with rfl | hp
 ·cbv; repeat' ((first | refine .n fun h => ?_ | refine .y fun h => ?_ | fail) <;> cbv)
  exact FinK.mk ⟨_, Gh.refl _, .inl (CutK.val rfl (Le.refl _) (K_of hK rfl))⟩
 rcases hp with rfl | rfl | rfl
 ·cbv; repeat' ((first | refine .n fun h => ?_ | refine .k fun z hz => ?_ | fail) <;> cbv)
  subst_vars
  refine callG_spec0 hM 2 (.inl rfl) rfl rfl rfl ?_
  cbv; repeat' ((first | refine .n fun h => ?_ | refine .mk (fun h => ?_) fun h => ?_ | refine .k fun z hz => ?_ | refine .o ?_ | fail) <;> cbv)
  ·exfalso; subst hz; cases h
  refine askByte_nI (i := 0) (by decide) fun y hy => ?_
  obtain rfl : y = 48 := hy.trans rfl
  cbv; repeat' ((first | refine .n fun h => ?_ | refine .y fun h => ?_ | fail) <;> cbv)
  all_goals try (exfalso; omega)
  refine callG_spec0 hH (_, _) trivial (by rfl) (by rfl) (by rfl) ?_
  rw [show hasB _ _ = false from by decide +kernel]
  cbv; repeat' ((first | refine .y fun h => ?_ | fail) <;> cbv)
  refine callG_spec0 hH (_, _) trivial (by rfl) (by rfl) (by rfl) ?_
  rw [show hasB _ _ = false from by decide +kernel]
  cbv; repeat' ((first | refine .y fun h => ?_ | fail) <;> cbv)
  all_goals try (exfalso; omega)
  refine callG_spec0 hH (_, _) trivial (by rfl) (by rfl) (by rfl) ?_
  rw [show hasB _ _ = true from by decide +kernel]
  cbv
  refine ⟨by decide +kernel, fun u hu => ?_⟩
  cbv
  exact FinK.mk ⟨_, Gh.refl _, .inl (CutK.val rfl (Le.refl _) (K_of hK (by rw [hu]; rfl)))⟩
 ·cbv; repeat' ((first | refine .n fun h => ?_ | refine .k fun z hz => ?_ | fail) <;> cbv)
  subst_vars
  refine callG_spec0 hM 3 (.inr (.inl rfl)) rfl rfl rfl ?_
  cbv; repeat' ((first | refine .n fun h => ?_ | refine .mk (fun h => ?_) fun h => ?_ | refine .k fun z hz => ?_ | refine .o ?_ | fail) <;> cbv)
  ·exfalso; subst hz; cases h
  refine askByte_nI (i := 0) (by decide) fun y hy => ?_
  obtain rfl : y = 48 := hy.trans rfl
  cbv; repeat' ((first | refine .n fun h => ?_ | refine .y fun h => ?_ | fail) <;> cbv)
  all_goals try (exfalso; omega)
  refine callG_spec0 hH (_, _) trivial (by rfl) (by rfl) (by rfl) ?_
  rw [show hasB _ _ = false from by decide +kernel]
  cbv; repeat' ((first | refine .y fun h => ?_ | fail) <;> cbv)
  refine callG_spec0 hH (_, _) trivial (by rfl) (by rfl) (by rfl) ?_
  rw [show hasB _ _ = false from by decide +kernel]
  cbv; repeat' ((first | refine .y fun h => ?_ | fail) <;> cbv)
  all_goals try (exfalso; omega)
  refine callG_spec0 hH (_, _) trivial (by rfl) (by rfl) (by rfl) ?_
  rw [show hasB _ _ = true from by decide +kernel]
  cbv
  refine ⟨by decide +kernel, fun u hu => ?_⟩
  cbv
  exact FinK.mk ⟨_, Gh.refl _, .inl (CutK.val rfl (Le.refl _) (K_of hK (by rw [hu]; rfl)))⟩
 ·cbv; repeat' ((first | refine .n fun h => ?_ | refine .k fun z hz => ?_ | fail) <;> cbv)
  subst_vars
  refine callG_spec0 hM 4 (.inr (.inr rfl)) rfl rfl rfl ?_
  cbv; repeat' ((first | refine .n fun h => ?_ | refine .mk (fun h => ?_) fun h => ?_ | refine .k fun z hz => ?_ | refine .o ?_ | fail) <;> cbv)
  ·exfalso; subst hz; cases h
  refine askByte_nI (i := 0) (by decide) fun y hy => ?_
  obtain rfl : y = 48 := hy.trans rfl
  cbv; repeat' ((first | refine .n fun h => ?_ | refine .y fun h => ?_ | fail) <;> cbv)
  all_goals try (exfalso; omega)
  refine callG_spec0 hH (_, _) trivial (by rfl) (by rfl) (by rfl) ?_
  rw [show hasB _ _ = false from by decide +kernel]
  cbv; repeat' ((first | refine .y fun h => ?_ | fail) <;> cbv)
  refine callG_spec0 hH (_, _) trivial (by rfl) (by rfl) (by rfl) ?_
  rw [show hasB _ _ = false from by decide +kernel]
  cbv; repeat' ((first | refine .y fun h => ?_ | fail) <;> cbv)
  all_goals try (exfalso; omega)
  refine callG_spec0 hH (_, _) trivial (by rfl) (by rfl) (by rfl) ?_
  rw [show hasB _ _ = true from by decide +kernel]
  cbv
  refine ⟨by decide +kernel, fun u hu => ?_⟩
  cbv
  exact FinK.mk ⟨_, Gh.refl _, .inl (CutK.val rfl (Le.refl _) (K_of hK (by rw [hu]; rfl)))⟩
end Go.Proofs.YtblkcnmecfppnaaGreatDoor
