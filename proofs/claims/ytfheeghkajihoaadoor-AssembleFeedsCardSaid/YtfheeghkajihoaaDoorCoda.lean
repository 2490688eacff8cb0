/- The functions' bodies as the engine reads them; written by program out of the translation, checked by the kernel. -/
import Derived.Test.YtfheeghkajihoaaDoorProg
import Derived.Test.YtfheeghkajihoaaDoorLxL
import Derived.KernelRfl
namespace Go.Proofs.YtfheeghkajihoaaDoor
open Go Go.Lx
set_option maxRecDepth 100000
def v14 : Nat → Bool := fun t => [0, 1, 2, 3, 4, 5, 10, 16, 21, 45].contains t
def c14 : LCode :=
 .seq (.region [oT 1 (.box (.t 0)),
 oT 2 (.mov (.c (.bool false)))])
 (.seq (.region [oU 6 (.faddr 3 (.t 1)),
 oU 7 (.load false 1 (.u 6)),
 oU 8 (.lenL (.u 7)),
 oT 3 (.mov (.u 8))])
 (.seq (.seq (.region [oM 9 3,
 oT 10 (.bin .eql (.u 9) (.c (.int .i64 0)))])
 (.cond (.t 10)
 (.seq (.region [oT 2 (.mov (.c (.bool false)))])
 (.ret))
 (.skip)))
 (.seq (.seq (.region [oU 11 (.faddr 3 (.t 1)),
 oU 12 (.load false 1 (.u 11)),
 oU 13 (.iaS 4 (.u 12) (.c (.int .i64 0))),
 oU 14 (.faddr 0 (.u 13)),
 oU 15 (.load false 1 (.u 14)),
 oT 16 (.call 30 [(.u 15)])])
 (.cond (.t 16)
 (.seq (.region [oM 17 3,
 oU 18 (.bin .eql (.u 17) (.c (.int .i64 1))),
 oT 2 (.mov (.u 18))])
 (.ret))
 (.skip)))
 (.seq (.seq (.region [oT 4 (.mov (.c (.int .i64 0)))])
 (.block 0 (.loop (.seq (.seq (.region [oM 19 4,
 oM 20 3,
 oT 21 (.bin .lss (.u 19) (.u 20))])
 (.cond (.t 21)
 (.skip)
 (.exit 0)))
 (.seq (.block 1 (.seq (.region [oU 24 (.faddr 3 (.t 1)),
 oU 25 (.load false 1 (.u 24)),
 oM 26 4,
 oU 27 (.iaS 4 (.u 25) (.u 26)),
 oU 28 (.faddr 0 (.u 27)),
 oU 29 (.load false 1 (.u 28)),
 oT 5 (.mov (.u 29))])
 (.seq (.region [oM 30 5,
 oU 31 (.call 31 [(.u 30)]),
 oU 32 (.bin .eql (.u 31) (.c (.str []))),
 oU 33 (.mov (.u 32)),
 ⟨some 34, false, some ((.u 33), false), .mov (.t 5)⟩,
 ⟨some 35, false, some ((.u 33), false), .call 30 [(.u 34)]⟩,
 oU 36 (.pick (.u 33) (.c (.bool true)) (.u 35)),
 oU 37 (.mov (.u 36)),
 ⟨some 38, false, some ((.u 37), false), .mov (.t 5)⟩,
 ⟨some 39, false, some ((.u 37), false), .bin .eql (.u 38) (.c (.int .i64 1320))⟩,
 ⟨some 40, false, some ((.u 37), false), .mov (.t 4)⟩,
 ⟨some 41, false, some ((.u 37), false), .mov (.t 3)⟩,
 ⟨some 42, false, some ((.u 37), false), .bin .sub (.u 41) (.c (.int .i64 1))⟩,
 ⟨some 43, false, some ((.u 37), false), .bin .eql (.u 40) (.u 42)⟩,
 ⟨some 44, false, some ((.u 37), false), .eqB true (.u 39) (.u 43)⟩,
 oT 45 (.pick (.u 37) (.c (.bool true)) (.u 44))])
 (.cond (.t 45)
 (.seq (.region [oT 2 (.mov (.c (.bool false)))])
 (.ret))
 (.skip)))))
 (.region [oM 22 4,
 oU 23 (.bin .add (.u 22) (.c (.int .i64 1))),
 oT 4 (.mov (.u 23))]))))))
 (.seq (.region [oT 2 (.mov (.c (.bool true)))])
 (.ret))))))
def r14 : List LRes := [.slot 2]
theorem t14 : (Tryd.f14.body.bind (trCode v14 Tryd.prog Tryd.f14.ntmps)) = some c14 ∧ trRes v14 Tryd.prog Tryd.f14.results.toList = some r14 := ⟨by kernel_rfl, by kernel_rfl⟩

def v19 : Nat → Bool := fun t => [0, 1, 2, 3, 4, 5, 6, 58, 63, 76, 81, 94].contains t
def c19 : LCode :=
 .seq (.region [oT 2 (.box (.t 0)),
 oT 3 (.box (.t 1)),
 oT 4 (.mov (.c (.bool false)))])
 (.seq (.seq (.region [oU 7 (.faddr 0 (.t 2)),
 oU 8 (.load false 1 (.u 7)),
 oU 9 (.faddr 0 (.t 3)),
 oU 10 (.load false 1 (.u 9)),
 oU 11 (.bin .neq (.u 8) (.u 10)),
 oU 12 (.mov (.u 11)),
 ⟨some 13, false, some ((.u 12), false), .faddr 1 (.t 2)⟩,
 ⟨some 14, false, some ((.u 12), false), .load false 1 (.u 13)⟩,
 ⟨some 15, false, some ((.u 12), false), .faddr 1 (.t 3)⟩,
 ⟨some 16, false, some ((.u 12), false), .load false 1 (.u 15)⟩,
 ⟨some 17, false, some ((.u 12), false), .bin .neq (.u 14) (.u 16)⟩,
 oU 18 (.pick (.u 12) (.c (.bool true)) (.u 17)),
 oU 19 (.mov (.u 18)),
 ⟨some 20, false, some ((.u 19), false), .faddr 2 (.t 2)⟩,
 ⟨some 21, false, some ((.u 19), false), .load false 1 (.u 20)⟩,
 ⟨some 22, false, some ((.u 19), false), .faddr 2 (.t 3)⟩,
 ⟨some 23, false, some ((.u 19), false), .load false 1 (.u 22)⟩,
 ⟨some 24, false, some ((.u 19), false), .bin .neq (.u 21) (.u 23)⟩,
 oU 25 (.pick (.u 19) (.c (.bool true)) (.u 24)),
 oU 26 (.mov (.u 25)),
 ⟨some 27, false, some ((.u 26), false), .faddr 6 (.t 2)⟩,
 ⟨some 28, false, some ((.u 26), false), .load false 1 (.u 27)⟩,
 ⟨some 29, false, some ((.u 26), false), .faddr 6 (.t 3)⟩,
 ⟨some 30, false, some ((.u 26), false), .load false 1 (.u 29)⟩,
 ⟨some 31, false, some ((.u 26), false), .bin .neq (.u 28) (.u 30)⟩,
 oU 32 (.pick (.u 26) (.c (.bool true)) (.u 31)),
 oU 33 (.mov (.u 32)),
 ⟨some 34, false, some ((.u 33), false), .faddr 3 (.t 2)⟩,
 ⟨some 35, false, some ((.u 33), false), .load false 1 (.u 34)⟩,
 ⟨some 36, false, some ((.u 33), false), .faddr 3 (.t 3)⟩,
 ⟨some 37, false, some ((.u 33), false), .load false 1 (.u 36)⟩,
 ⟨some 38, false, some ((.u 33), false), .call 20 [(.u 35), (.u 37)]⟩,
 ⟨some 39, false, some ((.u 33), false), .un .not (.u 38)⟩,
 oU 40 (.pick (.u 33) (.c (.bool true)) (.u 39)),
 oU 41 (.mov (.u 40)),
 ⟨some 42, false, some ((.u 41), false), .faddr 4 (.t 2)⟩,
 ⟨some 43, false, some ((.u 41), false), .load false 1 (.u 42)⟩,
 ⟨some 44, false, some ((.u 41), false), .lenL (.u 43)⟩,
 ⟨some 45, false, some ((.u 41), false), .faddr 4 (.t 3)⟩,
 ⟨some 46, false, some ((.u 41), false), .load false 1 (.u 45)⟩,
 ⟨some 47, false, some ((.u 41), false), .lenL (.u 46)⟩,
 ⟨some 48, false, some ((.u 41), false), .bin .neq (.u 44) (.u 47)⟩,
 oU 49 (.pick (.u 41) (.c (.bool true)) (.u 48)),
 oU 50 (.mov (.u 49)),
 ⟨some 51, false, some ((.u 50), false), .faddr 5 (.t 2)⟩,
 ⟨some 52, false, some ((.u 50), false), .load false 1 (.u 51)⟩,
 ⟨some 53, false, some ((.u 50), false), .lenL (.u 52)⟩,
 ⟨some 54, false, some ((.u 50), false), .faddr 5 (.t 3)⟩,
 ⟨some 55, false, some ((.u 50), false), .load false 1 (.u 54)⟩,
 ⟨some 56, false, some ((.u 50), false), .lenL (.u 55)⟩,
 ⟨some 57, false, some ((.u 50), false), .bin .neq (.u 53) (.u 56)⟩,
 oT 58 (.pick (.u 50) (.c (.bool true)) (.u 57))])
 (.cond (.t 58)
 (.seq (.region [oT 4 (.mov (.c (.bool false)))])
 (.ret))
 (.skip)))
 (.seq (.seq (.region [oT 5 (.mov (.c (.int .i64 0)))])
 (.block 0 (.loop (.seq (.seq (.region [oM 59 5,
 oU 60 (.faddr 4 (.t 2)),
 oU 61 (.load false 1 (.u 60)),
 oU 62 (.lenL (.u 61)),
 oT 63 (.bin .lss (.u 59) (.u 62))])
 (.cond (.t 63)
 (.skip)
 (.exit 0)))
 (.seq (.block 1 (.seq (.regionD [⟨0, [2], false, [], oU 66 (.faddr 4 (.t 2))⟩,
 ⟨1, [66], true, [], oU 67 (.load false 1 (.u 66))⟩,
 ⟨2, [5], false, [], oM 68 5⟩,
 ⟨3, [67, 68], false, [], oU 69 (.iaS 5 (.u 67) (.u 68))⟩,
 ⟨4, [69], true, [], oU 70 (.load true 5 (.u 69))⟩,
 ⟨5, [3], false, [], oU 71 (.faddr 4 (.t 3))⟩,
 ⟨6, [71], true, [], oU 72 (.load false 1 (.u 71))⟩,
 ⟨7, [5], false, [], oM 73 5⟩,
 ⟨8, [72, 73], false, [], oU 74 (.iaS 5 (.u 72) (.u 73))⟩,
 ⟨9, [74], true, [], oU 75 (.load true 5 (.u 74))⟩,
 ⟨10, [70, 75], false, [], oT 76 (.eqS true 5 [(0, 1), (1, 1), (2, 1), (3, 1), (4, 1)] (.u 70) (.u 75))⟩])
 (.cond (.t 76)
 (.seq (.region [oT 4 (.mov (.c (.bool false)))])
 (.ret))
 (.skip))))
 (.region [oM 64 5,
 oU 65 (.bin .add (.u 64) (.c (.int .i64 1))),
 oT 5 (.mov (.u 65))]))))))
 (.seq (.seq (.region [oT 6 (.mov (.c (.int .i64 0)))])
 (.block 2 (.loop (.seq (.seq (.region [oM 77 6,
 oU 78 (.faddr 5 (.t 2)),
 oU 79 (.load false 1 (.u 78)),
 oU 80 (.lenL (.u 79)),
 oT 81 (.bin .lss (.u 77) (.u 80))])
 (.cond (.t 81)
 (.skip)
 (.exit 2)))
 (.seq (.block 3 (.seq (.regionD [⟨0, [2], false, [], oU 84 (.faddr 5 (.t 2))⟩,
 ⟨1, [84], true, [], oU 85 (.load false 1 (.u 84))⟩,
 ⟨2, [6], false, [], oM 86 6⟩,
 ⟨3, [85, 86], false, [], oU 87 (.iaS 2 (.u 85) (.u 86))⟩,
 ⟨4, [87], true, [], oU 88 (.load true 2 (.u 87))⟩,
 ⟨5, [3], false, [], oU 89 (.faddr 5 (.t 3))⟩,
 ⟨6, [89], true, [], oU 90 (.load false 1 (.u 89))⟩,
 ⟨7, [6], false, [], oM 91 6⟩,
 ⟨8, [90, 91], false, [], oU 92 (.iaS 2 (.u 90) (.u 91))⟩,
 ⟨9, [92], true, [], oU 93 (.load true 2 (.u 92))⟩,
 ⟨10, [88, 93], false, [], oT 94 (.eqS true 2 [(0, 1), (1, 1)] (.u 88) (.u 93))⟩])
 (.cond (.t 94)
 (.seq (.region [oT 4 (.mov (.c (.bool false)))])
 (.ret))
 (.skip))))
 (.region [oM 82 6,
 oU 83 (.bin .add (.u 82) (.c (.int .i64 1))),
 oT 6 (.mov (.u 83))]))))))
 (.seq (.region [oT 4 (.mov (.c (.bool true)))])
 (.ret)))))
def r19 : List LRes := [.slot 4]
theorem t19 : (Tryd.f19.body.bind (trCode v19 Tryd.prog Tryd.f19.ntmps)) = some c19 ∧ trRes v19 Tryd.prog Tryd.f19.results.toList = some r19 := ⟨by kernel_rfl, by kernel_rfl⟩

def v20 : Nat → Bool := fun t => [0, 1, 4, 5, 10, 14, 26].contains t
def c20 : LCode :=
 .seq (.region [oT 4 (.mov (.c (.bool false)))])
 (.seq (.seq (.region [oM 6 0,
 oU 7 (.lenL (.u 6)),
 oM 8 1,
 oU 9 (.lenL (.u 8)),
 oT 10 (.bin .neq (.u 7) (.u 9))])
 (.cond (.t 10)
 (.seq (.region [oT 4 (.mov (.c (.bool false)))])
 (.ret))
 (.skip)))
 (.seq (.seq (.region [oT 5 (.mov (.c (.int .i64 0)))])
 (.block 0 (.loop (.seq (.seq (.region [oM 11 5,
 oM 12 0,
 oU 13 (.lenL (.u 12)),
 oT 14 (.bin .lss (.u 11) (.u 13))])
 (.cond (.t 14)
 (.skip)
 (.exit 0)))
 (.seq (.block 1 (.seq (.regionD [⟨0, [0], false, [], oM 17 0⟩,
 ⟨1, [5], false, [], oM 18 5⟩,
 ⟨2, [17, 18], false, [], oU 19 (.iaS 5 (.u 17) (.u 18))⟩,
 ⟨3, [19], true, [], oU 20 (.load true 5 (.u 19))⟩,
 ⟨4, [1], false, [], oM 21 1⟩,
 ⟨5, [5], false, [], oM 22 5⟩,
 ⟨6, [21, 22], false, [], oU 23 (.iaS 5 (.u 21) (.u 22))⟩,
 ⟨7, [23], true, [], oU 24 (.load true 5 (.u 23))⟩,
 ⟨8, [20, 24], false, [], oU 25 (.call 35 [(.u 20), (.u 24)])⟩,
 ⟨9, [25], false, [], oT 26 (.un .not (.u 25))⟩])
 (.cond (.t 26)
 (.seq (.region [oT 4 (.mov (.c (.bool false)))])
 (.ret))
 (.skip))))
 (.region [oM 15 5,
 oU 16 (.bin .add (.u 15) (.c (.int .i64 1))),
 oT 5 (.mov (.u 16))]))))))
 (.seq (.region [oT 4 (.mov (.c (.bool true)))])
 (.ret))))
def r20 : List LRes := [.slot 4]
theorem t20 : (Tryd.f20.body.bind (trCode v20 Tryd.prog Tryd.f20.ntmps)) = some c20 ∧ trRes v20 Tryd.prog Tryd.f20.results.toList = some r20 := ⟨by kernel_rfl, by kernel_rfl⟩

def v21 : Nat → Bool := fun t => [0, 2].contains t
def c21 : LCode :=
 .seq (.region [oT 2 (.zero [.int .i64 0, .int .i64 0, .int .i64 0, .fsl 1 0 [], .fsl 1 0 [], .fsl 1 0 [], .int .i64 0])])
 (.seq (.region [oM 3 0,
 oU 4 (.build [.int .i64 0, .int .i64 0, .int .i64 0, .fsl 1 0 [], .fsl 1 0 [], .fsl 1 0 [], .int .i64 0] [(0, 1, (.u 3)), (1, 1, (.c (.int .i64 1)))]),
 oN (.store 7 (.t 2) (.u 4))])
 (.ret))
def r21 : List LRes := [.cell true 7 2]
theorem t21 : (Tryd.f21.body.bind (trCode v21 Tryd.prog Tryd.f21.ntmps)) = some c21 ∧ trRes v21 Tryd.prog Tryd.f21.results.toList = some r21 := ⟨by kernel_rfl, by kernel_rfl⟩

def v22 : Nat → Bool := fun t => [0, 1, 2, 4, 5, 6, 7, 8, 14].contains t
def c22 : LCode :=
 .seq (.region [oT 2 (.box (.t 0)),
 oT 4 (.zero [.int .i64 0, .int .i64 0, .int .i64 0, .fsl 1 0 [], .fsl 1 0 [], .fsl 1 0 [], .int .i64 0]),
 oT 5 (.mov (.c (.fsl 1 0 [])))])
 (.seq (.region [oU 9 (.load true 7 (.t 2)),
 oU 10 (.call 36 [(.u 9)]),
 oT 6 (.zero [.int .i64 0, .int .i64 0, .int .i64 0, .fsl 1 0 [], .fsl 1 0 [], .fsl 1 0 [], .int .i64 0]),
 oN (.store 7 (.t 6) (.u 10))])
 (.seq (.region [oT 7 (.mov (.c (.fsl 1 0 [])))])
 (.seq (.seq (.region [oT 8 (.mov (.c (.int .i64 0)))])
 (.block 0 (.loop (.seq (.seq (.region [oM 11 8,
 oM 12 1,
 oU 13 (.lenL (.u 12)),
 oT 14 (.bin .lss (.u 11) (.u 13))])
 (.cond (.t 14)
 (.skip)
 (.exit 0)))
 (.seq (.block 1 (.seq (.region [oM 17 1,
 oM 18 8,
 oU 19 (.iaS 4 (.u 17) (.u 18)),
 oU 20 (.load true 4 (.u 19)),
 oU 21 (.call 37 [(.t 6), (.u 20)])])
 (.region [oM 22 7,
 oU 23 (.faddr 6 (.t 6)),
 oU 24 (.load false 1 (.u 23)),
 oU 25 (.bin .sub (.u 24) (.c (.int .i64 64))),
 oU 26 (.call 38 [(.t 6), (.u 25)]),
 oU 27 (.app 5 56 (.u 22) (.u 26)),
 oT 7 (.mov (.u 27))])))
 (.region [oM 15 8,
 oU 16 (.bin .add (.u 15) (.c (.int .i64 1))),
 oT 8 (.mov (.u 16))]))))))
 (.seq (.region [oU 28 (.load true 7 (.t 6)),
 oM 29 7,
 oN (.store 7 (.t 4) (.u 28)),
 oT 5 (.mov (.u 29))])
 (.ret)))))
def r22 : List LRes := [.cell true 7 4, .slot 5]
theorem t22 : (Tryd.f22.body.bind (trCode v22 Tryd.prog Tryd.f22.ntmps)) = some c22 ∧ trRes v22 Tryd.prog Tryd.f22.results.toList = some r22 := ⟨by kernel_rfl, by kernel_rfl⟩

def v24 : Nat → Bool := fun t => [0, 1, 2, 3, 4, 5].contains t
def c24 : LCode :=
 .seq (.region [oT 1 (.box (.t 0)),
 oT 2 (.zero [.int .i64 0, .int .i64 0, .int .i64 0, .fsl 1 0 [], .fsl 1 0 [], .fsl 1 0 [], .int .i64 0]),
 oT 3 (.mov (.c (.fsl 1 0 [])))])
 (.seq (.region [oU 6 (.load true 7 (.t 1)),
 oU 7 (.call 36 [(.u 6)]),
 oT 4 (.zero [.int .i64 0, .int .i64 0, .int .i64 0, .fsl 1 0 [], .fsl 1 0 [], .fsl 1 0 [], .int .i64 0]),
 oN (.store 7 (.t 4) (.u 7))])
 (.seq (.region [oU 8 (.faddr 6 (.t 4)),
 oU 9 (.load false 1 (.u 8)),
 oU 10 (.call 38 [(.t 4), (.u 9)]),
 oT 5 (.mov (.u 10))])
 (.seq (.region [oU 11 (.load true 7 (.t 4)),
 oM 12 5,
 oN (.store 7 (.t 2) (.u 11)),
 oT 3 (.mov (.u 12))])
 (.ret))))
def r24 : List LRes := [.cell true 7 2, .slot 3]
theorem t24 : (Tryd.f24.body.bind (trCode v24 Tryd.prog Tryd.f24.ntmps)) = some c24 ∧ trRes v24 Tryd.prog Tryd.f24.results.toList = some r24 := ⟨by kernel_rfl, by kernel_rfl⟩

def v26 : Nat → Bool := fun t => [0, 1, 4, 5, 6, 7, 11, 1000001].contains t
def c26 : LCode :=
 .seq (.region [oT 4 (.mov (.c (.fsl 1 0 [])))])
 (.seq (.region [oT 5 (.mov (.c (.fsl 1 0 [])))])
 (.seq (.seq (.region [oT 6 (.mov (.c (.int .i64 0)))])
 (.block 0 (.loop (.seq (.seq (.region [oM 8 6,
 oM 9 0,
 oU 10 (.lenL (.u 9)),
 oT 11 (.bin .lss (.u 8) (.u 10))])
 (.cond (.t 11)
 (.skip)
 (.exit 0)))
 (.seq (.block 1 (.seq (.region [oM 14 0,
 oM 15 6,
 oU 16 (.iaS 4 (.u 14) (.u 15)),
 oU 17 (.load true 4 (.u 16)),
 oT 7 (.zero [.int .i64 0, .int .i64 0, .int .i64 0, .fsl 1 0 []]),
 oN (.store 4 (.t 7) (.u 17))])
 (.seq (.region [oU 18 (.faddr 3 (.t 7)),
 oU 19 (.load false 1 (.u 18)),
 oU 20 (.appF 4 48 (.c (.fsl 1 0 [])) (.u 19)),
 oU 21 (.faddr 3 (.t 7)),
 oN (.store 1 (.u 21) (.u 20))])
 (.seq (.region [oM 22 1,
 oU 23 (.faddr 2 (.t 7)),
 oN (.store 1 (.u 23) (.u 22))])
 (.region [oM 24 5,
 oU 25 (.load true 4 (.t 7)),
 oU 26 (.mkS 4 1 [.int .i64 0, .int .i64 0, .int .i64 0, .fsl 1 0 []] [(0, 4, (.u 25))]),
 oU 27 (.appF 4 48 (.u 24) (.u 26)),
 oT 5 (.mov (.u 27))])))))
 (.region [oM 12 6,
 oU 13 (.bin .add (.u 12) (.c (.int .i64 1))),
 oT 6 (.mov (.u 13))]))))))
 (.seq (.region [oM 28 5,
 oT 4 (.mov (.u 28))])
 (.ret))))
def r26 : List LRes := [.slot 4]
theorem t26 : (Tryd.f26.body.bind (trCode v26 Tryd.prog Tryd.f26.ntmps)) = some c26 ∧ trRes v26 Tryd.prog Tryd.f26.results.toList = some r26 := ⟨by kernel_rfl, by kernel_rfl⟩

def v27 : Nat → Bool := fun t => [0, 1, 2, 4].contains t
def c27 : LCode :=
 .seq (.region [oT 2 (.box (.t 0)),
 oT 4 (.zero [.int .i64 0, .int .i64 0, .int .i64 0, .fsl 1 0 []])])
 (.seq (.regionD [⟨0, [1], false, [], oM 5 1⟩,
 ⟨1, [2], false, [], oU 6 (.faddr 0 (.t 2))⟩,
 ⟨2, [6], true, [], oU 7 (.load false 1 (.u 6))⟩,
 ⟨4, [2], false, [], oU 9 (.faddr 1 (.t 2))⟩,
 ⟨5, [9], true, [], oU 10 (.load false 1 (.u 9))⟩,
 ⟨7, [2], false, [], oU 12 (.faddr 2 (.t 2))⟩,
 ⟨8, [12], true, [], oU 13 (.load false 1 (.u 12))⟩,
 ⟨10, [2], false, [], oU 15 (.faddr 3 (.t 2))⟩,
 ⟨11, [15], true, [], oU 16 (.load false 1 (.u 15))⟩,
 ⟨13, [2], false, [], oU 18 (.faddr 4 (.t 2))⟩,
 ⟨14, [18], true, [], oU 19 (.load false 1 (.u 18))⟩,
 ⟨3, [7], false, [14, 11, 8, 5], oU 8 (.call 39 [(.c (.str [102, 105, 114, 115, 116])), (.u 7)])⟩,
 ⟨6, [10], false, [14, 11, 8], oU 11 (.call 39 [(.c (.str [108, 97, 115, 116])), (.u 10)])⟩,
 ⟨9, [13], false, [14, 11], oU 14 (.call 39 [(.c (.str [114, 97, 116, 101, 100])), (.u 13)])⟩,
 ⟨12, [16], false, [14], oU 17 (.call 39 [(.c (.str [102, 117, 108, 108])), (.u 16)])⟩,
 ⟨15, [19], false, [], oU 20 (.call 39 [(.c (.str [115, 116, 97, 108, 108, 101, 100])), (.u 19)])⟩,
 ⟨16, [8, 11, 14, 17, 20], false, [], oU 21 (.mkS 4 5 [.str [], .int .i64 0, .int .i64 0, .str []] [(0, 4, (.u 8)), (4, 4, (.u 11)), (8, 4, (.u 14)), (12, 4, (.u 17)), (16, 4, (.u 20))])⟩,
 ⟨17, [5, 21], false, [], oU 22 (.build [.int .i64 0, .int .i64 0, .int .i64 0, .fsl 1 0 []] [(0, 1, (.c (.int .i64 1331))), (1, 1, (.u 5)), (3, 1, (.u 21))])⟩,
 ⟨18, [4, 22], false, [], oN (.store 4 (.t 4) (.u 22))⟩])
 (.ret))
def r27 : List LRes := [.cell true 4 4]
theorem t27 : (Tryd.f27.body.bind (trCode v27 Tryd.prog Tryd.f27.ntmps)) = some c27 ∧ trRes v27 Tryd.prog Tryd.f27.results.toList = some r27 := ⟨by kernel_rfl, by kernel_rfl⟩

def v30 : Nat → Bool := fun t => [0, 2, 3].contains t
def c30 : LCode :=
 .seq (.region [oT 2 (.mov (.c (.bool false)))])
 (.seq (.region [oM 6 0,
 oU 7 (.call 40 [(.u 6)]),
 oU 5 (.mov (.u 7)),
 oU 8 (.ext (.u 5) 0),
 oU 9 (.ext (.u 5) 1),
 oT 3 (.zero [.str [], .int .i64 0, .bool false]),
 oN (.store 3 (.t 3) (.u 8)),
 oU 4 (.mov (.u 9))])
 (.seq (.region [oU 10 (.faddr 2 (.t 3)),
 oU 11 (.load false 1 (.u 10)),
 oT 2 (.mov (.u 11))])
 (.ret)))
def r30 : List LRes := [.slot 2]
theorem t30 : (Tryd.f30.body.bind (trCode v30 Tryd.prog Tryd.f30.ntmps)) = some c30 ∧ trRes v30 Tryd.prog Tryd.f30.results.toList = some r30 := ⟨by kernel_rfl, by kernel_rfl⟩

def v31 : Nat → Bool := fun t => [0, 2, 3].contains t
def c31 : LCode :=
 .seq (.region [oT 2 (.mov (.c (.str [])))])
 (.seq (.region [oM 6 0,
 oU 7 (.call 40 [(.u 6)]),
 oU 5 (.mov (.u 7)),
 oU 8 (.ext (.u 5) 0),
 oU 9 (.ext (.u 5) 1),
 oT 3 (.zero [.str [], .int .i64 0, .bool false]),
 oN (.store 3 (.t 3) (.u 8)),
 oU 4 (.mov (.u 9))])
 (.seq (.region [oU 10 (.faddr 0 (.t 3)),
 oU 11 (.load false 1 (.u 10)),
 oT 2 (.mov (.u 11))])
 (.ret)))
def r31 : List LRes := [.slot 2]
theorem t31 : (Tryd.f31.body.bind (trCode v31 Tryd.prog Tryd.f31.ntmps)) = some c31 ∧ trRes v31 Tryd.prog Tryd.f31.results.toList = some r31 := ⟨by kernel_rfl, by kernel_rfl⟩

def v35 : Nat → Bool := fun t => [0, 1, 2, 3, 4].contains t
def c35 : LCode :=
 .seq (.region [oT 2 (.box (.t 0)),
 oT 3 (.box (.t 1)),
 oT 4 (.mov (.c (.bool false)))])
 (.seq (.region [oU 5 (.faddr 0 (.t 2)),
 oU 6 (.load false 1 (.u 5)),
 oU 7 (.faddr 0 (.t 3)),
 oU 8 (.load false 1 (.u 7)),
 oU 9 (.bin .eql (.u 6) (.u 8)),
 oU 10 (.mov (.u 9)),
 ⟨some 11, false, some ((.u 10), true), .faddr 1 (.t 2)⟩,
 ⟨some 12, false, some ((.u 10), true), .load false 1 (.u 11)⟩,
 ⟨some 13, false, some ((.u 10), true), .faddr 1 (.t 3)⟩,
 ⟨some 14, false, some ((.u 10), true), .load false 1 (.u 13)⟩,
 ⟨some 15, false, some ((.u 10), true), .bin .eql (.u 12) (.u 14)⟩,
 oU 16 (.pick (.u 10) (.u 15) (.c (.bool false))),
 oU 17 (.mov (.u 16)),
 ⟨some 18, false, some ((.u 17), true), .faddr 2 (.t 2)⟩,
 ⟨some 19, false, some ((.u 17), true), .load false 1 (.u 18)⟩,
 ⟨some 20, false, some ((.u 17), true), .faddr 2 (.t 3)⟩,
 ⟨some 21, false, some ((.u 17), true), .load false 1 (.u 20)⟩,
 ⟨some 22, false, some ((.u 17), true), .bin .eql (.u 19) (.u 21)⟩,
 oU 23 (.pick (.u 17) (.u 22) (.c (.bool false))),
 oU 24 (.mov (.u 23)),
 ⟨some 25, false, some ((.u 24), true), .faddr 4 (.t 2)⟩,
 ⟨some 26, false, some ((.u 24), true), .load false 1 (.u 25)⟩,
 ⟨some 27, false, some ((.u 24), true), .faddr 4 (.t 3)⟩,
 ⟨some 28, false, some ((.u 24), true), .load false 1 (.u 27)⟩,
 ⟨some 29, false, some ((.u 24), true), .eqB false (.u 26) (.u 28)⟩,
 oU 30 (.pick (.u 24) (.u 29) (.c (.bool false))),
 oU 31 (.mov (.u 30)),
 ⟨some 32, false, some ((.u 31), true), .faddr 3 (.t 2)⟩,
 ⟨some 33, false, some ((.u 31), true), .load false 1 (.u 32)⟩,
 ⟨some 34, false, some ((.u 31), true), .faddr 3 (.t 3)⟩,
 ⟨some 35, false, some ((.u 31), true), .load false 1 (.u 34)⟩,
 ⟨some 36, false, some ((.u 31), true), .call 58 [(.u 33), (.u 35)]⟩,
 oU 37 (.pick (.u 31) (.u 36) (.c (.bool false))),
 oT 4 (.mov (.u 37))])
 (.ret))
def r35 : List LRes := [.slot 4]
theorem t35 : (Tryd.f35.body.bind (trCode v35 Tryd.prog Tryd.f35.ntmps)) = some c35 ∧ trRes v35 Tryd.prog Tryd.f35.results.toList = some r35 := ⟨by kernel_rfl, by kernel_rfl⟩

def v36 : Nat → Bool := fun t => [0, 1, 2, 3, 4, 11, 1000001].contains t
def c36 : LCode :=
 .seq (.region [oT 1 (.box (.t 0)),
 oT 2 (.zero [.int .i64 0, .int .i64 0, .int .i64 0, .fsl 1 0 [], .fsl 1 0 [], .fsl 1 0 [], .int .i64 0])])
 (.seq (.region [oU 5 (.load true 7 (.t 1)),
 oT 3 (.zero [.int .i64 0, .int .i64 0, .int .i64 0, .fsl 1 0 [], .fsl 1 0 [], .fsl 1 0 [], .int .i64 0]),
 oN (.store 7 (.t 3) (.u 5))])
 (.seq (.region [oU 6 (.faddr 3 (.t 3)),
 oN (.store 1 (.u 6) (.c (.fsl 1 0 [])))])
 (.seq (.seq (.region [oT 4 (.mov (.c (.int .i64 0)))])
 (.block 0 (.loop (.seq (.seq (.region [oM 7 4,
 oU 8 (.faddr 3 (.t 1)),
 oU 9 (.load false 1 (.u 8)),
 oU 10 (.lenL (.u 9)),
 oT 11 (.bin .lss (.u 7) (.u 10))])
 (.cond (.t 11)
 (.skip)
 (.exit 0)))
 (.seq (.block 1 (.regionD [⟨0, [3], false, [], oU 14 (.faddr 3 (.t 3))⟩,
 ⟨1, [14], true, [], oU 15 (.load false 1 (.u 14))⟩,
 ⟨2, [1], false, [], oU 16 (.faddr 3 (.t 1))⟩,
 ⟨3, [16], true, [], oU 17 (.load false 1 (.u 16))⟩,
 ⟨4, [4], false, [], oM 18 4⟩,
 ⟨5, [17, 18], false, [], oU 19 (.iaS 5 (.u 17) (.u 18))⟩,
 ⟨6, [19], true, [], oU 20 (.load true 5 (.u 19))⟩,
 ⟨7, [20], false, [1], oU 21 (.call 59 [(.u 20)])⟩,
 ⟨8, [21], false, [], oU 22 (.mkS 5 1 [.int .i64 0, .int .i64 0, .int .i64 0, .fsl 1 0 [], .bool false] [(0, 5, (.u 21))])⟩,
 ⟨9, [15, 22], false, [], oU 23 (.appF 5 56 (.u 15) (.u 22))⟩,
 ⟨10, [3], false, [], oU 24 (.faddr 3 (.t 3))⟩,
 ⟨11, [24, 23], false, [], oN (.store 1 (.u 24) (.u 23))⟩]))
 (.region [oM 12 4,
 oU 13 (.bin .add (.u 12) (.c (.int .i64 1))),
 oT 4 (.mov (.u 13))]))))))
 (.seq (.region [oU 25 (.faddr 4 (.t 1)),
 oU 26 (.load false 1 (.u 25)),
 oU 27 (.appF 5 40 (.c (.fsl 1 0 [])) (.u 26)),
 oU 28 (.faddr 4 (.t 3)),
 oN (.store 1 (.u 28) (.u 27))])
 (.seq (.region [oU 29 (.faddr 5 (.t 1)),
 oU 30 (.load false 1 (.u 29)),
 oU 31 (.appF 2 16 (.c (.fsl 1 0 [])) (.u 30)),
 oU 32 (.faddr 5 (.t 3)),
 oN (.store 1 (.u 32) (.u 31))])
 (.seq (.region [oU 33 (.load true 7 (.t 3)),
 oN (.store 7 (.t 2) (.u 33))])
 (.ret)))))))
def r36 : List LRes := [.cell true 7 2]
theorem t36 : (Tryd.f36.body.bind (trCode v36 Tryd.prog Tryd.f36.ntmps)) = some c36 ∧ trRes v36 Tryd.prog Tryd.f36.results.toList = some r36 := ⟨by kernel_rfl, by kernel_rfl⟩

def v37 : Nat → Bool := fun t => [0, 1, 3, 4, 5, 6, 7, 8, 48, 64, 93, 168, 196, 1000001, 1100048].contains t
def c37 : LCode :=
 .seq (.region [oT 3 (.box (.t 1))])
 (.seq (.region [oM 9 0,
 oU 10 (.faddr 2 (.t 3)),
 oU 11 (.load false 1 (.u 10)),
 oU 12 (.call 60 [(.u 9), (.u 11)]),
 oT 4 (.mov (.u 12))])
 (.seq (.seq (.regionD [⟨0, [3], true, [], oU 13 (.load true 4 (.t 3))⟩,
 ⟨1, [13], false, [], oU 14 (.call 61 [(.u 13)])⟩,
 ⟨2, [14], false, [], oU 15 (.bin .neq (.u 14) (.c (.int .i64 0)))⟩,
 ⟨3, [15], false, [], oU 16 (.mov (.u 15))⟩,
 ⟨4, [3, 16], false, [], ⟨some 17, false, some ((.u 16), false), .faddr 2 (.t 3)⟩⟩,
 ⟨5, [17, 16], true, [], ⟨some 18, false, some ((.u 16), false), .load false 1 (.u 17)⟩⟩,
 ⟨6, [18, 16], false, [], ⟨some 19, false, some ((.u 16), false), .bin .eql (.u 18) (.c (.int .i64 0))⟩⟩,
 ⟨7, [16, 19], false, [], oU 20 (.pick (.u 16) (.c (.bool true)) (.u 19))⟩,
 ⟨8, [20], false, [], oU 21 (.mov (.u 20))⟩,
 ⟨9, [3, 21], false, [], ⟨some 22, false, some ((.u 21), false), .faddr 2 (.t 3)⟩⟩,
 ⟨10, [22, 21], true, [], ⟨some 23, false, some ((.u 21), false), .load false 1 (.u 22)⟩⟩,
 ⟨11, [0, 21], false, [], ⟨some 24, false, some ((.u 21), false), .mov (.t 0)⟩⟩,
 ⟨12, [24, 21], false, [], ⟨some 25, false, some ((.u 21), false), .nilc (.u 24)⟩⟩,
 ⟨13, [25, 21], false, [], ⟨some 26, false, some ((.u 21), false), .faddr 1 (.u 25)⟩⟩,
 ⟨14, [26, 21], true, [], ⟨some 27, false, some ((.u 21), false), .load false 1 (.u 26)⟩⟩,
 ⟨15, [23, 27, 21], false, [], ⟨some 28, false, some ((.u 21), false), .bin .lss (.u 23) (.u 27)⟩⟩,
 ⟨16, [21, 28], false, [], oU 29 (.pick (.u 21) (.c (.bool true)) (.u 28))⟩,
 ⟨17, [29], false, [], oU 30 (.mov (.u 29))⟩,
 ⟨18, [4, 30], false, [], ⟨some 31, false, some ((.u 30), false), .mov (.t 4)⟩⟩,
 ⟨19, [31, 30], false, [], ⟨some 32, false, some ((.u 30), false), .bin .geq (.u 31) (.c (.int .i64 0))⟩⟩,
 ⟨20, [32, 30], false, [], ⟨some 33, false, some ((.u 30), false), .mov (.u 32)⟩⟩,
 ⟨21, [0, 33], false, [], ⟨some 34, false, some ((.u 33), true), .mov (.t 0)⟩⟩,
 ⟨22, [34, 33], false, [], ⟨some 35, false, some ((.u 33), true), .nilc (.u 34)⟩⟩,
 ⟨23, [35, 33], false, [], ⟨some 36, false, some ((.u 33), true), .faddr 3 (.u 35)⟩⟩,
 ⟨24, [36, 33], true, [], ⟨some 37, false, some ((.u 33), true), .load false 1 (.u 36)⟩⟩,
 ⟨25, [4, 33], false, [], ⟨some 38, false, some ((.u 33), true), .mov (.t 4)⟩⟩,
 ⟨26, [37, 38, 33], false, [], ⟨some 39, false, some ((.u 33), true), .iaS 5 (.u 37) (.u 38)⟩⟩,
 ⟨27, [39, 33], false, [], ⟨some 40, false, some ((.u 33), true), .faddr 4 (.u 39)⟩⟩,
 ⟨28, [40, 33], true, [], ⟨some 41, false, some ((.u 33), true), .load false 1 (.u 40)⟩⟩,
 ⟨29, [41, 33], false, [], ⟨some 42, false, some ((.u 33), true), .mov (.u 41)⟩⟩,
 ⟨30, [3, 42], false, [], ⟨some 43, false, some ((.u 42), false), .faddr 0 (.t 3)⟩⟩,
 ⟨31, [43, 42], true, [], ⟨some 44, false, some ((.u 42), false), .load false 1 (.u 43)⟩⟩,
 ⟨32, [44, 42], false, [], ⟨some 45, false, some ((.u 42), false), .call 30 [(.u 44)]⟩⟩,
 ⟨33, [42, 45, 33], false, [], ⟨some 46, false, some ((.u 33), true), .pick (.u 42) (.c (.bool true)) (.u 45)⟩⟩,
 ⟨34, [33, 46, 30], false, [], ⟨some 47, false, some ((.u 30), false), .pick (.u 33) (.u 46) (.c (.bool false))⟩⟩,
 ⟨35, [30, 47], false, [], oT 48 (.pick (.u 30) (.c (.bool true)) (.u 47))⟩])
 (.cond (.t 48)
 (.seq (.region [oM 49 0,
 oU 50 (.nilc (.u 49)),
 oU 51 (.faddr 2 (.u 50)),
 oU 52 (.load false 1 (.u 51)),
 oU 53 (.bin .add (.u 52) (.c (.int .i64 1))),
 oU 54 (.nilc (.u 49)),
 oU 55 (.faddr 2 (.u 54)),
 oN (.store 1 (.u 55) (.u 53))])
 (.ret))
 (.skip)))
 (.seq (.region [oU 56 (.load true 4 (.t 3)),
 oU 57 (.mkS 4 1 [.int .i64 0, .int .i64 0, .int .i64 0, .fsl 1 0 []] [(0, 4, (.u 56))]),
 oU 58 (.faddr 2 (.t 3)),
 oU 59 (.load false 1 (.u 58)),
 oU 60 (.call 26 [(.u 57), (.u 59)]),
 oU 61 (.iaS 4 (.u 60) (.c (.int .i64 0))),
 oU 62 (.load true 4 (.u 61)),
 oN (.store 4 (.t 3) (.u 62))])
 (.seq (.seq (.region [oM 63 4,
 oT 64 (.bin .lss (.u 63) (.c (.int .i64 0)))])
 (.cond (.t 64)
 (.seq (.regionD [⟨0, [0], false, [], oM 65 0⟩,
 ⟨1, [65], false, [], oU 66 (.nilc (.u 65))⟩,
 ⟨2, [66], false, [], oU 67 (.faddr 0 (.u 66))⟩,
 ⟨3, [67], true, [], oU 68 (.load false 1 (.u 67))⟩,
 ⟨4, [3], false, [], oU 69 (.faddr 2 (.t 3))⟩,
 ⟨5, [69], true, [], oU 70 (.load false 1 (.u 69))⟩,
 ⟨6, [3], false, [], oU 71 (.faddr 1 (.t 3))⟩,
 ⟨7, [71], true, [], oU 72 (.load false 1 (.u 71))⟩,
 ⟨8, [68, 70, 72], false, [], oU 73 (.build [.int .i64 0, .int .i64 0, .int .i64 0, .fsl 1 0 [], .bool false] [(0, 1, (.u 68)), (1, 1, (.u 70)), (2, 1, (.u 72))])⟩,
 ⟨9, [], false, [7, 5, 3], oT 5 (.zero [.int .i64 0, .int .i64 0, .int .i64 0, .fsl 1 0 [], .bool false])⟩,
 ⟨10, [5, 73], false, [], oN (.store 5 (.t 5) (.u 73))⟩])
 (.seq (.region [oT 6 (.mov (.c (.fsl 1 0 [])))])
 (.seq (.region [oT 7 (.mov (.c (.int .i64 0)))])
 (.seq (.block 0 (.loop (.seq (.seq (.regionD [⟨0, [7], false, [], oM 74 7⟩,
 ⟨1, [0], false, [], oM 75 0⟩,
 ⟨2, [75], false, [], oU 76 (.nilc (.u 75))⟩,
 ⟨3, [76], false, [], oU 77 (.faddr 3 (.u 76))⟩,
 ⟨4, [77], true, [], oU 78 (.load false 1 (.u 77))⟩,
 ⟨5, [78], false, [], oU 79 (.lenL (.u 78))⟩,
 ⟨6, [74, 79], false, [], oU 80 (.bin .lss (.u 74) (.u 79))⟩,
 ⟨7, [80], false, [], oU 81 (.mov (.u 80))⟩,
 ⟨8, [0, 81], false, [], ⟨some 82, false, some ((.u 81), true), .mov (.t 0)⟩⟩,
 ⟨9, [82, 81], false, [], ⟨some 83, false, some ((.u 81), true), .nilc (.u 82)⟩⟩,
 ⟨10, [83, 81], false, [], ⟨some 84, false, some ((.u 81), true), .faddr 3 (.u 83)⟩⟩,
 ⟨11, [84, 81], true, [], ⟨some 85, false, some ((.u 81), true), .load false 1 (.u 84)⟩⟩,
 ⟨12, [7, 81], false, [], ⟨some 86, false, some ((.u 81), true), .mov (.t 7)⟩⟩,
 ⟨13, [85, 86, 81], false, [], ⟨some 87, false, some ((.u 81), true), .iaS 5 (.u 85) (.u 86)⟩⟩,
 ⟨14, [87, 81], false, [], ⟨some 88, false, some ((.u 81), true), .faddr 1 (.u 87)⟩⟩,
 ⟨15, [88, 81], true, [], ⟨some 89, false, some ((.u 81), true), .load false 1 (.u 88)⟩⟩,
 ⟨16, [3, 81], false, [], ⟨some 90, false, some ((.u 81), true), .faddr 2 (.t 3)⟩⟩,
 ⟨17, [90, 81], true, [], ⟨some 91, false, some ((.u 81), true), .load false 1 (.u 90)⟩⟩,
 ⟨18, [89, 91, 81], false, [], ⟨some 92, false, some ((.u 81), true), .bin .lss (.u 89) (.u 91)⟩⟩,
 ⟨19, [81, 92], false, [], oT 93 (.pick (.u 81) (.u 92) (.c (.bool false)))⟩])
 (.cond (.t 93)
 (.skip)
 (.exit 0)))
 (.block 1 (.region [oM 94 7,
 oU 95 (.bin .add (.u 94) (.c (.int .i64 1))),
 oT 7 (.mov (.u 95))])))))
 (.seq (.regionD [⟨0, [6], false, [], oM 96 6⟩,
 ⟨1, [0], false, [], oM 97 0⟩,
 ⟨2, [97], false, [], oU 98 (.nilc (.u 97))⟩,
 ⟨3, [98], false, [], oU 99 (.faddr 3 (.u 98))⟩,
 ⟨4, [99], true, [], oU 100 (.load false 1 (.u 99))⟩,
 ⟨5, [7], false, [], oM 101 7⟩,
 ⟨6, [100, 101], false, [], oU 102 (.slL 5 (.u 100) none (some (.u 101)) none)⟩,
 ⟨8, [5], true, [], oU 104 (.load true 5 (.t 5))⟩,
 ⟨9, [104], false, [], oU 105 (.mkS 5 1 [.int .i64 0, .int .i64 0, .int .i64 0, .fsl 1 0 [], .bool false] [(0, 5, (.u 104))])⟩,
 ⟨11, [0], false, [], oM 107 0⟩,
 ⟨12, [107], false, [], oU 108 (.nilc (.u 107))⟩,
 ⟨13, [108], false, [], oU 109 (.faddr 3 (.u 108))⟩,
 ⟨14, [109], true, [], oU 110 (.load false 1 (.u 109))⟩,
 ⟨15, [7], false, [], oM 111 7⟩,
 ⟨16, [110, 111], false, [], oU 112 (.slL 5 (.u 110) (some (.u 111)) none none)⟩,
 ⟨7, [96, 102], false, [14, 8], oU 103 (.appF 5 56 (.u 96) (.u 102))⟩,
 ⟨10, [103, 105], false, [14], oU 106 (.appF 5 56 (.u 103) (.u 105))⟩,
 ⟨17, [106, 112], false, [], oU 113 (.appF 5 56 (.u 106) (.u 112))⟩,
 ⟨18, [113], false, [], oT 6 (.mov (.u 113))⟩])
 (.region [oM 114 0,
 oM 115 6,
 oM 116 7,
 oU 117 (.nilc (.u 114)),
 oU 118 (.faddr 3 (.u 117)),
 oN (.store 1 (.u 118) (.u 115)),
 oT 4 (.mov (.u 116))]))))))
 (.skip)))
 (.seq (.regionD [⟨0, [0], false, [], oM 119 0⟩,
 ⟨1, [119], false, [], oU 120 (.nilc (.u 119))⟩,
 ⟨2, [120], false, [], oU 121 (.faddr 3 (.u 120))⟩,
 ⟨3, [121], true, [], oU 122 (.load false 1 (.u 121))⟩,
 ⟨4, [4], false, [], oM 123 4⟩,
 ⟨5, [0], false, [], oM 124 0⟩,
 ⟨6, [124], false, [], oU 125 (.nilc (.u 124))⟩,
 ⟨7, [125], false, [], oU 126 (.faddr 3 (.u 125))⟩,
 ⟨8, [126], true, [], oU 127 (.load false 1 (.u 126))⟩,
 ⟨9, [4], false, [], oM 128 4⟩,
 ⟨10, [127, 128], false, [], oU 129 (.iaS 5 (.u 127) (.u 128))⟩,
 ⟨11, [129], false, [], oU 130 (.faddr 3 (.u 129))⟩,
 ⟨12, [130], true, [], oU 131 (.load false 1 (.u 130))⟩,
 ⟨13, [3], true, [], oU 132 (.load true 4 (.t 3))⟩,
 ⟨14, [132], false, [], oU 133 (.mkS 4 1 [.int .i64 0, .int .i64 0, .int .i64 0, .fsl 1 0 []] [(0, 4, (.u 132))])⟩,
 ⟨15, [131, 133], false, [3], oU 134 (.app 4 48 (.u 131) (.u 133))⟩,
 ⟨16, [122, 123], false, [], oU 135 (.iaS 5 (.u 122) (.u 123))⟩,
 ⟨17, [135], false, [], oU 136 (.faddr 3 (.u 135))⟩,
 ⟨18, [136, 134], false, [], oN (.store 1 (.u 136) (.u 134))⟩])
 (.seq (.regionD [⟨0, [0], false, [], oM 137 0⟩,
 ⟨1, [137], false, [], oU 138 (.nilc (.u 137))⟩,
 ⟨2, [138], false, [], oU 139 (.faddr 3 (.u 138))⟩,
 ⟨3, [139], true, [], oU 140 (.load false 1 (.u 139))⟩,
 ⟨4, [4], false, [], oM 141 4⟩,
 ⟨5, [0], false, [], oM 142 0⟩,
 ⟨6, [142], false, [], oU 143 (.nilc (.u 142))⟩,
 ⟨7, [143], false, [], oU 144 (.faddr 3 (.u 143))⟩,
 ⟨8, [144], true, [], oU 145 (.load false 1 (.u 144))⟩,
 ⟨9, [4], false, [], oM 146 4⟩,
 ⟨10, [145, 146], false, [], oU 147 (.iaS 5 (.u 145) (.u 146))⟩,
 ⟨11, [147], true, [], oU 148 (.load true 5 (.u 147))⟩,
 ⟨12, [148], false, [3], oU 149 (.call 14 [(.u 148)])⟩,
 ⟨13, [140, 141], false, [], oU 150 (.iaS 5 (.u 140) (.u 141))⟩,
 ⟨14, [150], false, [], oU 151 (.faddr 4 (.u 150))⟩,
 ⟨15, [151, 149], false, [], oN (.store 1 (.u 151) (.u 149))⟩])
 (.seq (.regionD [⟨0, [0], false, [], oM 152 0⟩,
 ⟨1, [0], false, [], oM 153 0⟩,
 ⟨2, [153], false, [], oU 154 (.nilc (.u 153))⟩,
 ⟨3, [154], false, [], oU 155 (.faddr 6 (.u 154))⟩,
 ⟨4, [155], true, [], oU 156 (.load false 1 (.u 155))⟩,
 ⟨5, [3], false, [], oU 157 (.faddr 2 (.t 3))⟩,
 ⟨6, [157], true, [], oU 158 (.load false 1 (.u 157))⟩,
 ⟨7, [156, 158], false, [], oU 159 (.mm true (.u 156) [(.u 158)])⟩,
 ⟨8, [152], false, [], oU 160 (.nilc (.u 152))⟩,
 ⟨9, [160], false, [], oU 161 (.faddr 6 (.u 160))⟩,
 ⟨10, [161, 159], false, [], oN (.store 1 (.u 161) (.u 159))⟩])
 (.seq (.region [oU 162 (.faddr 0 (.t 3)),
 oU 163 (.load false 1 (.u 162)),
 oU 164 (.bin .eql (.u 163) (.c (.int .i64 1331))),
 oU 165 (.mov (.u 164)),
 ⟨some 166, false, some ((.u 165), true), .load true 4 (.t 3)⟩,
 ⟨some 167, false, some ((.u 165), true), .call 62 [(.u 166)]⟩,
 oT 168 (.pick (.u 165) (.u 167) (.c (.bool false)))])
 (.cond (.t 168)
 (.seq (.regionD [⟨0, [3], true, [], oU 169 (.load true 4 (.t 3))⟩,
 ⟨2, [3], true, [], oU 171 (.load true 4 (.t 3))⟩,
 ⟨4, [3], true, [], oU 173 (.load true 4 (.t 3))⟩,
 ⟨6, [3], true, [], oU 175 (.load true 4 (.t 3))⟩,
 ⟨8, [3], true, [], oU 177 (.load true 4 (.t 3))⟩,
 ⟨1, [169], false, [8, 6, 4, 2], oU 170 (.call 63 [(.u 169), (.c (.str [102, 105, 114, 115, 116]))])⟩,
 ⟨3, [171], false, [8, 6, 4], oU 172 (.call 63 [(.u 171), (.c (.str [108, 97, 115, 116]))])⟩,
 ⟨5, [173], false, [8, 6], oU 174 (.call 63 [(.u 173), (.c (.str [114, 97, 116, 101, 100]))])⟩,
 ⟨7, [175], false, [8], oU 176 (.call 63 [(.u 175), (.c (.str [102, 117, 108, 108]))])⟩,
 ⟨9, [177], false, [], oU 178 (.call 63 [(.u 177), (.c (.str [115, 116, 97, 108, 108, 101, 100]))])⟩,
 ⟨10, [170, 172, 174, 176, 178], false, [], oU 179 (.build [.int .i64 0, .int .i64 0, .int .i64 0, .int .i64 0, .int .i64 0] [(0, 1, (.u 170)), (1, 1, (.u 172)), (2, 1, (.u 174)), (3, 1, (.u 176)), (4, 1, (.u 178))])⟩,
 ⟨11, [], false, [], oT 8 (.zero [.int .i64 0, .int .i64 0, .int .i64 0, .int .i64 0, .int .i64 0])⟩,
 ⟨12, [8, 179], false, [], oN (.store 5 (.t 8) (.u 179))⟩])
 (.seq (.region [oU 180 (.faddr 0 (.t 8)),
 oU 181 (.load false 1 (.u 180)),
 oU 182 (.bin .geq (.u 181) (.c (.int .i64 1))),
 oU 183 (.mov (.u 182)),
 ⟨some 184, false, some ((.u 183), true), .faddr 0 (.t 8)⟩,
 ⟨some 185, false, some ((.u 183), true), .load false 1 (.u 184)⟩,
 ⟨some 186, false, some ((.u 183), true), .faddr 1 (.t 8)⟩,
 ⟨some 187, false, some ((.u 183), true), .load false 1 (.u 186)⟩,
 ⟨some 188, false, some ((.u 183), true), .bin .leq (.u 185) (.u 187)⟩,
 oU 189 (.pick (.u 183) (.u 188) (.c (.bool false))),
 oU 190 (.mov (.u 189)),
 ⟨some 191, false, some ((.u 190), true), .faddr 1 (.t 8)⟩,
 ⟨some 192, false, some ((.u 190), true), .load false 1 (.u 191)⟩,
 ⟨some 193, false, some ((.u 190), true), .faddr 2 (.t 3)⟩,
 ⟨some 194, false, some ((.u 190), true), .load false 1 (.u 193)⟩,
 ⟨some 195, false, some ((.u 190), true), .bin .lss (.u 192) (.u 194)⟩,
 oT 196 (.pick (.u 190) (.u 195) (.c (.bool false)))])
 (.cond (.t 196)
 (.regionD [⟨0, [0], false, [], oM 197 0⟩,
 ⟨1, [0], false, [], oM 198 0⟩,
 ⟨2, [198], false, [], oU 199 (.nilc (.u 198))⟩,
 ⟨3, [199], false, [], oU 200 (.faddr 4 (.u 199))⟩,
 ⟨4, [200], true, [], oU 201 (.load false 1 (.u 200))⟩,
 ⟨5, [8], true, [], oU 202 (.load true 5 (.t 8))⟩,
 ⟨6, [202], false, [], oU 203 (.mkS 5 1 [.int .i64 0, .int .i64 0, .int .i64 0, .int .i64 0, .int .i64 0] [(0, 5, (.u 202))])⟩,
 ⟨7, [201, 203], false, [], oU 204 (.appF 5 40 (.u 201) (.u 203))⟩,
 ⟨8, [197], false, [], oU 205 (.nilc (.u 197))⟩,
 ⟨9, [205], false, [], oU 206 (.faddr 4 (.u 205))⟩,
 ⟨10, [206, 204], false, [], oN (.store 1 (.u 206) (.u 204))⟩])
 (.skip))))
 (.skip))))))))))
def r37 : List LRes := []
theorem t37 : (Tryd.f37.body.bind (trCode v37 Tryd.prog Tryd.f37.ntmps)) = some c37 ∧ trRes v37 Tryd.prog Tryd.f37.results.toList = some r37 := ⟨by kernel_rfl, by kernel_rfl⟩

def v38 : Nat → Bool := fun t => [0, 1, 4, 5, 6, 7, 8, 9, 10, 21, 75, 93, 105, 122, 1000001].contains t
def c38 : LCode :=
 .seq (.region [oT 4 (.mov (.c (.fsl 1 0 [])))])
 (.seq (.region [oT 5 (.mov (.c (.fsl 1 0 [])))])
 (.block 0 (.loop (.block 1 (.seq (.region [oM 11 0,
 oU 12 (.nilc (.u 11)),
 oU 13 (.faddr 1 (.u 12)),
 oU 14 (.load false 1 (.u 13)),
 oT 6 (.mov (.u 14))])
 (.seq (.region [oM 15 0,
 oM 16 6,
 oU 17 (.call 60 [(.u 15), (.u 16)]),
 oT 7 (.mov (.u 17))])
 (.block 2 (.seq (.region [oM 22 7,
 oU 23 (.bin .geq (.u 22) (.c (.int .i64 0))),
 oU 24 (.mov (.u 23)),
 ⟨some 25, false, some ((.u 24), true), .mov (.t 0)⟩,
 ⟨some 26, false, some ((.u 24), true), .nilc (.u 25)⟩,
 ⟨some 27, false, some ((.u 24), true), .faddr 3 (.u 26)⟩,
 ⟨some 28, false, some ((.u 24), true), .load false 1 (.u 27)⟩,
 ⟨some 29, false, some ((.u 24), true), .mov (.t 7)⟩,
 ⟨some 30, false, some ((.u 24), true), .iaS 5 (.u 28) (.u 29)⟩,
 ⟨some 31, false, some ((.u 24), true), .faddr 4 (.u 30)⟩,
 ⟨some 32, false, some ((.u 24), true), .load false 1 (.u 31)⟩,
 ⟨some 33, false, some ((.u 24), true), .mov (.u 32)⟩,
 ⟨some 34, false, some ((.u 33), false), .mov (.t 6)⟩,
 ⟨some 35, false, some ((.u 33), false), .mov (.t 1)⟩,
 ⟨some 36, false, some ((.u 33), false), .bin .leq (.u 34) (.u 35)⟩,
 ⟨some 37, false, some ((.u 24), true), .pick (.u 33) (.c (.bool true)) (.u 36)⟩,
 oU 38 (.pick (.u 24) (.u 37) (.c (.bool false))),
 oT 21 (.mov (.u 38))])
 (.cond (.t 21)
 (.seq (.region [oM 39 5,
 oM 40 0,
 oU 41 (.nilc (.u 40)),
 oU 42 (.faddr 3 (.u 41)),
 oU 43 (.load false 1 (.u 42)),
 oM 44 7,
 oU 45 (.iaS 5 (.u 43) (.u 44)),
 oU 46 (.load true 5 (.u 45)),
 oU 47 (.call 59 [(.u 46)]),
 oU 48 (.mkS 5 1 [.int .i64 0, .int .i64 0, .int .i64 0, .fsl 1 0 [], .bool false] [(0, 5, (.u 47))]),
 oU 49 (.appF 5 56 (.u 39) (.u 48)),
 oT 5 (.mov (.u 49))])
 (.seq (.regionD [⟨0, [0], false, [], oM 50 0⟩,
 ⟨1, [0], false, [], oM 51 0⟩,
 ⟨2, [51], false, [], oU 52 (.nilc (.u 51))⟩,
 ⟨3, [52], false, [], oU 53 (.faddr 3 (.u 52))⟩,
 ⟨4, [53], true, [], oU 54 (.load false 1 (.u 53))⟩,
 ⟨5, [7], false, [], oM 55 7⟩,
 ⟨6, [54, 55], false, [], oU 56 (.slL 5 (.u 54) none (some (.u 55)) none)⟩,
 ⟨8, [0], false, [], oM 58 0⟩,
 ⟨9, [58], false, [], oU 59 (.nilc (.u 58))⟩,
 ⟨10, [59], false, [], oU 60 (.faddr 3 (.u 59))⟩,
 ⟨11, [60], true, [], oU 61 (.load false 1 (.u 60))⟩,
 ⟨12, [7], false, [], oM 62 7⟩,
 ⟨13, [62], false, [], oU 63 (.bin .add (.u 62) (.c (.int .i64 1)))⟩,
 ⟨14, [61, 63], false, [], oU 64 (.slL 5 (.u 61) (some (.u 63)) none none)⟩,
 ⟨7, [56], false, [11], oU 57 (.appF 5 56 (.c (.fsl 1 0 [])) (.u 56))⟩,
 ⟨15, [57, 64], false, [], oU 65 (.appF 5 56 (.u 57) (.u 64))⟩,
 ⟨16, [50], false, [], oU 66 (.nilc (.u 50))⟩,
 ⟨17, [66], false, [], oU 67 (.faddr 3 (.u 66))⟩,
 ⟨18, [67, 65], false, [], oN (.store 1 (.u 67) (.u 65))⟩])
 (.region [oM 68 0,
 oU 69 (.nilc (.u 68)),
 oU 70 (.faddr 1 (.u 69)),
 oU 71 (.load false 1 (.u 70)),
 oU 72 (.bin .add (.u 71) (.c (.int .i64 1))),
 oU 73 (.nilc (.u 68)),
 oU 74 (.faddr 1 (.u 73)),
 oN (.store 1 (.u 74) (.u 72))])))
 (.seq (.region [oM 76 7,
 oU 77 (.bin .lss (.u 76) (.c (.int .i64 0))),
 oU 78 (.mov (.u 77)),
 ⟨some 79, false, some ((.u 78), true), .mov (.t 0)⟩,
 ⟨some 80, false, some ((.u 78), true), .mov (.t 6)⟩,
 ⟨some 81, false, some ((.u 78), true), .call 64 [(.u 79), (.u 80)]⟩,
 ⟨some 82, false, some ((.u 78), true), .bin .gtr (.u 81) (.c (.int .i64 0))⟩,
 oU 83 (.pick (.u 78) (.u 82) (.c (.bool false))),
 oT 75 (.mov (.u 83))])
 (.cond (.t 75)
 (.seq (.region [oM 84 0,
 oM 85 6,
 oU 86 (.call 64 [(.u 84), (.u 85)]),
 oT 8 (.mov (.u 86))])
 (.seq (.seq (.region [oT 9 (.mov (.c (.int .i64 0)))])
 (.block 3 (.loop (.seq (.seq (.region [oM 87 9,
 oM 88 0,
 oU 89 (.nilc (.u 88)),
 oU 90 (.faddr 3 (.u 89)),
 oU 91 (.load false 1 (.u 90)),
 oU 92 (.lenL (.u 91)),
 oT 93 (.bin .lss (.u 87) (.u 92))])
 (.cond (.t 93)
 (.skip)
 (.exit 3)))
 (.seq (.block 4 (.seq (.region [oM 96 0,
 oU 97 (.nilc (.u 96)),
 oU 98 (.faddr 3 (.u 97)),
 oU 99 (.load false 1 (.u 98)),
 oM 100 9,
 oU 101 (.iaS 5 (.u 99) (.u 100)),
 oU 102 (.faddr 1 (.u 101)),
 oU 103 (.load false 1 (.u 102)),
 oM 104 6,
 oT 105 (.bin .gtr (.u 103) (.u 104))])
 (.cond (.t 105)
 (.region [oM 106 8,
 oM 107 0,
 oU 108 (.nilc (.u 107)),
 oU 109 (.faddr 3 (.u 108)),
 oU 110 (.load false 1 (.u 109)),
 oM 111 9,
 oU 112 (.iaS 5 (.u 110) (.u 111)),
 oU 113 (.faddr 1 (.u 112)),
 oU 114 (.load false 1 (.u 113)),
 oU 115 (.bin .sub (.u 114) (.c (.int .i64 1))),
 oU 116 (.mm false (.u 106) [(.u 115)]),
 oT 8 (.mov (.u 116))])
 (.skip))))
 (.region [oM 94 9,
 oU 95 (.bin .add (.u 94) (.c (.int .i64 1))),
 oT 9 (.mov (.u 95))]))))))
 (.region [oM 117 0,
 oM 118 8,
 oU 119 (.bin .add (.u 118) (.c (.int .i64 1))),
 oU 120 (.nilc (.u 117)),
 oU 121 (.faddr 1 (.u 120)),
 oN (.store 1 (.u 121) (.u 119))])))
 (.seq (.region [oM 123 7,
 oU 124 (.bin .lss (.u 123) (.c (.int .i64 0))),
 oU 125 (.mov (.u 124)),
 ⟨some 126, false, some ((.u 125), true), .mov (.t 6)⟩,
 ⟨some 127, false, some ((.u 125), true), .mov (.t 1)⟩,
 ⟨some 128, false, some ((.u 125), true), .bin .leq (.u 126) (.u 127)⟩,
 oU 129 (.pick (.u 125) (.u 128) (.c (.bool false))),
 oT 122 (.mov (.u 129))])
 (.cond (.t 122)
 (.seq (.region [oM 130 0,
 oM 131 6,
 oM 132 1,
 oU 133 (.call 65 [(.u 130), (.u 131), (.u 132)]),
 oT 10 (.mov (.u 133))])
 (.seq (.region [oM 134 0,
 oM 135 6,
 oM 136 10,
 oU 137 (.call 66 [(.u 134), (.u 135), (.u 136)])])
 (.region [oM 138 0,
 oM 139 10,
 oU 140 (.bin .add (.u 139) (.c (.int .i64 1))),
 oU 141 (.nilc (.u 138)),
 oU 142 (.faddr 1 (.u 141)),
 oN (.store 1 (.u 142) (.u 140))])))
 (.seq (.region [oM 18 0,
 oU 19 (.call 67 [(.u 18)])])
 (.seq (.region [oM 20 5,
 oT 4 (.mov (.u 20))])
 (.ret))))))))))))))))
def r38 : List LRes := [.slot 4]
theorem t38 : (Tryd.f38.body.bind (trCode v38 Tryd.prog Tryd.f38.ntmps)) = some c38 ∧ trRes v38 Tryd.prog Tryd.f38.results.toList = some r38 := ⟨by kernel_rfl, by kernel_rfl⟩

def v39 : Nat → Bool := fun t => [0, 1, 4].contains t
def c39 : LCode :=
 .seq (.region [oT 4 (.zero [.str [], .int .i64 0, .int .i64 0, .str []])])
 (.seq (.region [oM 5 0,
 oM 6 1,
 oU 7 (.build [.str [], .int .i64 0, .int .i64 0, .str []] [(0, 1, (.u 5)), (1, 1, (.c (.int .i64 1))), (2, 1, (.u 6))]),
 oN (.store 4 (.t 4) (.u 7))])
 (.ret))
def r39 : List LRes := [.cell true 4 4]
theorem t39 : (Tryd.f39.body.bind (trCode v39 Tryd.prog Tryd.f39.ntmps)) = some c39 ∧ trRes v39 Tryd.prog Tryd.f39.results.toList = some r39 := ⟨by kernel_rfl, by kernel_rfl⟩

def v40 : Nat → Bool := fun t => [0, 2, 3, 4, 5, 10, 19].contains t
def c40 : LCode :=
 .seq (.region [oT 2 (.zero [.str [], .int .i64 0, .bool false]),
 oT 3 (.mov (.c (.bool false)))])
 (.seq (.region [oU 6 (.call 68 []),
 oT 4 (.mov (.u 6))])
 (.seq (.seq (.region [oT 5 (.mov (.c (.int .i64 0)))])
 (.block 0 (.loop (.seq (.seq (.region [oM 7 5,
 oM 8 4,
 oU 9 (.lenL (.u 8)),
 oT 10 (.bin .lss (.u 7) (.u 9))])
 (.cond (.t 10)
 (.skip)
 (.exit 0)))
 (.seq (.block 1 (.seq (.region [oM 13 4,
 oM 14 5,
 oU 15 (.iaS 3 (.u 13) (.u 14)),
 oU 16 (.faddr 1 (.u 15)),
 oU 17 (.load false 1 (.u 16)),
 oM 18 0,
 oT 19 (.bin .eql (.u 17) (.u 18))])
 (.cond (.t 19)
 (.seq (.region [oM 20 4,
 oM 21 5,
 oU 22 (.iaS 3 (.u 20) (.u 21)),
 oU 23 (.load true 3 (.u 22)),
 oN (.store 3 (.t 2) (.u 23)),
 oT 3 (.mov (.c (.bool true)))])
 (.ret))
 (.skip))))
 (.region [oM 11 5,
 oU 12 (.bin .add (.u 11) (.c (.int .i64 1))),
 oT 5 (.mov (.u 12))]))))))
 (.seq (.region [oU 24 (.build [.str [], .int .i64 0, .bool false] []),
 oN (.store 3 (.t 2) (.u 24)),
 oT 3 (.mov (.c (.bool false)))])
 (.ret))))
def r40 : List LRes := [.cell true 3 2, .slot 3]
theorem t40 : (Tryd.f40.body.bind (trCode v40 Tryd.prog Tryd.f40.ntmps)) = some c40 ∧ trRes v40 Tryd.prog Tryd.f40.results.toList = some r40 := ⟨by kernel_rfl, by kernel_rfl⟩

def v58 : Nat → Bool := fun t => [0, 1, 4, 5, 10, 14, 26].contains t
def c58 : LCode :=
 .seq (.region [oT 4 (.mov (.c (.bool false)))])
 (.seq (.seq (.region [oM 6 0,
 oU 7 (.lenL (.u 6)),
 oM 8 1,
 oU 9 (.lenL (.u 8)),
 oT 10 (.bin .neq (.u 7) (.u 9))])
 (.cond (.t 10)
 (.seq (.region [oT 4 (.mov (.c (.bool false)))])
 (.ret))
 (.skip)))
 (.seq (.seq (.region [oT 5 (.mov (.c (.int .i64 0)))])
 (.block 0 (.loop (.seq (.seq (.region [oM 11 5,
 oM 12 0,
 oU 13 (.lenL (.u 12)),
 oT 14 (.bin .lss (.u 11) (.u 13))])
 (.cond (.t 14)
 (.skip)
 (.exit 0)))
 (.seq (.block 1 (.seq (.regionD [⟨0, [0], false, [], oM 17 0⟩,
 ⟨1, [5], false, [], oM 18 5⟩,
 ⟨2, [17, 18], false, [], oU 19 (.iaS 4 (.u 17) (.u 18))⟩,
 ⟨3, [19], true, [], oU 20 (.load true 4 (.u 19))⟩,
 ⟨4, [1], false, [], oM 21 1⟩,
 ⟨5, [5], false, [], oM 22 5⟩,
 ⟨6, [21, 22], false, [], oU 23 (.iaS 4 (.u 21) (.u 22))⟩,
 ⟨7, [23], true, [], oU 24 (.load true 4 (.u 23))⟩,
 ⟨8, [20, 24], false, [], oU 25 (.call 76 [(.u 20), (.u 24)])⟩,
 ⟨9, [25], false, [], oT 26 (.un .not (.u 25))⟩])
 (.cond (.t 26)
 (.seq (.region [oT 4 (.mov (.c (.bool false)))])
 (.ret))
 (.skip))))
 (.region [oM 15 5,
 oU 16 (.bin .add (.u 15) (.c (.int .i64 1))),
 oT 5 (.mov (.u 16))]))))))
 (.seq (.region [oT 4 (.mov (.c (.bool true)))])
 (.ret))))
def r58 : List LRes := [.slot 4]
theorem t58 : (Tryd.f58.body.bind (trCode v58 Tryd.prog Tryd.f58.ntmps)) = some c58 ∧ trRes v58 Tryd.prog Tryd.f58.results.toList = some r58 := ⟨by kernel_rfl, by kernel_rfl⟩

def v59 : Nat → Bool := fun t => [0, 1, 2, 3, 4, 9].contains t
def c59 : LCode :=
 .seq (.region [oT 1 (.box (.t 0)),
 oT 2 (.zero [.int .i64 0, .int .i64 0, .int .i64 0, .fsl 1 0 [], .bool false])])
 (.seq (.region [oT 3 (.mov (.c (.fsl 1 0 [])))])
 (.seq (.seq (.region [oT 4 (.mov (.c (.int .i64 0)))])
 (.block 0 (.loop (.seq (.seq (.region [oM 5 4,
 oU 6 (.faddr 3 (.t 1)),
 oU 7 (.load false 1 (.u 6)),
 oU 8 (.lenL (.u 7)),
 oT 9 (.bin .lss (.u 5) (.u 8))])
 (.cond (.t 9)
 (.skip)
 (.exit 0)))
 (.seq (.block 1 (.regionD [⟨0, [3], false, [], oM 12 3⟩,
 ⟨1, [1], false, [], oU 13 (.faddr 3 (.t 1))⟩,
 ⟨2, [13], true, [], oU 14 (.load false 1 (.u 13))⟩,
 ⟨3, [4], false, [], oM 15 4⟩,
 ⟨4, [4], false, [], oM 16 4⟩,
 ⟨5, [16], false, [], oU 17 (.bin .add (.u 16) (.c (.int .i64 1)))⟩,
 ⟨6, [14, 15, 17], false, [], oU 18 (.slL 4 (.u 14) (some (.u 15)) (some (.u 17)) none)⟩,
 ⟨7, [1], false, [], oU 19 (.faddr 3 (.t 1))⟩,
 ⟨8, [19], true, [], oU 20 (.load false 1 (.u 19))⟩,
 ⟨9, [4], false, [], oM 21 4⟩,
 ⟨10, [20, 21], false, [], oU 22 (.iaS 4 (.u 20) (.u 21))⟩,
 ⟨11, [22], false, [], oU 23 (.faddr 2 (.u 22))⟩,
 ⟨12, [23], true, [], oU 24 (.load false 1 (.u 23))⟩,
 ⟨13, [18, 24], false, [], oU 25 (.call 26 [(.u 18), (.u 24)])⟩,
 ⟨14, [12, 25], false, [], oU 26 (.app 4 48 (.u 12) (.u 25))⟩,
 ⟨15, [26], false, [], oT 3 (.mov (.u 26))⟩]))
 (.region [oM 10 4,
 oU 11 (.bin .add (.u 10) (.c (.int .i64 1))),
 oT 4 (.mov (.u 11))]))))))
 (.seq (.region [oM 27 3,
 oU 28 (.faddr 3 (.t 1)),
 oN (.store 1 (.u 28) (.u 27))])
 (.seq (.region [oU 29 (.load true 5 (.t 1)),
 oN (.store 5 (.t 2) (.u 29))])
 (.ret)))))
def r59 : List LRes := [.cell true 5 2]
theorem t59 : (Tryd.f59.body.bind (trCode v59 Tryd.prog Tryd.f59.ntmps)) = some c59 ∧ trRes v59 Tryd.prog Tryd.f59.results.toList = some r59 := ⟨by kernel_rfl, by kernel_rfl⟩

def v60 : Nat → Bool := fun t => [0, 1, 4, 5, 12, 24].contains t
def c60 : LCode :=
 .seq (.region [oT 4 (.mov (.c (.int .i64 0)))])
 (.seq (.seq (.region [oT 5 (.mov (.c (.int .i64 0)))])
 (.block 0 (.loop (.seq (.seq (.region [oM 6 5,
 oM 7 0,
 oU 8 (.nilc (.u 7)),
 oU 9 (.faddr 3 (.u 8)),
 oU 10 (.load false 1 (.u 9)),
 oU 11 (.lenL (.u 10)),
 oT 12 (.bin .lss (.u 6) (.u 11))])
 (.cond (.t 12)
 (.skip)
 (.exit 0)))
 (.seq (.block 1 (.seq (.region [oM 15 0,
 oU 16 (.nilc (.u 15)),
 oU 17 (.faddr 3 (.u 16)),
 oU 18 (.load false 1 (.u 17)),
 oM 19 5,
 oU 20 (.iaS 5 (.u 18) (.u 19)),
 oU 21 (.faddr 1 (.u 20)),
 oU 22 (.load false 1 (.u 21)),
 oM 23 1,
 oT 24 (.bin .eql (.u 22) (.u 23))])
 (.cond (.t 24)
 (.seq (.region [oM 25 5,
 oT 4 (.mov (.u 25))])
 (.ret))
 (.skip))))
 (.region [oM 13 5,
 oU 14 (.bin .add (.u 13) (.c (.int .i64 1))),
 oT 5 (.mov (.u 14))]))))))
 (.seq (.region [oT 4 (.mov (.c (.int .i64 (-1))))])
 (.ret)))
def r60 : List LRes := [.slot 4]
theorem t60 : (Tryd.f60.body.bind (trCode v60 Tryd.prog Tryd.f60.ntmps)) = some c60 ∧ trRes v60 Tryd.prog Tryd.f60.results.toList = some r60 := ⟨by kernel_rfl, by kernel_rfl⟩

def v61 : Nat → Bool := fun t => [0, 1, 2, 4, 5, 6, 7, 15, 33, 37, 42, 52, 56, 71].contains t
def c61 : LCode :=
 .seq (.region [oT 1 (.box (.t 0)),
 oT 2 (.mov (.c (.int .i64 0)))])
 (.seq (.seq (.region [oU 9 (.faddr 0 (.t 1)),
 oU 10 (.load false 1 (.u 9)),
 oU 11 (.call 40 [(.u 10)]),
 oU 8 (.mov (.u 11)),
 oU 12 (.ext (.u 8) 0),
 oU 13 (.ext (.u 8) 1),
 oU 3 (.zero [.str [], .int .i64 0, .bool false]),
 oN (.store 3 (.u 3) (.u 12)),
 oT 4 (.mov (.u 13))])
 (.seq (.region [oM 14 4,
 oT 15 (.un .not (.u 14))])
 (.cond (.t 15)
 (.seq (.region [oT 2 (.mov (.c (.int .i64 30)))])
 (.ret))
 (.skip))))
 (.seq (.seq (.region [oU 16 (.faddr 1 (.t 1)),
 oU 17 (.load false 1 (.u 16)),
 oU 18 (.bin .lss (.u 17) (.c (.int .i64 0))),
 oU 19 (.mov (.u 18)),
 ⟨some 20, false, some ((.u 19), false), .faddr 1 (.t 1)⟩,
 ⟨some 21, false, some ((.u 19), false), .load false 1 (.u 20)⟩,
 ⟨some 22, false, some ((.u 19), false), .bin .gtr (.u 21) (.c (.int .i64 1099511627776))⟩,
 oU 23 (.pick (.u 19) (.c (.bool true)) (.u 22)),
 oU 24 (.mov (.u 23)),
 ⟨some 25, false, some ((.u 24), false), .faddr 2 (.t 1)⟩,
 ⟨some 26, false, some ((.u 24), false), .load false 1 (.u 25)⟩,
 ⟨some 27, false, some ((.u 24), false), .bin .lss (.u 26) (.c (.int .i64 0))⟩,
 oU 28 (.pick (.u 24) (.c (.bool true)) (.u 27)),
 oU 29 (.mov (.u 28)),
 ⟨some 30, false, some ((.u 29), false), .faddr 2 (.t 1)⟩,
 ⟨some 31, false, some ((.u 29), false), .load false 1 (.u 30)⟩,
 ⟨some 32, false, some ((.u 29), false), .bin .gtr (.u 31) (.c (.int .i64 1073741824))⟩,
 oT 33 (.pick (.u 29) (.c (.bool true)) (.u 32))])
 (.cond (.t 33)
 (.seq (.region [oT 2 (.mov (.c (.int .i64 31)))])
 (.ret))
 (.skip)))
 (.seq (.seq (.region [oU 34 (.faddr 3 (.t 1)),
 oU 35 (.load false 1 (.u 34)),
 oU 36 (.lenL (.u 35)),
 oT 37 (.bin .gtr (.u 36) (.c (.int .i64 24)))])
 (.cond (.t 37)
 (.seq (.region [oT 2 (.mov (.c (.int .i64 32)))])
 (.ret))
 (.skip)))
 (.seq (.seq (.region [oT 5 (.mov (.c (.int .i64 0)))])
 (.block 0 (.loop (.seq (.seq (.region [oM 38 5,
 oU 39 (.faddr 3 (.t 1)),
 oU 40 (.load false 1 (.u 39)),
 oU 41 (.lenL (.u 40)),
 oT 42 (.bin .lss (.u 38) (.u 41))])
 (.cond (.t 42)
 (.skip)
 (.exit 0)))
 (.seq (.block 1 (.seq (.seq (.region [oU 45 (.faddr 3 (.t 1)),
 oU 46 (.load false 1 (.u 45)),
 oM 47 5,
 oU 48 (.iaS 4 (.u 46) (.u 47)),
 oU 49 (.load true 4 (.u 48)),
 oU 50 (.call 77 [(.u 49)]),
 oT 6 (.mov (.u 50))])
 (.seq (.region [oM 51 6,
 oT 52 (.bin .neq (.u 51) (.c (.int .i64 0)))])
 (.cond (.t 52)
 (.seq (.region [oM 53 6,
 oT 2 (.mov (.u 53))])
 (.ret))
 (.skip))))
 (.seq (.region [oT 7 (.mov (.c (.int .i64 0)))])
 (.block 2 (.loop (.seq (.seq (.region [oM 54 7,
 oM 55 5,
 oT 56 (.bin .lss (.u 54) (.u 55))])
 (.cond (.t 56)
 (.skip)
 (.exit 2)))
 (.seq (.block 3 (.seq (.regionD [⟨0, [1], false, [], oU 59 (.faddr 3 (.t 1))⟩,
 ⟨1, [59], true, [], oU 60 (.load false 1 (.u 59))⟩,
 ⟨2, [7], false, [], oM 61 7⟩,
 ⟨3, [60, 61], false, [], oU 62 (.iaS 4 (.u 60) (.u 61))⟩,
 ⟨4, [62], false, [], oU 63 (.faddr 0 (.u 62))⟩,
 ⟨5, [63], true, [], oU 64 (.load false 1 (.u 63))⟩,
 ⟨6, [1], false, [], oU 65 (.faddr 3 (.t 1))⟩,
 ⟨7, [65], true, [], oU 66 (.load false 1 (.u 65))⟩,
 ⟨8, [5], false, [], oM 67 5⟩,
 ⟨9, [66, 67], false, [], oU 68 (.iaS 4 (.u 66) (.u 67))⟩,
 ⟨10, [68], false, [], oU 69 (.faddr 0 (.u 68))⟩,
 ⟨11, [69], true, [], oU 70 (.load false 1 (.u 69))⟩,
 ⟨12, [64, 70], false, [], oT 71 (.bin .eql (.u 64) (.u 70))⟩])
 (.cond (.t 71)
 (.seq (.region [oT 2 (.mov (.c (.int .i64 33)))])
 (.ret))
 (.skip))))
 (.region [oM 57 7,
 oU 58 (.bin .add (.u 57) (.c (.int .i64 1))),
 oT 7 (.mov (.u 58))]))))))))
 (.region [oM 43 5,
 oU 44 (.bin .add (.u 43) (.c (.int .i64 1))),
 oT 5 (.mov (.u 44))]))))))
 (.seq (.region [oT 2 (.mov (.c (.int .i64 0)))])
 (.ret))))))
def r61 : List LRes := [.slot 2]
theorem t61 : (Tryd.f61.body.bind (trCode v61 Tryd.prog Tryd.f61.ntmps)) = some c61 ∧ trRes v61 Tryd.prog Tryd.f61.results.toList = some r61 := ⟨by kernel_rfl, by kernel_rfl⟩

def v62 : Nat → Bool := fun t => [0, 1, 2, 3, 5].contains t
def c62 : LCode :=
 .seq (.region [oT 1 (.box (.t 0)),
 oT 2 (.mov (.c (.bool false)))])
 (.seq (.region [oU 8 (.load true 4 (.t 1)),
 oU 9 (.call 78 [(.u 8), (.c (.str [102, 105, 114, 115, 116]))]),
 oU 7 (.mov (.u 9)),
 oU 10 (.ext (.u 7) 0),
 oU 11 (.ext (.u 7) 1),
 oT 3 (.zero [.str [], .int .i64 0, .int .i64 0, .str []]),
 oN (.store 4 (.t 3) (.u 10)),
 oU 4 (.mov (.u 11))])
 (.seq (.region [oU 13 (.load true 4 (.t 1)),
 oU 14 (.call 78 [(.u 13), (.c (.str [108, 97, 115, 116]))]),
 oU 12 (.mov (.u 14)),
 oU 15 (.ext (.u 12) 0),
 oU 16 (.ext (.u 12) 1),
 oT 5 (.zero [.str [], .int .i64 0, .int .i64 0, .str []]),
 oN (.store 4 (.t 5) (.u 15)),
 oU 6 (.mov (.u 16))])
 (.seq (.region [oU 17 (.faddr 1 (.t 3)),
 oU 18 (.load false 1 (.u 17)),
 oU 19 (.bin .eql (.u 18) (.c (.int .i64 1))),
 oU 20 (.mov (.u 19)),
 ⟨some 21, false, some ((.u 20), true), .faddr 1 (.t 5)⟩,
 ⟨some 22, false, some ((.u 20), true), .load false 1 (.u 21)⟩,
 ⟨some 23, false, some ((.u 20), true), .bin .eql (.u 22) (.c (.int .i64 1))⟩,
 oU 24 (.pick (.u 20) (.u 23) (.c (.bool false))),
 oT 2 (.mov (.u 24))])
 (.ret))))
def r62 : List LRes := [.slot 2]
theorem t62 : (Tryd.f62.body.bind (trCode v62 Tryd.prog Tryd.f62.ntmps)) = some c62 ∧ trRes v62 Tryd.prog Tryd.f62.results.toList = some r62 := ⟨by kernel_rfl, by kernel_rfl⟩

def v63 : Nat → Bool := fun t => [0, 1, 2, 4, 5].contains t
def c63 : LCode :=
 .seq (.region [oT 2 (.box (.t 0)),
 oT 4 (.mov (.c (.int .i64 0)))])
 (.seq (.region [oU 8 (.load true 4 (.t 2)),
 oM 9 1,
 oU 10 (.call 78 [(.u 8), (.u 9)]),
 oU 7 (.mov (.u 10)),
 oU 11 (.ext (.u 7) 0),
 oU 12 (.ext (.u 7) 1),
 oT 5 (.zero [.str [], .int .i64 0, .int .i64 0, .str []]),
 oN (.store 4 (.t 5) (.u 11)),
 oU 6 (.mov (.u 12))])
 (.seq (.region [oU 13 (.faddr 2 (.t 5)),
 oU 14 (.load false 1 (.u 13)),
 oT 4 (.mov (.u 14))])
 (.ret)))
def r63 : List LRes := [.slot 4]
theorem t63 : (Tryd.f63.body.bind (trCode v63 Tryd.prog Tryd.f63.ntmps)) = some c63 ∧ trRes v63 Tryd.prog Tryd.f63.results.toList = some r63 := ⟨by kernel_rfl, by kernel_rfl⟩

def v64 : Nat → Bool := fun t => [0, 1, 4, 5, 12, 36].contains t
def c64 : LCode :=
 .seq (.region [oT 4 (.mov (.c (.int .i64 0)))])
 (.seq (.seq (.region [oT 5 (.mov (.c (.int .i64 0)))])
 (.block 0 (.loop (.seq (.seq (.region [oM 6 5,
 oM 7 0,
 oU 8 (.nilc (.u 7)),
 oU 9 (.faddr 4 (.u 8)),
 oU 10 (.load false 1 (.u 9)),
 oU 11 (.lenL (.u 10)),
 oT 12 (.bin .lss (.u 6) (.u 11))])
 (.cond (.t 12)
 (.skip)
 (.exit 0)))
 (.seq (.block 1 (.seq (.region [oM 15 0,
 oU 16 (.nilc (.u 15)),
 oU 17 (.faddr 4 (.u 16)),
 oU 18 (.load false 1 (.u 17)),
 oM 19 5,
 oU 20 (.iaS 5 (.u 18) (.u 19)),
 oU 21 (.faddr 0 (.u 20)),
 oU 22 (.load false 1 (.u 21)),
 oM 23 1,
 oU 24 (.bin .leq (.u 22) (.u 23)),
 oU 25 (.mov (.u 24)),
 ⟨some 26, false, some ((.u 25), true), .mov (.t 1)⟩,
 ⟨some 27, false, some ((.u 25), true), .mov (.t 0)⟩,
 ⟨some 28, false, some ((.u 25), true), .nilc (.u 27)⟩,
 ⟨some 29, false, some ((.u 25), true), .faddr 4 (.u 28)⟩,
 ⟨some 30, false, some ((.u 25), true), .load false 1 (.u 29)⟩,
 ⟨some 31, false, some ((.u 25), true), .mov (.t 5)⟩,
 ⟨some 32, false, some ((.u 25), true), .iaS 5 (.u 30) (.u 31)⟩,
 ⟨some 33, false, some ((.u 25), true), .faddr 1 (.u 32)⟩,
 ⟨some 34, false, some ((.u 25), true), .load false 1 (.u 33)⟩,
 ⟨some 35, false, some ((.u 25), true), .bin .leq (.u 26) (.u 34)⟩,
 oT 36 (.pick (.u 25) (.u 35) (.c (.bool false)))])
 (.cond (.t 36)
 (.seq (.region [oM 37 0,
 oU 38 (.nilc (.u 37)),
 oU 39 (.faddr 4 (.u 38)),
 oU 40 (.load false 1 (.u 39)),
 oM 41 5,
 oU 42 (.iaS 5 (.u 40) (.u 41)),
 oU 43 (.faddr 1 (.u 42)),
 oU 44 (.load false 1 (.u 43)),
 oT 4 (.mov (.u 44))])
 (.ret))
 (.skip))))
 (.region [oM 13 5,
 oU 14 (.bin .add (.u 13) (.c (.int .i64 1))),
 oT 5 (.mov (.u 14))]))))))
 (.seq (.region [oT 4 (.mov (.c (.int .i64 0)))])
 (.ret)))
def r64 : List LRes := [.slot 4]
theorem t64 : (Tryd.f64.body.bind (trCode v64 Tryd.prog Tryd.f64.ntmps)) = some c64 ∧ trRes v64 Tryd.prog Tryd.f64.results.toList = some r64 := ⟨by kernel_rfl, by kernel_rfl⟩

def v65 : Nat → Bool := fun t => [0, 1, 2, 6, 7, 8, 15, 27, 45, 57].contains t
def c65 : LCode :=
 .seq (.region [oT 6 (.mov (.c (.int .i64 0)))])
 (.seq (.seq (.region [oT 7 (.mov (.c (.int .i64 0)))])
 (.block 0 (.loop (.seq (.seq (.region [oM 9 7,
 oM 10 0,
 oU 11 (.nilc (.u 10)),
 oU 12 (.faddr 3 (.u 11)),
 oU 13 (.load false 1 (.u 12)),
 oU 14 (.lenL (.u 13)),
 oT 15 (.bin .lss (.u 9) (.u 14))])
 (.cond (.t 15)
 (.skip)
 (.exit 0)))
 (.seq (.block 1 (.seq (.region [oM 18 0,
 oU 19 (.nilc (.u 18)),
 oU 20 (.faddr 3 (.u 19)),
 oU 21 (.load false 1 (.u 20)),
 oM 22 7,
 oU 23 (.iaS 5 (.u 21) (.u 22)),
 oU 24 (.faddr 1 (.u 23)),
 oU 25 (.load false 1 (.u 24)),
 oM 26 1,
 oT 27 (.bin .gtr (.u 25) (.u 26))])
 (.cond (.t 27)
 (.region [oM 28 2,
 oM 29 0,
 oU 30 (.nilc (.u 29)),
 oU 31 (.faddr 3 (.u 30)),
 oU 32 (.load false 1 (.u 31)),
 oM 33 7,
 oU 34 (.iaS 5 (.u 32) (.u 33)),
 oU 35 (.faddr 1 (.u 34)),
 oU 36 (.load false 1 (.u 35)),
 oU 37 (.bin .sub (.u 36) (.c (.int .i64 1))),
 oU 38 (.mm false (.u 28) [(.u 37)]),
 oT 2 (.mov (.u 38))])
 (.skip))))
 (.region [oM 16 7,
 oU 17 (.bin .add (.u 16) (.c (.int .i64 1))),
 oT 7 (.mov (.u 17))]))))))
 (.seq (.seq (.region [oT 8 (.mov (.c (.int .i64 0)))])
 (.block 2 (.loop (.seq (.seq (.region [oM 39 8,
 oM 40 0,
 oU 41 (.nilc (.u 40)),
 oU 42 (.faddr 4 (.u 41)),
 oU 43 (.load false 1 (.u 42)),
 oU 44 (.lenL (.u 43)),
 oT 45 (.bin .lss (.u 39) (.u 44))])
 (.cond (.t 45)
 (.skip)
 (.exit 2)))
 (.seq (.block 3 (.seq (.region [oM 48 0,
 oU 49 (.nilc (.u 48)),
 oU 50 (.faddr 4 (.u 49)),
 oU 51 (.load false 1 (.u 50)),
 oM 52 8,
 oU 53 (.iaS 5 (.u 51) (.u 52)),
 oU 54 (.faddr 0 (.u 53)),
 oU 55 (.load false 1 (.u 54)),
 oM 56 1,
 oT 57 (.bin .gtr (.u 55) (.u 56))])
 (.cond (.t 57)
 (.region [oM 58 2,
 oM 59 0,
 oU 60 (.nilc (.u 59)),
 oU 61 (.faddr 4 (.u 60)),
 oU 62 (.load false 1 (.u 61)),
 oM 63 8,
 oU 64 (.iaS 5 (.u 62) (.u 63)),
 oU 65 (.faddr 0 (.u 64)),
 oU 66 (.load false 1 (.u 65)),
 oU 67 (.bin .sub (.u 66) (.c (.int .i64 1))),
 oU 68 (.mm false (.u 58) [(.u 67)]),
 oT 2 (.mov (.u 68))])
 (.skip))))
 (.region [oM 46 8,
 oU 47 (.bin .add (.u 46) (.c (.int .i64 1))),
 oT 8 (.mov (.u 47))]))))))
 (.seq (.region [oM 69 2,
 oT 6 (.mov (.u 69))])
 (.ret))))
def r65 : List LRes := [.slot 6]
theorem t65 : (Tryd.f65.body.bind (trCode v65 Tryd.prog Tryd.f65.ntmps)) = some c65 ∧ trRes v65 Tryd.prog Tryd.f65.results.toList = some r65 := ⟨by kernel_rfl, by kernel_rfl⟩

def v66 : Nat → Bool := fun t => [0, 1, 2, 6, 27].contains t
def c66 : LCode :=
 .seq (.region [oM 7 0,
 oU 8 (.nilc (.u 7)),
 oU 9 (.faddr 5 (.u 8)),
 oU 10 (.load false 1 (.u 9)),
 oU 11 (.lenL (.u 10)),
 oT 6 (.mov (.u 11))])
 (.seq (.seq (.region [oM 12 6,
 oU 13 (.bin .gtr (.u 12) (.c (.int .i64 0))),
 oU 14 (.mov (.u 13)),
 ⟨some 15, false, some ((.u 14), true), .mov (.t 0)⟩,
 ⟨some 16, false, some ((.u 14), true), .nilc (.u 15)⟩,
 ⟨some 17, false, some ((.u 14), true), .faddr 5 (.u 16)⟩,
 ⟨some 18, false, some ((.u 14), true), .load false 1 (.u 17)⟩,
 ⟨some 19, false, some ((.u 14), true), .mov (.t 6)⟩,
 ⟨some 20, false, some ((.u 14), true), .bin .sub (.u 19) (.c (.int .i64 1))⟩,
 ⟨some 21, false, some ((.u 14), true), .iaS 2 (.u 18) (.u 20)⟩,
 ⟨some 22, false, some ((.u 14), true), .faddr 1 (.u 21)⟩,
 ⟨some 23, false, some ((.u 14), true), .load false 1 (.u 22)⟩,
 ⟨some 24, false, some ((.u 14), true), .mov (.t 1)⟩,
 ⟨some 25, false, some ((.u 14), true), .bin .sub (.u 24) (.c (.int .i64 1))⟩,
 ⟨some 26, false, some ((.u 14), true), .bin .eql (.u 23) (.u 25)⟩,
 oT 27 (.pick (.u 14) (.u 26) (.c (.bool false)))])
 (.cond (.t 27)
 (.seq (.region [oM 28 0,
 oU 29 (.nilc (.u 28)),
 oU 30 (.faddr 5 (.u 29)),
 oU 31 (.load false 1 (.u 30)),
 oM 32 6,
 oU 33 (.bin .sub (.u 32) (.c (.int .i64 1))),
 oM 34 2,
 oU 35 (.iaS 2 (.u 31) (.u 33)),
 oU 36 (.faddr 1 (.u 35)),
 oN (.store 1 (.u 36) (.u 34))])
 (.ret))
 (.skip)))
 (.region [oM 37 0,
 oM 38 0,
 oU 39 (.nilc (.u 38)),
 oU 40 (.faddr 5 (.u 39)),
 oU 41 (.load false 1 (.u 40)),
 oM 42 1,
 oM 43 2,
 oU 44 (.build [.int .i64 0, .int .i64 0] [(0, 1, (.u 42)), (1, 1, (.u 43))]),
 oU 45 (.mkS 2 1 [.int .i64 0, .int .i64 0] [(0, 2, (.u 44))]),
 oU 46 (.app 2 16 (.u 41) (.u 45)),
 oU 47 (.nilc (.u 37)),
 oU 48 (.faddr 5 (.u 47)),
 oN (.store 1 (.u 48) (.u 46))]))
def r66 : List LRes := []
theorem t66 : (Tryd.f66.body.bind (trCode v66 Tryd.prog Tryd.f66.ntmps)) = some c66 ∧ trRes v66 Tryd.prog Tryd.f66.results.toList = some r66 := ⟨by kernel_rfl, by kernel_rfl⟩

def v67 : Nat → Bool := fun t => [0, 2, 3, 10, 25, 1000001].contains t
def c67 : LCode :=
 .seq (.region [oT 2 (.mov (.c (.fsl 1 0 [])))])
 (.seq (.seq (.region [oT 3 (.mov (.c (.int .i64 0)))])
 (.block 0 (.loop (.seq (.seq (.region [oM 4 3,
 oM 5 0,
 oU 6 (.nilc (.u 5)),
 oU 7 (.faddr 4 (.u 6)),
 oU 8 (.load false 1 (.u 7)),
 oU 9 (.lenL (.u 8)),
 oT 10 (.bin .lss (.u 4) (.u 9))])
 (.cond (.t 10)
 (.skip)
 (.exit 0)))
 (.seq (.block 1 (.seq (.regionD [⟨0, [0], false, [], oM 13 0⟩,
 ⟨1, [13], false, [], oU 14 (.nilc (.u 13))⟩,
 ⟨2, [14], false, [], oU 15 (.faddr 4 (.u 14))⟩,
 ⟨3, [15], true, [], oU 16 (.load false 1 (.u 15))⟩,
 ⟨4, [3], false, [], oM 17 3⟩,
 ⟨5, [16, 17], false, [], oU 18 (.iaS 5 (.u 16) (.u 17))⟩,
 ⟨6, [18], false, [], oU 19 (.faddr 1 (.u 18))⟩,
 ⟨7, [19], true, [], oU 20 (.load false 1 (.u 19))⟩,
 ⟨8, [0], false, [], oM 21 0⟩,
 ⟨9, [21], false, [], oU 22 (.nilc (.u 21))⟩,
 ⟨10, [22], false, [], oU 23 (.faddr 1 (.u 22))⟩,
 ⟨11, [23], true, [], oU 24 (.load false 1 (.u 23))⟩,
 ⟨12, [20, 24], false, [], oT 25 (.bin .geq (.u 20) (.u 24))⟩])
 (.cond (.t 25)
 (.region [oM 26 2,
 oM 27 0,
 oU 28 (.nilc (.u 27)),
 oU 29 (.faddr 4 (.u 28)),
 oU 30 (.load false 1 (.u 29)),
 oM 31 3,
 oU 32 (.iaS 5 (.u 30) (.u 31)),
 oU 33 (.load true 5 (.u 32)),
 oU 34 (.mkS 5 1 [.int .i64 0, .int .i64 0, .int .i64 0, .int .i64 0, .int .i64 0] [(0, 5, (.u 33))]),
 oU 35 (.appF 5 40 (.u 26) (.u 34)),
 oT 2 (.mov (.u 35))])
 (.skip))))
 (.region [oM 11 3,
 oU 12 (.bin .add (.u 11) (.c (.int .i64 1))),
 oT 3 (.mov (.u 12))]))))))
 (.region [oM 36 0,
 oM 37 2,
 oU 38 (.nilc (.u 36)),
 oU 39 (.faddr 4 (.u 38)),
 oN (.store 1 (.u 39) (.u 37))]))
def r67 : List LRes := []
theorem t67 : (Tryd.f67.body.bind (trCode v67 Tryd.prog Tryd.f67.ntmps)) = some c67 ∧ trRes v67 Tryd.prog Tryd.f67.results.toList = some r67 := ⟨by kernel_rfl, by kernel_rfl⟩

def v68 : Nat → Bool := fun t => [0].contains t
def c68 : LCode :=
 .seq (.region [oT 0 (.mov (.c (.fsl 1 0 [])))])
 (.seq (.region [oU 1 (.build [.str [], .int .i64 0, .bool false] [(0, 1, (.c (.str [85, 83, 69, 82]))), (1, 1, (.c (.int .i64 1005))), (2, 1, (.c (.bool true)))]),
 oU 2 (.build [.str [], .int .i64 0, .bool false] [(0, 1, (.c (.str [68, 65, 69, 77, 79, 78]))), (1, 1, (.c (.int .i64 1200))), (2, 1, (.c (.bool true)))]),
 oU 3 (.build [.str [], .int .i64 0, .bool false] [(0, 1, (.c (.str [83, 89, 83, 67, 65, 76, 76]))), (1, 1, (.c (.int .i64 1300))), (2, 1, (.c (.bool false)))]),
 oU 4 (.build [.str [], .int .i64 0, .bool false] [(0, 1, (.c (.str [80, 65, 84, 72]))), (1, 1, (.c (.int .i64 1302))), (2, 1, (.c (.bool false)))]),
 oU 5 (.build [.str [], .int .i64 0, .bool false] [(0, 1, (.c (.str [67, 79, 78, 70, 73, 71]))), (1, 1, (.c (.int .i64 1305))), (2, 1, (.c (.bool true)))]),
 oU 6 (.build [.str [], .int .i64 0, .bool false] [(0, 1, (.c (.str [83, 79, 67, 75, 65, 68, 68, 82]))), (1, 1, (.c (.int .i64 1306))), (2, 1, (.c (.bool false)))]),
 oU 7 (.build [.str [], .int .i64 0, .bool false] [(0, 1, (.c (.str [67, 87, 68]))), (1, 1, (.c (.int .i64 1307))), (2, 1, (.c (.bool false)))]),
 oU 8 (.build [.str [], .int .i64 0, .bool false] [(0, 1, (.c (.str [69, 88, 69, 67, 86, 69]))), (1, 1, (.c (.int .i64 1309))), (2, 1, (.c (.bool false)))]),
 oU 9 (.build [.str [], .int .i64 0, .bool false] [(0, 1, (.c (.str [69, 79, 69]))), (1, 1, (.c (.int .i64 1320))), (2, 1, (.c (.bool false)))]),
 oU 10 (.build [.str [], .int .i64 0, .bool false] [(0, 1, (.c (.str [76, 79, 83, 83]))), (1, 1, (.c (.int .i64 1331))), (2, 1, (.c (.bool true)))]),
 oU 11 (.mkS 3 10 [.str [], .int .i64 0, .bool false] [(0, 3, (.u 1)), (3, 3, (.u 2)), (6, 3, (.u 3)), (9, 3, (.u 4)), (12, 3, (.u 5)), (15, 3, (.u 6)), (18, 3, (.u 7)), (21, 3, (.u 8)), (24, 3, (.u 9)), (27, 3, (.u 10))]),
 oT 0 (.mov (.u 11))])
 (.ret))
def r68 : List LRes := [.slot 0]
theorem t68 : (Tryd.f68.body.bind (trCode v68 Tryd.prog Tryd.f68.ntmps)) = some c68 ∧ trRes v68 Tryd.prog Tryd.f68.results.toList = some r68 := ⟨by kernel_rfl, by kernel_rfl⟩

def v76 : Nat → Bool := fun t => [0, 1, 2, 3, 4].contains t
def c76 : LCode :=
 .seq (.region [oT 2 (.box (.t 0)),
 oT 3 (.box (.t 1)),
 oT 4 (.mov (.c (.bool false)))])
 (.seq (.region [oU 5 (.faddr 0 (.t 2)),
 oU 6 (.load false 1 (.u 5)),
 oU 7 (.faddr 0 (.t 3)),
 oU 8 (.load false 1 (.u 7)),
 oU 9 (.bin .eql (.u 6) (.u 8)),
 oU 10 (.mov (.u 9)),
 ⟨some 11, false, some ((.u 10), true), .faddr 1 (.t 2)⟩,
 ⟨some 12, false, some ((.u 10), true), .load false 1 (.u 11)⟩,
 ⟨some 13, false, some ((.u 10), true), .faddr 1 (.t 3)⟩,
 ⟨some 14, false, some ((.u 10), true), .load false 1 (.u 13)⟩,
 ⟨some 15, false, some ((.u 10), true), .bin .eql (.u 12) (.u 14)⟩,
 oU 16 (.pick (.u 10) (.u 15) (.c (.bool false))),
 oU 17 (.mov (.u 16)),
 ⟨some 18, false, some ((.u 17), true), .faddr 2 (.t 2)⟩,
 ⟨some 19, false, some ((.u 17), true), .load false 1 (.u 18)⟩,
 ⟨some 20, false, some ((.u 17), true), .faddr 2 (.t 3)⟩,
 ⟨some 21, false, some ((.u 17), true), .load false 1 (.u 20)⟩,
 ⟨some 22, false, some ((.u 17), true), .bin .eql (.u 19) (.u 21)⟩,
 oU 23 (.pick (.u 17) (.u 22) (.c (.bool false))),
 oU 24 (.mov (.u 23)),
 ⟨some 25, false, some ((.u 24), true), .faddr 3 (.t 2)⟩,
 ⟨some 26, false, some ((.u 24), true), .load false 1 (.u 25)⟩,
 ⟨some 27, false, some ((.u 24), true), .faddr 3 (.t 3)⟩,
 ⟨some 28, false, some ((.u 24), true), .load false 1 (.u 27)⟩,
 ⟨some 29, false, some ((.u 24), true), .call 82 [(.u 26), (.u 28)]⟩,
 oU 30 (.pick (.u 24) (.u 29) (.c (.bool false))),
 oT 4 (.mov (.u 30))])
 (.ret))
def r76 : List LRes := [.slot 4]
theorem t76 : (Tryd.f76.body.bind (trCode v76 Tryd.prog Tryd.f76.ntmps)) = some c76 ∧ trRes v76 Tryd.prog Tryd.f76.results.toList = some r76 := ⟨by kernel_rfl, by kernel_rfl⟩

def v77 : Nat → Bool := fun t => [0, 1, 2, 6, 34, 38].contains t
def c77 : LCode :=
 .seq (.region [oT 1 (.box (.t 0)),
 oT 2 (.mov (.c (.int .i64 0)))])
 (.seq (.seq (.region [oU 3 (.faddr 0 (.t 1)),
 oU 4 (.load false 1 (.u 3)),
 oU 5 (.call 83 [(.u 4)]),
 oT 6 (.un .not (.u 5))])
 (.cond (.t 6)
 (.seq (.region [oT 2 (.mov (.c (.int .i64 22)))])
 (.ret))
 (.skip)))
 (.seq (.seq (.region [oU 7 (.faddr 1 (.t 1)),
 oU 8 (.load false 1 (.u 7)),
 oU 9 (.bin .lss (.u 8) (.c (.int .i64 1))),
 oU 10 (.mov (.u 9)),
 ⟨some 11, false, some ((.u 10), false), .faddr 1 (.t 1)⟩,
 ⟨some 12, false, some ((.u 10), false), .load false 1 (.u 11)⟩,
 ⟨some 13, false, some ((.u 10), false), .bin .gtr (.u 12) (.c (.int .i64 3))⟩,
 oU 14 (.pick (.u 10) (.c (.bool true)) (.u 13)),
 oU 15 (.mov (.u 14)),
 ⟨some 16, false, some ((.u 15), false), .faddr 1 (.t 1)⟩,
 ⟨some 17, false, some ((.u 15), false), .load false 1 (.u 16)⟩,
 ⟨some 18, false, some ((.u 15), false), .bin .neq (.u 17) (.c (.int .i64 1))⟩,
 ⟨some 19, false, some ((.u 15), false), .mov (.u 18)⟩,
 ⟨some 20, false, some ((.u 19), true), .faddr 2 (.t 1)⟩,
 ⟨some 21, false, some ((.u 19), true), .load false 1 (.u 20)⟩,
 ⟨some 22, false, some ((.u 19), true), .bin .neq (.u 21) (.c (.int .i64 0))⟩,
 ⟨some 23, false, some ((.u 15), false), .pick (.u 19) (.u 22) (.c (.bool false))⟩,
 oU 24 (.pick (.u 15) (.c (.bool true)) (.u 23)),
 oU 25 (.mov (.u 24)),
 ⟨some 26, false, some ((.u 25), false), .faddr 1 (.t 1)⟩,
 ⟨some 27, false, some ((.u 25), false), .load false 1 (.u 26)⟩,
 ⟨some 28, false, some ((.u 25), false), .bin .neq (.u 27) (.c (.int .i64 2))⟩,
 ⟨some 29, false, some ((.u 25), false), .mov (.u 28)⟩,
 ⟨some 30, false, some ((.u 29), true), .faddr 3 (.t 1)⟩,
 ⟨some 31, false, some ((.u 29), true), .load false 1 (.u 30)⟩,
 ⟨some 32, false, some ((.u 29), true), .bin .neq (.u 31) (.c (.str []))⟩,
 ⟨some 33, false, some ((.u 25), false), .pick (.u 29) (.u 32) (.c (.bool false))⟩,
 oT 34 (.pick (.u 25) (.c (.bool true)) (.u 33))])
 (.cond (.t 34)
 (.seq (.region [oT 2 (.mov (.c (.int .i64 23)))])
 (.ret))
 (.skip)))
 (.seq (.seq (.region [oU 35 (.faddr 3 (.t 1)),
 oU 36 (.load false 1 (.u 35)),
 oU 37 (.len (.u 36)),
 oT 38 (.bin .gtr (.u 37) (.c (.int .i64 640)))])
 (.cond (.t 38)
 (.seq (.region [oT 2 (.mov (.c (.int .i64 20)))])
 (.ret))
 (.skip)))
 (.seq (.region [oT 2 (.mov (.c (.int .i64 0)))])
 (.ret)))))
def r77 : List LRes := [.slot 2]
theorem t77 : (Tryd.f77.body.bind (trCode v77 Tryd.prog Tryd.f77.ntmps)) = some c77 ∧ trRes v77 Tryd.prog Tryd.f77.results.toList = some r77 := ⟨by kernel_rfl, by kernel_rfl⟩

def v78 : Nat → Bool := fun t => [0, 1, 2, 4, 5, 6, 11, 21].contains t
def c78 : LCode :=
 .seq (.region [oT 2 (.box (.t 0)),
 oT 4 (.zero [.str [], .int .i64 0, .int .i64 0, .str []]),
 oT 5 (.mov (.c (.bool false)))])
 (.seq (.seq (.region [oT 6 (.mov (.c (.int .i64 0)))])
 (.block 0 (.loop (.seq (.seq (.region [oM 7 6,
 oU 8 (.faddr 3 (.t 2)),
 oU 9 (.load false 1 (.u 8)),
 oU 10 (.lenL (.u 9)),
 oT 11 (.bin .lss (.u 7) (.u 10))])
 (.cond (.t 11)
 (.skip)
 (.exit 0)))
 (.seq (.block 1 (.seq (.region [oU 14 (.faddr 3 (.t 2)),
 oU 15 (.load false 1 (.u 14)),
 oM 16 6,
 oU 17 (.iaS 4 (.u 15) (.u 16)),
 oU 18 (.faddr 0 (.u 17)),
 oU 19 (.load false 1 (.u 18)),
 oM 20 1,
 oT 21 (.bin .eql (.u 19) (.u 20))])
 (.cond (.t 21)
 (.seq (.region [oU 22 (.faddr 3 (.t 2)),
 oU 23 (.load false 1 (.u 22)),
 oM 24 6,
 oU 25 (.iaS 4 (.u 23) (.u 24)),
 oU 26 (.load true 4 (.u 25)),
 oN (.store 4 (.t 4) (.u 26)),
 oT 5 (.mov (.c (.bool true)))])
 (.ret))
 (.skip))))
 (.region [oM 12 6,
 oU 13 (.bin .add (.u 12) (.c (.int .i64 1))),
 oT 6 (.mov (.u 13))]))))))
 (.seq (.region [oU 27 (.build [.str [], .int .i64 0, .int .i64 0, .str []] []),
 oN (.store 4 (.t 4) (.u 27)),
 oT 5 (.mov (.c (.bool false)))])
 (.ret)))
def r78 : List LRes := [.cell true 4 4, .slot 5]
theorem t78 : (Tryd.f78.body.bind (trCode v78 Tryd.prog Tryd.f78.ntmps)) = some c78 ∧ trRes v78 Tryd.prog Tryd.f78.results.toList = some r78 := ⟨by kernel_rfl, by kernel_rfl⟩

def v82 : Nat → Bool := fun t => [0, 1, 4, 5, 10, 14, 25].contains t
def c82 : LCode :=
 .seq (.region [oT 4 (.mov (.c (.bool false)))])
 (.seq (.seq (.region [oM 6 0,
 oU 7 (.lenL (.u 6)),
 oM 8 1,
 oU 9 (.lenL (.u 8)),
 oT 10 (.bin .neq (.u 7) (.u 9))])
 (.cond (.t 10)
 (.seq (.region [oT 4 (.mov (.c (.bool false)))])
 (.ret))
 (.skip)))
 (.seq (.seq (.region [oT 5 (.mov (.c (.int .i64 0)))])
 (.block 0 (.loop (.seq (.seq (.region [oM 11 5,
 oM 12 0,
 oU 13 (.lenL (.u 12)),
 oT 14 (.bin .lss (.u 11) (.u 13))])
 (.cond (.t 14)
 (.skip)
 (.exit 0)))
 (.seq (.block 1 (.seq (.regionD [⟨0, [0], false, [], oM 17 0⟩,
 ⟨1, [5], false, [], oM 18 5⟩,
 ⟨2, [17, 18], false, [], oU 19 (.iaS 4 (.u 17) (.u 18))⟩,
 ⟨3, [19], true, [], oU 20 (.load true 4 (.u 19))⟩,
 ⟨4, [1], false, [], oM 21 1⟩,
 ⟨5, [5], false, [], oM 22 5⟩,
 ⟨6, [21, 22], false, [], oU 23 (.iaS 4 (.u 21) (.u 22))⟩,
 ⟨7, [23], true, [], oU 24 (.load true 4 (.u 23))⟩,
 ⟨8, [20, 24], false, [], oT 25 (.eqS true 4 [(0, 2), (1, 1), (2, 1), (3, 2)] (.u 20) (.u 24))⟩])
 (.cond (.t 25)
 (.seq (.region [oT 4 (.mov (.c (.bool false)))])
 (.ret))
 (.skip))))
 (.region [oM 15 5,
 oU 16 (.bin .add (.u 15) (.c (.int .i64 1))),
 oT 5 (.mov (.u 16))]))))))
 (.seq (.region [oT 4 (.mov (.c (.bool true)))])
 (.ret))))
def r82 : List LRes := [.slot 4]
theorem t82 : (Tryd.f82.body.bind (trCode v82 Tryd.prog Tryd.f82.ntmps)) = some c82 ∧ trRes v82 Tryd.prog Tryd.f82.results.toList = some r82 := ⟨by kernel_rfl, by kernel_rfl⟩

def v83 : Nat → Bool := fun t => [0, 2, 3, 4, 12, 16, 44].contains t
def c83 : LCode :=
 .seq (.region [oT 2 (.mov (.c (.bool false)))])
 (.seq (.seq (.region [oM 5 0,
 oU 6 (.len (.u 5)),
 oU 7 (.bin .lss (.u 6) (.c (.int .i64 1))),
 oU 8 (.mov (.u 7)),
 ⟨some 9, false, some ((.u 8), false), .mov (.t 0)⟩,
 ⟨some 10, false, some ((.u 8), false), .len (.u 9)⟩,
 ⟨some 11, false, some ((.u 8), false), .bin .gtr (.u 10) (.c (.int .i64 16))⟩,
 oT 12 (.pick (.u 8) (.c (.bool true)) (.u 11))])
 (.cond (.t 12)
 (.seq (.region [oT 2 (.mov (.c (.bool false)))])
 (.ret))
 (.skip)))
 (.seq (.seq (.region [oT 3 (.mov (.c (.int .i64 0)))])
 (.block 0 (.loop (.seq (.seq (.region [oM 13 3,
 oM 14 0,
 oU 15 (.len (.u 14)),
 oT 16 (.bin .lss (.u 13) (.u 15))])
 (.cond (.t 16)
 (.skip)
 (.exit 0)))
 (.seq (.block 1 (.seq (.region [oM 19 0,
 oM 20 3,
 oU 21 (.ixS (.u 19) (.u 20)),
 oT 4 (.mov (.u 21))])
 (.seq (.region [oM 22 4,
 oU 23 (.bin .geq (.u 22) (.c (.int .u8 97))),
 oU 24 (.mov (.u 23)),
 ⟨some 25, false, some ((.u 24), true), .mov (.t 4)⟩,
 ⟨some 26, false, some ((.u 24), true), .bin .leq (.u 25) (.c (.int .u8 122))⟩,
 oU 27 (.pick (.u 24) (.u 26) (.c (.bool false))),
 oU 28 (.mov (.u 27)),
 ⟨some 29, false, some ((.u 28), false), .mov (.t 3)⟩,
 ⟨some 30, false, some ((.u 28), false), .bin .gtr (.u 29) (.c (.int .i64 0))⟩,
 ⟨some 31, false, some ((.u 28), false), .mov (.u 30)⟩,
 ⟨some 32, false, some ((.u 31), true), .mov (.t 4)⟩,
 ⟨some 33, false, some ((.u 31), true), .bin .geq (.u 32) (.c (.int .u8 48))⟩,
 ⟨some 34, false, some ((.u 31), true), .mov (.u 33)⟩,
 ⟨some 35, false, some ((.u 34), true), .mov (.t 4)⟩,
 ⟨some 36, false, some ((.u 34), true), .bin .leq (.u 35) (.c (.int .u8 57))⟩,
 ⟨some 37, false, some ((.u 31), true), .pick (.u 34) (.u 36) (.c (.bool false))⟩,
 ⟨some 38, false, some ((.u 31), true), .mov (.u 37)⟩,
 ⟨some 39, false, some ((.u 38), false), .mov (.t 4)⟩,
 ⟨some 40, false, some ((.u 38), false), .bin .eql (.u 39) (.c (.int .u8 95))⟩,
 ⟨some 41, false, some ((.u 31), true), .pick (.u 38) (.c (.bool true)) (.u 40)⟩,
 ⟨some 42, false, some ((.u 28), false), .pick (.u 31) (.u 41) (.c (.bool false))⟩,
 oU 43 (.pick (.u 28) (.c (.bool true)) (.u 42)),
 oT 44 (.un .not (.u 43))])
 (.cond (.t 44)
 (.seq (.region [oT 2 (.mov (.c (.bool false)))])
 (.ret))
 (.skip)))))
 (.region [oM 17 3,
 oU 18 (.bin .add (.u 17) (.c (.int .i64 1))),
 oT 3 (.mov (.u 18))]))))))
 (.seq (.region [oT 2 (.mov (.c (.bool true)))])
 (.ret))))
def r83 : List LRes := [.slot 2]
theorem t83 : (Tryd.f83.body.bind (trCode v83 Tryd.prog Tryd.f83.ntmps)) = some c83 ∧ trRes v83 Tryd.prog Tryd.f83.results.toList = some r83 := ⟨by kernel_rfl, by kernel_rfl⟩


end Go.Proofs.YtfheeghkajihoaaDoor

/- The functions' bodies as the engine reads them; written by program out of the translation, checked by the kernel. -/
namespace Go.Proofs.YtfheeghkajihoaaDoor
open Go Go.Lx
set_option maxRecDepth 100000
def v26q : Nat → Bool := fun t => [0, 1, 4, 5, 6, 7, 11].contains t
def c26q : LCode :=
 .seq (.region [oT 4 (.mov (.c (.fsl 1 0 [])))])
 (.seq (.region [oT 5 (.mov (.c (.fsl 1 0 [])))])
 (.seq (.seq (.region [oT 6 (.mov (.c (.int .i64 0)))])
 (.block 0 (.loop (.seq (.seq (.region [oM 8 6,
 oM 9 0,
 oU 10 (.lenL (.u 9)),
 oT 11 (.bin .lss (.u 8) (.u 10))])
 (.cond (.t 11)
 (.skip)
 (.exit 0)))
 (.seq (.block 1 (.seq (.region [oM 14 0,
 oM 15 6,
 oU 16 (.iaS 4 (.u 14) (.u 15)),
 oU 17 (.load true 4 (.u 16)),
 oT 7 (.zero [.int .i64 0, .int .i64 0, .int .i64 0, .fsl 1 0 []]),
 oN (.store 4 (.t 7) (.u 17))])
 (.seq (.region [oU 18 (.faddr 3 (.t 7)),
 oU 19 (.load false 1 (.u 18)),
 oU 20 (.app 4 48 (.c (.fsl 1 0 [])) (.u 19)),
 oU 21 (.faddr 3 (.t 7)),
 oN (.store 1 (.u 21) (.u 20))])
 (.seq (.region [oM 22 1,
 oU 23 (.faddr 2 (.t 7)),
 oN (.store 1 (.u 23) (.u 22))])
 (.region [oM 24 5,
 oU 25 (.load true 4 (.t 7)),
 oU 26 (.mkS 4 1 [.int .i64 0, .int .i64 0, .int .i64 0, .fsl 1 0 []] [(0, 4, (.u 25))]),
 oU 27 (.app 4 48 (.u 24) (.u 26)),
 oT 5 (.mov (.u 27))])))))
 (.region [oM 12 6,
 oU 13 (.bin .add (.u 12) (.c (.int .i64 1))),
 oT 6 (.mov (.u 13))]))))))
 (.seq (.region [oM 28 5,
 oT 4 (.mov (.u 28))])
 (.ret))))
def r26q : List LRes := [.slot 4]
theorem t26q : (Tryd.f26.body.bind (trCode v26q Tryd.prog Tryd.f26.ntmps)) = some c26q ∧ trRes v26q Tryd.prog Tryd.f26.results.toList = some r26q := ⟨by kernel_rfl, by kernel_rfl⟩


end Go.Proofs.YtfheeghkajihoaaDoor

/- The functions' bodies as the engine reads them; written by program out of the translation, checked by the kernel. -/
namespace Go.Proofs.YtfheeghkajihoaaDoor
open Go Go.Lx
set_option maxRecDepth 100000
def v12 : Nat → Bool := fun t => [0, 1, 4, 5, 6, 18, 41, 49, 50, 60].contains t
def c12 : LCode :=
 .seq (.region [oT 4 (.zero [.int .i64 0, .int .i64 0, .int .i64 0, .fsl 1 0 []])])
 (.seq (.region [oM 7 0,
 oU 8 (.mkS 1 8 [.int .i64 0] [(0, 1, (.c (.int .i64 1300))), (1, 1, (.c (.int .i64 1300))), (2, 1, (.c (.int .i64 1302))), (3, 1, (.c (.int .i64 1307))), (4, 1, (.c (.int .i64 1320))), (5, 1, (.c (.int .i64 1320))), (6, 1, (.c (.int .i64 1005))), (7, 1, (.c (.int .i64 1331)))]),
 oU 9 (.call 25 [(.u 7), (.u 8)]),
 oM 10 0,
 oU 11 (.call 11 [(.u 10), (.c (.int .i64 5))]),
 oM 12 0,
 oM 13 1,
 oU 14 (.call 18 [(.u 12), (.c (.int .i64 1)), (.u 13)]),
 oU 15 (.build [.int .i64 0, .int .i64 0, .int .i64 0, .fsl 1 0 []] [(0, 1, (.u 9)), (1, 1, (.u 11)), (2, 1, (.u 14))]),
 oT 5 (.zero [.int .i64 0, .int .i64 0, .int .i64 0, .fsl 1 0 []]),
 oN (.store 4 (.t 5) (.u 15))])
 (.seq (.seq (.region [oU 16 (.faddr 0 (.t 5)),
 oU 17 (.load false 1 (.u 16)),
 oT 18 (.bin .eql (.u 17) (.c (.int .i64 1331)))])
 (.cond (.t 18)
 (.seq (.region [oM 19 0,
 oM 20 1,
 oU 21 (.call 18 [(.u 19), (.c (.int .i64 0)), (.u 20)]),
 oT 6 (.mov (.u 21))])
 (.seq (.regionD [⟨0, [6], false, [], oM 22 6⟩,
 ⟨1, [6], false, [], oM 23 6⟩,
 ⟨2, [0], false, [], oM 24 0⟩,
 ⟨5, [0], false, [], oM 27 0⟩,
 ⟨8, [5], false, [], oU 30 (.faddr 1 (.t 5))⟩,
 ⟨9, [30], true, [], oU 31 (.load false 1 (.u 30))⟩,
 ⟨12, [5], false, [], oU 34 (.faddr 2 (.t 5))⟩,
 ⟨13, [34], true, [], oU 35 (.load false 1 (.u 34))⟩,
 ⟨3, [24], false, [13, 9], oU 25 (.call 11 [(.u 24), (.c (.int .i64 4))])⟩,
 ⟨4, [23, 25], false, [], oU 26 (.bin .add (.u 23) (.u 25))⟩,
 ⟨6, [27], false, [13, 9], oU 28 (.call 11 [(.u 27), (.c (.int .i64 3))])⟩,
 ⟨7, [22, 26, 28], false, [], oU 29 (.build [.int .i64 0, .int .i64 0, .int .i64 0, .int .i64 0, .int .i64 0] [(0, 1, (.u 22)), (1, 1, (.u 26)), (3, 1, (.u 28))])⟩,
 ⟨10, [29, 31], false, [13], oU 32 (.call 27 [(.u 29), (.u 31)])⟩,
 ⟨11, [32], false, [], oU 33 (.mkS 4 1 [.int .i64 0, .int .i64 0, .int .i64 0, .fsl 1 0 []] [(0, 4, (.u 32))])⟩,
 ⟨14, [33, 35], false, [], oU 36 (.call 26 [(.u 33), (.u 35)])⟩,
 ⟨15, [36], false, [], oU 37 (.iaS 4 (.u 36) (.c (.int .i64 0)))⟩,
 ⟨16, [37], true, [], oU 38 (.load true 4 (.u 37))⟩,
 ⟨17, [5, 38], false, [], oN (.store 4 (.t 5) (.u 38))⟩])
 (.seq (.region [oM 39 0,
 oU 40 (.call 11 [(.u 39), (.c (.int .i64 8))]),
 oT 41 (.bin .eql (.u 40) (.c (.int .i64 7)))])
 (.cond (.t 41)
 (.regionD [⟨0, [5], false, [], oU 42 (.faddr 3 (.t 5))⟩,
 ⟨1, [42], true, [], oU 43 (.load false 1 (.u 42))⟩,
 ⟨2, [0], false, [], oM 44 0⟩,
 ⟨4, [], false, [], oU 46 (.build [.str [], .int .i64 0, .int .i64 0, .str []] [(0, 1, (.c (.str [102, 105, 114, 115, 116]))), (1, 1, (.c (.int .i64 2))), (3, 1, (.c (.str [120])))])⟩,
 ⟨3, [44], false, [1], oU 45 (.call 11 [(.u 44), (.c (.int .i64 2))])⟩,
 ⟨5, [43, 45], false, [], oU 47 (.iaS 4 (.u 43) (.u 45))⟩,
 ⟨6, [47, 46], false, [], oN (.store 4 (.u 47) (.u 46))⟩])
 (.skip)))))
 (.skip)))
 (.seq (.seq (.region [oM 48 0,
 oT 49 (.call 11 [(.u 48), (.c (.int .i64 24))])])
 (.block 0 (.seq (.region [oU 51 (.bin .eql (.t 49) (.c (.int .i64 23))),
 oT 50 (.mov (.u 51))])
 (.cond (.t 50)
 (.region [oM 52 0,
 oM 53 1,
 oU 54 (.bin .add (.u 53) (.c (.int .i64 64))),
 oM 55 1,
 oU 56 (.bin .add (.u 55) (.c (.int .i64 200))),
 oU 57 (.mkS 1 7 [.int .i64 0] [(0, 1, (.c (.int .i64 0))), (1, 1, (.c (.int .i64 (-1)))), (2, 1, (.c (.int .i64 1073741824))), (3, 1, (.c (.int .i64 1073741825))), (4, 1, (.c (.int .i64 1073741754))), (5, 1, (.u 54)), (6, 1, (.u 56))]),
 oU 58 (.call 25 [(.u 52), (.u 57)]),
 oU 59 (.faddr 2 (.t 5)),
 oN (.store 1 (.u 59) (.u 58))])
 (.seq (.region [oU 61 (.bin .eql (.t 49) (.c (.int .i64 22))),
 oT 60 (.mov (.u 61))])
 (.cond (.t 60)
 (.region [oU 62 (.faddr 0 (.t 5)),
 oN (.store 1 (.u 62) (.c (.int .i64 7)))])
 (.skip)))))))
 (.seq (.region [oU 63 (.load true 4 (.t 5)),
 oN (.store 4 (.t 4) (.u 63))])
 (.ret)))))
def r12 : List LRes := [.cell true 4 4]
theorem t12 : (Tryd.f12.body.bind (trCode v12 Tryd.prog Tryd.f12.ntmps)) = some c12 ∧ trRes v12 Tryd.prog Tryd.f12.results.toList = some r12 := ⟨by kernel_rfl, by kernel_rfl⟩

def v15 : Nat → Bool := fun t => [0, 1, 4, 5, 6, 7, 13].contains t
def c15 : LCode :=
 .seq (.region [oT 4 (.mov (.c (.fsl 1 0 [])))])
 (.seq (.region [oM 8 0,
 oU 9 (.mkS 1 4 [.int .i64 0] [(0, 1, (.c (.int .i64 3))), (1, 1, (.c (.int .i64 6))), (2, 1, (.c (.int .i64 12))), (3, 1, (.c (.int .i64 80)))]),
 oU 10 (.call 25 [(.u 8), (.u 9)]),
 oT 5 (.mov (.u 10))])
 (.seq (.region [oT 6 (.mov (.c (.fsl 1 0 [])))])
 (.seq (.seq (.region [oT 7 (.mov (.c (.int .i64 0)))])
 (.block 0 (.loop (.seq (.seq (.region [oM 11 7,
 oM 12 1,
 oT 13 (.bin .lss (.u 11) (.u 12))])
 (.cond (.t 13)
 (.skip)
 (.exit 0)))
 (.seq (.block 1 (.region [oM 16 6,
 oM 17 0,
 oM 18 5,
 oU 19 (.call 12 [(.u 17), (.u 18)]),
 oU 20 (.mkS 4 1 [.int .i64 0, .int .i64 0, .int .i64 0, .fsl 1 0 []] [(0, 4, (.u 19))]),
 oU 21 (.app 4 48 (.u 16) (.u 20)),
 oT 6 (.mov (.u 21))]))
 (.region [oM 14 7,
 oU 15 (.bin .add (.u 14) (.c (.int .i64 1))),
 oT 7 (.mov (.u 15))]))))))
 (.seq (.region [oM 22 6,
 oT 4 (.mov (.u 22))])
 (.ret)))))
def r15 : List LRes := [.slot 4]
theorem t15 : (Tryd.f15.body.bind (trCode v15 Tryd.prog Tryd.f15.ntmps)) = some c15 ∧ trRes v15 Tryd.prog Tryd.f15.results.toList = some r15 := ⟨by kernel_rfl, by kernel_rfl⟩


end Go.Proofs.YtfheeghkajihoaaDoor
