/- The functions' bodies as the engine reads them; written by program out of the translation, checked by the kernel. -/
import Derived.Test.YtcngkeeknlloaaaProg
import Derived.Test.YtcngkeeknlloaaaLxL
import Derived.KernelRfl
namespace Go.Proofs.Ytcngkeeknlloaaa
open Go Go.Lx
set_option maxRecDepth 100000
def v29 : Nat → Bool := fun t => [0, 1, 4, 5, 6, 7, 8, 14, 28].contains t
def c29 : LCode :=
 .seq (.region [oT 4 (.mov (.c (.fsl 1 0 [])))])
 (.seq (.region [oT 5 (.mov (.c (.fsl 1 0 [])))])
 (.seq (.seq (.region [oM 9 0,
 oM 10 1,
 oU 11 (.bin .add (.u 10) (.c (.int .i64 1))),
 oU 12 (.call 21 [(.u 9), (.u 11)]),
 oT 6 (.mov (.u 12))])
 (.block 0 (.loop (.seq (.seq (.region [oM 13 6,
 oT 14 (.bin .gtr (.u 13) (.c (.int .i64 0)))])
 (.cond (.t 14)
 (.skip)
 (.exit 0)))
 (.seq (.block 1 (.seq (.region [oM 18 5,
 oM 19 0,
 oU 20 (.call 54 [(.u 19)]),
 oM 21 0,
 oU 22 (.call 21 [(.u 21), (.c (.int .i64 4))]),
 oU 23 (.bin .eql (.u 22) (.c (.int .i64 0))),
 oU 24 (.call 53 [(.u 18), (.u 20), (.u 23)]),
 oU 17 (.mov (.u 24)),
 oU 25 (.ext (.u 17) 0),
 oU 26 (.ext (.u 17) 1),
 oT 7 (.mov (.u 25)),
 oT 8 (.mov (.u 26))])
 (.seq (.region [oM 27 8,
 oT 28 (.bin .eql (.u 27) (.c (.int .i64 0)))])
 (.cond (.t 28)
 (.region [oM 29 7,
 oT 5 (.mov (.u 29))])
 (.skip)))))
 (.region [oM 15 6,
 oU 16 (.bin .sub (.u 15) (.c (.int .i64 1))),
 oT 6 (.mov (.u 16))]))))))
 (.seq (.region [oM 30 5,
 oT 4 (.mov (.u 30))])
 (.ret))))
def r29 : List LRes := [.slot 4]
theorem t29 : (Try.f29.body.bind (trCode v29 Try.prog Try.f29.ntmps)) = some c29 ∧ trRes v29 Try.prog Try.f29.results.toList = some r29 := ⟨by kernel_rfl, by kernel_rfl⟩

def v31 : Nat → Bool := fun t => [0, 1, 2, 4, 8, 17].contains t
def c31 : LCode :=
 .seq (.region [oT 2 (.box (.t 0)),
 oT 4 (.mov (.c (.fsl 1 0 [])))])
 (.seq (.seq (.region [oU 5 (.faddr 1 (.t 2)),
 oU 6 (.load false 1 (.u 5)),
 oU 7 (.lenL (.u 6)),
 oT 8 (.bin .eql (.u 7) (.c (.int .i64 1)))])
 (.cond (.t 8)
 (.region [oT 1 (.mov (.c (.int .i64 0)))])
 (.skip)))
 (.seq (.seq (.region [oM 9 1,
 oU 10 (.bin .lss (.u 9) (.c (.int .i64 0))),
 oU 11 (.mov (.u 10)),
 ⟨some 12, false, some ((.u 11), false), .mov (.t 1)⟩,
 ⟨some 13, false, some ((.u 11), false), .faddr 1 (.t 2)⟩,
 ⟨some 14, false, some ((.u 11), false), .load false 1 (.u 13)⟩,
 ⟨some 15, false, some ((.u 11), false), .lenL (.u 14)⟩,
 ⟨some 16, false, some ((.u 11), false), .bin .geq (.u 12) (.u 15)⟩,
 oT 17 (.pick (.u 11) (.c (.bool true)) (.u 16))])
 (.cond (.t 17)
 (.seq (.region [oT 4 (.mov (.c (.fsl 1 0 [])))])
 (.ret))
 (.skip)))
 (.seq (.region [oU 18 (.faddr 1 (.t 2)),
 oU 19 (.load false 1 (.u 18)),
 oM 20 1,
 oU 21 (.iaS 1 (.u 19) (.u 20)),
 oU 22 (.load false 1 (.u 21)),
 oU 23 (.app 1 8 (.c (.fsl 1 0 [])) (.u 22)),
 oT 4 (.mov (.u 23))])
 (.ret))))
def r31 : List LRes := [.slot 4]
theorem t31 : (Try.f31.body.bind (trCode v31 Try.prog Try.f31.ntmps)) = some c31 ∧ trRes v31 Try.prog Try.f31.results.toList = some r31 := ⟨by kernel_rfl, by kernel_rfl⟩

def v32 : Nat → Bool := fun t => [0, 1, 4, 5, 6, 7, 8, 9, 10, 11, 12, 16, 22, 40, 53, 61, 68, 77].contains t
def c32 : LCode :=
 .seq (.region [oT 4 (.zero [.int .u64 0, .fsl 1 0 []])])
 (.seq (.region [oT 5 (.zero [.int .u64 0, .fsl 1 0 []])])
 (.seq (.seq (.region [oT 11 (.mov (.t 1))])
 (.block 0 (.seq (.seq (.region [oU 13 (.bin .eql (.t 11) (.c (.int .i64 2))),
 oT 12 (.mov (.u 13))])
 (.cond (.t 12)
 (.skip)
 (.region [oU 14 (.bin .eql (.t 11) (.c (.int .i64 3))),
 oT 12 (.mov (.u 14))])))
 (.cond (.t 12)
 (.seq (.region [oT 6 (.mov (.c (.int .i64 0)))])
 (.block 1 (.loop (.seq (.seq (.region [oM 15 6,
 oT 16 (.bin .lss (.u 15) (.c (.int .i64 32)))])
 (.cond (.t 16)
 (.skip)
 (.exit 1)))
 (.seq (.block 2 (.seq (.region [oT 7 (.mov (.c (.fsl 1 0 [])))])
 (.seq (.seq (.region [oT 8 (.mov (.c (.int .i64 0)))])
 (.block 3 (.loop (.seq (.seq (.region [oM 19 8,
 oM 20 0,
 oU 21 (.lenL (.u 20)),
 oT 22 (.bin .lss (.u 19) (.u 21))])
 (.cond (.t 22)
 (.skip)
 (.exit 3)))
 (.seq (.block 4 (.seq (.region [oM 25 0,
 oM 26 8,
 oU 27 (.iaS 8 (.u 25) (.u 26)),
 oU 28 (.faddr 0 (.u 27)),
 oU 29 (.load false 1 (.u 28)),
 oM 30 1,
 oU 31 (.bin .eql (.u 29) (.u 30)),
 oU 32 (.mov (.u 31)),
 ⟨some 33, false, some ((.u 32), true), .mov (.t 0)⟩,
 ⟨some 34, false, some ((.u 32), true), .mov (.t 8)⟩,
 ⟨some 35, false, some ((.u 32), true), .iaS 8 (.u 33) (.u 34)⟩,
 ⟨some 36, false, some ((.u 32), true), .faddr 2 (.u 35)⟩,
 ⟨some 37, false, some ((.u 32), true), .load false 1 (.u 36)⟩,
 ⟨some 38, false, some ((.u 32), true), .mov (.t 6)⟩,
 ⟨some 39, false, some ((.u 32), true), .call 58 [(.u 37), (.u 38)]⟩,
 oT 40 (.pick (.u 32) (.u 39) (.c (.bool false)))])
 (.cond (.t 40)
 (.region [oM 41 7,
 oM 42 8,
 oU 43 (.mkS 1 1 [.int .i64 0] [(0, 1, (.u 42))]),
 oU 44 (.app 1 8 (.u 41) (.u 43)),
 oT 7 (.mov (.u 44))])
 (.skip))))
 (.region [oM 23 8,
 oU 24 (.bin .add (.u 23) (.c (.int .i64 1))),
 oT 8 (.mov (.u 24))]))))))
 (.seq (.region [oU 45 (.faddr 1 (.t 5)),
 oU 46 (.load false 1 (.u 45)),
 oM 47 7,
 oU 48 (.mkS 1 1 [.fsl 1 0 []] [(0, 1, (.u 47))]),
 oU 49 (.app 1 24 (.u 46) (.u 48)),
 oU 50 (.faddr 1 (.t 5)),
 oN (.store 1 (.u 50) (.u 49))])
 (.seq (.region [oM 51 7,
 oU 52 (.lenL (.u 51)),
 oT 53 (.bin .gtr (.u 52) (.c (.int .i64 0)))])
 (.cond (.t 53)
 (.region [oU 54 (.faddr 0 (.t 5)),
 oU 55 (.load false 1 (.u 54)),
 oM 56 6,
 oU 57 (.conv .u64 (.u 56)),
 oU 58 (.bin .shl (.c (.int .u64 1)) (.u 57)),
 oU 59 (.bin .or (.u 55) (.u 58)),
 oU 60 (.faddr 0 (.t 5)),
 oN (.store 1 (.u 60) (.u 59))])
 (.skip)))))))
 (.region [oM 17 6,
 oU 18 (.bin .add (.u 17) (.c (.int .i64 1))),
 oT 6 (.mov (.u 18))]))))))
 (.seq (.seq (.region [oU 62 (.bin .eql (.t 11) (.c (.int .i64 1))),
 oT 61 (.mov (.u 62))])
 (.cond (.t 61)
 (.skip)
 (.seq (.region [oU 63 (.bin .eql (.t 11) (.c (.int .i64 4))),
 oT 61 (.mov (.u 63))])
 (.cond (.t 61)
 (.skip)
 (.region [oU 64 (.bin .eql (.t 11) (.c (.int .i64 5))),
 oT 61 (.mov (.u 64))])))))
 (.cond (.t 61)
 (.seq (.region [oT 9 (.mov (.c (.fsl 1 0 [])))])
 (.seq (.seq (.region [oT 10 (.mov (.c (.int .i64 0)))])
 (.block 5 (.loop (.seq (.seq (.region [oM 65 10,
 oM 66 0,
 oU 67 (.lenL (.u 66)),
 oT 68 (.bin .lss (.u 65) (.u 67))])
 (.cond (.t 68)
 (.skip)
 (.exit 5)))
 (.seq (.block 6 (.seq (.region [oM 71 0,
 oM 72 10,
 oU 73 (.iaS 8 (.u 71) (.u 72)),
 oU 74 (.faddr 0 (.u 73)),
 oU 75 (.load false 1 (.u 74)),
 oM 76 1,
 oT 77 (.bin .eql (.u 75) (.u 76))])
 (.cond (.t 77)
 (.region [oM 78 9,
 oM 79 10,
 oU 80 (.mkS 1 1 [.int .i64 0] [(0, 1, (.u 79))]),
 oU 81 (.app 1 8 (.u 78) (.u 80)),
 oT 9 (.mov (.u 81))])
 (.skip))))
 (.region [oM 69 10,
 oU 70 (.bin .add (.u 69) (.c (.int .i64 1))),
 oT 10 (.mov (.u 70))]))))))
 (.region [oU 82 (.faddr 1 (.t 5)),
 oU 83 (.load false 1 (.u 82)),
 oM 84 9,
 oU 85 (.mkS 1 1 [.fsl 1 0 []] [(0, 1, (.u 84))]),
 oU 86 (.app 1 24 (.u 83) (.u 85)),
 oU 87 (.faddr 1 (.t 5)),
 oN (.store 1 (.u 87) (.u 86))])))
 (.skip)))))))
 (.seq (.region [oU 88 (.load true 2 (.t 5)),
 oN (.store 2 (.t 4) (.u 88))])
 (.ret))))
def r32 : List LRes := [.cell true 2 4]
theorem t32 : (Try.f32.body.bind (trCode v32 Try.prog Try.f32.ntmps)) = some c32 ∧ trRes v32 Try.prog Try.f32.results.toList = some r32 := ⟨by kernel_rfl, by kernel_rfl⟩

def v34 : Nat → Bool := fun t => [0, 1, 2, 3, 7, 8, 9, 13, 40].contains t
def c34 : LCode :=
 .seq (.region [oT 7 (.box (.t 3)),
 oT 8 (.mov (.c (.int .i64 0)))])
 (.seq (.seq (.region [oT 9 (.mov (.c (.int .i64 0)))])
 (.block 0 (.loop (.seq (.seq (.region [oM 10 9,
 oM 11 0,
 oU 12 (.lenL (.u 11)),
 oT 13 (.bin .lss (.u 10) (.u 12))])
 (.cond (.t 13)
 (.skip)
 (.exit 0)))
 (.seq (.block 1 (.seq (.regionD [⟨0, [0], false, [], oM 16 0⟩,
 ⟨1, [9], false, [], oM 17 9⟩,
 ⟨2, [16, 17], false, [], oU 18 (.iaS 8 (.u 16) (.u 17))⟩,
 ⟨3, [18], false, [], oU 19 (.faddr 0 (.u 18))⟩,
 ⟨4, [19], true, [], oU 20 (.load false 1 (.u 19))⟩,
 ⟨5, [1], false, [], oM 21 1⟩,
 ⟨6, [20, 21], false, [], oU 22 (.bin .eql (.u 20) (.u 21))⟩,
 ⟨7, [22], false, [], oU 23 (.mov (.u 22))⟩,
 ⟨8, [0, 23], false, [], ⟨some 24, false, some ((.u 23), true), .mov (.t 0)⟩⟩,
 ⟨9, [9, 23], false, [], ⟨some 25, false, some ((.u 23), true), .mov (.t 9)⟩⟩,
 ⟨10, [24, 25, 23], false, [], ⟨some 26, false, some ((.u 23), true), .iaS 8 (.u 24) (.u 25)⟩⟩,
 ⟨11, [26, 23], true, [], ⟨some 27, false, some ((.u 23), true), .load true 8 (.u 26)⟩⟩,
 ⟨12, [9, 23], false, [], ⟨some 28, false, some ((.u 23), true), .mov (.t 9)⟩⟩,
 ⟨13, [2, 23], false, [], ⟨some 29, false, some ((.u 23), true), .mov (.t 2)⟩⟩,
 ⟨14, [29, 23], false, [], ⟨some 30, false, some ((.u 23), true), .lenL (.u 29)⟩⟩,
 ⟨15, [28, 30, 23], false, [], ⟨some 31, false, some ((.u 23), true), .bin .lss (.u 28) (.u 30)⟩⟩,
 ⟨16, [31, 23], false, [], ⟨some 32, false, some ((.u 23), true), .mov (.u 31)⟩⟩,
 ⟨17, [2, 32], false, [], ⟨some 33, false, some ((.u 32), true), .mov (.t 2)⟩⟩,
 ⟨18, [9, 32], false, [], ⟨some 34, false, some ((.u 32), true), .mov (.t 9)⟩⟩,
 ⟨19, [33, 34, 32], false, [], ⟨some 35, false, some ((.u 32), true), .iaS 1 (.u 33) (.u 34)⟩⟩,
 ⟨20, [35, 32], true, [], ⟨some 36, false, some ((.u 32), true), .load false 1 (.u 35)⟩⟩,
 ⟨21, [32, 36, 23], false, [], ⟨some 37, false, some ((.u 23), true), .pick (.u 32) (.u 36) (.c (.bool false))⟩⟩,
 ⟨22, [7, 23], true, [], ⟨some 38, false, some ((.u 23), true), .load true 25 (.t 7)⟩⟩,
 ⟨23, [27, 37, 38, 23], false, [], ⟨some 39, false, some ((.u 23), true), .call 60 [(.u 27), (.u 37), (.u 38)]⟩⟩,
 ⟨24, [23, 39], false, [], oT 40 (.pick (.u 23) (.u 39) (.c (.bool false)))⟩])
 (.cond (.t 40)
 (.seq (.region [oM 41 9,
 oT 8 (.mov (.u 41))])
 (.ret))
 (.skip))))
 (.region [oM 14 9,
 oU 15 (.bin .add (.u 14) (.c (.int .i64 1))),
 oT 9 (.mov (.u 15))]))))))
 (.seq (.region [oT 8 (.mov (.c (.int .i64 (-1))))])
 (.ret)))
def r34 : List LRes := [.slot 8]
theorem t34 : (Try.f34.body.bind (trCode v34 Try.prog Try.f34.ntmps)) = some c34 ∧ trRes v34 Try.prog Try.f34.results.toList = some r34 := ⟨by kernel_rfl, by kernel_rfl⟩

def v53 : Nat → Bool := fun t => [0, 1, 2, 4, 6, 7, 8, 9, 13, 18, 23, 26, 27].contains t
def c53 : LCode :=
 .seq (.region [oT 4 (.box (.t 1)),
 oT 6 (.mov (.c (.fsl 1 0 []))),
 oT 7 (.mov (.c (.int .i64 0)))])
 (.seq (.seq (.region [oM 10 0,
 oU 11 (.call 69 [(.u 10)]),
 oT 8 (.mov (.u 11))])
 (.seq (.region [oM 12 8,
 oT 13 (.bin .neq (.u 12) (.c (.int .i64 0)))])
 (.cond (.t 13)
 (.seq (.region [oM 14 8,
 oT 6 (.mov (.c (.fsl 1 0 []))),
 oT 7 (.mov (.u 14))])
 (.ret))
 (.skip))))
 (.seq (.seq (.region [oU 15 (.load true 8 (.t 4)),
 oU 16 (.call 70 [(.u 15)]),
 oT 9 (.mov (.u 16))])
 (.seq (.region [oM 17 9,
 oT 18 (.bin .neq (.u 17) (.c (.int .i64 0)))])
 (.cond (.t 18)
 (.seq (.region [oM 19 9,
 oT 6 (.mov (.c (.fsl 1 0 []))),
 oT 7 (.mov (.u 19))])
 (.ret))
 (.skip))))
 (.seq (.seq (.region [oM 20 0,
 oU 21 (.load true 8 (.t 4)),
 oU 22 (.call 71 [(.u 20), (.u 21)]),
 oT 23 (.bin .geq (.u 22) (.c (.int .i64 0)))])
 (.cond (.t 23)
 (.seq (.region [oT 6 (.mov (.c (.fsl 1 0 []))),
 oT 7 (.mov (.c (.int .i64 141)))])
 (.ret))
 (.skip)))
 (.seq (.seq (.region [oM 24 0,
 oU 25 (.lenL (.u 24)),
 oT 26 (.bin .eql (.u 25) (.c (.int .i64 24)))])
 (.cond (.t 26)
 (.seq (.region [oT 6 (.mov (.c (.fsl 1 0 []))),
 oT 7 (.mov (.c (.int .i64 140)))])
 (.ret))
 (.skip)))
 (.seq (.seq (.region [oT 27 (.mov (.t 2))])
 (.cond (.t 27)
 (.seq (.region [oU 28 (.load true 8 (.t 4)),
 oU 29 (.call 72 [(.u 28)]),
 oU 30 (.mkS 8 1 [.int .i64 0, .int .i64 0, .int .u64 0, .fsl 1 0 [], .int .i64 0, .str [], .int .i64 0, .str []] [(0, 8, (.u 29))]),
 oM 31 0,
 oU 32 (.call 73 [(.u 31)]),
 oU 33 (.app 8 96 (.u 30) (.u 32)),
 oT 6 (.mov (.u 33)),
 oT 7 (.mov (.c (.int .i64 0)))])
 (.ret))
 (.skip)))
 (.seq (.regionD [⟨0, [0], false, [], oM 34 0⟩,
 ⟨2, [4], true, [], oU 36 (.load true 8 (.t 4))⟩,
 ⟨1, [34], false, [2], oU 35 (.call 73 [(.u 34)])⟩,
 ⟨3, [36], false, [], oU 37 (.call 72 [(.u 36)])⟩,
 ⟨4, [37], false, [], oU 38 (.mkS 8 1 [.int .i64 0, .int .i64 0, .int .u64 0, .fsl 1 0 [], .int .i64 0, .str [], .int .i64 0, .str []] [(0, 8, (.u 37))])⟩,
 ⟨5, [35, 38], false, [], oU 39 (.app 8 96 (.u 35) (.u 38))⟩,
 ⟨6, [39], false, [], oT 6 (.mov (.u 39))⟩,
 ⟨7, [], false, [], oT 7 (.mov (.c (.int .i64 0)))⟩])
 (.ret)))))))
def r53 : List LRes := [.slot 6, .slot 7]
theorem t53 : (Try.f53.body.bind (trCode v53 Try.prog Try.f53.ntmps)) = some c53 ∧ trRes v53 Try.prog Try.f53.results.toList = some r53 := ⟨by kernel_rfl, by kernel_rfl⟩

def v54 : Nat → Bool := fun t => [0, 2, 3, 4, 6, 13].contains t
def c54 : LCode :=
 .seq (.region [oT 2 (.zero [.int .i64 0, .int .i64 0, .int .u64 0, .fsl 1 0 [], .int .i64 0, .str [], .int .i64 0, .str []])])
 (.seq (.seq (.region [oT 3 (.mov (.c (.int .i64 0)))])
 (.block 0 (.loop (.seq (.seq (.region [oM 5 3,
 oT 6 (.bin .lss (.u 5) (.c (.int .i64 8)))])
 (.cond (.t 6)
 (.skip)
 (.exit 0)))
 (.seq (.block 1 (.seq (.region [oM 9 0,
 oU 10 (.call 74 [(.u 9)]),
 oT 4 (.zero [.int .i64 0, .int .i64 0, .int .u64 0, .fsl 1 0 [], .int .i64 0, .str [], .int .i64 0, .str []]),
 oN (.store 8 (.t 4) (.u 10))])
 (.seq (.region [oU 11 (.load true 8 (.t 4)),
 oU 12 (.call 70 [(.u 11)]),
 oT 13 (.bin .eql (.u 12) (.c (.int .i64 0)))])
 (.cond (.t 13)
 (.seq (.region [oU 14 (.load true 8 (.t 4)),
 oN (.store 8 (.t 2) (.u 14))])
 (.ret))
 (.skip)))))
 (.region [oM 7 3,
 oU 8 (.bin .add (.u 7) (.c (.int .i64 1))),
 oT 3 (.mov (.u 8))]))))))
 (.seq (.region [oU 15 (.build [.int .i64 0, .int .i64 0, .int .u64 0, .fsl 1 0 [], .int .i64 0, .str [], .int .i64 0, .str []] [(0, 1, (.c (.int .i64 3))), (1, 1, (.c (.int .i64 1))), (2, 1, (.c (.int .u64 4294967295)))]),
 oN (.store 8 (.t 2) (.u 15))])
 (.ret)))
def r54 : List LRes := [.cell true 8 2]
theorem t54 : (Try.f54.body.bind (trCode v54 Try.prog Try.f54.ntmps)) = some c54 ∧ trRes v54 Try.prog Try.f54.results.toList = some r54 := ⟨by kernel_rfl, by kernel_rfl⟩

def v58 : Nat → Bool := fun t => [0, 1, 4].contains t
def c58 : LCode :=
 .seq (.region [oT 4 (.mov (.c (.bool false)))])
 (.seq (.region [oM 5 1,
 oU 6 (.bin .geq (.u 5) (.c (.int .i64 0))),
 oU 7 (.mov (.u 6)),
 ⟨some 8, false, some ((.u 7), true), .mov (.t 1)⟩,
 ⟨some 9, false, some ((.u 7), true), .bin .lss (.u 8) (.c (.int .i64 32))⟩,
 oU 10 (.pick (.u 7) (.u 9) (.c (.bool false))),
 oU 11 (.mov (.u 10)),
 ⟨some 12, false, some ((.u 11), true), .mov (.t 0)⟩,
 ⟨some 13, false, some ((.u 11), true), .mov (.t 1)⟩,
 ⟨some 14, false, some ((.u 11), true), .conv .u64 (.u 13)⟩,
 ⟨some 15, false, some ((.u 11), true), .bin .shr (.u 12) (.u 14)⟩,
 ⟨some 16, false, some ((.u 11), true), .bin .and (.u 15) (.c (.int .u64 1))⟩,
 ⟨some 17, false, some ((.u 11), true), .bin .eql (.u 16) (.c (.int .u64 1))⟩,
 oU 18 (.pick (.u 11) (.u 17) (.c (.bool false))),
 oT 4 (.mov (.u 18))])
 (.ret))
def r58 : List LRes := [.slot 4]
theorem t58 : (Try.f58.body.bind (trCode v58 Try.prog Try.f58.ntmps)) = some c58 ∧ trRes v58 Try.prog Try.f58.results.toList = some r58 := ⟨by kernel_rfl, by kernel_rfl⟩

def v60 : Nat → Bool := fun t => [0, 1, 2, 3, 5, 6, 7, 28, 33, 43].contains t
def c60 : LCode :=
 .seq (.region [oT 3 (.box (.t 0)),
 oT 5 (.box (.t 2)),
 oT 6 (.mov (.c (.bool false)))])
 (.seq (.seq (.region [oU 8 (.faddr 2 (.t 3)),
 oU 9 (.load false 1 (.u 8)),
 oU 10 (.bin .neq (.u 9) (.c (.int .u64 0))),
 oU 11 (.mov (.u 10)),
 ⟨some 12, false, some ((.u 11), true), .faddr 2 (.t 3)⟩,
 ⟨some 13, false, some ((.u 11), true), .load false 1 (.u 12)⟩,
 ⟨some 14, false, some ((.u 11), true), .faddr 15 (.t 5)⟩,
 ⟨some 15, false, some ((.u 11), true), .faddr 0 (.u 14)⟩,
 ⟨some 16, false, some ((.u 11), true), .load false 1 (.u 15)⟩,
 ⟨some 17, false, some ((.u 11), true), .call 58 [(.u 13), (.u 16)]⟩,
 ⟨some 18, false, some ((.u 11), true), .un .not (.u 17)⟩,
 oU 19 (.pick (.u 11) (.u 18) (.c (.bool false))),
 oU 20 (.mov (.u 19)),
 ⟨some 21, false, some ((.u 20), false), .faddr 4 (.t 3)⟩,
 ⟨some 22, false, some ((.u 20), false), .load false 1 (.u 21)⟩,
 ⟨some 23, false, some ((.u 20), false), .bin .neq (.u 22) (.c (.int .i64 0))⟩,
 ⟨some 24, false, some ((.u 20), false), .mov (.u 23)⟩,
 ⟨some 25, false, some ((.u 24), true), .mov (.t 1)⟩,
 ⟨some 26, false, some ((.u 24), true), .un .not (.u 25)⟩,
 ⟨some 27, false, some ((.u 20), false), .pick (.u 24) (.u 26) (.c (.bool false))⟩,
 oT 28 (.pick (.u 20) (.c (.bool true)) (.u 27))])
 (.cond (.t 28)
 (.seq (.region [oT 6 (.mov (.c (.bool false)))])
 (.ret))
 (.skip)))
 (.seq (.seq (.region [oT 7 (.mov (.c (.int .i64 0)))])
 (.block 0 (.loop (.seq (.seq (.region [oM 29 7,
 oU 30 (.faddr 3 (.t 3)),
 oU 31 (.load false 1 (.u 30)),
 oU 32 (.lenL (.u 31)),
 oT 33 (.bin .lss (.u 29) (.u 32))])
 (.cond (.t 33)
 (.skip)
 (.exit 0)))
 (.seq (.block 1 (.seq (.regionD [⟨0, [3], false, [], oU 36 (.faddr 3 (.t 3))⟩,
 ⟨1, [36], true, [], oU 37 (.load false 1 (.u 36))⟩,
 ⟨2, [7], false, [], oM 38 7⟩,
 ⟨3, [37, 38], false, [], oU 39 (.iaS 5 (.u 37) (.u 38))⟩,
 ⟨4, [39], true, [], oU 40 (.load true 5 (.u 39))⟩,
 ⟨5, [5], true, [], oU 41 (.load true 25 (.t 5))⟩,
 ⟨6, [40, 41], false, [], oU 42 (.call 37 [(.u 40), (.u 41)])⟩,
 ⟨7, [42], false, [], oT 43 (.un .not (.u 42))⟩])
 (.cond (.t 43)
 (.seq (.region [oT 6 (.mov (.c (.bool false)))])
 (.ret))
 (.skip))))
 (.region [oM 34 7,
 oU 35 (.bin .add (.u 34) (.c (.int .i64 1))),
 oT 7 (.mov (.u 35))]))))))
 (.seq (.region [oT 6 (.mov (.c (.bool true)))])
 (.ret))))
def r60 : List LRes := [.slot 6]
theorem t60 : (Try.f60.body.bind (trCode v60 Try.prog Try.f60.ntmps)) = some c60 ∧ trRes v60 Try.prog Try.f60.results.toList = some r60 := ⟨by kernel_rfl, by kernel_rfl⟩

def v69 : Nat → Bool := fun t => [0, 2, 3, 4, 7, 11, 20, 30].contains t
def c69 : LCode :=
 .seq (.region [oT 2 (.mov (.c (.int .i64 0)))])
 (.seq (.seq (.region [oM 5 0,
 oU 6 (.lenL (.u 5)),
 oT 7 (.bin .gtr (.u 6) (.c (.int .i64 24)))])
 (.cond (.t 7)
 (.seq (.region [oT 2 (.mov (.c (.int .i64 140)))])
 (.ret))
 (.skip)))
 (.seq (.seq (.region [oT 3 (.mov (.c (.int .i64 0)))])
 (.block 0 (.loop (.seq (.seq (.region [oM 8 3,
 oM 9 0,
 oU 10 (.lenL (.u 9)),
 oT 11 (.bin .lss (.u 8) (.u 10))])
 (.cond (.t 11)
 (.skip)
 (.exit 0)))
 (.seq (.block 1 (.seq (.seq (.region [oM 14 0,
 oM 15 3,
 oU 16 (.iaS 8 (.u 14) (.u 15)),
 oU 17 (.load true 8 (.u 16)),
 oU 18 (.call 70 [(.u 17)]),
 oT 4 (.mov (.u 18))])
 (.seq (.region [oM 19 4,
 oT 20 (.bin .neq (.u 19) (.c (.int .i64 0)))])
 (.cond (.t 20)
 (.seq (.region [oM 21 4,
 oT 2 (.mov (.u 21))])
 (.ret))
 (.skip))))
 (.seq (.regionD [⟨0, [0], false, [], oM 22 0⟩,
 ⟨1, [3], false, [], oM 23 3⟩,
 ⟨2, [22, 23], false, [], oU 24 (.slL 8 (.u 22) none (some (.u 23)) none)⟩,
 ⟨3, [0], false, [], oM 25 0⟩,
 ⟨4, [3], false, [], oM 26 3⟩,
 ⟨5, [25, 26], false, [], oU 27 (.iaS 8 (.u 25) (.u 26))⟩,
 ⟨6, [27], true, [], oU 28 (.load true 8 (.u 27))⟩,
 ⟨7, [24, 28], false, [], oU 29 (.call 71 [(.u 24), (.u 28)])⟩,
 ⟨8, [29], false, [], oT 30 (.bin .geq (.u 29) (.c (.int .i64 0)))⟩])
 (.cond (.t 30)
 (.seq (.region [oT 2 (.mov (.c (.int .i64 141)))])
 (.ret))
 (.skip)))))
 (.region [oM 12 3,
 oU 13 (.bin .add (.u 12) (.c (.int .i64 1))),
 oT 3 (.mov (.u 13))]))))))
 (.seq (.region [oT 2 (.mov (.c (.int .i64 0)))])
 (.ret))))
def r69 : List LRes := [.slot 2]
theorem t69 : (Try.f69.body.bind (trCode v69 Try.prog Try.f69.ntmps)) = some c69 ∧ trRes v69 Try.prog Try.f69.results.toList = some r69 := ⟨by kernel_rfl, by kernel_rfl⟩

def v70 : Nat → Bool := fun t => [0, 1, 2, 3, 4, 5, 13, 21, 50, 54, 59, 71, 74, 75, 84, 85, 112, 116].contains t
def c70 : LCode :=
 .seq (.region [oT 1 (.box (.t 0)),
 oT 2 (.mov (.c (.int .i64 0)))])
 (.seq (.seq (.region [oU 6 (.faddr 0 (.t 1)),
 oU 7 (.load false 1 (.u 6)),
 oU 8 (.bin .lss (.u 7) (.c (.int .i64 1))),
 oU 9 (.mov (.u 8)),
 ⟨some 10, false, some ((.u 9), false), .faddr 0 (.t 1)⟩,
 ⟨some 11, false, some ((.u 9), false), .load false 1 (.u 10)⟩,
 ⟨some 12, false, some ((.u 9), false), .bin .gtr (.u 11) (.c (.int .i64 5))⟩,
 oT 13 (.pick (.u 9) (.c (.bool true)) (.u 12))])
 (.cond (.t 13)
 (.seq (.region [oT 2 (.mov (.c (.int .i64 130)))])
 (.ret))
 (.skip)))
 (.seq (.seq (.region [oU 14 (.faddr 1 (.t 1)),
 oU 15 (.load false 1 (.u 14)),
 oU 16 (.bin .neq (.u 15) (.c (.int .i64 1))),
 oU 17 (.mov (.u 16)),
 ⟨some 18, false, some ((.u 17), true), .faddr 1 (.t 1)⟩,
 ⟨some 19, false, some ((.u 17), true), .load false 1 (.u 18)⟩,
 ⟨some 20, false, some ((.u 17), true), .bin .neq (.u 19) (.c (.int .i64 2))⟩,
 oT 21 (.pick (.u 17) (.u 20) (.c (.bool false)))])
 (.cond (.t 21)
 (.seq (.region [oT 2 (.mov (.c (.int .i64 131)))])
 (.ret))
 (.skip)))
 (.seq (.region [oU 22 (.faddr 0 (.t 1)),
 oU 23 (.load false 1 (.u 22)),
 oU 24 (.bin .eql (.u 23) (.c (.int .i64 2))),
 oU 25 (.mov (.u 24)),
 ⟨some 26, false, some ((.u 25), false), .faddr 0 (.t 1)⟩,
 ⟨some 27, false, some ((.u 25), false), .load false 1 (.u 26)⟩,
 ⟨some 28, false, some ((.u 25), false), .bin .eql (.u 27) (.c (.int .i64 3))⟩,
 oU 29 (.pick (.u 25) (.c (.bool true)) (.u 28)),
 oT 3 (.mov (.u 29))])
 (.seq (.seq (.region [oM 30 3,
 oU 31 (.mov (.u 30)),
 ⟨some 32, false, some ((.u 31), true), .faddr 2 (.t 1)⟩,
 ⟨some 33, false, some ((.u 31), true), .load false 1 (.u 32)⟩,
 ⟨some 34, false, some ((.u 31), true), .bin .eql (.u 33) (.c (.int .u64 0))⟩,
 ⟨some 35, false, some ((.u 31), true), .mov (.u 34)⟩,
 ⟨some 36, false, some ((.u 35), false), .faddr 2 (.t 1)⟩,
 ⟨some 37, false, some ((.u 35), false), .load false 1 (.u 36)⟩,
 ⟨some 38, false, some ((.u 35), false), .call 86 [(.u 37)]⟩,
 ⟨some 39, false, some ((.u 35), false), .un .not (.u 38)⟩,
 ⟨some 40, false, some ((.u 31), true), .pick (.u 35) (.c (.bool true)) (.u 39)⟩,
 oU 41 (.pick (.u 31) (.u 40) (.c (.bool false))),
 oU 42 (.mov (.u 41)),
 ⟨some 43, false, some ((.u 42), false), .mov (.t 3)⟩,
 ⟨some 44, false, some ((.u 42), false), .un .not (.u 43)⟩,
 ⟨some 45, false, some ((.u 42), false), .mov (.u 44)⟩,
 ⟨some 46, false, some ((.u 45), true), .faddr 2 (.t 1)⟩,
 ⟨some 47, false, some ((.u 45), true), .load false 1 (.u 46)⟩,
 ⟨some 48, false, some ((.u 45), true), .bin .neq (.u 47) (.c (.int .u64 0))⟩,
 ⟨some 49, false, some ((.u 42), false), .pick (.u 45) (.u 48) (.c (.bool false))⟩,
 oT 50 (.pick (.u 42) (.c (.bool true)) (.u 49))])
 (.cond (.t 50)
 (.seq (.region [oT 2 (.mov (.c (.int .i64 132)))])
 (.ret))
 (.skip)))
 (.seq (.seq (.region [oU 51 (.faddr 3 (.t 1)),
 oU 52 (.load false 1 (.u 51)),
 oU 53 (.lenL (.u 52)),
 oT 54 (.bin .gtr (.u 53) (.c (.int .i64 8)))])
 (.cond (.t 54)
 (.seq (.region [oT 2 (.mov (.c (.int .i64 133)))])
 (.ret))
 (.skip)))
 (.seq (.seq (.region [oT 4 (.mov (.c (.int .i64 0)))])
 (.block 0 (.loop (.seq (.seq (.region [oM 55 4,
 oU 56 (.faddr 3 (.t 1)),
 oU 57 (.load false 1 (.u 56)),
 oU 58 (.lenL (.u 57)),
 oT 59 (.bin .lss (.u 55) (.u 58))])
 (.cond (.t 59)
 (.skip)
 (.exit 0)))
 (.seq (.block 1 (.seq (.regionD [⟨0, [1], false, [], oU 62 (.faddr 3 (.t 1))⟩,
 ⟨1, [62], true, [], oU 63 (.load false 1 (.u 62))⟩,
 ⟨2, [4], false, [], oM 64 4⟩,
 ⟨3, [63, 64], false, [], oU 65 (.iaS 5 (.u 63) (.u 64))⟩,
 ⟨4, [65], true, [], oU 66 (.load true 5 (.u 65))⟩,
 ⟨5, [1], false, [], oU 67 (.faddr 0 (.t 1))⟩,
 ⟨6, [67], true, [], oU 68 (.load false 1 (.u 67))⟩,
 ⟨7, [66, 68], false, [], oU 69 (.call 82 [(.u 66), (.u 68)])⟩,
 ⟨8, [69], false, [], oT 5 (.mov (.u 69))⟩])
 (.seq (.region [oM 70 5,
 oT 71 (.bin .neq (.u 70) (.c (.int .i64 0)))])
 (.cond (.t 71)
 (.seq (.region [oM 72 5,
 oT 2 (.mov (.u 72))])
 (.ret))
 (.skip)))))
 (.region [oM 60 4,
 oU 61 (.bin .add (.u 60) (.c (.int .i64 1))),
 oT 4 (.mov (.u 61))]))))))
 (.seq (.seq (.region [oU 73 (.faddr 4 (.t 1)),
 oT 74 (.load false 1 (.u 73))])
 (.block 2 (.seq (.region [oU 76 (.bin .eql (.t 74) (.c (.int .i64 0))),
 oT 75 (.mov (.u 76))])
 (.cond (.t 75)
 (.seq (.region [oU 77 (.faddr 5 (.t 1)),
 oU 78 (.load false 1 (.u 77)),
 oU 79 (.bin .neq (.u 78) (.c (.str []))),
 oU 80 (.mov (.u 79)),
 ⟨some 81, false, some ((.u 80), false), .faddr 6 (.t 1)⟩,
 ⟨some 82, false, some ((.u 80), false), .load false 1 (.u 81)⟩,
 ⟨some 83, false, some ((.u 80), false), .bin .neq (.u 82) (.c (.int .i64 0))⟩,
 oT 84 (.pick (.u 80) (.c (.bool true)) (.u 83))])
 (.cond (.t 84)
 (.seq (.region [oT 2 (.mov (.c (.int .i64 134)))])
 (.ret))
 (.skip)))
 (.seq (.seq (.region [oU 86 (.bin .eql (.t 74) (.c (.int .i64 1))),
 oT 85 (.mov (.u 86))])
 (.cond (.t 85)
 (.skip)
 (.region [oU 87 (.bin .eql (.t 74) (.c (.int .i64 2))),
 oT 85 (.mov (.u 87))])))
 (.cond (.t 85)
 (.seq (.region [oU 88 (.faddr 0 (.t 1)),
 oU 89 (.load false 1 (.u 88)),
 oU 90 (.bin .neq (.u 89) (.c (.int .i64 3))),
 oU 91 (.mov (.u 90)),
 ⟨some 92, false, some ((.u 91), false), .faddr 5 (.t 1)⟩,
 ⟨some 93, false, some ((.u 91), false), .load false 1 (.u 92)⟩,
 ⟨some 94, false, some ((.u 91), false), .call 87 [(.u 93)]⟩,
 ⟨some 95, false, some ((.u 91), false), .un .not (.u 94)⟩,
 oU 96 (.pick (.u 91) (.c (.bool true)) (.u 95)),
 oU 97 (.mov (.u 96)),
 ⟨some 98, false, some ((.u 97), false), .faddr 5 (.t 1)⟩,
 ⟨some 99, false, some ((.u 97), false), .load false 1 (.u 98)⟩,
 ⟨some 100, false, some ((.u 97), false), .len (.u 99)⟩,
 ⟨some 101, false, some ((.u 97), false), .bin .gtr (.u 100) (.c (.int .i64 128))⟩,
 oU 102 (.pick (.u 97) (.c (.bool true)) (.u 101)),
 oU 103 (.mov (.u 102)),
 ⟨some 104, false, some ((.u 103), false), .faddr 6 (.t 1)⟩,
 ⟨some 105, false, some ((.u 103), false), .load false 1 (.u 104)⟩,
 ⟨some 106, false, some ((.u 103), false), .bin .lss (.u 105) (.c (.int .i64 1))⟩,
 oU 107 (.pick (.u 103) (.c (.bool true)) (.u 106)),
 oU 108 (.mov (.u 107)),
 ⟨some 109, false, some ((.u 108), false), .faddr 6 (.t 1)⟩,
 ⟨some 110, false, some ((.u 108), false), .load false 1 (.u 109)⟩,
 ⟨some 111, false, some ((.u 108), false), .bin .gtr (.u 110) (.c (.int .i64 15))⟩,
 oT 112 (.pick (.u 108) (.c (.bool true)) (.u 111))])
 (.cond (.t 112)
 (.seq (.region [oT 2 (.mov (.c (.int .i64 134)))])
 (.ret))
 (.skip)))
 (.seq (.region [oT 2 (.mov (.c (.int .i64 134)))])
 (.ret))))))))
 (.seq (.seq (.region [oU 113 (.faddr 7 (.t 1)),
 oU 114 (.load false 1 (.u 113)),
 oU 115 (.len (.u 114)),
 oT 116 (.bin .gtr (.u 115) (.c (.int .i64 31)))])
 (.cond (.t 116)
 (.seq (.region [oT 2 (.mov (.c (.int .i64 135)))])
 (.ret))
 (.skip)))
 (.seq (.region [oT 2 (.mov (.c (.int .i64 0)))])
 (.ret))))))))))
def r70 : List LRes := [.slot 2]
theorem t70 : (Try.f70.body.bind (trCode v70 Try.prog Try.f70.ntmps)) = some c70 ∧ trRes v70 Try.prog Try.f70.results.toList = some r70 := ⟨by kernel_rfl, by kernel_rfl⟩

def v71 : Nat → Bool := fun t => [0, 1, 3, 4, 5, 9, 17].contains t
def c71 : LCode :=
 .seq (.region [oT 3 (.box (.t 1)),
 oT 4 (.mov (.c (.int .i64 0)))])
 (.seq (.seq (.region [oT 5 (.mov (.c (.int .i64 0)))])
 (.block 0 (.loop (.seq (.seq (.region [oM 6 5,
 oM 7 0,
 oU 8 (.lenL (.u 7)),
 oT 9 (.bin .lss (.u 6) (.u 8))])
 (.cond (.t 9)
 (.skip)
 (.exit 0)))
 (.seq (.block 1 (.seq (.regionD [⟨0, [0], false, [], oM 12 0⟩,
 ⟨1, [5], false, [], oM 13 5⟩,
 ⟨2, [12, 13], false, [], oU 14 (.iaS 8 (.u 12) (.u 13))⟩,
 ⟨3, [14], true, [], oU 15 (.load true 8 (.u 14))⟩,
 ⟨4, [3], true, [], oU 16 (.load true 8 (.t 3))⟩,
 ⟨5, [15, 16], false, [], oT 17 (.call 28 [(.u 15), (.u 16)])⟩])
 (.cond (.t 17)
 (.seq (.region [oM 18 5,
 oT 4 (.mov (.u 18))])
 (.ret))
 (.skip))))
 (.region [oM 10 5,
 oU 11 (.bin .add (.u 10) (.c (.int .i64 1))),
 oT 5 (.mov (.u 11))]))))))
 (.seq (.region [oT 4 (.mov (.c (.int .i64 (-1))))])
 (.ret)))
def r71 : List LRes := [.slot 4]
theorem t71 : (Try.f71.body.bind (trCode v71 Try.prog Try.f71.ntmps)) = some c71 ∧ trRes v71 Try.prog Try.f71.results.toList = some r71 := ⟨by kernel_rfl, by kernel_rfl⟩

def v72 : Nat → Bool := fun t => [0, 1, 2].contains t
def c72 : LCode :=
 .seq (.region [oT 1 (.box (.t 0)),
 oT 2 (.zero [.int .i64 0, .int .i64 0, .int .u64 0, .fsl 1 0 [], .int .i64 0, .str [], .int .i64 0, .str []])])
 (.seq (.region [oU 3 (.faddr 3 (.t 1)),
 oU 4 (.load false 1 (.u 3)),
 oU 5 (.app 5 48 (.c (.fsl 1 0 [])) (.u 4)),
 oU 6 (.faddr 3 (.t 1)),
 oN (.store 1 (.u 6) (.u 5))])
 (.seq (.region [oU 7 (.load true 8 (.t 1)),
 oN (.store 8 (.t 2) (.u 7))])
 (.ret)))
def r72 : List LRes := [.cell true 8 2]
theorem t72 : (Try.f72.body.bind (trCode v72 Try.prog Try.f72.ntmps)) = some c72 ∧ trRes v72 Try.prog Try.f72.results.toList = some r72 := ⟨by kernel_rfl, by kernel_rfl⟩

def v73 : Nat → Bool := fun t => [0, 2, 3, 4, 8].contains t
def c73 : LCode :=
 .seq (.region [oT 2 (.mov (.c (.fsl 1 0 [])))])
 (.seq (.region [oT 3 (.mov (.c (.fsl 1 0 [])))])
 (.seq (.seq (.region [oT 4 (.mov (.c (.int .i64 0)))])
 (.block 0 (.loop (.seq (.seq (.region [oM 5 4,
 oM 6 0,
 oU 7 (.lenL (.u 6)),
 oT 8 (.bin .lss (.u 5) (.u 7))])
 (.cond (.t 8)
 (.skip)
 (.exit 0)))
 (.seq (.block 1 (.region [oM 11 3,
 oM 12 0,
 oM 13 4,
 oU 14 (.iaS 8 (.u 12) (.u 13)),
 oU 15 (.load true 8 (.u 14)),
 oU 16 (.call 72 [(.u 15)]),
 oU 17 (.mkS 8 1 [.int .i64 0, .int .i64 0, .int .u64 0, .fsl 1 0 [], .int .i64 0, .str [], .int .i64 0, .str []] [(0, 8, (.u 16))]),
 oU 18 (.app 8 96 (.u 11) (.u 17)),
 oT 3 (.mov (.u 18))]))
 (.region [oM 9 4,
 oU 10 (.bin .add (.u 9) (.c (.int .i64 1))),
 oT 4 (.mov (.u 10))]))))))
 (.seq (.region [oM 19 3,
 oT 2 (.mov (.u 19))])
 (.ret))))
def r73 : List LRes := [.slot 2]
theorem t73 : (Try.f73.body.bind (trCode v73 Try.prog Try.f73.ntmps)) = some c73 ∧ trRes v73 Try.prog Try.f73.results.toList = some r73 := ⟨by kernel_rfl, by kernel_rfl⟩

def v74 : Nat → Bool := fun t => [0, 2, 3, 4, 22, 28, 32, 38, 57, 69, 73].contains t
def c74 : LCode :=
 .seq (.region [oT 2 (.zero [.int .i64 0, .int .i64 0, .int .u64 0, .fsl 1 0 [], .int .i64 0, .str [], .int .i64 0, .str []])])
 (.seq (.region [oM 5 0,
 oU 6 (.mkS 1 10 [.int .i64 0] [(0, 1, (.c (.int .i64 3))), (1, 1, (.c (.int .i64 3))), (2, 1, (.c (.int .i64 3))), (3, 1, (.c (.int .i64 3))), (4, 1, (.c (.int .i64 2))), (5, 1, (.c (.int .i64 2))), (6, 1, (.c (.int .i64 1))), (7, 1, (.c (.int .i64 4))), (8, 1, (.c (.int .i64 5))), (9, 1, (.c (.int .i64 5)))]),
 oU 7 (.call 39 [(.u 5), (.u 6)]),
 oM 8 0,
 oU 9 (.mkS 1 3 [.int .i64 0] [(0, 1, (.c (.int .i64 1))), (1, 1, (.c (.int .i64 1))), (2, 1, (.c (.int .i64 2)))]),
 oU 10 (.call 39 [(.u 8), (.u 9)]),
 oM 11 0,
 oU 12 (.mkS 1 4 [.str []] [(0, 1, (.c (.str []))), (1, 1, (.c (.str [107]))), (2, 1, (.c (.str [97, 32, 98]))), (3, 1, (.c (.str [120])))]),
 oU 13 (.call 38 [(.u 11), (.u 12)]),
 oU 14 (.build [.int .i64 0, .int .i64 0, .int .u64 0, .fsl 1 0 [], .int .i64 0, .str [], .int .i64 0, .str []] [(0, 1, (.u 7)), (1, 1, (.u 10)), (7, 1, (.u 13))]),
 oT 3 (.zero [.int .i64 0, .int .i64 0, .int .u64 0, .fsl 1 0 [], .int .i64 0, .str [], .int .i64 0, .str []]),
 oN (.store 8 (.t 3) (.u 14))])
 (.seq (.seq (.region [oU 15 (.faddr 0 (.t 3)),
 oU 16 (.load false 1 (.u 15)),
 oU 17 (.bin .eql (.u 16) (.c (.int .i64 2))),
 oU 18 (.mov (.u 17)),
 ⟨some 19, false, some ((.u 18), false), .faddr 0 (.t 3)⟩,
 ⟨some 20, false, some ((.u 18), false), .load false 1 (.u 19)⟩,
 ⟨some 21, false, some ((.u 18), false), .bin .eql (.u 20) (.c (.int .i64 3))⟩,
 oT 22 (.pick (.u 18) (.c (.bool true)) (.u 21))])
 (.cond (.t 22)
 (.seq (.region [oM 23 0,
 oU 24 (.call 88 [(.u 23)]),
 oU 25 (.faddr 2 (.t 3)),
 oN (.store 1 (.u 25) (.u 24))])
 (.seq (.seq (.region [oM 26 0,
 oU 27 (.call 21 [(.u 26), (.c (.int .i64 3))]),
 oT 28 (.bin .gtr (.u 27) (.c (.int .i64 0)))])
 (.cond (.t 28)
 (.region [oU 29 (.faddr 2 (.t 3)),
 oN (.store 1 (.u 29) (.c (.int .u64 4294967295)))])
 (.skip)))
 (.seq (.region [oU 30 (.faddr 2 (.t 3)),
 oU 31 (.load false 1 (.u 30)),
 oT 32 (.bin .eql (.u 31) (.c (.int .u64 0)))])
 (.cond (.t 32)
 (.region [oU 33 (.faddr 2 (.t 3)),
 oN (.store 1 (.u 33) (.c (.int .u64 1)))])
 (.skip)))))
 (.skip)))
 (.seq (.seq (.region [oM 34 0,
 oU 35 (.mkS 1 6 [.int .i64 0] [(0, 1, (.c (.int .i64 0))), (1, 1, (.c (.int .i64 0))), (2, 1, (.c (.int .i64 1))), (3, 1, (.c (.int .i64 1))), (4, 1, (.c (.int .i64 2))), (5, 1, (.c (.int .i64 3)))]),
 oU 36 (.call 39 [(.u 34), (.u 35)]),
 oT 4 (.mov (.u 36))])
 (.block 0 (.loop (.seq (.seq (.region [oM 37 4,
 oT 38 (.bin .gtr (.u 37) (.c (.int .i64 0)))])
 (.cond (.t 38)
 (.skip)
 (.exit 0)))
 (.seq (.block 1 (.regionD [⟨0, [3], false, [], oU 41 (.faddr 3 (.t 3))⟩,
 ⟨1, [41], true, [], oU 42 (.load false 1 (.u 41))⟩,
 ⟨2, [0], false, [], oM 43 0⟩,
 ⟨3, [3], false, [], oU 44 (.faddr 0 (.t 3))⟩,
 ⟨4, [44], true, [], oU 45 (.load false 1 (.u 44))⟩,
 ⟨5, [43, 45], false, [1], oU 46 (.call 35 [(.u 43), (.u 45)])⟩,
 ⟨6, [46], false, [], oU 47 (.mkS 5 1 [.int .i64 0, .int .i64 0, .int .i64 0, .str [], .int .i64 0] [(0, 5, (.u 46))])⟩,
 ⟨7, [42, 47], false, [], oU 48 (.app 5 48 (.u 42) (.u 47))⟩,
 ⟨8, [3], false, [], oU 49 (.faddr 3 (.t 3))⟩,
 ⟨9, [49, 48], false, [], oN (.store 1 (.u 49) (.u 48))⟩]))
 (.region [oM 39 4,
 oU 40 (.bin .sub (.u 39) (.c (.int .i64 1))),
 oT 4 (.mov (.u 40))]))))))
 (.seq (.seq (.region [oU 50 (.faddr 0 (.t 3)),
 oU 51 (.load false 1 (.u 50)),
 oU 52 (.bin .eql (.u 51) (.c (.int .i64 3))),
 oU 53 (.mov (.u 52)),
 ⟨some 54, false, some ((.u 53), true), .mov (.t 0)⟩,
 ⟨some 55, false, some ((.u 53), true), .call 21 [(.u 54), (.c (.int .i64 3))]⟩,
 ⟨some 56, false, some ((.u 53), true), .bin .eql (.u 55) (.c (.int .i64 0))⟩,
 oT 57 (.pick (.u 53) (.u 56) (.c (.bool false)))])
 (.cond (.t 57)
 (.seq (.region [oM 58 0,
 oU 59 (.call 22 [(.u 58), (.c (.int .i64 1)), (.c (.int .i64 2))]),
 oM 60 0,
 oU 61 (.call 77 [(.u 60)]),
 oM 62 0,
 oU 63 (.call 22 [(.u 62), (.c (.int .i64 1)), (.c (.int .i64 15))]),
 oU 64 (.faddr 4 (.t 3)),
 oN (.store 1 (.u 64) (.u 59)),
 oU 65 (.faddr 5 (.t 3)),
 oN (.store 1 (.u 65) (.u 61)),
 oU 66 (.faddr 6 (.t 3)),
 oN (.store 1 (.u 66) (.u 63))])
 (.seq (.region [oM 67 0,
 oU 68 (.call 21 [(.u 67), (.c (.int .i64 8))]),
 oT 69 (.bin .eql (.u 68) (.c (.int .i64 7)))])
 (.cond (.t 69)
 (.region [oU 70 (.faddr 5 (.t 3)),
 oN (.store 1 (.u 70) (.c (.str [47])))])
 (.skip))))
 (.skip)))
 (.seq (.seq (.region [oM 71 0,
 oU 72 (.call 21 [(.u 71), (.c (.int .i64 24))]),
 oT 73 (.bin .eql (.u 72) (.c (.int .i64 23)))])
 (.cond (.t 73)
 (.region [oM 74 0,
 oU 75 (.call 22 [(.u 74), (.c (.int .i64 (-1))), (.c (.int .i64 16))]),
 oM 76 0,
 oU 77 (.call 22 [(.u 76), (.c (.int .i64 0)), (.c (.int .i64 6))]),
 oM 78 0,
 oU 79 (.call 22 [(.u 78), (.c (.int .i64 0)), (.c (.int .i64 3))]),
 oU 80 (.faddr 6 (.t 3)),
 oN (.store 1 (.u 80) (.u 75)),
 oU 81 (.faddr 0 (.t 3)),
 oN (.store 1 (.u 81) (.u 77)),
 oU 82 (.faddr 1 (.t 3)),
 oN (.store 1 (.u 82) (.u 79))])
 (.skip)))
 (.seq (.region [oU 83 (.load true 8 (.t 3)),
 oN (.store 8 (.t 2) (.u 83))])
 (.ret)))))))
def r74 : List LRes := [.cell true 8 2]
theorem t74 : (Try.f74.body.bind (trCode v74 Try.prog Try.f74.ntmps)) = some c74 ∧ trRes v74 Try.prog Try.f74.results.toList = some r74 := ⟨by kernel_rfl, by kernel_rfl⟩

def v86 : Nat → Bool := fun t => [0, 2].contains t
def c86 : LCode :=
 .seq (.region [oT 2 (.mov (.c (.bool false)))])
 (.seq (.region [oM 3 0,
 oU 4 (.bin .shr (.u 3) (.c (.int .u64 32))),
 oU 5 (.bin .eql (.u 4) (.c (.int .u64 0))),
 oT 2 (.mov (.u 5))])
 (.ret))
def r86 : List LRes := [.slot 2]
theorem t86 : (Try.f86.body.bind (trCode v86 Try.prog Try.f86.ntmps)) = some c86 ∧ trRes v86 Try.prog Try.f86.results.toList = some r86 := ⟨by kernel_rfl, by kernel_rfl⟩

def v87 : Nat → Bool := fun t => [0, 2, 3, 6, 7, 17, 25].contains t
def c87 : LCode :=
 .seq (.region [oT 2 (.mov (.c (.bool false)))])
 (.seq (.region [oM 9 0,
 oU 10 (.call 97 [(.u 9)]),
 oU 8 (.mov (.u 10)),
 oU 11 (.ext (.u 8) 0),
 oU 12 (.ext (.u 8) 1),
 oU 13 (.ext (.u 8) 2),
 oT 3 (.mov (.u 11)),
 oU 4 (.mov (.u 12)),
 oU 5 (.mov (.u 13))])
 (.seq (.region [oT 6 (.mov (.c (.str [])))])
 (.seq (.seq (.region [oT 7 (.mov (.c (.int .i64 0)))])
 (.block 0 (.loop (.seq (.seq (.region [oM 14 7,
 oM 15 3,
 oU 16 (.lenL (.u 15)),
 oT 17 (.bin .lss (.u 14) (.u 16))])
 (.cond (.t 17)
 (.skip)
 (.exit 0)))
 (.seq (.block 1 (.seq (.seq (.region [oM 20 3,
 oM 21 7,
 oU 22 (.iaS 1 (.u 20) (.u 21)),
 oU 23 (.load false 1 (.u 22)),
 oU 24 (.call 98 [(.u 23)]),
 oT 25 (.un .not (.u 24))])
 (.cond (.t 25)
 (.seq (.region [oT 2 (.mov (.c (.bool false)))])
 (.ret))
 (.skip)))
 (.region [oM 26 6,
 oM 27 3,
 oM 28 7,
 oU 29 (.iaS 1 (.u 27) (.u 28)),
 oU 30 (.load false 1 (.u 29)),
 oU 31 (.bin .add (.c (.str [47])) (.u 30)),
 oU 32 (.bin .add (.u 26) (.u 31)),
 oT 6 (.mov (.u 32))])))
 (.region [oM 18 7,
 oU 19 (.bin .add (.u 18) (.c (.int .i64 1))),
 oT 7 (.mov (.u 19))]))))))
 (.seq (.region [oM 33 0,
 oU 34 (.bin .eql (.u 33) (.c (.str [47]))),
 oU 35 (.mov (.u 34)),
 ⟨some 36, false, some ((.u 35), false), .mov (.t 3)⟩,
 ⟨some 37, false, some ((.u 35), false), .lenL (.u 36)⟩,
 ⟨some 38, false, some ((.u 35), false), .bin .gtr (.u 37) (.c (.int .i64 0))⟩,
 ⟨some 39, false, some ((.u 35), false), .mov (.u 38)⟩,
 ⟨some 40, false, some ((.u 39), true), .mov (.t 0)⟩,
 ⟨some 41, false, some ((.u 39), true), .mov (.t 6)⟩,
 ⟨some 42, false, some ((.u 39), true), .bin .eql (.u 40) (.u 41)⟩,
 ⟨some 43, false, some ((.u 35), false), .pick (.u 39) (.u 42) (.c (.bool false))⟩,
 oU 44 (.pick (.u 35) (.c (.bool true)) (.u 43)),
 oT 2 (.mov (.u 44))])
 (.ret)))))
def r87 : List LRes := [.slot 2]
theorem t87 : (Try.f87.body.bind (trCode v87 Try.prog Try.f87.ntmps)) = some c87 ∧ trRes v87 Try.prog Try.f87.results.toList = some r87 := ⟨by kernel_rfl, by kernel_rfl⟩

def v88 : Nat → Bool := fun t => [0, 2, 3, 4, 6, 7, 9, 16].contains t
def c88 : LCode :=
 .seq (.region [oT 2 (.mov (.c (.int .u64 0)))])
 (.seq (.seq (.region [oM 5 0,
 oT 6 (.call 21 [(.u 5), (.c (.int .i64 6))])])
 (.block 0 (.seq (.region [oU 8 (.bin .eql (.t 6) (.c (.int .i64 0))),
 oT 7 (.mov (.u 8))])
 (.cond (.t 7)
 (.seq (.region [oT 2 (.mov (.c (.int .u64 4294967295)))])
 (.ret))
 (.seq (.region [oU 10 (.bin .eql (.t 6) (.c (.int .i64 1))),
 oT 9 (.mov (.u 10))])
 (.cond (.t 9)
 (.seq (.region [oM 11 0,
 oU 12 (.call 21 [(.u 11), (.c (.int .i64 32))]),
 oU 13 (.conv .u64 (.u 12)),
 oU 14 (.bin .shl (.c (.int .u64 1)) (.u 13)),
 oT 2 (.mov (.u 14))])
 (.ret))
 (.skip)))))))
 (.seq (.region [oT 3 (.mov (.c (.int .u64 0)))])
 (.seq (.seq (.region [oT 4 (.mov (.c (.int .i64 0)))])
 (.block 1 (.loop (.seq (.seq (.region [oM 15 4,
 oT 16 (.bin .lss (.u 15) (.c (.int .i64 32)))])
 (.cond (.t 16)
 (.skip)
 (.exit 1)))
 (.seq (.block 2 (.region [oM 19 3,
 oM 20 0,
 oU 21 (.call 21 [(.u 20), (.c (.int .i64 2))]),
 oU 22 (.conv .u64 (.u 21)),
 oM 23 4,
 oU 24 (.conv .u64 (.u 23)),
 oU 25 (.bin .shl (.u 22) (.u 24)),
 oU 26 (.bin .or (.u 19) (.u 25)),
 oT 3 (.mov (.u 26))]))
 (.region [oM 17 4,
 oU 18 (.bin .add (.u 17) (.c (.int .i64 1))),
 oT 4 (.mov (.u 18))]))))))
 (.seq (.region [oM 27 3,
 oT 2 (.mov (.u 27))])
 (.ret)))))
def r88 : List LRes := [.slot 2]
theorem t88 : (Try.f88.body.bind (trCode v88 Try.prog Try.f88.ntmps)) = some c88 ∧ trRes v88 Try.prog Try.f88.results.toList = some r88 := ⟨by kernel_rfl, by kernel_rfl⟩

def v97 : Nat → Bool := fun t => [0, 2, 3, 4, 5, 6, 7, 11, 23, 26].contains t
def c97 : LCode :=
 .seq (.region [oT 2 (.mov (.c (.fsl 1 0 []))),
 oT 3 (.mov (.c (.bool false))),
 oT 4 (.mov (.c (.bool false)))])
 (.seq (.region [oT 5 (.mov (.c (.fsl 1 0 [])))])
 (.seq (.region [oT 6 (.mov (.c (.int .i64 0)))])
 (.seq (.seq (.region [oT 7 (.mov (.c (.int .i64 0)))])
 (.block 0 (.loop (.seq (.seq (.region [oM 8 7,
 oM 9 0,
 oU 10 (.len (.u 9)),
 oT 11 (.bin .leq (.u 8) (.u 10))])
 (.cond (.t 11)
 (.skip)
 (.exit 0)))
 (.seq (.block 1 (.seq (.region [oM 14 7,
 oM 15 0,
 oU 16 (.len (.u 15)),
 oU 17 (.bin .eql (.u 14) (.u 16)),
 oU 18 (.mov (.u 17)),
 ⟨some 19, false, some ((.u 18), false), .mov (.t 0)⟩,
 ⟨some 20, false, some ((.u 18), false), .mov (.t 7)⟩,
 ⟨some 21, false, some ((.u 18), false), .ixS (.u 19) (.u 20)⟩,
 ⟨some 22, false, some ((.u 18), false), .bin .eql (.u 21) (.c (.int .u8 47))⟩,
 oT 23 (.pick (.u 18) (.c (.bool true)) (.u 22))])
 (.cond (.t 23)
 (.seq (.seq (.region [oM 24 7,
 oM 25 6,
 oT 26 (.bin .gtr (.u 24) (.u 25))])
 (.cond (.t 26)
 (.region [oM 27 5,
 oM 28 0,
 oM 29 6,
 oM 30 7,
 oU 31 (.slS (.u 28) (some (.u 29)) (some (.u 30))),
 oU 32 (.mkS 1 1 [.str []] [(0, 1, (.u 31))]),
 oU 33 (.app 1 16 (.u 27) (.u 32)),
 oT 5 (.mov (.u 33))])
 (.skip)))
 (.region [oM 34 7,
 oU 35 (.bin .add (.u 34) (.c (.int .i64 1))),
 oT 6 (.mov (.u 35))]))
 (.skip))))
 (.region [oM 12 7,
 oU 13 (.bin .add (.u 12) (.c (.int .i64 1))),
 oT 7 (.mov (.u 13))]))))))
 (.seq (.regionD [⟨0, [5], false, [], oM 36 5⟩,
 ⟨1, [0], false, [], oM 37 0⟩,
 ⟨2, [37], false, [], oU 38 (.len (.u 37))⟩,
 ⟨3, [38], false, [], oU 39 (.bin .gtr (.u 38) (.c (.int .i64 0)))⟩,
 ⟨4, [39], false, [], oU 40 (.mov (.u 39))⟩,
 ⟨5, [0, 40], false, [], ⟨some 41, false, some ((.u 40), true), .mov (.t 0)⟩⟩,
 ⟨6, [41, 40], false, [], ⟨some 42, false, some ((.u 40), true), .ixS (.u 41) (.c (.int .i64 0))⟩⟩,
 ⟨7, [42, 40], false, [], ⟨some 43, false, some ((.u 40), true), .bin .eql (.u 42) (.c (.int .u8 47))⟩⟩,
 ⟨8, [40, 43], false, [], oU 44 (.pick (.u 40) (.u 43) (.c (.bool false)))⟩,
 ⟨9, [0], false, [], oM 45 0⟩,
 ⟨10, [45], false, [], oU 46 (.len (.u 45))⟩,
 ⟨11, [46], false, [], oU 47 (.bin .gtr (.u 46) (.c (.int .i64 0)))⟩,
 ⟨12, [47], false, [], oU 48 (.mov (.u 47))⟩,
 ⟨13, [0, 48], false, [], ⟨some 49, false, some ((.u 48), true), .mov (.t 0)⟩⟩,
 ⟨14, [0, 48], false, [], ⟨some 50, false, some ((.u 48), true), .mov (.t 0)⟩⟩,
 ⟨15, [50, 48], false, [], ⟨some 51, false, some ((.u 48), true), .len (.u 50)⟩⟩,
 ⟨16, [51, 48], false, [], ⟨some 52, false, some ((.u 48), true), .bin .sub (.u 51) (.c (.int .i64 1))⟩⟩,
 ⟨17, [49, 52, 48], false, [], ⟨some 53, false, some ((.u 48), true), .ixS (.u 49) (.u 52)⟩⟩,
 ⟨18, [53, 48], false, [], ⟨some 54, false, some ((.u 48), true), .bin .eql (.u 53) (.c (.int .u8 47))⟩⟩,
 ⟨19, [48, 54], false, [], oU 55 (.pick (.u 48) (.u 54) (.c (.bool false)))⟩,
 ⟨20, [36], false, [], oT 2 (.mov (.u 36))⟩,
 ⟨21, [44], false, [], oT 3 (.mov (.u 44))⟩,
 ⟨22, [55], false, [], oT 4 (.mov (.u 55))⟩])
 (.ret)))))
def r97 : List LRes := [.slot 2, .slot 3, .slot 4]
theorem t97 : (Try.f97.body.bind (trCode v97 Try.prog Try.f97.ntmps)) = some c97 ∧ trRes v97 Try.prog Try.f97.results.toList = some r97 := ⟨by kernel_rfl, by kernel_rfl⟩

def v98 : Nat → Bool := fun t => [0, 2, 3, 19, 23, 35].contains t
def c98 : LCode :=
 .seq (.region [oT 2 (.mov (.c (.bool false)))])
 (.seq (.seq (.region [oM 4 0,
 oU 5 (.len (.u 4)),
 oU 6 (.bin .lss (.u 5) (.c (.int .i64 1))),
 oU 7 (.mov (.u 6)),
 ⟨some 8, false, some ((.u 7), false), .mov (.t 0)⟩,
 ⟨some 9, false, some ((.u 7), false), .len (.u 8)⟩,
 ⟨some 10, false, some ((.u 7), false), .bin .gtr (.u 9) (.c (.int .i64 12))⟩,
 oU 11 (.pick (.u 7) (.c (.bool true)) (.u 10)),
 oU 12 (.mov (.u 11)),
 ⟨some 13, false, some ((.u 12), false), .mov (.t 0)⟩,
 ⟨some 14, false, some ((.u 12), false), .bin .eql (.u 13) (.c (.str [46]))⟩,
 oU 15 (.pick (.u 12) (.c (.bool true)) (.u 14)),
 oU 16 (.mov (.u 15)),
 ⟨some 17, false, some ((.u 16), false), .mov (.t 0)⟩,
 ⟨some 18, false, some ((.u 16), false), .bin .eql (.u 17) (.c (.str [46, 46]))⟩,
 oT 19 (.pick (.u 16) (.c (.bool true)) (.u 18))])
 (.cond (.t 19)
 (.seq (.region [oT 2 (.mov (.c (.bool false)))])
 (.ret))
 (.skip)))
 (.seq (.seq (.region [oT 3 (.mov (.c (.int .i64 0)))])
 (.block 0 (.loop (.seq (.seq (.region [oM 20 3,
 oM 21 0,
 oU 22 (.len (.u 21)),
 oT 23 (.bin .lss (.u 20) (.u 22))])
 (.cond (.t 23)
 (.skip)
 (.exit 0)))
 (.seq (.block 1 (.seq (.region [oM 26 0,
 oM 27 3,
 oU 28 (.ixS (.u 26) (.u 27)),
 oU 29 (.bin .eql (.u 28) (.c (.int .u8 0))),
 oU 30 (.mov (.u 29)),
 ⟨some 31, false, some ((.u 30), false), .mov (.t 0)⟩,
 ⟨some 32, false, some ((.u 30), false), .mov (.t 3)⟩,
 ⟨some 33, false, some ((.u 30), false), .ixS (.u 31) (.u 32)⟩,
 ⟨some 34, false, some ((.u 30), false), .bin .eql (.u 33) (.c (.int .u8 47))⟩,
 oT 35 (.pick (.u 30) (.c (.bool true)) (.u 34))])
 (.cond (.t 35)
 (.seq (.region [oT 2 (.mov (.c (.bool false)))])
 (.ret))
 (.skip))))
 (.region [oM 24 3,
 oU 25 (.bin .add (.u 24) (.c (.int .i64 1))),
 oT 3 (.mov (.u 25))]))))))
 (.seq (.region [oT 2 (.mov (.c (.bool true)))])
 (.ret))))
def r98 : List LRes := [.slot 2]
theorem t98 : (Try.f98.body.bind (trCode v98 Try.prog Try.f98.ntmps)) = some c98 ∧ trRes v98 Try.prog Try.f98.results.toList = some r98 := ⟨by kernel_rfl, by kernel_rfl⟩


end Go.Proofs.Ytcngkeeknlloaaa
