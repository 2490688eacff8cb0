/- The functions' bodies as the engine reads them; written by program out of the translation, checked by the kernel. -/
import Derived.Test.YtcngkeeknlloaaaProg
import Derived.Test.YtcngkeeknlloaaaLxL
import Derived.KernelRfl
namespace Go.Proofs.Ytcngkeeknlloaaa
open Go Go.Lx
set_option maxRecDepth 100000
def v11 : Nat → Bool := fun t => [0, 2].contains t
def c11 : LCode :=
 .seq (.region [oT 2 (.mov (.c (.nil)))])
 (.seq (.region [oM 3 0,
 oU 4 (.build [.fsl 1 0 [], .int .i64 0] [(0, 1, (.u 3))]),
 oU 5 (.box (.u 4)),
 oT 2 (.mov (.u 5))])
 (.ret))
def r11 : List LRes := [.slot 2]
theorem t11 : (Try.f11.body.bind (trCode v11 Try.prog Try.f11.ntmps)) = some c11 ∧ trRes v11 Try.prog Try.f11.results.toList = some r11 := ⟨by kernel_rfl, by kernel_rfl⟩

def v12 : Nat → Bool := fun t => [0, 1, 4, 5, 6, 7, 8, 9, 10, 11, 12, 24, 36, 53, 72, 77, 1000001].contains t
def c12 : LCode :=
 .seq (.region [oT 4 (.mov (.c (.fsl 1 0 []))),
 oT 5 (.mov (.c (.fsl 1 0 [])))])
 (.seq (.region [oU 13 (.build [.int .i64 0, .int .i64 0, .int .i64 0, .str [], .int .i64 0] [(0, 1, (.c (.int .i64 3))), (1, 1, (.c (.int .i64 1)))]),
 oU 14 (.build [.int .i64 0, .int .i64 0, .int .i64 0, .str [], .int .i64 0] [(0, 1, (.c (.int .i64 4))), (1, 1, (.c (.int .i64 1)))]),
 oU 15 (.build [.int .i64 0, .int .i64 0, .int .i64 0, .str [], .int .i64 0] [(0, 1, (.c (.int .i64 15))), (1, 1, (.c (.int .i64 3)))]),
 oU 16 (.build [.int .i64 0, .int .i64 0, .int .i64 0, .str [], .int .i64 0] [(0, 1, (.c (.int .i64 5))), (1, 1, (.c (.int .i64 1))), (2, 1, (.c (.int .i64 5)))]),
 oU 17 (.build [.int .i64 0, .int .i64 0, .int .i64 0, .str [], .int .i64 0] [(0, 1, (.c (.int .i64 16))), (1, 1, (.c (.int .i64 1))), (2, 1, (.c (.int .i64 1)))]),
 oU 18 (.mkS 5 5 [.int .i64 0, .int .i64 0, .int .i64 0, .str [], .int .i64 0] [(0, 5, (.u 13)), (5, 5, (.u 14)), (10, 5, (.u 15)), (15, 5, (.u 16)), (20, 5, (.u 17))]),
 oT 6 (.mov (.u 18))])
 (.seq (.region [oT 7 (.mov (.c (.fsl 1 0 [])))])
 (.seq (.region [oT 8 (.mov (.c (.fsl 1 0 [])))])
 (.seq (.seq (.region [oM 19 0,
 oM 20 1,
 oU 21 (.bin .add (.u 20) (.c (.int .i64 1))),
 oU 22 (.call 21 [(.u 19), (.u 21)]),
 oT 9 (.mov (.u 22))])
 (.block 0 (.loop (.seq (.seq (.region [oM 23 9,
 oT 24 (.bin .gtr (.u 23) (.c (.int .i64 0)))])
 (.cond (.t 24)
 (.skip)
 (.exit 0)))
 (.seq (.block 1 (.seq (.region [oM 27 0,
 oU 28 (.call 22 [(.u 27), (.c (.int .i64 1)), (.c (.int .i64 2))]),
 oM 29 0,
 oU 30 (.mkS 1 3 [.str []] [(0, 1, (.c (.str []))), (1, 1, (.c (.str [97]))), (2, 1, (.c (.str [98])))]),
 oU 31 (.call 38 [(.u 29), (.u 30)]),
 oU 32 (.build [.int .i64 0, .int .i64 0, .int .u64 0, .fsl 1 0 [], .int .i64 0, .str [], .int .i64 0, .str []] [(0, 1, (.c (.int .i64 3))), (1, 1, (.u 28)), (2, 1, (.c (.int .u64 1))), (7, 1, (.u 31))]),
 oT 10 (.zero [.int .i64 0, .int .i64 0, .int .u64 0, .fsl 1 0 [], .int .i64 0, .str [], .int .i64 0, .str []]),
 oN (.store 8 (.t 10) (.u 32))])
 (.seq (.seq (.region [oM 33 0,
 oU 34 (.call 21 [(.u 33), (.c (.int .i64 4))]),
 oT 11 (.mov (.u 34))])
 (.block 2 (.loop (.seq (.seq (.region [oM 35 11,
 oT 36 (.bin .gtr (.u 35) (.c (.int .i64 0)))])
 (.cond (.t 36)
 (.skip)
 (.exit 2)))
 (.seq (.block 3 (.regionD [⟨0, [10], false, [], oU 39 (.faddr 3 (.t 10))⟩,
 ⟨1, [39], true, [], oU 40 (.load false 1 (.u 39))⟩,
 ⟨2, [6], false, [], oM 41 6⟩,
 ⟨3, [0], false, [], oM 42 0⟩,
 ⟨4, [6], false, [], oM 43 6⟩,
 ⟨5, [43], false, [], oU 44 (.lenL (.u 43))⟩,
 ⟨6, [42, 44], false, [1], oU 45 (.call 21 [(.u 42), (.u 44)])⟩,
 ⟨7, [41, 45], false, [], oU 46 (.iaS 5 (.u 41) (.u 45))⟩,
 ⟨8, [46], true, [], oU 47 (.load true 5 (.u 46))⟩,
 ⟨9, [47], false, [], oU 48 (.mkS 5 1 [.int .i64 0, .int .i64 0, .int .i64 0, .str [], .int .i64 0] [(0, 5, (.u 47))])⟩,
 ⟨10, [40, 48], false, [], oU 49 (.appF 5 48 (.u 40) (.u 48))⟩,
 ⟨11, [10], false, [], oU 50 (.faddr 3 (.t 10))⟩,
 ⟨12, [50, 49], false, [], oN (.store 1 (.u 50) (.u 49))⟩]))
 (.region [oM 37 11,
 oU 38 (.bin .sub (.u 37) (.c (.int .i64 1))),
 oT 11 (.mov (.u 38))]))))))
 (.seq (.seq (.region [oM 51 0,
 oU 52 (.call 21 [(.u 51), (.c (.int .i64 4))]),
 oT 53 (.bin .eql (.u 52) (.c (.int .i64 0)))])
 (.cond (.t 53)
 (.region [oM 54 0,
 oU 55 (.call 22 [(.u 54), (.c (.int .i64 1)), (.c (.int .i64 2))]),
 oM 56 0,
 oU 57 (.mkS 1 2 [.str []] [(0, 1, (.c (.str [47, 97]))), (1, 1, (.c (.str [47, 98])))]),
 oU 58 (.call 38 [(.u 56), (.u 57)]),
 oM 59 0,
 oU 60 (.mkS 1 2 [.int .i64 0] [(0, 1, (.c (.int .i64 2))), (1, 1, (.c (.int .i64 15)))]),
 oU 61 (.call 39 [(.u 59), (.u 60)]),
 oU 62 (.faddr 4 (.t 10)),
 oN (.store 1 (.u 62) (.u 55)),
 oU 63 (.faddr 5 (.t 10)),
 oN (.store 1 (.u 63) (.u 58)),
 oU 64 (.faddr 6 (.t 10)),
 oN (.store 1 (.u 64) (.u 61))])
 (.skip)))
 (.region [oM 65 7,
 oU 66 (.load true 8 (.t 10)),
 oU 67 (.mkS 8 1 [.int .i64 0, .int .i64 0, .int .u64 0, .fsl 1 0 [], .int .i64 0, .str [], .int .i64 0, .str []] [(0, 8, (.u 66))]),
 oU 68 (.appF 8 96 (.u 65) (.u 67)),
 oT 7 (.mov (.u 68))])))))
 (.region [oM 25 9,
 oU 26 (.bin .sub (.u 25) (.c (.int .i64 1))),
 oT 9 (.mov (.u 26))]))))))
 (.seq (.seq (.region [oT 12 (.mov (.c (.int .i64 0)))])
 (.block 4 (.loop (.seq (.seq (.region [oM 69 12,
 oM 70 7,
 oU 71 (.lenL (.u 70)),
 oT 72 (.bin .lss (.u 69) (.u 71))])
 (.cond (.t 72)
 (.skip)
 (.exit 4)))
 (.seq (.block 5 (.seq (.region [oM 75 0,
 oU 76 (.call 21 [(.u 75), (.c (.int .i64 4))]),
 oT 77 (.bin .gtr (.u 76) (.c (.int .i64 0)))])
 (.cond (.t 77)
 (.region [oM 78 8,
 oM 79 12,
 oU 80 (.mkS 1 1 [.int .i64 0] [(0, 1, (.u 79))]),
 oU 81 (.appF 1 8 (.u 78) (.u 80)),
 oT 8 (.mov (.u 81))])
 (.skip))))
 (.region [oM 73 12,
 oU 74 (.bin .add (.u 73) (.c (.int .i64 1))),
 oT 12 (.mov (.u 74))]))))))
 (.seq (.region [oM 82 7,
 oM 83 8,
 oT 4 (.mov (.u 82)),
 oT 5 (.mov (.u 83))])
 (.ret)))))))
def r12 : List LRes := [.slot 4, .slot 5]
theorem t12 : (Try.f12.body.bind (trCode v12 Try.prog Try.f12.ntmps)) = some c12 ∧ trRes v12 Try.prog Try.f12.results.toList = some r12 := ⟨by kernel_rfl, by kernel_rfl⟩

def v13 : Nat → Bool := fun t => [0, 1, 4, 5, 6, 7, 8, 9, 10, 11, 33, 37, 48].contains t
def c13 : LCode :=
 .seq (.region [oT 4 (.mov (.c (.bool false)))])
 (.seq (.region [oM 13 0,
 oM 14 1,
 oU 15 (.call 15 [(.u 13), (.u 14)]),
 oU 12 (.mov (.u 15)),
 oU 16 (.ext (.u 12) 0),
 oU 17 (.ext (.u 12) 1),
 oT 5 (.mov (.u 16)),
 oT 6 (.mov (.u 17))])
 (.seq (.region [oM 19 0,
 oM 20 1,
 oU 21 (.call 24 [(.u 19), (.u 20)]),
 oU 18 (.mov (.u 21)),
 oU 22 (.ext (.u 18) 0),
 oU 23 (.ext (.u 18) 1),
 oT 7 (.mov (.u 22)),
 oT 8 (.mov (.u 23))])
 (.seq (.seq (.region [oM 24 6,
 oM 25 8,
 oU 26 (.bin .neq (.u 24) (.u 25)),
 oU 27 (.mov (.u 26)),
 ⟨some 28, false, some ((.u 27), false), .mov (.t 5)⟩,
 ⟨some 29, false, some ((.u 27), false), .lenL (.u 28)⟩,
 ⟨some 30, false, some ((.u 27), false), .mov (.t 7)⟩,
 ⟨some 31, false, some ((.u 27), false), .lenL (.u 30)⟩,
 ⟨some 32, false, some ((.u 27), false), .bin .neq (.u 29) (.u 31)⟩,
 oT 33 (.pick (.u 27) (.c (.bool true)) (.u 32))])
 (.cond (.t 33)
 (.seq (.region [oT 4 (.mov (.c (.bool false)))])
 (.ret))
 (.skip)))
 (.seq (.seq (.region [oT 9 (.mov (.c (.int .i64 0)))])
 (.block 0 (.loop (.seq (.seq (.region [oM 34 9,
 oM 35 5,
 oU 36 (.lenL (.u 35)),
 oT 37 (.bin .lss (.u 34) (.u 36))])
 (.cond (.t 37)
 (.skip)
 (.exit 0)))
 (.seq (.block 1 (.seq (.regionD [⟨0, [5], false, [], oM 40 5⟩,
 ⟨1, [9], false, [], oM 41 9⟩,
 ⟨2, [40, 41], false, [], oU 42 (.iaS 8 (.u 40) (.u 41))⟩,
 ⟨3, [42], true, [], oU 43 (.load true 8 (.u 42))⟩,
 ⟨4, [7], false, [], oM 44 7⟩,
 ⟨5, [9], false, [], oM 45 9⟩,
 ⟨6, [44, 45], false, [], oU 46 (.iaS 8 (.u 44) (.u 45))⟩,
 ⟨7, [46], true, [], oU 47 (.load true 8 (.u 46))⟩,
 ⟨8, [43, 47], false, [], oT 48 (.eqS true 8 [(0, 1), (1, 1), (2, 1), (3, 2), (4, 1), (5, 1), (6, 2), (7, 1)] (.u 43) (.u 47))⟩])
 (.cond (.t 48)
 (.seq (.region [oT 4 (.mov (.c (.bool false)))])
 (.ret))
 (.skip))))
 (.region [oM 38 9,
 oU 39 (.bin .add (.u 38) (.c (.int .i64 1))),
 oT 9 (.mov (.u 39))]))))))
 (.seq (.region [oM 50 0,
 oM 51 1,
 oU 52 (.call 16 [(.u 50), (.u 51)]),
 oU 49 (.mov (.u 52)),
 oU 53 (.ext (.u 49) 0),
 oU 54 (.ext (.u 49) 1),
 oT 10 (.zero [.fsl 1 0 [], .fsl 1 0 [], .int .i64 0]),
 oN (.store 3 (.t 10) (.u 53)),
 oT 6 (.mov (.u 54))])
 (.seq (.region [oM 56 0,
 oM 57 1,
 oU 58 (.call 17 [(.u 56), (.u 57)]),
 oU 55 (.mov (.u 58)),
 oU 59 (.ext (.u 55) 0),
 oU 60 (.ext (.u 55) 1),
 oT 11 (.zero [.fsl 1 0 [], .fsl 1 0 [], .int .i64 0]),
 oN (.store 3 (.t 11) (.u 59)),
 oT 8 (.mov (.u 60))])
 (.seq (.region [oM 61 6,
 oM 62 8,
 oU 63 (.bin .eql (.u 61) (.u 62)),
 oU 64 (.mov (.u 63)),
 ⟨some 65, false, some ((.u 64), true), .load true 3 (.t 10)⟩,
 ⟨some 66, false, some ((.u 64), true), .load true 3 (.t 11)⟩,
 ⟨some 67, false, some ((.u 64), true), .call 27 [(.u 65), (.u 66)]⟩,
 oU 68 (.pick (.u 64) (.u 67) (.c (.bool false))),
 oU 69 (.mov (.u 68)),
 ⟨some 70, false, some ((.u 69), true), .faddr 2 (.t 10)⟩,
 ⟨some 71, false, some ((.u 69), true), .load false 1 (.u 70)⟩,
 ⟨some 72, false, some ((.u 69), true), .faddr 2 (.t 11)⟩,
 ⟨some 73, false, some ((.u 69), true), .load false 1 (.u 72)⟩,
 ⟨some 74, false, some ((.u 69), true), .bin .eql (.u 71) (.u 73)⟩,
 oU 75 (.pick (.u 69) (.u 74) (.c (.bool false))),
 oT 4 (.mov (.u 75))])
 (.ret))))))))
def r13 : List LRes := [.slot 4]
theorem t13 : (Try.f13.body.bind (trCode v13 Try.prog Try.f13.ntmps)) = some c13 ∧ trRes v13 Try.prog Try.f13.results.toList = some r13 := ⟨by kernel_rfl, by kernel_rfl⟩

def v14 : Nat → Bool := fun t => [0, 1, 2, 3].contains t
def c14 : LCode :=
 .seq (.region [oT 0 (.mov (.c (.bool false)))])
 (.seq (.region [oU 4 (.build [.int .i64 0, .int .i64 0, .int .i64 0, .str [], .int .i64 0] [(0, 1, (.c (.int .i64 3))), (1, 1, (.c (.int .i64 1)))]),
 oU 5 (.mkS 5 1 [.int .i64 0, .int .i64 0, .int .i64 0, .str [], .int .i64 0] [(0, 5, (.u 4))]),
 oU 6 (.build [.int .i64 0, .int .i64 0, .int .u64 0, .fsl 1 0 [], .int .i64 0, .str [], .int .i64 0, .str []] [(0, 1, (.c (.int .i64 3))), (1, 1, (.c (.int .i64 2))), (2, 1, (.c (.int .u64 1))), (3, 1, (.u 5))]),
 oU 7 (.build [.int .i64 0, .int .i64 0, .int .u64 0, .fsl 1 0 [], .int .i64 0, .str [], .int .i64 0, .str []] [(0, 1, (.c (.int .i64 3))), (1, 1, (.c (.int .i64 1))), (2, 1, (.c (.int .u64 1)))]),
 oU 8 (.mkS 8 2 [.int .i64 0, .int .i64 0, .int .u64 0, .fsl 1 0 [], .int .i64 0, .str [], .int .i64 0, .str []] [(0, 8, (.u 6)), (8, 8, (.u 7))]),
 oT 1 (.mov (.u 8))])
 (.seq (.region [oM 10 1,
 oU 11 (.mkS 1 2 [.int .i64 0] [(0, 1, (.c (.int .i64 0))), (1, 1, (.c (.int .i64 1)))]),
 oU 12 (.call 16 [(.u 10), (.u 11)]),
 oU 9 (.mov (.u 12)),
 oU 13 (.ext (.u 9) 0),
 oU 14 (.ext (.u 9) 1),
 oT 2 (.zero [.fsl 1 0 [], .fsl 1 0 [], .int .i64 0]),
 oN (.store 3 (.t 2) (.u 13)),
 oT 3 (.mov (.u 14))])
 (.seq (.region [oM 15 3,
 oU 16 (.bin .eql (.u 15) (.c (.int .i64 0))),
 oU 17 (.mov (.u 16)),
 ⟨some 18, false, some ((.u 17), true), .faddr 1 (.t 2)⟩,
 ⟨some 19, false, some ((.u 17), true), .load false 1 (.u 18)⟩,
 ⟨some 20, false, some ((.u 17), true), .lenL (.u 19)⟩,
 ⟨some 21, false, some ((.u 17), true), .bin .eql (.u 20) (.c (.int .i64 1))⟩,
 oU 22 (.pick (.u 17) (.u 21) (.c (.bool false))),
 oU 23 (.mov (.u 22)),
 ⟨some 24, false, some ((.u 23), true), .load true 3 (.t 2)⟩,
 ⟨some 25, false, some ((.u 23), true), .mkS 1 1 [.bool false] [(0, 1, (.c (.bool true)))]⟩,
 ⟨some 26, false, some ((.u 23), true), .call 19 [(.u 24), (.u 25)]⟩,
 ⟨some 27, false, some ((.u 23), true), .bin .eql (.u 26) (.c (.int .i64 0))⟩,
 oU 28 (.pick (.u 23) (.u 27) (.c (.bool false))),
 oU 29 (.mov (.u 28)),
 ⟨some 30, false, some ((.u 29), true), .load true 3 (.t 2)⟩,
 ⟨some 31, false, some ((.u 29), true), .mkS 1 1 [.bool false] [(0, 1, (.c (.bool false)))]⟩,
 ⟨some 32, false, some ((.u 29), true), .call 19 [(.u 30), (.u 31)]⟩,
 ⟨some 33, false, some ((.u 29), true), .bin .eql (.u 32) (.c (.int .i64 1))⟩,
 oU 34 (.pick (.u 29) (.u 33) (.c (.bool false))),
 oT 0 (.mov (.u 34))])
 (.ret))))
def r14 : List LRes := [.slot 0]
theorem t14 : (Try.f14.body.bind (trCode v14 Try.prog Try.f14.ntmps)) = some c14 ∧ trRes v14 Try.prog Try.f14.results.toList = some r14 := ⟨by kernel_rfl, by kernel_rfl⟩

def v15 : Nat → Bool := fun t => [0, 1, 4, 5, 6, 8, 9, 11, 13, 15, 16, 17, 18, 33, 37, 38, 39, 40, 47, 48, 49, 50, 55, 58].contains t
def c15 : LCode :=
 .seq (.region [oT 4 (.mov (.c (.fsl 1 0 []))),
 oT 5 (.mov (.c (.int .i64 0)))])
 (.seq (.region [oU 14 (.mkMap),
 oT 6 (.mov (.u 14))])
 (.seq (.seq (.region [oT 15 (.mov (.t 1)),
 oT 16 (.lenL (.t 15)),
 oT 17 (.mov (.c (.int .i64 0)))])
 (.block 0 (.loop (.seq (.region [oT 18 (.bin .lss (.t 17) (.t 16))])
 (.seq (.cond (.t 18)
 (.skip)
 (.exit 0))
 (.seq (.block 1 (.seq (.region [oU 19 (.iaS 1 (.t 15) (.t 17)),
 oU 20 (.load false 1 (.u 19)),
 oT 8 (.mov (.u 20))])
 (.seq (.seq (.region [oM 21 8,
 oU 22 (.bin .lss (.u 21) (.c (.int .i64 0))),
 oU 23 (.mov (.u 22)),
 ⟨some 24, false, some ((.u 23), false), .mov (.t 8)⟩,
 ⟨some 25, false, some ((.u 23), false), .mov (.t 0)⟩,
 ⟨some 26, false, some ((.u 23), false), .lenL (.u 25)⟩,
 ⟨some 27, false, some ((.u 23), false), .bin .geq (.u 24) (.u 26)⟩,
 oU 28 (.pick (.u 23) (.c (.bool true)) (.u 27)),
 oU 29 (.mov (.u 28)),
 ⟨some 30, false, some ((.u 29), false), .mov (.t 6)⟩,
 ⟨some 31, false, some ((.u 29), false), .mov (.t 8)⟩,
 ⟨some 32, false, some ((.u 29), false), .look false 3 (.bool false) (.u 30) (.u 31)⟩,
 oT 33 (.pick (.u 29) (.c (.bool true)) (.u 32))])
 (.cond (.t 33)
 (.seq (.region [oT 4 (.mov (.c (.fsl 1 0 []))),
 oT 5 (.mov (.c (.int .i64 160)))])
 (.ret))
 (.skip)))
 (.region [oM 34 6,
 oM 35 8,
 oN (.upd 3 (.u 34) (.u 35) (.c (.bool true)))]))))
 (.region [oU 36 (.bin .add (.t 17) (.c (.int .i64 1))),
 oT 17 (.mov (.u 36))])))))))
 (.seq (.region [oT 9 (.mov (.c (.fsl 1 0 [])))])
 (.seq (.seq (.region [oT 37 (.mov (.t 1)),
 oT 38 (.lenL (.t 37)),
 oT 39 (.mov (.c (.int .i64 0)))])
 (.block 2 (.loop (.seq (.region [oT 40 (.bin .lss (.t 39) (.t 38))])
 (.seq (.cond (.t 40)
 (.skip)
 (.exit 2))
 (.seq (.block 3 (.seq (.region [oU 41 (.iaS 1 (.t 37) (.t 39)),
 oU 42 (.load false 1 (.u 41)),
 oT 11 (.mov (.u 42))])
 (.seq (.region [oM 43 0,
 oM 44 11,
 oU 45 (.iaS 8 (.u 43) (.u 44)),
 oU 46 (.load true 8 (.u 45)),
 oT 47 (.call 40 [(.u 46)]),
 oT 48 (.lenL (.t 47)),
 oT 49 (.mov (.c (.int .i64 0)))])
 (.block 4 (.loop (.seq (.region [oT 50 (.bin .lss (.t 49) (.t 48))])
 (.seq (.cond (.t 50)
 (.skip)
 (.exit 4))
 (.seq (.block 5 (.seq (.region [oU 51 (.iaS 8 (.t 47) (.t 49)),
 oU 52 (.load true 8 (.u 51)),
 oT 13 (.zero [.int .i64 0, .int .i64 0, .int .i64 0, .str [], .int .i64 0, .int .i64 0, .str [], .int .i64 0]),
 oN (.store 8 (.t 13) (.u 52))])
 (.seq (.seq (.region [oM 53 9,
 oU 54 (.load true 8 (.t 13)),
 oT 55 (.call 41 [(.u 53), (.u 54)])])
 (.cond (.t 55)
 (.exit 5)
 (.skip)))
 (.seq (.seq (.region [oM 56 9,
 oU 57 (.lenL (.u 56)),
 oT 58 (.bin .eql (.u 57) (.c (.int .i64 12)))])
 (.cond (.t 58)
 (.seq (.region [oT 4 (.mov (.c (.fsl 1 0 []))),
 oT 5 (.mov (.c (.int .i64 161)))])
 (.ret))
 (.skip)))
 (.region [oM 59 9,
 oU 60 (.load true 8 (.t 13)),
 oU 61 (.mkS 8 1 [.int .i64 0, .int .i64 0, .int .i64 0, .str [], .int .i64 0, .int .i64 0, .str [], .int .i64 0] [(0, 8, (.u 60))]),
 oU 62 (.app 8 80 (.u 59) (.u 61)),
 oT 9 (.mov (.u 62))])))))
 (.region [oU 63 (.bin .add (.t 49) (.c (.int .i64 1))),
 oT 49 (.mov (.u 63))])))))))))
 (.region [oU 64 (.bin .add (.t 39) (.c (.int .i64 1))),
 oT 39 (.mov (.u 64))])))))))
 (.seq (.region [oM 65 9,
 oT 4 (.mov (.u 65)),
 oT 5 (.mov (.c (.int .i64 0)))])
 (.ret))))))
def r15 : List LRes := [.slot 4, .slot 5]
theorem t15 : (Try.f15.body.bind (trCode v15 Try.prog Try.f15.ntmps)) = some c15 ∧ trRes v15 Try.prog Try.f15.results.toList = some r15 := ⟨by kernel_rfl, by kernel_rfl⟩

def v16 : Nat → Bool := fun t => [0, 1, 4, 5, 6, 7, 8, 9, 10, 11, 12, 20].contains t
def c16 : LCode :=
 .seq (.region [oT 4 (.zero [.fsl 1 0 [], .fsl 1 0 [], .int .i64 0]),
 oT 5 (.mov (.c (.int .i64 0)))])
 (.seq (.region [oM 14 0,
 oM 15 1,
 oU 16 (.call 15 [(.u 14), (.u 15)]),
 oU 13 (.mov (.u 16)),
 oU 17 (.ext (.u 13) 0),
 oU 18 (.ext (.u 13) 1),
 oT 6 (.zero [.fsl 1 0 []]),
 oN (.store 1 (.t 6) (.u 17)),
 oT 7 (.mov (.u 18))])
 (.seq (.seq (.region [oM 19 7,
 oT 20 (.bin .neq (.u 19) (.c (.int .i64 0)))])
 (.cond (.t 20)
 (.seq (.region [oU 21 (.build [.fsl 1 0 [], .fsl 1 0 [], .int .i64 0] []),
 oM 22 7,
 oN (.store 3 (.t 4) (.u 21)),
 oT 5 (.mov (.u 22))])
 (.ret))
 (.skip)))
 (.seq (.region [oM 23 0,
 oM 24 1,
 oU 25 (.load false 1 (.t 6)),
 oU 26 (.call 42 [(.u 23), (.u 24), (.u 25)]),
 oT 8 (.zero [.fsl 1 0 []]),
 oN (.store 1 (.t 8) (.u 26))])
 (.seq (.region [oT 9 (.zero [.fsl 1 0 []])])
 (.seq (.region [oU 27 (.mkMap),
 oT 10 (.zero [.raw (.map none)]),
 oN (.store 1 (.t 10) (.u 27))])
 (.seq (.region [oT 11 (.zero [.raw .nilFunc])])
 (.seq (.region [oU 28 (.mkf 43 [(.t 6), (.t 8), (.t 11), (.t 10), (.t 9)]),
 oN (.store 1 (.t 11) (.u 28))])
 (.seq (.region [oU 29 (.load false 1 (.t 11)),
 oU 30 (.callV (.u 29) [(.c (.int .i64 0)), (.c (.int .i64 0))]),
 oT 12 (.mov (.u 30))])
 (.seq (.region [oU 31 (.load false 1 (.t 6)),
 oU 32 (.load false 1 (.t 9)),
 oM 33 12,
 oU 34 (.build [.fsl 1 0 [], .fsl 1 0 [], .int .i64 0] [(0, 1, (.u 31)), (1, 1, (.u 32)), (2, 1, (.u 33))]),
 oN (.store 3 (.t 4) (.u 34)),
 oT 5 (.mov (.c (.int .i64 0)))])
 (.ret))))))))))
def r16 : List LRes := [.cell true 3 4, .slot 5]
theorem t16 : (Try.f16.body.bind (trCode v16 Try.prog Try.f16.ntmps)) = some c16 ∧ trRes v16 Try.prog Try.f16.results.toList = some r16 := ⟨by kernel_rfl, by kernel_rfl⟩

def v17 : Nat → Bool := fun t => [0, 1, 4, 5, 6, 7, 8, 9, 17].contains t
def c17 : LCode :=
 .seq (.region [oT 4 (.zero [.fsl 1 0 [], .fsl 1 0 [], .int .i64 0]),
 oT 5 (.mov (.c (.int .i64 0)))])
 (.seq (.region [oM 11 0,
 oM 12 1,
 oU 13 (.call 24 [(.u 11), (.u 12)]),
 oU 10 (.mov (.u 13)),
 oU 14 (.ext (.u 10) 0),
 oU 15 (.ext (.u 10) 1),
 oT 6 (.mov (.u 14)),
 oT 7 (.mov (.u 15))])
 (.seq (.seq (.region [oM 16 7,
 oT 17 (.bin .neq (.u 16) (.c (.int .i64 0)))])
 (.cond (.t 17)
 (.seq (.region [oU 18 (.build [.fsl 1 0 [], .fsl 1 0 [], .int .i64 0] []),
 oM 19 7,
 oN (.store 3 (.t 4) (.u 18)),
 oT 5 (.mov (.u 19))])
 (.ret))
 (.skip)))
 (.seq (.region [oM 20 6,
 oU 21 (.build [.fsl 1 0 [], .fsl 1 0 [], .int .i64 0] [(0, 1, (.u 20))]),
 oT 8 (.zero [.fsl 1 0 [], .fsl 1 0 [], .int .i64 0]),
 oN (.store 3 (.t 8) (.u 21))])
 (.seq (.region [oM 22 0,
 oM 23 1,
 oU 24 (.call 45 [(.t 8), (.u 22), (.u 23), (.c (.int .i64 0)), (.c (.int .i64 0))]),
 oT 9 (.mov (.u 24))])
 (.seq (.region [oU 25 (.load true 3 (.t 8)),
 oM 26 9,
 oU 27 (.call 46 [(.u 25), (.u 26)]),
 oN (.store 3 (.t 4) (.u 27)),
 oT 5 (.mov (.c (.int .i64 0)))])
 (.ret))))))
def r17 : List LRes := [.cell true 3 4, .slot 5]
theorem t17 : (Try.f17.body.bind (trCode v17 Try.prog Try.f17.ntmps)) = some c17 ∧ trRes v17 Try.prog Try.f17.results.toList = some r17 := ⟨by kernel_rfl, by kernel_rfl⟩

def v18 : Nat → Bool := fun t => [0, 1, 2, 3, 4, 5, 9, 13, 23, 26, 27, 28, 29, 55, 77].contains t
def c18 : LCode :=
 .seq (.region [oT 1 (.box (.t 0)),
 oT 2 (.mov (.c (.bool false)))])
 (.seq (.seq (.region [oU 6 (.faddr 0 (.t 1)),
 oU 7 (.load false 1 (.u 6)),
 oU 8 (.lenL (.u 7)),
 oT 9 (.bin .gtr (.u 8) (.c (.int .i64 12)))])
 (.cond (.t 9)
 (.seq (.region [oT 2 (.mov (.c (.bool false)))])
 (.ret))
 (.skip)))
 (.seq (.seq (.region [oU 10 (.faddr 1 (.t 1)),
 oU 11 (.load false 1 (.u 10)),
 oU 12 (.lenL (.u 11)),
 oT 13 (.bin .eql (.u 12) (.c (.int .i64 0)))])
 (.cond (.t 13)
 (.seq (.region [oU 14 (.faddr 2 (.t 1)),
 oU 15 (.load false 1 (.u 14)),
 oU 16 (.bin .lss (.u 15) (.c (.int .i64 0))),
 oT 2 (.mov (.u 16))])
 (.ret))
 (.skip)))
 (.seq (.seq (.region [oU 17 (.faddr 2 (.t 1)),
 oU 18 (.load false 1 (.u 17)),
 oU 19 (.faddr 1 (.t 1)),
 oU 20 (.load false 1 (.u 19)),
 oU 21 (.lenL (.u 20)),
 oU 22 (.bin .sub (.u 21) (.c (.int .i64 1))),
 oT 23 (.bin .neq (.u 18) (.u 22))])
 (.cond (.t 23)
 (.seq (.region [oT 2 (.mov (.c (.bool false)))])
 (.ret))
 (.skip)))
 (.seq (.region [oU 24 (.mkMap),
 oT 3 (.mov (.u 24))])
 (.seq (.seq (.region [oU 25 (.faddr 1 (.t 1)),
 oT 26 (.load false 1 (.u 25)),
 oT 27 (.lenL (.t 26)),
 oT 28 (.mov (.c (.int .i64 0)))])
 (.block 0 (.loop (.seq (.region [oT 29 (.bin .lss (.t 28) (.t 27))])
 (.seq (.cond (.t 29)
 (.skip)
 (.exit 0))
 (.seq (.block 1 (.seq (.region [oM 30 28,
 oU 31 (.iaS 3 (.t 26) (.t 28)),
 oU 32 (.load true 3 (.u 31)),
 oT 5 (.zero [.int .i64 0, .int .i64 0, .int .i64 0]),
 oT 4 (.mov (.u 30)),
 oN (.store 3 (.t 5) (.u 32))])
 (.seq (.seq (.region [oU 33 (.faddr 0 (.t 5)),
 oU 34 (.load false 1 (.u 33)),
 oU 35 (.bin .lss (.u 34) (.c (.int .i64 0))),
 oU 36 (.mov (.u 35)),
 ⟨some 37, false, some ((.u 36), false), .faddr 0 (.t 5)⟩,
 ⟨some 38, false, some ((.u 36), false), .load false 1 (.u 37)⟩,
 ⟨some 39, false, some ((.u 36), false), .faddr 0 (.t 1)⟩,
 ⟨some 40, false, some ((.u 36), false), .load false 1 (.u 39)⟩,
 ⟨some 41, false, some ((.u 36), false), .lenL (.u 40)⟩,
 ⟨some 42, false, some ((.u 36), false), .bin .geq (.u 38) (.u 41)⟩,
 oU 43 (.pick (.u 36) (.c (.bool true)) (.u 42)),
 oU 44 (.mov (.u 43)),
 ⟨some 45, false, some ((.u 44), false), .faddr 1 (.t 5)⟩,
 ⟨some 46, false, some ((.u 44), false), .load false 1 (.u 45)⟩,
 ⟨some 47, false, some ((.u 44), false), .faddr 2 (.t 5)⟩,
 ⟨some 48, false, some ((.u 44), false), .load false 1 (.u 47)⟩,
 ⟨some 49, false, some ((.u 44), false), .bin .eql (.u 46) (.u 48)⟩,
 oU 50 (.pick (.u 44) (.c (.bool true)) (.u 49)),
 oU 51 (.mov (.u 50)),
 ⟨some 52, false, some ((.u 51), false), .mov (.t 3)⟩,
 ⟨some 53, false, some ((.u 51), false), .load true 3 (.t 5)⟩,
 ⟨some 54, false, some ((.u 51), false), .look false 54 (.bool false) (.u 52) (.u 53)⟩,
 oT 55 (.pick (.u 51) (.c (.bool true)) (.u 54))])
 (.cond (.t 55)
 (.seq (.region [oT 2 (.mov (.c (.bool false)))])
 (.ret))
 (.skip)))
 (.seq (.seq (.regionD [⟨0, [1], false, [], oU 56 (.faddr 1 (.t 1))⟩,
 ⟨1, [56], true, [], oU 57 (.load false 1 (.u 56))⟩,
 ⟨2, [4], false, [], oM 58 4⟩,
 ⟨3, [57, 58], false, [], oU 59 (.slL 3 (.u 57) none (some (.u 58)) none)⟩,
 ⟨4, [5], false, [], oU 60 (.faddr 0 (.t 5))⟩,
 ⟨5, [60], true, [], oU 61 (.load false 1 (.u 60))⟩,
 ⟨6, [5], false, [], oU 62 (.faddr 1 (.t 5))⟩,
 ⟨7, [62], true, [], oU 63 (.load false 1 (.u 62))⟩,
 ⟨8, [59, 61, 63], false, [], oU 64 (.call 47 [(.u 59), (.u 61), (.u 63)])⟩,
 ⟨9, [64], false, [], oU 65 (.un .not (.u 64))⟩,
 ⟨10, [65], false, [], oU 66 (.mov (.u 65))⟩,
 ⟨11, [1, 66], false, [], ⟨some 67, false, some ((.u 66), false), .faddr 1 (.t 1)⟩⟩,
 ⟨12, [67, 66], true, [], ⟨some 68, false, some ((.u 66), false), .load false 1 (.u 67)⟩⟩,
 ⟨13, [4, 66], false, [], ⟨some 69, false, some ((.u 66), false), .mov (.t 4)⟩⟩,
 ⟨14, [68, 69, 66], false, [], ⟨some 70, false, some ((.u 66), false), .slL 3 (.u 68) none (some (.u 69)) none⟩⟩,
 ⟨15, [5, 66], false, [], ⟨some 71, false, some ((.u 66), false), .faddr 0 (.t 5)⟩⟩,
 ⟨16, [71, 66], true, [], ⟨some 72, false, some ((.u 66), false), .load false 1 (.u 71)⟩⟩,
 ⟨17, [5, 66], false, [], ⟨some 73, false, some ((.u 66), false), .faddr 2 (.t 5)⟩⟩,
 ⟨18, [73, 66], true, [], ⟨some 74, false, some ((.u 66), false), .load false 1 (.u 73)⟩⟩,
 ⟨19, [70, 72, 74, 66], false, [], ⟨some 75, false, some ((.u 66), false), .call 47 [(.u 70), (.u 72), (.u 74)]⟩⟩,
 ⟨20, [75, 66], false, [], ⟨some 76, false, some ((.u 66), false), .un .not (.u 75)⟩⟩,
 ⟨21, [66, 76], false, [], oT 77 (.pick (.u 66) (.c (.bool true)) (.u 76))⟩])
 (.cond (.t 77)
 (.seq (.region [oT 2 (.mov (.c (.bool false)))])
 (.ret))
 (.skip)))
 (.region [oM 78 3,
 oU 79 (.load true 3 (.t 5)),
 oN (.upd 54 (.u 78) (.u 79) (.c (.bool true)))])))))
 (.region [oU 80 (.bin .add (.t 28) (.c (.int .i64 1))),
 oT 28 (.mov (.u 80))])))))))
 (.seq (.region [oU 81 (.load true 3 (.t 1)),
 oU 82 (.call 48 [(.u 81)]),
 oT 2 (.mov (.u 82))])
 (.ret)))))))
def r18 : List LRes := [.slot 2]
theorem t18 : (Try.f18.body.bind (trCode v18 Try.prog Try.f18.ntmps)) = some c18 ∧ trRes v18 Try.prog Try.f18.results.toList = some r18 := ⟨by kernel_rfl, by kernel_rfl⟩

def v19 : Nat → Bool := fun t => [0, 1, 2, 4, 5, 6, 9, 13, 30, 36].contains t
def c19 : LCode :=
 .seq (.region [oT 2 (.box (.t 0)),
 oT 4 (.mov (.c (.int .i64 0)))])
 (.seq (.seq (.region [oU 7 (.load true 3 (.t 2)),
 oU 8 (.call 18 [(.u 7)]),
 oT 9 (.un .not (.u 8))])
 (.cond (.t 9)
 (.seq (.region [oT 4 (.mov (.c (.int .i64 (-1))))])
 (.ret))
 (.skip)))
 (.seq (.region [oU 10 (.faddr 2 (.t 2)),
 oU 11 (.load false 1 (.u 10)),
 oT 5 (.mov (.u 11))])
 (.seq (.block 0 (.loop (.seq (.seq (.region [oM 12 5,
 oT 13 (.bin .geq (.u 12) (.c (.int .i64 0)))])
 (.cond (.t 13)
 (.skip)
 (.exit 0)))
 (.block 1 (.seq (.region [oU 14 (.faddr 1 (.t 2)),
 oU 15 (.load false 1 (.u 14)),
 oM 16 5,
 oU 17 (.iaS 3 (.u 15) (.u 16)),
 oU 18 (.load true 3 (.u 17)),
 oT 6 (.zero [.int .i64 0, .int .i64 0, .int .i64 0]),
 oN (.store 3 (.t 6) (.u 18))])
 (.seq (.region [oU 19 (.faddr 0 (.t 6)),
 oU 20 (.load false 1 (.u 19)),
 oM 21 1,
 oU 22 (.lenL (.u 21)),
 oU 23 (.bin .lss (.u 20) (.u 22)),
 oU 24 (.mov (.u 23)),
 ⟨some 25, false, some ((.u 24), true), .mov (.t 1)⟩,
 ⟨some 26, false, some ((.u 24), true), .faddr 0 (.t 6)⟩,
 ⟨some 27, false, some ((.u 24), true), .load false 1 (.u 26)⟩,
 ⟨some 28, false, some ((.u 24), true), .iaS 1 (.u 25) (.u 27)⟩,
 ⟨some 29, false, some ((.u 24), true), .load false 1 (.u 28)⟩,
 oT 30 (.pick (.u 24) (.u 29) (.c (.bool false)))])
 (.cond (.t 30)
 (.region [oU 31 (.faddr 2 (.t 6)),
 oU 32 (.load false 1 (.u 31)),
 oT 5 (.mov (.u 32))])
 (.region [oU 33 (.faddr 1 (.t 6)),
 oU 34 (.load false 1 (.u 33)),
 oT 5 (.mov (.u 34))]))))))))
 (.seq (.seq (.region [oM 35 5,
 oT 36 (.bin .eql (.u 35) (.c (.int .i64 (-1))))])
 (.cond (.t 36)
 (.seq (.region [oT 4 (.mov (.c (.int .i64 (-1))))])
 (.ret))
 (.skip)))
 (.seq (.region [oM 37 5,
 oU 38 (.bin .sub (.c (.int .i64 (-2))) (.u 37)),
 oT 4 (.mov (.u 38))])
 (.ret))))))
def r19 : List LRes := [.slot 4]
theorem t19 : (Try.f19.body.bind (trCode v19 Try.prog Try.f19.ntmps)) = some c19 ∧ trRes v19 Try.prog Try.f19.results.toList = some r19 := ⟨by kernel_rfl, by kernel_rfl⟩

def v20 : Nat → Bool := fun t => [0, 1, 2, 4, 5, 6, 9, 13, 30, 36].contains t
def c20 : LCode :=
 .seq (.region [oT 2 (.box (.t 0)),
 oT 4 (.mov (.c (.int .i64 0)))])
 (.seq (.seq (.region [oU 7 (.load true 3 (.t 2)),
 oU 8 (.call 23 [(.u 7)]),
 oT 9 (.un .not (.u 8))])
 (.cond (.t 9)
 (.seq (.region [oT 4 (.mov (.c (.int .i64 (-1))))])
 (.ret))
 (.skip)))
 (.seq (.region [oU 10 (.faddr 2 (.t 2)),
 oU 11 (.load false 1 (.u 10)),
 oT 5 (.mov (.u 11))])
 (.seq (.block 0 (.loop (.seq (.seq (.region [oM 12 5,
 oT 13 (.bin .geq (.u 12) (.c (.int .i64 0)))])
 (.cond (.t 13)
 (.skip)
 (.exit 0)))
 (.block 1 (.seq (.region [oU 14 (.faddr 1 (.t 2)),
 oU 15 (.load false 1 (.u 14)),
 oM 16 5,
 oU 17 (.iaS 3 (.u 15) (.u 16)),
 oU 18 (.load true 3 (.u 17)),
 oT 6 (.zero [.int .i64 0, .int .i64 0, .int .i64 0]),
 oN (.store 3 (.t 6) (.u 18))])
 (.seq (.region [oU 19 (.faddr 0 (.t 6)),
 oU 20 (.load false 1 (.u 19)),
 oM 21 1,
 oU 22 (.lenL (.u 21)),
 oU 23 (.bin .lss (.u 20) (.u 22)),
 oU 24 (.mov (.u 23)),
 ⟨some 25, false, some ((.u 24), true), .mov (.t 1)⟩,
 ⟨some 26, false, some ((.u 24), true), .faddr 0 (.t 6)⟩,
 ⟨some 27, false, some ((.u 24), true), .load false 1 (.u 26)⟩,
 ⟨some 28, false, some ((.u 24), true), .iaS 1 (.u 25) (.u 27)⟩,
 ⟨some 29, false, some ((.u 24), true), .load false 1 (.u 28)⟩,
 oT 30 (.pick (.u 24) (.u 29) (.c (.bool false)))])
 (.cond (.t 30)
 (.region [oU 31 (.faddr 2 (.t 6)),
 oU 32 (.load false 1 (.u 31)),
 oT 5 (.mov (.u 32))])
 (.region [oU 33 (.faddr 1 (.t 6)),
 oU 34 (.load false 1 (.u 33)),
 oT 5 (.mov (.u 34))]))))))))
 (.seq (.seq (.region [oM 35 5,
 oT 36 (.bin .eql (.u 35) (.c (.int .i64 (-1))))])
 (.cond (.t 36)
 (.seq (.region [oT 4 (.mov (.c (.int .i64 (-1))))])
 (.ret))
 (.skip)))
 (.seq (.region [oM 37 5,
 oU 38 (.bin .sub (.c (.int .i64 (-2))) (.u 37)),
 oT 4 (.mov (.u 38))])
 (.ret))))))
def r20 : List LRes := [.slot 4]
theorem t20 : (Try.f20.body.bind (trCode v20 Try.prog Try.f20.ntmps)) = some c20 ∧ trRes v20 Try.prog Try.f20.results.toList = some r20 := ⟨by kernel_rfl, by kernel_rfl⟩

def v21 : Nat → Bool := fun t => [0, 1, 4, 5, 7, 29, 45].contains t
def c21 : LCode :=
 .seq (.region [oT 4 (.mov (.c (.int .i64 0)))])
 (.seq (.seq (.region [oM 6 1,
 oT 7 (.bin .lss (.u 6) (.c (.int .i64 1)))])
 (.cond (.t 7)
 (.seq (.region [oT 4 (.mov (.c (.int .i64 0)))])
 (.ret))
 (.skip)))
 (.seq (.region [oM 8 0,
 oU 9 (.nilc (.u 8)),
 oU 10 (.faddr 1 (.u 9)),
 oU 11 (.load false 1 (.u 10)),
 oU 12 (.bin .add (.u 11) (.c (.int .i64 1))),
 oU 13 (.nilc (.u 8)),
 oU 14 (.faddr 1 (.u 13)),
 oN (.store 1 (.u 14) (.u 12))])
 (.seq (.region [oM 15 0,
 oU 16 (.nilc (.u 15)),
 oU 17 (.faddr 1 (.u 16)),
 oU 18 (.load false 1 (.u 17)),
 oU 19 (.bin .mul (.u 18) (.c (.int .i64 7))),
 oT 5 (.mov (.u 19))])
 (.seq (.seq (.regionD [⟨0, [0], false, [], oM 20 0⟩,
 ⟨1, [20], false, [], oU 21 (.nilc (.u 20))⟩,
 ⟨2, [21], false, [], oU 22 (.faddr 1 (.u 21))⟩,
 ⟨3, [22], true, [], oU 23 (.load false 1 (.u 22))⟩,
 ⟨4, [0], false, [], oM 24 0⟩,
 ⟨5, [24], false, [], oU 25 (.nilc (.u 24))⟩,
 ⟨6, [25], false, [], oU 26 (.faddr 0 (.u 25))⟩,
 ⟨7, [26], true, [], oU 27 (.load false 1 (.u 26))⟩,
 ⟨8, [27], false, [], oU 28 (.lenL (.u 27))⟩,
 ⟨9, [23, 28], false, [], oT 29 (.bin .leq (.u 23) (.u 28))⟩])
 (.cond (.t 29)
 (.regionD [⟨0, [0], false, [], oM 30 0⟩,
 ⟨1, [30], false, [], oU 31 (.nilc (.u 30))⟩,
 ⟨2, [31], false, [], oU 32 (.faddr 0 (.u 31))⟩,
 ⟨3, [32], true, [], oU 33 (.load false 1 (.u 32))⟩,
 ⟨4, [0], false, [], oM 34 0⟩,
 ⟨5, [34], false, [], oU 35 (.nilc (.u 34))⟩,
 ⟨6, [35], false, [], oU 36 (.faddr 1 (.u 35))⟩,
 ⟨7, [36], true, [], oU 37 (.load false 1 (.u 36))⟩,
 ⟨8, [37], false, [], oU 38 (.bin .sub (.u 37) (.c (.int .i64 1)))⟩,
 ⟨9, [33, 38], false, [], oU 39 (.iaS 1 (.u 33) (.u 38))⟩,
 ⟨10, [39], true, [], oU 40 (.load false 1 (.u 39))⟩,
 ⟨11, [40], false, [], oT 5 (.mov (.u 40))⟩])
 (.skip)))
 (.seq (.region [oM 41 5,
 oM 42 1,
 oU 43 (.bin .rem (.u 41) (.u 42)),
 oT 5 (.mov (.u 43))])
 (.seq (.seq (.region [oM 44 5,
 oT 45 (.bin .lss (.u 44) (.c (.int .i64 0)))])
 (.cond (.t 45)
 (.region [oM 46 5,
 oM 47 1,
 oU 48 (.bin .add (.u 46) (.u 47)),
 oT 5 (.mov (.u 48))])
 (.skip)))
 (.seq (.region [oM 49 5,
 oT 4 (.mov (.u 49))])
 (.ret))))))))
def r21 : List LRes := [.slot 4]
theorem t21 : (Try.f21.body.bind (trCode v21 Try.prog Try.f21.ntmps)) = some c21 ∧ trRes v21 Try.prog Try.f21.results.toList = some r21 := ⟨by kernel_rfl, by kernel_rfl⟩

def v22 : Nat → Bool := fun t => [0, 1, 2, 6].contains t
def c22 : LCode :=
 .seq (.region [oT 6 (.mov (.c (.int .i64 0)))])
 (.seq (.region [oM 7 1,
 oM 8 0,
 oM 9 2,
 oM 10 1,
 oU 11 (.bin .sub (.u 9) (.u 10)),
 oU 12 (.bin .add (.u 11) (.c (.int .i64 1))),
 oU 13 (.call 21 [(.u 8), (.u 12)]),
 oU 14 (.bin .add (.u 7) (.u 13)),
 oT 6 (.mov (.u 14))])
 (.ret))
def r22 : List LRes := [.slot 6]
theorem t22 : (Try.f22.body.bind (trCode v22 Try.prog Try.f22.ntmps)) = some c22 ∧ trRes v22 Try.prog Try.f22.results.toList = some r22 := ⟨by kernel_rfl, by kernel_rfl⟩

def v23 : Nat → Bool := fun t => [0, 1, 2, 3, 4, 5, 35, 40, 111, 114, 123].contains t
def c23 : LCode :=
 .seq (.region [oT 1 (.box (.t 0)),
 oT 2 (.mov (.c (.bool false)))])
 (.seq (.seq (.region [oU 6 (.faddr 0 (.t 1)),
 oU 7 (.load false 1 (.u 6)),
 oU 8 (.lenL (.u 7)),
 oU 9 (.bin .gtr (.u 8) (.c (.int .i64 12))),
 oU 10 (.mov (.u 9)),
 ⟨some 11, false, some ((.u 10), false), .faddr 1 (.t 1)⟩,
 ⟨some 12, false, some ((.u 10), false), .load false 1 (.u 11)⟩,
 ⟨some 13, false, some ((.u 10), false), .lenL (.u 12)⟩,
 ⟨some 14, false, some ((.u 10), false), .bin .eql (.u 13) (.c (.int .i64 0))⟩,
 ⟨some 15, false, some ((.u 10), false), .mov (.u 14)⟩,
 ⟨some 16, false, some ((.u 15), true), .faddr 2 (.t 1)⟩,
 ⟨some 17, false, some ((.u 15), true), .load false 1 (.u 16)⟩,
 ⟨some 18, false, some ((.u 15), true), .bin .geq (.u 17) (.c (.int .i64 0))⟩,
 ⟨some 19, false, some ((.u 10), false), .pick (.u 15) (.u 18) (.c (.bool false))⟩,
 oU 20 (.pick (.u 10) (.c (.bool true)) (.u 19)),
 oU 21 (.mov (.u 20)),
 ⟨some 22, false, some ((.u 21), false), .faddr 1 (.t 1)⟩,
 ⟨some 23, false, some ((.u 21), false), .load false 1 (.u 22)⟩,
 ⟨some 24, false, some ((.u 21), false), .lenL (.u 23)⟩,
 ⟨some 25, false, some ((.u 21), false), .bin .gtr (.u 24) (.c (.int .i64 0))⟩,
 ⟨some 26, false, some ((.u 21), false), .mov (.u 25)⟩,
 ⟨some 27, false, some ((.u 26), true), .faddr 2 (.t 1)⟩,
 ⟨some 28, false, some ((.u 26), true), .load false 1 (.u 27)⟩,
 ⟨some 29, false, some ((.u 26), true), .faddr 1 (.t 1)⟩,
 ⟨some 30, false, some ((.u 26), true), .load false 1 (.u 29)⟩,
 ⟨some 31, false, some ((.u 26), true), .lenL (.u 30)⟩,
 ⟨some 32, false, some ((.u 26), true), .bin .sub (.u 31) (.c (.int .i64 1))⟩,
 ⟨some 33, false, some ((.u 26), true), .bin .neq (.u 28) (.u 32)⟩,
 ⟨some 34, false, some ((.u 21), false), .pick (.u 26) (.u 33) (.c (.bool false))⟩,
 oT 35 (.pick (.u 21) (.c (.bool true)) (.u 34))])
 (.cond (.t 35)
 (.seq (.region [oT 2 (.mov (.c (.bool false)))])
 (.ret))
 (.skip)))
 (.seq (.seq (.region [oT 3 (.mov (.c (.int .i64 0)))])
 (.block 0 (.loop (.seq (.seq (.region [oM 36 3,
 oU 37 (.faddr 1 (.t 1)),
 oU 38 (.load false 1 (.u 37)),
 oU 39 (.lenL (.u 38)),
 oT 40 (.bin .lss (.u 36) (.u 39))])
 (.cond (.t 40)
 (.skip)
 (.exit 0)))
 (.seq (.block 1 (.seq (.region [oU 43 (.faddr 1 (.t 1)),
 oU 44 (.load false 1 (.u 43)),
 oM 45 3,
 oU 46 (.iaS 3 (.u 44) (.u 45)),
 oU 47 (.load true 3 (.u 46)),
 oT 4 (.zero [.int .i64 0, .int .i64 0, .int .i64 0]),
 oN (.store 3 (.t 4) (.u 47))])
 (.seq (.seq (.regionD [⟨0, [4], false, [], oU 48 (.faddr 0 (.t 4))⟩,
 ⟨1, [48], true, [], oU 49 (.load false 1 (.u 48))⟩,
 ⟨2, [49], false, [], oU 50 (.bin .lss (.u 49) (.c (.int .i64 0)))⟩,
 ⟨3, [50], false, [], oU 51 (.mov (.u 50))⟩,
 ⟨4, [4, 51], false, [], ⟨some 52, false, some ((.u 51), false), .faddr 0 (.t 4)⟩⟩,
 ⟨5, [52, 51], true, [], ⟨some 53, false, some ((.u 51), false), .load false 1 (.u 52)⟩⟩,
 ⟨6, [1, 51], false, [], ⟨some 54, false, some ((.u 51), false), .faddr 0 (.t 1)⟩⟩,
 ⟨7, [54, 51], true, [], ⟨some 55, false, some ((.u 51), false), .load false 1 (.u 54)⟩⟩,
 ⟨8, [55, 51], false, [], ⟨some 56, false, some ((.u 51), false), .lenL (.u 55)⟩⟩,
 ⟨9, [53, 56, 51], false, [], ⟨some 57, false, some ((.u 51), false), .bin .geq (.u 53) (.u 56)⟩⟩,
 ⟨10, [51, 57], false, [], oU 58 (.pick (.u 51) (.c (.bool true)) (.u 57))⟩,
 ⟨11, [58], false, [], oU 59 (.mov (.u 58))⟩,
 ⟨12, [4, 59], false, [], ⟨some 60, false, some ((.u 59), false), .faddr 1 (.t 4)⟩⟩,
 ⟨13, [60, 59], true, [], ⟨some 61, false, some ((.u 59), false), .load false 1 (.u 60)⟩⟩,
 ⟨14, [3, 59], false, [], ⟨some 62, false, some ((.u 59), false), .mov (.t 3)⟩⟩,
 ⟨15, [61, 62, 59], false, [], ⟨some 63, false, some ((.u 59), false), .bin .geq (.u 61) (.u 62)⟩⟩,
 ⟨16, [59, 63], false, [], oU 64 (.pick (.u 59) (.c (.bool true)) (.u 63))⟩,
 ⟨17, [64], false, [], oU 65 (.mov (.u 64))⟩,
 ⟨18, [4, 65], false, [], ⟨some 66, false, some ((.u 65), false), .faddr 2 (.t 4)⟩⟩,
 ⟨19, [66, 65], true, [], ⟨some 67, false, some ((.u 65), false), .load false 1 (.u 66)⟩⟩,
 ⟨20, [3, 65], false, [], ⟨some 68, false, some ((.u 65), false), .mov (.t 3)⟩⟩,
 ⟨21, [67, 68, 65], false, [], ⟨some 69, false, some ((.u 65), false), .bin .geq (.u 67) (.u 68)⟩⟩,
 ⟨22, [65, 69], false, [], oU 70 (.pick (.u 65) (.c (.bool true)) (.u 69))⟩,
 ⟨23, [70], false, [], oU 71 (.mov (.u 70))⟩,
 ⟨24, [4, 71], false, [], ⟨some 72, false, some ((.u 71), false), .faddr 1 (.t 4)⟩⟩,
 ⟨25, [72, 71], true, [], ⟨some 73, false, some ((.u 71), false), .load false 1 (.u 72)⟩⟩,
 ⟨26, [4, 71], false, [], ⟨some 74, false, some ((.u 71), false), .faddr 2 (.t 4)⟩⟩,
 ⟨27, [74, 71], true, [], ⟨some 75, false, some ((.u 71), false), .load false 1 (.u 74)⟩⟩,
 ⟨28, [73, 75, 71], false, [], ⟨some 76, false, some ((.u 71), false), .bin .eql (.u 73) (.u 75)⟩⟩,
 ⟨29, [71, 76], false, [], oU 77 (.pick (.u 71) (.c (.bool true)) (.u 76))⟩,
 ⟨30, [77], false, [], oU 78 (.mov (.u 77))⟩,
 ⟨31, [4, 78], false, [], ⟨some 79, false, some ((.u 78), false), .faddr 1 (.t 4)⟩⟩,
 ⟨32, [79, 78], true, [], ⟨some 80, false, some ((.u 78), false), .load false 1 (.u 79)⟩⟩,
 ⟨33, [80, 78], false, [], ⟨some 81, false, some ((.u 78), false), .bin .geq (.u 80) (.c (.int .i64 0))⟩⟩,
 ⟨34, [81, 78], false, [], ⟨some 82, false, some ((.u 78), false), .mov (.u 81)⟩⟩,
 ⟨35, [1, 82], false, [], ⟨some 83, false, some ((.u 82), true), .faddr 1 (.t 1)⟩⟩,
 ⟨36, [83, 82], true, [], ⟨some 84, false, some ((.u 82), true), .load false 1 (.u 83)⟩⟩,
 ⟨37, [4, 82], false, [], ⟨some 85, false, some ((.u 82), true), .faddr 1 (.t 4)⟩⟩,
 ⟨38, [85, 82], true, [], ⟨some 86, false, some ((.u 82), true), .load false 1 (.u 85)⟩⟩,
 ⟨39, [84, 86, 82], false, [], ⟨some 87, false, some ((.u 82), true), .iaS 3 (.u 84) (.u 86)⟩⟩,
 ⟨40, [87, 82], false, [], ⟨some 88, false, some ((.u 82), true), .faddr 0 (.u 87)⟩⟩,
 ⟨41, [88, 82], true, [], ⟨some 89, false, some ((.u 82), true), .load false 1 (.u 88)⟩⟩,
 ⟨42, [4, 82], false, [], ⟨some 90, false, some ((.u 82), true), .faddr 0 (.t 4)⟩⟩,
 ⟨43, [90, 82], true, [], ⟨some 91, false, some ((.u 82), true), .load false 1 (.u 90)⟩⟩,
 ⟨44, [89, 91, 82], false, [], ⟨some 92, false, some ((.u 82), true), .bin .leq (.u 89) (.u 91)⟩⟩,
 ⟨45, [82, 92, 78], false, [], ⟨some 93, false, some ((.u 78), false), .pick (.u 82) (.u 92) (.c (.bool false))⟩⟩,
 ⟨46, [78, 93], false, [], oU 94 (.pick (.u 78) (.c (.bool true)) (.u 93))⟩,
 ⟨47, [94], false, [], oU 95 (.mov (.u 94))⟩,
 ⟨48, [4, 95], false, [], ⟨some 96, false, some ((.u 95), false), .faddr 2 (.t 4)⟩⟩,
 ⟨49, [96, 95], true, [], ⟨some 97, false, some ((.u 95), false), .load false 1 (.u 96)⟩⟩,
 ⟨50, [97, 95], false, [], ⟨some 98, false, some ((.u 95), false), .bin .geq (.u 97) (.c (.int .i64 0))⟩⟩,
 ⟨51, [98, 95], false, [], ⟨some 99, false, some ((.u 95), false), .mov (.u 98)⟩⟩,
 ⟨52, [1, 99], false, [], ⟨some 100, false, some ((.u 99), true), .faddr 1 (.t 1)⟩⟩,
 ⟨53, [100, 99], true, [], ⟨some 101, false, some ((.u 99), true), .load false 1 (.u 100)⟩⟩,
 ⟨54, [4, 99], false, [], ⟨some 102, false, some ((.u 99), true), .faddr 2 (.t 4)⟩⟩,
 ⟨55, [102, 99], true, [], ⟨some 103, false, some ((.u 99), true), .load false 1 (.u 102)⟩⟩,
 ⟨56, [101, 103, 99], false, [], ⟨some 104, false, some ((.u 99), true), .iaS 3 (.u 101) (.u 103)⟩⟩,
 ⟨57, [104, 99], false, [], ⟨some 105, false, some ((.u 99), true), .faddr 0 (.u 104)⟩⟩,
 ⟨58, [105, 99], true, [], ⟨some 106, false, some ((.u 99), true), .load false 1 (.u 105)⟩⟩,
 ⟨59, [4, 99], false, [], ⟨some 107, false, some ((.u 99), true), .faddr 0 (.t 4)⟩⟩,
 ⟨60, [107, 99], true, [], ⟨some 108, false, some ((.u 99), true), .load false 1 (.u 107)⟩⟩,
 ⟨61, [106, 108, 99], false, [], ⟨some 109, false, some ((.u 99), true), .bin .leq (.u 106) (.u 108)⟩⟩,
 ⟨62, [99, 109, 95], false, [], ⟨some 110, false, some ((.u 95), false), .pick (.u 99) (.u 109) (.c (.bool false))⟩⟩,
 ⟨63, [95, 110], false, [], oT 111 (.pick (.u 95) (.c (.bool true)) (.u 110))⟩])
 (.cond (.t 111)
 (.seq (.region [oT 2 (.mov (.c (.bool false)))])
 (.ret))
 (.skip)))
 (.seq (.region [oT 5 (.mov (.c (.int .i64 0)))])
 (.block 2 (.loop (.seq (.seq (.region [oM 112 5,
 oM 113 3,
 oT 114 (.bin .lss (.u 112) (.u 113))])
 (.cond (.t 114)
 (.skip)
 (.exit 2)))
 (.seq (.block 3 (.seq (.regionD [⟨0, [1], false, [], oU 117 (.faddr 1 (.t 1))⟩,
 ⟨1, [117], true, [], oU 118 (.load false 1 (.u 117))⟩,
 ⟨2, [5], false, [], oM 119 5⟩,
 ⟨3, [118, 119], false, [], oU 120 (.iaS 3 (.u 118) (.u 119))⟩,
 ⟨4, [120], true, [], oU 121 (.load true 3 (.u 120))⟩,
 ⟨5, [4], true, [], oU 122 (.load true 3 (.t 4))⟩,
 ⟨6, [121, 122], false, [], oT 123 (.eqS false 3 [(0, 1), (1, 1), (2, 1)] (.u 121) (.u 122))⟩])
 (.cond (.t 123)
 (.seq (.region [oT 2 (.mov (.c (.bool false)))])
 (.ret))
 (.skip))))
 (.region [oM 115 5,
 oU 116 (.bin .add (.u 115) (.c (.int .i64 1))),
 oT 5 (.mov (.u 116))])))))))))
 (.region [oM 41 3,
 oU 42 (.bin .add (.u 41) (.c (.int .i64 1))),
 oT 3 (.mov (.u 42))]))))))
 (.seq (.regionD [⟨0, [1], true, [], oU 124 (.load true 3 (.t 1))⟩,
 ⟨1, [1], true, [], oU 125 (.load true 3 (.t 1))⟩,
 ⟨2, [1], false, [], oU 126 (.faddr 2 (.t 1))⟩,
 ⟨3, [126], true, [], oU 127 (.load false 1 (.u 126))⟩,
 ⟨4, [125, 127], false, [0], oU 128 (.call 46 [(.u 125), (.u 127)])⟩,
 ⟨5, [124, 128], false, [], oU 129 (.call 49 [(.u 124), (.u 128)])⟩,
 ⟨6, [129], false, [], oT 2 (.mov (.u 129))⟩])
 (.ret))))
def r23 : List LRes := [.slot 2]
theorem t23 : (Try.f23.body.bind (trCode v23 Try.prog Try.f23.ntmps)) = some c23 ∧ trRes v23 Try.prog Try.f23.results.toList = some r23 := ⟨by kernel_rfl, by kernel_rfl⟩

def v24 : Nat → Bool := fun t => [0, 1, 4, 5, 6, 7, 8, 9, 10, 11, 15, 31, 34, 45, 49, 63, 72, 75].contains t
def c24 : LCode :=
 .seq (.region [oT 4 (.mov (.c (.fsl 1 0 []))),
 oT 5 (.mov (.c (.int .i64 0)))])
 (.seq (.seq (.region [oT 6 (.mov (.c (.int .i64 0)))])
 (.block 0 (.loop (.seq (.seq (.region [oM 12 6,
 oM 13 1,
 oU 14 (.lenL (.u 13)),
 oT 15 (.bin .lss (.u 12) (.u 14))])
 (.cond (.t 15)
 (.skip)
 (.exit 0)))
 (.seq (.block 1 (.seq (.seq (.region [oM 18 1,
 oM 19 6,
 oU 20 (.iaS 1 (.u 18) (.u 19)),
 oU 21 (.load false 1 (.u 20)),
 oU 22 (.bin .lss (.u 21) (.c (.int .i64 0))),
 oU 23 (.mov (.u 22)),
 ⟨some 24, false, some ((.u 23), false), .mov (.t 1)⟩,
 ⟨some 25, false, some ((.u 23), false), .mov (.t 6)⟩,
 ⟨some 26, false, some ((.u 23), false), .iaS 1 (.u 24) (.u 25)⟩,
 ⟨some 27, false, some ((.u 23), false), .load false 1 (.u 26)⟩,
 ⟨some 28, false, some ((.u 23), false), .mov (.t 0)⟩,
 ⟨some 29, false, some ((.u 23), false), .lenL (.u 28)⟩,
 ⟨some 30, false, some ((.u 23), false), .bin .geq (.u 27) (.u 29)⟩,
 oT 31 (.pick (.u 23) (.c (.bool true)) (.u 30))])
 (.cond (.t 31)
 (.seq (.region [oT 4 (.mov (.c (.fsl 1 0 []))),
 oT 5 (.mov (.c (.int .i64 160)))])
 (.ret))
 (.skip)))
 (.seq (.region [oT 7 (.mov (.c (.int .i64 0)))])
 (.block 2 (.loop (.seq (.seq (.region [oM 32 7,
 oM 33 6,
 oT 34 (.bin .lss (.u 32) (.u 33))])
 (.cond (.t 34)
 (.skip)
 (.exit 2)))
 (.seq (.block 3 (.seq (.regionD [⟨0, [1], false, [], oM 37 1⟩,
 ⟨1, [7], false, [], oM 38 7⟩,
 ⟨2, [37, 38], false, [], oU 39 (.iaS 1 (.u 37) (.u 38))⟩,
 ⟨3, [39], true, [], oU 40 (.load false 1 (.u 39))⟩,
 ⟨4, [1], false, [], oM 41 1⟩,
 ⟨5, [6], false, [], oM 42 6⟩,
 ⟨6, [41, 42], false, [], oU 43 (.iaS 1 (.u 41) (.u 42))⟩,
 ⟨7, [43], true, [], oU 44 (.load false 1 (.u 43))⟩,
 ⟨8, [40, 44], false, [], oT 45 (.bin .eql (.u 40) (.u 44))⟩])
 (.cond (.t 45)
 (.seq (.region [oT 4 (.mov (.c (.fsl 1 0 []))),
 oT 5 (.mov (.c (.int .i64 160)))])
 (.ret))
 (.skip))))
 (.region [oM 35 7,
 oU 36 (.bin .add (.u 35) (.c (.int .i64 1))),
 oT 7 (.mov (.u 36))]))))))))
 (.region [oM 16 6,
 oU 17 (.bin .add (.u 16) (.c (.int .i64 1))),
 oT 6 (.mov (.u 17))]))))))
 (.seq (.region [oT 8 (.mov (.c (.fsl 1 0 [])))])
 (.seq (.seq (.region [oT 9 (.mov (.c (.int .i64 0)))])
 (.block 4 (.loop (.seq (.seq (.region [oM 46 9,
 oM 47 1,
 oU 48 (.lenL (.u 47)),
 oT 49 (.bin .lss (.u 46) (.u 48))])
 (.cond (.t 49)
 (.skip)
 (.exit 4)))
 (.seq (.block 5 (.seq (.region [oM 52 0,
 oM 53 1,
 oM 54 9,
 oU 55 (.iaS 1 (.u 53) (.u 54)),
 oU 56 (.load false 1 (.u 55)),
 oU 57 (.iaS 8 (.u 52) (.u 56)),
 oU 58 (.load true 8 (.u 57)),
 oU 59 (.call 50 [(.u 58)]),
 oT 10 (.mov (.u 59))])
 (.seq (.region [oT 11 (.mov (.c (.int .i64 0)))])
 (.block 6 (.loop (.seq (.seq (.region [oM 60 11,
 oM 61 10,
 oU 62 (.lenL (.u 61)),
 oT 63 (.bin .lss (.u 60) (.u 62))])
 (.cond (.t 63)
 (.skip)
 (.exit 6)))
 (.seq (.block 7 (.seq (.region [oM 66 8,
 oM 67 10,
 oM 68 11,
 oU 69 (.iaS 8 (.u 67) (.u 68)),
 oU 70 (.load true 8 (.u 69)),
 oU 71 (.call 51 [(.u 66), (.u 70)]),
 oT 72 (.bin .lss (.u 71) (.c (.int .i64 0)))])
 (.cond (.t 72)
 (.seq (.seq (.region [oM 73 8,
 oU 74 (.lenL (.u 73)),
 oT 75 (.bin .eql (.u 74) (.c (.int .i64 12)))])
 (.cond (.t 75)
 (.seq (.region [oT 4 (.mov (.c (.fsl 1 0 []))),
 oT 5 (.mov (.c (.int .i64 161)))])
 (.ret))
 (.skip)))
 (.region [oM 76 8,
 oM 77 10,
 oM 78 11,
 oU 79 (.iaS 8 (.u 77) (.u 78)),
 oU 80 (.load true 8 (.u 79)),
 oU 81 (.mkS 8 1 [.int .i64 0, .int .i64 0, .int .i64 0, .str [], .int .i64 0, .int .i64 0, .str [], .int .i64 0] [(0, 8, (.u 80))]),
 oU 82 (.app 8 80 (.u 76) (.u 81)),
 oT 8 (.mov (.u 82))]))
 (.skip))))
 (.region [oM 64 11,
 oU 65 (.bin .add (.u 64) (.c (.int .i64 1))),
 oT 11 (.mov (.u 65))]))))))))
 (.region [oM 50 9,
 oU 51 (.bin .add (.u 50) (.c (.int .i64 1))),
 oT 9 (.mov (.u 51))]))))))
 (.seq (.region [oM 83 8,
 oT 4 (.mov (.u 83)),
 oT 5 (.mov (.c (.int .i64 0)))])
 (.ret)))))
def r24 : List LRes := [.slot 4, .slot 5]
theorem t24 : (Try.f24.body.bind (trCode v24 Try.prog Try.f24.ntmps)) = some c24 ∧ trRes v24 Try.prog Try.f24.results.toList = some r24 := ⟨by kernel_rfl, by kernel_rfl⟩

def v25 : Nat → Bool := fun t => [0, 1, 2, 3, 8, 9, 10, 11, 12, 16, 30, 47].contains t
def c25 : LCode :=
 .seq (.region [oT 8 (.mov (.c (.int .i64 0)))])
 (.seq (.seq (.region [oT 9 (.mov (.c (.int .i64 0)))])
 (.block 0 (.loop (.seq (.seq (.region [oM 13 9,
 oM 14 1,
 oU 15 (.lenL (.u 14)),
 oT 16 (.bin .lss (.u 13) (.u 15))])
 (.cond (.t 16)
 (.skip)
 (.exit 0)))
 (.seq (.block 1 (.seq (.region [oM 19 0,
 oM 20 1,
 oM 21 9,
 oU 22 (.iaS 1 (.u 20) (.u 21)),
 oU 23 (.load false 1 (.u 22)),
 oU 24 (.iaS 8 (.u 19) (.u 23)),
 oU 25 (.load true 8 (.u 24)),
 oU 26 (.call 50 [(.u 25)]),
 oT 10 (.mov (.u 26))])
 (.seq (.region [oT 11 (.mov (.c (.bool true)))])
 (.seq (.seq (.region [oT 12 (.mov (.c (.int .i64 0)))])
 (.block 2 (.loop (.seq (.seq (.region [oM 27 12,
 oM 28 10,
 oU 29 (.lenL (.u 28)),
 oT 30 (.bin .lss (.u 27) (.u 29))])
 (.cond (.t 30)
 (.skip)
 (.exit 2)))
 (.seq (.block 3 (.region [oM 33 11,
 oU 34 (.mov (.u 33)),
 ⟨some 35, false, some ((.u 34), true), .mov (.t 3)⟩,
 ⟨some 36, false, some ((.u 34), true), .mov (.t 2)⟩,
 ⟨some 37, false, some ((.u 34), true), .mov (.t 10)⟩,
 ⟨some 38, false, some ((.u 34), true), .mov (.t 12)⟩,
 ⟨some 39, false, some ((.u 34), true), .iaS 8 (.u 37) (.u 38)⟩,
 ⟨some 40, false, some ((.u 34), true), .load true 8 (.u 39)⟩,
 ⟨some 41, false, some ((.u 34), true), .call 51 [(.u 36), (.u 40)]⟩,
 ⟨some 42, false, some ((.u 34), true), .conv .u64 (.u 41)⟩,
 ⟨some 43, false, some ((.u 34), true), .bin .shr (.u 35) (.u 42)⟩,
 ⟨some 44, false, some ((.u 34), true), .bin .and (.u 43) (.c (.int .i64 1))⟩,
 ⟨some 45, false, some ((.u 34), true), .bin .eql (.u 44) (.c (.int .i64 1))⟩,
 oU 46 (.pick (.u 34) (.u 45) (.c (.bool false))),
 oT 11 (.mov (.u 46))]))
 (.region [oM 31 12,
 oU 32 (.bin .add (.u 31) (.c (.int .i64 1))),
 oT 12 (.mov (.u 32))]))))))
 (.seq (.region [oT 47 (.mov (.t 11))])
 (.cond (.t 47)
 (.seq (.region [oM 48 1,
 oM 49 9,
 oU 50 (.iaS 1 (.u 48) (.u 49)),
 oU 51 (.load false 1 (.u 50)),
 oU 52 (.bin .sub (.c (.int .i64 (-2))) (.u 51)),
 oT 8 (.mov (.u 52))])
 (.ret))
 (.skip)))))))
 (.region [oM 17 9,
 oU 18 (.bin .add (.u 17) (.c (.int .i64 1))),
 oT 9 (.mov (.u 18))]))))))
 (.seq (.region [oT 8 (.mov (.c (.int .i64 (-1))))])
 (.ret)))
def r25 : List LRes := [.slot 8]
theorem t25 : (Try.f25.body.bind (trCode v25 Try.prog Try.f25.ntmps)) = some c25 ∧ trRes v25 Try.prog Try.f25.results.toList = some r25 := ⟨by kernel_rfl, by kernel_rfl⟩

def v27 : Nat → Bool := fun t => [0, 1, 2, 3, 4, 5, 12, 17, 31].contains t
def c27 : LCode :=
 .seq (.region [oT 2 (.box (.t 0)),
 oT 3 (.box (.t 1)),
 oT 4 (.mov (.c (.bool false)))])
 (.seq (.seq (.region [oU 6 (.faddr 0 (.t 2)),
 oU 7 (.load false 1 (.u 6)),
 oU 8 (.lenL (.u 7)),
 oU 9 (.faddr 0 (.t 3)),
 oU 10 (.load false 1 (.u 9)),
 oU 11 (.lenL (.u 10)),
 oT 12 (.bin .neq (.u 8) (.u 11))])
 (.cond (.t 12)
 (.seq (.region [oT 4 (.mov (.c (.bool false)))])
 (.ret))
 (.skip)))
 (.seq (.seq (.region [oT 5 (.mov (.c (.int .i64 0)))])
 (.block 0 (.loop (.seq (.seq (.region [oM 13 5,
 oU 14 (.faddr 0 (.t 2)),
 oU 15 (.load false 1 (.u 14)),
 oU 16 (.lenL (.u 15)),
 oT 17 (.bin .lss (.u 13) (.u 16))])
 (.cond (.t 17)
 (.skip)
 (.exit 0)))
 (.seq (.block 1 (.seq (.regionD [⟨0, [2], false, [], oU 20 (.faddr 0 (.t 2))⟩,
 ⟨1, [20], true, [], oU 21 (.load false 1 (.u 20))⟩,
 ⟨2, [5], false, [], oM 22 5⟩,
 ⟨3, [21, 22], false, [], oU 23 (.iaS 8 (.u 21) (.u 22))⟩,
 ⟨4, [23], true, [], oU 24 (.load true 8 (.u 23))⟩,
 ⟨5, [3], false, [], oU 25 (.faddr 0 (.t 3))⟩,
 ⟨6, [25], true, [], oU 26 (.load false 1 (.u 25))⟩,
 ⟨7, [5], false, [], oM 27 5⟩,
 ⟨8, [26, 27], false, [], oU 28 (.iaS 8 (.u 26) (.u 27))⟩,
 ⟨9, [28], true, [], oU 29 (.load true 8 (.u 28))⟩,
 ⟨10, [24, 29], false, [], oU 30 (.call 52 [(.u 24), (.u 29)])⟩,
 ⟨11, [30], false, [], oT 31 (.un .not (.u 30))⟩])
 (.cond (.t 31)
 (.seq (.region [oT 4 (.mov (.c (.bool false)))])
 (.ret))
 (.skip))))
 (.region [oM 18 5,
 oU 19 (.bin .add (.u 18) (.c (.int .i64 1))),
 oT 5 (.mov (.u 19))]))))))
 (.seq (.region [oU 32 (.load true 3 (.t 2)),
 oU 33 (.load true 3 (.t 3)),
 oU 34 (.call 49 [(.u 32), (.u 33)]),
 oT 4 (.mov (.u 34))])
 (.ret))))
def r27 : List LRes := [.slot 4]
theorem t27 : (Try.f27.body.bind (trCode v27 Try.prog Try.f27.ntmps)) = some c27 ∧ trRes v27 Try.prog Try.f27.results.toList = some r27 := ⟨by kernel_rfl, by kernel_rfl⟩

def v38 : Nat → Bool := fun t => [0, 1, 4].contains t
def c38 : LCode :=
 .seq (.region [oT 4 (.mov (.c (.str [])))])
 (.seq (.region [oM 5 1,
 oM 6 0,
 oM 7 1,
 oU 8 (.lenL (.u 7)),
 oU 9 (.call 21 [(.u 6), (.u 8)]),
 oU 10 (.iaS 1 (.u 5) (.u 9)),
 oU 11 (.load false 1 (.u 10)),
 oT 4 (.mov (.u 11))])
 (.ret))
def r38 : List LRes := [.slot 4]
theorem t38 : (Try.f38.body.bind (trCode v38 Try.prog Try.f38.ntmps)) = some c38 ∧ trRes v38 Try.prog Try.f38.results.toList = some r38 := ⟨by kernel_rfl, by kernel_rfl⟩

def v39 : Nat → Bool := fun t => [0, 1, 4].contains t
def c39 : LCode :=
 .seq (.region [oT 4 (.mov (.c (.int .i64 0)))])
 (.seq (.region [oM 5 1,
 oM 6 0,
 oM 7 1,
 oU 8 (.lenL (.u 7)),
 oU 9 (.call 21 [(.u 6), (.u 8)]),
 oU 10 (.iaS 1 (.u 5) (.u 9)),
 oU 11 (.load false 1 (.u 10)),
 oT 4 (.mov (.u 11))])
 (.ret))
def r39 : List LRes := [.slot 4]
theorem t39 : (Try.f39.body.bind (trCode v39 Try.prog Try.f39.ntmps)) = some c39 ∧ trRes v39 Try.prog Try.f39.results.toList = some r39 := ⟨by kernel_rfl, by kernel_rfl⟩

def v40 : Nat → Bool := fun t => [0, 1, 2, 3, 5, 7, 8, 9, 10, 21].contains t
def c40 : LCode :=
 .seq (.region [oT 1 (.box (.t 0)),
 oT 2 (.mov (.c (.fsl 1 0 [])))])
 (.seq (.region [oT 3 (.mov (.c (.fsl 1 0 [])))])
 (.seq (.seq (.region [oU 6 (.faddr 3 (.t 1)),
 oT 7 (.load false 1 (.u 6)),
 oT 8 (.lenL (.t 7)),
 oT 9 (.mov (.c (.int .i64 0)))])
 (.block 0 (.loop (.seq (.region [oT 10 (.bin .lss (.t 9) (.t 8))])
 (.seq (.cond (.t 10)
 (.skip)
 (.exit 0))
 (.seq (.block 1 (.seq (.region [oU 11 (.iaS 5 (.t 7) (.t 9)),
 oU 12 (.load true 5 (.u 11)),
 oT 5 (.zero [.int .i64 0, .int .i64 0, .int .i64 0, .str [], .int .i64 0]),
 oN (.store 5 (.t 5) (.u 12))])
 (.region [oM 13 3,
 oU 14 (.load true 5 (.t 5)),
 oU 15 (.build [.int .i64 0, .int .i64 0, .int .i64 0, .str [], .int .i64 0, .int .i64 0, .str [], .int .i64 0] [(0, 5, (.u 14))]),
 oU 16 (.mkS 8 1 [.int .i64 0, .int .i64 0, .int .i64 0, .str [], .int .i64 0, .int .i64 0, .str [], .int .i64 0] [(0, 8, (.u 15))]),
 oU 17 (.app 8 80 (.u 13) (.u 16)),
 oT 3 (.mov (.u 17))])))
 (.region [oU 18 (.bin .add (.t 9) (.c (.int .i64 1))),
 oT 9 (.mov (.u 18))])))))))
 (.seq (.seq (.region [oU 19 (.faddr 4 (.t 1)),
 oU 20 (.load false 1 (.u 19)),
 oT 21 (.bin .neq (.u 20) (.c (.int .i64 0)))])
 (.cond (.t 21)
 (.region [oM 22 3,
 oU 23 (.faddr 4 (.t 1)),
 oU 24 (.load false 1 (.u 23)),
 oU 25 (.faddr 5 (.t 1)),
 oU 26 (.load false 1 (.u 25)),
 oU 27 (.faddr 6 (.t 1)),
 oU 28 (.load false 1 (.u 27)),
 oU 29 (.build [.int .i64 0, .int .i64 0, .int .i64 0, .str [], .int .i64 0, .int .i64 0, .str [], .int .i64 0] [(5, 1, (.u 24)), (6, 1, (.u 26)), (7, 1, (.u 28))]),
 oU 30 (.mkS 8 1 [.int .i64 0, .int .i64 0, .int .i64 0, .str [], .int .i64 0, .int .i64 0, .str [], .int .i64 0] [(0, 8, (.u 29))]),
 oU 31 (.app 8 80 (.u 22) (.u 30)),
 oT 3 (.mov (.u 31))])
 (.skip)))
 (.seq (.region [oM 32 3,
 oT 2 (.mov (.u 32))])
 (.ret)))))
def r40 : List LRes := [.slot 2]
theorem t40 : (Try.f40.body.bind (trCode v40 Try.prog Try.f40.ntmps)) = some c40 ∧ trRes v40 Try.prog Try.f40.results.toList = some r40 := ⟨by kernel_rfl, by kernel_rfl⟩

def v41 : Nat → Bool := fun t => [0, 1, 3, 4].contains t
def c41 : LCode :=
 .seq (.region [oT 3 (.box (.t 1)),
 oT 4 (.mov (.c (.bool false)))])
 (.seq (.region [oM 5 0,
 oU 6 (.load true 8 (.t 3)),
 oU 7 (.call 65 [(.u 5), (.u 6)]),
 oU 8 (.bin .geq (.u 7) (.c (.int .i64 0))),
 oT 4 (.mov (.u 8))])
 (.ret))
def r41 : List LRes := [.slot 4]
theorem t41 : (Try.f41.body.bind (trCode v41 Try.prog Try.f41.ntmps)) = some c41 ∧ trRes v41 Try.prog Try.f41.results.toList = some r41 := ⟨by kernel_rfl, by kernel_rfl⟩

def v42 : Nat → Bool := fun t => [0, 1, 2, 6, 7, 9, 10, 12, 13, 14, 15, 16, 25, 26, 27, 28].contains t
def c42 : LCode :=
 .seq (.region [oT 6 (.mov (.c (.fsl 1 0 [])))])
 (.seq (.region [oT 7 (.mov (.c (.fsl 1 0 [])))])
 (.seq (.seq (.region [oT 13 (.mov (.t 1)),
 oT 14 (.lenL (.t 13)),
 oT 15 (.mov (.c (.int .i64 0)))])
 (.block 0 (.loop (.seq (.region [oT 16 (.bin .lss (.t 15) (.t 14))])
 (.seq (.cond (.t 16)
 (.skip)
 (.exit 0))
 (.seq (.block 1 (.seq (.region [oU 17 (.iaS 1 (.t 13) (.t 15)),
 oU 18 (.load false 1 (.u 17)),
 oT 9 (.mov (.u 18))])
 (.seq (.region [oM 19 9,
 oU 20 (.build [.int .i64 0, .int .i64 0] [(0, 1, (.u 19))]),
 oT 10 (.zero [.int .i64 0, .int .i64 0]),
 oN (.store 2 (.t 10) (.u 20))])
 (.seq (.seq (.region [oM 21 0,
 oM 22 9,
 oU 23 (.iaS 8 (.u 21) (.u 22)),
 oU 24 (.load true 8 (.u 23)),
 oT 25 (.call 40 [(.u 24)]),
 oT 26 (.lenL (.t 25)),
 oT 27 (.mov (.c (.int .i64 0)))])
 (.block 2 (.loop (.seq (.region [oT 28 (.bin .lss (.t 27) (.t 26))])
 (.seq (.cond (.t 28)
 (.skip)
 (.exit 2))
 (.seq (.block 3 (.seq (.region [oU 29 (.iaS 8 (.t 25) (.t 27)),
 oU 30 (.load true 8 (.u 29)),
 oT 12 (.zero [.int .i64 0, .int .i64 0, .int .i64 0, .str [], .int .i64 0, .int .i64 0, .str [], .int .i64 0]),
 oN (.store 8 (.t 12) (.u 30))])
 (.regionD [⟨0, [10], false, [], oU 31 (.faddr 1 (.t 10))⟩,
 ⟨1, [31], true, [], oU 32 (.load false 1 (.u 31))⟩,
 ⟨2, [2], false, [], oM 33 2⟩,
 ⟨3, [12], true, [], oU 34 (.load true 8 (.t 12))⟩,
 ⟨4, [33, 34], false, [1], oU 35 (.call 65 [(.u 33), (.u 34)])⟩,
 ⟨5, [35], false, [], oU 36 (.bin .shl (.c (.int .i64 1)) (.u 35))⟩,
 ⟨6, [32, 36], false, [], oU 37 (.bin .or (.u 32) (.u 36))⟩,
 ⟨7, [10], false, [], oU 38 (.faddr 1 (.t 10))⟩,
 ⟨8, [38, 37], false, [], oN (.store 1 (.u 38) (.u 37))⟩])))
 (.region [oU 39 (.bin .add (.t 27) (.c (.int .i64 1))),
 oT 27 (.mov (.u 39))])))))))
 (.region [oM 40 7,
 oU 41 (.load true 2 (.t 10)),
 oU 42 (.mkS 2 1 [.int .i64 0, .int .i64 0] [(0, 2, (.u 41))]),
 oU 43 (.app 2 16 (.u 40) (.u 42)),
 oT 7 (.mov (.u 43))])))))
 (.region [oU 44 (.bin .add (.t 15) (.c (.int .i64 1))),
 oT 15 (.mov (.u 44))])))))))
 (.seq (.region [oM 45 7,
 oT 6 (.mov (.u 45))])
 (.ret))))
def r42 : List LRes := [.slot 6]
theorem t42 : (Try.f42.body.bind (trCode v42 Try.prog Try.f42.ntmps)) = some c42 ∧ trRes v42 Try.prog Try.f42.results.toList = some r42 := ⟨by kernel_rfl, by kernel_rfl⟩

def v43 : Nat → Bool := fun t => [0, 1, 2, 3, 4, 5, 6, 9, 10, 11, 12, 13, 14, 18, 37, 50].contains t
def c43 : LCode :=
 .seq (.region [oT 9 (.mov (.c (.int .i64 0)))])
 (.seq (.seq (.region [oM 15 0,
 oU 16 (.load false 1 (.t 2)),
 oU 17 (.lenL (.u 16)),
 oT 18 (.bin .eql (.u 15) (.u 17))])
 (.cond (.t 18)
 (.seq (.region [oU 19 (.load false 1 (.t 3)),
 oM 20 1,
 oU 21 (.call 44 [(.u 19), (.u 20)]),
 oT 9 (.mov (.u 21))])
 (.ret))
 (.skip)))
 (.seq (.region [oU 22 (.load false 1 (.t 4)),
 oM 23 0,
 oU 24 (.bin .add (.u 23) (.c (.int .i64 1))),
 oM 25 1,
 oU 26 (.callV (.u 22) [(.u 24), (.u 25)]),
 oT 10 (.mov (.u 26))])
 (.seq (.regionD [⟨0, [4], true, [], oU 27 (.load false 1 (.t 4))⟩,
 ⟨1, [0], false, [], oM 28 0⟩,
 ⟨2, [28], false, [], oU 29 (.bin .add (.u 28) (.c (.int .i64 1)))⟩,
 ⟨3, [1], false, [], oM 30 1⟩,
 ⟨4, [0], false, [], oM 31 0⟩,
 ⟨5, [31], false, [], oU 32 (.bin .shl (.c (.int .i64 1)) (.u 31))⟩,
 ⟨6, [30, 32], false, [], oU 33 (.bin .or (.u 30) (.u 32))⟩,
 ⟨7, [27, 29, 33], false, [], oU 34 (.callV (.u 27) [(.u 29), (.u 33)])⟩,
 ⟨8, [34], false, [], oT 11 (.mov (.u 34))⟩])
 (.seq (.seq (.region [oM 35 10,
 oM 36 11,
 oT 37 (.bin .eql (.u 35) (.u 36))])
 (.cond (.t 37)
 (.seq (.region [oM 38 10,
 oT 9 (.mov (.u 38))])
 (.ret))
 (.skip)))
 (.seq (.region [oM 39 0,
 oM 40 10,
 oM 41 11,
 oU 42 (.build [.int .i64 0, .int .i64 0, .int .i64 0] [(0, 1, (.u 39)), (1, 1, (.u 40)), (2, 1, (.u 41))]),
 oT 12 (.zero [.int .i64 0, .int .i64 0, .int .i64 0]),
 oN (.store 3 (.t 12) (.u 42))])
 (.seq (.region [oU 44 (.load false 1 (.t 5)),
 oU 45 (.load true 3 (.t 12)),
 oU 46 (.look true 54 (.int .i64 0) (.u 44) (.u 45)),
 oU 43 (.mov (.u 46)),
 oU 47 (.ext (.u 43) 0),
 oU 48 (.ext (.u 43) 1),
 oT 13 (.mov (.u 47)),
 oT 14 (.mov (.u 48))])
 (.seq (.seq (.region [oM 49 14,
 oT 50 (.un .not (.u 49))])
 (.cond (.t 50)
 (.seq (.region [oU 51 (.load false 1 (.t 6)),
 oU 52 (.lenL (.u 51)),
 oT 13 (.mov (.u 52))])
 (.seq (.region [oU 53 (.load false 1 (.t 6)),
 oU 54 (.load true 3 (.t 12)),
 oU 55 (.mkS 3 1 [.int .i64 0, .int .i64 0, .int .i64 0] [(0, 3, (.u 54))]),
 oU 56 (.app 3 24 (.u 53) (.u 55)),
 oN (.store 1 (.t 6) (.u 56))])
 (.region [oU 57 (.load false 1 (.t 5)),
 oU 58 (.load true 3 (.t 12)),
 oM 59 13,
 oN (.upd 54 (.u 57) (.u 58) (.u 59))])))
 (.skip)))
 (.seq (.region [oM 60 13,
 oT 9 (.mov (.u 60))])
 (.ret)))))))))
def r43 : List LRes := [.slot 9]
theorem t43 : (Try.f43.body.bind (trCode v43 Try.prog Try.f43.ntmps)) = some c43 ∧ trRes v43 Try.prog Try.f43.results.toList = some r43 := ⟨by kernel_rfl, by kernel_rfl⟩

def v44 : Nat → Bool := fun t => [0, 1, 4, 6, 7, 8, 9, 10, 17].contains t
def c44 : LCode :=
 .seq (.region [oT 4 (.mov (.c (.int .i64 0)))])
 (.seq (.seq (.region [oT 7 (.mov (.t 0)),
 oT 8 (.lenL (.t 7)),
 oT 9 (.mov (.c (.int .i64 0)))])
 (.block 0 (.loop (.seq (.region [oT 10 (.bin .lss (.t 9) (.t 8))])
 (.seq (.cond (.t 10)
 (.skip)
 (.exit 0))
 (.seq (.block 1 (.seq (.region [oU 11 (.iaS 2 (.t 7) (.t 9)),
 oU 12 (.load true 2 (.u 11)),
 oT 6 (.zero [.int .i64 0, .int .i64 0]),
 oN (.store 2 (.t 6) (.u 12))])
 (.seq (.region [oU 13 (.faddr 1 (.t 6)),
 oU 14 (.load false 1 (.u 13)),
 oM 15 1,
 oU 16 (.bin .andNot (.u 14) (.u 15)),
 oT 17 (.bin .eql (.u 16) (.c (.int .i64 0)))])
 (.cond (.t 17)
 (.seq (.region [oU 18 (.faddr 0 (.t 6)),
 oU 19 (.load false 1 (.u 18)),
 oU 20 (.bin .sub (.c (.int .i64 (-2))) (.u 19)),
 oT 4 (.mov (.u 20))])
 (.ret))
 (.skip)))))
 (.region [oU 21 (.bin .add (.t 9) (.c (.int .i64 1))),
 oT 9 (.mov (.u 21))])))))))
 (.seq (.region [oT 4 (.mov (.c (.int .i64 (-1))))])
 (.ret)))
def r44 : List LRes := [.slot 4]
theorem t44 : (Try.f44.body.bind (trCode v44 Try.prog Try.f44.ntmps)) = some c44 ∧ trRes v44 Try.prog Try.f44.results.toList = some r44 := ⟨by kernel_rfl, by kernel_rfl⟩

def v45 : Nat → Bool := fun t => [0, 1, 2, 3, 4, 10, 11, 12, 19].contains t
def c45 : LCode :=
 .seq (.region [oT 10 (.mov (.c (.int .i64 0)))])
 (.seq (.seq (.region [oM 13 3,
 oM 14 0,
 oU 15 (.nilc (.u 14)),
 oU 16 (.faddr 0 (.u 15)),
 oU 17 (.load false 1 (.u 16)),
 oU 18 (.lenL (.u 17)),
 oT 19 (.bin .eql (.u 13) (.u 18))])
 (.cond (.t 19)
 (.seq (.region [oM 20 1,
 oM 21 2,
 oM 22 0,
 oU 23 (.nilc (.u 22)),
 oU 24 (.faddr 0 (.u 23)),
 oU 25 (.load false 1 (.u 24)),
 oM 26 4,
 oU 27 (.call 25 [(.u 20), (.u 21), (.u 25), (.u 26)]),
 oT 10 (.mov (.u 27))])
 (.ret))
 (.skip)))
 (.seq (.region [oM 28 0,
 oM 29 1,
 oM 30 2,
 oM 31 3,
 oU 32 (.bin .add (.u 31) (.c (.int .i64 1))),
 oM 33 4,
 oU 34 (.call 45 [(.u 28), (.u 29), (.u 30), (.u 32), (.u 33)]),
 oT 11 (.mov (.u 34))])
 (.seq (.region [oM 35 0,
 oM 36 1,
 oM 37 2,
 oM 38 3,
 oU 39 (.bin .add (.u 38) (.c (.int .i64 1))),
 oM 40 4,
 oM 41 3,
 oU 42 (.conv .u64 (.u 41)),
 oU 43 (.bin .shl (.c (.int .i64 1)) (.u 42)),
 oU 44 (.bin .or (.u 40) (.u 43)),
 oU 45 (.call 45 [(.u 35), (.u 36), (.u 37), (.u 39), (.u 44)]),
 oT 12 (.mov (.u 45))])
 (.seq (.region [oM 46 0,
 oM 47 3,
 oM 48 11,
 oM 49 12,
 oU 50 (.build [.int .i64 0, .int .i64 0, .int .i64 0] [(0, 1, (.u 47)), (1, 1, (.u 48)), (2, 1, (.u 49))]),
 oU 51 (.call 66 [(.u 46), (.u 50)]),
 oT 10 (.mov (.u 51))])
 (.ret)))))
def r45 : List LRes := [.slot 10]
theorem t45 : (Try.f45.body.bind (trCode v45 Try.prog Try.f45.ntmps)) = some c45 ∧ trRes v45 Try.prog Try.f45.results.toList = some r45 := ⟨by kernel_rfl, by kernel_rfl⟩

def v46 : Nat → Bool := fun t => [0, 1, 2, 4, 5, 6, 7, 18].contains t
def c46 : LCode :=
 .seq (.region [oT 2 (.box (.t 0)),
 oT 4 (.zero [.fsl 1 0 [], .fsl 1 0 [], .int .i64 0])])
 (.seq (.region [oU 8 (.faddr 0 (.t 2)),
 oU 9 (.load false 1 (.u 8)),
 oU 10 (.build [.fsl 1 0 [], .fsl 1 0 [], .int .i64 0] [(0, 1, (.u 9))]),
 oT 5 (.zero [.fsl 1 0 [], .fsl 1 0 [], .int .i64 0]),
 oN (.store 3 (.t 5) (.u 10))])
 (.seq (.region [oU 11 (.faddr 1 (.t 2)),
 oU 12 (.load false 1 (.u 11)),
 oU 13 (.lenL (.u 12)),
 oU 14 (.make 1 8 [.int .i64 0] (.u 13) (.u 13)),
 oT 6 (.mov (.u 14))])
 (.seq (.seq (.region [oT 7 (.mov (.c (.int .i64 0)))])
 (.block 0 (.loop (.seq (.seq (.region [oM 15 7,
 oM 16 6,
 oU 17 (.lenL (.u 16)),
 oT 18 (.bin .lss (.u 15) (.u 17))])
 (.cond (.t 18)
 (.skip)
 (.exit 0)))
 (.seq (.block 1 (.region [oM 21 6,
 oM 22 7,
 oU 23 (.iaS 1 (.u 21) (.u 22)),
 oN (.store 1 (.u 23) (.c (.int .i64 (-1))))]))
 (.region [oM 19 7,
 oU 20 (.bin .add (.u 19) (.c (.int .i64 1))),
 oT 7 (.mov (.u 20))]))))))
 (.seq (.region [oU 24 (.load true 3 (.t 2)),
 oM 25 6,
 oM 26 1,
 oU 27 (.call 67 [(.u 24), (.t 5), (.u 25), (.u 26)]),
 oU 28 (.faddr 2 (.t 5)),
 oN (.store 1 (.u 28) (.u 27))])
 (.seq (.region [oU 29 (.load true 3 (.t 5)),
 oN (.store 3 (.t 4) (.u 29))])
 (.ret))))))
def r46 : List LRes := [.cell true 3 4]
theorem t46 : (Try.f46.body.bind (trCode v46 Try.prog Try.f46.ntmps)) = some c46 ∧ trRes v46 Try.prog Try.f46.results.toList = some r46 := ⟨by kernel_rfl, by kernel_rfl⟩

def v47 : Nat → Bool := fun t => [0, 1, 2, 6].contains t
def c47 : LCode :=
 .seq (.region [oT 6 (.mov (.c (.bool false)))])
 (.seq (.region [oM 7 2,
 oU 8 (.bin .lss (.u 7) (.c (.int .i64 0))),
 oU 9 (.mov (.u 8)),
 ⟨some 10, false, some ((.u 9), false), .mov (.t 2)⟩,
 ⟨some 11, false, some ((.u 9), false), .mov (.t 0)⟩,
 ⟨some 12, false, some ((.u 9), false), .lenL (.u 11)⟩,
 ⟨some 13, false, some ((.u 9), false), .bin .lss (.u 10) (.u 12)⟩,
 ⟨some 14, false, some ((.u 9), false), .mov (.u 13)⟩,
 ⟨some 15, false, some ((.u 14), true), .mov (.t 0)⟩,
 ⟨some 16, false, some ((.u 14), true), .mov (.t 2)⟩,
 ⟨some 17, false, some ((.u 14), true), .iaS 3 (.u 15) (.u 16)⟩,
 ⟨some 18, false, some ((.u 14), true), .faddr 0 (.u 17)⟩,
 ⟨some 19, false, some ((.u 14), true), .load false 1 (.u 18)⟩,
 ⟨some 20, false, some ((.u 14), true), .mov (.t 1)⟩,
 ⟨some 21, false, some ((.u 14), true), .bin .gtr (.u 19) (.u 20)⟩,
 ⟨some 22, false, some ((.u 9), false), .pick (.u 14) (.u 21) (.c (.bool false))⟩,
 oU 23 (.pick (.u 9) (.c (.bool true)) (.u 22)),
 oT 6 (.mov (.u 23))])
 (.ret))
def r47 : List LRes := [.slot 6]
theorem t47 : (Try.f47.body.bind (trCode v47 Try.prog Try.f47.ntmps)) = some c47 ∧ trRes v47 Try.prog Try.f47.results.toList = some r47 := ⟨by kernel_rfl, by kernel_rfl⟩

def v48 : Nat → Bool := fun t => [0, 1, 2, 3, 4].contains t
def c48 : LCode :=
 .seq (.region [oT 1 (.box (.t 0)),
 oT 2 (.mov (.c (.bool false)))])
 (.seq (.region [oT 3 (.zero [.int .i64 0]),
 oN (.store 1 (.t 3) (.c (.int .i64 0)))])
 (.seq (.region [oT 4 (.zero [.raw .nilFunc])])
 (.seq (.region [oU 5 (.mkf 68 [(.t 3), (.t 4), (.t 1)]),
 oN (.store 1 (.t 4) (.u 5))])
 (.seq (.region [oU 6 (.load false 1 (.t 4)),
 oU 7 (.faddr 2 (.t 1)),
 oU 8 (.load false 1 (.u 7)),
 oU 9 (.callV (.u 6) [(.u 8)]),
 oT 2 (.mov (.u 9))])
 (.ret)))))
def r48 : List LRes := [.slot 2]
theorem t48 : (Try.f48.body.bind (trCode v48 Try.prog Try.f48.ntmps)) = some c48 ∧ trRes v48 Try.prog Try.f48.results.toList = some r48 := ⟨by kernel_rfl, by kernel_rfl⟩

def v49 : Nat → Bool := fun t => [0, 1, 2, 3, 4, 5, 19, 24, 37].contains t
def c49 : LCode :=
 .seq (.region [oT 2 (.box (.t 0)),
 oT 3 (.box (.t 1)),
 oT 4 (.mov (.c (.bool false)))])
 (.seq (.seq (.region [oU 6 (.faddr 2 (.t 2)),
 oU 7 (.load false 1 (.u 6)),
 oU 8 (.faddr 2 (.t 3)),
 oU 9 (.load false 1 (.u 8)),
 oU 10 (.bin .neq (.u 7) (.u 9)),
 oU 11 (.mov (.u 10)),
 ⟨some 12, false, some ((.u 11), false), .faddr 1 (.t 2)⟩,
 ⟨some 13, false, some ((.u 11), false), .load false 1 (.u 12)⟩,
 ⟨some 14, false, some ((.u 11), false), .lenL (.u 13)⟩,
 ⟨some 15, false, some ((.u 11), false), .faddr 1 (.t 3)⟩,
 ⟨some 16, false, some ((.u 11), false), .load false 1 (.u 15)⟩,
 ⟨some 17, false, some ((.u 11), false), .lenL (.u 16)⟩,
 ⟨some 18, false, some ((.u 11), false), .bin .neq (.u 14) (.u 17)⟩,
 oT 19 (.pick (.u 11) (.c (.bool true)) (.u 18))])
 (.cond (.t 19)
 (.seq (.region [oT 4 (.mov (.c (.bool false)))])
 (.ret))
 (.skip)))
 (.seq (.seq (.region [oT 5 (.mov (.c (.int .i64 0)))])
 (.block 0 (.loop (.seq (.seq (.region [oM 20 5,
 oU 21 (.faddr 1 (.t 2)),
 oU 22 (.load false 1 (.u 21)),
 oU 23 (.lenL (.u 22)),
 oT 24 (.bin .lss (.u 20) (.u 23))])
 (.cond (.t 24)
 (.skip)
 (.exit 0)))
 (.seq (.block 1 (.seq (.regionD [⟨0, [2], false, [], oU 27 (.faddr 1 (.t 2))⟩,
 ⟨1, [27], true, [], oU 28 (.load false 1 (.u 27))⟩,
 ⟨2, [5], false, [], oM 29 5⟩,
 ⟨3, [28, 29], false, [], oU 30 (.iaS 3 (.u 28) (.u 29))⟩,
 ⟨4, [30], true, [], oU 31 (.load true 3 (.u 30))⟩,
 ⟨5, [3], false, [], oU 32 (.faddr 1 (.t 3))⟩,
 ⟨6, [32], true, [], oU 33 (.load false 1 (.u 32))⟩,
 ⟨7, [5], false, [], oM 34 5⟩,
 ⟨8, [33, 34], false, [], oU 35 (.iaS 3 (.u 33) (.u 34))⟩,
 ⟨9, [35], true, [], oU 36 (.load true 3 (.u 35))⟩,
 ⟨10, [31, 36], false, [], oT 37 (.eqS true 3 [(0, 1), (1, 1), (2, 1)] (.u 31) (.u 36))⟩])
 (.cond (.t 37)
 (.seq (.region [oT 4 (.mov (.c (.bool false)))])
 (.ret))
 (.skip))))
 (.region [oM 25 5,
 oU 26 (.bin .add (.u 25) (.c (.int .i64 1))),
 oT 5 (.mov (.u 26))]))))))
 (.seq (.region [oT 4 (.mov (.c (.bool true)))])
 (.ret))))
def r49 : List LRes := [.slot 4]
theorem t49 : (Try.f49.body.bind (trCode v49 Try.prog Try.f49.ntmps)) = some c49 ∧ trRes v49 Try.prog Try.f49.results.toList = some r49 := ⟨by kernel_rfl, by kernel_rfl⟩

def v50 : Nat → Bool := fun t => [0, 1, 2, 3, 4, 9, 23].contains t
def c50 : LCode :=
 .seq (.region [oT 1 (.box (.t 0)),
 oT 2 (.mov (.c (.fsl 1 0 [])))])
 (.seq (.region [oT 3 (.mov (.c (.fsl 1 0 [])))])
 (.seq (.seq (.region [oT 4 (.mov (.c (.int .i64 0)))])
 (.block 0 (.loop (.seq (.seq (.region [oM 5 4,
 oU 6 (.faddr 3 (.t 1)),
 oU 7 (.load false 1 (.u 6)),
 oU 8 (.lenL (.u 7)),
 oT 9 (.bin .lss (.u 5) (.u 8))])
 (.cond (.t 9)
 (.skip)
 (.exit 0)))
 (.seq (.block 1 (.region [oM 12 3,
 oU 13 (.faddr 3 (.t 1)),
 oU 14 (.load false 1 (.u 13)),
 oM 15 4,
 oU 16 (.iaS 5 (.u 14) (.u 15)),
 oU 17 (.load true 5 (.u 16)),
 oU 18 (.build [.int .i64 0, .int .i64 0, .int .i64 0, .str [], .int .i64 0, .int .i64 0, .str [], .int .i64 0] [(0, 5, (.u 17))]),
 oU 19 (.mkS 8 1 [.int .i64 0, .int .i64 0, .int .i64 0, .str [], .int .i64 0, .int .i64 0, .str [], .int .i64 0] [(0, 8, (.u 18))]),
 oU 20 (.app 8 80 (.u 12) (.u 19)),
 oT 3 (.mov (.u 20))]))
 (.region [oM 10 4,
 oU 11 (.bin .add (.u 10) (.c (.int .i64 1))),
 oT 4 (.mov (.u 11))]))))))
 (.seq (.seq (.region [oU 21 (.faddr 4 (.t 1)),
 oU 22 (.load false 1 (.u 21)),
 oT 23 (.bin .neq (.u 22) (.c (.int .i64 0)))])
 (.cond (.t 23)
 (.region [oM 24 3,
 oU 25 (.faddr 4 (.t 1)),
 oU 26 (.load false 1 (.u 25)),
 oU 27 (.faddr 5 (.t 1)),
 oU 28 (.load false 1 (.u 27)),
 oU 29 (.faddr 6 (.t 1)),
 oU 30 (.load false 1 (.u 29)),
 oU 31 (.build [.int .i64 0, .int .i64 0, .int .i64 0, .str [], .int .i64 0, .int .i64 0, .str [], .int .i64 0] [(5, 1, (.u 26)), (6, 1, (.u 28)), (7, 1, (.u 30))]),
 oU 32 (.mkS 8 1 [.int .i64 0, .int .i64 0, .int .i64 0, .str [], .int .i64 0, .int .i64 0, .str [], .int .i64 0] [(0, 8, (.u 31))]),
 oU 33 (.app 8 80 (.u 24) (.u 32)),
 oT 3 (.mov (.u 33))])
 (.skip)))
 (.seq (.region [oM 34 3,
 oT 2 (.mov (.u 34))])
 (.ret)))))
def r50 : List LRes := [.slot 2]
theorem t50 : (Try.f50.body.bind (trCode v50 Try.prog Try.f50.ntmps)) = some c50 ∧ trRes v50 Try.prog Try.f50.results.toList = some r50 := ⟨by kernel_rfl, by kernel_rfl⟩

def v51 : Nat → Bool := fun t => [0, 1, 3, 4, 5, 9, 17].contains t
def c51 : LCode :=
 .seq (.region [oT 3 (.box (.t 1)),
 oT 4 (.mov (.c (.int .i64 0)))])
 (.seq (.seq (.region [oT 5 (.mov (.c (.int .i64 0)))])
 (.block 0 (.loop (.seq (.seq (.region [oM 6 5,
 oM 7 0,
 oU 8 (.lenL (.u 7)),
 oT 9 (.bin .lss (.u 6) (.u 8))])
 (.cond (.t 9)
 (.skip)
 (.exit 0)))
 (.seq (.block 1 (.seq (.regionD [⟨0, [0], false, [], oM 12 0⟩,
 ⟨1, [5], false, [], oM 13 5⟩,
 ⟨2, [12, 13], false, [], oU 14 (.iaS 8 (.u 12) (.u 13))⟩,
 ⟨3, [14], true, [], oU 15 (.load true 8 (.u 14))⟩,
 ⟨4, [3], true, [], oU 16 (.load true 8 (.t 3))⟩,
 ⟨5, [15, 16], false, [], oT 17 (.call 52 [(.u 15), (.u 16)])⟩])
 (.cond (.t 17)
 (.seq (.region [oM 18 5,
 oT 4 (.mov (.u 18))])
 (.ret))
 (.skip))))
 (.region [oM 10 5,
 oU 11 (.bin .add (.u 10) (.c (.int .i64 1))),
 oT 5 (.mov (.u 11))]))))))
 (.seq (.region [oT 4 (.mov (.c (.int .i64 (-1))))])
 (.ret)))
def r51 : List LRes := [.slot 4]
theorem t51 : (Try.f51.body.bind (trCode v51 Try.prog Try.f51.ntmps)) = some c51 ∧ trRes v51 Try.prog Try.f51.results.toList = some r51 := ⟨by kernel_rfl, by kernel_rfl⟩

def v52 : Nat → Bool := fun t => [0, 1, 2, 3, 4].contains t
def c52 : LCode :=
 .seq (.region [oT 2 (.box (.t 0)),
 oT 3 (.box (.t 1)),
 oT 4 (.mov (.c (.bool false)))])
 (.seq (.region [oU 5 (.faddr 0 (.t 2)),
 oU 6 (.load true 5 (.u 5)),
 oU 7 (.faddr 0 (.t 3)),
 oU 8 (.load true 5 (.u 7)),
 oU 9 (.eqS false 5 [(0, 1), (1, 1), (2, 1), (3, 2), (4, 1)] (.u 6) (.u 8)),
 oU 10 (.mov (.u 9)),
 ⟨some 11, false, some ((.u 10), true), .faddr 5 (.t 2)⟩,
 ⟨some 12, false, some ((.u 10), true), .load false 1 (.u 11)⟩,
 ⟨some 13, false, some ((.u 10), true), .faddr 5 (.t 3)⟩,
 ⟨some 14, false, some ((.u 10), true), .load false 1 (.u 13)⟩,
 ⟨some 15, false, some ((.u 10), true), .bin .eql (.u 12) (.u 14)⟩,
 oU 16 (.pick (.u 10) (.u 15) (.c (.bool false))),
 oU 17 (.mov (.u 16)),
 ⟨some 18, false, some ((.u 17), true), .faddr 6 (.t 2)⟩,
 ⟨some 19, false, some ((.u 17), true), .load false 1 (.u 18)⟩,
 ⟨some 20, false, some ((.u 17), true), .faddr 6 (.t 3)⟩,
 ⟨some 21, false, some ((.u 17), true), .load false 1 (.u 20)⟩,
 ⟨some 22, false, some ((.u 17), true), .bin .eql (.u 19) (.u 21)⟩,
 oU 23 (.pick (.u 17) (.u 22) (.c (.bool false))),
 oU 24 (.mov (.u 23)),
 ⟨some 25, false, some ((.u 24), true), .faddr 7 (.t 2)⟩,
 ⟨some 26, false, some ((.u 24), true), .load false 1 (.u 25)⟩,
 ⟨some 27, false, some ((.u 24), true), .faddr 7 (.t 3)⟩,
 ⟨some 28, false, some ((.u 24), true), .load false 1 (.u 27)⟩,
 ⟨some 29, false, some ((.u 24), true), .bin .eql (.u 26) (.u 28)⟩,
 oU 30 (.pick (.u 24) (.u 29) (.c (.bool false))),
 oT 4 (.mov (.u 30))])
 (.ret))
def r52 : List LRes := [.slot 4]
theorem t52 : (Try.f52.body.bind (trCode v52 Try.prog Try.f52.ntmps)) = some c52 ∧ trRes v52 Try.prog Try.f52.results.toList = some r52 := ⟨by kernel_rfl, by kernel_rfl⟩

def v65 : Nat → Bool := fun t => [0, 1, 3, 4, 5, 7, 8, 9, 16].contains t
def c65 : LCode :=
 .seq (.region [oT 3 (.box (.t 1)),
 oT 4 (.mov (.c (.int .i64 0)))])
 (.seq (.seq (.region [oM 6 0,
 oT 7 (.lenL (.u 6)),
 oT 8 (.mov (.c (.int .i64 0)))])
 (.block 0 (.loop (.seq (.region [oT 9 (.bin .lss (.t 8) (.t 7))])
 (.seq (.cond (.t 9)
 (.skip)
 (.exit 0))
 (.seq (.block 1 (.seq (.region [oM 10 8,
 oT 5 (.mov (.u 10))])
 (.seq (.regionD [⟨0, [3], true, [], oU 11 (.load true 8 (.t 3))⟩,
 ⟨1, [0], false, [], oM 12 0⟩,
 ⟨2, [5], false, [], oM 13 5⟩,
 ⟨3, [12, 13], false, [], oU 14 (.iaS 8 (.u 12) (.u 13))⟩,
 ⟨4, [14], true, [], oU 15 (.load true 8 (.u 14))⟩,
 ⟨5, [11, 15], false, [], oT 16 (.eqS false 8 [(0, 1), (1, 1), (2, 1), (3, 2), (4, 1), (5, 1), (6, 2), (7, 1)] (.u 11) (.u 15))⟩])
 (.cond (.t 16)
 (.seq (.region [oM 17 5,
 oT 4 (.mov (.u 17))])
 (.ret))
 (.skip)))))
 (.region [oU 18 (.bin .add (.t 8) (.c (.int .i64 1))),
 oT 8 (.mov (.u 18))])))))))
 (.seq (.region [oT 4 (.mov (.c (.int .i64 (-1))))])
 (.ret)))
def r65 : List LRes := [.slot 4]
theorem t65 : (Try.f65.body.bind (trCode v65 Try.prog Try.f65.ntmps)) = some c65 ∧ trRes v65 Try.prog Try.f65.results.toList = some r65 := ⟨by kernel_rfl, by kernel_rfl⟩

def v66 : Nat → Bool := fun t => [0, 1, 3, 4, 5, 10, 19, 30].contains t
def c66 : LCode :=
 .seq (.region [oT 3 (.box (.t 1)),
 oT 4 (.mov (.c (.int .i64 0)))])
 (.seq (.seq (.region [oU 6 (.faddr 1 (.t 3)),
 oU 7 (.load false 1 (.u 6)),
 oU 8 (.faddr 2 (.t 3)),
 oU 9 (.load false 1 (.u 8)),
 oT 10 (.bin .eql (.u 7) (.u 9))])
 (.cond (.t 10)
 (.seq (.region [oU 11 (.faddr 1 (.t 3)),
 oU 12 (.load false 1 (.u 11)),
 oT 4 (.mov (.u 12))])
 (.ret))
 (.skip)))
 (.seq (.seq (.region [oT 5 (.mov (.c (.int .i64 0)))])
 (.block 0 (.loop (.seq (.seq (.region [oM 13 5,
 oM 14 0,
 oU 15 (.nilc (.u 14)),
 oU 16 (.faddr 1 (.u 15)),
 oU 17 (.load false 1 (.u 16)),
 oU 18 (.lenL (.u 17)),
 oT 19 (.bin .lss (.u 13) (.u 18))])
 (.cond (.t 19)
 (.skip)
 (.exit 0)))
 (.seq (.block 1 (.seq (.regionD [⟨0, [0], false, [], oM 22 0⟩,
 ⟨1, [22], false, [], oU 23 (.nilc (.u 22))⟩,
 ⟨2, [23], false, [], oU 24 (.faddr 1 (.u 23))⟩,
 ⟨3, [24], true, [], oU 25 (.load false 1 (.u 24))⟩,
 ⟨4, [5], false, [], oM 26 5⟩,
 ⟨5, [25, 26], false, [], oU 27 (.iaS 3 (.u 25) (.u 26))⟩,
 ⟨6, [27], true, [], oU 28 (.load true 3 (.u 27))⟩,
 ⟨7, [3], true, [], oU 29 (.load true 3 (.t 3))⟩,
 ⟨8, [28, 29], false, [], oT 30 (.eqS false 3 [(0, 1), (1, 1), (2, 1)] (.u 28) (.u 29))⟩])
 (.cond (.t 30)
 (.seq (.region [oM 31 5,
 oT 4 (.mov (.u 31))])
 (.ret))
 (.skip))))
 (.region [oM 20 5,
 oU 21 (.bin .add (.u 20) (.c (.int .i64 1))),
 oT 5 (.mov (.u 21))]))))))
 (.seq (.regionD [⟨0, [0], false, [], oM 32 0⟩,
 ⟨1, [0], false, [], oM 33 0⟩,
 ⟨2, [33], false, [], oU 34 (.nilc (.u 33))⟩,
 ⟨3, [34], false, [], oU 35 (.faddr 1 (.u 34))⟩,
 ⟨4, [35], true, [], oU 36 (.load false 1 (.u 35))⟩,
 ⟨5, [3], true, [], oU 37 (.load true 3 (.t 3))⟩,
 ⟨6, [37], false, [], oU 38 (.mkS 3 1 [.int .i64 0, .int .i64 0, .int .i64 0] [(0, 3, (.u 37))])⟩,
 ⟨7, [36, 38], false, [], oU 39 (.app 3 24 (.u 36) (.u 38))⟩,
 ⟨8, [32], false, [], oU 40 (.nilc (.u 32))⟩,
 ⟨9, [40], false, [], oU 41 (.faddr 1 (.u 40))⟩,
 ⟨10, [41, 39], false, [], oN (.store 1 (.u 41) (.u 39))⟩])
 (.seq (.region [oM 42 0,
 oU 43 (.nilc (.u 42)),
 oU 44 (.faddr 1 (.u 43)),
 oU 45 (.load false 1 (.u 44)),
 oU 46 (.lenL (.u 45)),
 oU 47 (.bin .sub (.u 46) (.c (.int .i64 1))),
 oT 4 (.mov (.u 47))])
 (.ret)))))
def r66 : List LRes := [.slot 4]
theorem t66 : (Try.f66.body.bind (trCode v66 Try.prog Try.f66.ntmps)) = some c66 ∧ trRes v66 Try.prog Try.f66.results.toList = some r66 := ⟨by kernel_rfl, by kernel_rfl⟩

def v67 : Nat → Bool := fun t => [0, 1, 2, 3, 4, 8, 9, 11, 17, 1000001].contains t
def c67 : LCode :=
 .seq (.region [oT 4 (.box (.t 0)),
 oT 8 (.mov (.c (.int .i64 0)))])
 (.seq (.seq (.region [oM 10 3,
 oT 11 (.bin .lss (.u 10) (.c (.int .i64 0)))])
 (.cond (.t 11)
 (.seq (.region [oM 12 3,
 oT 8 (.mov (.u 12))])
 (.ret))
 (.skip)))
 (.seq (.seq (.region [oM 13 2,
 oM 14 3,
 oU 15 (.iaS 1 (.u 13) (.u 14)),
 oU 16 (.load false 1 (.u 15)),
 oT 17 (.bin .geq (.u 16) (.c (.int .i64 0)))])
 (.cond (.t 17)
 (.seq (.region [oM 18 2,
 oM 19 3,
 oU 20 (.iaS 1 (.u 18) (.u 19)),
 oU 21 (.load false 1 (.u 20)),
 oT 8 (.mov (.u 21))])
 (.ret))
 (.skip)))
 (.seq (.region [oU 22 (.faddr 1 (.t 4)),
 oU 23 (.load false 1 (.u 22)),
 oM 24 3,
 oU 25 (.iaS 3 (.u 23) (.u 24)),
 oU 26 (.load true 3 (.u 25)),
 oT 9 (.zero [.int .i64 0, .int .i64 0, .int .i64 0]),
 oN (.store 3 (.t 9) (.u 26))])
 (.seq (.region [oU 27 (.load true 3 (.t 4)),
 oM 28 1,
 oM 29 2,
 oU 30 (.faddr 1 (.t 9)),
 oU 31 (.load false 1 (.u 30)),
 oU 32 (.call 67 [(.u 27), (.u 28), (.u 29), (.u 31)]),
 oU 33 (.faddr 1 (.t 9)),
 oN (.store 1 (.u 33) (.u 32))])
 (.seq (.region [oU 34 (.load true 3 (.t 4)),
 oM 35 1,
 oM 36 2,
 oU 37 (.faddr 2 (.t 9)),
 oU 38 (.load false 1 (.u 37)),
 oU 39 (.call 67 [(.u 34), (.u 35), (.u 36), (.u 38)]),
 oU 40 (.faddr 2 (.t 9)),
 oN (.store 1 (.u 40) (.u 39))])
 (.seq (.regionD [⟨0, [1], false, [], oM 41 1⟩,
 ⟨1, [1], false, [], oM 42 1⟩,
 ⟨2, [42], false, [], oU 43 (.nilc (.u 42))⟩,
 ⟨3, [43], false, [], oU 44 (.faddr 1 (.u 43))⟩,
 ⟨4, [44], true, [], oU 45 (.load false 1 (.u 44))⟩,
 ⟨5, [9], true, [], oU 46 (.load true 3 (.t 9))⟩,
 ⟨6, [46], false, [], oU 47 (.mkS 3 1 [.int .i64 0, .int .i64 0, .int .i64 0] [(0, 3, (.u 46))])⟩,
 ⟨7, [45, 47], false, [], oU 48 (.appF 3 24 (.u 45) (.u 47))⟩,
 ⟨8, [41], false, [], oU 49 (.nilc (.u 41))⟩,
 ⟨9, [49], false, [], oU 50 (.faddr 1 (.u 49))⟩,
 ⟨10, [50, 48], false, [], oN (.store 1 (.u 50) (.u 48))⟩])
 (.seq (.region [oM 51 2,
 oM 52 3,
 oM 53 1,
 oU 54 (.nilc (.u 53)),
 oU 55 (.faddr 1 (.u 54)),
 oU 56 (.load false 1 (.u 55)),
 oU 57 (.lenL (.u 56)),
 oU 58 (.bin .sub (.u 57) (.c (.int .i64 1))),
 oU 59 (.iaS 1 (.u 51) (.u 52)),
 oN (.store 1 (.u 59) (.u 58))])
 (.seq (.region [oM 60 2,
 oM 61 3,
 oU 62 (.iaS 1 (.u 60) (.u 61)),
 oU 63 (.load false 1 (.u 62)),
 oT 8 (.mov (.u 63))])
 (.ret)))))))))
def r67 : List LRes := [.slot 8]
theorem t67 : (Try.f67.body.bind (trCode v67 Try.prog Try.f67.ntmps)) = some c67 ∧ trRes v67 Try.prog Try.f67.results.toList = some r67 := ⟨by kernel_rfl, by kernel_rfl⟩

def v68 : Nat → Bool := fun t => [0, 1, 2, 3, 5, 8, 33].contains t
def c68 : LCode :=
 .seq (.region [oT 5 (.mov (.c (.bool false)))])
 (.seq (.seq (.region [oM 6 0,
 oU 7 (.load false 1 (.t 1)),
 oT 8 (.bin .lss (.u 6) (.u 7))])
 (.cond (.t 8)
 (.seq (.region [oT 5 (.mov (.c (.bool true)))])
 (.ret))
 (.skip)))
 (.seq (.seq (.regionD [⟨0, [2], true, [], oU 9 (.load false 1 (.t 2))⟩,
 ⟨1, [3], false, [], oU 10 (.faddr 1 (.t 3))⟩,
 ⟨2, [10], true, [], oU 11 (.load false 1 (.u 10))⟩,
 ⟨3, [0], false, [], oM 12 0⟩,
 ⟨4, [11, 12], false, [], oU 13 (.iaS 3 (.u 11) (.u 12))⟩,
 ⟨5, [13], false, [], oU 14 (.faddr 1 (.u 13))⟩,
 ⟨6, [14], true, [], oU 15 (.load false 1 (.u 14))⟩,
 ⟨7, [9, 15], false, [], oU 16 (.callV (.u 9) [(.u 15)])⟩,
 ⟨8, [16], false, [], oU 17 (.un .not (.u 16))⟩,
 ⟨9, [17], false, [], oU 18 (.mov (.u 17))⟩,
 ⟨10, [2, 18], true, [], ⟨some 19, false, some ((.u 18), false), .load false 1 (.t 2)⟩⟩,
 ⟨11, [3, 18], false, [], ⟨some 20, false, some ((.u 18), false), .faddr 1 (.t 3)⟩⟩,
 ⟨12, [20, 18], true, [], ⟨some 21, false, some ((.u 18), false), .load false 1 (.u 20)⟩⟩,
 ⟨13, [0, 18], false, [], ⟨some 22, false, some ((.u 18), false), .mov (.t 0)⟩⟩,
 ⟨14, [21, 22, 18], false, [], ⟨some 23, false, some ((.u 18), false), .iaS 3 (.u 21) (.u 22)⟩⟩,
 ⟨15, [23, 18], false, [], ⟨some 24, false, some ((.u 18), false), .faddr 2 (.u 23)⟩⟩,
 ⟨16, [24, 18], true, [], ⟨some 25, false, some ((.u 18), false), .load false 1 (.u 24)⟩⟩,
 ⟨17, [19, 25, 18], false, [], ⟨some 26, false, some ((.u 18), false), .callV (.u 19) [(.u 25)]⟩⟩,
 ⟨18, [26, 18], false, [], ⟨some 27, false, some ((.u 18), false), .un .not (.u 26)⟩⟩,
 ⟨19, [18, 27], false, [], oU 28 (.pick (.u 18) (.c (.bool true)) (.u 27))⟩,
 ⟨20, [28], false, [], oU 29 (.mov (.u 28))⟩,
 ⟨21, [0, 29], false, [], ⟨some 30, false, some ((.u 29), false), .mov (.t 0)⟩⟩,
 ⟨22, [1, 29], true, [], ⟨some 31, false, some ((.u 29), false), .load false 1 (.t 1)⟩⟩,
 ⟨23, [30, 31, 29], false, [], ⟨some 32, false, some ((.u 29), false), .bin .neq (.u 30) (.u 31)⟩⟩,
 ⟨24, [29, 32], false, [], oT 33 (.pick (.u 29) (.c (.bool true)) (.u 32))⟩])
 (.cond (.t 33)
 (.seq (.region [oT 5 (.mov (.c (.bool false)))])
 (.ret))
 (.skip)))
 (.seq (.region [oU 34 (.load false 1 (.t 1)),
 oU 35 (.bin .add (.u 34) (.c (.int .i64 1))),
 oN (.store 1 (.t 1) (.u 35))])
 (.seq (.region [oT 5 (.mov (.c (.bool true)))])
 (.ret)))))
def r68 : List LRes := [.slot 5]
theorem t68 : (Try.f68.body.bind (trCode v68 Try.prog Try.f68.ntmps)) = some c68 ∧ trRes v68 Try.prog Try.f68.results.toList = some r68 := ⟨by kernel_rfl, by kernel_rfl⟩


end Go.Proofs.Ytcngkeeknlloaaa
