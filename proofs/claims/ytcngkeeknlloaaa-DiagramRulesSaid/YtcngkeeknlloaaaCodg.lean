/- The functions' bodies as the engine reads them; written by program out of the translation, checked by the kernel. -/
import Derived.Test.YtcngkeeknlloaaaProg
import Derived.Test.YtcngkeeknlloaaaLxL
import Derived.KernelRfl
namespace Go.Proofs.Ytcngkeeknlloaaa
open Go Go.Lx
set_option maxRecDepth 100000
def v30 : Nat → Bool := fun t => [0, 2, 3, 4, 14, 18, 26, 38].contains t
def c30 : LCode :=
 .seq (.region [oT 2 (.zero [.int .i64 0, .int .i64 0, .int .i64 0, .int .i64 0, .int .i64 0, .int .i64 0, .int .i64 0, .int .i64 0, .int .i64 0, .int .i64 0, .int .i64 0, .str [], .str [], .fsl 1 0 [], .bool false, .int .i64 0, .int .i64 0, .int .i64 0, .int .i64 0, .int .i64 0, .fsl 1 0 [], .fsl 1 0 [], .int .i64 0, .fsl 1 0 [], .int .i64 0])])
 (.seq (.region [oM 5 0,
 oU 6 (.call 22 [(.u 5), (.c (.int .i64 1)), (.c (.int .i64 2))]),
 oM 7 0,
 oU 8 (.call 55 [(.u 7)]),
 oM 9 0,
 oU 10 (.call 56 [(.u 9)]),
 oU 11 (.build [.int .i64 0, .int .i64 0, .int .i64 0, .int .i64 0, .int .i64 0, .int .i64 0, .int .i64 0, .int .i64 0, .int .i64 0, .int .i64 0, .int .i64 0, .str [], .str [], .fsl 1 0 [], .bool false, .int .i64 0, .int .i64 0, .int .i64 0, .int .i64 0, .int .i64 0, .fsl 1 0 [], .fsl 1 0 [], .int .i64 0, .fsl 1 0 [], .int .i64 0] [(0, 1, (.u 6)), (1, 14, (.u 8)), (15, 7, (.u 10))]),
 oT 3 (.zero [.int .i64 0, .int .i64 0, .int .i64 0, .int .i64 0, .int .i64 0, .int .i64 0, .int .i64 0, .int .i64 0, .int .i64 0, .int .i64 0, .int .i64 0, .str [], .str [], .fsl 1 0 [], .bool false, .int .i64 0, .int .i64 0, .int .i64 0, .int .i64 0, .int .i64 0, .fsl 1 0 [], .fsl 1 0 [], .int .i64 0, .fsl 1 0 [], .int .i64 0]),
 oN (.store 25 (.t 3) (.u 11))])
 (.seq (.seq (.region [oM 12 0,
 oU 13 (.call 21 [(.u 12), (.c (.int .i64 4))]),
 oT 14 (.bin .gtr (.u 13) (.c (.int .i64 0)))])
 (.cond (.t 14)
 (.region [oU 15 (.faddr 0 (.t 3)),
 oN (.store 1 (.u 15) (.c (.int .i64 2)))])
 (.skip)))
 (.seq (.seq (.region [oU 16 (.faddr 0 (.t 3)),
 oU 17 (.load false 1 (.u 16)),
 oT 18 (.bin .eql (.u 17) (.c (.int .i64 2)))])
 (.cond (.t 18)
 (.seq (.region [oM 19 0,
 oU 20 (.mkS 1 6 [.int .i64 0] [(0, 1, (.c (.int .i64 0))), (1, 1, (.c (.int .i64 0))), (2, 1, (.c (.int .i64 3))), (3, 1, (.c (.int .i64 (-1)))), (4, 1, (.c (.int .i64 (-2)))), (5, 1, (.c (.int .i64 (-13))))]),
 oU 21 (.call 39 [(.u 19), (.u 20)]),
 oU 22 (.faddr 22 (.t 3)),
 oN (.store 1 (.u 22) (.u 21))])
 (.seq (.region [oM 23 0,
 oU 24 (.call 21 [(.u 23), (.c (.int .i64 3))]),
 oT 4 (.mov (.u 24))])
 (.block 0 (.loop (.seq (.seq (.region [oM 25 4,
 oT 26 (.bin .gtr (.u 25) (.c (.int .i64 0)))])
 (.cond (.t 26)
 (.skip)
 (.exit 0)))
 (.seq (.block 1 (.regionD [⟨0, [3], false, [], oU 29 (.faddr 23 (.t 3))⟩,
 ⟨1, [29], true, [], oU 30 (.load false 1 (.u 29))⟩,
 ⟨2, [0], false, [], oM 31 0⟩,
 ⟨3, [31], false, [1], oU 32 (.call 57 [(.u 31)])⟩,
 ⟨4, [32], false, [], oU 33 (.mkS 13 1 [.str [], .str [], .int .i64 0, .int .i64 0, .str [], .int .i64 0, .int .i64 0, .int .i64 0, .int .i64 0, .int .i64 0, .int .i64 0, .int .i64 0, .int .i64 0] [(0, 13, (.u 32))])⟩,
 ⟨5, [30, 33], false, [], oU 34 (.app 13 128 (.u 30) (.u 33))⟩,
 ⟨6, [3], false, [], oU 35 (.faddr 23 (.t 3))⟩,
 ⟨7, [35, 34], false, [], oN (.store 1 (.u 35) (.u 34))⟩]))
 (.region [oM 27 4,
 oU 28 (.bin .sub (.u 27) (.c (.int .i64 1))),
 oT 4 (.mov (.u 28))])))))))
 (.skip)))
 (.seq (.seq (.region [oM 36 0,
 oU 37 (.call 21 [(.u 36), (.c (.int .i64 6))]),
 oT 38 (.bin .eql (.u 37) (.c (.int .i64 5)))])
 (.cond (.t 38)
 (.region [oM 39 0,
 oU 40 (.mkS 1 4 [.int .i64 0] [(0, 1, (.c (.int .i64 1300))), (1, 1, (.c (.int .i64 1302))), (2, 1, (.c (.int .i64 1307))), (3, 1, (.c (.int .i64 1005)))]),
 oU 41 (.call 39 [(.u 39), (.u 40)]),
 oU 42 (.faddr 24 (.t 3)),
 oN (.store 1 (.u 42) (.u 41))])
 (.skip)))
 (.seq (.region [oU 43 (.load true 25 (.t 3)),
 oN (.store 25 (.t 2) (.u 43))])
 (.ret))))))
def r30 : List LRes := [.cell true 25 2]
theorem t30 : (Try.f30.body.bind (trCode v30 Try.prog Try.f30.ntmps)) = some c30 ∧ trRes v30 Try.prog Try.f30.results.toList = some r30 := ⟨by kernel_rfl, by kernel_rfl⟩

def v33 : Nat → Bool := fun t => [0, 1, 2, 3, 4, 7, 8, 9, 10, 11, 12, 13, 19, 20, 21, 22, 28, 36, 37, 38, 39, 73].contains t
def c33 : LCode :=
 .seq (.region [oT 4 (.box (.t 0)),
 oT 7 (.box (.t 3)),
 oT 8 (.mov (.c (.fsl 1 0 [])))])
 (.seq (.region [oU 14 (.faddr 0 (.t 4)),
 oU 15 (.load false 1 (.u 14)),
 oU 16 (.lenL (.u 15)),
 oU 17 (.make 1 1 [.bool false] (.u 16) (.u 16)),
 oT 9 (.mov (.u 17))])
 (.seq (.seq (.region [oU 18 (.faddr 0 (.t 4)),
 oT 19 (.load false 1 (.u 18)),
 oT 20 (.lenL (.t 19)),
 oT 21 (.mov (.c (.int .i64 0)))])
 (.block 0 (.loop (.seq (.region [oT 22 (.bin .lss (.t 21) (.t 20))])
 (.seq (.cond (.t 22)
 (.skip)
 (.exit 0))
 (.seq (.block 1 (.seq (.region [oM 23 21,
 oU 24 (.iaS 8 (.t 19) (.t 21)),
 oU 25 (.load true 8 (.u 24)),
 oT 11 (.zero [.int .i64 0, .int .i64 0, .int .i64 0, .str [], .int .i64 0, .int .i64 0, .str [], .int .i64 0]),
 oT 10 (.mov (.u 23)),
 oN (.store 8 (.t 11) (.u 25))])
 (.seq (.seq (.region [oU 26 (.faddr 5 (.t 11)),
 oU 27 (.load false 1 (.u 26)),
 oT 28 (.bin .eql (.u 27) (.c (.int .i64 0)))])
 (.cond (.t 28)
 (.seq (.region [oM 29 9,
 oM 30 10,
 oU 31 (.faddr 0 (.t 11)),
 oU 32 (.load true 5 (.u 31)),
 oU 33 (.load true 25 (.t 7)),
 oU 34 (.call 59 [(.u 32), (.u 33)]),
 oU 35 (.iaS 1 (.u 29) (.u 30)),
 oN (.store 1 (.u 35) (.u 34))])
 (.exit 1))
 (.skip)))
 (.seq (.region [oT 36 (.mov (.t 1)),
 oT 37 (.lenL (.t 36)),
 oT 38 (.mov (.c (.int .i64 0)))])
 (.block 2 (.loop (.seq (.region [oT 39 (.bin .lss (.t 38) (.t 37))])
 (.seq (.cond (.t 39)
 (.skip)
 (.exit 2))
 (.seq (.block 3 (.seq (.region [oM 40 38,
 oU 41 (.iaS 8 (.t 36) (.t 38)),
 oU 42 (.load true 8 (.u 41)),
 oT 13 (.zero [.int .i64 0, .int .i64 0, .int .u64 0, .fsl 1 0 [], .int .i64 0, .str [], .int .i64 0, .str []]),
 oT 12 (.mov (.u 40)),
 oN (.store 8 (.t 13) (.u 42))])
 (.seq (.region [oM 43 12,
 oM 44 2,
 oU 45 (.lenL (.u 44)),
 oU 46 (.bin .lss (.u 43) (.u 45)),
 oU 47 (.mov (.u 46)),
 ⟨some 48, false, some ((.u 47), true), .mov (.t 2)⟩,
 ⟨some 49, false, some ((.u 47), true), .mov (.t 12)⟩,
 ⟨some 50, false, some ((.u 47), true), .iaS 1 (.u 48) (.u 49)⟩,
 ⟨some 51, false, some ((.u 47), true), .load false 1 (.u 50)⟩,
 oU 52 (.pick (.u 47) (.u 51) (.c (.bool false))),
 oU 53 (.mov (.u 52)),
 ⟨some 54, false, some ((.u 53), true), .faddr 4 (.t 13)⟩,
 ⟨some 55, false, some ((.u 53), true), .load false 1 (.u 54)⟩,
 ⟨some 56, false, some ((.u 53), true), .faddr 5 (.t 11)⟩,
 ⟨some 57, false, some ((.u 53), true), .load false 1 (.u 56)⟩,
 ⟨some 58, false, some ((.u 53), true), .bin .eql (.u 55) (.u 57)⟩,
 oU 59 (.pick (.u 53) (.u 58) (.c (.bool false))),
 oU 60 (.mov (.u 59)),
 ⟨some 61, false, some ((.u 60), true), .faddr 5 (.t 13)⟩,
 ⟨some 62, false, some ((.u 60), true), .load false 1 (.u 61)⟩,
 ⟨some 63, false, some ((.u 60), true), .faddr 6 (.t 11)⟩,
 ⟨some 64, false, some ((.u 60), true), .load false 1 (.u 63)⟩,
 ⟨some 65, false, some ((.u 60), true), .bin .eql (.u 62) (.u 64)⟩,
 oU 66 (.pick (.u 60) (.u 65) (.c (.bool false))),
 oU 67 (.mov (.u 66)),
 ⟨some 68, false, some ((.u 67), true), .faddr 6 (.t 13)⟩,
 ⟨some 69, false, some ((.u 67), true), .load false 1 (.u 68)⟩,
 ⟨some 70, false, some ((.u 67), true), .faddr 7 (.t 11)⟩,
 ⟨some 71, false, some ((.u 67), true), .load false 1 (.u 70)⟩,
 ⟨some 72, false, some ((.u 67), true), .bin .eql (.u 69) (.u 71)⟩,
 oT 73 (.pick (.u 67) (.u 72) (.c (.bool false)))])
 (.cond (.t 73)
 (.region [oM 74 9,
 oM 75 10,
 oU 76 (.iaS 1 (.u 74) (.u 75)),
 oN (.store 1 (.u 76) (.c (.bool true)))])
 (.skip)))))
 (.region [oU 77 (.bin .add (.t 38) (.c (.int .i64 1))),
 oT 38 (.mov (.u 77))]))))))))))
 (.region [oU 78 (.bin .add (.t 21) (.c (.int .i64 1))),
 oT 21 (.mov (.u 78))])))))))
 (.seq (.region [oM 79 9,
 oT 8 (.mov (.u 79))])
 (.ret))))
def r33 : List LRes := [.slot 8]
theorem t33 : (Try.f33.body.bind (trCode v33 Try.prog Try.f33.ntmps)) = some c33 ∧ trRes v33 Try.prog Try.f33.results.toList = some r33 := ⟨by kernel_rfl, by kernel_rfl⟩

def v35 : Nat → Bool := fun t => [0, 1, 4, 5, 6, 17, 28, 38, 53, 67, 77, 92].contains t
def c35 : LCode :=
 .seq (.region [oT 4 (.zero [.int .i64 0, .int .i64 0, .int .i64 0, .str [], .int .i64 0])])
 (.seq (.region [oM 7 0,
 oU 8 (.call 22 [(.u 7), (.c (.int .i64 1)), (.c (.int .i64 8))]),
 oM 9 0,
 oU 10 (.call 22 [(.u 9), (.c (.int .i64 1)), (.c (.int .i64 8))]),
 oM 11 0,
 oU 12 (.mkS 1 9 [.int .i64 0] [(0, 1, (.c (.int .i64 0))), (1, 1, (.c (.int .i64 0))), (2, 1, (.c (.int .i64 1))), (3, 1, (.c (.int .i64 2))), (4, 1, (.c (.int .i64 5))), (5, 1, (.c (.int .i64 7))), (6, 1, (.c (.int .i64 1000))), (7, 1, (.c (.int .i64 4294967295))), (8, 1, (.c (.int .i64 (-1))))]),
 oU 13 (.call 39 [(.u 11), (.u 12)]),
 oU 14 (.build [.int .i64 0, .int .i64 0, .int .i64 0, .str [], .int .i64 0] [(0, 1, (.u 8)), (1, 1, (.u 10)), (2, 1, (.u 13))]),
 oT 5 (.zero [.int .i64 0, .int .i64 0, .int .i64 0, .str [], .int .i64 0]),
 oN (.store 5 (.t 5) (.u 14))])
 (.seq (.region [oM 15 0,
 oU 16 (.call 21 [(.u 15), (.c (.int .i64 8))]),
 oT 6 (.mov (.u 16))])
 (.seq (.block 0 (.seq (.region [oM 18 6,
 oU 19 (.bin .eql (.u 18) (.c (.int .i64 0))),
 oT 17 (.mov (.u 19))])
 (.cond (.t 17)
 (.region [oM 20 0,
 oU 21 (.call 22 [(.u 20), (.c (.int .i64 13)), (.c (.int .i64 14))]),
 oM 22 0,
 oU 23 (.call 22 [(.u 22), (.c (.int .i64 1)), (.c (.int .i64 2))]),
 oM 24 0,
 oU 25 (.mkS 1 5 [.str []] [(0, 1, (.c (.str [47, 97]))), (1, 1, (.c (.str [47, 105, 110, 105, 116]))), (2, 1, (.c (.str [97]))), (3, 1, (.c (.str [105, 110, 105, 116]))), (4, 1, (.c (.str [120, 32, 121])))]),
 oU 26 (.call 38 [(.u 24), (.u 25)]),
 oU 27 (.build [.int .i64 0, .int .i64 0, .int .i64 0, .str [], .int .i64 0] [(0, 1, (.u 21)), (1, 1, (.u 23)), (3, 1, (.u 26))]),
 oN (.store 5 (.t 5) (.u 27))])
 (.seq (.region [oM 29 6,
 oU 30 (.bin .eql (.u 29) (.c (.int .i64 1))),
 oT 28 (.mov (.u 30))])
 (.cond (.t 28)
 (.region [oM 31 0,
 oU 32 (.call 22 [(.u 31), (.c (.int .i64 3)), (.c (.int .i64 7))]),
 oM 33 0,
 oU 34 (.call 22 [(.u 33), (.c (.int .i64 1)), (.c (.int .i64 2))]),
 oM 35 0,
 oU 36 (.call 22 [(.u 35), (.c (.int .i64 3)), (.c (.int .i64 7))]),
 oU 37 (.build [.int .i64 0, .int .i64 0, .int .i64 0, .str [], .int .i64 0] [(0, 1, (.u 32)), (1, 1, (.u 34)), (4, 1, (.u 36))]),
 oN (.store 5 (.t 5) (.u 37))])
 (.seq (.region [oM 39 6,
 oU 40 (.bin .eql (.u 39) (.c (.int .i64 2))),
 oU 41 (.mov (.u 40)),
 ⟨some 42, false, some ((.u 41), true), .mov (.t 1)⟩,
 ⟨some 43, false, some ((.u 41), true), .bin .eql (.u 42) (.c (.int .i64 3))⟩,
 oU 44 (.pick (.u 41) (.u 43) (.c (.bool false))),
 oT 38 (.mov (.u 44))])
 (.cond (.t 38)
 (.region [oM 45 0,
 oU 46 (.call 22 [(.u 45), (.c (.int .i64 19)), (.c (.int .i64 20))]),
 oM 47 0,
 oU 48 (.call 22 [(.u 47), (.c (.int .i64 1)), (.c (.int .i64 2))]),
 oM 49 0,
 oU 50 (.mkS 1 5 [.int .i64 0] [(0, 1, (.c (.int .i64 3))), (1, 1, (.c (.int .i64 4))), (2, 1, (.c (.int .i64 5))), (3, 1, (.c (.int .i64 19))), (4, 1, (.c (.int .i64 20)))]),
 oU 51 (.call 39 [(.u 49), (.u 50)]),
 oU 52 (.build [.int .i64 0, .int .i64 0, .int .i64 0, .str [], .int .i64 0] [(0, 1, (.u 46)), (1, 1, (.u 48)), (4, 1, (.u 51))]),
 oN (.store 5 (.t 5) (.u 52))])
 (.seq (.region [oM 54 6,
 oU 55 (.bin .lss (.u 54) (.c (.int .i64 5))),
 oU 56 (.mov (.u 55)),
 ⟨some 57, false, some ((.u 56), true), .mov (.t 1)⟩,
 ⟨some 58, false, some ((.u 56), true), .bin .eql (.u 57) (.c (.int .i64 3))⟩,
 oU 59 (.pick (.u 56) (.u 58) (.c (.bool false))),
 oT 53 (.mov (.u 59))])
 (.cond (.t 53)
 (.region [oM 60 0,
 oU 61 (.call 22 [(.u 60), (.c (.int .i64 15)), (.c (.int .i64 21))]),
 oM 62 0,
 oU 63 (.mkS 1 8 [.int .i64 0] [(0, 1, (.c (.int .i64 0))), (1, 1, (.c (.int .i64 0))), (2, 1, (.c (.int .i64 1))), (3, 1, (.c (.int .i64 1))), (4, 1, (.c (.int .i64 2))), (5, 1, (.c (.int .i64 5))), (6, 1, (.c (.int .i64 (-2)))), (7, 1, (.c (.int .i64 (-13))))]),
 oU 64 (.call 39 [(.u 62), (.u 63)]),
 oU 65 (.faddr 0 (.t 5)),
 oN (.store 1 (.u 65) (.u 61)),
 oU 66 (.faddr 2 (.t 5)),
 oN (.store 1 (.u 66) (.u 64))])
 (.seq (.region [oM 68 6,
 oU 69 (.bin .lss (.u 68) (.c (.int .i64 5))),
 oU 70 (.mov (.u 69)),
 ⟨some 71, false, some ((.u 70), true), .mov (.t 1)⟩,
 ⟨some 72, false, some ((.u 70), true), .bin .eql (.u 71) (.c (.int .i64 2))⟩,
 oU 73 (.pick (.u 70) (.u 72) (.c (.bool false))),
 oT 67 (.mov (.u 73))])
 (.cond (.t 67)
 (.region [oM 74 0,
 oU 75 (.call 22 [(.u 74), (.c (.int .i64 9)), (.c (.int .i64 12))]),
 oU 76 (.faddr 0 (.t 5)),
 oN (.store 1 (.u 76) (.u 75))])
 (.seq (.region [oM 78 6,
 oU 79 (.bin .lss (.u 78) (.c (.int .i64 6))),
 oU 80 (.mov (.u 79)),
 ⟨some 81, false, some ((.u 80), true), .mov (.t 1)⟩,
 ⟨some 82, false, some ((.u 80), true), .bin .eql (.u 81) (.c (.int .i64 5))⟩,
 oU 83 (.pick (.u 80) (.u 82) (.c (.bool false))),
 oT 77 (.mov (.u 83))])
 (.cond (.t 77)
 (.region [oM 84 0,
 oU 85 (.call 22 [(.u 84), (.c (.int .i64 1)), (.c (.int .i64 6))]),
 oM 86 0,
 oU 87 (.mkS 1 7 [.int .i64 0] [(0, 1, (.c (.int .i64 1300))), (1, 1, (.c (.int .i64 1302))), (2, 1, (.c (.int .i64 1307))), (3, 1, (.c (.int .i64 1309))), (4, 1, (.c (.int .i64 1005))), (5, 1, (.c (.int .i64 1320))), (6, 1, (.c (.int .i64 1306)))]),
 oU 88 (.call 39 [(.u 86), (.u 87)]),
 oU 89 (.build [.int .i64 0, .int .i64 0, .int .i64 0, .str [], .int .i64 0] [(0, 1, (.c (.int .i64 22))), (1, 1, (.u 85)), (2, 1, (.u 88))]),
 oN (.store 5 (.t 5) (.u 89))])
 (.skip))))))))))))))
 (.seq (.seq (.region [oM 90 0,
 oU 91 (.call 21 [(.u 90), (.c (.int .i64 24))]),
 oT 92 (.bin .eql (.u 91) (.c (.int .i64 23)))])
 (.cond (.t 92)
 (.region [oM 93 0,
 oU 94 (.call 22 [(.u 93), (.c (.int .i64 0)), (.c (.int .i64 24))]),
 oM 95 0,
 oU 96 (.call 22 [(.u 95), (.c (.int .i64 0)), (.c (.int .i64 9))]),
 oU 97 (.faddr 0 (.t 5)),
 oN (.store 1 (.u 97) (.u 94)),
 oU 98 (.faddr 1 (.t 5)),
 oN (.store 1 (.u 98) (.u 96))])
 (.skip)))
 (.seq (.region [oU 99 (.load true 5 (.t 5)),
 oN (.store 5 (.t 4) (.u 99))])
 (.ret))))))
def r35 : List LRes := [.cell true 5 4]
theorem t35 : (Try.f35.body.bind (trCode v35 Try.prog Try.f35.ntmps)) = some c35 ∧ trRes v35 Try.prog Try.f35.results.toList = some r35 := ⟨by kernel_rfl, by kernel_rfl⟩

def v36 : Nat → Bool := fun t => [0, 1, 2, 3, 4, 7, 8, 9, 10, 11, 12, 13, 18, 28, 41].contains t
def c36 : LCode :=
 .seq (.region [oT 4 (.box (.t 0)),
 oT 7 (.box (.t 3)),
 oT 8 (.mov (.c (.fsl 1 0 [])))])
 (.seq (.region [oT 9 (.mov (.c (.fsl 1 0 [])))])
 (.seq (.seq (.region [oT 10 (.mov (.c (.int .i64 0)))])
 (.block 0 (.loop (.seq (.seq (.region [oM 14 10,
 oU 15 (.faddr 0 (.t 4)),
 oU 16 (.load false 1 (.u 15)),
 oU 17 (.lenL (.u 16)),
 oT 18 (.bin .lss (.u 14) (.u 17))])
 (.cond (.t 18)
 (.skip)
 (.exit 0)))
 (.seq (.block 1 (.seq (.region [oU 21 (.faddr 0 (.t 4)),
 oU 22 (.load false 1 (.u 21)),
 oM 23 10,
 oU 24 (.iaS 8 (.u 22) (.u 23)),
 oU 25 (.load true 8 (.u 24)),
 oT 11 (.zero [.int .i64 0, .int .i64 0, .int .i64 0, .str [], .int .i64 0, .int .i64 0, .str [], .int .i64 0]),
 oN (.store 8 (.t 11) (.u 25))])
 (.seq (.region [oT 12 (.mov (.c (.bool false)))])
 (.seq (.seq (.region [oU 26 (.faddr 5 (.t 11)),
 oU 27 (.load false 1 (.u 26)),
 oT 28 (.bin .eql (.u 27) (.c (.int .i64 0)))])
 (.cond (.t 28)
 (.region [oU 29 (.faddr 0 (.t 11)),
 oU 30 (.load true 5 (.u 29)),
 oU 31 (.load true 25 (.t 7)),
 oU 32 (.call 37 [(.u 30), (.u 31)]),
 oT 12 (.mov (.u 32))])
 (.skip)))
 (.seq (.seq (.region [oT 13 (.mov (.c (.int .i64 0)))])
 (.block 2 (.loop (.seq (.seq (.region [oM 33 13,
 oM 34 1,
 oU 35 (.lenL (.u 34)),
 oU 36 (.bin .lss (.u 33) (.u 35)),
 oU 37 (.mov (.u 36)),
 ⟨some 38, false, some ((.u 37), true), .faddr 5 (.t 11)⟩,
 ⟨some 39, false, some ((.u 37), true), .load false 1 (.u 38)⟩,
 ⟨some 40, false, some ((.u 37), true), .bin .neq (.u 39) (.c (.int .i64 0))⟩,
 oT 41 (.pick (.u 37) (.u 40) (.c (.bool false)))])
 (.cond (.t 41)
 (.skip)
 (.exit 2)))
 (.seq (.block 3 (.regionD [⟨0, [12], false, [], oM 44 12⟩,
 ⟨1, [44], false, [], oU 45 (.mov (.u 44))⟩,
 ⟨2, [13, 45], false, [], ⟨some 46, false, some ((.u 45), false), .mov (.t 13)⟩⟩,
 ⟨3, [2, 45], false, [], ⟨some 47, false, some ((.u 45), false), .mov (.t 2)⟩⟩,
 ⟨4, [47, 45], false, [], ⟨some 48, false, some ((.u 45), false), .lenL (.u 47)⟩⟩,
 ⟨5, [46, 48, 45], false, [], ⟨some 49, false, some ((.u 45), false), .bin .lss (.u 46) (.u 48)⟩⟩,
 ⟨6, [49, 45], false, [], ⟨some 50, false, some ((.u 45), false), .mov (.u 49)⟩⟩,
 ⟨7, [2, 50], false, [], ⟨some 51, false, some ((.u 50), true), .mov (.t 2)⟩⟩,
 ⟨8, [13, 50], false, [], ⟨some 52, false, some ((.u 50), true), .mov (.t 13)⟩⟩,
 ⟨9, [51, 52, 50], false, [], ⟨some 53, false, some ((.u 50), true), .iaS 1 (.u 51) (.u 52)⟩⟩,
 ⟨10, [53, 50], true, [], ⟨some 54, false, some ((.u 50), true), .load false 1 (.u 53)⟩⟩,
 ⟨11, [50, 54, 45], false, [], ⟨some 55, false, some ((.u 45), false), .pick (.u 50) (.u 54) (.c (.bool false))⟩⟩,
 ⟨12, [55, 45], false, [], ⟨some 56, false, some ((.u 45), false), .mov (.u 55)⟩⟩,
 ⟨13, [1, 56], false, [], ⟨some 57, false, some ((.u 56), true), .mov (.t 1)⟩⟩,
 ⟨14, [13, 56], false, [], ⟨some 58, false, some ((.u 56), true), .mov (.t 13)⟩⟩,
 ⟨15, [57, 58, 56], false, [], ⟨some 59, false, some ((.u 56), true), .iaS 8 (.u 57) (.u 58)⟩⟩,
 ⟨16, [59, 56], false, [], ⟨some 60, false, some ((.u 56), true), .faddr 4 (.u 59)⟩⟩,
 ⟨17, [60, 56], true, [], ⟨some 61, false, some ((.u 56), true), .load false 1 (.u 60)⟩⟩,
 ⟨18, [11, 56], false, [], ⟨some 62, false, some ((.u 56), true), .faddr 5 (.t 11)⟩⟩,
 ⟨19, [62, 56], true, [], ⟨some 63, false, some ((.u 56), true), .load false 1 (.u 62)⟩⟩,
 ⟨20, [61, 63, 56], false, [], ⟨some 64, false, some ((.u 56), true), .bin .eql (.u 61) (.u 63)⟩⟩,
 ⟨21, [56, 64, 45], false, [], ⟨some 65, false, some ((.u 45), false), .pick (.u 56) (.u 64) (.c (.bool false))⟩⟩,
 ⟨22, [65, 45], false, [], ⟨some 66, false, some ((.u 45), false), .mov (.u 65)⟩⟩,
 ⟨23, [1, 66], false, [], ⟨some 67, false, some ((.u 66), true), .mov (.t 1)⟩⟩,
 ⟨24, [13, 66], false, [], ⟨some 68, false, some ((.u 66), true), .mov (.t 13)⟩⟩,
 ⟨25, [67, 68, 66], false, [], ⟨some 69, false, some ((.u 66), true), .iaS 8 (.u 67) (.u 68)⟩⟩,
 ⟨26, [69, 66], false, [], ⟨some 70, false, some ((.u 66), true), .faddr 5 (.u 69)⟩⟩,
 ⟨27, [70, 66], true, [], ⟨some 71, false, some ((.u 66), true), .load false 1 (.u 70)⟩⟩,
 ⟨28, [11, 66], false, [], ⟨some 72, false, some ((.u 66), true), .faddr 6 (.t 11)⟩⟩,
 ⟨29, [72, 66], true, [], ⟨some 73, false, some ((.u 66), true), .load false 1 (.u 72)⟩⟩,
 ⟨30, [71, 73, 66], false, [], ⟨some 74, false, some ((.u 66), true), .bin .eql (.u 71) (.u 73)⟩⟩,
 ⟨31, [66, 74, 45], false, [], ⟨some 75, false, some ((.u 45), false), .pick (.u 66) (.u 74) (.c (.bool false))⟩⟩,
 ⟨32, [75, 45], false, [], ⟨some 76, false, some ((.u 45), false), .mov (.u 75)⟩⟩,
 ⟨33, [1, 76], false, [], ⟨some 77, false, some ((.u 76), true), .mov (.t 1)⟩⟩,
 ⟨34, [13, 76], false, [], ⟨some 78, false, some ((.u 76), true), .mov (.t 13)⟩⟩,
 ⟨35, [77, 78, 76], false, [], ⟨some 79, false, some ((.u 76), true), .iaS 8 (.u 77) (.u 78)⟩⟩,
 ⟨36, [79, 76], false, [], ⟨some 80, false, some ((.u 76), true), .faddr 6 (.u 79)⟩⟩,
 ⟨37, [80, 76], true, [], ⟨some 81, false, some ((.u 76), true), .load false 1 (.u 80)⟩⟩,
 ⟨38, [11, 76], false, [], ⟨some 82, false, some ((.u 76), true), .faddr 7 (.t 11)⟩⟩,
 ⟨39, [82, 76], true, [], ⟨some 83, false, some ((.u 76), true), .load false 1 (.u 82)⟩⟩,
 ⟨40, [81, 83, 76], false, [], ⟨some 84, false, some ((.u 76), true), .bin .eql (.u 81) (.u 83)⟩⟩,
 ⟨41, [76, 84, 45], false, [], ⟨some 85, false, some ((.u 45), false), .pick (.u 76) (.u 84) (.c (.bool false))⟩⟩,
 ⟨42, [45, 85], false, [], oU 86 (.pick (.u 45) (.c (.bool true)) (.u 85))⟩,
 ⟨43, [86], false, [], oT 12 (.mov (.u 86))⟩]))
 (.region [oM 42 13,
 oU 43 (.bin .add (.u 42) (.c (.int .i64 1))),
 oT 13 (.mov (.u 43))]))))))
 (.region [oM 87 9,
 oM 88 12,
 oU 89 (.mkS 1 1 [.bool false] [(0, 1, (.u 88))]),
 oU 90 (.app 1 1 (.u 87) (.u 89)),
 oT 9 (.mov (.u 90))]))))))
 (.region [oM 19 10,
 oU 20 (.bin .add (.u 19) (.c (.int .i64 1))),
 oT 10 (.mov (.u 20))]))))))
 (.seq (.region [oM 91 9,
 oT 8 (.mov (.u 91))])
 (.ret))))
def r36 : List LRes := [.slot 8]
theorem t36 : (Try.f36.body.bind (trCode v36 Try.prog Try.f36.ntmps)) = some c36 ∧ trRes v36 Try.prog Try.f36.results.toList = some r36 := ⟨by kernel_rfl, by kernel_rfl⟩

def v37 : Nat → Bool := fun t => [0, 1, 2, 3, 4, 5, 27, 37, 46, 66].contains t
def c37 : LCode :=
 .seq (.region [oT 2 (.box (.t 0)),
 oT 3 (.box (.t 1)),
 oT 4 (.mov (.c (.bool false)))])
 (.seq (.seq (.region [oU 6 (.load true 5 (.t 2)),
 oU 7 (.call 61 [(.u 6)]),
 oU 8 (.un .not (.u 7)),
 oU 9 (.mov (.u 8)),
 ⟨some 10, false, some ((.u 9), false), .faddr 0 (.t 2)⟩,
 ⟨some 11, false, some ((.u 9), false), .load false 1 (.u 10)⟩,
 ⟨some 12, false, some ((.u 9), false), .load true 25 (.t 3)⟩,
 ⟨some 13, false, some ((.u 9), false), .call 62 [(.u 11), (.u 12)]⟩,
 ⟨some 14, false, some ((.u 9), false), .un .not (.u 13)⟩,
 oU 15 (.pick (.u 9) (.c (.bool true)) (.u 14)),
 oU 16 (.mov (.u 15)),
 ⟨some 17, false, some ((.u 16), false), .faddr 4 (.t 2)⟩,
 ⟨some 18, false, some ((.u 16), false), .load false 1 (.u 17)⟩,
 ⟨some 19, false, some ((.u 16), false), .bin .neq (.u 18) (.c (.int .i64 0))⟩,
 ⟨some 20, false, some ((.u 16), false), .mov (.u 19)⟩,
 ⟨some 21, false, some ((.u 20), true), .faddr 4 (.t 2)⟩,
 ⟨some 22, false, some ((.u 20), true), .load false 1 (.u 21)⟩,
 ⟨some 23, false, some ((.u 20), true), .load true 25 (.t 3)⟩,
 ⟨some 24, false, some ((.u 20), true), .call 62 [(.u 22), (.u 23)]⟩,
 ⟨some 25, false, some ((.u 20), true), .un .not (.u 24)⟩,
 ⟨some 26, false, some ((.u 16), false), .pick (.u 20) (.u 25) (.c (.bool false))⟩,
 oT 27 (.pick (.u 16) (.c (.bool true)) (.u 26))])
 (.cond (.t 27)
 (.seq (.region [oT 4 (.mov (.c (.bool false)))])
 (.ret))
 (.skip)))
 (.seq (.seq (.region [oU 28 (.faddr 0 (.t 2)),
 oU 29 (.load false 1 (.u 28)),
 oU 30 (.call 63 [(.u 29)]),
 oU 31 (.un .not (.u 30)),
 oU 32 (.mov (.u 31)),
 ⟨some 33, false, some ((.u 32), true), .faddr 4 (.t 2)⟩,
 ⟨some 34, false, some ((.u 32), true), .load false 1 (.u 33)⟩,
 ⟨some 35, false, some ((.u 32), true), .call 63 [(.u 34)]⟩,
 ⟨some 36, false, some ((.u 32), true), .un .not (.u 35)⟩,
 oT 37 (.pick (.u 32) (.u 36) (.c (.bool false)))])
 (.cond (.t 37)
 (.seq (.region [oU 38 (.load true 5 (.t 2)),
 oU 39 (.load true 25 (.t 3)),
 oU 40 (.build [.str [], .str [], .int .i64 0, .int .i64 0, .str [], .int .i64 0, .int .i64 0, .int .i64 0, .int .i64 0, .int .i64 0, .int .i64 0, .int .i64 0, .int .i64 0] []),
 oU 41 (.call 64 [(.u 38), (.u 39), (.u 40)]),
 oT 4 (.mov (.u 41))])
 (.ret))
 (.skip)))
 (.seq (.seq (.region [oT 5 (.mov (.c (.int .i64 0)))])
 (.block 0 (.loop (.seq (.seq (.region [oM 42 5,
 oU 43 (.faddr 23 (.t 3)),
 oU 44 (.load false 1 (.u 43)),
 oU 45 (.lenL (.u 44)),
 oT 46 (.bin .lss (.u 42) (.u 45))])
 (.cond (.t 46)
 (.skip)
 (.exit 0)))
 (.seq (.block 1 (.seq (.regionD [⟨0, [3], false, [], oU 49 (.faddr 23 (.t 3))⟩,
 ⟨1, [49], true, [], oU 50 (.load false 1 (.u 49))⟩,
 ⟨2, [5], false, [], oM 51 5⟩,
 ⟨3, [50, 51], false, [], oU 52 (.iaS 13 (.u 50) (.u 51))⟩,
 ⟨4, [52], false, [], oU 53 (.faddr 5 (.u 52))⟩,
 ⟨5, [53], true, [], oU 54 (.load true 2 (.u 53))⟩,
 ⟨6, [], false, [], oU 55 (.build [.int .i64 0, .int .i64 0] [])⟩,
 ⟨7, [54, 55], false, [], oU 56 (.eqS true 2 [(0, 1), (1, 1)] (.u 54) (.u 55))⟩,
 ⟨8, [56], false, [], oU 57 (.mov (.u 56))⟩,
 ⟨9, [2, 57], true, [], ⟨some 58, false, some ((.u 57), true), .load true 5 (.t 2)⟩⟩,
 ⟨10, [3, 57], true, [], ⟨some 59, false, some ((.u 57), true), .load true 25 (.t 3)⟩⟩,
 ⟨11, [3, 57], false, [], ⟨some 60, false, some ((.u 57), true), .faddr 23 (.t 3)⟩⟩,
 ⟨12, [60, 57], true, [], ⟨some 61, false, some ((.u 57), true), .load false 1 (.u 60)⟩⟩,
 ⟨13, [5, 57], false, [], ⟨some 62, false, some ((.u 57), true), .mov (.t 5)⟩⟩,
 ⟨14, [61, 62, 57], false, [], ⟨some 63, false, some ((.u 57), true), .iaS 13 (.u 61) (.u 62)⟩⟩,
 ⟨15, [63, 57], true, [], ⟨some 64, false, some ((.u 57), true), .load true 13 (.u 63)⟩⟩,
 ⟨16, [58, 59, 64, 57], false, [], ⟨some 65, false, some ((.u 57), true), .call 64 [(.u 58), (.u 59), (.u 64)]⟩⟩,
 ⟨17, [57, 65], false, [], oT 66 (.pick (.u 57) (.u 65) (.c (.bool false)))⟩])
 (.cond (.t 66)
 (.seq (.region [oT 4 (.mov (.c (.bool true)))])
 (.ret))
 (.skip))))
 (.region [oM 47 5,
 oU 48 (.bin .add (.u 47) (.c (.int .i64 1))),
 oT 5 (.mov (.u 48))]))))))
 (.seq (.region [oT 4 (.mov (.c (.bool false)))])
 (.ret)))))
def r37 : List LRes := [.slot 4]
theorem t37 : (Try.f37.body.bind (trCode v37 Try.prog Try.f37.ntmps)) = some c37 ∧ trRes v37 Try.prog Try.f37.results.toList = some r37 := ⟨by kernel_rfl, by kernel_rfl⟩

def v55 : Nat → Bool := fun t => [0, 2, 3].contains t
def c55 : LCode :=
 .seq (.region [oT 2 (.zero [.int .i64 0, .int .i64 0, .int .i64 0, .int .i64 0, .int .i64 0, .int .i64 0, .int .i64 0, .int .i64 0, .int .i64 0, .int .i64 0, .str [], .str [], .fsl 1 0 [], .bool false])])
 (.seq (.region [oU 4 (.mkS 1 6 [.int .i64 0] [(0, 1, (.c (.int .i64 0))), (1, 1, (.c (.int .i64 0))), (2, 1, (.c (.int .i64 5))), (3, 1, (.c (.int .i64 7))), (4, 1, (.c (.int .i64 1000))), (5, 1, (.c (.int .i64 4294967295)))]),
 oT 3 (.mov (.u 4))])
 (.seq (.region [oM 5 0,
 oU 6 (.call 22 [(.u 5), (.c (.int .i64 1)), (.c (.int .i64 4))]),
 oM 7 0,
 oU 8 (.call 21 [(.u 7), (.c (.int .i64 3))]),
 oM 9 0,
 oM 10 3,
 oU 11 (.call 39 [(.u 9), (.u 10)]),
 oM 12 0,
 oM 13 3,
 oU 14 (.call 39 [(.u 12), (.u 13)]),
 oM 15 0,
 oM 16 3,
 oU 17 (.call 39 [(.u 15), (.u 16)]),
 oM 18 0,
 oM 19 3,
 oU 20 (.call 39 [(.u 18), (.u 19)]),
 oM 21 0,
 oM 22 3,
 oU 23 (.call 39 [(.u 21), (.u 22)]),
 oM 24 0,
 oM 25 3,
 oU 26 (.call 39 [(.u 24), (.u 25)]),
 oM 27 0,
 oU 28 (.mkS 1 3 [.str []] [(0, 1, (.c (.str [105, 110, 105, 116]))), (1, 1, (.c (.str [97]))), (2, 1, (.c (.str [98])))]),
 oU 29 (.call 38 [(.u 27), (.u 28)]),
 oM 30 0,
 oU 31 (.mkS 1 3 [.str []] [(0, 1, (.c (.str [47, 105, 110, 105, 116]))), (1, 1, (.c (.str [47, 97]))), (2, 1, (.c (.str [])))]),
 oU 32 (.call 38 [(.u 30), (.u 31)]),
 oM 33 0,
 oU 34 (.call 21 [(.u 33), (.c (.int .i64 8))]),
 oU 35 (.bin .gtr (.u 34) (.c (.int .i64 0))),
 oU 36 (.build [.int .i64 0, .int .i64 0, .int .i64 0, .int .i64 0, .int .i64 0, .int .i64 0, .int .i64 0, .int .i64 0, .int .i64 0, .int .i64 0, .str [], .str [], .fsl 1 0 [], .bool false] [(0, 1, (.u 6)), (1, 1, (.u 8)), (2, 1, (.u 11)), (3, 1, (.u 14)), (4, 1, (.u 17)), (5, 1, (.u 20)), (6, 1, (.u 23)), (7, 1, (.u 26)), (10, 1, (.u 29)), (11, 1, (.u 32)), (13, 1, (.u 35))]),
 oN (.store 14 (.t 2) (.u 36))])
 (.ret)))
def r55 : List LRes := [.cell true 14 2]
theorem t55 : (Try.f55.body.bind (trCode v55 Try.prog Try.f55.ntmps)) = some c55 ∧ trRes v55 Try.prog Try.f55.results.toList = some r55 := ⟨by kernel_rfl, by kernel_rfl⟩

def v56 : Nat → Bool := fun t => [0, 2, 3, 4, 5, 6, 7, 8, 9, 10, 25, 35, 36, 46, 53, 60, 71, 86, 99].contains t
def c56 : LCode :=
 .seq (.region [oT 2 (.zero [.int .i64 0, .int .i64 0, .int .i64 0, .int .i64 0, .int .i64 0, .fsl 1 0 [], .fsl 1 0 []])])
 (.seq (.region [oM 11 0,
 oU 12 (.mkS 1 26 [.int .i64 0] [(0, 1, (.c (.int .i64 0))), (1, 1, (.c (.int .i64 1))), (2, 1, (.c (.int .i64 2))), (3, 1, (.c (.int .i64 3))), (4, 1, (.c (.int .i64 4))), (5, 1, (.c (.int .i64 5))), (6, 1, (.c (.int .i64 6))), (7, 1, (.c (.int .i64 6))), (8, 1, (.c (.int .i64 6))), (9, 1, (.c (.int .i64 7))), (10, 1, (.c (.int .i64 8))), (11, 1, (.c (.int .i64 9))), (12, 1, (.c (.int .i64 10))), (13, 1, (.c (.int .i64 11))), (14, 1, (.c (.int .i64 11))), (15, 1, (.c (.int .i64 12))), (16, 1, (.c (.int .i64 13))), (17, 1, (.c (.int .i64 13))), (18, 1, (.c (.int .i64 14))), (19, 1, (.c (.int .i64 15))), (20, 1, (.c (.int .i64 16))), (21, 1, (.c (.int .i64 17))), (22, 1, (.c (.int .i64 18))), (23, 1, (.c (.int .i64 19))), (24, 1, (.c (.int .i64 20))), (25, 1, (.c (.int .i64 21)))]),
 oU 13 (.call 39 [(.u 11), (.u 12)]),
 oU 14 (.build [.int .i64 0, .int .i64 0, .int .i64 0, .int .i64 0, .int .i64 0, .fsl 1 0 [], .fsl 1 0 []] [(0, 1, (.u 13))]),
 oT 3 (.zero [.int .i64 0, .int .i64 0, .int .i64 0, .int .i64 0, .int .i64 0, .fsl 1 0 [], .fsl 1 0 []]),
 oN (.store 7 (.t 3) (.u 14))])
 (.seq (.region [oU 16 (.faddr 0 (.t 3)),
 oU 17 (.load false 1 (.u 16)),
 oU 18 (.call 75 [(.u 17)]),
 oU 15 (.mov (.u 18)),
 oU 19 (.ext (.u 15) 0),
 oU 20 (.ext (.u 15) 1),
 oU 21 (.ext (.u 15) 2),
 oU 22 (.ext (.u 15) 3),
 oT 4 (.mov (.u 19)),
 oT 5 (.mov (.u 20)),
 oT 6 (.mov (.u 21)),
 oT 7 (.mov (.u 22))])
 (.seq (.seq (.region [oT 8 (.mov (.c (.int .i64 0)))])
 (.block 0 (.loop (.seq (.seq (.region [oM 23 8,
 oM 24 4,
 oT 25 (.bin .lss (.u 23) (.u 24))])
 (.cond (.t 25)
 (.skip)
 (.exit 0)))
 (.seq (.block 1 (.region [oM 28 8,
 oM 29 0,
 oU 30 (.mkS 1 8 [.int .i64 0] [(0, 1, (.c (.int .i64 0))), (1, 1, (.c (.int .i64 1))), (2, 1, (.c (.int .i64 2))), (3, 1, (.c (.int .i64 3))), (4, 1, (.c (.int .i64 5))), (5, 1, (.c (.int .i64 7))), (6, 1, (.c (.int .i64 420))), (7, 1, (.c (.int .i64 493)))]),
 oU 31 (.call 39 [(.u 29), (.u 30)]),
 oU 32 (.faddr 1 (.t 3)),
 oU 33 (.iaA 4 1 (.u 32) (.u 28)),
 oN (.store 1 (.u 33) (.u 31))]))
 (.region [oM 26 8,
 oU 27 (.bin .add (.u 26) (.c (.int .i64 1))),
 oT 8 (.mov (.u 27))]))))))
 (.seq (.seq (.region [oU 34 (.faddr 0 (.t 3)),
 oT 35 (.load false 1 (.u 34))])
 (.block 2 (.seq (.region [oU 37 (.bin .eql (.t 35) (.c (.int .i64 6))),
 oT 36 (.mov (.u 37))])
 (.cond (.t 36)
 (.region [oM 38 0,
 oU 39 (.mkS 1 12 [.int .i64 0] [(0, 1, (.c (.int .i64 1))), (1, 1, (.c (.int .i64 2))), (2, 1, (.c (.int .i64 3))), (3, 1, (.c (.int .i64 6))), (4, 1, (.c (.int .i64 6))), (5, 1, (.c (.int .i64 7))), (6, 1, (.c (.int .i64 14))), (7, 1, (.c (.int .i64 22))), (8, 1, (.c (.int .i64 33))), (9, 1, (.c (.int .i64 38))), (10, 1, (.c (.int .i64 0))), (11, 1, (.c (.int .i64 64)))]),
 oU 40 (.call 39 [(.u 38), (.u 39)]),
 oM 41 0,
 oU 42 (.mkS 1 5 [.int .i64 0] [(0, 1, (.c (.int .i64 420))), (1, 1, (.c (.int .i64 384))), (2, 1, (.c (.int .i64 0))), (3, 1, (.c (.int .i64 511))), (4, 1, (.c (.int .i64 512)))]),
 oU 43 (.call 39 [(.u 41), (.u 42)]),
 oU 44 (.build [.int .i64 0, .int .i64 0, .int .i64 0, .int .i64 0] [(0, 1, (.u 40)), (1, 1, (.u 43))]),
 oU 45 (.faddr 1 (.t 3)),
 oN (.store 4 (.u 45) (.u 44))])
 (.seq (.region [oU 47 (.bin .eql (.t 35) (.c (.int .i64 11))),
 oT 46 (.mov (.u 47))])
 (.cond (.t 46)
 (.region [oM 48 0,
 oU 49 (.mkS 1 4 [.int .i64 0] [(0, 1, (.c (.int .i64 493))), (1, 1, (.c (.int .i64 511))), (2, 1, (.c (.int .i64 448))), (3, 1, (.c (.int .i64 512)))]),
 oU 50 (.call 39 [(.u 48), (.u 49)]),
 oU 51 (.faddr 1 (.t 3)),
 oU 52 (.iaA 4 1 (.u 51) (.c (.int .i64 0))),
 oN (.store 1 (.u 52) (.u 50))])
 (.seq (.seq (.region [oU 54 (.bin .eql (.t 35) (.c (.int .i64 2))),
 oT 53 (.mov (.u 54))])
 (.cond (.t 53)
 (.skip)
 (.region [oU 55 (.bin .eql (.t 35) (.c (.int .i64 7))),
 oT 53 (.mov (.u 55))])))
 (.cond (.t 53)
 (.region [oM 56 0,
 oU 57 (.call 21 [(.u 56), (.c (.int .i64 3))]),
 oU 58 (.faddr 1 (.t 3)),
 oU 59 (.iaA 4 1 (.u 58) (.c (.int .i64 0))),
 oN (.store 1 (.u 59) (.u 57))])
 (.seq (.region [oU 61 (.bin .eql (.t 35) (.c (.int .i64 20))),
 oT 60 (.mov (.u 61))])
 (.cond (.t 60)
 (.region [oM 62 0,
 oU 63 (.call 22 [(.u 62), (.c (.int .i64 1)), (.c (.int .i64 4))]),
 oM 64 0,
 oU 65 (.mkS 1 5 [.int .i64 0] [(0, 1, (.c (.int .i64 9))), (1, 1, (.c (.int .i64 0))), (2, 1, (.c (.int .i64 64))), (3, 1, (.c (.int .i64 65))), (4, 1, (.c (.int .i64 9)))]),
 oU 66 (.call 39 [(.u 64), (.u 65)]),
 oU 67 (.build [.int .i64 0, .int .i64 0, .int .i64 0, .int .i64 0] [(0, 1, (.u 63)), (1, 1, (.u 66))]),
 oU 68 (.faddr 1 (.t 3)),
 oN (.store 4 (.u 68) (.u 67))])
 (.skip)))))))))))
 (.seq (.seq (.region [oT 9 (.mov (.c (.int .i64 0)))])
 (.block 3 (.loop (.seq (.seq (.region [oM 69 9,
 oM 70 5,
 oT 71 (.bin .lss (.u 69) (.u 70))])
 (.cond (.t 71)
 (.skip)
 (.exit 3)))
 (.seq (.block 4 (.regionD [⟨0, [3], false, [], oU 74 (.faddr 5 (.t 3))⟩,
 ⟨1, [74], true, [], oU 75 (.load false 1 (.u 74))⟩,
 ⟨2, [0], false, [], oM 76 0⟩,
 ⟨3, [76], false, [1], oU 77 (.call 76 [(.u 76)])⟩,
 ⟨4, [77], false, [], oU 78 (.mkS 1 1 [.str []] [(0, 1, (.u 77))])⟩,
 ⟨5, [75, 78], false, [], oU 79 (.app 1 16 (.u 75) (.u 78))⟩,
 ⟨6, [3], false, [], oU 80 (.faddr 5 (.t 3))⟩,
 ⟨7, [80, 79], false, [], oN (.store 1 (.u 80) (.u 79))⟩]))
 (.region [oM 72 9,
 oU 73 (.bin .add (.u 72) (.c (.int .i64 1))),
 oT 9 (.mov (.u 73))]))))))
 (.seq (.seq (.region [oM 81 0,
 oM 82 6,
 oM 83 7,
 oU 84 (.call 22 [(.u 81), (.u 82), (.u 83)]),
 oT 10 (.mov (.u 84))])
 (.block 5 (.loop (.seq (.seq (.region [oM 85 10,
 oT 86 (.bin .gtr (.u 85) (.c (.int .i64 0)))])
 (.cond (.t 86)
 (.skip)
 (.exit 5)))
 (.seq (.block 6 (.regionD [⟨0, [3], false, [], oU 89 (.faddr 6 (.t 3))⟩,
 ⟨1, [89], true, [], oU 90 (.load false 1 (.u 89))⟩,
 ⟨2, [0], false, [], oM 91 0⟩,
 ⟨3, [], false, [], oU 92 (.mkS 1 8 [.str []] [(0, 1, (.c (.str [97]))), (1, 1, (.c (.str [47, 97]))), (2, 1, (.c (.str [98, 47, 99]))), (3, 1, (.c (.str [104, 111, 115, 116]))), (4, 1, (.c (.str []))), (5, 1, (.c (.str [46, 46, 47, 98]))), (6, 1, (.c (.str [47]))), (7, 1, (.c (.str [120, 32, 121])))])⟩,
 ⟨4, [91, 92], false, [1], oU 93 (.call 38 [(.u 91), (.u 92)])⟩,
 ⟨5, [93], false, [], oU 94 (.mkS 1 1 [.str []] [(0, 1, (.u 93))])⟩,
 ⟨6, [90, 94], false, [], oU 95 (.app 1 16 (.u 90) (.u 94))⟩,
 ⟨7, [3], false, [], oU 96 (.faddr 6 (.t 3))⟩,
 ⟨8, [96, 95], false, [], oN (.store 1 (.u 96) (.u 95))⟩]))
 (.region [oM 87 10,
 oU 88 (.bin .sub (.u 87) (.c (.int .i64 1))),
 oT 10 (.mov (.u 88))]))))))
 (.seq (.seq (.region [oM 97 0,
 oU 98 (.call 21 [(.u 97), (.c (.int .i64 40))]),
 oT 99 (.bin .eql (.u 98) (.c (.int .i64 39)))])
 (.cond (.t 99)
 (.region [oM 100 0,
 oU 101 (.call 21 [(.u 100), (.c (.int .i64 2))]),
 oM 102 0,
 oU 103 (.call 22 [(.u 102), (.c (.int .i64 (-1))), (.c (.int .i64 33))]),
 oU 104 (.faddr 1 (.t 3)),
 oU 105 (.iaA 4 1 (.u 104) (.c (.int .i64 3))),
 oN (.store 1 (.u 105) (.u 101)),
 oU 106 (.faddr 0 (.t 3)),
 oN (.store 1 (.u 106) (.u 103))])
 (.skip)))
 (.seq (.region [oU 107 (.load true 7 (.t 3)),
 oN (.store 7 (.t 2) (.u 107))])
 (.ret)))))))))
def r56 : List LRes := [.cell true 7 2]
theorem t56 : (Try.f56.body.bind (trCode v56 Try.prog Try.f56.ntmps)) = some c56 ∧ trRes v56 Try.prog Try.f56.results.toList = some r56 := ⟨by kernel_rfl, by kernel_rfl⟩

def v57 : Nat → Bool := fun t => [0, 2, 3, 13].contains t
def c57 : LCode :=
 .seq (.region [oT 2 (.zero [.str [], .str [], .int .i64 0, .int .i64 0, .str [], .int .i64 0, .int .i64 0, .int .i64 0, .int .i64 0, .int .i64 0, .int .i64 0, .int .i64 0, .int .i64 0])])
 (.seq (.region [oM 4 0,
 oU 5 (.call 76 [(.u 4)]),
 oM 6 0,
 oU 7 (.call 22 [(.u 6), (.c (.int .i64 1)), (.c (.int .i64 3))]),
 oM 8 0,
 oU 9 (.call 21 [(.u 8), (.c (.int .i64 16))]),
 oU 10 (.build [.str [], .str [], .int .i64 0, .int .i64 0, .str [], .int .i64 0, .int .i64 0, .int .i64 0, .int .i64 0, .int .i64 0, .int .i64 0, .int .i64 0, .int .i64 0] [(0, 1, (.u 5)), (7, 1, (.u 7)), (12, 1, (.u 9))]),
 oT 3 (.zero [.str [], .str [], .int .i64 0, .int .i64 0, .str [], .int .i64 0, .int .i64 0, .int .i64 0, .int .i64 0, .int .i64 0, .int .i64 0, .int .i64 0, .int .i64 0]),
 oN (.store 13 (.t 3) (.u 10))])
 (.seq (.seq (.region [oM 11 0,
 oU 12 (.call 21 [(.u 11), (.c (.int .i64 4))]),
 oT 13 (.bin .gtr (.u 12) (.c (.int .i64 0)))])
 (.cond (.t 13)
 (.seq (.region [oM 14 0,
 oU 15 (.call 77 [(.u 14)]),
 oM 16 0,
 oU 17 (.call 22 [(.u 16), (.c (.int .i64 1)), (.c (.int .i64 4))]),
 oU 18 (.build [.int .i64 0, .int .i64 0] [(1, 1, (.u 17))]),
 oM 19 0,
 oU 20 (.call 78 [(.u 19)]),
 oU 21 (.faddr 1 (.t 3)),
 oN (.store 1 (.u 21) (.u 15)),
 oU 22 (.faddr 2 (.t 3)),
 oN (.store 2 (.u 22) (.u 18)),
 oU 23 (.faddr 4 (.t 3)),
 oN (.store 1 (.u 23) (.u 20))])
 (.region [oM 24 0,
 oU 25 (.call 21 [(.u 24), (.c (.int .i64 2))]),
 oM 26 0,
 oU 27 (.call 21 [(.u 26), (.c (.int .i64 5))]),
 oU 28 (.build [.int .i64 0, .int .i64 0] [(0, 1, (.u 25)), (1, 1, (.u 27))]),
 oM 29 0,
 oU 30 (.call 21 [(.u 29), (.c (.int .i64 4))]),
 oM 31 0,
 oU 32 (.mkS 1 3 [.int .i64 0] [(0, 1, (.c (.int .i64 0))), (1, 1, (.c (.int .i64 5))), (2, 1, (.c (.int .i64 7)))]),
 oU 33 (.call 39 [(.u 31), (.u 32)]),
 oM 34 0,
 oU 35 (.mkS 1 3 [.int .i64 0] [(0, 1, (.c (.int .i64 0))), (1, 1, (.c (.int .i64 5))), (2, 1, (.c (.int .i64 7)))]),
 oU 36 (.call 39 [(.u 34), (.u 35)]),
 oU 37 (.faddr 5 (.t 3)),
 oN (.store 2 (.u 37) (.u 28)),
 oU 38 (.faddr 8 (.t 3)),
 oN (.store 1 (.u 38) (.u 30)),
 oU 39 (.faddr 9 (.t 3)),
 oN (.store 1 (.u 39) (.c (.int .i64 420))),
 oU 40 (.faddr 10 (.t 3)),
 oN (.store 1 (.u 40) (.u 33)),
 oU 41 (.faddr 11 (.t 3)),
 oN (.store 1 (.u 41) (.u 36))]))
 (.skip)))
 (.seq (.region [oU 42 (.load true 13 (.t 3)),
 oN (.store 13 (.t 2) (.u 42))])
 (.ret))))
def r57 : List LRes := [.cell true 13 2]
theorem t57 : (Try.f57.body.bind (trCode v57 Try.prog Try.f57.ntmps)) = some c57 ∧ trRes v57 Try.prog Try.f57.results.toList = some r57 := ⟨by kernel_rfl, by kernel_rfl⟩

def v59 : Nat → Bool := fun t => [0, 1, 2, 3, 4, 5, 6, 8, 10, 21, 31, 37, 38, 39, 40, 52].contains t
def c59 : LCode :=
 .seq (.region [oT 2 (.box (.t 0)),
 oT 3 (.box (.t 1)),
 oT 4 (.mov (.c (.bool false)))])
 (.seq (.region [oT 5 (.mov (.c (.bool false)))])
 (.seq (.seq (.region [oT 6 (.mov (.c (.int .i64 1)))])
 (.block 0 (.loop (.seq (.seq (.region [oM 9 6,
 oT 10 (.bin .leq (.u 9) (.c (.int .i64 5)))])
 (.cond (.t 10)
 (.skip)
 (.exit 0)))
 (.seq (.block 1 (.region [oM 13 5,
 oU 14 (.mov (.u 13)),
 ⟨some 15, false, some ((.u 14), false), .load true 5 (.t 2)⟩,
 ⟨some 16, false, some ((.u 14), false), .mov (.t 6)⟩,
 ⟨some 17, false, some ((.u 14), false), .call 79 [(.u 15), (.u 16)]⟩,
 ⟨some 18, false, some ((.u 14), false), .bin .eql (.u 17) (.c (.int .i64 0))⟩,
 oU 19 (.pick (.u 14) (.c (.bool true)) (.u 18)),
 oT 5 (.mov (.u 19))]))
 (.region [oM 11 6,
 oU 12 (.bin .add (.u 11) (.c (.int .i64 1))),
 oT 6 (.mov (.u 12))]))))))
 (.seq (.seq (.region [oM 20 5,
 oT 21 (.un .not (.u 20))])
 (.cond (.t 21)
 (.seq (.region [oT 4 (.mov (.c (.bool false)))])
 (.ret))
 (.skip)))
 (.seq (.seq (.region [oU 22 (.faddr 0 (.t 2)),
 oU 23 (.load false 1 (.u 22)),
 oU 24 (.call 80 [(.u 23)]),
 oU 25 (.un .not (.u 24)),
 oU 26 (.mov (.u 25)),
 ⟨some 27, false, some ((.u 26), true), .faddr 4 (.t 2)⟩,
 ⟨some 28, false, some ((.u 26), true), .load false 1 (.u 27)⟩,
 ⟨some 29, false, some ((.u 26), true), .call 80 [(.u 28)]⟩,
 ⟨some 30, false, some ((.u 26), true), .un .not (.u 29)⟩,
 oT 31 (.pick (.u 26) (.u 30) (.c (.bool false)))])
 (.cond (.t 31)
 (.seq (.region [oU 32 (.load true 5 (.t 2)),
 oU 33 (.load true 25 (.t 3)),
 oU 34 (.build [.str [], .str [], .int .i64 0, .int .i64 0, .str [], .int .i64 0, .int .i64 0, .int .i64 0, .int .i64 0, .int .i64 0, .int .i64 0, .int .i64 0, .int .i64 0] []),
 oU 35 (.call 81 [(.u 32), (.u 33), (.u 34)]),
 oT 4 (.mov (.u 35))])
 (.ret))
 (.skip)))
 (.seq (.seq (.region [oU 36 (.faddr 23 (.t 3)),
 oT 37 (.load false 1 (.u 36)),
 oT 38 (.lenL (.t 37)),
 oT 39 (.mov (.c (.int .i64 0)))])
 (.block 2 (.loop (.seq (.region [oT 40 (.bin .lss (.t 39) (.t 38))])
 (.seq (.cond (.t 40)
 (.skip)
 (.exit 2))
 (.seq (.block 3 (.seq (.region [oU 41 (.iaS 13 (.t 37) (.t 39)),
 oU 42 (.load true 13 (.u 41)),
 oT 8 (.zero [.str [], .str [], .int .i64 0, .int .i64 0, .str [], .int .i64 0, .int .i64 0, .int .i64 0, .int .i64 0, .int .i64 0, .int .i64 0, .int .i64 0, .int .i64 0]),
 oN (.store 13 (.t 8) (.u 42))])
 (.seq (.region [oU 43 (.faddr 5 (.t 8)),
 oU 44 (.load true 2 (.u 43)),
 oU 45 (.build [.int .i64 0, .int .i64 0] []),
 oU 46 (.eqS true 2 [(0, 1), (1, 1)] (.u 44) (.u 45)),
 oU 47 (.mov (.u 46)),
 ⟨some 48, false, some ((.u 47), true), .load true 5 (.t 2)⟩,
 ⟨some 49, false, some ((.u 47), true), .load true 25 (.t 3)⟩,
 ⟨some 50, false, some ((.u 47), true), .load true 13 (.t 8)⟩,
 ⟨some 51, false, some ((.u 47), true), .call 81 [(.u 48), (.u 49), (.u 50)]⟩,
 oT 52 (.pick (.u 47) (.u 51) (.c (.bool false)))])
 (.cond (.t 52)
 (.seq (.region [oT 4 (.mov (.c (.bool true)))])
 (.ret))
 (.skip)))))
 (.region [oU 53 (.bin .add (.t 39) (.c (.int .i64 1))),
 oT 39 (.mov (.u 53))])))))))
 (.seq (.region [oT 4 (.mov (.c (.bool false)))])
 (.ret)))))))
def r59 : List LRes := [.slot 4]
theorem t59 : (Try.f59.body.bind (trCode v59 Try.prog Try.f59.ntmps)) = some c59 ∧ trRes v59 Try.prog Try.f59.results.toList = some r59 := ⟨by kernel_rfl, by kernel_rfl⟩

def v61 : Nat → Bool := fun t => [0, 1, 2, 3, 5, 11].contains t
def c61 : LCode :=
 .seq (.region [oT 1 (.box (.t 0)),
 oT 2 (.mov (.c (.bool false)))])
 (.seq (.seq (.region [oT 3 (.mov (.c (.int .i64 1)))])
 (.block 0 (.loop (.seq (.seq (.region [oM 4 3,
 oT 5 (.bin .leq (.u 4) (.c (.int .i64 5)))])
 (.cond (.t 5)
 (.skip)
 (.exit 0)))
 (.seq (.block 1 (.seq (.region [oU 8 (.load true 5 (.t 1)),
 oM 9 3,
 oU 10 (.call 82 [(.u 8), (.u 9)]),
 oT 11 (.bin .eql (.u 10) (.c (.int .i64 0)))])
 (.cond (.t 11)
 (.seq (.region [oT 2 (.mov (.c (.bool true)))])
 (.ret))
 (.skip))))
 (.region [oM 6 3,
 oU 7 (.bin .add (.u 6) (.c (.int .i64 1))),
 oT 3 (.mov (.u 7))]))))))
 (.seq (.region [oT 2 (.mov (.c (.bool false)))])
 (.ret)))
def r61 : List LRes := [.slot 2]
theorem t61 : (Try.f61.body.bind (trCode v61 Try.prog Try.f61.ntmps)) = some c61 ∧ trRes v61 Try.prog Try.f61.results.toList = some r61 := ⟨by kernel_rfl, by kernel_rfl⟩

def v62 : Nat → Bool := fun t => [0, 1, 3, 4, 10].contains t
def c62 : LCode :=
 .seq (.region [oT 3 (.box (.t 1)),
 oT 4 (.mov (.c (.bool false)))])
 (.seq (.seq (.region [oM 5 0,
 oU 6 (.bin .geq (.u 5) (.c (.int .i64 15))),
 oU 7 (.mov (.u 6)),
 ⟨some 8, false, some ((.u 7), true), .mov (.t 0)⟩,
 ⟨some 9, false, some ((.u 7), true), .bin .leq (.u 8) (.c (.int .i64 21))⟩,
 oT 10 (.pick (.u 7) (.u 9) (.c (.bool false)))])
 (.cond (.t 10)
 (.seq (.region [oU 11 (.faddr 0 (.t 3)),
 oU 12 (.load false 1 (.u 11)),
 oU 13 (.bin .eql (.u 12) (.c (.int .i64 2))),
 oT 4 (.mov (.u 13))])
 (.ret))
 (.skip)))
 (.seq (.region [oM 14 0,
 oU 15 (.bin .neq (.u 14) (.c (.int .i64 22))),
 oU 16 (.mov (.u 15)),
 ⟨some 17, false, some ((.u 16), false), .faddr 24 (.t 3)⟩,
 ⟨some 18, false, some ((.u 16), false), .load false 1 (.u 17)⟩,
 ⟨some 19, false, some ((.u 16), false), .bin .neq (.u 18) (.c (.int .i64 0))⟩,
 oU 20 (.pick (.u 16) (.c (.bool true)) (.u 19)),
 oT 4 (.mov (.u 20))])
 (.ret)))
def r62 : List LRes := [.slot 4]
theorem t62 : (Try.f62.body.bind (trCode v62 Try.prog Try.f62.ntmps)) = some c62 ∧ trRes v62 Try.prog Try.f62.results.toList = some r62 := ⟨by kernel_rfl, by kernel_rfl⟩

def v63 : Nat → Bool := fun t => [0, 2].contains t
def c63 : LCode :=
 .seq (.region [oT 2 (.mov (.c (.bool false)))])
 (.seq (.region [oM 3 0,
 oU 4 (.bin .geq (.u 3) (.c (.int .i64 17))),
 oU 5 (.mov (.u 4)),
 ⟨some 6, false, some ((.u 5), true), .mov (.t 0)⟩,
 ⟨some 7, false, some ((.u 5), true), .bin .leq (.u 6) (.c (.int .i64 21))⟩,
 oU 8 (.pick (.u 5) (.u 7) (.c (.bool false))),
 oT 2 (.mov (.u 8))])
 (.ret))
def r63 : List LRes := [.slot 2]
theorem t63 : (Try.f63.body.bind (trCode v63 Try.prog Try.f63.ntmps)) = some c63 ∧ trRes v63 Try.prog Try.f63.results.toList = some r63 := ⟨by kernel_rfl, by kernel_rfl⟩

def v64 : Nat → Bool := fun t => [0, 1, 2, 3, 4, 5, 6, 7, 8, 11, 17, 33].contains t
def c64 : LCode :=
 .seq (.region [oT 3 (.box (.t 0)),
 oT 4 (.box (.t 1)),
 oT 5 (.box (.t 2)),
 oT 6 (.mov (.c (.bool false)))])
 (.seq (.seq (.region [oU 9 (.faddr 0 (.t 3)),
 oU 10 (.load false 1 (.u 9)),
 oT 11 (.call 83 [(.u 10)])])
 (.cond (.t 11)
 (.seq (.region [oU 12 (.faddr 1 (.t 4)),
 oU 13 (.faddr 11 (.u 12)),
 oU 14 (.load false 1 (.u 13)),
 oT 7 (.mov (.u 14))])
 (.seq (.seq (.region [oU 15 (.faddr 0 (.t 3)),
 oU 16 (.load false 1 (.u 15)),
 oT 17 (.bin .eql (.u 16) (.c (.int .i64 14)))])
 (.cond (.t 17)
 (.region [oU 18 (.faddr 1 (.t 4)),
 oU 19 (.faddr 10 (.u 18)),
 oU 20 (.load false 1 (.u 19)),
 oT 7 (.mov (.u 20))])
 (.skip)))
 (.seq (.region [oM 21 7,
 oU 22 (.faddr 3 (.t 3)),
 oU 23 (.load false 1 (.u 22)),
 oU 24 (.bin .eql (.u 21) (.u 23)),
 oU 25 (.faddr 1 (.t 3)),
 oU 26 (.load false 1 (.u 25)),
 oU 27 (.bin .eql (.u 26) (.c (.int .i64 1))),
 oU 28 (.eqB false (.u 24) (.u 27)),
 oT 6 (.mov (.u 28))])
 (.ret))))
 (.skip)))
 (.seq (.region [oU 29 (.faddr 2 (.t 3)),
 oU 30 (.load false 1 (.u 29)),
 oT 8 (.mov (.u 30))])
 (.seq (.seq (.region [oU 31 (.faddr 4 (.t 3)),
 oU 32 (.load false 1 (.u 31)),
 oT 33 (.bin .neq (.u 32) (.c (.int .i64 0)))])
 (.cond (.t 33)
 (.region [oU 34 (.faddr 4 (.t 3)),
 oU 35 (.load false 1 (.u 34)),
 oU 36 (.load true 25 (.t 4)),
 oU 37 (.load true 13 (.t 5)),
 oU 38 (.call 84 [(.u 35), (.u 36), (.u 37)]),
 oT 8 (.mov (.u 38))])
 (.skip)))
 (.seq (.regionD [⟨0, [3], false, [], oU 39 (.faddr 1 (.t 3))⟩,
 ⟨1, [39], true, [], oU 40 (.load false 1 (.u 39))⟩,
 ⟨2, [3], false, [], oU 41 (.faddr 0 (.t 3))⟩,
 ⟨3, [41], true, [], oU 42 (.load false 1 (.u 41))⟩,
 ⟨4, [4], true, [], oU 43 (.load true 25 (.t 4))⟩,
 ⟨5, [5], true, [], oU 44 (.load true 13 (.t 5))⟩,
 ⟨7, [8], false, [], oM 46 8⟩,
 ⟨6, [42, 43, 44], false, [1], oU 45 (.call 84 [(.u 42), (.u 43), (.u 44)])⟩,
 ⟨8, [40, 45, 46], false, [], oU 47 (.call 85 [(.u 40), (.u 45), (.u 46)])⟩,
 ⟨9, [47], false, [], oT 6 (.mov (.u 47))⟩])
 (.ret)))))
def r64 : List LRes := [.slot 6]
theorem t64 : (Try.f64.body.bind (trCode v64 Try.prog Try.f64.ntmps)) = some c64 ∧ trRes v64 Try.prog Try.f64.results.toList = some r64 := ⟨by kernel_rfl, by kernel_rfl⟩

def v75 : Nat → Bool := fun t => [0, 2, 3, 4, 5, 6].contains t
def c75 : LCode :=
 .seq (.region [oT 2 (.mov (.c (.int .i64 0))),
 oT 3 (.mov (.c (.int .i64 0))),
 oT 4 (.mov (.c (.int .i64 0))),
 oT 5 (.mov (.c (.int .i64 0)))])
 (.seq (.region [oM 7 0,
 oU 8 (.call 89 [(.u 7)]),
 oT 6 (.zero [.str [], .int .i64 0, .int .i64 0, .int .i64 0, .int .i64 0]),
 oN (.store 5 (.t 6) (.u 8))])
 (.seq (.regionD [⟨0, [6], false, [], oU 9 (.faddr 1 (.t 6))⟩,
 ⟨1, [9], true, [], oU 10 (.load false 1 (.u 9))⟩,
 ⟨2, [6], false, [], oU 11 (.faddr 2 (.t 6))⟩,
 ⟨3, [11], true, [], oU 12 (.load false 1 (.u 11))⟩,
 ⟨4, [6], false, [], oU 13 (.faddr 3 (.t 6))⟩,
 ⟨5, [13], true, [], oU 14 (.load false 1 (.u 13))⟩,
 ⟨6, [6], false, [], oU 15 (.faddr 4 (.t 6))⟩,
 ⟨7, [15], true, [], oU 16 (.load false 1 (.u 15))⟩,
 ⟨8, [10], false, [], oT 2 (.mov (.u 10))⟩,
 ⟨9, [12], false, [], oT 3 (.mov (.u 12))⟩,
 ⟨10, [14], false, [], oT 4 (.mov (.u 14))⟩,
 ⟨11, [16], false, [], oT 5 (.mov (.u 16))⟩])
 (.ret)))
def r75 : List LRes := [.slot 2, .slot 3, .slot 4, .slot 5]
theorem t75 : (Try.f75.body.bind (trCode v75 Try.prog Try.f75.ntmps)) = some c75 ∧ trRes v75 Try.prog Try.f75.results.toList = some r75 := ⟨by kernel_rfl, by kernel_rfl⟩

def v76 : Nat → Bool := fun t => [0, 2, 3, 4, 5, 8, 14, 18, 23, 35].contains t
def c76 : LCode :=
 .seq (.region [oT 2 (.mov (.c (.str [])))])
 (.seq (.region [oT 3 (.mov (.c (.str [])))])
 (.seq (.seq (.region [oM 6 0,
 oU 7 (.call 21 [(.u 6), (.c (.int .i64 6))]),
 oT 8 (.bin .gtr (.u 7) (.c (.int .i64 0)))])
 (.cond (.t 8)
 (.region [oT 3 (.mov (.c (.str [47])))])
 (.skip)))
 (.seq (.region [oM 9 0,
 oU 10 (.mkS 1 7 [.int .i64 0] [(0, 1, (.c (.int .i64 1))), (1, 1, (.c (.int .i64 1))), (2, 1, (.c (.int .i64 2))), (3, 1, (.c (.int .i64 2))), (4, 1, (.c (.int .i64 3))), (5, 1, (.c (.int .i64 0))), (6, 1, (.c (.int .i64 4)))]),
 oU 11 (.call 39 [(.u 9), (.u 10)]),
 oT 4 (.mov (.u 11))])
 (.seq (.seq (.region [oT 5 (.mov (.c (.int .i64 0)))])
 (.block 0 (.loop (.seq (.seq (.region [oM 12 5,
 oM 13 4,
 oT 14 (.bin .lss (.u 12) (.u 13))])
 (.cond (.t 14)
 (.skip)
 (.exit 0)))
 (.seq (.block 1 (.seq (.seq (.region [oM 17 5,
 oT 18 (.bin .gtr (.u 17) (.c (.int .i64 0)))])
 (.cond (.t 18)
 (.region [oM 19 3,
 oU 20 (.bin .add (.u 19) (.c (.str [47]))),
 oT 3 (.mov (.u 20))])
 (.skip)))
 (.seq (.region [oM 21 0,
 oU 22 (.call 21 [(.u 21), (.c (.int .i64 8))]),
 oT 23 (.bin .eql (.u 22) (.c (.int .i64 7)))])
 (.cond (.t 23)
 (.region [oM 24 3,
 oM 25 0,
 oU 26 (.mkS 1 4 [.str []] [(0, 1, (.c (.str [46]))), (1, 1, (.c (.str [46, 46]))), (2, 1, (.c (.str []))), (3, 1, (.c (.str [97, 47, 47, 98])))]),
 oU 27 (.call 38 [(.u 25), (.u 26)]),
 oU 28 (.bin .add (.u 24) (.u 27)),
 oT 3 (.mov (.u 28))])
 (.region [oM 29 3,
 oM 30 0,
 oU 31 (.call 78 [(.u 30)]),
 oU 32 (.bin .add (.u 29) (.u 31)),
 oT 3 (.mov (.u 32))])))))
 (.region [oM 15 5,
 oU 16 (.bin .add (.u 15) (.c (.int .i64 1))),
 oT 5 (.mov (.u 16))]))))))
 (.seq (.seq (.region [oM 33 0,
 oU 34 (.call 21 [(.u 33), (.c (.int .i64 8))]),
 oT 35 (.bin .eql (.u 34) (.c (.int .i64 7)))])
 (.cond (.t 35)
 (.region [oM 36 3,
 oU 37 (.bin .add (.u 36) (.c (.str [47]))),
 oT 3 (.mov (.u 37))])
 (.skip)))
 (.seq (.region [oM 38 3,
 oT 2 (.mov (.u 38))])
 (.ret)))))))
def r76 : List LRes := [.slot 2]
theorem t76 : (Try.f76.body.bind (trCode v76 Try.prog Try.f76.ntmps)) = some c76 ∧ trRes v76 Try.prog Try.f76.results.toList = some r76 := ⟨by kernel_rfl, by kernel_rfl⟩

def v77 : Nat → Bool := fun t => [0, 2, 3, 4, 9].contains t
def c77 : LCode :=
 .seq (.region [oT 2 (.mov (.c (.str [])))])
 (.seq (.region [oT 3 (.mov (.c (.str [])))])
 (.seq (.seq (.region [oM 5 0,
 oU 6 (.mkS 1 5 [.int .i64 0] [(0, 1, (.c (.int .i64 1))), (1, 1, (.c (.int .i64 1))), (2, 1, (.c (.int .i64 2))), (3, 1, (.c (.int .i64 2))), (4, 1, (.c (.int .i64 3)))]),
 oU 7 (.call 39 [(.u 5), (.u 6)]),
 oT 4 (.mov (.u 7))])
 (.block 0 (.loop (.seq (.seq (.region [oM 8 4,
 oT 9 (.bin .gtr (.u 8) (.c (.int .i64 0)))])
 (.cond (.t 9)
 (.skip)
 (.exit 0)))
 (.seq (.block 1 (.region [oM 12 3,
 oM 13 0,
 oU 14 (.mkS 1 5 [.str []] [(0, 1, (.c (.str [97]))), (1, 1, (.c (.str [98]))), (2, 1, (.c (.str [99]))), (3, 1, (.c (.str [108]))), (4, 1, (.c (.str [109])))]),
 oU 15 (.call 38 [(.u 13), (.u 14)]),
 oU 16 (.bin .add (.c (.str [47])) (.u 15)),
 oU 17 (.bin .add (.u 12) (.u 16)),
 oT 3 (.mov (.u 17))]))
 (.region [oM 10 4,
 oU 11 (.bin .sub (.u 10) (.c (.int .i64 1))),
 oT 4 (.mov (.u 11))]))))))
 (.seq (.region [oM 18 3,
 oT 2 (.mov (.u 18))])
 (.ret))))
def r77 : List LRes := [.slot 2]
theorem t77 : (Try.f77.body.bind (trCode v77 Try.prog Try.f77.ntmps)) = some c77 ∧ trRes v77 Try.prog Try.f77.results.toList = some r77 := ⟨by kernel_rfl, by kernel_rfl⟩

def v78 : Nat → Bool := fun t => [0, 2, 5].contains t
def c78 : LCode :=
 .seq (.region [oT 2 (.mov (.c (.str [])))])
 (.seq (.seq (.region [oM 3 0,
 oU 4 (.call 21 [(.u 3), (.c (.int .i64 20))]),
 oT 5 (.bin .eql (.u 4) (.c (.int .i64 19)))])
 (.cond (.t 5)
 (.seq (.region [oM 6 0,
 oU 7 (.mkS 1 8 [.str []] [(0, 1, (.c (.str []))), (1, 1, (.c (.str [46]))), (2, 1, (.c (.str [46, 46]))), (3, 1, (.c (.str [97, 47, 98]))), (4, 1, (.c (.str [97, 98, 99, 100, 101, 102, 103, 104, 105, 106, 107, 108]))), (5, 1, (.c (.str [97, 98, 99, 100, 101, 102, 103, 104, 105, 106, 107, 108, 109]))), (6, 1, (.c (.str [97, 0]))), (7, 1, (.c (.str [126])))]),
 oU 8 (.call 38 [(.u 6), (.u 7)]),
 oT 2 (.mov (.u 8))])
 (.ret))
 (.skip)))
 (.seq (.region [oM 9 0,
 oU 10 (.mkS 1 6 [.str []] [(0, 1, (.c (.str [97]))), (1, 1, (.c (.str [98]))), (2, 1, (.c (.str [99]))), (3, 1, (.c (.str [100]))), (4, 1, (.c (.str [108]))), (5, 1, (.c (.str [109])))]),
 oU 11 (.call 38 [(.u 9), (.u 10)]),
 oT 2 (.mov (.u 11))])
 (.ret)))
def r78 : List LRes := [.slot 2]
theorem t78 : (Try.f78.body.bind (trCode v78 Try.prog Try.f78.ntmps)) = some c78 ∧ trRes v78 Try.prog Try.f78.results.toList = some r78 := ⟨by kernel_rfl, by kernel_rfl⟩

def v79 : Nat → Bool := fun t => [0, 1, 2, 4, 9, 31, 39, 57, 58, 72, 92].contains t
def c79 : LCode :=
 .seq (.region [oT 2 (.box (.t 0)),
 oT 4 (.mov (.c (.int .i64 0)))])
 (.seq (.seq (.region [oM 5 1,
 oU 6 (.faddr 0 (.t 2)),
 oU 7 (.load false 1 (.u 6)),
 oU 8 (.call 90 [(.u 5), (.u 7)]),
 oT 9 (.un .not (.u 8))])
 (.cond (.t 9)
 (.seq (.region [oT 4 (.mov (.c (.int .i64 120)))])
 (.ret))
 (.skip)))
 (.seq (.seq (.region [oU 10 (.faddr 4 (.t 2)),
 oU 11 (.load false 1 (.u 10)),
 oU 12 (.bin .neq (.u 11) (.c (.int .i64 0))),
 oU 13 (.mov (.u 12)),
 ⟨some 14, false, some ((.u 13), true), .mov (.t 1)⟩,
 ⟨some 15, false, some ((.u 13), true), .faddr 4 (.t 2)⟩,
 ⟨some 16, false, some ((.u 13), true), .load false 1 (.u 15)⟩,
 ⟨some 17, false, some ((.u 13), true), .call 90 [(.u 14), (.u 16)]⟩,
 ⟨some 18, false, some ((.u 13), true), .un .not (.u 17)⟩,
 ⟨some 19, false, some ((.u 13), true), .mov (.u 18)⟩,
 ⟨some 20, false, some ((.u 19), false), .faddr 0 (.t 2)⟩,
 ⟨some 21, false, some ((.u 19), false), .load false 1 (.u 20)⟩,
 ⟨some 22, false, some ((.u 19), false), .call 91 [(.u 21)]⟩,
 ⟨some 23, false, some ((.u 19), false), .un .not (.u 22)⟩,
 ⟨some 24, false, some ((.u 13), true), .pick (.u 19) (.c (.bool true)) (.u 23)⟩,
 ⟨some 25, false, some ((.u 13), true), .mov (.u 24)⟩,
 ⟨some 26, false, some ((.u 25), false), .faddr 4 (.t 2)⟩,
 ⟨some 27, false, some ((.u 25), false), .load false 1 (.u 26)⟩,
 ⟨some 28, false, some ((.u 25), false), .call 91 [(.u 27)]⟩,
 ⟨some 29, false, some ((.u 25), false), .un .not (.u 28)⟩,
 ⟨some 30, false, some ((.u 13), true), .pick (.u 25) (.c (.bool true)) (.u 29)⟩,
 oT 31 (.pick (.u 13) (.u 30) (.c (.bool false)))])
 (.cond (.t 31)
 (.seq (.region [oT 4 (.mov (.c (.int .i64 120)))])
 (.ret))
 (.skip)))
 (.seq (.seq (.region [oU 32 (.faddr 1 (.t 2)),
 oU 33 (.load false 1 (.u 32)),
 oU 34 (.bin .lss (.u 33) (.c (.int .i64 1))),
 oU 35 (.mov (.u 34)),
 ⟨some 36, false, some ((.u 35), false), .faddr 1 (.t 2)⟩,
 ⟨some 37, false, some ((.u 35), false), .load false 1 (.u 36)⟩,
 ⟨some 38, false, some ((.u 35), false), .bin .gtr (.u 37) (.c (.int .i64 8))⟩,
 oT 39 (.pick (.u 35) (.c (.bool true)) (.u 38))])
 (.cond (.t 39)
 (.seq (.region [oT 4 (.mov (.c (.int .i64 121)))])
 (.ret))
 (.skip)))
 (.seq (.seq (.region [oU 40 (.faddr 1 (.t 2)),
 oU 41 (.load false 1 (.u 40)),
 oU 42 (.bin .neq (.u 41) (.c (.int .i64 1))),
 oU 43 (.mov (.u 42)),
 ⟨some 44, false, some ((.u 43), true), .faddr 1 (.t 2)⟩,
 ⟨some 45, false, some ((.u 43), true), .load false 1 (.u 44)⟩,
 ⟨some 46, false, some ((.u 43), true), .bin .neq (.u 45) (.c (.int .i64 2))⟩,
 oU 47 (.pick (.u 43) (.u 46) (.c (.bool false))),
 oU 48 (.mov (.u 47)),
 ⟨some 49, false, some ((.u 48), true), .faddr 0 (.t 2)⟩,
 ⟨some 50, false, some ((.u 48), true), .load false 1 (.u 49)⟩,
 ⟨some 51, false, some ((.u 48), true), .call 92 [(.u 50)]⟩,
 ⟨some 52, false, some ((.u 48), true), .mov (.u 51)⟩,
 ⟨some 53, false, some ((.u 52), false), .faddr 4 (.t 2)⟩,
 ⟨some 54, false, some ((.u 52), false), .load false 1 (.u 53)⟩,
 ⟨some 55, false, some ((.u 52), false), .bin .neq (.u 54) (.c (.int .i64 0))⟩,
 ⟨some 56, false, some ((.u 48), true), .pick (.u 52) (.c (.bool true)) (.u 55)⟩,
 oT 57 (.pick (.u 48) (.u 56) (.c (.bool false)))])
 (.cond (.t 57)
 (.seq (.region [oT 4 (.mov (.c (.int .i64 121)))])
 (.ret))
 (.skip)))
 (.seq (.block 0 (.seq (.region [oU 59 (.faddr 4 (.t 2)),
 oU 60 (.load false 1 (.u 59)),
 oU 61 (.bin .neq (.u 60) (.c (.int .i64 0))),
 oU 62 (.mov (.u 61)),
 ⟨some 63, false, some ((.u 62), true), .faddr 2 (.t 2)⟩,
 ⟨some 64, false, some ((.u 62), true), .load false 1 (.u 63)⟩,
 ⟨some 65, false, some ((.u 62), true), .bin .neq (.u 64) (.c (.int .i64 0))⟩,
 ⟨some 66, false, some ((.u 62), true), .mov (.u 65)⟩,
 ⟨some 67, false, some ((.u 66), false), .faddr 3 (.t 2)⟩,
 ⟨some 68, false, some ((.u 66), false), .load false 1 (.u 67)⟩,
 ⟨some 69, false, some ((.u 66), false), .bin .neq (.u 68) (.c (.str []))⟩,
 ⟨some 70, false, some ((.u 62), true), .pick (.u 66) (.c (.bool true)) (.u 69)⟩,
 oU 71 (.pick (.u 62) (.u 70) (.c (.bool false))),
 oT 58 (.mov (.u 71))])
 (.cond (.t 58)
 (.seq (.region [oT 4 (.mov (.c (.int .i64 122)))])
 (.ret))
 (.seq (.region [oU 73 (.faddr 0 (.t 2)),
 oU 74 (.load false 1 (.u 73)),
 oU 75 (.call 92 [(.u 74)]),
 oU 76 (.mov (.u 75)),
 ⟨some 77, false, some ((.u 76), true), .faddr 2 (.t 2)⟩,
 ⟨some 78, false, some ((.u 76), true), .load false 1 (.u 77)⟩,
 ⟨some 79, false, some ((.u 76), true), .bin .neq (.u 78) (.c (.int .i64 0))⟩,
 ⟨some 80, false, some ((.u 76), true), .mov (.u 79)⟩,
 ⟨some 81, false, some ((.u 80), false), .faddr 3 (.t 2)⟩,
 ⟨some 82, false, some ((.u 80), false), .load false 1 (.u 81)⟩,
 ⟨some 83, false, some ((.u 80), false), .bin .eql (.u 82) (.c (.str []))⟩,
 ⟨some 84, false, some ((.u 76), true), .pick (.u 80) (.c (.bool true)) (.u 83)⟩,
 ⟨some 85, false, some ((.u 76), true), .mov (.u 84)⟩,
 ⟨some 86, false, some ((.u 85), false), .faddr 3 (.t 2)⟩,
 ⟨some 87, false, some ((.u 85), false), .load false 1 (.u 86)⟩,
 ⟨some 88, false, some ((.u 85), false), .len (.u 87)⟩,
 ⟨some 89, false, some ((.u 85), false), .bin .gtr (.u 88) (.c (.int .i64 640))⟩,
 ⟨some 90, false, some ((.u 76), true), .pick (.u 85) (.c (.bool true)) (.u 89)⟩,
 oU 91 (.pick (.u 76) (.u 90) (.c (.bool false))),
 oT 72 (.mov (.u 91))])
 (.cond (.t 72)
 (.seq (.region [oT 4 (.mov (.c (.int .i64 122)))])
 (.ret))
 (.seq (.region [oU 93 (.faddr 0 (.t 2)),
 oU 94 (.load false 1 (.u 93)),
 oU 95 (.call 92 [(.u 94)]),
 oU 96 (.un .not (.u 95)),
 oU 97 (.mov (.u 96)),
 ⟨some 98, false, some ((.u 97), true), .faddr 3 (.t 2)⟩,
 ⟨some 99, false, some ((.u 97), true), .load false 1 (.u 98)⟩,
 ⟨some 100, false, some ((.u 97), true), .bin .neq (.u 99) (.c (.str []))⟩,
 oU 101 (.pick (.u 97) (.u 100) (.c (.bool false))),
 oT 92 (.mov (.u 101))])
 (.cond (.t 92)
 (.seq (.region [oT 4 (.mov (.c (.int .i64 122)))])
 (.ret))
 (.skip))))))))
 (.seq (.region [oT 4 (.mov (.c (.int .i64 0)))])
 (.ret)))))))
def r79 : List LRes := [.slot 4]
theorem t79 : (Try.f79.body.bind (trCode v79 Try.prog Try.f79.ntmps)) = some c79 ∧ trRes v79 Try.prog Try.f79.results.toList = some r79 := ⟨by kernel_rfl, by kernel_rfl⟩

def v80 : Nat → Bool := fun t => [0, 2].contains t
def c80 : LCode :=
 .seq (.region [oT 2 (.mov (.c (.bool false)))])
 (.seq (.region [oM 3 0,
 oU 4 (.bin .geq (.u 3) (.c (.int .i64 17))),
 oU 5 (.mov (.u 4)),
 ⟨some 6, false, some ((.u 5), true), .mov (.t 0)⟩,
 ⟨some 7, false, some ((.u 5), true), .bin .leq (.u 6) (.c (.int .i64 21))⟩,
 oU 8 (.pick (.u 5) (.u 7) (.c (.bool false))),
 oT 2 (.mov (.u 8))])
 (.ret))
def r80 : List LRes := [.slot 2]
theorem t80 : (Try.f80.body.bind (trCode v80 Try.prog Try.f80.ntmps)) = some c80 ∧ trRes v80 Try.prog Try.f80.results.toList = some r80 := ⟨by kernel_rfl, by kernel_rfl⟩

def v81 : Nat → Bool := fun t => [0, 1, 2, 3, 4, 5, 6, 7, 8, 9, 10, 13, 19, 40, 45, 55].contains t
def c81 : LCode :=
 .seq (.region [oT 3 (.box (.t 0)),
 oT 4 (.box (.t 1)),
 oT 5 (.box (.t 2)),
 oT 6 (.mov (.c (.bool false)))])
 (.seq (.seq (.region [oU 11 (.faddr 0 (.t 3)),
 oU 12 (.load false 1 (.u 11)),
 oT 13 (.call 92 [(.u 12)])])
 (.cond (.t 13)
 (.seq (.region [oU 14 (.faddr 1 (.t 4)),
 oU 15 (.faddr 11 (.u 14)),
 oU 16 (.load false 1 (.u 15)),
 oT 7 (.mov (.u 16))])
 (.seq (.seq (.region [oU 17 (.faddr 0 (.t 3)),
 oU 18 (.load false 1 (.u 17)),
 oT 19 (.bin .eql (.u 18) (.c (.int .i64 14)))])
 (.cond (.t 19)
 (.region [oU 20 (.faddr 1 (.t 4)),
 oU 21 (.faddr 10 (.u 20)),
 oU 22 (.load false 1 (.u 21)),
 oT 7 (.mov (.u 22))])
 (.skip)))
 (.seq (.region [oM 23 7,
 oU 24 (.faddr 3 (.t 3)),
 oU 25 (.load false 1 (.u 24)),
 oU 26 (.bin .eql (.u 23) (.u 25)),
 oU 27 (.faddr 1 (.t 3)),
 oU 28 (.load false 1 (.u 27)),
 oU 29 (.bin .eql (.u 28) (.c (.int .i64 1))),
 oU 30 (.eqB false (.u 26) (.u 29)),
 oT 6 (.mov (.u 30))])
 (.ret))))
 (.skip)))
 (.seq (.region [oU 32 (.faddr 0 (.t 3)),
 oU 33 (.load false 1 (.u 32)),
 oU 34 (.load true 25 (.t 4)),
 oU 35 (.load true 13 (.t 5)),
 oU 36 (.call 93 [(.u 33), (.u 34), (.u 35)]),
 oU 31 (.mov (.u 36)),
 oU 37 (.ext (.u 31) 0),
 oU 38 (.ext (.u 31) 1),
 oT 8 (.mov (.u 37)),
 oT 9 (.mov (.u 38))])
 (.seq (.seq (.region [oM 39 9,
 oT 40 (.un .not (.u 39))])
 (.cond (.t 40)
 (.seq (.region [oT 6 (.mov (.c (.bool false)))])
 (.ret))
 (.skip)))
 (.seq (.region [oU 41 (.faddr 2 (.t 3)),
 oU 42 (.load false 1 (.u 41)),
 oT 10 (.mov (.u 42))])
 (.seq (.seq (.region [oU 43 (.faddr 4 (.t 3)),
 oU 44 (.load false 1 (.u 43)),
 oT 45 (.bin .neq (.u 44) (.c (.int .i64 0)))])
 (.cond (.t 45)
 (.seq (.region [oU 47 (.faddr 4 (.t 3)),
 oU 48 (.load false 1 (.u 47)),
 oU 49 (.load true 25 (.t 4)),
 oU 50 (.load true 13 (.t 5)),
 oU 51 (.call 93 [(.u 48), (.u 49), (.u 50)]),
 oU 46 (.mov (.u 51)),
 oU 52 (.ext (.u 46) 0),
 oU 53 (.ext (.u 46) 1),
 oT 10 (.mov (.u 52)),
 oT 9 (.mov (.u 53))])
 (.seq (.region [oM 54 9,
 oT 55 (.un .not (.u 54))])
 (.cond (.t 55)
 (.seq (.region [oT 6 (.mov (.c (.bool false)))])
 (.ret))
 (.skip))))
 (.skip)))
 (.seq (.region [oU 56 (.faddr 1 (.t 3)),
 oU 57 (.load false 1 (.u 56)),
 oM 58 8,
 oM 59 10,
 oU 60 (.call 94 [(.u 57), (.u 58), (.u 59)]),
 oT 6 (.mov (.u 60))])
 (.ret)))))))
def r81 : List LRes := [.slot 6]
theorem t81 : (Try.f81.body.bind (trCode v81 Try.prog Try.f81.ntmps)) = some c81 ∧ trRes v81 Try.prog Try.f81.results.toList = some r81 := ⟨by kernel_rfl, by kernel_rfl⟩

def v82 : Nat → Bool := fun t => [0, 1, 2, 4, 33, 56, 69, 104].contains t
def c82 : LCode :=
 .seq (.region [oT 2 (.box (.t 0)),
 oT 4 (.mov (.c (.int .i64 0)))])
 (.seq (.seq (.region [oM 5 1,
 oU 6 (.faddr 0 (.t 2)),
 oU 7 (.load false 1 (.u 6)),
 oU 8 (.call 95 [(.u 5), (.u 7)]),
 oU 9 (.un .not (.u 8)),
 oU 10 (.mov (.u 9)),
 ⟨some 11, false, some ((.u 10), false), .faddr 4 (.t 2)⟩,
 ⟨some 12, false, some ((.u 10), false), .load false 1 (.u 11)⟩,
 ⟨some 13, false, some ((.u 10), false), .bin .neq (.u 12) (.c (.int .i64 0))⟩,
 ⟨some 14, false, some ((.u 10), false), .mov (.u 13)⟩,
 ⟨some 15, false, some ((.u 14), true), .mov (.t 1)⟩,
 ⟨some 16, false, some ((.u 14), true), .faddr 4 (.t 2)⟩,
 ⟨some 17, false, some ((.u 14), true), .load false 1 (.u 16)⟩,
 ⟨some 18, false, some ((.u 14), true), .call 95 [(.u 15), (.u 17)]⟩,
 ⟨some 19, false, some ((.u 14), true), .un .not (.u 18)⟩,
 ⟨some 20, false, some ((.u 14), true), .mov (.u 19)⟩,
 ⟨some 21, false, some ((.u 20), false), .faddr 0 (.t 2)⟩,
 ⟨some 22, false, some ((.u 20), false), .load false 1 (.u 21)⟩,
 ⟨some 23, false, some ((.u 20), false), .call 96 [(.u 22)]⟩,
 ⟨some 24, false, some ((.u 20), false), .un .not (.u 23)⟩,
 ⟨some 25, false, some ((.u 14), true), .pick (.u 20) (.c (.bool true)) (.u 24)⟩,
 ⟨some 26, false, some ((.u 14), true), .mov (.u 25)⟩,
 ⟨some 27, false, some ((.u 26), false), .faddr 4 (.t 2)⟩,
 ⟨some 28, false, some ((.u 26), false), .load false 1 (.u 27)⟩,
 ⟨some 29, false, some ((.u 26), false), .call 96 [(.u 28)]⟩,
 ⟨some 30, false, some ((.u 26), false), .un .not (.u 29)⟩,
 ⟨some 31, false, some ((.u 14), true), .pick (.u 26) (.c (.bool true)) (.u 30)⟩,
 ⟨some 32, false, some ((.u 10), false), .pick (.u 14) (.u 31) (.c (.bool false))⟩,
 oT 33 (.pick (.u 10) (.c (.bool true)) (.u 32))])
 (.cond (.t 33)
 (.seq (.region [oT 4 (.mov (.c (.int .i64 120)))])
 (.ret))
 (.skip)))
 (.seq (.seq (.region [oU 34 (.faddr 1 (.t 2)),
 oU 35 (.load false 1 (.u 34)),
 oU 36 (.bin .lss (.u 35) (.c (.int .i64 1))),
 oU 37 (.mov (.u 36)),
 ⟨some 38, false, some ((.u 37), false), .faddr 1 (.t 2)⟩,
 ⟨some 39, false, some ((.u 37), false), .load false 1 (.u 38)⟩,
 ⟨some 40, false, some ((.u 37), false), .bin .gtr (.u 39) (.c (.int .i64 8))⟩,
 oU 41 (.pick (.u 37) (.c (.bool true)) (.u 40)),
 oU 42 (.mov (.u 41)),
 ⟨some 43, false, some ((.u 42), false), .faddr 1 (.t 2)⟩,
 ⟨some 44, false, some ((.u 42), false), .load false 1 (.u 43)⟩,
 ⟨some 45, false, some ((.u 42), false), .bin .gtr (.u 44) (.c (.int .i64 2))⟩,
 ⟨some 46, false, some ((.u 42), false), .mov (.u 45)⟩,
 ⟨some 47, false, some ((.u 46), true), .faddr 0 (.t 2)⟩,
 ⟨some 48, false, some ((.u 46), true), .load false 1 (.u 47)⟩,
 ⟨some 49, false, some ((.u 46), true), .call 83 [(.u 48)]⟩,
 ⟨some 50, false, some ((.u 46), true), .mov (.u 49)⟩,
 ⟨some 51, false, some ((.u 50), false), .faddr 4 (.t 2)⟩,
 ⟨some 52, false, some ((.u 50), false), .load false 1 (.u 51)⟩,
 ⟨some 53, false, some ((.u 50), false), .bin .neq (.u 52) (.c (.int .i64 0))⟩,
 ⟨some 54, false, some ((.u 46), true), .pick (.u 50) (.c (.bool true)) (.u 53)⟩,
 ⟨some 55, false, some ((.u 42), false), .pick (.u 46) (.u 54) (.c (.bool false))⟩,
 oT 56 (.pick (.u 42) (.c (.bool true)) (.u 55))])
 (.cond (.t 56)
 (.seq (.region [oT 4 (.mov (.c (.int .i64 121)))])
 (.ret))
 (.skip)))
 (.seq (.seq (.region [oU 57 (.faddr 4 (.t 2)),
 oU 58 (.load false 1 (.u 57)),
 oU 59 (.bin .neq (.u 58) (.c (.int .i64 0))),
 oU 60 (.mov (.u 59)),
 ⟨some 61, false, some ((.u 60), true), .faddr 2 (.t 2)⟩,
 ⟨some 62, false, some ((.u 60), true), .load false 1 (.u 61)⟩,
 ⟨some 63, false, some ((.u 60), true), .bin .neq (.u 62) (.c (.int .i64 0))⟩,
 ⟨some 64, false, some ((.u 60), true), .mov (.u 63)⟩,
 ⟨some 65, false, some ((.u 64), false), .faddr 3 (.t 2)⟩,
 ⟨some 66, false, some ((.u 64), false), .load false 1 (.u 65)⟩,
 ⟨some 67, false, some ((.u 64), false), .bin .neq (.u 66) (.c (.str []))⟩,
 ⟨some 68, false, some ((.u 60), true), .pick (.u 64) (.c (.bool true)) (.u 67)⟩,
 oT 69 (.pick (.u 60) (.u 68) (.c (.bool false)))])
 (.cond (.t 69)
 (.seq (.region [oT 4 (.mov (.c (.int .i64 122)))])
 (.ret))
 (.skip)))
 (.seq (.seq (.region [oU 70 (.faddr 4 (.t 2)),
 oU 71 (.load false 1 (.u 70)),
 oU 72 (.bin .eql (.u 71) (.c (.int .i64 0))),
 oU 73 (.mov (.u 72)),
 ⟨some 74, false, some ((.u 73), true), .faddr 0 (.t 2)⟩,
 ⟨some 75, false, some ((.u 73), true), .load false 1 (.u 74)⟩,
 ⟨some 76, false, some ((.u 73), true), .call 83 [(.u 75)]⟩,
 oU 77 (.pick (.u 73) (.u 76) (.c (.bool false))),
 oU 78 (.mov (.u 77)),
 ⟨some 79, false, some ((.u 78), true), .faddr 2 (.t 2)⟩,
 ⟨some 80, false, some ((.u 78), true), .load false 1 (.u 79)⟩,
 ⟨some 81, false, some ((.u 78), true), .bin .neq (.u 80) (.c (.int .i64 0))⟩,
 ⟨some 82, false, some ((.u 78), true), .mov (.u 81)⟩,
 ⟨some 83, false, some ((.u 82), false), .faddr 3 (.t 2)⟩,
 ⟨some 84, false, some ((.u 82), false), .load false 1 (.u 83)⟩,
 ⟨some 85, false, some ((.u 82), false), .bin .eql (.u 84) (.c (.str []))⟩,
 ⟨some 86, false, some ((.u 78), true), .pick (.u 82) (.c (.bool true)) (.u 85)⟩,
 ⟨some 87, false, some ((.u 78), true), .mov (.u 86)⟩,
 ⟨some 88, false, some ((.u 87), false), .faddr 3 (.t 2)⟩,
 ⟨some 89, false, some ((.u 87), false), .load false 1 (.u 88)⟩,
 ⟨some 90, false, some ((.u 87), false), .len (.u 89)⟩,
 ⟨some 91, false, some ((.u 87), false), .bin .gtr (.u 90) (.c (.int .i64 640))⟩,
 ⟨some 92, false, some ((.u 78), true), .pick (.u 87) (.c (.bool true)) (.u 91)⟩,
 oU 93 (.pick (.u 78) (.u 92) (.c (.bool false))),
 oU 94 (.mov (.u 93)),
 ⟨some 95, false, some ((.u 94), false), .faddr 0 (.t 2)⟩,
 ⟨some 96, false, some ((.u 94), false), .load false 1 (.u 95)⟩,
 ⟨some 97, false, some ((.u 94), false), .call 83 [(.u 96)]⟩,
 ⟨some 98, false, some ((.u 94), false), .un .not (.u 97)⟩,
 ⟨some 99, false, some ((.u 94), false), .mov (.u 98)⟩,
 ⟨some 100, false, some ((.u 99), true), .faddr 3 (.t 2)⟩,
 ⟨some 101, false, some ((.u 99), true), .load false 1 (.u 100)⟩,
 ⟨some 102, false, some ((.u 99), true), .bin .neq (.u 101) (.c (.str []))⟩,
 ⟨some 103, false, some ((.u 94), false), .pick (.u 99) (.u 102) (.c (.bool false))⟩,
 oT 104 (.pick (.u 94) (.c (.bool true)) (.u 103))])
 (.cond (.t 104)
 (.seq (.region [oT 4 (.mov (.c (.int .i64 122)))])
 (.ret))
 (.skip)))
 (.seq (.region [oT 4 (.mov (.c (.int .i64 0)))])
 (.ret))))))
def r82 : List LRes := [.slot 4]
theorem t82 : (Try.f82.body.bind (trCode v82 Try.prog Try.f82.ntmps)) = some c82 ∧ trRes v82 Try.prog Try.f82.results.toList = some r82 := ⟨by kernel_rfl, by kernel_rfl⟩

def v83 : Nat → Bool := fun t => [0, 2].contains t
def c83 : LCode :=
 .seq (.region [oT 2 (.mov (.c (.bool false)))])
 (.seq (.region [oM 3 0,
 oU 4 (.bin .eql (.u 3) (.c (.int .i64 13))),
 oU 5 (.mov (.u 4)),
 ⟨some 6, false, some ((.u 5), false), .mov (.t 0)⟩,
 ⟨some 7, false, some ((.u 5), false), .bin .eql (.u 6) (.c (.int .i64 14))⟩,
 oU 8 (.pick (.u 5) (.c (.bool true)) (.u 7)),
 oT 2 (.mov (.u 8))])
 (.ret))
def r83 : List LRes := [.slot 2]
theorem t83 : (Try.f83.body.bind (trCode v83 Try.prog Try.f83.ntmps)) = some c83 ∧ trRes v83 Try.prog Try.f83.results.toList = some r83 := ⟨by kernel_rfl, by kernel_rfl⟩

def v84 : Nat → Bool := fun t => [0, 1, 2, 4, 5, 6, 7, 10, 11, 15, 19, 23, 27, 31, 35, 39, 43, 54, 58, 62, 63, 68, 73, 77, 81].contains t
def c84 : LCode :=
 .seq (.region [oT 4 (.box (.t 1)),
 oT 5 (.box (.t 2)),
 oT 6 (.mov (.c (.int .i64 0)))])
 (.seq (.region [oU 8 (.faddr 1 (.t 4)),
 oU 9 (.load true 14 (.u 8)),
 oT 7 (.zero [.int .i64 0, .int .i64 0, .int .i64 0, .int .i64 0, .int .i64 0, .int .i64 0, .int .i64 0, .int .i64 0, .int .i64 0, .int .i64 0, .str [], .str [], .fsl 1 0 [], .bool false]),
 oN (.store 14 (.t 7) (.u 9))])
 (.seq (.seq (.region [oT 10 (.mov (.t 0))])
 (.block 0 (.seq (.region [oU 12 (.bin .eql (.t 10) (.c (.int .i64 1))),
 oT 11 (.mov (.u 12))])
 (.cond (.t 11)
 (.seq (.region [oU 13 (.faddr 0 (.t 7)),
 oU 14 (.load false 1 (.u 13)),
 oT 6 (.mov (.u 14))])
 (.ret))
 (.seq (.region [oU 16 (.bin .eql (.t 10) (.c (.int .i64 2))),
 oT 15 (.mov (.u 16))])
 (.cond (.t 15)
 (.seq (.region [oU 17 (.faddr 1 (.t 7)),
 oU 18 (.load false 1 (.u 17)),
 oT 6 (.mov (.u 18))])
 (.ret))
 (.seq (.region [oU 20 (.bin .eql (.t 10) (.c (.int .i64 3))),
 oT 19 (.mov (.u 20))])
 (.cond (.t 19)
 (.seq (.region [oU 21 (.faddr 2 (.t 7)),
 oU 22 (.load false 1 (.u 21)),
 oT 6 (.mov (.u 22))])
 (.ret))
 (.seq (.region [oU 24 (.bin .eql (.t 10) (.c (.int .i64 4))),
 oT 23 (.mov (.u 24))])
 (.cond (.t 23)
 (.seq (.region [oU 25 (.faddr 3 (.t 7)),
 oU 26 (.load false 1 (.u 25)),
 oT 6 (.mov (.u 26))])
 (.ret))
 (.seq (.region [oU 28 (.bin .eql (.t 10) (.c (.int .i64 5))),
 oT 27 (.mov (.u 28))])
 (.cond (.t 27)
 (.seq (.region [oU 29 (.faddr 4 (.t 7)),
 oU 30 (.load false 1 (.u 29)),
 oT 6 (.mov (.u 30))])
 (.ret))
 (.seq (.region [oU 32 (.bin .eql (.t 10) (.c (.int .i64 6))),
 oT 31 (.mov (.u 32))])
 (.cond (.t 31)
 (.seq (.region [oU 33 (.faddr 5 (.t 7)),
 oU 34 (.load false 1 (.u 33)),
 oT 6 (.mov (.u 34))])
 (.ret))
 (.seq (.region [oU 36 (.bin .eql (.t 10) (.c (.int .i64 7))),
 oT 35 (.mov (.u 36))])
 (.cond (.t 35)
 (.seq (.region [oU 37 (.faddr 6 (.t 7)),
 oU 38 (.load false 1 (.u 37)),
 oT 6 (.mov (.u 38))])
 (.ret))
 (.seq (.region [oU 40 (.bin .eql (.t 10) (.c (.int .i64 8))),
 oT 39 (.mov (.u 40))])
 (.cond (.t 39)
 (.seq (.region [oU 41 (.faddr 7 (.t 7)),
 oU 42 (.load false 1 (.u 41)),
 oT 6 (.mov (.u 42))])
 (.ret))
 (.seq (.seq (.region [oU 44 (.bin .eql (.t 10) (.c (.int .i64 9))),
 oT 43 (.mov (.u 44))])
 (.cond (.t 43)
 (.skip)
 (.seq (.region [oU 45 (.bin .eql (.t 10) (.c (.int .i64 10))),
 oT 43 (.mov (.u 45))])
 (.cond (.t 43)
 (.skip)
 (.seq (.region [oU 46 (.bin .eql (.t 10) (.c (.int .i64 11))),
 oT 43 (.mov (.u 46))])
 (.cond (.t 43)
 (.skip)
 (.region [oU 47 (.bin .eql (.t 10) (.c (.int .i64 12))),
 oT 43 (.mov (.u 47))])))))))
 (.cond (.t 43)
 (.seq (.region [oM 48 0,
 oU 49 (.bin .sub (.u 48) (.c (.int .i64 9))),
 oU 50 (.faddr 15 (.t 4)),
 oU 51 (.faddr 1 (.u 50)),
 oU 52 (.iaA 4 1 (.u 51) (.u 49)),
 oU 53 (.load false 1 (.u 52)),
 oT 6 (.mov (.u 53))])
 (.ret))
 (.seq (.region [oU 55 (.bin .eql (.t 10) (.c (.int .i64 15))),
 oT 54 (.mov (.u 55))])
 (.cond (.t 54)
 (.seq (.region [oU 56 (.faddr 22 (.t 4)),
 oU 57 (.load false 1 (.u 56)),
 oT 6 (.mov (.u 57))])
 (.ret))
 (.seq (.region [oU 59 (.bin .eql (.t 10) (.c (.int .i64 16))),
 oT 58 (.mov (.u 59))])
 (.cond (.t 58)
 (.seq (.seq (.region [oU 60 (.faddr 22 (.t 4)),
 oU 61 (.load false 1 (.u 60)),
 oT 62 (.bin .geq (.u 61) (.c (.int .i64 0)))])
 (.cond (.t 62)
 (.seq (.region [oT 6 (.mov (.c (.int .i64 1)))])
 (.ret))
 (.skip)))
 (.seq (.region [oT 6 (.mov (.c (.int .i64 0)))])
 (.ret)))
 (.seq (.region [oU 64 (.bin .eql (.t 10) (.c (.int .i64 17))),
 oT 63 (.mov (.u 64))])
 (.cond (.t 63)
 (.seq (.region [oU 65 (.faddr 5 (.t 5)),
 oU 66 (.faddr 1 (.u 65)),
 oU 67 (.load false 1 (.u 66)),
 oT 6 (.mov (.u 67))])
 (.ret))
 (.seq (.region [oU 69 (.bin .eql (.t 10) (.c (.int .i64 18))),
 oT 68 (.mov (.u 69))])
 (.cond (.t 68)
 (.seq (.region [oU 70 (.faddr 5 (.t 5)),
 oU 71 (.faddr 0 (.u 70)),
 oU 72 (.load false 1 (.u 71)),
 oT 6 (.mov (.u 72))])
 (.ret))
 (.seq (.region [oU 74 (.bin .eql (.t 10) (.c (.int .i64 19))),
 oT 73 (.mov (.u 74))])
 (.cond (.t 73)
 (.seq (.region [oU 75 (.faddr 10 (.t 5)),
 oU 76 (.load false 1 (.u 75)),
 oT 6 (.mov (.u 76))])
 (.ret))
 (.seq (.region [oU 78 (.bin .eql (.t 10) (.c (.int .i64 20))),
 oT 77 (.mov (.u 78))])
 (.cond (.t 77)
 (.seq (.region [oU 79 (.faddr 11 (.t 5)),
 oU 80 (.load false 1 (.u 79)),
 oT 6 (.mov (.u 80))])
 (.ret))
 (.seq (.region [oU 82 (.bin .eql (.t 10) (.c (.int .i64 21))),
 oT 81 (.mov (.u 82))])
 (.cond (.t 81)
 (.seq (.region [oU 83 (.faddr 8 (.t 5)),
 oU 84 (.load false 1 (.u 83)),
 oT 6 (.mov (.u 84))])
 (.ret))
 (.skip)))))))))))))))))))))))))))))))))))
 (.seq (.region [oU 85 (.faddr 24 (.t 4)),
 oU 86 (.load false 1 (.u 85)),
 oT 6 (.mov (.u 86))])
 (.ret))))
def r84 : List LRes := [.slot 6]
theorem t84 : (Try.f84.body.bind (trCode v84 Try.prog Try.f84.ntmps)) = some c84 ∧ trRes v84 Try.prog Try.f84.results.toList = some r84 := ⟨by kernel_rfl, by kernel_rfl⟩

def v85 : Nat → Bool := fun t => [0, 1, 2, 6, 7, 8, 13, 18, 23, 28, 33, 38].contains t
def c85 : LCode :=
 .seq (.region [oT 6 (.mov (.c (.bool false)))])
 (.seq (.seq (.region [oT 7 (.mov (.t 0))])
 (.block 0 (.seq (.region [oU 9 (.bin .eql (.t 7) (.c (.int .i64 1))),
 oT 8 (.mov (.u 9))])
 (.cond (.t 8)
 (.seq (.region [oM 10 1,
 oM 11 2,
 oU 12 (.bin .eql (.u 10) (.u 11)),
 oT 6 (.mov (.u 12))])
 (.ret))
 (.seq (.region [oU 14 (.bin .eql (.t 7) (.c (.int .i64 2))),
 oT 13 (.mov (.u 14))])
 (.cond (.t 13)
 (.seq (.region [oM 15 1,
 oM 16 2,
 oU 17 (.bin .neq (.u 15) (.u 16)),
 oT 6 (.mov (.u 17))])
 (.ret))
 (.seq (.region [oU 19 (.bin .eql (.t 7) (.c (.int .i64 3))),
 oT 18 (.mov (.u 19))])
 (.cond (.t 18)
 (.seq (.region [oM 20 1,
 oM 21 2,
 oU 22 (.bin .lss (.u 20) (.u 21)),
 oT 6 (.mov (.u 22))])
 (.ret))
 (.seq (.region [oU 24 (.bin .eql (.t 7) (.c (.int .i64 4))),
 oT 23 (.mov (.u 24))])
 (.cond (.t 23)
 (.seq (.region [oM 25 1,
 oM 26 2,
 oU 27 (.bin .leq (.u 25) (.u 26)),
 oT 6 (.mov (.u 27))])
 (.ret))
 (.seq (.region [oU 29 (.bin .eql (.t 7) (.c (.int .i64 5))),
 oT 28 (.mov (.u 29))])
 (.cond (.t 28)
 (.seq (.region [oM 30 1,
 oM 31 2,
 oU 32 (.bin .gtr (.u 30) (.u 31)),
 oT 6 (.mov (.u 32))])
 (.ret))
 (.seq (.region [oU 34 (.bin .eql (.t 7) (.c (.int .i64 6))),
 oT 33 (.mov (.u 34))])
 (.cond (.t 33)
 (.seq (.region [oM 35 1,
 oM 36 2,
 oU 37 (.bin .geq (.u 35) (.u 36)),
 oT 6 (.mov (.u 37))])
 (.ret))
 (.seq (.region [oU 39 (.bin .eql (.t 7) (.c (.int .i64 7))),
 oT 38 (.mov (.u 39))])
 (.cond (.t 38)
 (.seq (.region [oM 40 1,
 oM 41 2,
 oU 42 (.bin .and (.u 40) (.u 41)),
 oU 43 (.bin .neq (.u 42) (.c (.int .i64 0))),
 oT 6 (.mov (.u 43))])
 (.ret))
 (.skip)))))))))))))))))
 (.seq (.region [oM 44 1,
 oM 45 2,
 oU 46 (.bin .and (.u 44) (.u 45)),
 oM 47 2,
 oU 48 (.bin .eql (.u 46) (.u 47)),
 oT 6 (.mov (.u 48))])
 (.ret)))
def r85 : List LRes := [.slot 6]
theorem t85 : (Try.f85.body.bind (trCode v85 Try.prog Try.f85.ntmps)) = some c85 ∧ trRes v85 Try.prog Try.f85.results.toList = some r85 := ⟨by kernel_rfl, by kernel_rfl⟩

def v89 : Nat → Bool := fun t => [0, 2, 9].contains t
def c89 : LCode :=
 .seq (.region [oT 2 (.zero [.str [], .int .i64 0, .int .i64 0, .int .i64 0, .int .i64 0])])
 (.seq (.seq (.region [oM 3 0,
 oU 4 (.bin .lss (.u 3) (.c (.int .i64 0))),
 oU 5 (.mov (.u 4)),
 ⟨some 6, false, some ((.u 5), false), .mov (.t 0)⟩,
 ⟨some 7, false, some ((.u 5), false), .call 99 []⟩,
 ⟨some 8, false, some ((.u 5), false), .bin .geq (.u 6) (.u 7)⟩,
 oT 9 (.pick (.u 5) (.c (.bool true)) (.u 8))])
 (.cond (.t 9)
 (.seq (.region [oU 10 (.build [.str [], .int .i64 0, .int .i64 0, .int .i64 0, .int .i64 0] []),
 oN (.store 5 (.t 2) (.u 10))])
 (.ret))
 (.skip)))
 (.seq (.region [oU 11 (.call 100 []),
 oM 12 0,
 oU 13 (.iaS 5 (.u 11) (.u 12)),
 oU 14 (.load true 5 (.u 13)),
 oN (.store 5 (.t 2) (.u 14))])
 (.ret)))
def r89 : List LRes := [.cell true 5 2]
theorem t89 : (Try.f89.body.bind (trCode v89 Try.prog Try.f89.ntmps)) = some c89 ∧ trRes v89 Try.prog Try.f89.results.toList = some r89 := ⟨by kernel_rfl, by kernel_rfl⟩

def v90 : Nat → Bool := fun t => [0, 1, 4, 5, 20, 21, 25, 33, 41].contains t
def c90 : LCode :=
 .seq (.region [oT 4 (.mov (.c (.bool false)))])
 (.seq (.region [oM 6 1,
 oU 7 (.bin .geq (.u 6) (.c (.int .i64 1))),
 oU 8 (.mov (.u 7)),
 ⟨some 9, false, some ((.u 8), true), .mov (.t 1)⟩,
 ⟨some 10, false, some ((.u 8), true), .bin .leq (.u 9) (.c (.int .i64 8))⟩,
 oU 11 (.pick (.u 8) (.u 10) (.c (.bool false))),
 oU 12 (.mov (.u 11)),
 ⟨some 13, false, some ((.u 12), false), .mov (.t 1)⟩,
 ⟨some 14, false, some ((.u 12), false), .bin .eql (.u 13) (.c (.int .i64 13))⟩,
 oU 15 (.pick (.u 12) (.c (.bool true)) (.u 14)),
 oU 16 (.mov (.u 15)),
 ⟨some 17, false, some ((.u 16), false), .mov (.t 1)⟩,
 ⟨some 18, false, some ((.u 16), false), .bin .eql (.u 17) (.c (.int .i64 14))⟩,
 oU 19 (.pick (.u 16) (.c (.bool true)) (.u 18)),
 oT 5 (.mov (.u 19))])
 (.seq (.seq (.region [oT 20 (.mov (.t 0))])
 (.block 0 (.seq (.seq (.region [oU 22 (.bin .eql (.t 20) (.c (.int .i64 1))),
 oT 21 (.mov (.u 22))])
 (.cond (.t 21)
 (.skip)
 (.region [oU 23 (.bin .eql (.t 20) (.c (.int .i64 4))),
 oT 21 (.mov (.u 23))])))
 (.cond (.t 21)
 (.seq (.region [oM 24 5,
 oT 4 (.mov (.u 24))])
 (.ret))
 (.seq (.region [oU 26 (.bin .eql (.t 20) (.c (.int .i64 2))),
 oT 25 (.mov (.u 26))])
 (.cond (.t 25)
 (.seq (.region [oM 27 1,
 oU 28 (.bin .geq (.u 27) (.c (.int .i64 1))),
 oU 29 (.mov (.u 28)),
 ⟨some 30, false, some ((.u 29), true), .mov (.t 1)⟩,
 ⟨some 31, false, some ((.u 29), true), .bin .leq (.u 30) (.c (.int .i64 14))⟩,
 oU 32 (.pick (.u 29) (.u 31) (.c (.bool false))),
 oT 4 (.mov (.u 32))])
 (.ret))
 (.seq (.region [oU 34 (.bin .eql (.t 20) (.c (.int .i64 3))),
 oT 33 (.mov (.u 34))])
 (.cond (.t 33)
 (.seq (.region [oM 35 1,
 oU 36 (.bin .geq (.u 35) (.c (.int .i64 1))),
 oU 37 (.mov (.u 36)),
 ⟨some 38, false, some ((.u 37), true), .mov (.t 1)⟩,
 ⟨some 39, false, some ((.u 37), true), .bin .leq (.u 38) (.c (.int .i64 21))⟩,
 oU 40 (.pick (.u 37) (.u 39) (.c (.bool false))),
 oT 4 (.mov (.u 40))])
 (.ret))
 (.seq (.region [oU 42 (.bin .eql (.t 20) (.c (.int .i64 5))),
 oT 41 (.mov (.u 42))])
 (.cond (.t 41)
 (.seq (.region [oM 43 5,
 oU 44 (.mov (.u 43)),
 ⟨some 45, false, some ((.u 44), false), .mov (.t 1)⟩,
 ⟨some 46, false, some ((.u 44), false), .bin .eql (.u 45) (.c (.int .i64 22))⟩,
 oU 47 (.pick (.u 44) (.c (.bool true)) (.u 46)),
 oT 4 (.mov (.u 47))])
 (.ret))
 (.skip)))))))))))
 (.seq (.region [oT 4 (.mov (.c (.bool false)))])
 (.ret))))
def r90 : List LRes := [.slot 4]
theorem t90 : (Try.f90.body.bind (trCode v90 Try.prog Try.f90.ntmps)) = some c90 ∧ trRes v90 Try.prog Try.f90.results.toList = some r90 := ⟨by kernel_rfl, by kernel_rfl⟩

def v91 : Nat → Bool := fun t => [0, 2, 3, 4].contains t
def c91 : LCode :=
 .seq (.region [oT 2 (.mov (.c (.bool false)))])
 (.seq (.seq (.region [oT 3 (.mov (.t 0))])
 (.block 0 (.seq (.seq (.region [oU 5 (.bin .eql (.t 3) (.c (.int .i64 3))),
 oT 4 (.mov (.u 5))])
 (.cond (.t 4)
 (.skip)
 (.seq (.region [oU 6 (.bin .eql (.t 3) (.c (.int .i64 4))),
 oT 4 (.mov (.u 6))])
 (.cond (.t 4)
 (.skip)
 (.seq (.region [oU 7 (.bin .eql (.t 3) (.c (.int .i64 5))),
 oT 4 (.mov (.u 7))])
 (.cond (.t 4)
 (.skip)
 (.seq (.region [oU 8 (.bin .eql (.t 3) (.c (.int .i64 6))),
 oT 4 (.mov (.u 8))])
 (.cond (.t 4)
 (.skip)
 (.seq (.region [oU 9 (.bin .eql (.t 3) (.c (.int .i64 7))),
 oT 4 (.mov (.u 9))])
 (.cond (.t 4)
 (.skip)
 (.seq (.region [oU 10 (.bin .eql (.t 3) (.c (.int .i64 19))),
 oT 4 (.mov (.u 10))])
 (.cond (.t 4)
 (.skip)
 (.region [oU 11 (.bin .eql (.t 3) (.c (.int .i64 20))),
 oT 4 (.mov (.u 11))])))))))))))))
 (.cond (.t 4)
 (.seq (.region [oT 2 (.mov (.c (.bool true)))])
 (.ret))
 (.skip)))))
 (.seq (.region [oT 2 (.mov (.c (.bool false)))])
 (.ret)))
def r91 : List LRes := [.slot 2]
theorem t91 : (Try.f91.body.bind (trCode v91 Try.prog Try.f91.ntmps)) = some c91 ∧ trRes v91 Try.prog Try.f91.results.toList = some r91 := ⟨by kernel_rfl, by kernel_rfl⟩

def v92 : Nat → Bool := fun t => [0, 2].contains t
def c92 : LCode :=
 .seq (.region [oT 2 (.mov (.c (.bool false)))])
 (.seq (.region [oM 3 0,
 oU 4 (.bin .eql (.u 3) (.c (.int .i64 13))),
 oU 5 (.mov (.u 4)),
 ⟨some 6, false, some ((.u 5), false), .mov (.t 0)⟩,
 ⟨some 7, false, some ((.u 5), false), .bin .eql (.u 6) (.c (.int .i64 14))⟩,
 oU 8 (.pick (.u 5) (.c (.bool true)) (.u 7)),
 oT 2 (.mov (.u 8))])
 (.ret))
def r92 : List LRes := [.slot 2]
theorem t92 : (Try.f92.body.bind (trCode v92 Try.prog Try.f92.ntmps)) = some c92 ∧ trRes v92 Try.prog Try.f92.results.toList = some r92 := ⟨by kernel_rfl, by kernel_rfl⟩

def v93 : Nat → Bool := fun t => [0, 1, 2, 4, 5, 6, 7, 8, 9, 14, 19, 24, 29, 34, 39, 44, 49, 60, 69].contains t
def c93 : LCode :=
 .seq (.region [oT 4 (.box (.t 1)),
 oT 5 (.box (.t 2)),
 oT 6 (.mov (.c (.int .i64 0))),
 oT 7 (.mov (.c (.bool false)))])
 (.seq (.seq (.region [oT 8 (.mov (.t 0))])
 (.block 0 (.seq (.region [oU 10 (.bin .eql (.t 8) (.c (.int .i64 1))),
 oT 9 (.mov (.u 10))])
 (.cond (.t 9)
 (.seq (.region [oU 11 (.faddr 1 (.t 4)),
 oU 12 (.faddr 0 (.u 11)),
 oU 13 (.load false 1 (.u 12)),
 oT 6 (.mov (.u 13)),
 oT 7 (.mov (.c (.bool true)))])
 (.ret))
 (.seq (.region [oU 15 (.bin .eql (.t 8) (.c (.int .i64 2))),
 oT 14 (.mov (.u 15))])
 (.cond (.t 14)
 (.seq (.region [oU 16 (.faddr 1 (.t 4)),
 oU 17 (.faddr 1 (.u 16)),
 oU 18 (.load false 1 (.u 17)),
 oT 6 (.mov (.u 18)),
 oT 7 (.mov (.c (.bool true)))])
 (.ret))
 (.seq (.region [oU 20 (.bin .eql (.t 8) (.c (.int .i64 3))),
 oT 19 (.mov (.u 20))])
 (.cond (.t 19)
 (.seq (.region [oU 21 (.faddr 1 (.t 4)),
 oU 22 (.faddr 2 (.u 21)),
 oU 23 (.load false 1 (.u 22)),
 oT 6 (.mov (.u 23)),
 oT 7 (.mov (.c (.bool true)))])
 (.ret))
 (.seq (.region [oU 25 (.bin .eql (.t 8) (.c (.int .i64 4))),
 oT 24 (.mov (.u 25))])
 (.cond (.t 24)
 (.seq (.region [oU 26 (.faddr 1 (.t 4)),
 oU 27 (.faddr 3 (.u 26)),
 oU 28 (.load false 1 (.u 27)),
 oT 6 (.mov (.u 28)),
 oT 7 (.mov (.c (.bool true)))])
 (.ret))
 (.seq (.region [oU 30 (.bin .eql (.t 8) (.c (.int .i64 5))),
 oT 29 (.mov (.u 30))])
 (.cond (.t 29)
 (.seq (.region [oU 31 (.faddr 1 (.t 4)),
 oU 32 (.faddr 4 (.u 31)),
 oU 33 (.load false 1 (.u 32)),
 oT 6 (.mov (.u 33)),
 oT 7 (.mov (.c (.bool true)))])
 (.ret))
 (.seq (.region [oU 35 (.bin .eql (.t 8) (.c (.int .i64 6))),
 oT 34 (.mov (.u 35))])
 (.cond (.t 34)
 (.seq (.region [oU 36 (.faddr 1 (.t 4)),
 oU 37 (.faddr 5 (.u 36)),
 oU 38 (.load false 1 (.u 37)),
 oT 6 (.mov (.u 38)),
 oT 7 (.mov (.c (.bool true)))])
 (.ret))
 (.seq (.region [oU 40 (.bin .eql (.t 8) (.c (.int .i64 7))),
 oT 39 (.mov (.u 40))])
 (.cond (.t 39)
 (.seq (.region [oU 41 (.faddr 1 (.t 4)),
 oU 42 (.faddr 6 (.u 41)),
 oU 43 (.load false 1 (.u 42)),
 oT 6 (.mov (.u 43)),
 oT 7 (.mov (.c (.bool true)))])
 (.ret))
 (.seq (.region [oU 45 (.bin .eql (.t 8) (.c (.int .i64 8))),
 oT 44 (.mov (.u 45))])
 (.cond (.t 44)
 (.seq (.region [oU 46 (.faddr 1 (.t 4)),
 oU 47 (.faddr 7 (.u 46)),
 oU 48 (.load false 1 (.u 47)),
 oT 6 (.mov (.u 48)),
 oT 7 (.mov (.c (.bool true)))])
 (.ret))
 (.seq (.seq (.region [oU 50 (.bin .eql (.t 8) (.c (.int .i64 9))),
 oT 49 (.mov (.u 50))])
 (.cond (.t 49)
 (.skip)
 (.seq (.region [oU 51 (.bin .eql (.t 8) (.c (.int .i64 10))),
 oT 49 (.mov (.u 51))])
 (.cond (.t 49)
 (.skip)
 (.seq (.region [oU 52 (.bin .eql (.t 8) (.c (.int .i64 11))),
 oT 49 (.mov (.u 52))])
 (.cond (.t 49)
 (.skip)
 (.region [oU 53 (.bin .eql (.t 8) (.c (.int .i64 12))),
 oT 49 (.mov (.u 53))])))))))
 (.cond (.t 49)
 (.seq (.region [oM 54 0,
 oU 55 (.bin .sub (.u 54) (.c (.int .i64 9))),
 oU 56 (.faddr 15 (.t 4)),
 oU 57 (.faddr 1 (.u 56)),
 oU 58 (.iaA 4 1 (.u 57) (.u 55)),
 oU 59 (.load false 1 (.u 58)),
 oT 6 (.mov (.u 59)),
 oT 7 (.mov (.c (.bool true)))])
 (.ret))
 (.seq (.region [oU 61 (.bin .eql (.t 8) (.c (.int .i64 22))),
 oT 60 (.mov (.u 61))])
 (.cond (.t 60)
 (.seq (.regionD [⟨0, [4], false, [], oU 62 (.faddr 24 (.t 4))⟩,
 ⟨1, [62], true, [], oU 63 (.load false 1 (.u 62))⟩,
 ⟨2, [4], false, [], oU 64 (.faddr 24 (.t 4))⟩,
 ⟨3, [64], true, [], oU 65 (.load false 1 (.u 64))⟩,
 ⟨4, [65], false, [], oU 66 (.bin .neq (.u 65) (.c (.int .i64 0)))⟩,
 ⟨5, [63], false, [], oT 6 (.mov (.u 63))⟩,
 ⟨6, [66], false, [], oT 7 (.mov (.u 66))⟩])
 (.ret))
 (.skip)))))))))))))))))))))))
 (.seq (.seq (.region [oU 67 (.faddr 0 (.t 4)),
 oU 68 (.load false 1 (.u 67)),
 oT 69 (.bin .neq (.u 68) (.c (.int .i64 2)))])
 (.cond (.t 69)
 (.seq (.region [oT 6 (.mov (.c (.int .i64 0))),
 oT 7 (.mov (.c (.bool false)))])
 (.ret))
 (.skip)))
 (.seq (.region [oM 70 0,
 oU 71 (.load true 25 (.t 4)),
 oU 72 (.load true 13 (.t 5)),
 oU 73 (.call 101 [(.u 70), (.u 71), (.u 72)]),
 oU 74 (.ext (.u 73) 0),
 oU 75 (.ext (.u 73) 1),
 oT 6 (.mov (.u 74)),
 oT 7 (.mov (.u 75))])
 (.ret))))
def r93 : List LRes := [.slot 6, .slot 7]
theorem t93 : (Try.f93.body.bind (trCode v93 Try.prog Try.f93.ntmps)) = some c93 ∧ trRes v93 Try.prog Try.f93.results.toList = some r93 := ⟨by kernel_rfl, by kernel_rfl⟩

def v94 : Nat → Bool := fun t => [0, 1, 2, 6, 7, 8, 13, 18, 23, 28, 33, 38, 44].contains t
def c94 : LCode :=
 .seq (.region [oT 6 (.mov (.c (.bool false)))])
 (.seq (.seq (.region [oT 7 (.mov (.t 0))])
 (.block 0 (.seq (.region [oU 9 (.bin .eql (.t 7) (.c (.int .i64 1))),
 oT 8 (.mov (.u 9))])
 (.cond (.t 8)
 (.seq (.region [oM 10 1,
 oM 11 2,
 oU 12 (.bin .eql (.u 10) (.u 11)),
 oT 6 (.mov (.u 12))])
 (.ret))
 (.seq (.region [oU 14 (.bin .eql (.t 7) (.c (.int .i64 2))),
 oT 13 (.mov (.u 14))])
 (.cond (.t 13)
 (.seq (.region [oM 15 1,
 oM 16 2,
 oU 17 (.bin .neq (.u 15) (.u 16)),
 oT 6 (.mov (.u 17))])
 (.ret))
 (.seq (.region [oU 19 (.bin .eql (.t 7) (.c (.int .i64 3))),
 oT 18 (.mov (.u 19))])
 (.cond (.t 18)
 (.seq (.region [oM 20 1,
 oM 21 2,
 oU 22 (.bin .lss (.u 20) (.u 21)),
 oT 6 (.mov (.u 22))])
 (.ret))
 (.seq (.region [oU 24 (.bin .eql (.t 7) (.c (.int .i64 4))),
 oT 23 (.mov (.u 24))])
 (.cond (.t 23)
 (.seq (.region [oM 25 1,
 oM 26 2,
 oU 27 (.bin .leq (.u 25) (.u 26)),
 oT 6 (.mov (.u 27))])
 (.ret))
 (.seq (.region [oU 29 (.bin .eql (.t 7) (.c (.int .i64 5))),
 oT 28 (.mov (.u 29))])
 (.cond (.t 28)
 (.seq (.region [oM 30 1,
 oM 31 2,
 oU 32 (.bin .gtr (.u 30) (.u 31)),
 oT 6 (.mov (.u 32))])
 (.ret))
 (.seq (.region [oU 34 (.bin .eql (.t 7) (.c (.int .i64 6))),
 oT 33 (.mov (.u 34))])
 (.cond (.t 33)
 (.seq (.region [oM 35 1,
 oM 36 2,
 oU 37 (.bin .geq (.u 35) (.u 36)),
 oT 6 (.mov (.u 37))])
 (.ret))
 (.seq (.region [oU 39 (.bin .eql (.t 7) (.c (.int .i64 7))),
 oT 38 (.mov (.u 39))])
 (.cond (.t 38)
 (.seq (.region [oM 40 1,
 oM 41 2,
 oU 42 (.bin .and (.u 40) (.u 41)),
 oU 43 (.bin .neq (.u 42) (.c (.int .i64 0))),
 oT 6 (.mov (.u 43))])
 (.ret))
 (.seq (.region [oU 45 (.bin .eql (.t 7) (.c (.int .i64 8))),
 oT 44 (.mov (.u 45))])
 (.cond (.t 44)
 (.seq (.region [oM 46 1,
 oM 47 2,
 oU 48 (.bin .and (.u 46) (.u 47)),
 oM 49 2,
 oU 50 (.bin .eql (.u 48) (.u 49)),
 oT 6 (.mov (.u 50))])
 (.ret))
 (.skip)))))))))))))))))))
 (.seq (.region [oT 6 (.mov (.c (.bool false)))])
 (.ret)))
def r94 : List LRes := [.slot 6]
theorem t94 : (Try.f94.body.bind (trCode v94 Try.prog Try.f94.ntmps)) = some c94 ∧ trRes v94 Try.prog Try.f94.results.toList = some r94 := ⟨by kernel_rfl, by kernel_rfl⟩

def v95 : Nat → Bool := fun t => [0, 1, 4, 5, 11, 22, 23, 27, 31, 35].contains t
def c95 : LCode :=
 .seq (.region [oT 4 (.mov (.c (.bool false)))])
 (.seq (.seq (.region [oM 6 1,
 oU 7 (.bin .lss (.u 6) (.c (.int .i64 1))),
 oU 8 (.mov (.u 7)),
 ⟨some 9, false, some ((.u 8), false), .mov (.t 1)⟩,
 ⟨some 10, false, some ((.u 8), false), .bin .gtr (.u 9) (.c (.int .i64 22))⟩,
 oT 11 (.pick (.u 8) (.c (.bool true)) (.u 10))])
 (.cond (.t 11)
 (.seq (.region [oT 4 (.mov (.c (.bool false)))])
 (.ret))
 (.skip)))
 (.seq (.region [oM 12 1,
 oU 13 (.bin .leq (.u 12) (.c (.int .i64 8))),
 oU 14 (.mov (.u 13)),
 ⟨some 15, false, some ((.u 14), false), .mov (.t 1)⟩,
 ⟨some 16, false, some ((.u 14), false), .bin .eql (.u 15) (.c (.int .i64 13))⟩,
 oU 17 (.pick (.u 14) (.c (.bool true)) (.u 16)),
 oU 18 (.mov (.u 17)),
 ⟨some 19, false, some ((.u 18), false), .mov (.t 1)⟩,
 ⟨some 20, false, some ((.u 18), false), .bin .eql (.u 19) (.c (.int .i64 14))⟩,
 oU 21 (.pick (.u 18) (.c (.bool true)) (.u 20)),
 oT 5 (.mov (.u 21))])
 (.seq (.seq (.region [oT 22 (.mov (.t 0))])
 (.block 0 (.seq (.seq (.region [oU 24 (.bin .eql (.t 22) (.c (.int .i64 1))),
 oT 23 (.mov (.u 24))])
 (.cond (.t 23)
 (.skip)
 (.region [oU 25 (.bin .eql (.t 22) (.c (.int .i64 4))),
 oT 23 (.mov (.u 25))])))
 (.cond (.t 23)
 (.seq (.region [oM 26 5,
 oT 4 (.mov (.u 26))])
 (.ret))
 (.seq (.region [oU 28 (.bin .eql (.t 22) (.c (.int .i64 2))),
 oT 27 (.mov (.u 28))])
 (.cond (.t 27)
 (.seq (.region [oM 29 1,
 oU 30 (.bin .leq (.u 29) (.c (.int .i64 14))),
 oT 4 (.mov (.u 30))])
 (.ret))
 (.seq (.region [oU 32 (.bin .eql (.t 22) (.c (.int .i64 3))),
 oT 31 (.mov (.u 32))])
 (.cond (.t 31)
 (.seq (.region [oM 33 1,
 oU 34 (.bin .lss (.u 33) (.c (.int .i64 22))),
 oT 4 (.mov (.u 34))])
 (.ret))
 (.seq (.region [oU 36 (.bin .eql (.t 22) (.c (.int .i64 5))),
 oT 35 (.mov (.u 36))])
 (.cond (.t 35)
 (.seq (.region [oM 37 5,
 oU 38 (.mov (.u 37)),
 ⟨some 39, false, some ((.u 38), false), .mov (.t 1)⟩,
 ⟨some 40, false, some ((.u 38), false), .bin .eql (.u 39) (.c (.int .i64 22))⟩,
 oU 41 (.pick (.u 38) (.c (.bool true)) (.u 40)),
 oT 4 (.mov (.u 41))])
 (.ret))
 (.skip)))))))))))
 (.seq (.region [oT 4 (.mov (.c (.bool false)))])
 (.ret)))))
def r95 : List LRes := [.slot 4]
theorem t95 : (Try.f95.body.bind (trCode v95 Try.prog Try.f95.ntmps)) = some c95 ∧ trRes v95 Try.prog Try.f95.results.toList = some r95 := ⟨by kernel_rfl, by kernel_rfl⟩

def v96 : Nat → Bool := fun t => [0, 2, 3, 4].contains t
def c96 : LCode :=
 .seq (.region [oT 2 (.mov (.c (.bool false)))])
 (.seq (.seq (.region [oT 3 (.mov (.t 0))])
 (.block 0 (.seq (.seq (.region [oU 5 (.bin .eql (.t 3) (.c (.int .i64 3))),
 oT 4 (.mov (.u 5))])
 (.cond (.t 4)
 (.skip)
 (.seq (.region [oU 6 (.bin .eql (.t 3) (.c (.int .i64 4))),
 oT 4 (.mov (.u 6))])
 (.cond (.t 4)
 (.skip)
 (.seq (.region [oU 7 (.bin .eql (.t 3) (.c (.int .i64 5))),
 oT 4 (.mov (.u 7))])
 (.cond (.t 4)
 (.skip)
 (.seq (.region [oU 8 (.bin .eql (.t 3) (.c (.int .i64 6))),
 oT 4 (.mov (.u 8))])
 (.cond (.t 4)
 (.skip)
 (.seq (.region [oU 9 (.bin .eql (.t 3) (.c (.int .i64 7))),
 oT 4 (.mov (.u 9))])
 (.cond (.t 4)
 (.skip)
 (.seq (.region [oU 10 (.bin .eql (.t 3) (.c (.int .i64 19))),
 oT 4 (.mov (.u 10))])
 (.cond (.t 4)
 (.skip)
 (.region [oU 11 (.bin .eql (.t 3) (.c (.int .i64 20))),
 oT 4 (.mov (.u 11))])))))))))))))
 (.cond (.t 4)
 (.seq (.region [oT 2 (.mov (.c (.bool true)))])
 (.ret))
 (.skip)))))
 (.seq (.region [oT 2 (.mov (.c (.bool false)))])
 (.ret)))
def r96 : List LRes := [.slot 2]
theorem t96 : (Try.f96.body.bind (trCode v96 Try.prog Try.f96.ntmps)) = some c96 ∧ trRes v96 Try.prog Try.f96.results.toList = some r96 := ⟨by kernel_rfl, by kernel_rfl⟩

def v99 : Nat → Bool := fun t => [0].contains t
def c99 : LCode :=
 .seq (.region [oT 0 (.mov (.c (.int .i64 0)))])
 (.seq (.region [oU 1 (.call 100 []),
 oU 2 (.lenL (.u 1)),
 oT 0 (.mov (.u 2))])
 (.ret))
def r99 : List LRes := [.slot 0]
theorem t99 : (Try.f99.body.bind (trCode v99 Try.prog Try.f99.ntmps)) = some c99 ∧ trRes v99 Try.prog Try.f99.results.toList = some r99 := ⟨by kernel_rfl, by kernel_rfl⟩

def v100 : Nat → Bool := fun t => [0].contains t
def c100 : LCode :=
 .seq (.region [oT 0 (.mov (.c (.fsl 1 0 [])))])
 (.seq (.region [oU 1 (.build [.str [], .int .i64 0, .int .i64 0, .int .i64 0, .int .i64 0] [(0, 1, (.c (.str [102, 111, 114, 107]))), (1, 1, (.c (.int .i64 0))), (2, 1, (.c (.int .i64 0))), (3, 1, (.c (.int .i64 0))), (4, 1, (.c (.int .i64 0)))]),
 oU 2 (.build [.str [], .int .i64 0, .int .i64 0, .int .i64 0, .int .i64 0] [(0, 1, (.c (.str [101, 120, 101, 99, 118, 101]))), (1, 1, (.c (.int .i64 0))), (2, 1, (.c (.int .i64 1))), (3, 1, (.c (.int .i64 0))), (4, 1, (.c (.int .i64 4)))]),
 oU 3 (.build [.str [], .int .i64 0, .int .i64 0, .int .i64 0, .int .i64 0] [(0, 1, (.c (.str [101, 120, 105, 116]))), (1, 1, (.c (.int .i64 1))), (2, 1, (.c (.int .i64 0))), (3, 1, (.c (.int .i64 0))), (4, 1, (.c (.int .i64 0)))]),
 oU 4 (.build [.str [], .int .i64 0, .int .i64 0, .int .i64 0, .int .i64 0] [(0, 1, (.c (.str [115, 101, 116, 117, 105, 100]))), (1, 1, (.c (.int .i64 1))), (2, 1, (.c (.int .i64 0))), (3, 1, (.c (.int .i64 0))), (4, 1, (.c (.int .i64 0)))]),
 oU 5 (.build [.str [], .int .i64 0, .int .i64 0, .int .i64 0, .int .i64 0] [(0, 1, (.c (.str [115, 101, 116, 103, 105, 100]))), (1, 1, (.c (.int .i64 1))), (2, 1, (.c (.int .i64 0))), (3, 1, (.c (.int .i64 0))), (4, 1, (.c (.int .i64 0)))]),
 oU 6 (.build [.str [], .int .i64 0, .int .i64 0, .int .i64 0, .int .i64 0] [(0, 1, (.c (.str [108, 111, 103, 105, 110]))), (1, 1, (.c (.int .i64 1))), (2, 1, (.c (.int .i64 0))), (3, 1, (.c (.int .i64 0))), (4, 1, (.c (.int .i64 0)))]),
 oU 7 (.build [.str [], .int .i64 0, .int .i64 0, .int .i64 0, .int .i64 0] [(0, 1, (.c (.str [111, 112, 101, 110]))), (1, 1, (.c (.int .i64 2))), (2, 1, (.c (.int .i64 1))), (3, 1, (.c (.int .i64 0))), (4, 1, (.c (.int .i64 0)))]),
 oU 8 (.build [.str [], .int .i64 0, .int .i64 0, .int .i64 0, .int .i64 0] [(0, 1, (.c (.str [99, 108, 111, 115, 101]))), (1, 1, (.c (.int .i64 1))), (2, 1, (.c (.int .i64 0))), (3, 1, (.c (.int .i64 0))), (4, 1, (.c (.int .i64 0)))]),
 oU 9 (.build [.str [], .int .i64 0, .int .i64 0, .int .i64 0, .int .i64 0] [(0, 1, (.c (.str [108, 105, 110, 107]))), (1, 1, (.c (.int .i64 0))), (2, 1, (.c (.int .i64 2))), (3, 1, (.c (.int .i64 0))), (4, 1, (.c (.int .i64 0)))]),
 oU 10 (.build [.str [], .int .i64 0, .int .i64 0, .int .i64 0, .int .i64 0] [(0, 1, (.c (.str [115, 121, 109, 108, 105, 110, 107]))), (1, 1, (.c (.int .i64 0))), (2, 1, (.c (.int .i64 1))), (3, 1, (.c (.int .i64 1))), (4, 1, (.c (.int .i64 1)))]),
 oU 11 (.build [.str [], .int .i64 0, .int .i64 0, .int .i64 0, .int .i64 0] [(0, 1, (.c (.str [117, 110, 108, 105, 110, 107]))), (1, 1, (.c (.int .i64 0))), (2, 1, (.c (.int .i64 1))), (3, 1, (.c (.int .i64 0))), (4, 1, (.c (.int .i64 0)))]),
 oU 12 (.build [.str [], .int .i64 0, .int .i64 0, .int .i64 0, .int .i64 0] [(0, 1, (.c (.str [109, 107, 100, 105, 114]))), (1, 1, (.c (.int .i64 1))), (2, 1, (.c (.int .i64 1))), (3, 1, (.c (.int .i64 0))), (4, 1, (.c (.int .i64 0)))]),
 oU 13 (.build [.str [], .int .i64 0, .int .i64 0, .int .i64 0, .int .i64 0] [(0, 1, (.c (.str [114, 109, 100, 105, 114]))), (1, 1, (.c (.int .i64 0))), (2, 1, (.c (.int .i64 1))), (3, 1, (.c (.int .i64 0))), (4, 1, (.c (.int .i64 0)))]),
 oU 14 (.build [.str [], .int .i64 0, .int .i64 0, .int .i64 0, .int .i64 0] [(0, 1, (.c (.str [114, 101, 110, 97, 109, 101]))), (1, 1, (.c (.int .i64 0))), (2, 1, (.c (.int .i64 2))), (3, 1, (.c (.int .i64 0))), (4, 1, (.c (.int .i64 0)))]),
 oU 15 (.build [.str [], .int .i64 0, .int .i64 0, .int .i64 0, .int .i64 0] [(0, 1, (.c (.str [99, 104, 109, 111, 100]))), (1, 1, (.c (.int .i64 1))), (2, 1, (.c (.int .i64 1))), (3, 1, (.c (.int .i64 0))), (4, 1, (.c (.int .i64 0)))]),
 oU 16 (.build [.str [], .int .i64 0, .int .i64 0, .int .i64 0, .int .i64 0] [(0, 1, (.c (.str [99, 104, 111, 119, 110]))), (1, 1, (.c (.int .i64 2))), (2, 1, (.c (.int .i64 1))), (3, 1, (.c (.int .i64 0))), (4, 1, (.c (.int .i64 0)))]),
 oU 17 (.build [.str [], .int .i64 0, .int .i64 0, .int .i64 0, .int .i64 0] [(0, 1, (.c (.str [99, 104, 100, 105, 114]))), (1, 1, (.c (.int .i64 0))), (2, 1, (.c (.int .i64 1))), (3, 1, (.c (.int .i64 0))), (4, 1, (.c (.int .i64 0)))]),
 oU 18 (.build [.str [], .int .i64 0, .int .i64 0, .int .i64 0, .int .i64 0] [(0, 1, (.c (.str [109, 111, 117, 110, 116]))), (1, 1, (.c (.int .i64 1))), (2, 1, (.c (.int .i64 1))), (3, 1, (.c (.int .i64 0))), (4, 1, (.c (.int .i64 0)))]),
 oU 19 (.build [.str [], .int .i64 0, .int .i64 0, .int .i64 0, .int .i64 0] [(0, 1, (.c (.str [117, 109, 111, 117, 110, 116]))), (1, 1, (.c (.int .i64 1))), (2, 1, (.c (.int .i64 0))), (3, 1, (.c (.int .i64 0))), (4, 1, (.c (.int .i64 0)))]),
 oU 20 (.build [.str [], .int .i64 0, .int .i64 0, .int .i64 0, .int .i64 0] [(0, 1, (.c (.str [99, 111, 110, 110, 101, 99, 116]))), (1, 1, (.c (.int .i64 1))), (2, 1, (.c (.int .i64 0))), (3, 1, (.c (.int .i64 1))), (4, 1, (.c (.int .i64 1)))]),
 oU 21 (.build [.str [], .int .i64 0, .int .i64 0, .int .i64 0, .int .i64 0] [(0, 1, (.c (.str [107, 105, 108, 108]))), (1, 1, (.c (.int .i64 2))), (2, 1, (.c (.int .i64 0))), (3, 1, (.c (.int .i64 0))), (4, 1, (.c (.int .i64 0)))]),
 oU 22 (.build [.str [], .int .i64 0, .int .i64 0, .int .i64 0, .int .i64 0] [(0, 1, (.c (.str [116, 114, 117, 110, 99, 97, 116, 101]))), (1, 1, (.c (.int .i64 1))), (2, 1, (.c (.int .i64 1))), (3, 1, (.c (.int .i64 0))), (4, 1, (.c (.int .i64 0)))]),
 oU 23 (.mkS 5 22 [.str [], .int .i64 0, .int .i64 0, .int .i64 0, .int .i64 0] [(0, 5, (.u 1)), (5, 5, (.u 2)), (10, 5, (.u 3)), (15, 5, (.u 4)), (20, 5, (.u 5)), (25, 5, (.u 6)), (30, 5, (.u 7)), (35, 5, (.u 8)), (40, 5, (.u 9)), (45, 5, (.u 10)), (50, 5, (.u 11)), (55, 5, (.u 12)), (60, 5, (.u 13)), (65, 5, (.u 14)), (70, 5, (.u 15)), (75, 5, (.u 16)), (80, 5, (.u 17)), (85, 5, (.u 18)), (90, 5, (.u 19)), (95, 5, (.u 20)), (100, 5, (.u 21)), (105, 5, (.u 22))]),
 oT 0 (.mov (.u 23))])
 (.ret))
def r100 : List LRes := [.slot 0]
theorem t100 : (Try.f100.body.bind (trCode v100 Try.prog Try.f100.ntmps)) = some c100 ∧ trRes v100 Try.prog Try.f100.results.toList = some r100 := ⟨by kernel_rfl, by kernel_rfl⟩

def v101 : Nat → Bool := fun t => [0, 1, 2, 4, 5, 6, 7, 8, 9, 13, 17, 18, 23, 28, 32, 36].contains t
def c101 : LCode :=
 .seq (.region [oT 4 (.box (.t 1)),
 oT 5 (.box (.t 2)),
 oT 6 (.mov (.c (.int .i64 0))),
 oT 7 (.mov (.c (.bool false)))])
 (.seq (.seq (.region [oT 8 (.mov (.t 0))])
 (.block 0 (.seq (.region [oU 10 (.bin .eql (.t 8) (.c (.int .i64 15))),
 oT 9 (.mov (.u 10))])
 (.cond (.t 9)
 (.seq (.region [oU 11 (.faddr 22 (.t 4)),
 oU 12 (.load false 1 (.u 11)),
 oT 6 (.mov (.u 12)),
 oT 7 (.mov (.c (.bool true)))])
 (.ret))
 (.seq (.region [oU 14 (.bin .eql (.t 8) (.c (.int .i64 16))),
 oT 13 (.mov (.u 14))])
 (.cond (.t 13)
 (.seq (.seq (.region [oU 15 (.faddr 22 (.t 4)),
 oU 16 (.load false 1 (.u 15)),
 oT 17 (.bin .geq (.u 16) (.c (.int .i64 0)))])
 (.cond (.t 17)
 (.seq (.region [oT 6 (.mov (.c (.int .i64 1))),
 oT 7 (.mov (.c (.bool true)))])
 (.ret))
 (.skip)))
 (.seq (.region [oT 6 (.mov (.c (.int .i64 0))),
 oT 7 (.mov (.c (.bool true)))])
 (.ret)))
 (.seq (.region [oU 19 (.bin .eql (.t 8) (.c (.int .i64 17))),
 oT 18 (.mov (.u 19))])
 (.cond (.t 18)
 (.seq (.region [oU 20 (.faddr 5 (.t 5)),
 oU 21 (.faddr 1 (.u 20)),
 oU 22 (.load false 1 (.u 21)),
 oT 6 (.mov (.u 22)),
 oT 7 (.mov (.c (.bool true)))])
 (.ret))
 (.seq (.region [oU 24 (.bin .eql (.t 8) (.c (.int .i64 18))),
 oT 23 (.mov (.u 24))])
 (.cond (.t 23)
 (.seq (.region [oU 25 (.faddr 5 (.t 5)),
 oU 26 (.faddr 0 (.u 25)),
 oU 27 (.load false 1 (.u 26)),
 oT 6 (.mov (.u 27)),
 oT 7 (.mov (.c (.bool true)))])
 (.ret))
 (.seq (.region [oU 29 (.bin .eql (.t 8) (.c (.int .i64 19))),
 oT 28 (.mov (.u 29))])
 (.cond (.t 28)
 (.seq (.region [oU 30 (.faddr 10 (.t 5)),
 oU 31 (.load false 1 (.u 30)),
 oT 6 (.mov (.u 31)),
 oT 7 (.mov (.c (.bool true)))])
 (.ret))
 (.seq (.region [oU 33 (.bin .eql (.t 8) (.c (.int .i64 20))),
 oT 32 (.mov (.u 33))])
 (.cond (.t 32)
 (.seq (.region [oU 34 (.faddr 11 (.t 5)),
 oU 35 (.load false 1 (.u 34)),
 oT 6 (.mov (.u 35)),
 oT 7 (.mov (.c (.bool true)))])
 (.ret))
 (.seq (.region [oU 37 (.bin .eql (.t 8) (.c (.int .i64 21))),
 oT 36 (.mov (.u 37))])
 (.cond (.t 36)
 (.seq (.region [oU 38 (.faddr 8 (.t 5)),
 oU 39 (.load false 1 (.u 38)),
 oT 6 (.mov (.u 39)),
 oT 7 (.mov (.c (.bool true)))])
 (.ret))
 (.skip)))))))))))))))))
 (.seq (.region [oT 6 (.mov (.c (.int .i64 0))),
 oT 7 (.mov (.c (.bool false)))])
 (.ret)))
def r101 : List LRes := [.slot 6, .slot 7]
theorem t101 : (Try.f101.body.bind (trCode v101 Try.prog Try.f101.ntmps)) = some c101 ∧ trRes v101 Try.prog Try.f101.results.toList = some r101 := ⟨by kernel_rfl, by kernel_rfl⟩


end Go.Proofs.Ytcngkeeknlloaaa
