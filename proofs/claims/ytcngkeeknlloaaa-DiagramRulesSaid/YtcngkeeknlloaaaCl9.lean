/- The functions' bodies as the engine reads them; written by program out of the translation, checked by the kernel. -/
import Derived.Test.YtcngkeeknlloaaaProg
import Derived.Test.YtcngkeeknlloaaaLxL
import Derived.KernelRfl
namespace Go.Proofs.Ytcngkeeknlloaaa
open Go Go.Lx
set_option maxRecDepth 100000
def v9 : Nat → Bool := fun t => [0, 1, 4, 5, 6, 7, 8, 9, 10, 11, 12, 13, 15, 29, 34, 73, 94, 116].contains t
def c9 : LCode :=
 .seq (.region [oT 4 (.mov (.c (.bool false)))])
 (.seq (.region [oM 16 0,
 oU 17 (.call 11 [(.u 16)]),
 oT 5 (.mov (.u 17))])
 (.seq (.region [oM 18 5,
 oU 19 (.call 29 [(.u 18), (.c (.int .i64 6))]),
 oM 20 5,
 oU 21 (.call 30 [(.u 20)]),
 oT 7 (.zero [.int .i64 0, .int .i64 0, .int .i64 0, .int .i64 0, .int .i64 0, .int .i64 0, .int .i64 0, .int .i64 0, .int .i64 0, .int .i64 0, .int .i64 0, .str [], .str [], .fsl 1 0 [], .bool false, .int .i64 0, .int .i64 0, .int .i64 0, .int .i64 0, .int .i64 0, .fsl 1 0 [], .fsl 1 0 [], .int .i64 0, .fsl 1 0 [], .int .i64 0]),
 oT 6 (.mov (.u 19)),
 oN (.store 25 (.t 7) (.u 21))])
 (.seq (.region [oM 22 6,
 oU 23 (.lenL (.u 22)),
 oM 24 1,
 oU 25 (.call 26 [(.u 23), (.u 24)]),
 oT 8 (.mov (.u 25))])
 (.seq (.seq (.region [oT 9 (.mov (.c (.int .i64 0)))])
 (.block 0 (.loop (.seq (.seq (.region [oM 26 9,
 oM 27 6,
 oU 28 (.lenL (.u 27)),
 oT 29 (.bin .lss (.u 26) (.u 28))])
 (.cond (.t 29)
 (.skip)
 (.exit 0)))
 (.seq (.block 1 (.seq (.region [oT 10 (.mov (.c (.int .i64 0)))])
 (.block 2 (.loop (.seq (.seq (.region [oM 32 10,
 oM 33 9,
 oT 34 (.bin .lss (.u 32) (.u 33))])
 (.cond (.t 34)
 (.skip)
 (.exit 2)))
 (.seq (.block 3 (.seq (.regionD [⟨0, [6], false, [], oM 37 6⟩,
 ⟨1, [9], false, [], oM 38 9⟩,
 ⟨2, [37, 38], false, [], oU 39 (.iaS 8 (.u 37) (.u 38))⟩,
 ⟨3, [39], false, [], oU 40 (.faddr 4 (.u 39))⟩,
 ⟨4, [40], true, [], oU 41 (.load false 1 (.u 40))⟩,
 ⟨5, [6], false, [], oM 42 6⟩,
 ⟨6, [10], false, [], oM 43 10⟩,
 ⟨7, [42, 43], false, [], oU 44 (.iaS 8 (.u 42) (.u 43))⟩,
 ⟨8, [44], false, [], oU 45 (.faddr 4 (.u 44))⟩,
 ⟨9, [45], true, [], oU 46 (.load false 1 (.u 45))⟩,
 ⟨10, [41, 46], false, [], oU 47 (.bin .eql (.u 41) (.u 46))⟩,
 ⟨11, [47], false, [], oU 48 (.mov (.u 47))⟩,
 ⟨12, [6, 48], false, [], ⟨some 49, false, some ((.u 48), true), .mov (.t 6)⟩⟩,
 ⟨13, [9, 48], false, [], ⟨some 50, false, some ((.u 48), true), .mov (.t 9)⟩⟩,
 ⟨14, [49, 50, 48], false, [], ⟨some 51, false, some ((.u 48), true), .iaS 8 (.u 49) (.u 50)⟩⟩,
 ⟨15, [51, 48], false, [], ⟨some 52, false, some ((.u 48), true), .faddr 5 (.u 51)⟩⟩,
 ⟨16, [52, 48], true, [], ⟨some 53, false, some ((.u 48), true), .load false 1 (.u 52)⟩⟩,
 ⟨17, [6, 48], false, [], ⟨some 54, false, some ((.u 48), true), .mov (.t 6)⟩⟩,
 ⟨18, [10, 48], false, [], ⟨some 55, false, some ((.u 48), true), .mov (.t 10)⟩⟩,
 ⟨19, [54, 55, 48], false, [], ⟨some 56, false, some ((.u 48), true), .iaS 8 (.u 54) (.u 55)⟩⟩,
 ⟨20, [56, 48], false, [], ⟨some 57, false, some ((.u 48), true), .faddr 5 (.u 56)⟩⟩,
 ⟨21, [57, 48], true, [], ⟨some 58, false, some ((.u 48), true), .load false 1 (.u 57)⟩⟩,
 ⟨22, [53, 58, 48], false, [], ⟨some 59, false, some ((.u 48), true), .bin .eql (.u 53) (.u 58)⟩⟩,
 ⟨23, [48, 59], false, [], oU 60 (.pick (.u 48) (.u 59) (.c (.bool false)))⟩,
 ⟨24, [60], false, [], oU 61 (.mov (.u 60))⟩,
 ⟨25, [6, 61], false, [], ⟨some 62, false, some ((.u 61), true), .mov (.t 6)⟩⟩,
 ⟨26, [9, 61], false, [], ⟨some 63, false, some ((.u 61), true), .mov (.t 9)⟩⟩,
 ⟨27, [62, 63, 61], false, [], ⟨some 64, false, some ((.u 61), true), .iaS 8 (.u 62) (.u 63)⟩⟩,
 ⟨28, [64, 61], false, [], ⟨some 65, false, some ((.u 61), true), .faddr 6 (.u 64)⟩⟩,
 ⟨29, [65, 61], true, [], ⟨some 66, false, some ((.u 61), true), .load false 1 (.u 65)⟩⟩,
 ⟨30, [6, 61], false, [], ⟨some 67, false, some ((.u 61), true), .mov (.t 6)⟩⟩,
 ⟨31, [10, 61], false, [], ⟨some 68, false, some ((.u 61), true), .mov (.t 10)⟩⟩,
 ⟨32, [67, 68, 61], false, [], ⟨some 69, false, some ((.u 61), true), .iaS 8 (.u 67) (.u 68)⟩⟩,
 ⟨33, [69, 61], false, [], ⟨some 70, false, some ((.u 61), true), .faddr 6 (.u 69)⟩⟩,
 ⟨34, [70, 61], true, [], ⟨some 71, false, some ((.u 61), true), .load false 1 (.u 70)⟩⟩,
 ⟨35, [66, 71, 61], false, [], ⟨some 72, false, some ((.u 61), true), .bin .eql (.u 66) (.u 71)⟩⟩,
 ⟨36, [61, 72], false, [], oT 73 (.pick (.u 61) (.u 72) (.c (.bool false)))⟩])
 (.cond (.t 73)
 (.region [oM 74 8,
 oM 75 9,
 oM 76 8,
 oM 77 10,
 oU 78 (.iaS 1 (.u 76) (.u 77)),
 oU 79 (.load false 1 (.u 78)),
 oU 80 (.iaS 1 (.u 74) (.u 75)),
 oN (.store 1 (.u 80) (.u 79))])
 (.skip))))
 (.region [oM 35 10,
 oU 36 (.bin .add (.u 35) (.c (.int .i64 1))),
 oT 10 (.mov (.u 36))])))))))
 (.region [oM 30 9,
 oU 31 (.bin .add (.u 30) (.c (.int .i64 1))),
 oT 9 (.mov (.u 31))]))))))
 (.seq (.regionD [⟨0, [6], false, [], oM 81 6⟩,
 ⟨2, [7], false, [], oU 83 (.faddr 15 (.t 7))⟩,
 ⟨3, [83], false, [], oU 84 (.faddr 0 (.u 83))⟩,
 ⟨4, [84], true, [], oU 85 (.load false 1 (.u 84))⟩,
 ⟨1, [81], false, [4], oU 82 (.call 32 [(.u 81), (.c (.int .i64 3))])⟩,
 ⟨5, [82, 85], false, [], oU 86 (.call 31 [(.u 82), (.u 85)])⟩,
 ⟨6, [86], false, [], oT 11 (.mov (.u 86))⟩])
 (.seq (.region [oM 88 6,
 oM 89 11,
 oU 90 (.call 16 [(.u 88), (.u 89)]),
 oU 87 (.mov (.u 90)),
 oU 91 (.ext (.u 87) 0),
 oU 92 (.ext (.u 87) 1),
 oT 12 (.zero [.fsl 1 0 [], .fsl 1 0 [], .int .i64 0]),
 oN (.store 3 (.t 12) (.u 91)),
 oT 13 (.mov (.u 92))])
 (.seq (.seq (.region [oM 93 13,
 oT 94 (.bin .neq (.u 93) (.c (.int .i64 0)))])
 (.cond (.t 94)
 (.seq (.region [oM 96 6,
 oM 97 11,
 oU 98 (.call 24 [(.u 96), (.u 97)]),
 oU 95 (.mov (.u 98)),
 oU 99 (.ext (.u 95) 0),
 oU 100 (.ext (.u 95) 1),
 oU 14 (.mov (.u 99)),
 oT 15 (.mov (.u 100))])
 (.seq (.region [oM 101 13,
 oM 102 15,
 oU 103 (.bin .eql (.u 101) (.u 102)),
 oU 104 (.mov (.u 103)),
 ⟨some 105, false, some ((.u 104), true), .call 14 []⟩,
 oU 106 (.pick (.u 104) (.u 105) (.c (.bool false))),
 oT 4 (.mov (.u 106))])
 (.ret)))
 (.skip)))
 (.seq (.seq (.region [oU 107 (.faddr 15 (.t 7)),
 oU 108 (.faddr 0 (.u 107)),
 oU 109 (.load false 1 (.u 108)),
 oU 110 (.bin .lss (.u 109) (.c (.int .i64 0))),
 oU 111 (.mov (.u 110)),
 ⟨some 112, false, some ((.u 111), false), .faddr 15 (.t 7)⟩,
 ⟨some 113, false, some ((.u 111), false), .faddr 0 (.u 112)⟩,
 ⟨some 114, false, some ((.u 111), false), .load false 1 (.u 113)⟩,
 ⟨some 115, false, some ((.u 111), false), .bin .geq (.u 114) (.c (.int .i64 32))⟩,
 oT 116 (.pick (.u 111) (.c (.bool true)) (.u 115))])
 (.cond (.t 116)
 (.seq (.region [oU 117 (.call 14 []),
 oT 4 (.mov (.u 117))])
 (.ret))
 (.skip)))
 (.seq (.regionD [⟨0, [12], true, [], oU 118 (.load true 3 (.t 12))⟩,
 ⟨1, [12], true, [], oU 119 (.load true 3 (.t 12))⟩,
 ⟨2, [6], false, [], oM 120 6⟩,
 ⟨3, [8], false, [], oM 121 8⟩,
 ⟨4, [7], true, [], oU 122 (.load true 25 (.t 7))⟩,
 ⟨7, [6], false, [], oM 125 6⟩,
 ⟨8, [8], false, [], oM 126 8⟩,
 ⟨9, [7], true, [], oU 127 (.load true 25 (.t 7))⟩,
 ⟨5, [119, 120, 121, 122], false, [9, 0], oU 123 (.call 33 [(.u 119), (.u 120), (.u 121), (.u 122)])⟩,
 ⟨6, [118, 123], false, [9], oU 124 (.call 19 [(.u 118), (.u 123)])⟩,
 ⟨10, [125, 126, 127], false, [], oU 128 (.call 34 [(.u 125), (.c (.int .i64 3)), (.u 126), (.u 127)])⟩,
 ⟨11, [124, 128], false, [], oU 129 (.bin .eql (.u 124) (.u 128))⟩,
 ⟨12, [129], false, [], oU 130 (.mov (.u 129))⟩,
 ⟨13, [130], false, [], ⟨some 131, false, some ((.u 130), true), .call 14 []⟩⟩,
 ⟨14, [130, 131], false, [], oU 132 (.pick (.u 130) (.u 131) (.c (.bool false)))⟩,
 ⟨15, [132], false, [], oT 4 (.mov (.u 132))⟩])
 (.ret))))))))))
def r9 : List LRes := [.slot 4]
theorem t9 : (Try.f9.body.bind (trCode v9 Try.prog Try.f9.ntmps)) = some c9 ∧ trRes v9 Try.prog Try.f9.results.toList = some r9 := ⟨by kernel_rfl, by kernel_rfl⟩


end Go.Proofs.Ytcngkeeknlloaaa
