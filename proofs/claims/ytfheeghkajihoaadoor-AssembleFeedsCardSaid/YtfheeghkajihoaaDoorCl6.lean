/- The functions' bodies as the engine reads them; written by program out of the translation, checked by the kernel. -/
import Derived.Test.YtfheeghkajihoaaDoorProg
import Derived.Test.YtfheeghkajihoaaDoorLxL
import Derived.KernelRfl
namespace Go.Proofs.YtfheeghkajihoaaDoor
open Go Go.Lx
set_option maxRecDepth 100000
def v6 : Nat → Bool := fun t => [0, 1, 4, 5, 6, 7, 8, 9, 10, 11, 12, 13, 14, 15, 16, 17, 27, 29, 57, 62, 82].contains t
def c6 : LCode :=
 .seq (.region [oT 4 (.mov (.c (.bool false)))])
 (.seq (.region [oM 18 0,
 oU 19 (.call 10 [(.u 18)]),
 oT 5 (.mov (.u 19))])
 (.seq (.region [oM 20 1,
 oU 21 (.call 17 [(.u 20)]),
 oM 22 1,
 oU 23 (.call 21 [(.u 22)]),
 oT 6 (.zero [.int .i64 0, .int .i64 0, .int .i64 0, .fsl 1 0 [], .fsl 1 0 [], .fsl 1 0 [], .int .i64 0]),
 oT 7 (.zero [.int .i64 0, .int .i64 0, .int .i64 0, .fsl 1 0 [], .fsl 1 0 [], .fsl 1 0 [], .int .i64 0]),
 oN (.store 7 (.t 6) (.u 21)),
 oN (.store 7 (.t 7) (.u 23))])
 (.seq (.seq (.region [oU 24 (.load true 7 (.t 6)),
 oU 25 (.load true 7 (.t 7)),
 oU 26 (.call 19 [(.u 24), (.u 25)]),
 oT 27 (.un .not (.u 26))])
 (.cond (.t 27)
 (.seq (.region [oT 4 (.mov (.c (.bool false)))])
 (.ret))
 (.skip)))
 (.seq (.seq (.region [oT 8 (.mov (.c (.int .i64 0)))])
 (.block 0 (.loop (.seq (.seq (.region [oM 28 8,
 oT 29 (.bin .lss (.u 28) (.c (.int .i64 4)))])
 (.cond (.t 29)
 (.skip)
 (.exit 0)))
 (.seq (.block 1 (.seq (.region [oM 32 5,
 oM 33 5,
 oU 34 (.call 11 [(.u 33), (.c (.int .i64 14))]),
 oU 35 (.call 15 [(.u 32), (.u 34)]),
 oT 9 (.mov (.u 35))])
 (.seq (.region [oU 37 (.load true 7 (.t 6)),
 oM 38 9,
 oU 39 (.call 16 [(.u 37), (.u 38)]),
 oU 36 (.mov (.u 39)),
 oU 40 (.ext (.u 36) 0),
 oU 41 (.ext (.u 36) 1),
 oT 10 (.zero [.int .i64 0, .int .i64 0, .int .i64 0, .fsl 1 0 [], .fsl 1 0 [], .fsl 1 0 [], .int .i64 0]),
 oN (.store 7 (.t 10) (.u 40)),
 oT 11 (.mov (.u 41))])
 (.seq (.region [oU 43 (.load true 7 (.t 7)),
 oM 44 9,
 oU 45 (.call 22 [(.u 43), (.u 44)]),
 oU 42 (.mov (.u 45)),
 oU 46 (.ext (.u 42) 0),
 oU 47 (.ext (.u 42) 1),
 oT 12 (.zero [.int .i64 0, .int .i64 0, .int .i64 0, .fsl 1 0 [], .fsl 1 0 [], .fsl 1 0 [], .int .i64 0]),
 oN (.store 7 (.t 12) (.u 46)),
 oT 13 (.mov (.u 47))])
 (.seq (.seq (.region [oU 48 (.load true 7 (.t 10)),
 oU 49 (.load true 7 (.t 12)),
 oU 50 (.call 19 [(.u 48), (.u 49)]),
 oU 51 (.un .not (.u 50)),
 oU 52 (.mov (.u 51)),
 ⟨some 53, false, some ((.u 52), false), .mov (.t 11)⟩,
 ⟨some 54, false, some ((.u 52), false), .mov (.t 13)⟩,
 ⟨some 55, false, some ((.u 52), false), .call 20 [(.u 53), (.u 54)]⟩,
 ⟨some 56, false, some ((.u 52), false), .un .not (.u 55)⟩,
 oT 57 (.pick (.u 52) (.c (.bool true)) (.u 56))])
 (.cond (.t 57)
 (.seq (.region [oT 4 (.mov (.c (.bool false)))])
 (.ret))
 (.skip)))
 (.seq (.regionD [⟨0, [10], true, [], oU 58 (.load true 7 (.t 10))⟩,
 ⟨1, [12], true, [], oU 59 (.load true 7 (.t 12))⟩,
 ⟨2, [6, 58], false, [1], oN (.store 7 (.t 6) (.u 58))⟩,
 ⟨3, [7, 59], false, [], oN (.store 7 (.t 7) (.u 59))⟩])
 (.seq (.region [oM 60 5,
 oU 61 (.call 11 [(.u 60), (.c (.int .i64 4))]),
 oT 62 (.bin .eql (.u 61) (.c (.int .i64 0)))])
 (.cond (.t 62)
 (.seq (.region [oU 64 (.load true 7 (.t 6)),
 oU 65 (.call 23 [(.u 64)]),
 oU 63 (.mov (.u 65)),
 oU 66 (.ext (.u 63) 0),
 oU 67 (.ext (.u 63) 1),
 oN (.store 7 (.t 10) (.u 66)),
 oT 11 (.mov (.u 67))])
 (.seq (.region [oU 69 (.load true 7 (.t 7)),
 oU 70 (.call 24 [(.u 69)]),
 oU 68 (.mov (.u 70)),
 oU 71 (.ext (.u 68) 0),
 oU 72 (.ext (.u 68) 1),
 oN (.store 7 (.t 12) (.u 71)),
 oT 13 (.mov (.u 72))])
 (.seq (.seq (.region [oU 73 (.load true 7 (.t 10)),
 oU 74 (.load true 7 (.t 12)),
 oU 75 (.call 19 [(.u 73), (.u 74)]),
 oU 76 (.un .not (.u 75)),
 oU 77 (.mov (.u 76)),
 ⟨some 78, false, some ((.u 77), false), .mov (.t 11)⟩,
 ⟨some 79, false, some ((.u 77), false), .mov (.t 13)⟩,
 ⟨some 80, false, some ((.u 77), false), .call 20 [(.u 78), (.u 79)]⟩,
 ⟨some 81, false, some ((.u 77), false), .un .not (.u 80)⟩,
 oT 82 (.pick (.u 77) (.c (.bool true)) (.u 81))])
 (.cond (.t 82)
 (.seq (.region [oT 4 (.mov (.c (.bool false)))])
 (.ret))
 (.skip)))
 (.regionD [⟨0, [10], true, [], oU 83 (.load true 7 (.t 10))⟩,
 ⟨1, [12], true, [], oU 84 (.load true 7 (.t 12))⟩,
 ⟨2, [6, 83], false, [1], oN (.store 7 (.t 6) (.u 83))⟩,
 ⟨3, [7, 84], false, [], oN (.store 7 (.t 7) (.u 84))⟩]))))
 (.skip)))))))))
 (.region [oM 30 8,
 oU 31 (.bin .add (.u 30) (.c (.int .i64 1))),
 oT 8 (.mov (.u 31))]))))))
 (.seq (.region [oU 86 (.load true 7 (.t 6)),
 oU 87 (.call 23 [(.u 86)]),
 oU 85 (.mov (.u 87)),
 oU 88 (.ext (.u 85) 0),
 oU 89 (.ext (.u 85) 1),
 oT 14 (.zero [.int .i64 0, .int .i64 0, .int .i64 0, .fsl 1 0 [], .fsl 1 0 [], .fsl 1 0 [], .int .i64 0]),
 oN (.store 7 (.t 14) (.u 88)),
 oT 15 (.mov (.u 89))])
 (.seq (.region [oU 91 (.load true 7 (.t 7)),
 oU 92 (.call 24 [(.u 91)]),
 oU 90 (.mov (.u 92)),
 oU 93 (.ext (.u 90) 0),
 oU 94 (.ext (.u 90) 1),
 oT 16 (.zero [.int .i64 0, .int .i64 0, .int .i64 0, .fsl 1 0 [], .fsl 1 0 [], .fsl 1 0 [], .int .i64 0]),
 oN (.store 7 (.t 16) (.u 93)),
 oT 17 (.mov (.u 94))])
 (.seq (.region [oU 95 (.load true 7 (.t 14)),
 oU 96 (.load true 7 (.t 16)),
 oU 97 (.call 19 [(.u 95), (.u 96)]),
 oU 98 (.mov (.u 97)),
 ⟨some 99, false, some ((.u 98), true), .mov (.t 15)⟩,
 ⟨some 100, false, some ((.u 98), true), .mov (.t 17)⟩,
 ⟨some 101, false, some ((.u 98), true), .call 20 [(.u 99), (.u 100)]⟩,
 oU 102 (.pick (.u 98) (.u 101) (.c (.bool false))),
 oU 103 (.mov (.u 102)),
 ⟨some 104, false, some ((.u 103), true), .call 9 []⟩,
 oU 105 (.pick (.u 103) (.u 104) (.c (.bool false))),
 oT 4 (.mov (.u 105))])
 (.ret))))))))
def r6 : List LRes := [.slot 4]
theorem t6 : (Tryd.f6.body.bind (trCode v6 Tryd.prog Tryd.f6.ntmps)) = some c6 ∧ trRes v6 Tryd.prog Tryd.f6.results.toList = some r6 := ⟨by kernel_rfl, by kernel_rfl⟩


end Go.Proofs.YtfheeghkajihoaaDoor
