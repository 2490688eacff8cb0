/- The functions' bodies as the engine reads them; written by program out of the translation, checked by the kernel. -/
import Derived.Test.YtfheeghkajihoaaDoorProg
import Derived.Test.YtfheeghkajihoaaDoorLxL
import Derived.KernelRfl
namespace Go.Proofs.YtfheeghkajihoaaDoor
open Go Go.Lx
set_option maxRecDepth 100000
def v7 : Nat → Bool := fun t => [0, 1, 4, 5, 6, 7, 8, 9, 10, 11, 12, 13, 16, 21, 30, 55].contains t
def c7 : LCode :=
 .seq (.region [oT 4 (.mov (.c (.bool false)))])
 (.seq (.seq (.region [oM 14 0,
 oU 15 (.lenL (.u 14)),
 oT 16 (.bin .gtr (.u 15) (.c (.int .i64 20)))])
 (.cond (.t 16)
 (.seq (.region [oU 17 (.call 9 []),
 oT 4 (.mov (.u 17))])
 (.ret))
 (.skip)))
 (.seq (.seq (.region [oT 5 (.mov (.c (.int .i64 0)))])
 (.block 0 (.loop (.seq (.seq (.region [oM 18 5,
 oM 19 0,
 oU 20 (.lenL (.u 19)),
 oT 21 (.bin .lss (.u 18) (.u 20))])
 (.cond (.t 21)
 (.skip)
 (.exit 0)))
 (.seq (.block 1 (.seq (.region [oM 24 0,
 oM 25 5,
 oU 26 (.iaS 4 (.u 24) (.u 25)),
 oU 27 (.faddr 3 (.u 26)),
 oU 28 (.load false 1 (.u 27)),
 oU 29 (.lenL (.u 28)),
 oT 30 (.bin .gtr (.u 29) (.c (.int .i64 30)))])
 (.cond (.t 30)
 (.seq (.region [oU 31 (.call 9 []),
 oT 4 (.mov (.u 31))])
 (.ret))
 (.skip))))
 (.region [oM 22 5,
 oU 23 (.bin .add (.u 22) (.c (.int .i64 1))),
 oT 5 (.mov (.u 23))]))))))
 (.seq (.region [oM 33 1,
 oU 34 (.call 17 [(.u 33)]),
 oM 35 0,
 oU 36 (.call 16 [(.u 34), (.u 35)]),
 oU 32 (.mov (.u 36)),
 oU 37 (.ext (.u 32) 0),
 oU 38 (.ext (.u 32) 1),
 oT 6 (.zero [.int .i64 0, .int .i64 0, .int .i64 0, .fsl 1 0 [], .fsl 1 0 [], .fsl 1 0 [], .int .i64 0]),
 oN (.store 7 (.t 6) (.u 37)),
 oT 7 (.mov (.u 38))])
 (.seq (.region [oM 40 1,
 oU 41 (.call 21 [(.u 40)]),
 oM 42 0,
 oU 43 (.call 22 [(.u 41), (.u 42)]),
 oU 39 (.mov (.u 43)),
 oU 44 (.ext (.u 39) 0),
 oU 45 (.ext (.u 39) 1),
 oT 8 (.zero [.int .i64 0, .int .i64 0, .int .i64 0, .fsl 1 0 [], .fsl 1 0 [], .fsl 1 0 [], .int .i64 0]),
 oN (.store 7 (.t 8) (.u 44)),
 oT 9 (.mov (.u 45))])
 (.seq (.seq (.region [oU 46 (.load true 7 (.t 6)),
 oU 47 (.load true 7 (.t 8)),
 oU 48 (.call 19 [(.u 46), (.u 47)]),
 oU 49 (.un .not (.u 48)),
 oU 50 (.mov (.u 49)),
 ⟨some 51, false, some ((.u 50), false), .mov (.t 7)⟩,
 ⟨some 52, false, some ((.u 50), false), .mov (.t 9)⟩,
 ⟨some 53, false, some ((.u 50), false), .call 20 [(.u 51), (.u 52)]⟩,
 ⟨some 54, false, some ((.u 50), false), .un .not (.u 53)⟩,
 oT 55 (.pick (.u 50) (.c (.bool true)) (.u 54))])
 (.cond (.t 55)
 (.seq (.region [oT 4 (.mov (.c (.bool false)))])
 (.ret))
 (.skip)))
 (.seq (.region [oU 57 (.load true 7 (.t 6)),
 oU 58 (.call 23 [(.u 57)]),
 oU 56 (.mov (.u 58)),
 oU 59 (.ext (.u 56) 0),
 oU 60 (.ext (.u 56) 1),
 oT 10 (.zero [.int .i64 0, .int .i64 0, .int .i64 0, .fsl 1 0 [], .fsl 1 0 [], .fsl 1 0 [], .int .i64 0]),
 oN (.store 7 (.t 10) (.u 59)),
 oT 11 (.mov (.u 60))])
 (.seq (.region [oU 62 (.load true 7 (.t 8)),
 oU 63 (.call 24 [(.u 62)]),
 oU 61 (.mov (.u 63)),
 oU 64 (.ext (.u 61) 0),
 oU 65 (.ext (.u 61) 1),
 oT 12 (.zero [.int .i64 0, .int .i64 0, .int .i64 0, .fsl 1 0 [], .fsl 1 0 [], .fsl 1 0 [], .int .i64 0]),
 oN (.store 7 (.t 12) (.u 64)),
 oT 13 (.mov (.u 65))])
 (.seq (.region [oU 66 (.load true 7 (.t 10)),
 oU 67 (.load true 7 (.t 12)),
 oU 68 (.call 19 [(.u 66), (.u 67)]),
 oU 69 (.mov (.u 68)),
 ⟨some 70, false, some ((.u 69), true), .mov (.t 11)⟩,
 ⟨some 71, false, some ((.u 69), true), .mov (.t 13)⟩,
 ⟨some 72, false, some ((.u 69), true), .call 20 [(.u 70), (.u 71)]⟩,
 oU 73 (.pick (.u 69) (.u 72) (.c (.bool false))),
 oU 74 (.mov (.u 73)),
 ⟨some 75, false, some ((.u 74), true), .call 9 []⟩,
 oU 76 (.pick (.u 74) (.u 75) (.c (.bool false))),
 oT 4 (.mov (.u 76))])
 (.ret)))))))))
def r7 : List LRes := [.slot 4]
theorem t7 : (Tryd.f7.body.bind (trCode v7 Tryd.prog Tryd.f7.ntmps)) = some c7 ∧ trRes v7 Tryd.prog Tryd.f7.results.toList = some r7 := ⟨by kernel_rfl, by kernel_rfl⟩


end Go.Proofs.YtfheeghkajihoaaDoor
