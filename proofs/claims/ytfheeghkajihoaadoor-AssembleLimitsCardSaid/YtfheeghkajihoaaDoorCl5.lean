/- The functions' bodies as the engine reads them; written by program out of the translation, checked by the kernel. -/
import Derived.Test.YtfheeghkajihoaaDoorProg
import Derived.Test.YtfheeghkajihoaaDoorLxL
import Derived.KernelRfl
namespace Go.Proofs.YtfheeghkajihoaaDoor
open Go Go.Lx
set_option maxRecDepth 100000
def v5 : Nat → Bool := fun t => [0, 2, 3, 4, 5, 6, 7, 9, 23, 27, 43].contains t
def c5 : LCode :=
 .seq (.region [oT 2 (.mov (.c (.bool false)))])
 (.seq (.region [oU 11 (.call 17 [(.c (.int .i64 1))]),
 oU 12 (.build [.int .i64 0, .int .i64 0, .int .i64 0, .fsl 1 0 []] [(0, 1, (.c (.int .i64 1300))), (2, 1, (.c (.int .i64 1)))]),
 oU 13 (.mkS 4 1 [.int .i64 0, .int .i64 0, .int .i64 0, .fsl 1 0 []] [(0, 4, (.u 12))]),
 oU 14 (.call 16 [(.u 11), (.u 13)]),
 oU 10 (.mov (.u 14)),
 oU 15 (.ext (.u 10) 0),
 oU 16 (.ext (.u 10) 1),
 oT 3 (.zero [.int .i64 0, .int .i64 0, .int .i64 0, .fsl 1 0 [], .fsl 1 0 [], .fsl 1 0 [], .int .i64 0]),
 oN (.store 7 (.t 3) (.u 15)),
 oT 4 (.mov (.u 16))])
 (.seq (.region [oM 17 0,
 oU 18 (.bin .rem (.u 17) (.c (.int .u8 6))),
 oU 19 (.conv .i64 (.u 18)),
 oU 20 (.bin .add (.c (.int .i64 61)) (.u 19)),
 oT 5 (.mov (.u 20))])
 (.seq (.seq (.region [oM 21 4,
 oU 22 (.lenL (.u 21)),
 oT 23 (.bin .neq (.u 22) (.c (.int .i64 0)))])
 (.cond (.t 23)
 (.seq (.region [oT 2 (.mov (.c (.bool false)))])
 (.ret))
 (.skip)))
 (.seq (.region [oT 6 (.mov (.c (.fsl 1 0 [])))])
 (.seq (.seq (.region [oT 7 (.mov (.c (.int .i64 2)))])
 (.block 0 (.loop (.seq (.seq (.region [oM 24 7,
 oM 25 5,
 oU 26 (.bin .add (.u 25) (.c (.int .i64 1))),
 oT 27 (.bin .leq (.u 24) (.u 26))])
 (.cond (.t 27)
 (.skip)
 (.exit 0)))
 (.seq (.block 1 (.region [oM 30 6,
 oM 31 7,
 oU 32 (.build [.int .i64 0, .int .i64 0, .int .i64 0, .fsl 1 0 []] [(0, 1, (.c (.int .i64 1005))), (2, 1, (.u 31))]),
 oU 33 (.mkS 4 1 [.int .i64 0, .int .i64 0, .int .i64 0, .fsl 1 0 []] [(0, 4, (.u 32))]),
 oU 34 (.app 4 48 (.u 30) (.u 33)),
 oT 6 (.mov (.u 34))]))
 (.region [oM 28 7,
 oU 29 (.bin .add (.u 28) (.c (.int .i64 1))),
 oT 7 (.mov (.u 29))]))))))
 (.seq (.region [oU 36 (.load true 7 (.t 3)),
 oM 37 6,
 oU 38 (.call 16 [(.u 36), (.u 37)]),
 oU 35 (.mov (.u 38)),
 oU 39 (.ext (.u 35) 0),
 oU 40 (.ext (.u 35) 1),
 oU 8 (.zero [.int .i64 0, .int .i64 0, .int .i64 0, .fsl 1 0 [], .fsl 1 0 [], .fsl 1 0 [], .int .i64 0]),
 oN (.store 7 (.u 8) (.u 39)),
 oT 9 (.mov (.u 40))])
 (.seq (.seq (.region [oM 41 5,
 oU 42 (.bin .add (.u 41) (.c (.int .i64 1))),
 oT 43 (.bin .lss (.u 42) (.c (.int .i64 65)))])
 (.cond (.t 43)
 (.seq (.region [oM 44 9,
 oU 45 (.lenL (.u 44)),
 oU 46 (.bin .eql (.u 45) (.c (.int .i64 0))),
 oU 47 (.mov (.u 46)),
 ⟨some 48, false, some ((.u 47), true), .call 9 []⟩,
 oU 49 (.pick (.u 47) (.u 48) (.c (.bool false))),
 oT 2 (.mov (.u 49))])
 (.ret))
 (.skip)))
 (.seq (.region [oM 50 9,
 oU 51 (.lenL (.u 50)),
 oM 52 5,
 oU 53 (.bin .add (.u 52) (.c (.int .i64 1))),
 oU 54 (.bin .eql (.u 51) (.u 53)),
 oU 55 (.mov (.u 54)),
 ⟨some 56, false, some ((.u 55), true), .mov (.t 9)⟩,
 ⟨some 57, false, some ((.u 55), true), .iaS 5 (.u 56) (.c (.int .i64 0))⟩,
 ⟨some 58, false, some ((.u 55), true), .faddr 4 (.u 57)⟩,
 ⟨some 59, false, some ((.u 55), true), .load false 1 (.u 58)⟩,
 ⟨some 60, false, some ((.u 55), true), .un .not (.u 59)⟩,
 oU 61 (.pick (.u 55) (.u 60) (.c (.bool false))),
 oU 62 (.mov (.u 61)),
 ⟨some 63, false, some ((.u 62), true), .mov (.t 9)⟩,
 ⟨some 64, false, some ((.u 62), true), .iaS 5 (.u 63) (.c (.int .i64 0))⟩,
 ⟨some 65, false, some ((.u 62), true), .faddr 1 (.u 64)⟩,
 ⟨some 66, false, some ((.u 62), true), .load false 1 (.u 65)⟩,
 ⟨some 67, false, some ((.u 62), true), .bin .eql (.u 66) (.c (.int .i64 1))⟩,
 oU 68 (.pick (.u 62) (.u 67) (.c (.bool false))),
 oU 69 (.mov (.u 68)),
 ⟨some 70, false, some ((.u 69), true), .mov (.t 9)⟩,
 ⟨some 71, false, some ((.u 69), true), .iaS 5 (.u 70) (.c (.int .i64 1))⟩,
 ⟨some 72, false, some ((.u 69), true), .faddr 4 (.u 71)⟩,
 ⟨some 73, false, some ((.u 69), true), .load false 1 (.u 72)⟩,
 oU 74 (.pick (.u 69) (.u 73) (.c (.bool false))),
 oU 75 (.mov (.u 74)),
 ⟨some 76, false, some ((.u 75), true), .call 9 []⟩,
 oU 77 (.pick (.u 75) (.u 76) (.c (.bool false))),
 oT 2 (.mov (.u 77))])
 (.ret)))))))))
def r5 : List LRes := [.slot 2]
theorem t5 : (Tryd.f5.body.bind (trCode v5 Tryd.prog Tryd.f5.ntmps)) = some c5 ∧ trRes v5 Tryd.prog Tryd.f5.results.toList = some r5 := ⟨by kernel_rfl, by kernel_rfl⟩


end Go.Proofs.YtfheeghkajihoaaDoor
