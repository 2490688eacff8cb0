/- The functions' bodies as the engine reads them; written by program out of the translation, checked by the kernel. -/
import Derived.Test.YtfheeghkajihoaaDoorProg
import Derived.Test.YtfheeghkajihoaaDoorLxL
import Derived.KernelRfl
namespace Go.Proofs.YtfheeghkajihoaaDoor
open Go Go.Lx
set_option maxRecDepth 100000
def v4 : Nat → Bool := fun t => [0, 2, 3, 4, 5, 6, 7, 8, 9, 10, 11, 12, 27].contains t
def c4 : LCode :=
 .seq (.region [oT 2 (.mov (.c (.bool false)))])
 (.seq (.region [oM 13 0,
 oU 14 (.call 10 [(.u 13)]),
 oT 3 (.mov (.u 14))])
 (.seq (.region [oM 15 3,
 oU 16 (.call 15 [(.u 15), (.c (.int .i64 20))]),
 oT 4 (.mov (.u 16))])
 (.seq (.region [oU 18 (.call 17 [(.c (.int .i64 1))]),
 oM 19 4,
 oU 20 (.call 16 [(.u 18), (.u 19)]),
 oU 17 (.mov (.u 20)),
 oU 21 (.ext (.u 17) 0),
 oU 22 (.ext (.u 17) 1),
 oT 5 (.zero [.int .i64 0, .int .i64 0, .int .i64 0, .fsl 1 0 [], .fsl 1 0 [], .fsl 1 0 [], .int .i64 0]),
 oN (.store 7 (.t 5) (.u 21)),
 oT 6 (.mov (.u 22))])
 (.seq (.region [oU 23 (.call 17 [(.c (.int .i64 1))]),
 oT 7 (.zero [.int .i64 0, .int .i64 0, .int .i64 0, .fsl 1 0 [], .fsl 1 0 [], .fsl 1 0 [], .int .i64 0]),
 oN (.store 7 (.t 7) (.u 23))])
 (.seq (.region [oT 8 (.mov (.c (.fsl 1 0 [])))])
 (.seq (.seq (.region [oT 9 (.mov (.c (.int .i64 0)))])
 (.block 0 (.loop (.seq (.seq (.region [oM 24 9,
 oM 25 4,
 oU 26 (.lenL (.u 25)),
 oT 27 (.bin .lss (.u 24) (.u 26))])
 (.cond (.t 27)
 (.skip)
 (.exit 0)))
 (.block 1 (.seq (.region [oM 28 4,
 oU 29 (.lenL (.u 28)),
 oM 30 9,
 oU 31 (.bin .sub (.u 29) (.u 30)),
 oM 32 3,
 oU 33 (.call 18 [(.u 32), (.c (.int .i64 1)), (.c (.int .i64 5))]),
 oU 34 (.mm false (.u 31) [(.u 33)]),
 oT 10 (.mov (.u 34))])
 (.seq (.regionD [⟨0, [7], true, [], oU 36 (.load true 7 (.t 7))⟩,
 ⟨1, [4], false, [], oM 37 4⟩,
 ⟨2, [9], false, [], oM 38 9⟩,
 ⟨3, [9], false, [], oM 39 9⟩,
 ⟨4, [10], false, [], oM 40 10⟩,
 ⟨5, [39, 40], false, [], oU 41 (.bin .add (.u 39) (.u 40))⟩,
 ⟨6, [37, 38, 41], false, [], oU 42 (.slL 4 (.u 37) (some (.u 38)) (some (.u 41)) none)⟩,
 ⟨7, [36, 42], false, [], oU 43 (.call 16 [(.u 36), (.u 42)])⟩,
 ⟨8, [43], false, [], oU 35 (.mov (.u 43))⟩,
 ⟨9, [35], false, [], oU 44 (.ext (.u 35) 0)⟩,
 ⟨10, [35], false, [], oU 45 (.ext (.u 35) 1)⟩,
 ⟨11, [], false, [], oT 11 (.zero [.int .i64 0, .int .i64 0, .int .i64 0, .fsl 1 0 [], .fsl 1 0 [], .fsl 1 0 [], .int .i64 0])⟩,
 ⟨12, [11, 44], false, [], oN (.store 7 (.t 11) (.u 44))⟩,
 ⟨13, [45], false, [], oT 12 (.mov (.u 45))⟩])
 (.seq (.regionD [⟨0, [11], true, [], oU 46 (.load true 7 (.t 11))⟩,
 ⟨1, [8], false, [], oM 47 8⟩,
 ⟨2, [12], false, [], oM 48 12⟩,
 ⟨3, [47, 48], false, [0], oU 49 (.app 5 56 (.u 47) (.u 48))⟩,
 ⟨4, [7, 46], false, [], oN (.store 7 (.t 7) (.u 46))⟩,
 ⟨5, [49], false, [], oT 8 (.mov (.u 49))⟩])
 (.region [oM 50 9,
 oM 51 10,
 oU 52 (.bin .add (.u 50) (.u 51)),
 oT 9 (.mov (.u 52))])))))))))
 (.seq (.region [oU 53 (.load true 7 (.t 5)),
 oU 54 (.load true 7 (.t 7)),
 oU 55 (.call 19 [(.u 53), (.u 54)]),
 oU 56 (.mov (.u 55)),
 ⟨some 57, false, some ((.u 56), true), .mov (.t 6)⟩,
 ⟨some 58, false, some ((.u 56), true), .mov (.t 8)⟩,
 ⟨some 59, false, some ((.u 56), true), .call 20 [(.u 57), (.u 58)]⟩,
 oU 60 (.pick (.u 56) (.u 59) (.c (.bool false))),
 oU 61 (.mov (.u 60)),
 ⟨some 62, false, some ((.u 61), true), .call 9 []⟩,
 oU 63 (.pick (.u 61) (.u 62) (.c (.bool false))),
 oT 2 (.mov (.u 63))])
 (.ret))))))))
def r4 : List LRes := [.slot 2]
theorem t4 : (Tryd.f4.body.bind (trCode v4 Tryd.prog Tryd.f4.ntmps)) = some c4 ∧ trRes v4 Tryd.prog Tryd.f4.results.toList = some r4 := ⟨by kernel_rfl, by kernel_rfl⟩


end Go.Proofs.YtfheeghkajihoaaDoor
