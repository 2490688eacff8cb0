/- The functions' bodies as the engine reads them; written by program out of the translation, checked by the kernel. -/
import Derived.Test.YtfheeghkajihoaaDoorProg
import Derived.Test.YtfheeghkajihoaaDoorLxL
import Derived.KernelRfl
namespace Go.Proofs.YtfheeghkajihoaaDoor
open Go Go.Lx
set_option maxRecDepth 100000
def v3 : Nat → Bool := fun t => [0, 1, 2, 4, 5, 6, 7, 11, 19, 31].contains t
def c3 : LCode :=
 .seq (.region [oT 2 (.box (.t 0)),
 oT 4 (.mov (.c (.bool false)))])
 (.seq (.seq (.region [oU 8 (.faddr 3 (.t 2)),
 oU 9 (.load false 1 (.u 8)),
 oU 10 (.lenL (.u 9)),
 oT 11 (.bin .gtr (.u 10) (.c (.int .i64 10)))])
 (.cond (.t 11)
 (.seq (.region [oU 12 (.call 9 []),
 oT 4 (.mov (.u 12))])
 (.ret))
 (.skip)))
 (.seq (.region [oM 13 1,
 oU 14 (.call 10 [(.u 13)]),
 oT 5 (.mov (.u 14))])
 (.seq (.region [oU 15 (.build [.int .i64 0, .int .i64 0, .int .i64 0, .fsl 1 0 [], .bool false] []),
 oT 6 (.zero [.int .i64 0, .int .i64 0, .int .i64 0, .fsl 1 0 [], .bool false]),
 oN (.store 5 (.t 6) (.u 15))])
 (.seq (.seq (.region [oM 16 5,
 oU 17 (.call 11 [(.u 16), (.c (.int .i64 5))]),
 oT 7 (.mov (.u 17))])
 (.block 0 (.loop (.seq (.seq (.region [oM 18 7,
 oT 19 (.bin .gtr (.u 18) (.c (.int .i64 0)))])
 (.cond (.t 19)
 (.skip)
 (.exit 0)))
 (.seq (.block 1 (.regionD [⟨0, [6], false, [], oU 22 (.faddr 3 (.t 6))⟩,
 ⟨1, [22], true, [], oU 23 (.load false 1 (.u 22))⟩,
 ⟨2, [5], false, [], oM 24 5⟩,
 ⟨3, [24], false, [1], oU 25 (.call 12 [(.u 24), (.c (.int .i64 3))])⟩,
 ⟨4, [25], false, [], oU 26 (.mkS 4 1 [.int .i64 0, .int .i64 0, .int .i64 0, .fsl 1 0 []] [(0, 4, (.u 25))])⟩,
 ⟨5, [23, 26], false, [], oU 27 (.app 4 48 (.u 23) (.u 26))⟩,
 ⟨6, [6], false, [], oU 28 (.faddr 3 (.t 6))⟩,
 ⟨7, [28, 27], false, [], oN (.store 1 (.u 28) (.u 27))⟩]))
 (.region [oM 20 7,
 oU 21 (.bin .sub (.u 20) (.c (.int .i64 1))),
 oT 7 (.mov (.u 21))]))))))
 (.seq (.seq (.region [oM 29 5,
 oU 30 (.call 11 [(.u 29), (.c (.int .i64 2))]),
 oT 31 (.bin .eql (.u 30) (.c (.int .i64 0)))])
 (.cond (.t 31)
 (.region [oU 32 (.faddr 3 (.t 6)),
 oU 33 (.load false 1 (.u 32)),
 oU 34 (.build [.int .i64 0, .int .i64 0, .int .i64 0, .fsl 1 0 []] [(0, 1, (.c (.int .i64 1320)))]),
 oU 35 (.mkS 4 1 [.int .i64 0, .int .i64 0, .int .i64 0, .fsl 1 0 []] [(0, 4, (.u 34))]),
 oU 36 (.app 4 48 (.u 33) (.u 35)),
 oU 37 (.faddr 3 (.t 6)),
 oN (.store 1 (.u 37) (.u 36))])
 (.skip)))
 (.seq (.regionD [⟨0, [2], true, [], oU 38 (.load true 5 (.t 2))⟩,
 ⟨2, [2], true, [], oU 40 (.load true 5 (.t 2))⟩,
 ⟨1, [38], false, [2], oU 39 (.call 13 [(.u 38)])⟩,
 ⟨3, [40], false, [], oU 41 (.call 14 [(.u 40)])⟩,
 ⟨4, [39, 41], false, [], oU 42 (.eqB false (.u 39) (.u 41))⟩,
 ⟨5, [42], false, [], oU 43 (.mov (.u 42))⟩,
 ⟨6, [6, 43], true, [], ⟨some 44, false, some ((.u 43), true), .load true 5 (.t 6)⟩⟩,
 ⟨8, [6, 43], true, [], ⟨some 46, false, some ((.u 43), true), .load true 5 (.t 6)⟩⟩,
 ⟨7, [44, 43], false, [8], ⟨some 45, false, some ((.u 43), true), .call 13 [(.u 44)]⟩⟩,
 ⟨9, [46, 43], false, [], ⟨some 47, false, some ((.u 43), true), .call 14 [(.u 46)]⟩⟩,
 ⟨10, [45, 47, 43], false, [], ⟨some 48, false, some ((.u 43), true), .eqB false (.u 45) (.u 47)⟩⟩,
 ⟨11, [43, 48], false, [], oU 49 (.pick (.u 43) (.u 48) (.c (.bool false)))⟩,
 ⟨12, [49], false, [], oU 50 (.mov (.u 49))⟩,
 ⟨13, [50], false, [], ⟨some 51, false, some ((.u 50), true), .call 9 []⟩⟩,
 ⟨14, [50, 51], false, [], oU 52 (.pick (.u 50) (.u 51) (.c (.bool false)))⟩,
 ⟨15, [52], false, [], oT 4 (.mov (.u 52))⟩])
 (.ret)))))))
def r3 : List LRes := [.slot 4]
theorem t3 : (Tryd.f3.body.bind (trCode v3 Tryd.prog Tryd.f3.ntmps)) = some c3 ∧ trRes v3 Tryd.prog Tryd.f3.results.toList = some r3 := ⟨by kernel_rfl, by kernel_rfl⟩


end Go.Proofs.YtfheeghkajihoaaDoor
