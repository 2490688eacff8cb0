/- The functions' bodies as the engine reads them; written by program out of the translation, checked by the kernel. -/
import Derived.Test.YtcngkeeknlloaaaProg
import Derived.Test.YtcngkeeknlloaaaLxL
import Derived.KernelRfl
namespace Go.Proofs.Ytcngkeeknlloaaa
open Go Go.Lx
set_option maxRecDepth 100000
def v28 : Nat → Bool := fun t => [0, 1, 2, 3, 4, 5, 61, 66, 79].contains t
def c28 : LCode :=
 .seq (.region [oT 2 (.box (.t 0)),
 oT 3 (.box (.t 1)),
 oT 4 (.mov (.c (.bool false)))])
 (.seq (.seq (.region [oU 6 (.faddr 0 (.t 2)),
 oU 7 (.load false 1 (.u 6)),
 oU 8 (.faddr 0 (.t 3)),
 oU 9 (.load false 1 (.u 8)),
 oU 10 (.bin .neq (.u 7) (.u 9)),
 oU 11 (.mov (.u 10)),
 ⟨some 12, false, some ((.u 11), false), .faddr 1 (.t 2)⟩,
 ⟨some 13, false, some ((.u 11), false), .load false 1 (.u 12)⟩,
 ⟨some 14, false, some ((.u 11), false), .faddr 1 (.t 3)⟩,
 ⟨some 15, false, some ((.u 11), false), .load false 1 (.u 14)⟩,
 ⟨some 16, false, some ((.u 11), false), .bin .neq (.u 13) (.u 15)⟩,
 oU 17 (.pick (.u 11) (.c (.bool true)) (.u 16)),
 oU 18 (.mov (.u 17)),
 ⟨some 19, false, some ((.u 18), false), .faddr 2 (.t 2)⟩,
 ⟨some 20, false, some ((.u 18), false), .load false 1 (.u 19)⟩,
 ⟨some 21, false, some ((.u 18), false), .faddr 2 (.t 3)⟩,
 ⟨some 22, false, some ((.u 18), false), .load false 1 (.u 21)⟩,
 ⟨some 23, false, some ((.u 18), false), .bin .neq (.u 20) (.u 22)⟩,
 oU 24 (.pick (.u 18) (.c (.bool true)) (.u 23)),
 oU 25 (.mov (.u 24)),
 ⟨some 26, false, some ((.u 25), false), .faddr 4 (.t 2)⟩,
 ⟨some 27, false, some ((.u 25), false), .load false 1 (.u 26)⟩,
 ⟨some 28, false, some ((.u 25), false), .faddr 4 (.t 3)⟩,
 ⟨some 29, false, some ((.u 25), false), .load false 1 (.u 28)⟩,
 ⟨some 30, false, some ((.u 25), false), .bin .neq (.u 27) (.u 29)⟩,
 oU 31 (.pick (.u 25) (.c (.bool true)) (.u 30)),
 oU 32 (.mov (.u 31)),
 ⟨some 33, false, some ((.u 32), false), .faddr 5 (.t 2)⟩,
 ⟨some 34, false, some ((.u 32), false), .load false 1 (.u 33)⟩,
 ⟨some 35, false, some ((.u 32), false), .faddr 5 (.t 3)⟩,
 ⟨some 36, false, some ((.u 32), false), .load false 1 (.u 35)⟩,
 ⟨some 37, false, some ((.u 32), false), .bin .neq (.u 34) (.u 36)⟩,
 oU 38 (.pick (.u 32) (.c (.bool true)) (.u 37)),
 oU 39 (.mov (.u 38)),
 ⟨some 40, false, some ((.u 39), false), .faddr 6 (.t 2)⟩,
 ⟨some 41, false, some ((.u 39), false), .load false 1 (.u 40)⟩,
 ⟨some 42, false, some ((.u 39), false), .faddr 6 (.t 3)⟩,
 ⟨some 43, false, some ((.u 39), false), .load false 1 (.u 42)⟩,
 ⟨some 44, false, some ((.u 39), false), .bin .neq (.u 41) (.u 43)⟩,
 oU 45 (.pick (.u 39) (.c (.bool true)) (.u 44)),
 oU 46 (.mov (.u 45)),
 ⟨some 47, false, some ((.u 46), false), .faddr 7 (.t 2)⟩,
 ⟨some 48, false, some ((.u 46), false), .load false 1 (.u 47)⟩,
 ⟨some 49, false, some ((.u 46), false), .faddr 7 (.t 3)⟩,
 ⟨some 50, false, some ((.u 46), false), .load false 1 (.u 49)⟩,
 ⟨some 51, false, some ((.u 46), false), .bin .neq (.u 48) (.u 50)⟩,
 oU 52 (.pick (.u 46) (.c (.bool true)) (.u 51)),
 oU 53 (.mov (.u 52)),
 ⟨some 54, false, some ((.u 53), false), .faddr 3 (.t 2)⟩,
 ⟨some 55, false, some ((.u 53), false), .load false 1 (.u 54)⟩,
 ⟨some 56, false, some ((.u 53), false), .lenL (.u 55)⟩,
 ⟨some 57, false, some ((.u 53), false), .faddr 3 (.t 3)⟩,
 ⟨some 58, false, some ((.u 53), false), .load false 1 (.u 57)⟩,
 ⟨some 59, false, some ((.u 53), false), .lenL (.u 58)⟩,
 ⟨some 60, false, some ((.u 53), false), .bin .neq (.u 56) (.u 59)⟩,
 oT 61 (.pick (.u 53) (.c (.bool true)) (.u 60))])
 (.cond (.t 61)
 (.seq (.region [oT 4 (.mov (.c (.bool false)))])
 (.ret))
 (.skip)))
 (.seq (.seq (.region [oT 5 (.mov (.c (.int .i64 0)))])
 (.block 0 (.loop (.seq (.seq (.region [oM 62 5,
 oU 63 (.faddr 3 (.t 2)),
 oU 64 (.load false 1 (.u 63)),
 oU 65 (.lenL (.u 64)),
 oT 66 (.bin .lss (.u 62) (.u 65))])
 (.cond (.t 66)
 (.skip)
 (.exit 0)))
 (.seq (.block 1 (.seq (.regionD [⟨0, [2], false, [], oU 69 (.faddr 3 (.t 2))⟩,
 ⟨1, [69], true, [], oU 70 (.load false 1 (.u 69))⟩,
 ⟨2, [5], false, [], oM 71 5⟩,
 ⟨3, [70, 71], false, [], oU 72 (.iaS 5 (.u 70) (.u 71))⟩,
 ⟨4, [72], true, [], oU 73 (.load true 5 (.u 72))⟩,
 ⟨5, [3], false, [], oU 74 (.faddr 3 (.t 3))⟩,
 ⟨6, [74], true, [], oU 75 (.load false 1 (.u 74))⟩,
 ⟨7, [5], false, [], oM 76 5⟩,
 ⟨8, [75, 76], false, [], oU 77 (.iaS 5 (.u 75) (.u 76))⟩,
 ⟨9, [77], true, [], oU 78 (.load true 5 (.u 77))⟩,
 ⟨10, [73, 78], false, [], oT 79 (.eqS true 5 [(0, 1), (1, 1), (2, 1), (3, 2), (4, 1)] (.u 73) (.u 78))⟩])
 (.cond (.t 79)
 (.seq (.region [oT 4 (.mov (.c (.bool false)))])
 (.ret))
 (.skip))))
 (.region [oM 67 5,
 oU 68 (.bin .add (.u 67) (.c (.int .i64 1))),
 oT 5 (.mov (.u 68))]))))))
 (.seq (.region [oT 4 (.mov (.c (.bool true)))])
 (.ret))))
def r28 : List LRes := [.slot 4]
theorem t28 : (Try.f28.body.bind (trCode v28 Try.prog Try.f28.ntmps)) = some c28 ∧ trRes v28 Try.prog Try.f28.results.toList = some r28 := ⟨by kernel_rfl, by kernel_rfl⟩


end Go.Proofs.Ytcngkeeknlloaaa
