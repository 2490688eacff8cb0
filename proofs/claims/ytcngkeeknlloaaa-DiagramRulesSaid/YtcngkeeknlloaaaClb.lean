/- The functions' bodies as the engine reads them; written by program out of the translation, checked by the kernel. -/
import Derived.Test.YtcngkeeknlloaaaProg
import Derived.Test.YtcngkeeknlloaaaLxL
import Derived.KernelRfl
namespace Go.Proofs.Ytcngkeeknlloaaa
open Go Go.Lx
set_option maxRecDepth 100000
def v26 : Nat → Bool := fun t => [0, 1, 4, 5, 6, 9, 1000001].contains t
def c26 : LCode :=
 .seq (.region [oT 4 (.mov (.c (.fsl 1 0 [])))])
 (.seq (.region [oT 5 (.mov (.c (.fsl 1 0 [])))])
 (.seq (.seq (.region [oT 6 (.mov (.c (.int .i64 0)))])
 (.block 0 (.loop (.seq (.seq (.region [oM 7 6,
 oM 8 0,
 oT 9 (.bin .lss (.u 7) (.u 8))])
 (.cond (.t 9)
 (.skip)
 (.exit 0)))
 (.seq (.block 1 (.region [oM 12 5,
 oM 13 1,
 oM 14 6,
 oU 15 (.bin .rem (.u 14) (.c (.int .i64 60))),
 oU 16 (.conv .u64 (.u 15)),
 oU 17 (.bin .shr (.u 13) (.u 16)),
 oU 18 (.bin .and (.u 17) (.c (.int .i64 1))),
 oU 19 (.bin .eql (.u 18) (.c (.int .i64 1))),
 oU 20 (.mkS 1 1 [.bool false] [(0, 1, (.u 19))]),
 oU 21 (.appF 1 1 (.u 12) (.u 20)),
 oT 5 (.mov (.u 21))]))
 (.region [oM 10 6,
 oU 11 (.bin .add (.u 10) (.c (.int .i64 1))),
 oT 6 (.mov (.u 11))]))))))
 (.seq (.region [oM 22 5,
 oT 4 (.mov (.u 22))])
 (.ret))))
def r26 : List LRes := [.slot 4]
theorem t26 : (Try.f26.body.bind (trCode v26 Try.prog Try.f26.ntmps)) = some c26 ∧ trRes v26 Try.prog Try.f26.results.toList = some r26 := ⟨by kernel_rfl, by kernel_rfl⟩


end Go.Proofs.Ytcngkeeknlloaaa
