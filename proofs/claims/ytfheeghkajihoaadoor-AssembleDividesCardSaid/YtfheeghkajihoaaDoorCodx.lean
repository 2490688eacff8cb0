/- The functions' bodies as the engine reads them; written by program out of the translation, checked by the kernel. -/
import Derived.Test.YtfheeghkajihoaaDoorProg
import Derived.Test.YtfheeghkajihoaaDoorLxL
import Derived.KernelRfl
namespace Go.Proofs.YtfheeghkajihoaaDoor
open Go Go.Lx
set_option maxRecDepth 100000
def v12 : Nat → Bool := fun t => [0, 1, 4, 5, 6, 18, 41, 49, 50, 60].contains t
def c12 : LCode :=
 .seq (.region [oT 4 (.zero [.int .i64 0, .int .i64 0, .int .i64 0, .fsl 1 0 []])])
 (.seq (.region [oM 7 0,
 oU 8 (.mkS 1 8 [.int .i64 0] [(0, 1, (.c (.int .i64 1300))), (1, 1, (.c (.int .i64 1300))), (2, 1, (.c (.int .i64 1302))), (3, 1, (.c (.int .i64 1307))), (4, 1, (.c (.int .i64 1320))), (5, 1, (.c (.int .i64 1320))), (6, 1, (.c (.int .i64 1005))), (7, 1, (.c (.int .i64 1331)))]),
 oU 9 (.call 25 [(.u 7), (.u 8)]),
 oM 10 0,
 oU 11 (.call 11 [(.u 10), (.c (.int .i64 5))]),
 oM 12 0,
 oM 13 1,
 oU 14 (.call 18 [(.u 12), (.c (.int .i64 1)), (.u 13)]),
 oU 15 (.build [.int .i64 0, .int .i64 0, .int .i64 0, .fsl 1 0 []] [(0, 1, (.u 9)), (1, 1, (.u 11)), (2, 1, (.u 14))]),
 oT 5 (.zero [.int .i64 0, .int .i64 0, .int .i64 0, .fsl 1 0 []]),
 oN (.store 4 (.t 5) (.u 15))])
 (.seq (.seq (.region [oU 16 (.faddr 0 (.t 5)),
 oU 17 (.load false 1 (.u 16)),
 oT 18 (.bin .eql (.u 17) (.c (.int .i64 1331)))])
 (.cond (.t 18)
 (.seq (.region [oM 19 0,
 oM 20 1,
 oU 21 (.call 18 [(.u 19), (.c (.int .i64 0)), (.u 20)]),
 oT 6 (.mov (.u 21))])
 (.seq (.regionD [⟨0, [6], false, [], oM 22 6⟩,
 ⟨1, [6], false, [], oM 23 6⟩,
 ⟨2, [0], false, [], oM 24 0⟩,
 ⟨5, [0], false, [], oM 27 0⟩,
 ⟨8, [5], false, [], oU 30 (.faddr 1 (.t 5))⟩,
 ⟨9, [30], true, [], oU 31 (.load false 1 (.u 30))⟩,
 ⟨12, [5], false, [], oU 34 (.faddr 2 (.t 5))⟩,
 ⟨13, [34], true, [], oU 35 (.load false 1 (.u 34))⟩,
 ⟨3, [24], false, [13, 9], oU 25 (.call 11 [(.u 24), (.c (.int .i64 4))])⟩,
 ⟨4, [23, 25], false, [], oU 26 (.bin .add (.u 23) (.u 25))⟩,
 ⟨6, [27], false, [13, 9], oU 28 (.call 11 [(.u 27), (.c (.int .i64 3))])⟩,
 ⟨7, [22, 26, 28], false, [], oU 29 (.build [.int .i64 0, .int .i64 0, .int .i64 0, .int .i64 0, .int .i64 0] [(0, 1, (.u 22)), (1, 1, (.u 26)), (3, 1, (.u 28))])⟩,
 ⟨10, [29, 31], false, [13], oU 32 (.call 27 [(.u 29), (.u 31)])⟩,
 ⟨11, [32], false, [], oU 33 (.mkS 4 1 [.int .i64 0, .int .i64 0, .int .i64 0, .fsl 1 0 []] [(0, 4, (.u 32))])⟩,
 ⟨14, [33, 35], false, [], oU 36 (.call 26 [(.u 33), (.u 35)])⟩,
 ⟨15, [36], false, [], oU 37 (.iaS 4 (.u 36) (.c (.int .i64 0)))⟩,
 ⟨16, [37], true, [], oU 38 (.load true 4 (.u 37))⟩,
 ⟨17, [5, 38], false, [], oN (.store 4 (.t 5) (.u 38))⟩])
 (.seq (.region [oM 39 0,
 oU 40 (.call 11 [(.u 39), (.c (.int .i64 8))]),
 oT 41 (.bin .eql (.u 40) (.c (.int .i64 7)))])
 (.cond (.t 41)
 (.regionD [⟨0, [5], false, [], oU 42 (.faddr 3 (.t 5))⟩,
 ⟨1, [42], true, [], oU 43 (.load false 1 (.u 42))⟩,
 ⟨2, [0], false, [], oM 44 0⟩,
 ⟨4, [], false, [], oU 46 (.build [.str [], .int .i64 0, .int .i64 0, .str []] [(0, 1, (.c (.str [102, 105, 114, 115, 116]))), (1, 1, (.c (.int .i64 2))), (3, 1, (.c (.str [120])))])⟩,
 ⟨3, [44], false, [1], oU 45 (.call 11 [(.u 44), (.c (.int .i64 2))])⟩,
 ⟨5, [43, 45], false, [], oU 47 (.iaS 4 (.u 43) (.u 45))⟩,
 ⟨6, [47, 46], false, [], oN (.store 4 (.u 47) (.u 46))⟩])
 (.skip)))))
 (.skip)))
 (.seq (.seq (.region [oM 48 0,
 oT 49 (.call 11 [(.u 48), (.c (.int .i64 24))])])
 (.block 0 (.seq (.region [oU 51 (.bin .eql (.t 49) (.c (.int .i64 23))),
 oT 50 (.mov (.u 51))])
 (.cond (.t 50)
 (.region [oM 52 0,
 oM 53 1,
 oU 54 (.bin .add (.u 53) (.c (.int .i64 64))),
 oM 55 1,
 oU 56 (.bin .add (.u 55) (.c (.int .i64 200))),
 oU 57 (.mkS 1 7 [.int .i64 0] [(0, 1, (.c (.int .i64 0))), (1, 1, (.c (.int .i64 (-1)))), (2, 1, (.c (.int .i64 1073741824))), (3, 1, (.c (.int .i64 1073741825))), (4, 1, (.c (.int .i64 1073741754))), (5, 1, (.u 54)), (6, 1, (.u 56))]),
 oU 58 (.call 25 [(.u 52), (.u 57)]),
 oU 59 (.faddr 2 (.t 5)),
 oN (.store 1 (.u 59) (.u 58))])
 (.seq (.region [oU 61 (.bin .eql (.t 49) (.c (.int .i64 22))),
 oT 60 (.mov (.u 61))])
 (.cond (.t 60)
 (.region [oU 62 (.faddr 0 (.t 5)),
 oN (.store 1 (.u 62) (.c (.int .i64 7)))])
 (.skip)))))))
 (.seq (.region [oU 63 (.load true 4 (.t 5)),
 oN (.store 4 (.t 4) (.u 63))])
 (.ret)))))
def r12 : List LRes := [.cell true 4 4]
theorem t12 : (Tryd.f12.body.bind (trCode v12 Tryd.prog Tryd.f12.ntmps)) = some c12 ∧ trRes v12 Tryd.prog Tryd.f12.results.toList = some r12 := ⟨by kernel_rfl, by kernel_rfl⟩

def v15 : Nat → Bool := fun t => [0, 1, 4, 5, 6, 7, 13].contains t
def c15 : LCode :=
 .seq (.region [oT 4 (.mov (.c (.fsl 1 0 [])))])
 (.seq (.region [oM 8 0,
 oU 9 (.mkS 1 4 [.int .i64 0] [(0, 1, (.c (.int .i64 3))), (1, 1, (.c (.int .i64 6))), (2, 1, (.c (.int .i64 12))), (3, 1, (.c (.int .i64 80)))]),
 oU 10 (.call 25 [(.u 8), (.u 9)]),
 oT 5 (.mov (.u 10))])
 (.seq (.region [oT 6 (.mov (.c (.fsl 1 0 [])))])
 (.seq (.seq (.region [oT 7 (.mov (.c (.int .i64 0)))])
 (.block 0 (.loop (.seq (.seq (.region [oM 11 7,
 oM 12 1,
 oT 13 (.bin .lss (.u 11) (.u 12))])
 (.cond (.t 13)
 (.skip)
 (.exit 0)))
 (.seq (.block 1 (.region [oM 16 6,
 oM 17 0,
 oM 18 5,
 oU 19 (.call 12 [(.u 17), (.u 18)]),
 oU 20 (.mkS 4 1 [.int .i64 0, .int .i64 0, .int .i64 0, .fsl 1 0 []] [(0, 4, (.u 19))]),
 oU 21 (.app 4 48 (.u 16) (.u 20)),
 oT 6 (.mov (.u 21))]))
 (.region [oM 14 7,
 oU 15 (.bin .add (.u 14) (.c (.int .i64 1))),
 oT 7 (.mov (.u 15))]))))))
 (.seq (.region [oM 22 6,
 oT 4 (.mov (.u 22))])
 (.ret)))))
def r15 : List LRes := [.slot 4]
theorem t15 : (Tryd.f15.body.bind (trCode v15 Tryd.prog Tryd.f15.ntmps)) = some c15 ∧ trRes v15 Tryd.prog Tryd.f15.results.toList = some r15 := ⟨by kernel_rfl, by kernel_rfl⟩


end Go.Proofs.YtfheeghkajihoaaDoor
