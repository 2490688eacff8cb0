/- The functions' bodies as the engine reads them; written by program out of the translation, checked by the kernel. -/
import Derived.Test.YtfheeghkajihoaaDoorProg
import Derived.Test.YtfheeghkajihoaaDoorLxL
import Derived.KernelRfl
namespace Go.Proofs.YtfheeghkajihoaaDoor
open Go Go.Lx
set_option maxRecDepth 100000
def v9 : Nat → Bool := fun t => [0, 1, 3].contains t
def c9 : LCode :=
 .seq (.region [oT 0 (.mov (.c (.bool false)))])
 (.seq (.region [oU 4 (.build [.int .i64 0, .int .i64 0, .int .i64 0, .fsl 1 0 []] [(0, 1, (.c (.int .i64 1300))), (2, 1, (.c (.int .i64 2)))]),
 oU 5 (.build [.int .i64 0, .int .i64 0, .int .i64 0, .fsl 1 0 []] [(0, 1, (.c (.int .i64 1300))), (2, 1, (.c (.int .i64 1)))]),
 oU 6 (.build [.int .i64 0, .int .i64 0, .int .i64 0, .fsl 1 0 []] [(0, 1, (.c (.int .i64 1320))), (2, 1, (.c (.int .i64 2)))]),
 oU 7 (.build [.int .i64 0, .int .i64 0, .int .i64 0, .fsl 1 0 []] [(0, 1, (.c (.int .i64 1320))), (2, 1, (.c (.int .i64 1)))]),
 oU 8 (.mkS 4 4 [.int .i64 0, .int .i64 0, .int .i64 0, .fsl 1 0 []] [(0, 4, (.u 4)), (4, 4, (.u 5)), (8, 4, (.u 6)), (12, 4, (.u 7))]),
 oT 1 (.mov (.u 8))])
 (.seq (.region [oU 10 (.call 17 [(.c (.int .i64 3))]),
 oM 11 1,
 oU 12 (.call 16 [(.u 10), (.u 11)]),
 oU 9 (.mov (.u 12)),
 oU 13 (.ext (.u 9) 0),
 oU 14 (.ext (.u 9) 1),
 oU 2 (.zero [.int .i64 0, .int .i64 0, .int .i64 0, .fsl 1 0 [], .fsl 1 0 [], .fsl 1 0 [], .int .i64 0]),
 oN (.store 7 (.u 2) (.u 13)),
 oT 3 (.mov (.u 14))])
 (.seq (.region [oM 15 3,
 oU 16 (.lenL (.u 15)),
 oU 17 (.bin .eql (.u 16) (.c (.int .i64 2))),
 oU 18 (.mov (.u 17)),
 ⟨some 19, false, some ((.u 18), true), .mov (.t 3)⟩,
 ⟨some 20, false, some ((.u 18), true), .iaS 5 (.u 19) (.c (.int .i64 0))⟩,
 ⟨some 21, false, some ((.u 18), true), .faddr 1 (.u 20)⟩,
 ⟨some 22, false, some ((.u 18), true), .load false 1 (.u 21)⟩,
 ⟨some 23, false, some ((.u 18), true), .bin .eql (.u 22) (.c (.int .i64 1))⟩,
 oU 24 (.pick (.u 18) (.u 23) (.c (.bool false))),
 oU 25 (.mov (.u 24)),
 ⟨some 26, false, some ((.u 25), true), .mov (.t 3)⟩,
 ⟨some 27, false, some ((.u 25), true), .iaS 5 (.u 26) (.c (.int .i64 1))⟩,
 ⟨some 28, false, some ((.u 25), true), .faddr 1 (.u 27)⟩,
 ⟨some 29, false, some ((.u 25), true), .load false 1 (.u 28)⟩,
 ⟨some 30, false, some ((.u 25), true), .bin .eql (.u 29) (.c (.int .i64 2))⟩,
 oU 31 (.pick (.u 25) (.u 30) (.c (.bool false))),
 oU 32 (.mov (.u 31)),
 ⟨some 33, false, some ((.u 32), true), .mov (.t 3)⟩,
 ⟨some 34, false, some ((.u 32), true), .iaS 5 (.u 33) (.c (.int .i64 0))⟩,
 ⟨some 35, false, some ((.u 32), true), .faddr 4 (.u 34)⟩,
 ⟨some 36, false, some ((.u 32), true), .load false 1 (.u 35)⟩,
 oU 37 (.pick (.u 32) (.u 36) (.c (.bool false))),
 oU 38 (.mov (.u 37)),
 ⟨some 39, false, some ((.u 38), true), .mov (.t 3)⟩,
 ⟨some 40, false, some ((.u 38), true), .iaS 5 (.u 39) (.c (.int .i64 1))⟩,
 ⟨some 41, false, some ((.u 38), true), .faddr 0 (.u 40)⟩,
 ⟨some 42, false, some ((.u 38), true), .load false 1 (.u 41)⟩,
 ⟨some 43, false, some ((.u 38), true), .bin .eql (.u 42) (.c (.int .i64 3))⟩,
 oU 44 (.pick (.u 38) (.u 43) (.c (.bool false))),
 oT 0 (.mov (.u 44))])
 (.ret))))
def r9 : List LRes := [.slot 0]
theorem t9 : (Tryd.f9.body.bind (trCode v9 Tryd.prog Tryd.f9.ntmps)) = some c9 ∧ trRes v9 Tryd.prog Tryd.f9.results.toList = some r9 := ⟨by kernel_rfl, by kernel_rfl⟩

def v10 : Nat → Bool := fun t => [0, 2].contains t
def c10 : LCode :=
 .seq (.region [oT 2 (.mov (.c (.nil)))])
 (.seq (.region [oM 3 0,
 oU 4 (.build [.fsl 1 0 [], .int .i64 0] [(0, 1, (.u 3))]),
 oU 5 (.box (.u 4)),
 oT 2 (.mov (.u 5))])
 (.ret))
def r10 : List LRes := [.slot 2]
theorem t10 : (Tryd.f10.body.bind (trCode v10 Tryd.prog Tryd.f10.ntmps)) = some c10 ∧ trRes v10 Tryd.prog Tryd.f10.results.toList = some r10 := ⟨by kernel_rfl, by kernel_rfl⟩

def v11 : Nat → Bool := fun t => [0, 1, 4, 5, 7, 29, 45].contains t
def c11 : LCode :=
 .seq (.region [oT 4 (.mov (.c (.int .i64 0)))])
 (.seq (.seq (.region [oM 6 1,
 oT 7 (.bin .lss (.u 6) (.c (.int .i64 1)))])
 (.cond (.t 7)
 (.seq (.region [oT 4 (.mov (.c (.int .i64 0)))])
 (.ret))
 (.skip)))
 (.seq (.region [oM 8 0,
 oU 9 (.nilc (.u 8)),
 oU 10 (.faddr 1 (.u 9)),
 oU 11 (.load false 1 (.u 10)),
 oU 12 (.bin .add (.u 11) (.c (.int .i64 1))),
 oU 13 (.nilc (.u 8)),
 oU 14 (.faddr 1 (.u 13)),
 oN (.store 1 (.u 14) (.u 12))])
 (.seq (.region [oM 15 0,
 oU 16 (.nilc (.u 15)),
 oU 17 (.faddr 1 (.u 16)),
 oU 18 (.load false 1 (.u 17)),
 oU 19 (.bin .mul (.u 18) (.c (.int .i64 7))),
 oT 5 (.mov (.u 19))])
 (.seq (.seq (.regionD [⟨0, [0], false, [], oM 20 0⟩,
 ⟨1, [20], false, [], oU 21 (.nilc (.u 20))⟩,
 ⟨2, [21], false, [], oU 22 (.faddr 1 (.u 21))⟩,
 ⟨3, [22], true, [], oU 23 (.load false 1 (.u 22))⟩,
 ⟨4, [0], false, [], oM 24 0⟩,
 ⟨5, [24], false, [], oU 25 (.nilc (.u 24))⟩,
 ⟨6, [25], false, [], oU 26 (.faddr 0 (.u 25))⟩,
 ⟨7, [26], true, [], oU 27 (.load false 1 (.u 26))⟩,
 ⟨8, [27], false, [], oU 28 (.lenL (.u 27))⟩,
 ⟨9, [23, 28], false, [], oT 29 (.bin .leq (.u 23) (.u 28))⟩])
 (.cond (.t 29)
 (.regionD [⟨0, [0], false, [], oM 30 0⟩,
 ⟨1, [30], false, [], oU 31 (.nilc (.u 30))⟩,
 ⟨2, [31], false, [], oU 32 (.faddr 0 (.u 31))⟩,
 ⟨3, [32], true, [], oU 33 (.load false 1 (.u 32))⟩,
 ⟨4, [0], false, [], oM 34 0⟩,
 ⟨5, [34], false, [], oU 35 (.nilc (.u 34))⟩,
 ⟨6, [35], false, [], oU 36 (.faddr 1 (.u 35))⟩,
 ⟨7, [36], true, [], oU 37 (.load false 1 (.u 36))⟩,
 ⟨8, [37], false, [], oU 38 (.bin .sub (.u 37) (.c (.int .i64 1)))⟩,
 ⟨9, [33, 38], false, [], oU 39 (.iaS 1 (.u 33) (.u 38))⟩,
 ⟨10, [39], true, [], oU 40 (.load false 1 (.u 39))⟩,
 ⟨11, [40], false, [], oT 5 (.mov (.u 40))⟩])
 (.skip)))
 (.seq (.region [oM 41 5,
 oM 42 1,
 oU 43 (.bin .rem (.u 41) (.u 42)),
 oT 5 (.mov (.u 43))])
 (.seq (.seq (.region [oM 44 5,
 oT 45 (.bin .lss (.u 44) (.c (.int .i64 0)))])
 (.cond (.t 45)
 (.region [oM 46 5,
 oM 47 1,
 oU 48 (.bin .add (.u 46) (.u 47)),
 oT 5 (.mov (.u 48))])
 (.skip)))
 (.seq (.region [oM 49 5,
 oT 4 (.mov (.u 49))])
 (.ret))))))))
def r11 : List LRes := [.slot 4]
theorem t11 : (Tryd.f11.body.bind (trCode v11 Tryd.prog Tryd.f11.ntmps)) = some c11 ∧ trRes v11 Tryd.prog Tryd.f11.results.toList = some r11 := ⟨by kernel_rfl, by kernel_rfl⟩

def v13 : Nat → Bool := fun t => [0, 1, 2, 3, 4, 5, 18, 20, 21, 22, 23, 35, 43].contains t
def c13 : LCode :=
 .seq (.region [oT 1 (.box (.t 0)),
 oT 2 (.mov (.c (.bool false)))])
 (.seq (.region [oU 6 (.faddr 3 (.t 1)),
 oU 7 (.load false 1 (.u 6)),
 oU 8 (.lenL (.u 7)),
 oT 3 (.mov (.u 8))])
 (.seq (.seq (.region [oM 9 3,
 oU 10 (.bin .eql (.u 9) (.c (.int .i64 1))),
 oU 11 (.mov (.u 10)),
 ⟨some 12, false, some ((.u 11), true), .faddr 3 (.t 1)⟩,
 ⟨some 13, false, some ((.u 11), true), .load false 1 (.u 12)⟩,
 ⟨some 14, false, some ((.u 11), true), .iaS 4 (.u 13) (.c (.int .i64 0))⟩,
 ⟨some 15, false, some ((.u 11), true), .faddr 0 (.u 14)⟩,
 ⟨some 16, false, some ((.u 11), true), .load false 1 (.u 15)⟩,
 ⟨some 17, false, some ((.u 11), true), .call 28 [(.u 16)]⟩,
 oT 18 (.pick (.u 11) (.u 17) (.c (.bool false)))])
 (.cond (.t 18)
 (.seq (.region [oT 2 (.mov (.c (.bool true)))])
 (.ret))
 (.skip)))
 (.seq (.seq (.region [oU 19 (.faddr 3 (.t 1)),
 oT 20 (.load false 1 (.u 19)),
 oT 21 (.lenL (.t 20)),
 oT 22 (.mov (.c (.int .i64 0)))])
 (.block 0 (.loop (.seq (.region [oT 23 (.bin .lss (.t 22) (.t 21))])
 (.seq (.cond (.t 23)
 (.skip)
 (.exit 0))
 (.seq (.block 1 (.seq (.region [oM 24 22,
 oU 25 (.iaS 4 (.t 20) (.t 22)),
 oU 26 (.load true 4 (.u 25)),
 oT 5 (.zero [.int .i64 0, .int .i64 0, .int .i64 0, .fsl 1 0 []]),
 oT 4 (.mov (.u 24)),
 oN (.store 4 (.t 5) (.u 26))])
 (.seq (.seq (.region [oU 27 (.faddr 0 (.t 5)),
 oU 28 (.load false 1 (.u 27)),
 oU 29 (.call 29 [(.u 28)]),
 oU 30 (.bin .eql (.u 29) (.c (.str []))),
 oU 31 (.mov (.u 30)),
 ⟨some 32, false, some ((.u 31), false), .faddr 0 (.t 5)⟩,
 ⟨some 33, false, some ((.u 31), false), .load false 1 (.u 32)⟩,
 ⟨some 34, false, some ((.u 31), false), .call 28 [(.u 33)]⟩,
 oT 35 (.pick (.u 31) (.c (.bool true)) (.u 34))])
 (.cond (.t 35)
 (.seq (.region [oT 2 (.mov (.c (.bool false)))])
 (.ret))
 (.skip)))
 (.seq (.region [oU 36 (.faddr 0 (.t 5)),
 oU 37 (.load false 1 (.u 36)),
 oU 38 (.bin .eql (.u 37) (.c (.int .i64 1320))),
 oM 39 4,
 oM 40 3,
 oU 41 (.bin .sub (.u 40) (.c (.int .i64 1))),
 oU 42 (.bin .eql (.u 39) (.u 41)),
 oT 43 (.eqB true (.u 38) (.u 42))])
 (.cond (.t 43)
 (.seq (.region [oT 2 (.mov (.c (.bool false)))])
 (.ret))
 (.skip))))))
 (.region [oU 44 (.bin .add (.t 22) (.c (.int .i64 1))),
 oT 22 (.mov (.u 44))])))))))
 (.seq (.region [oM 45 3,
 oU 46 (.bin .gtr (.u 45) (.c (.int .i64 0))),
 oT 2 (.mov (.u 46))])
 (.ret)))))
def r13 : List LRes := [.slot 2]
theorem t13 : (Tryd.f13.body.bind (trCode v13 Tryd.prog Tryd.f13.ntmps)) = some c13 ∧ trRes v13 Tryd.prog Tryd.f13.results.toList = some r13 := ⟨by kernel_rfl, by kernel_rfl⟩

def v16 : Nat → Bool := fun t => [0, 1, 2, 4, 5, 6, 8, 13, 14, 15, 16, 21].contains t
def c16 : LCode :=
 .seq (.region [oT 2 (.box (.t 0)),
 oT 4 (.zero [.int .i64 0, .int .i64 0, .int .i64 0, .fsl 1 0 [], .fsl 1 0 [], .fsl 1 0 [], .int .i64 0]),
 oT 5 (.mov (.c (.fsl 1 0 [])))])
 (.seq (.region [oU 9 (.load true 7 (.t 2)),
 oU 10 (.call 32 [(.u 9)]),
 oU 11 (.build [.int .i64 0, .int .i64 0, .int .i64 0, .fsl 1 0 [], .fsl 1 0 [], .fsl 1 0 [], .int .i64 0, .fsl 1 0 []] [(0, 7, (.u 10))]),
 oU 12 (.box (.u 11)),
 oT 6 (.mov (.u 12))])
 (.seq (.seq (.region [oT 13 (.mov (.t 1)),
 oT 14 (.lenL (.t 13)),
 oT 15 (.mov (.c (.int .i64 0)))])
 (.block 0 (.loop (.seq (.region [oT 16 (.bin .lss (.t 15) (.t 14))])
 (.seq (.cond (.t 16)
 (.skip)
 (.exit 0))
 (.seq (.block 1 (.seq (.region [oU 17 (.iaS 4 (.t 13) (.t 15)),
 oU 18 (.load true 4 (.u 17)),
 oT 8 (.zero [.int .i64 0, .int .i64 0, .int .i64 0, .fsl 1 0 []]),
 oN (.store 4 (.t 8) (.u 18))])
 (.seq (.region [oM 19 6,
 oU 20 (.load true 4 (.t 8)),
 oT 21 (.call 33 [(.u 19), (.u 20)])])
 (.cond (.t 21)
 (.region [oM 22 6,
 oM 23 6,
 oU 24 (.nilc (.u 23)),
 oU 25 (.faddr 0 (.u 24)),
 oU 26 (.faddr 6 (.u 25)),
 oU 27 (.load false 1 (.u 26)),
 oU 28 (.bin .sub (.u 27) (.c (.int .i64 64))),
 oU 29 (.call 34 [(.u 22), (.u 28)])])
 (.skip)))))
 (.region [oU 30 (.bin .add (.t 15) (.c (.int .i64 1))),
 oT 15 (.mov (.u 30))])))))))
 (.seq (.regionD [⟨0, [6], false, [], oM 31 6⟩,
 ⟨1, [31], false, [], oU 32 (.nilc (.u 31))⟩,
 ⟨2, [32], false, [], oU 33 (.faddr 0 (.u 32))⟩,
 ⟨3, [33], true, [], oU 34 (.load true 7 (.u 33))⟩,
 ⟨4, [6], false, [], oM 35 6⟩,
 ⟨5, [35], false, [], oU 36 (.nilc (.u 35))⟩,
 ⟨6, [36], false, [], oU 37 (.faddr 7 (.u 36))⟩,
 ⟨7, [37], true, [], oU 38 (.load false 1 (.u 37))⟩,
 ⟨8, [4, 34], false, [7], oN (.store 7 (.t 4) (.u 34))⟩,
 ⟨9, [38], false, [], oT 5 (.mov (.u 38))⟩])
 (.ret))))
def r16 : List LRes := [.cell true 7 4, .slot 5]
theorem t16 : (Tryd.f16.body.bind (trCode v16 Tryd.prog Tryd.f16.ntmps)) = some c16 ∧ trRes v16 Tryd.prog Tryd.f16.results.toList = some r16 := ⟨by kernel_rfl, by kernel_rfl⟩

def v17 : Nat → Bool := fun t => [0, 2].contains t
def c17 : LCode :=
 .seq (.region [oT 2 (.zero [.int .i64 0, .int .i64 0, .int .i64 0, .fsl 1 0 [], .fsl 1 0 [], .fsl 1 0 [], .int .i64 0])])
 (.seq (.region [oM 3 0,
 oU 4 (.build [.int .i64 0, .int .i64 0, .int .i64 0, .fsl 1 0 [], .fsl 1 0 [], .fsl 1 0 [], .int .i64 0] [(0, 1, (.u 3)), (1, 1, (.c (.int .i64 1)))]),
 oN (.store 7 (.t 2) (.u 4))])
 (.ret))
def r17 : List LRes := [.cell true 7 2]
theorem t17 : (Tryd.f17.body.bind (trCode v17 Tryd.prog Tryd.f17.ntmps)) = some c17 ∧ trRes v17 Tryd.prog Tryd.f17.results.toList = some r17 := ⟨by kernel_rfl, by kernel_rfl⟩

def v18 : Nat → Bool := fun t => [0, 1, 2, 6].contains t
def c18 : LCode :=
 .seq (.region [oT 6 (.mov (.c (.int .i64 0)))])
 (.seq (.region [oM 7 1,
 oM 8 0,
 oM 9 2,
 oM 10 1,
 oU 11 (.bin .sub (.u 9) (.u 10)),
 oU 12 (.bin .add (.u 11) (.c (.int .i64 1))),
 oU 13 (.call 11 [(.u 8), (.u 12)]),
 oU 14 (.bin .add (.u 7) (.u 13)),
 oT 6 (.mov (.u 14))])
 (.ret))
def r18 : List LRes := [.slot 6]
theorem t18 : (Tryd.f18.body.bind (trCode v18 Tryd.prog Tryd.f18.ntmps)) = some c18 ∧ trRes v18 Tryd.prog Tryd.f18.results.toList = some r18 := ⟨by kernel_rfl, by kernel_rfl⟩

def v23 : Nat → Bool := fun t => [0, 1, 2, 3, 4].contains t
def c23 : LCode :=
 .seq (.region [oT 1 (.box (.t 0)),
 oT 2 (.zero [.int .i64 0, .int .i64 0, .int .i64 0, .fsl 1 0 [], .fsl 1 0 [], .fsl 1 0 [], .int .i64 0]),
 oT 3 (.mov (.c (.fsl 1 0 [])))])
 (.seq (.region [oU 5 (.load true 7 (.t 1)),
 oU 6 (.call 32 [(.u 5)]),
 oU 7 (.build [.int .i64 0, .int .i64 0, .int .i64 0, .fsl 1 0 [], .fsl 1 0 [], .fsl 1 0 [], .int .i64 0, .fsl 1 0 []] [(0, 7, (.u 6))]),
 oU 8 (.box (.u 7)),
 oT 4 (.mov (.u 8))])
 (.seq (.region [oM 9 4,
 oM 10 4,
 oU 11 (.nilc (.u 10)),
 oU 12 (.faddr 0 (.u 11)),
 oU 13 (.faddr 6 (.u 12)),
 oU 14 (.load false 1 (.u 13)),
 oU 15 (.call 34 [(.u 9), (.u 14)])])
 (.seq (.regionD [⟨0, [4], false, [], oM 16 4⟩,
 ⟨1, [16], false, [], oU 17 (.nilc (.u 16))⟩,
 ⟨2, [17], false, [], oU 18 (.faddr 0 (.u 17))⟩,
 ⟨3, [18], true, [], oU 19 (.load true 7 (.u 18))⟩,
 ⟨4, [4], false, [], oM 20 4⟩,
 ⟨5, [20], false, [], oU 21 (.nilc (.u 20))⟩,
 ⟨6, [21], false, [], oU 22 (.faddr 7 (.u 21))⟩,
 ⟨7, [22], true, [], oU 23 (.load false 1 (.u 22))⟩,
 ⟨8, [2, 19], false, [7], oN (.store 7 (.t 2) (.u 19))⟩,
 ⟨9, [23], false, [], oT 3 (.mov (.u 23))⟩])
 (.ret))))
def r23 : List LRes := [.cell true 7 2, .slot 3]
theorem t23 : (Tryd.f23.body.bind (trCode v23 Tryd.prog Tryd.f23.ntmps)) = some c23 ∧ trRes v23 Tryd.prog Tryd.f23.results.toList = some r23 := ⟨by kernel_rfl, by kernel_rfl⟩

def v25 : Nat → Bool := fun t => [0, 1, 4].contains t
def c25 : LCode :=
 .seq (.region [oT 4 (.mov (.c (.int .i64 0)))])
 (.seq (.region [oM 5 1,
 oM 6 0,
 oM 7 1,
 oU 8 (.lenL (.u 7)),
 oU 9 (.call 11 [(.u 6), (.u 8)]),
 oU 10 (.iaS 1 (.u 5) (.u 9)),
 oU 11 (.load false 1 (.u 10)),
 oT 4 (.mov (.u 11))])
 (.ret))
def r25 : List LRes := [.slot 4]
theorem t25 : (Tryd.f25.body.bind (trCode v25 Tryd.prog Tryd.f25.ntmps)) = some c25 ∧ trRes v25 Tryd.prog Tryd.f25.results.toList = some r25 := ⟨by kernel_rfl, by kernel_rfl⟩

def v28 : Nat → Bool := fun t => [0, 2, 4, 5, 6, 7, 12].contains t
def c28 : LCode :=
 .seq (.region [oT 2 (.mov (.c (.bool false)))])
 (.seq (.seq (.region [oT 5 (.load true 30 (.g 0)),
 oT 6 (.mov (.c (.int .i64 0)))])
 (.block 0 (.loop (.seq (.region [oT 7 (.bin .lss (.t 6) (.c (.int .i64 10)))])
 (.seq (.cond (.t 7)
 (.skip)
 (.exit 0))
 (.seq (.block 1 (.seq (.region [oU 8 (.ixA true 10 3 (.t 5) (.t 6)),
 oT 4 (.zero [.str [], .int .i64 0, .bool false]),
 oN (.store 3 (.t 4) (.u 8))])
 (.seq (.region [oU 9 (.faddr 1 (.t 4)),
 oU 10 (.load false 1 (.u 9)),
 oM 11 0,
 oT 12 (.bin .eql (.u 10) (.u 11))])
 (.cond (.t 12)
 (.seq (.region [oU 13 (.faddr 2 (.t 4)),
 oU 14 (.load false 1 (.u 13)),
 oT 2 (.mov (.u 14))])
 (.ret))
 (.skip)))))
 (.region [oU 15 (.bin .add (.t 6) (.c (.int .i64 1))),
 oT 6 (.mov (.u 15))])))))))
 (.seq (.region [oT 2 (.mov (.c (.bool false)))])
 (.ret)))
def r28 : List LRes := [.slot 2]
theorem t28 : (Tryd.f28.body.bind (trCode v28 Tryd.prog Tryd.f28.ntmps)) = some c28 ∧ trRes v28 Tryd.prog Tryd.f28.results.toList = some r28 := ⟨by kernel_rfl, by kernel_rfl⟩

def v29 : Nat → Bool := fun t => [0, 2, 4, 5, 6, 7, 12].contains t
def c29 : LCode :=
 .seq (.region [oT 2 (.mov (.c (.str [])))])
 (.seq (.seq (.region [oT 5 (.load true 30 (.g 0)),
 oT 6 (.mov (.c (.int .i64 0)))])
 (.block 0 (.loop (.seq (.region [oT 7 (.bin .lss (.t 6) (.c (.int .i64 10)))])
 (.seq (.cond (.t 7)
 (.skip)
 (.exit 0))
 (.seq (.block 1 (.seq (.region [oU 8 (.ixA true 10 3 (.t 5) (.t 6)),
 oT 4 (.zero [.str [], .int .i64 0, .bool false]),
 oN (.store 3 (.t 4) (.u 8))])
 (.seq (.region [oU 9 (.faddr 1 (.t 4)),
 oU 10 (.load false 1 (.u 9)),
 oM 11 0,
 oT 12 (.bin .eql (.u 10) (.u 11))])
 (.cond (.t 12)
 (.seq (.region [oU 13 (.faddr 0 (.t 4)),
 oU 14 (.load false 1 (.u 13)),
 oT 2 (.mov (.u 14))])
 (.ret))
 (.skip)))))
 (.region [oU 15 (.bin .add (.t 6) (.c (.int .i64 1))),
 oT 6 (.mov (.u 15))])))))))
 (.seq (.region [oT 2 (.mov (.c (.str [])))])
 (.ret)))
def r29 : List LRes := [.slot 2]
theorem t29 : (Tryd.f29.body.bind (trCode v29 Tryd.prog Tryd.f29.ntmps)) = some c29 ∧ trRes v29 Tryd.prog Tryd.f29.results.toList = some r29 := ⟨by kernel_rfl, by kernel_rfl⟩

def v32 : Nat → Bool := fun t => [0, 1, 2, 3, 4, 5, 6, 12, 13, 14, 15, 28, 29, 30, 31].contains t
def c32 : LCode :=
 .seq (.region [oT 1 (.box (.t 0)),
 oT 2 (.zero [.int .i64 0, .int .i64 0, .int .i64 0, .fsl 1 0 [], .fsl 1 0 [], .fsl 1 0 [], .int .i64 0])])
 (.seq (.region [oU 7 (.faddr 3 (.t 1)),
 oU 8 (.load false 1 (.u 7)),
 oU 9 (.call 41 [(.u 8)]),
 oU 10 (.faddr 3 (.t 1)),
 oN (.store 1 (.u 10) (.u 9))])
 (.seq (.seq (.region [oU 11 (.faddr 3 (.t 1)),
 oT 12 (.load false 1 (.u 11)),
 oT 13 (.lenL (.t 12)),
 oT 14 (.mov (.c (.int .i64 0)))])
 (.block 0 (.loop (.seq (.region [oT 15 (.bin .lss (.t 14) (.t 13))])
 (.seq (.cond (.t 15)
 (.skip)
 (.exit 0))
 (.seq (.block 1 (.seq (.region [oM 16 14,
 oU 17 (.iaS 5 (.t 12) (.t 14)),
 oU 18 (.load true 5 (.u 17)),
 oT 4 (.zero [.int .i64 0, .int .i64 0, .int .i64 0, .fsl 1 0 [], .bool false]),
 oT 3 (.mov (.u 16)),
 oN (.store 5 (.t 4) (.u 18))])
 (.seq (.regionD [⟨0, [1], false, [], oU 19 (.faddr 3 (.t 1))⟩,
 ⟨1, [19], true, [], oU 20 (.load false 1 (.u 19))⟩,
 ⟨2, [3], false, [], oM 21 3⟩,
 ⟨3, [4], false, [], oU 22 (.faddr 3 (.t 4))⟩,
 ⟨4, [22], true, [], oU 23 (.load false 1 (.u 22))⟩,
 ⟨5, [23], false, [1], oU 24 (.call 42 [(.u 23)])⟩,
 ⟨6, [20, 21], false, [], oU 25 (.iaS 5 (.u 20) (.u 21))⟩,
 ⟨7, [25], false, [], oU 26 (.faddr 3 (.u 25))⟩,
 ⟨8, [26, 24], false, [], oN (.store 1 (.u 26) (.u 24))⟩])
 (.seq (.region [oU 27 (.faddr 3 (.t 4)),
 oT 28 (.load false 1 (.u 27)),
 oT 29 (.lenL (.t 28)),
 oT 30 (.mov (.c (.int .i64 0)))])
 (.block 2 (.loop (.seq (.region [oT 31 (.bin .lss (.t 30) (.t 29))])
 (.seq (.cond (.t 31)
 (.skip)
 (.exit 2))
 (.seq (.block 3 (.seq (.region [oM 32 30,
 oU 33 (.iaS 4 (.t 28) (.t 30)),
 oU 34 (.load true 4 (.u 33)),
 oT 6 (.zero [.int .i64 0, .int .i64 0, .int .i64 0, .fsl 1 0 []]),
 oT 5 (.mov (.u 32)),
 oN (.store 4 (.t 6) (.u 34))])
 (.regionD [⟨0, [1], false, [], oU 35 (.faddr 3 (.t 1))⟩,
 ⟨1, [35], true, [], oU 36 (.load false 1 (.u 35))⟩,
 ⟨2, [3], false, [], oM 37 3⟩,
 ⟨3, [36, 37], false, [], oU 38 (.iaS 5 (.u 36) (.u 37))⟩,
 ⟨4, [38], false, [], oU 39 (.faddr 3 (.u 38))⟩,
 ⟨5, [39], true, [], oU 40 (.load false 1 (.u 39))⟩,
 ⟨6, [5], false, [], oM 41 5⟩,
 ⟨7, [6], true, [], oU 42 (.load true 4 (.t 6))⟩,
 ⟨8, [42], false, [5, 1], oU 43 (.call 43 [(.u 42)])⟩,
 ⟨9, [40, 41], false, [], oU 44 (.iaS 4 (.u 40) (.u 41))⟩,
 ⟨10, [44, 43], false, [], oN (.store 4 (.u 44) (.u 43))⟩])))
 (.region [oU 45 (.bin .add (.t 30) (.c (.int .i64 1))),
 oT 30 (.mov (.u 45))]))))))))))
 (.region [oU 46 (.bin .add (.t 14) (.c (.int .i64 1))),
 oT 14 (.mov (.u 46))])))))))
 (.seq (.region [oU 47 (.faddr 4 (.t 1)),
 oU 48 (.load false 1 (.u 47)),
 oU 49 (.call 44 [(.u 48)]),
 oU 50 (.faddr 4 (.t 1)),
 oN (.store 1 (.u 50) (.u 49))])
 (.seq (.region [oU 51 (.faddr 5 (.t 1)),
 oU 52 (.load false 1 (.u 51)),
 oU 53 (.call 45 [(.u 52)]),
 oU 54 (.faddr 5 (.t 1)),
 oN (.store 1 (.u 54) (.u 53))])
 (.seq (.region [oU 55 (.load true 7 (.t 1)),
 oN (.store 7 (.t 2) (.u 55))])
 (.ret))))))
def r32 : List LRes := [.cell true 7 2]
theorem t32 : (Tryd.f32.body.bind (trCode v32 Tryd.prog Tryd.f32.ntmps)) = some c32 ∧ trRes v32 Tryd.prog Tryd.f32.results.toList = some r32 := ⟨by kernel_rfl, by kernel_rfl⟩

def v33 : Nat → Bool := fun t => [0, 1, 3, 4, 5, 6, 7, 8, 50, 61, 70, 141].contains t
def c33 : LCode :=
 .seq (.region [oT 3 (.box (.t 1)),
 oT 4 (.mov (.c (.bool false)))])
 (.seq (.region [oM 9 0,
 oU 10 (.faddr 2 (.t 3)),
 oU 11 (.load false 1 (.u 10)),
 oU 12 (.call 46 [(.u 9), (.u 11)]),
 oT 5 (.mov (.u 12))])
 (.seq (.seq (.regionD [⟨0, [3], true, [], oU 13 (.load true 4 (.t 3))⟩,
 ⟨1, [13], false, [], oU 14 (.call 47 [(.u 13)])⟩,
 ⟨2, [14], false, [], oU 15 (.bin .neq (.u 14) (.c (.int .i64 0)))⟩,
 ⟨3, [15], false, [], oU 16 (.mov (.u 15))⟩,
 ⟨4, [3, 16], false, [], ⟨some 17, false, some ((.u 16), false), .faddr 2 (.t 3)⟩⟩,
 ⟨5, [17, 16], true, [], ⟨some 18, false, some ((.u 16), false), .load false 1 (.u 17)⟩⟩,
 ⟨6, [18, 16], false, [], ⟨some 19, false, some ((.u 16), false), .bin .eql (.u 18) (.c (.int .i64 0))⟩⟩,
 ⟨7, [16, 19], false, [], oU 20 (.pick (.u 16) (.c (.bool true)) (.u 19))⟩,
 ⟨8, [20], false, [], oU 21 (.mov (.u 20))⟩,
 ⟨9, [3, 21], false, [], ⟨some 22, false, some ((.u 21), false), .faddr 2 (.t 3)⟩⟩,
 ⟨10, [22, 21], true, [], ⟨some 23, false, some ((.u 21), false), .load false 1 (.u 22)⟩⟩,
 ⟨11, [0, 21], false, [], ⟨some 24, false, some ((.u 21), false), .mov (.t 0)⟩⟩,
 ⟨12, [24, 21], false, [], ⟨some 25, false, some ((.u 21), false), .nilc (.u 24)⟩⟩,
 ⟨13, [25, 21], false, [], ⟨some 26, false, some ((.u 21), false), .faddr 0 (.u 25)⟩⟩,
 ⟨14, [26, 21], false, [], ⟨some 27, false, some ((.u 21), false), .faddr 1 (.u 26)⟩⟩,
 ⟨15, [27, 21], true, [], ⟨some 28, false, some ((.u 21), false), .load false 1 (.u 27)⟩⟩,
 ⟨16, [23, 28, 21], false, [], ⟨some 29, false, some ((.u 21), false), .bin .lss (.u 23) (.u 28)⟩⟩,
 ⟨17, [21, 29], false, [], oU 30 (.pick (.u 21) (.c (.bool true)) (.u 29))⟩,
 ⟨18, [30], false, [], oU 31 (.mov (.u 30))⟩,
 ⟨19, [5, 31], false, [], ⟨some 32, false, some ((.u 31), false), .mov (.t 5)⟩⟩,
 ⟨20, [32, 31], false, [], ⟨some 33, false, some ((.u 31), false), .bin .geq (.u 32) (.c (.int .i64 0))⟩⟩,
 ⟨21, [33, 31], false, [], ⟨some 34, false, some ((.u 31), false), .mov (.u 33)⟩⟩,
 ⟨22, [0, 34], false, [], ⟨some 35, false, some ((.u 34), true), .mov (.t 0)⟩⟩,
 ⟨23, [35, 34], false, [], ⟨some 36, false, some ((.u 34), true), .nilc (.u 35)⟩⟩,
 ⟨24, [36, 34], false, [], ⟨some 37, false, some ((.u 34), true), .faddr 0 (.u 36)⟩⟩,
 ⟨25, [37, 34], false, [], ⟨some 38, false, some ((.u 34), true), .faddr 3 (.u 37)⟩⟩,
 ⟨26, [38, 34], true, [], ⟨some 39, false, some ((.u 34), true), .load false 1 (.u 38)⟩⟩,
 ⟨27, [5, 34], false, [], ⟨some 40, false, some ((.u 34), true), .mov (.t 5)⟩⟩,
 ⟨28, [39, 40, 34], false, [], ⟨some 41, false, some ((.u 34), true), .iaS 5 (.u 39) (.u 40)⟩⟩,
 ⟨29, [41, 34], false, [], ⟨some 42, false, some ((.u 34), true), .faddr 4 (.u 41)⟩⟩,
 ⟨30, [42, 34], true, [], ⟨some 43, false, some ((.u 34), true), .load false 1 (.u 42)⟩⟩,
 ⟨31, [43, 34], false, [], ⟨some 44, false, some ((.u 34), true), .mov (.u 43)⟩⟩,
 ⟨32, [3, 44], false, [], ⟨some 45, false, some ((.u 44), false), .faddr 0 (.t 3)⟩⟩,
 ⟨33, [45, 44], true, [], ⟨some 46, false, some ((.u 44), false), .load false 1 (.u 45)⟩⟩,
 ⟨34, [46, 44], false, [], ⟨some 47, false, some ((.u 44), false), .call 28 [(.u 46)]⟩⟩,
 ⟨35, [44, 47, 34], false, [], ⟨some 48, false, some ((.u 34), true), .pick (.u 44) (.c (.bool true)) (.u 47)⟩⟩,
 ⟨36, [34, 48, 31], false, [], ⟨some 49, false, some ((.u 31), false), .pick (.u 34) (.u 48) (.c (.bool false))⟩⟩,
 ⟨37, [31, 49], false, [], oT 50 (.pick (.u 31) (.c (.bool true)) (.u 49))⟩])
 (.cond (.t 50)
 (.seq (.region [oM 51 0,
 oU 52 (.nilc (.u 51)),
 oU 53 (.faddr 0 (.u 52)),
 oU 54 (.faddr 2 (.u 53)),
 oU 55 (.load false 1 (.u 54)),
 oU 56 (.bin .add (.u 55) (.c (.int .i64 1))),
 oU 57 (.nilc (.u 51)),
 oU 58 (.faddr 0 (.u 57)),
 oU 59 (.faddr 2 (.u 58)),
 oN (.store 1 (.u 59) (.u 56))])
 (.seq (.region [oT 4 (.mov (.c (.bool false)))])
 (.ret)))
 (.skip)))
 (.seq (.seq (.region [oM 60 5,
 oT 61 (.bin .lss (.u 60) (.c (.int .i64 0)))])
 (.cond (.t 61)
 (.seq (.region [oM 62 0,
 oU 63 (.nilc (.u 62)),
 oU 64 (.faddr 0 (.u 63)),
 oU 65 (.faddr 3 (.u 64)),
 oU 66 (.load false 1 (.u 65)),
 oU 67 (.mkf 49 [(.t 3)]),
 oU 68 (.call 48 [(.u 66), (.u 67)]),
 oT 5 (.mov (.u 68))])
 (.seq (.seq (.region [oM 69 5,
 oT 70 (.bin .lss (.u 69) (.c (.int .i64 0)))])
 (.cond (.t 70)
 (.region [oM 71 0,
 oU 72 (.nilc (.u 71)),
 oU 73 (.faddr 0 (.u 72)),
 oU 74 (.faddr 3 (.u 73)),
 oU 75 (.load false 1 (.u 74)),
 oU 76 (.lenL (.u 75)),
 oT 5 (.mov (.u 76))])
 (.skip)))
 (.regionD [⟨0, [0], false, [], oM 77 0⟩,
 ⟨1, [0], false, [], oM 78 0⟩,
 ⟨2, [78], false, [], oU 79 (.nilc (.u 78))⟩,
 ⟨3, [79], false, [], oU 80 (.faddr 0 (.u 79))⟩,
 ⟨4, [80], false, [], oU 81 (.faddr 3 (.u 80))⟩,
 ⟨5, [81], true, [], oU 82 (.load false 1 (.u 81))⟩,
 ⟨6, [5], false, [], oM 83 5⟩,
 ⟨7, [0], false, [], oM 84 0⟩,
 ⟨8, [84], false, [], oU 85 (.nilc (.u 84))⟩,
 ⟨9, [85], false, [], oU 86 (.faddr 0 (.u 85))⟩,
 ⟨10, [86], false, [], oU 87 (.faddr 0 (.u 86))⟩,
 ⟨11, [87], true, [], oU 88 (.load false 1 (.u 87))⟩,
 ⟨12, [3], false, [], oU 89 (.faddr 2 (.t 3))⟩,
 ⟨13, [89], true, [], oU 90 (.load false 1 (.u 89))⟩,
 ⟨14, [3], false, [], oU 91 (.faddr 1 (.t 3))⟩,
 ⟨15, [91], true, [], oU 92 (.load false 1 (.u 91))⟩,
 ⟨16, [88, 90, 92], false, [], oU 93 (.build [.int .i64 0, .int .i64 0, .int .i64 0, .fsl 1 0 [], .bool false] [(0, 1, (.u 88)), (1, 1, (.u 90)), (2, 1, (.u 92))])⟩,
 ⟨17, [93], false, [], oU 94 (.mkS 5 1 [.int .i64 0, .int .i64 0, .int .i64 0, .fsl 1 0 [], .bool false] [(0, 5, (.u 93))])⟩,
 ⟨18, [82, 83, 94], false, [], oU 95 (.call 50 [(.u 82), (.u 83), (.u 94)])⟩,
 ⟨19, [77], false, [], oU 96 (.nilc (.u 77))⟩,
 ⟨20, [96], false, [], oU 97 (.faddr 0 (.u 96))⟩,
 ⟨21, [97], false, [], oU 98 (.faddr 3 (.u 97))⟩,
 ⟨22, [98, 95], false, [], oN (.store 1 (.u 98) (.u 95))⟩])))
 (.skip)))
 (.seq (.region [oM 99 0,
 oU 100 (.nilc (.u 99)),
 oU 101 (.faddr 0 (.u 100)),
 oU 102 (.faddr 3 (.u 101)),
 oU 103 (.load false 1 (.u 102)),
 oM 104 5,
 oU 105 (.iaS 5 (.u 103) (.u 104)),
 oT 6 (.mov (.u 105))])
 (.seq (.regionD [⟨0, [6], false, [], oM 106 6⟩,
 ⟨1, [6], false, [], oM 107 6⟩,
 ⟨2, [107], false, [], oU 108 (.nilc (.u 107))⟩,
 ⟨3, [108], false, [], oU 109 (.faddr 3 (.u 108))⟩,
 ⟨4, [109], true, [], oU 110 (.load false 1 (.u 109))⟩,
 ⟨5, [3], true, [], oU 111 (.load true 4 (.t 3))⟩,
 ⟨6, [111], false, [4], oU 112 (.call 43 [(.u 111)])⟩,
 ⟨7, [112], false, [], oU 113 (.mkS 4 1 [.int .i64 0, .int .i64 0, .int .i64 0, .fsl 1 0 []] [(0, 4, (.u 112))])⟩,
 ⟨8, [110, 113], false, [], oU 114 (.app 4 48 (.u 110) (.u 113))⟩,
 ⟨9, [106], false, [], oU 115 (.nilc (.u 106))⟩,
 ⟨10, [115], false, [], oU 116 (.faddr 3 (.u 115))⟩,
 ⟨11, [116, 114], false, [], oN (.store 1 (.u 116) (.u 114))⟩])
 (.seq (.region [oM 117 6,
 oM 118 6,
 oU 119 (.nilc (.u 118)),
 oU 120 (.load true 5 (.u 119)),
 oU 121 (.call 13 [(.u 120)]),
 oU 122 (.nilc (.u 117)),
 oU 123 (.faddr 4 (.u 122)),
 oN (.store 1 (.u 123) (.u 121))])
 (.seq (.regionD [⟨0, [0], false, [], oM 124 0⟩,
 ⟨1, [0], false, [], oM 125 0⟩,
 ⟨2, [125], false, [], oU 126 (.nilc (.u 125))⟩,
 ⟨3, [126], false, [], oU 127 (.faddr 0 (.u 126))⟩,
 ⟨4, [127], false, [], oU 128 (.faddr 6 (.u 127))⟩,
 ⟨5, [128], true, [], oU 129 (.load false 1 (.u 128))⟩,
 ⟨6, [3], false, [], oU 130 (.faddr 2 (.t 3))⟩,
 ⟨7, [130], true, [], oU 131 (.load false 1 (.u 130))⟩,
 ⟨8, [129, 131], false, [], oU 132 (.mm true (.u 129) [(.u 131)])⟩,
 ⟨9, [124], false, [], oU 133 (.nilc (.u 124))⟩,
 ⟨10, [133], false, [], oU 134 (.faddr 0 (.u 133))⟩,
 ⟨11, [134], false, [], oU 135 (.faddr 6 (.u 134))⟩,
 ⟨12, [135, 132], false, [], oN (.store 1 (.u 135) (.u 132))⟩])
 (.seq (.seq (.region [oU 137 (.load true 4 (.t 3)),
 oU 138 (.call 51 [(.u 137)]),
 oU 136 (.mov (.u 138)),
 oU 139 (.ext (.u 136) 0),
 oU 140 (.ext (.u 136) 1),
 oT 7 (.zero [.int .i64 0, .int .i64 0, .int .i64 0, .int .i64 0, .int .i64 0]),
 oN (.store 5 (.t 7) (.u 139)),
 oT 8 (.mov (.u 140))])
 (.seq (.region [oT 141 (.mov (.t 8))])
 (.cond (.t 141)
 (.regionD [⟨0, [0], false, [], oM 142 0⟩,
 ⟨1, [0], false, [], oM 143 0⟩,
 ⟨2, [143], false, [], oU 144 (.nilc (.u 143))⟩,
 ⟨3, [144], false, [], oU 145 (.faddr 0 (.u 144))⟩,
 ⟨4, [145], false, [], oU 146 (.faddr 4 (.u 145))⟩,
 ⟨5, [146], true, [], oU 147 (.load false 1 (.u 146))⟩,
 ⟨6, [7], true, [], oU 148 (.load true 5 (.t 7))⟩,
 ⟨7, [148], false, [], oU 149 (.mkS 5 1 [.int .i64 0, .int .i64 0, .int .i64 0, .int .i64 0, .int .i64 0] [(0, 5, (.u 148))])⟩,
 ⟨8, [147, 149], false, [], oU 150 (.app 5 40 (.u 147) (.u 149))⟩,
 ⟨9, [142], false, [], oU 151 (.nilc (.u 142))⟩,
 ⟨10, [151], false, [], oU 152 (.faddr 0 (.u 151))⟩,
 ⟨11, [152], false, [], oU 153 (.faddr 4 (.u 152))⟩,
 ⟨12, [153, 150], false, [], oN (.store 1 (.u 153) (.u 150))⟩])
 (.skip))))
 (.seq (.region [oT 4 (.mov (.c (.bool true)))])
 (.ret))))))))))
def r33 : List LRes := [.slot 4]
theorem t33 : (Tryd.f33.body.bind (trCode v33 Tryd.prog Tryd.f33.ntmps)) = some c33 ∧ trRes v33 Tryd.prog Tryd.f33.results.toList = some r33 := ⟨by kernel_rfl, by kernel_rfl⟩

def v34 : Nat → Bool := fun t => [0, 1, 2, 4, 5, 6, 7, 8, 10, 16, 26, 41, 87, 100, 110, 111, 112, 113, 119].contains t
def c34 : LCode :=
 .seq (.region [oT 2 (.box (.t 0))])
 (.seq (.block 0 (.loop (.seq (.seq (.region [oU 11 (.load false 1 (.t 2)),
 oU 12 (.nilc (.u 11)),
 oU 13 (.faddr 0 (.u 12)),
 oU 14 (.faddr 1 (.u 13)),
 oU 15 (.load false 1 (.u 14)),
 oT 16 (.bin .leq (.u 15) (.c (.int .i64 1073741824)))])
 (.cond (.t 16)
 (.skip)
 (.exit 0)))
 (.block 1 (.seq (.region [oU 17 (.load false 1 (.t 2)),
 oU 18 (.nilc (.u 17)),
 oU 19 (.faddr 0 (.u 18)),
 oU 20 (.faddr 1 (.u 19)),
 oU 21 (.load false 1 (.u 20)),
 oT 4 (.mov (.u 21))])
 (.seq (.seq (.region [oU 22 (.load false 1 (.t 2)),
 oM 23 4,
 oU 24 (.call 46 [(.u 22), (.u 23)]),
 oT 5 (.mov (.u 24))])
 (.seq (.region [oM 25 5,
 oT 26 (.bin .geq (.u 25) (.c (.int .i64 0)))])
 (.cond (.t 26)
 (.seq (.seq (.region [oU 27 (.load false 1 (.t 2)),
 oU 28 (.nilc (.u 27)),
 oU 29 (.faddr 0 (.u 28)),
 oU 30 (.faddr 3 (.u 29)),
 oU 31 (.load false 1 (.u 30)),
 oM 32 5,
 oU 33 (.iaS 5 (.u 31) (.u 32)),
 oU 34 (.faddr 4 (.u 33)),
 oU 35 (.load false 1 (.u 34)),
 oU 36 (.un .not (.u 35)),
 oU 37 (.mov (.u 36)),
 ⟨some 38, false, some ((.u 37), true), .mov (.t 4)⟩,
 ⟨some 39, false, some ((.u 37), true), .mov (.t 1)⟩,
 ⟨some 40, false, some ((.u 37), true), .bin .gtr (.u 38) (.u 39)⟩,
 oT 41 (.pick (.u 37) (.u 40) (.c (.bool false)))])
 (.cond (.t 41)
 (.exit 0)
 (.skip)))
 (.seq (.regionD [⟨0, [2], true, [], oU 42 (.load false 1 (.t 2))⟩,
 ⟨1, [2], true, [], oU 43 (.load false 1 (.t 2))⟩,
 ⟨2, [43], false, [], oU 44 (.nilc (.u 43))⟩,
 ⟨3, [44], false, [], oU 45 (.faddr 7 (.u 44))⟩,
 ⟨4, [45], true, [], oU 46 (.load false 1 (.u 45))⟩,
 ⟨5, [2], true, [], oU 47 (.load false 1 (.t 2))⟩,
 ⟨6, [47], false, [], oU 48 (.nilc (.u 47))⟩,
 ⟨7, [48], false, [], oU 49 (.faddr 0 (.u 48))⟩,
 ⟨8, [49], false, [], oU 50 (.faddr 3 (.u 49))⟩,
 ⟨9, [50], true, [], oU 51 (.load false 1 (.u 50))⟩,
 ⟨10, [5], false, [], oM 52 5⟩,
 ⟨11, [51, 52], false, [], oU 53 (.iaS 5 (.u 51) (.u 52))⟩,
 ⟨12, [53], true, [], oU 54 (.load true 5 (.u 53))⟩,
 ⟨13, [54], false, [], oU 55 (.mkS 5 1 [.int .i64 0, .int .i64 0, .int .i64 0, .fsl 1 0 [], .bool false] [(0, 5, (.u 54))])⟩,
 ⟨14, [46, 55], false, [0], oU 56 (.app 5 56 (.u 46) (.u 55))⟩,
 ⟨15, [42], false, [], oU 57 (.nilc (.u 42))⟩,
 ⟨16, [57], false, [], oU 58 (.faddr 7 (.u 57))⟩,
 ⟨17, [58, 56], false, [], oN (.store 1 (.u 58) (.u 56))⟩])
 (.seq (.regionD [⟨0, [2], true, [], oU 59 (.load false 1 (.t 2))⟩,
 ⟨1, [2], true, [], oU 60 (.load false 1 (.t 2))⟩,
 ⟨2, [60], false, [], oU 61 (.nilc (.u 60))⟩,
 ⟨3, [61], false, [], oU 62 (.faddr 0 (.u 61))⟩,
 ⟨4, [62], false, [], oU 63 (.faddr 3 (.u 62))⟩,
 ⟨5, [63], true, [], oU 64 (.load false 1 (.u 63))⟩,
 ⟨6, [5], false, [], oM 65 5⟩,
 ⟨7, [5], false, [], oM 66 5⟩,
 ⟨8, [66], false, [], oU 67 (.bin .add (.u 66) (.c (.int .i64 1)))⟩,
 ⟨9, [64, 65, 67], false, [0], oU 68 (.call 52 [(.u 64), (.u 65), (.u 67)])⟩,
 ⟨10, [59], false, [], oU 69 (.nilc (.u 59))⟩,
 ⟨11, [69], false, [], oU 70 (.faddr 0 (.u 69))⟩,
 ⟨12, [70], false, [], oU 71 (.faddr 3 (.u 70))⟩,
 ⟨13, [71, 68], false, [], oN (.store 1 (.u 71) (.u 68))⟩])
 (.seq (.region [oU 72 (.load false 1 (.t 2)),
 oU 73 (.nilc (.u 72)),
 oU 74 (.faddr 0 (.u 73)),
 oU 75 (.faddr 1 (.u 74)),
 oU 76 (.load false 1 (.u 75)),
 oU 77 (.bin .add (.u 76) (.c (.int .i64 1))),
 oU 78 (.nilc (.u 72)),
 oU 79 (.faddr 0 (.u 78)),
 oU 80 (.faddr 1 (.u 79)),
 oN (.store 1 (.u 80) (.u 77))])
 (.exit 1)))))
 (.skip))))
 (.seq (.seq (.region [oU 82 (.load false 1 (.t 2)),
 oM 83 4,
 oU 84 (.call 53 [(.u 82), (.u 83)]),
 oU 81 (.mov (.u 84)),
 oU 85 (.ext (.u 81) 0),
 oU 86 (.ext (.u 81) 1),
 oT 6 (.mov (.u 85)),
 oT 7 (.mov (.u 86))])
 (.seq (.region [oT 87 (.mov (.t 7))])
 (.cond (.t 87)
 (.seq (.regionD [⟨0, [2], true, [], oU 88 (.load false 1 (.t 2))⟩,
 ⟨1, [6], false, [], oM 89 6⟩,
 ⟨2, [2], true, [], oU 90 (.load false 1 (.t 2))⟩,
 ⟨3, [4], false, [], oM 91 4⟩,
 ⟨4, [90, 91], false, [0], oU 92 (.call 54 [(.u 90), (.u 91)])⟩,
 ⟨5, [89, 92], false, [], oU 93 (.mm false (.u 89) [(.u 92)])⟩,
 ⟨6, [93], false, [], oU 94 (.bin .add (.u 93) (.c (.int .i64 1)))⟩,
 ⟨7, [88], false, [], oU 95 (.nilc (.u 88))⟩,
 ⟨8, [95], false, [], oU 96 (.faddr 0 (.u 95))⟩,
 ⟨9, [96], false, [], oU 97 (.faddr 1 (.u 96))⟩,
 ⟨10, [97, 94], false, [], oN (.store 1 (.u 97) (.u 94))⟩])
 (.exit 1))
 (.skip))))
 (.seq (.seq (.region [oM 98 4,
 oM 99 1,
 oT 100 (.bin .gtr (.u 98) (.u 99))])
 (.cond (.t 100)
 (.exit 0)
 (.skip)))
 (.seq (.region [oM 101 1,
 oU 102 (.load false 1 (.t 2)),
 oM 103 4,
 oU 104 (.call 54 [(.u 102), (.u 103)]),
 oU 105 (.mm false (.u 101) [(.u 104)]),
 oT 8 (.mov (.u 105))])
 (.seq (.seq (.region [oU 106 (.load false 1 (.t 2)),
 oU 107 (.nilc (.u 106)),
 oU 108 (.faddr 0 (.u 107)),
 oU 109 (.faddr 4 (.u 108)),
 oT 110 (.load false 1 (.u 109)),
 oT 111 (.lenL (.t 110)),
 oT 112 (.mov (.c (.int .i64 0)))])
 (.block 2 (.loop (.seq (.region [oT 113 (.bin .lss (.t 112) (.t 111))])
 (.seq (.cond (.t 113)
 (.skip)
 (.exit 2))
 (.seq (.block 3 (.seq (.region [oU 114 (.iaS 5 (.t 110) (.t 112)),
 oU 115 (.load true 5 (.u 114)),
 oT 10 (.zero [.int .i64 0, .int .i64 0, .int .i64 0, .int .i64 0, .int .i64 0]),
 oN (.store 5 (.t 10) (.u 115))])
 (.seq (.region [oU 116 (.faddr 0 (.t 10)),
 oU 117 (.load false 1 (.u 116)),
 oM 118 4,
 oT 119 (.bin .gtr (.u 117) (.u 118))])
 (.cond (.t 119)
 (.region [oM 120 8,
 oU 121 (.faddr 0 (.t 10)),
 oU 122 (.load false 1 (.u 121)),
 oU 123 (.bin .sub (.u 122) (.c (.int .i64 1))),
 oU 124 (.mm false (.u 120) [(.u 123)]),
 oT 8 (.mov (.u 124))])
 (.skip)))))
 (.region [oU 125 (.bin .add (.t 112) (.c (.int .i64 1))),
 oT 112 (.mov (.u 125))])))))))
 (.seq (.region [oU 126 (.load false 1 (.t 2)),
 oM 127 4,
 oM 128 8,
 oU 129 (.call 55 [(.u 126), (.u 127), (.u 128)])])
 (.region [oU 130 (.load false 1 (.t 2)),
 oM 131 8,
 oU 132 (.bin .add (.u 131) (.c (.int .i64 1))),
 oU 133 (.nilc (.u 130)),
 oU 134 (.faddr 0 (.u 133)),
 oU 135 (.faddr 1 (.u 134)),
 oN (.store 1 (.u 135) (.u 132))]))))))))))))
 (.regionD [⟨0, [2], true, [], oU 136 (.load false 1 (.t 2))⟩,
 ⟨1, [2], true, [], oU 137 (.load false 1 (.t 2))⟩,
 ⟨2, [137], false, [], oU 138 (.nilc (.u 137))⟩,
 ⟨3, [138], false, [], oU 139 (.faddr 0 (.u 138))⟩,
 ⟨4, [139], false, [], oU 140 (.faddr 4 (.u 139))⟩,
 ⟨5, [140], true, [], oU 141 (.load false 1 (.u 140))⟩,
 ⟨6, [2], false, [], oU 142 (.mkf 57 [(.t 2)])⟩,
 ⟨7, [141, 142], false, [0], oU 143 (.call 56 [(.u 141), (.u 142)])⟩,
 ⟨8, [136], false, [], oU 144 (.nilc (.u 136))⟩,
 ⟨9, [144], false, [], oU 145 (.faddr 0 (.u 144))⟩,
 ⟨10, [145], false, [], oU 146 (.faddr 4 (.u 145))⟩,
 ⟨11, [146, 143], false, [], oN (.store 1 (.u 146) (.u 143))⟩]))
def r34 : List LRes := []
theorem t34 : (Tryd.f34.body.bind (trCode v34 Tryd.prog Tryd.f34.ntmps)) = some c34 ∧ trRes v34 Tryd.prog Tryd.f34.results.toList = some r34 := ⟨by kernel_rfl, by kernel_rfl⟩

def v41 : Nat → Bool := fun t => [0, 2, 4, 1000001].contains t
def c41 : LCode :=
 .seq (.region [oT 2 (.mov (.c (.fsl 1 0 [])))])
 (.seq (.seq (.region [oM 3 0,
 oT 4 (.isNil false (.u 3))])
 (.cond (.t 4)
 (.seq (.region [oT 2 (.mov (.c (.fsl 1 0 [])))])
 (.ret))
 (.skip)))
 (.seq (.region [oU 5 (.mkS 5 0 [.int .i64 0, .int .i64 0, .int .i64 0, .fsl 1 0 [], .bool false] []),
 oM 6 0,
 oU 7 (.appF 5 56 (.u 5) (.u 6)),
 oT 2 (.mov (.u 7))])
 (.ret)))
def r41 : List LRes := [.slot 2]
theorem t41 : (Tryd.f41.body.bind (trCode v41 Tryd.prog Tryd.f41.ntmps)) = some c41 ∧ trRes v41 Tryd.prog Tryd.f41.results.toList = some r41 := ⟨by kernel_rfl, by kernel_rfl⟩

def v42 : Nat → Bool := fun t => [0, 2, 4, 1000001].contains t
def c42 : LCode :=
 .seq (.region [oT 2 (.mov (.c (.fsl 1 0 [])))])
 (.seq (.seq (.region [oM 3 0,
 oT 4 (.isNil false (.u 3))])
 (.cond (.t 4)
 (.seq (.region [oT 2 (.mov (.c (.fsl 1 0 [])))])
 (.ret))
 (.skip)))
 (.seq (.region [oU 5 (.mkS 4 0 [.int .i64 0, .int .i64 0, .int .i64 0, .fsl 1 0 []] []),
 oM 6 0,
 oU 7 (.appF 4 48 (.u 5) (.u 6)),
 oT 2 (.mov (.u 7))])
 (.ret)))
def r42 : List LRes := [.slot 2]
theorem t42 : (Tryd.f42.body.bind (trCode v42 Tryd.prog Tryd.f42.ntmps)) = some c42 ∧ trRes v42 Tryd.prog Tryd.f42.results.toList = some r42 := ⟨by kernel_rfl, by kernel_rfl⟩

def v43 : Nat → Bool := fun t => [0, 1, 2].contains t
def c43 : LCode :=
 .seq (.region [oT 1 (.box (.t 0)),
 oT 2 (.zero [.int .i64 0, .int .i64 0, .int .i64 0, .fsl 1 0 []])])
 (.seq (.region [oU 3 (.faddr 3 (.t 1)),
 oU 4 (.load false 1 (.u 3)),
 oU 5 (.call 69 [(.u 4)]),
 oU 6 (.faddr 3 (.t 1)),
 oN (.store 1 (.u 6) (.u 5))])
 (.seq (.region [oU 7 (.load true 4 (.t 1)),
 oN (.store 4 (.t 2) (.u 7))])
 (.ret)))
def r43 : List LRes := [.cell true 4 2]
theorem t43 : (Tryd.f43.body.bind (trCode v43 Tryd.prog Tryd.f43.ntmps)) = some c43 ∧ trRes v43 Tryd.prog Tryd.f43.results.toList = some r43 := ⟨by kernel_rfl, by kernel_rfl⟩

def v44 : Nat → Bool := fun t => [0, 2, 4, 1000001].contains t
def c44 : LCode :=
 .seq (.region [oT 2 (.mov (.c (.fsl 1 0 [])))])
 (.seq (.seq (.region [oM 3 0,
 oT 4 (.isNil false (.u 3))])
 (.cond (.t 4)
 (.seq (.region [oT 2 (.mov (.c (.fsl 1 0 [])))])
 (.ret))
 (.skip)))
 (.seq (.region [oU 5 (.mkS 5 0 [.int .i64 0, .int .i64 0, .int .i64 0, .int .i64 0, .int .i64 0] []),
 oM 6 0,
 oU 7 (.appF 5 40 (.u 5) (.u 6)),
 oT 2 (.mov (.u 7))])
 (.ret)))
def r44 : List LRes := [.slot 2]
theorem t44 : (Tryd.f44.body.bind (trCode v44 Tryd.prog Tryd.f44.ntmps)) = some c44 ∧ trRes v44 Tryd.prog Tryd.f44.results.toList = some r44 := ⟨by kernel_rfl, by kernel_rfl⟩

def v45 : Nat → Bool := fun t => [0, 2, 4, 1000001].contains t
def c45 : LCode :=
 .seq (.region [oT 2 (.mov (.c (.fsl 1 0 [])))])
 (.seq (.seq (.region [oM 3 0,
 oT 4 (.isNil false (.u 3))])
 (.cond (.t 4)
 (.seq (.region [oT 2 (.mov (.c (.fsl 1 0 [])))])
 (.ret))
 (.skip)))
 (.seq (.region [oU 5 (.mkS 2 0 [.int .i64 0, .int .i64 0] []),
 oM 6 0,
 oU 7 (.appF 2 16 (.u 5) (.u 6)),
 oT 2 (.mov (.u 7))])
 (.ret)))
def r45 : List LRes := [.slot 2]
theorem t45 : (Tryd.f45.body.bind (trCode v45 Tryd.prog Tryd.f45.ntmps)) = some c45 ∧ trRes v45 Tryd.prog Tryd.f45.results.toList = some r45 := ⟨by kernel_rfl, by kernel_rfl⟩

def v46 : Nat → Bool := fun t => [0, 1, 3, 4].contains t
def c46 : LCode :=
 .seq (.region [oT 3 (.box (.t 1)),
 oT 4 (.mov (.c (.int .i64 0)))])
 (.seq (.region [oM 5 0,
 oU 6 (.nilc (.u 5)),
 oU 7 (.faddr 0 (.u 6)),
 oU 8 (.faddr 3 (.u 7)),
 oU 9 (.load false 1 (.u 8)),
 oU 10 (.mkf 70 [(.t 3)]),
 oU 11 (.call 48 [(.u 9), (.u 10)]),
 oT 4 (.mov (.u 11))])
 (.ret))
def r46 : List LRes := [.slot 4]
theorem t46 : (Tryd.f46.body.bind (trCode v46 Tryd.prog Tryd.f46.ntmps)) = some c46 ∧ trRes v46 Tryd.prog Tryd.f46.results.toList = some r46 := ⟨by kernel_rfl, by kernel_rfl⟩

def v47 : Nat → Bool := fun t => [0, 1, 2, 3, 4, 5, 7, 8, 13, 32, 38, 39, 40, 41, 48, 53, 54, 55, 56, 63].contains t
def c47 : LCode :=
 .seq (.region [oT 1 (.box (.t 0)),
 oT 2 (.mov (.c (.int .i64 0)))])
 (.seq (.block 0 (.seq (.region [oU 9 (.faddr 0 (.t 1)),
 oU 10 (.load false 1 (.u 9)),
 oU 11 (.call 29 [(.u 10)]),
 oU 12 (.bin .eql (.u 11) (.c (.str []))),
 oT 8 (.mov (.u 12))])
 (.cond (.t 8)
 (.seq (.region [oT 2 (.mov (.c (.int .i64 30)))])
 (.ret))
 (.seq (.region [oU 14 (.faddr 1 (.t 1)),
 oU 15 (.load false 1 (.u 14)),
 oU 16 (.bin .lss (.u 15) (.c (.int .i64 0))),
 oU 17 (.mov (.u 16)),
 ⟨some 18, false, some ((.u 17), false), .faddr 1 (.t 1)⟩,
 ⟨some 19, false, some ((.u 17), false), .load false 1 (.u 18)⟩,
 ⟨some 20, false, some ((.u 17), false), .bin .gtr (.u 19) (.c (.int .i64 1099511627776))⟩,
 oU 21 (.pick (.u 17) (.c (.bool true)) (.u 20)),
 oU 22 (.mov (.u 21)),
 ⟨some 23, false, some ((.u 22), false), .faddr 2 (.t 1)⟩,
 ⟨some 24, false, some ((.u 22), false), .load false 1 (.u 23)⟩,
 ⟨some 25, false, some ((.u 22), false), .bin .lss (.u 24) (.c (.int .i64 0))⟩,
 oU 26 (.pick (.u 22) (.c (.bool true)) (.u 25)),
 oU 27 (.mov (.u 26)),
 ⟨some 28, false, some ((.u 27), false), .faddr 2 (.t 1)⟩,
 ⟨some 29, false, some ((.u 27), false), .load false 1 (.u 28)⟩,
 ⟨some 30, false, some ((.u 27), false), .bin .gtr (.u 29) (.c (.int .i64 1073741824))⟩,
 oU 31 (.pick (.u 27) (.c (.bool true)) (.u 30)),
 oT 13 (.mov (.u 31))])
 (.cond (.t 13)
 (.seq (.region [oT 2 (.mov (.c (.int .i64 31)))])
 (.ret))
 (.seq (.region [oU 33 (.faddr 3 (.t 1)),
 oU 34 (.load false 1 (.u 33)),
 oU 35 (.lenL (.u 34)),
 oU 36 (.bin .gtr (.u 35) (.c (.int .i64 24))),
 oT 32 (.mov (.u 36))])
 (.cond (.t 32)
 (.seq (.region [oT 2 (.mov (.c (.int .i64 32)))])
 (.ret))
 (.skip))))))))
 (.seq (.seq (.region [oU 37 (.faddr 3 (.t 1)),
 oT 38 (.load false 1 (.u 37)),
 oT 39 (.lenL (.t 38)),
 oT 40 (.mov (.c (.int .i64 0)))])
 (.block 1 (.loop (.seq (.region [oT 41 (.bin .lss (.t 40) (.t 39))])
 (.seq (.cond (.t 41)
 (.skip)
 (.exit 1))
 (.seq (.block 2 (.seq (.region [oM 42 40,
 oU 43 (.iaS 4 (.t 38) (.t 40)),
 oU 44 (.load true 4 (.u 43)),
 oT 4 (.zero [.str [], .int .i64 0, .int .i64 0, .str []]),
 oT 3 (.mov (.u 42)),
 oN (.store 4 (.t 4) (.u 44))])
 (.seq (.seq (.region [oU 45 (.load true 4 (.t 4)),
 oU 46 (.call 71 [(.u 45)]),
 oT 5 (.mov (.u 46))])
 (.seq (.region [oM 47 5,
 oT 48 (.bin .neq (.u 47) (.c (.int .i64 0)))])
 (.cond (.t 48)
 (.seq (.region [oM 49 5,
 oT 2 (.mov (.u 49))])
 (.ret))
 (.skip))))
 (.seq (.region [oU 50 (.faddr 3 (.t 1)),
 oU 51 (.load false 1 (.u 50)),
 oM 52 3,
 oT 53 (.slL 4 (.u 51) none (some (.u 52)) none),
 oT 54 (.lenL (.t 53)),
 oT 55 (.mov (.c (.int .i64 0)))])
 (.block 3 (.loop (.seq (.region [oT 56 (.bin .lss (.t 55) (.t 54))])
 (.seq (.cond (.t 56)
 (.skip)
 (.exit 3))
 (.seq (.block 4 (.seq (.region [oU 57 (.iaS 4 (.t 53) (.t 55)),
 oU 58 (.load true 4 (.u 57)),
 oT 7 (.zero [.str [], .int .i64 0, .int .i64 0, .str []]),
 oN (.store 4 (.t 7) (.u 58))])
 (.seq (.region [oU 59 (.faddr 0 (.t 7)),
 oU 60 (.load false 1 (.u 59)),
 oU 61 (.faddr 0 (.t 4)),
 oU 62 (.load false 1 (.u 61)),
 oT 63 (.bin .eql (.u 60) (.u 62))])
 (.cond (.t 63)
 (.seq (.region [oT 2 (.mov (.c (.int .i64 33)))])
 (.ret))
 (.skip)))))
 (.region [oU 64 (.bin .add (.t 55) (.c (.int .i64 1))),
 oT 55 (.mov (.u 64))]))))))))))
 (.region [oU 65 (.bin .add (.t 40) (.c (.int .i64 1))),
 oT 40 (.mov (.u 65))])))))))
 (.seq (.region [oT 2 (.mov (.c (.int .i64 0)))])
 (.ret))))
def r47 : List LRes := [.slot 2]
theorem t47 : (Tryd.f47.body.bind (trCode v47 Tryd.prog Tryd.f47.ntmps)) = some c47 ∧ trRes v47 Tryd.prog Tryd.f47.results.toList = some r47 := ⟨by kernel_rfl, by kernel_rfl⟩

def v48 : Nat → Bool := fun t => [0, 1, 4, 5, 7, 8, 9, 16].contains t
def c48 : LCode :=
 .seq (.region [oT 4 (.mov (.c (.int .i64 0)))])
 (.seq (.seq (.region [oM 6 0,
 oT 7 (.lenL (.u 6)),
 oT 8 (.mov (.c (.int .i64 0)))])
 (.block 0 (.loop (.seq (.region [oT 9 (.bin .lss (.t 8) (.t 7))])
 (.seq (.cond (.t 9)
 (.skip)
 (.exit 0))
 (.seq (.block 1 (.seq (.region [oM 10 8,
 oT 5 (.mov (.u 10))])
 (.seq (.region [oM 11 1,
 oM 12 0,
 oM 13 5,
 oU 14 (.iaS 5 (.u 12) (.u 13)),
 oU 15 (.load true 5 (.u 14)),
 oT 16 (.callV (.u 11) [(.u 15)])])
 (.cond (.t 16)
 (.seq (.region [oM 17 5,
 oT 4 (.mov (.u 17))])
 (.ret))
 (.skip)))))
 (.region [oU 18 (.bin .add (.t 8) (.c (.int .i64 1))),
 oT 8 (.mov (.u 18))])))))))
 (.seq (.region [oT 4 (.mov (.c (.int .i64 (-1))))])
 (.ret)))
def r48 : List LRes := [.slot 4]
theorem t48 : (Tryd.f48.body.bind (trCode v48 Tryd.prog Tryd.f48.ntmps)) = some c48 ∧ trRes v48 Tryd.prog Tryd.f48.results.toList = some r48 := ⟨by kernel_rfl, by kernel_rfl⟩

def v49 : Nat → Bool := fun t => [0, 1, 2, 3].contains t
def c49 : LCode :=
 .seq (.region [oT 2 (.box (.t 0)),
 oT 3 (.mov (.c (.bool false)))])
 (.seq (.region [oU 4 (.faddr 1 (.t 2)),
 oU 5 (.load false 1 (.u 4)),
 oU 6 (.faddr 2 (.t 1)),
 oU 7 (.load false 1 (.u 6)),
 oU 8 (.bin .gtr (.u 5) (.u 7)),
 oT 3 (.mov (.u 8))])
 (.ret))
def r49 : List LRes := [.slot 3]
theorem t49 : (Tryd.f49.body.bind (trCode v49 Tryd.prog Tryd.f49.ntmps)) = some c49 ∧ trRes v49 Tryd.prog Tryd.f49.results.toList = some r49 := ⟨by kernel_rfl, by kernel_rfl⟩

def v50 : Nat → Bool := fun t => [0, 1, 2, 6, 7, 8, 9, 16, 22, 31, 68].contains t
def c50 : LCode :=
 .seq (.region [oT 6 (.mov (.c (.fsl 1 0 [])))])
 (.seq (.region [oM 10 0,
 oM 11 1,
 oU 12 (.slL 5 (.u 10) (some (.u 11)) none none)])
 (.seq (.region [oM 13 2,
 oU 14 (.lenL (.u 13)),
 oT 7 (.mov (.u 14))])
 (.seq (.seq (.region [oM 15 7,
 oT 16 (.bin .eql (.u 15) (.c (.int .i64 0)))])
 (.cond (.t 16)
 (.seq (.region [oM 17 0,
 oT 6 (.mov (.u 17))])
 (.ret))
 (.skip)))
 (.seq (.region [oM 18 0,
 oU 19 (.lenL (.u 18)),
 oT 8 (.mov (.u 19))])
 (.seq (.seq (.region [oM 20 1,
 oM 21 8,
 oT 22 (.bin .eql (.u 20) (.u 21))])
 (.cond (.t 22)
 (.seq (.region [oM 23 0,
 oM 24 2,
 oU 25 (.app 5 56 (.u 23) (.u 24)),
 oT 6 (.mov (.u 25))])
 (.ret))
 (.skip)))
 (.seq (.seq (.region [oM 26 8,
 oM 27 7,
 oU 28 (.bin .add (.u 26) (.u 27)),
 oM 29 0,
 oU 30 (.cap (.u 29)),
 oT 31 (.bin .gtr (.u 28) (.u 30))])
 (.cond (.t 31)
 (.seq (.region [oM 32 0,
 oM 33 1,
 oU 34 (.slL 5 (.u 32) none (some (.u 33)) none),
 oM 35 8,
 oM 36 7,
 oU 37 (.bin .add (.u 35) (.u 36)),
 oM 38 1,
 oU 39 (.bin .sub (.u 37) (.u 38)),
 oU 40 (.appZ 5 56 [.int .i64 0, .int .i64 0, .int .i64 0, .fsl 1 0 [], .bool false] (.u 34) (.u 39)),
 oT 9 (.mov (.u 40))])
 (.seq (.region [oM 41 9,
 oM 42 1,
 oU 43 (.slL 5 (.u 41) (some (.u 42)) none none),
 oM 44 2,
 oU 45 (.copy 5 (.u 43) (.u 44))])
 (.seq (.regionD [⟨0, [9], false, [], oM 46 9⟩,
 ⟨1, [1], false, [], oM 47 1⟩,
 ⟨2, [7], false, [], oM 48 7⟩,
 ⟨3, [47, 48], false, [], oU 49 (.bin .add (.u 47) (.u 48))⟩,
 ⟨4, [46, 49], false, [], oU 50 (.slL 5 (.u 46) (some (.u 49)) none none)⟩,
 ⟨5, [0], false, [], oM 51 0⟩,
 ⟨6, [1], false, [], oM 52 1⟩,
 ⟨7, [51, 52], false, [], oU 53 (.slL 5 (.u 51) (some (.u 52)) none none)⟩,
 ⟨8, [50, 53], false, [], oU 54 (.copy 5 (.u 50) (.u 53))⟩])
 (.seq (.region [oM 55 9,
 oT 6 (.mov (.u 55))])
 (.ret)))))
 (.skip)))
 (.seq (.region [oM 56 0,
 oM 57 8,
 oM 58 7,
 oU 59 (.bin .add (.u 57) (.u 58)),
 oU 60 (.slL 5 (.u 56) none (some (.u 59)) none),
 oT 0 (.mov (.u 60))])
 (.seq (.seq (.region [oM 61 2,
 oM 62 0,
 oM 63 1,
 oM 64 7,
 oU 65 (.bin .add (.u 63) (.u 64)),
 oU 66 (.slL 5 (.u 62) (some (.u 65)) none none),
 oU 67 (.call 72 [(.u 61), (.u 66)]),
 oT 68 (.un .not (.u 67))])
 (.cond (.t 68)
 (.seq (.regionD [⟨0, [0], false, [], oM 69 0⟩,
 ⟨1, [1], false, [], oM 70 1⟩,
 ⟨2, [7], false, [], oM 71 7⟩,
 ⟨3, [70, 71], false, [], oU 72 (.bin .add (.u 70) (.u 71))⟩,
 ⟨4, [69, 72], false, [], oU 73 (.slL 5 (.u 69) (some (.u 72)) none none)⟩,
 ⟨5, [0], false, [], oM 74 0⟩,
 ⟨6, [1], false, [], oM 75 1⟩,
 ⟨7, [74, 75], false, [], oU 76 (.slL 5 (.u 74) (some (.u 75)) none none)⟩,
 ⟨8, [73, 76], false, [], oU 77 (.copy 5 (.u 73) (.u 76))⟩])
 (.seq (.region [oM 78 0,
 oM 79 1,
 oU 80 (.slL 5 (.u 78) (some (.u 79)) none none),
 oM 81 2,
 oU 82 (.copy 5 (.u 80) (.u 81))])
 (.seq (.region [oM 83 0,
 oT 6 (.mov (.u 83))])
 (.ret))))
 (.skip)))
 (.seq (.region [oM 84 0,
 oM 85 8,
 oU 86 (.slL 5 (.u 84) (some (.u 85)) none none),
 oM 87 2,
 oU 88 (.copy 5 (.u 86) (.u 87))])
 (.seq (.region [oM 89 0,
 oM 90 1,
 oU 91 (.slL 5 (.u 89) (some (.u 90)) none none),
 oM 92 7,
 oU 93 (.call 73 [(.u 91), (.u 92)])])
 (.seq (.region [oM 94 0,
 oT 6 (.mov (.u 94))])
 (.ret))))))))))))
def r50 : List LRes := [.slot 6]
theorem t50 : (Tryd.f50.body.bind (trCode v50 Tryd.prog Tryd.f50.ntmps)) = some c50 ∧ trRes v50 Tryd.prog Tryd.f50.results.toList = some r50 := ⟨by kernel_rfl, by kernel_rfl⟩

def v51 : Nat → Bool := fun t => [0, 1, 2, 3, 4, 5, 6, 7, 8, 44].contains t
def c51 : LCode :=
 .seq (.region [oT 1 (.box (.t 0)),
 oT 2 (.zero [.int .i64 0, .int .i64 0, .int .i64 0, .int .i64 0, .int .i64 0]),
 oT 3 (.mov (.c (.bool false)))])
 (.seq (.region [oU 10 (.load true 4 (.t 1)),
 oU 11 (.call 74 [(.u 10), (.c (.str [102, 105, 114, 115, 116]))]),
 oU 9 (.mov (.u 11)),
 oU 12 (.ext (.u 9) 0),
 oU 13 (.ext (.u 9) 1),
 oT 4 (.mov (.u 12)),
 oT 5 (.mov (.u 13))])
 (.seq (.region [oU 15 (.load true 4 (.t 1)),
 oU 16 (.call 74 [(.u 15), (.c (.str [108, 97, 115, 116]))]),
 oU 14 (.mov (.u 16)),
 oU 17 (.ext (.u 14) 0),
 oU 18 (.ext (.u 14) 1),
 oT 6 (.mov (.u 17)),
 oT 7 (.mov (.u 18))])
 (.seq (.seq (.region [oU 19 (.faddr 0 (.t 1)),
 oU 20 (.load false 1 (.u 19)),
 oU 21 (.bin .neq (.u 20) (.c (.int .i64 1331))),
 oU 22 (.mov (.u 21)),
 ⟨some 23, false, some ((.u 22), false), .mov (.t 5)⟩,
 ⟨some 24, false, some ((.u 22), false), .un .not (.u 23)⟩,
 oU 25 (.pick (.u 22) (.c (.bool true)) (.u 24)),
 oU 26 (.mov (.u 25)),
 ⟨some 27, false, some ((.u 26), false), .mov (.t 7)⟩,
 ⟨some 28, false, some ((.u 26), false), .un .not (.u 27)⟩,
 oU 29 (.pick (.u 26) (.c (.bool true)) (.u 28)),
 oU 30 (.mov (.u 29)),
 ⟨some 31, false, some ((.u 30), false), .mov (.t 4)⟩,
 ⟨some 32, false, some ((.u 30), false), .bin .lss (.u 31) (.c (.int .i64 1))⟩,
 oU 33 (.pick (.u 30) (.c (.bool true)) (.u 32)),
 oU 34 (.mov (.u 33)),
 ⟨some 35, false, some ((.u 34), false), .mov (.t 4)⟩,
 ⟨some 36, false, some ((.u 34), false), .mov (.t 6)⟩,
 ⟨some 37, false, some ((.u 34), false), .bin .gtr (.u 35) (.u 36)⟩,
 oU 38 (.pick (.u 34) (.c (.bool true)) (.u 37)),
 oU 39 (.mov (.u 38)),
 ⟨some 40, false, some ((.u 39), false), .mov (.t 6)⟩,
 ⟨some 41, false, some ((.u 39), false), .faddr 2 (.t 1)⟩,
 ⟨some 42, false, some ((.u 39), false), .load false 1 (.u 41)⟩,
 ⟨some 43, false, some ((.u 39), false), .bin .geq (.u 40) (.u 42)⟩,
 oT 44 (.pick (.u 39) (.c (.bool true)) (.u 43))])
 (.cond (.t 44)
 (.seq (.region [oU 45 (.build [.int .i64 0, .int .i64 0, .int .i64 0, .int .i64 0, .int .i64 0] []),
 oN (.store 5 (.t 2) (.u 45)),
 oT 3 (.mov (.c (.bool false)))])
 (.ret))
 (.skip)))
 (.seq (.region [oM 46 4,
 oM 47 6,
 oU 48 (.build [.int .i64 0, .int .i64 0, .int .i64 0, .int .i64 0, .int .i64 0] [(0, 1, (.u 46)), (1, 1, (.u 47))]),
 oT 8 (.zero [.int .i64 0, .int .i64 0, .int .i64 0, .int .i64 0, .int .i64 0]),
 oN (.store 5 (.t 8) (.u 48))])
 (.seq (.region [oU 50 (.load true 4 (.t 1)),
 oU 51 (.call 74 [(.u 50), (.c (.str [114, 97, 116, 101, 100]))]),
 oU 49 (.mov (.u 51)),
 oU 52 (.ext (.u 49) 0),
 oU 53 (.ext (.u 49) 1),
 oU 54 (.faddr 2 (.t 8)),
 oN (.store 1 (.u 54) (.u 52))])
 (.seq (.region [oU 56 (.load true 4 (.t 1)),
 oU 57 (.call 74 [(.u 56), (.c (.str [102, 117, 108, 108]))]),
 oU 55 (.mov (.u 57)),
 oU 58 (.ext (.u 55) 0),
 oU 59 (.ext (.u 55) 1),
 oU 60 (.faddr 3 (.t 8)),
 oN (.store 1 (.u 60) (.u 58))])
 (.seq (.region [oU 62 (.load true 4 (.t 1)),
 oU 63 (.call 74 [(.u 62), (.c (.str [115, 116, 97, 108, 108, 101, 100]))]),
 oU 61 (.mov (.u 63)),
 oU 64 (.ext (.u 61) 0),
 oU 65 (.ext (.u 61) 1),
 oU 66 (.faddr 4 (.t 8)),
 oN (.store 1 (.u 66) (.u 64))])
 (.seq (.region [oU 67 (.load true 5 (.t 8)),
 oN (.store 5 (.t 2) (.u 67)),
 oT 3 (.mov (.c (.bool true)))])
 (.ret)))))))))
def r51 : List LRes := [.cell true 5 2, .slot 3]
theorem t51 : (Tryd.f51.body.bind (trCode v51 Tryd.prog Tryd.f51.ntmps)) = some c51 ∧ trRes v51 Tryd.prog Tryd.f51.results.toList = some r51 := ⟨by kernel_rfl, by kernel_rfl⟩

def v52 : Nat → Bool := fun t => [0, 1, 2, 6, 7, 16].contains t
def c52 : LCode :=
 .seq (.region [oT 6 (.mov (.c (.fsl 1 0 [])))])
 (.seq (.region [oM 8 0,
 oM 9 1,
 oM 10 2,
 oM 11 0,
 oU 12 (.lenL (.u 11)),
 oU 13 (.slL 5 (.u 8) (some (.u 9)) (some (.u 10)) (some (.u 12)))])
 (.seq (.seq (.region [oM 14 1,
 oM 15 2,
 oT 16 (.bin .eql (.u 14) (.u 15))])
 (.cond (.t 16)
 (.seq (.region [oM 17 0,
 oT 6 (.mov (.u 17))])
 (.ret))
 (.skip)))
 (.seq (.region [oM 18 0,
 oU 19 (.lenL (.u 18)),
 oT 7 (.mov (.u 19))])
 (.seq (.regionD [⟨0, [0], false, [], oM 20 0⟩,
 ⟨1, [1], false, [], oM 21 1⟩,
 ⟨2, [20, 21], false, [], oU 22 (.slL 5 (.u 20) none (some (.u 21)) none)⟩,
 ⟨3, [0], false, [], oM 23 0⟩,
 ⟨4, [2], false, [], oM 24 2⟩,
 ⟨5, [23, 24], false, [], oU 25 (.slL 5 (.u 23) (some (.u 24)) none none)⟩,
 ⟨6, [22, 25], false, [], oU 26 (.app 5 56 (.u 22) (.u 25))⟩,
 ⟨7, [26], false, [], oT 0 (.mov (.u 26))⟩])
 (.seq (.region [oM 27 0,
 oM 28 0,
 oU 29 (.lenL (.u 28)),
 oM 30 7,
 oU 31 (.slL 5 (.u 27) (some (.u 29)) (some (.u 30)) none),
 oN (.clear 5 [.int .i64 0, .int .i64 0, .int .i64 0, .fsl 1 0 [], .bool false] (.u 31))])
 (.seq (.region [oM 32 0,
 oT 6 (.mov (.u 32))])
 (.ret)))))))
def r52 : List LRes := [.slot 6]
theorem t52 : (Tryd.f52.body.bind (trCode v52 Tryd.prog Tryd.f52.ntmps)) = some c52 ∧ trRes v52 Tryd.prog Tryd.f52.results.toList = some r52 := ⟨by kernel_rfl, by kernel_rfl⟩

def v53 : Nat → Bool := fun t => [0, 1, 4, 5, 6, 7, 9, 14, 15, 16, 17, 29].contains t
def c53 : LCode :=
 .seq (.region [oT 4 (.mov (.c (.int .i64 0))),
 oT 5 (.mov (.c (.bool false)))])
 (.seq (.region [oT 6 (.mov (.c (.int .i64 0))),
 oT 7 (.mov (.c (.bool false)))])
 (.seq (.seq (.region [oM 10 0,
 oU 11 (.nilc (.u 10)),
 oU 12 (.faddr 0 (.u 11)),
 oU 13 (.faddr 4 (.u 12)),
 oT 14 (.load false 1 (.u 13)),
 oT 15 (.lenL (.t 14)),
 oT 16 (.mov (.c (.int .i64 0)))])
 (.block 0 (.loop (.seq (.region [oT 17 (.bin .lss (.t 16) (.t 15))])
 (.seq (.cond (.t 17)
 (.skip)
 (.exit 0))
 (.seq (.block 1 (.seq (.region [oU 18 (.iaS 5 (.t 14) (.t 16)),
 oU 19 (.load true 5 (.u 18)),
 oT 9 (.zero [.int .i64 0, .int .i64 0, .int .i64 0, .int .i64 0, .int .i64 0]),
 oN (.store 5 (.t 9) (.u 19))])
 (.seq (.region [oU 20 (.faddr 0 (.t 9)),
 oU 21 (.load false 1 (.u 20)),
 oM 22 1,
 oU 23 (.bin .leq (.u 21) (.u 22)),
 oU 24 (.mov (.u 23)),
 ⟨some 25, false, some ((.u 24), true), .mov (.t 1)⟩,
 ⟨some 26, false, some ((.u 24), true), .faddr 1 (.t 9)⟩,
 ⟨some 27, false, some ((.u 24), true), .load false 1 (.u 26)⟩,
 ⟨some 28, false, some ((.u 24), true), .bin .leq (.u 25) (.u 27)⟩,
 oT 29 (.pick (.u 24) (.u 28) (.c (.bool false)))])
 (.cond (.t 29)
 (.region [oM 30 6,
 oU 31 (.faddr 1 (.t 9)),
 oU 32 (.load false 1 (.u 31)),
 oU 33 (.mm true (.u 30) [(.u 32)]),
 oT 6 (.mov (.u 33)),
 oT 7 (.mov (.c (.bool true)))])
 (.skip)))))
 (.region [oU 34 (.bin .add (.t 16) (.c (.int .i64 1))),
 oT 16 (.mov (.u 34))])))))))
 (.seq (.region [oM 35 6,
 oM 36 7,
 oT 4 (.mov (.u 35)),
 oT 5 (.mov (.u 36))])
 (.ret))))
def r53 : List LRes := [.slot 4, .slot 5]
theorem t53 : (Tryd.f53.body.bind (trCode v53 Tryd.prog Tryd.f53.ntmps)) = some c53 ∧ trRes v53 Tryd.prog Tryd.f53.results.toList = some r53 := ⟨by kernel_rfl, by kernel_rfl⟩

def v54 : Nat → Bool := fun t => [0, 1, 4, 5, 7, 12, 13, 14, 15, 21].contains t
def c54 : LCode :=
 .seq (.region [oT 4 (.mov (.c (.int .i64 0)))])
 (.seq (.region [oT 5 (.mov (.c (.int .i64 1073741824)))])
 (.seq (.seq (.region [oM 8 0,
 oU 9 (.nilc (.u 8)),
 oU 10 (.faddr 0 (.u 9)),
 oU 11 (.faddr 3 (.u 10)),
 oT 12 (.load false 1 (.u 11)),
 oT 13 (.lenL (.t 12)),
 oT 14 (.mov (.c (.int .i64 0)))])
 (.block 0 (.loop (.seq (.region [oT 15 (.bin .lss (.t 14) (.t 13))])
 (.seq (.cond (.t 15)
 (.skip)
 (.exit 0))
 (.seq (.block 1 (.seq (.region [oU 16 (.iaS 5 (.t 12) (.t 14)),
 oU 17 (.load true 5 (.u 16)),
 oT 7 (.zero [.int .i64 0, .int .i64 0, .int .i64 0, .fsl 1 0 [], .bool false]),
 oN (.store 5 (.t 7) (.u 17))])
 (.seq (.region [oU 18 (.faddr 1 (.t 7)),
 oU 19 (.load false 1 (.u 18)),
 oM 20 1,
 oT 21 (.bin .gtr (.u 19) (.u 20))])
 (.cond (.t 21)
 (.region [oM 22 5,
 oU 23 (.faddr 1 (.t 7)),
 oU 24 (.load false 1 (.u 23)),
 oU 25 (.bin .sub (.u 24) (.c (.int .i64 1))),
 oU 26 (.mm false (.u 22) [(.u 25)]),
 oT 5 (.mov (.u 26))])
 (.skip)))))
 (.region [oU 27 (.bin .add (.t 14) (.c (.int .i64 1))),
 oT 14 (.mov (.u 27))])))))))
 (.seq (.region [oM 28 5,
 oT 4 (.mov (.u 28))])
 (.ret))))
def r54 : List LRes := [.slot 4]
theorem t54 : (Tryd.f54.body.bind (trCode v54 Tryd.prog Tryd.f54.ntmps)) = some c54 ∧ trRes v54 Tryd.prog Tryd.f54.results.toList = some r54 := ⟨by kernel_rfl, by kernel_rfl⟩

def v55 : Nat → Bool := fun t => [0, 1, 2, 6, 29].contains t
def c55 : LCode :=
 .seq (.seq (.region [oM 7 0,
 oU 8 (.nilc (.u 7)),
 oU 9 (.faddr 0 (.u 8)),
 oU 10 (.faddr 5 (.u 9)),
 oU 11 (.load false 1 (.u 10)),
 oU 12 (.lenL (.u 11)),
 oT 6 (.mov (.u 12))])
 (.seq (.region [oM 13 6,
 oU 14 (.bin .gtr (.u 13) (.c (.int .i64 0))),
 oU 15 (.mov (.u 14)),
 ⟨some 16, false, some ((.u 15), true), .mov (.t 0)⟩,
 ⟨some 17, false, some ((.u 15), true), .nilc (.u 16)⟩,
 ⟨some 18, false, some ((.u 15), true), .faddr 0 (.u 17)⟩,
 ⟨some 19, false, some ((.u 15), true), .faddr 5 (.u 18)⟩,
 ⟨some 20, false, some ((.u 15), true), .load false 1 (.u 19)⟩,
 ⟨some 21, false, some ((.u 15), true), .mov (.t 6)⟩,
 ⟨some 22, false, some ((.u 15), true), .bin .sub (.u 21) (.c (.int .i64 1))⟩,
 ⟨some 23, false, some ((.u 15), true), .iaS 2 (.u 20) (.u 22)⟩,
 ⟨some 24, false, some ((.u 15), true), .faddr 1 (.u 23)⟩,
 ⟨some 25, false, some ((.u 15), true), .load false 1 (.u 24)⟩,
 ⟨some 26, false, some ((.u 15), true), .bin .add (.u 25) (.c (.int .i64 1))⟩,
 ⟨some 27, false, some ((.u 15), true), .mov (.t 1)⟩,
 ⟨some 28, false, some ((.u 15), true), .bin .eql (.u 26) (.u 27)⟩,
 oT 29 (.pick (.u 15) (.u 28) (.c (.bool false)))])
 (.cond (.t 29)
 (.seq (.region [oM 30 0,
 oU 31 (.nilc (.u 30)),
 oU 32 (.faddr 0 (.u 31)),
 oU 33 (.faddr 5 (.u 32)),
 oU 34 (.load false 1 (.u 33)),
 oM 35 6,
 oU 36 (.bin .sub (.u 35) (.c (.int .i64 1))),
 oM 37 2,
 oU 38 (.iaS 2 (.u 34) (.u 36)),
 oU 39 (.faddr 1 (.u 38)),
 oN (.store 1 (.u 39) (.u 37))])
 (.ret))
 (.skip))))
 (.region [oM 40 0,
 oM 41 0,
 oU 42 (.nilc (.u 41)),
 oU 43 (.faddr 0 (.u 42)),
 oU 44 (.faddr 5 (.u 43)),
 oU 45 (.load false 1 (.u 44)),
 oM 46 1,
 oM 47 2,
 oU 48 (.build [.int .i64 0, .int .i64 0] [(0, 1, (.u 46)), (1, 1, (.u 47))]),
 oU 49 (.mkS 2 1 [.int .i64 0, .int .i64 0] [(0, 2, (.u 48))]),
 oU 50 (.app 2 16 (.u 45) (.u 49)),
 oU 51 (.nilc (.u 40)),
 oU 52 (.faddr 0 (.u 51)),
 oU 53 (.faddr 5 (.u 52)),
 oN (.store 1 (.u 53) (.u 50))])
def r55 : List LRes := []
theorem t55 : (Tryd.f55.body.bind (trCode v55 Tryd.prog Tryd.f55.ntmps)) = some c55 ∧ trRes v55 Tryd.prog Tryd.f55.results.toList = some r55 := ⟨by kernel_rfl, by kernel_rfl⟩

def v56 : Nat → Bool := fun t => [0, 1, 4, 5, 6, 7, 12, 19, 29].contains t
def c56 : LCode :=
 .seq (.region [oT 4 (.mov (.c (.fsl 1 0 [])))])
 (.seq (.region [oM 8 0,
 oM 9 1,
 oU 10 (.call 75 [(.u 8), (.u 9)]),
 oT 5 (.mov (.u 10))])
 (.seq (.seq (.region [oM 11 5,
 oT 12 (.bin .eql (.u 11) (.c (.int .i64 (-1))))])
 (.cond (.t 12)
 (.seq (.region [oM 13 0,
 oT 4 (.mov (.u 13))])
 (.ret))
 (.skip)))
 (.seq (.seq (.region [oM 14 5,
 oU 15 (.bin .add (.u 14) (.c (.int .i64 1))),
 oT 6 (.mov (.u 15))])
 (.block 0 (.loop (.seq (.seq (.region [oM 16 6,
 oM 17 0,
 oU 18 (.lenL (.u 17)),
 oT 19 (.bin .lss (.u 16) (.u 18))])
 (.cond (.t 19)
 (.skip)
 (.exit 0)))
 (.seq (.block 1 (.seq (.region [oM 22 0,
 oM 23 6,
 oU 24 (.iaS 5 (.u 22) (.u 23)),
 oU 25 (.load true 5 (.u 24)),
 oT 7 (.zero [.int .i64 0, .int .i64 0, .int .i64 0, .int .i64 0, .int .i64 0]),
 oN (.store 5 (.t 7) (.u 25))])
 (.seq (.region [oM 26 1,
 oU 27 (.load true 5 (.t 7)),
 oU 28 (.callV (.u 26) [(.u 27)]),
 oT 29 (.un .not (.u 28))])
 (.cond (.t 29)
 (.seq (.region [oM 30 0,
 oM 31 5,
 oU 32 (.load true 5 (.t 7)),
 oU 33 (.iaS 5 (.u 30) (.u 31)),
 oN (.store 5 (.u 33) (.u 32))])
 (.region [oM 34 5,
 oU 35 (.bin .add (.u 34) (.c (.int .i64 1))),
 oT 5 (.mov (.u 35))]))
 (.skip)))))
 (.region [oM 20 6,
 oU 21 (.bin .add (.u 20) (.c (.int .i64 1))),
 oT 6 (.mov (.u 21))]))))))
 (.seq (.region [oM 36 0,
 oM 37 5,
 oU 38 (.slL 5 (.u 36) (some (.u 37)) none none),
 oN (.clear 5 [.int .i64 0, .int .i64 0, .int .i64 0, .int .i64 0, .int .i64 0] (.u 38))])
 (.seq (.region [oM 39 0,
 oM 40 5,
 oU 41 (.slL 5 (.u 39) none (some (.u 40)) none),
 oT 4 (.mov (.u 41))])
 (.ret))))))
def r56 : List LRes := [.slot 4]
theorem t56 : (Tryd.f56.body.bind (trCode v56 Tryd.prog Tryd.f56.ntmps)) = some c56 ∧ trRes v56 Tryd.prog Tryd.f56.results.toList = some r56 := ⟨by kernel_rfl, by kernel_rfl⟩

def v57 : Nat → Bool := fun t => [0, 1, 2, 3].contains t
def c57 : LCode :=
 .seq (.region [oT 2 (.box (.t 0)),
 oT 3 (.mov (.c (.bool false)))])
 (.seq (.regionD [⟨0, [2], false, [], oU 4 (.faddr 1 (.t 2))⟩,
 ⟨1, [4], true, [], oU 5 (.load false 1 (.u 4))⟩,
 ⟨2, [1], true, [], oU 6 (.load false 1 (.t 1))⟩,
 ⟨3, [6], false, [], oU 7 (.nilc (.u 6))⟩,
 ⟨4, [7], false, [], oU 8 (.faddr 0 (.u 7))⟩,
 ⟨5, [8], false, [], oU 9 (.faddr 1 (.u 8))⟩,
 ⟨6, [9], true, [], oU 10 (.load false 1 (.u 9))⟩,
 ⟨7, [5, 10], false, [], oU 11 (.bin .lss (.u 5) (.u 10))⟩,
 ⟨8, [11], false, [], oT 3 (.mov (.u 11))⟩])
 (.ret))
def r57 : List LRes := [.slot 3]
theorem t57 : (Tryd.f57.body.bind (trCode v57 Tryd.prog Tryd.f57.ntmps)) = some c57 ∧ trRes v57 Tryd.prog Tryd.f57.results.toList = some r57 := ⟨by kernel_rfl, by kernel_rfl⟩

def v69 : Nat → Bool := fun t => [0, 2, 4].contains t
def c69 : LCode :=
 .seq (.region [oT 2 (.mov (.c (.fsl 1 0 [])))])
 (.seq (.seq (.region [oM 3 0,
 oT 4 (.isNil false (.u 3))])
 (.cond (.t 4)
 (.seq (.region [oT 2 (.mov (.c (.fsl 1 0 [])))])
 (.ret))
 (.skip)))
 (.seq (.region [oU 5 (.mkS 4 0 [.str [], .int .i64 0, .int .i64 0, .str []] []),
 oM 6 0,
 oU 7 (.app 4 48 (.u 5) (.u 6)),
 oT 2 (.mov (.u 7))])
 (.ret)))
def r69 : List LRes := [.slot 2]
theorem t69 : (Tryd.f69.body.bind (trCode v69 Tryd.prog Tryd.f69.ntmps)) = some c69 ∧ trRes v69 Tryd.prog Tryd.f69.results.toList = some r69 := ⟨by kernel_rfl, by kernel_rfl⟩

def v70 : Nat → Bool := fun t => [0, 1, 2, 3].contains t
def c70 : LCode :=
 .seq (.region [oT 2 (.box (.t 0)),
 oT 3 (.mov (.c (.bool false)))])
 (.seq (.region [oU 4 (.faddr 1 (.t 2)),
 oU 5 (.load false 1 (.u 4)),
 oU 6 (.load false 1 (.t 1)),
 oU 7 (.bin .eql (.u 5) (.u 6)),
 oT 3 (.mov (.u 7))])
 (.ret))
def r70 : List LRes := [.slot 3]
theorem t70 : (Tryd.f70.body.bind (trCode v70 Tryd.prog Tryd.f70.ntmps)) = some c70 ∧ trRes v70 Tryd.prog Tryd.f70.results.toList = some r70 := ⟨by kernel_rfl, by kernel_rfl⟩

def v71 : Nat → Bool := fun t => [0, 1, 2, 3, 8, 38].contains t
def c71 : LCode :=
 .seq (.region [oT 1 (.box (.t 0)),
 oT 2 (.mov (.c (.int .i64 0)))])
 (.seq (.block 0 (.seq (.region [oU 4 (.faddr 0 (.t 1)),
 oU 5 (.load false 1 (.u 4)),
 oU 6 (.call 79 [(.u 5)]),
 oU 7 (.un .not (.u 6)),
 oT 3 (.mov (.u 7))])
 (.cond (.t 3)
 (.seq (.region [oT 2 (.mov (.c (.int .i64 22)))])
 (.ret))
 (.seq (.seq (.region [oU 9 (.faddr 1 (.t 1)),
 oU 10 (.load false 1 (.u 9)),
 oU 11 (.bin .neq (.u 10) (.c (.int .i64 1))),
 oU 12 (.mov (.u 11)),
 ⟨some 13, false, some ((.u 12), true), .faddr 1 (.t 1)⟩,
 ⟨some 14, false, some ((.u 12), true), .load false 1 (.u 13)⟩,
 ⟨some 15, false, some ((.u 12), true), .bin .neq (.u 14) (.c (.int .i64 2))⟩,
 oU 16 (.pick (.u 12) (.u 15) (.c (.bool false))),
 oU 17 (.mov (.u 16)),
 ⟨some 18, false, some ((.u 17), true), .faddr 1 (.t 1)⟩,
 ⟨some 19, false, some ((.u 17), true), .load false 1 (.u 18)⟩,
 ⟨some 20, false, some ((.u 17), true), .bin .neq (.u 19) (.c (.int .i64 3))⟩,
 oU 21 (.pick (.u 17) (.u 20) (.c (.bool false))),
 oT 8 (.mov (.u 21))])
 (.cond (.t 8)
 (.skip)
 (.seq (.region [oU 22 (.faddr 2 (.t 1)),
 oU 23 (.load false 1 (.u 22)),
 oU 24 (.bin .neq (.u 23) (.c (.int .i64 0))),
 oU 25 (.mov (.u 24)),
 ⟨some 26, false, some ((.u 25), true), .faddr 1 (.t 1)⟩,
 ⟨some 27, false, some ((.u 25), true), .load false 1 (.u 26)⟩,
 ⟨some 28, false, some ((.u 25), true), .bin .neq (.u 27) (.c (.int .i64 1))⟩,
 oU 29 (.pick (.u 25) (.u 28) (.c (.bool false))),
 oT 8 (.mov (.u 29))])
 (.cond (.t 8)
 (.skip)
 (.region [oU 30 (.faddr 3 (.t 1)),
 oU 31 (.load false 1 (.u 30)),
 oU 32 (.bin .neq (.u 31) (.c (.str []))),
 oU 33 (.mov (.u 32)),
 ⟨some 34, false, some ((.u 33), true), .faddr 1 (.t 1)⟩,
 ⟨some 35, false, some ((.u 33), true), .load false 1 (.u 34)⟩,
 ⟨some 36, false, some ((.u 33), true), .bin .neq (.u 35) (.c (.int .i64 2))⟩,
 oU 37 (.pick (.u 33) (.u 36) (.c (.bool false))),
 oT 8 (.mov (.u 37))])))))
 (.cond (.t 8)
 (.seq (.region [oT 2 (.mov (.c (.int .i64 23)))])
 (.ret))
 (.seq (.region [oU 39 (.faddr 3 (.t 1)),
 oU 40 (.load false 1 (.u 39)),
 oU 41 (.len (.u 40)),
 oU 42 (.bin .gtr (.u 41) (.c (.int .i64 640))),
 oT 38 (.mov (.u 42))])
 (.cond (.t 38)
 (.seq (.region [oT 2 (.mov (.c (.int .i64 20)))])
 (.ret))
 (.skip))))))))
 (.seq (.region [oT 2 (.mov (.c (.int .i64 0)))])
 (.ret)))
def r71 : List LRes := [.slot 2]
theorem t71 : (Tryd.f71.body.bind (trCode v71 Tryd.prog Tryd.f71.ntmps)) = some c71 ∧ trRes v71 Tryd.prog Tryd.f71.results.toList = some r71 := ⟨by kernel_rfl, by kernel_rfl⟩

def v74 : Nat → Bool := fun t => [0, 1, 2, 4, 5, 6, 7, 20].contains t
def c74 : LCode :=
 .seq (.region [oT 2 (.box (.t 0)),
 oT 4 (.mov (.c (.int .i64 0))),
 oT 5 (.mov (.c (.bool false)))])
 (.seq (.region [oU 9 (.load true 4 (.t 2)),
 oM 10 1,
 oU 11 (.call 81 [(.u 9), (.u 10)]),
 oU 8 (.mov (.u 11)),
 oU 12 (.ext (.u 8) 0),
 oU 13 (.ext (.u 8) 1),
 oT 6 (.zero [.str [], .int .i64 0, .int .i64 0, .str []]),
 oN (.store 4 (.t 6) (.u 12)),
 oT 7 (.mov (.u 13))])
 (.seq (.seq (.region [oM 14 7,
 oU 15 (.un .not (.u 14)),
 oU 16 (.mov (.u 15)),
 ⟨some 17, false, some ((.u 16), false), .faddr 1 (.t 6)⟩,
 ⟨some 18, false, some ((.u 16), false), .load false 1 (.u 17)⟩,
 ⟨some 19, false, some ((.u 16), false), .bin .neq (.u 18) (.c (.int .i64 1))⟩,
 oT 20 (.pick (.u 16) (.c (.bool true)) (.u 19))])
 (.cond (.t 20)
 (.seq (.region [oT 4 (.mov (.c (.int .i64 0))),
 oT 5 (.mov (.c (.bool false)))])
 (.ret))
 (.skip)))
 (.seq (.region [oU 21 (.faddr 2 (.t 6)),
 oU 22 (.load false 1 (.u 21)),
 oT 4 (.mov (.u 22)),
 oT 5 (.mov (.c (.bool true)))])
 (.ret))))
def r74 : List LRes := [.slot 4, .slot 5]
theorem t74 : (Tryd.f74.body.bind (trCode v74 Tryd.prog Tryd.f74.ntmps)) = some c74 ∧ trRes v74 Tryd.prog Tryd.f74.results.toList = some r74 := ⟨by kernel_rfl, by kernel_rfl⟩

def v75 : Nat → Bool := fun t => [0, 1, 4, 5, 7, 8, 9, 16].contains t
def c75 : LCode :=
 .seq (.region [oT 4 (.mov (.c (.int .i64 0)))])
 (.seq (.seq (.region [oM 6 0,
 oT 7 (.lenL (.u 6)),
 oT 8 (.mov (.c (.int .i64 0)))])
 (.block 0 (.loop (.seq (.region [oT 9 (.bin .lss (.t 8) (.t 7))])
 (.seq (.cond (.t 9)
 (.skip)
 (.exit 0))
 (.seq (.block 1 (.seq (.region [oM 10 8,
 oT 5 (.mov (.u 10))])
 (.seq (.region [oM 11 1,
 oM 12 0,
 oM 13 5,
 oU 14 (.iaS 5 (.u 12) (.u 13)),
 oU 15 (.load true 5 (.u 14)),
 oT 16 (.callV (.u 11) [(.u 15)])])
 (.cond (.t 16)
 (.seq (.region [oM 17 5,
 oT 4 (.mov (.u 17))])
 (.ret))
 (.skip)))))
 (.region [oU 18 (.bin .add (.t 8) (.c (.int .i64 1))),
 oT 8 (.mov (.u 18))])))))))
 (.seq (.region [oT 4 (.mov (.c (.int .i64 (-1))))])
 (.ret)))
def r75 : List LRes := [.slot 4]
theorem t75 : (Tryd.f75.body.bind (trCode v75 Tryd.prog Tryd.f75.ntmps)) = some c75 ∧ trRes v75 Tryd.prog Tryd.f75.results.toList = some r75 := ⟨by kernel_rfl, by kernel_rfl⟩

def v79 : Nat → Bool := fun t => [0, 2, 3, 4, 21, 23, 24, 25, 47].contains t
def c79 : LCode :=
 .seq (.region [oT 2 (.mov (.c (.bool false)))])
 (.seq (.seq (.region [oM 5 0,
 oU 6 (.bin .eql (.u 5) (.c (.str []))),
 oU 7 (.mov (.u 6)),
 ⟨some 8, false, some ((.u 7), false), .mov (.t 0)⟩,
 ⟨some 9, false, some ((.u 7), false), .len (.u 8)⟩,
 ⟨some 10, false, some ((.u 7), false), .bin .gtr (.u 9) (.c (.int .i64 16))⟩,
 oU 11 (.pick (.u 7) (.c (.bool true)) (.u 10)),
 oU 12 (.mov (.u 11)),
 ⟨some 13, false, some ((.u 12), false), .mov (.t 0)⟩,
 ⟨some 14, false, some ((.u 12), false), .ixS (.u 13) (.c (.int .i64 0))⟩,
 ⟨some 15, false, some ((.u 12), false), .bin .lss (.u 14) (.c (.int .u8 97))⟩,
 oU 16 (.pick (.u 12) (.c (.bool true)) (.u 15)),
 oU 17 (.mov (.u 16)),
 ⟨some 18, false, some ((.u 17), false), .mov (.t 0)⟩,
 ⟨some 19, false, some ((.u 17), false), .ixS (.u 18) (.c (.int .i64 0))⟩,
 ⟨some 20, false, some ((.u 17), false), .bin .gtr (.u 19) (.c (.int .u8 122))⟩,
 oT 21 (.pick (.u 17) (.c (.bool true)) (.u 20))])
 (.cond (.t 21)
 (.seq (.region [oT 2 (.mov (.c (.bool false)))])
 (.ret))
 (.skip)))
 (.seq (.seq (.region [oM 22 0,
 oT 23 (.len (.u 22)),
 oT 24 (.mov (.c (.int .i64 0)))])
 (.block 0 (.loop (.seq (.region [oT 25 (.bin .lss (.t 24) (.t 23))])
 (.seq (.cond (.t 25)
 (.skip)
 (.exit 0))
 (.seq (.block 1 (.seq (.region [oM 26 24,
 oT 3 (.mov (.u 26))])
 (.seq (.region [oM 27 0,
 oM 28 3,
 oU 29 (.ixS (.u 27) (.u 28)),
 oT 4 (.mov (.u 29))])
 (.seq (.region [oM 30 4,
 oU 31 (.bin .lss (.u 30) (.c (.int .u8 97))),
 oU 32 (.mov (.u 31)),
 ⟨some 33, false, some ((.u 32), false), .mov (.t 4)⟩,
 ⟨some 34, false, some ((.u 32), false), .bin .gtr (.u 33) (.c (.int .u8 122))⟩,
 oU 35 (.pick (.u 32) (.c (.bool true)) (.u 34)),
 oU 36 (.mov (.u 35)),
 ⟨some 37, false, some ((.u 36), true), .mov (.t 4)⟩,
 ⟨some 38, false, some ((.u 36), true), .bin .lss (.u 37) (.c (.int .u8 48))⟩,
 ⟨some 39, false, some ((.u 36), true), .mov (.u 38)⟩,
 ⟨some 40, false, some ((.u 39), false), .mov (.t 4)⟩,
 ⟨some 41, false, some ((.u 39), false), .bin .gtr (.u 40) (.c (.int .u8 57))⟩,
 ⟨some 42, false, some ((.u 36), true), .pick (.u 39) (.c (.bool true)) (.u 41)⟩,
 oU 43 (.pick (.u 36) (.u 42) (.c (.bool false))),
 oU 44 (.mov (.u 43)),
 ⟨some 45, false, some ((.u 44), true), .mov (.t 4)⟩,
 ⟨some 46, false, some ((.u 44), true), .bin .neq (.u 45) (.c (.int .u8 95))⟩,
 oT 47 (.pick (.u 44) (.u 46) (.c (.bool false)))])
 (.cond (.t 47)
 (.seq (.region [oT 2 (.mov (.c (.bool false)))])
 (.ret))
 (.skip))))))
 (.region [oU 48 (.bin .add (.t 24) (.c (.int .i64 1))),
 oT 24 (.mov (.u 48))])))))))
 (.seq (.region [oT 2 (.mov (.c (.bool true)))])
 (.ret))))
def r79 : List LRes := [.slot 2]
theorem t79 : (Tryd.f79.body.bind (trCode v79 Tryd.prog Tryd.f79.ntmps)) = some c79 ∧ trRes v79 Tryd.prog Tryd.f79.results.toList = some r79 := ⟨by kernel_rfl, by kernel_rfl⟩

def v81 : Nat → Bool := fun t => [0, 1, 2, 4, 5, 7, 9, 10, 11, 12, 18].contains t
def c81 : LCode :=
 .seq (.region [oT 2 (.box (.t 0)),
 oT 4 (.zero [.str [], .int .i64 0, .int .i64 0, .str []]),
 oT 5 (.mov (.c (.bool false)))])
 (.seq (.seq (.region [oU 8 (.faddr 3 (.t 2)),
 oT 9 (.load false 1 (.u 8)),
 oT 10 (.lenL (.t 9)),
 oT 11 (.mov (.c (.int .i64 0)))])
 (.block 0 (.loop (.seq (.region [oT 12 (.bin .lss (.t 11) (.t 10))])
 (.seq (.cond (.t 12)
 (.skip)
 (.exit 0))
 (.seq (.block 1 (.seq (.region [oU 13 (.iaS 4 (.t 9) (.t 11)),
 oU 14 (.load true 4 (.u 13)),
 oT 7 (.zero [.str [], .int .i64 0, .int .i64 0, .str []]),
 oN (.store 4 (.t 7) (.u 14))])
 (.seq (.region [oU 15 (.faddr 0 (.t 7)),
 oU 16 (.load false 1 (.u 15)),
 oM 17 1,
 oT 18 (.bin .eql (.u 16) (.u 17))])
 (.cond (.t 18)
 (.seq (.region [oU 19 (.load true 4 (.t 7)),
 oN (.store 4 (.t 4) (.u 19)),
 oT 5 (.mov (.c (.bool true)))])
 (.ret))
 (.skip)))))
 (.region [oU 20 (.bin .add (.t 11) (.c (.int .i64 1))),
 oT 11 (.mov (.u 20))])))))))
 (.seq (.region [oU 21 (.build [.str [], .int .i64 0, .int .i64 0, .str []] []),
 oN (.store 4 (.t 4) (.u 21)),
 oT 5 (.mov (.c (.bool false)))])
 (.ret)))
def r81 : List LRes := [.cell true 4 4, .slot 5]
theorem t81 : (Tryd.f81.body.bind (trCode v81 Tryd.prog Tryd.f81.ntmps)) = some c81 ∧ trRes v81 Tryd.prog Tryd.f81.results.toList = some r81 := ⟨by kernel_rfl, by kernel_rfl⟩


end Go.Proofs.YtfheeghkajihoaaDoor
