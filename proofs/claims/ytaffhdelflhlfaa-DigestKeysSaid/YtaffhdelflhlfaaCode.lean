/- The functions' bodies as the engine reads them; written by program out of the translation, checked by the kernel. -/
import Derived.Test.YtaffhdelflhlfaaProg
import Derived.Test.YtaffhdelflhlfaaLxL
import Derived.KernelRfl
namespace Go.Proofs.Ytaffhdelflhlfaa
open Go Go.Lx
set_option maxRecDepth 100000
def v3 : Nat → Bool := fun t => [0, 1, 2, 3, 6].contains t
def c3 : LCode :=
  .seq (.region [⟨some 3, true, none, .box (.t 0)⟩,
     ⟨some 6, true, none, .mov (.c (.bool false))⟩])
  (.seq (.regionD [⟨0, [3], true, [], ⟨some 7, false, none, .load true 2 (.t 3)⟩⟩,
     ⟨1, [2], false, [], ⟨some 8, false, none, .mov (.t 2)⟩⟩,
     ⟨3, [3], true, [], ⟨some 10, false, none, .load true 2 (.t 3)⟩⟩,
     ⟨4, [2], false, [], ⟨some 11, false, none, .mov (.t 2)⟩⟩,
     ⟨2, [7, 8], false, [3], ⟨some 9, false, none, .call 9 [(.u 7), (.u 8)]⟩⟩,
     ⟨5, [10, 11], false, [], ⟨some 12, false, none, .call 10 [(.u 10), (.u 11)]⟩⟩,
     ⟨6, [9, 12], false, [], ⟨some 13, false, none, .bin .eql (.u 9) (.u 12)⟩⟩,
     ⟨7, [13], false, [], ⟨some 14, false, none, .mov (.u 13)⟩⟩,
     ⟨8, [3, 14], true, [], ⟨some 15, false, some ((.u 14), true), .load true 2 (.t 3)⟩⟩,
     ⟨9, [1, 14], false, [], ⟨some 16, false, some ((.u 14), true), .mov (.t 1)⟩⟩,
     ⟨10, [2, 14], false, [], ⟨some 17, false, some ((.u 14), true), .mov (.t 2)⟩⟩,
     ⟨12, [3, 14], true, [], ⟨some 19, false, some ((.u 14), true), .load true 2 (.t 3)⟩⟩,
     ⟨13, [1, 14], false, [], ⟨some 20, false, some ((.u 14), true), .mov (.t 1)⟩⟩,
     ⟨14, [2, 14], false, [], ⟨some 21, false, some ((.u 14), true), .mov (.t 2)⟩⟩,
     ⟨11, [15, 16, 17, 14], false, [12], ⟨some 18, false, some ((.u 14), true), .call 11 [(.u 15), (.u 16), (.u 17)]⟩⟩,
     ⟨15, [19, 20, 21, 14], false, [], ⟨some 22, false, some ((.u 14), true), .call 12 [(.u 19), (.u 20), (.u 21)]⟩⟩,
     ⟨16, [18, 22, 14], false, [], ⟨some 23, false, some ((.u 14), true), .bin .eql (.u 18) (.u 22)⟩⟩,
     ⟨17, [14, 23], false, [], ⟨some 24, false, none, .pick (.u 14) (.u 23) (.c (.bool false))⟩⟩,
     ⟨18, [24], false, [], ⟨some 25, false, none, .mov (.u 24)⟩⟩,
     ⟨19, [25], false, [], ⟨some 26, false, some ((.u 25), true), .call 13 []⟩⟩,
     ⟨20, [25, 26], false, [], ⟨some 27, false, none, .pick (.u 25) (.u 26) (.c (.bool false))⟩⟩,
     ⟨21, [27], false, [], ⟨some 6, true, none, .mov (.u 27)⟩⟩])
  (.ret))
def r3 : List LRes := [.slot 6]
theorem t3 : (Try.f3.body.bind (trCode v3 Try.prog Try.f3.ntmps)) = some c3 ∧ trRes v3 Try.prog Try.f3.results.toList = some r3 := ⟨by kernel_rfl, by kernel_rfl⟩

def v4 : Nat → Bool := fun t => [0, 1, 2, 3, 6].contains t
def c4 : LCode :=
  .seq (.region [⟨some 3, true, none, .box (.t 0)⟩,
     ⟨some 6, true, none, .mov (.c (.bool false))⟩])
  (.seq (.regionD [⟨0, [3], true, [], ⟨some 7, false, none, .load true 2 (.t 3)⟩⟩,
     ⟨1, [1], false, [], ⟨some 8, false, none, .mov (.t 1)⟩⟩,
     ⟨2, [2], false, [], ⟨some 9, false, none, .mov (.t 2)⟩⟩,
     ⟨4, [3], true, [], ⟨some 11, false, none, .load true 2 (.t 3)⟩⟩,
     ⟨5, [1], false, [], ⟨some 12, false, none, .mov (.t 1)⟩⟩,
     ⟨7, [2], false, [], ⟨some 14, false, none, .mov (.t 2)⟩⟩,
     ⟨3, [7, 8, 9], false, [4], ⟨some 10, false, none, .call 11 [(.u 7), (.u 8), (.u 9)]⟩⟩,
     ⟨6, [12], false, [4], ⟨some 13, false, none, .call 14 [(.u 12)]⟩⟩,
     ⟨8, [13, 14], false, [4], ⟨some 15, false, none, .app 1 1 (.u 13) (.u 14)⟩⟩,
     ⟨9, [11, 15], false, [], ⟨some 16, false, none, .call 9 [(.u 11), (.u 15)]⟩⟩,
     ⟨10, [10, 16], false, [], ⟨some 17, false, none, .bin .eql (.u 10) (.u 16)⟩⟩,
     ⟨11, [17], false, [], ⟨some 18, false, none, .mov (.u 17)⟩⟩,
     ⟨12, [18], false, [], ⟨some 19, false, some ((.u 18), true), .call 13 []⟩⟩,
     ⟨13, [18, 19], false, [], ⟨some 20, false, none, .pick (.u 18) (.u 19) (.c (.bool false))⟩⟩,
     ⟨14, [20], false, [], ⟨some 6, true, none, .mov (.u 20)⟩⟩])
  (.ret))
def r4 : List LRes := [.slot 6]
theorem t4 : (Try.f4.body.bind (trCode v4 Try.prog Try.f4.ntmps)) = some c4 ∧ trRes v4 Try.prog Try.f4.results.toList = some r4 := ⟨by kernel_rfl, by kernel_rfl⟩

def v5 : Nat → Bool := fun t => [0, 1, 2, 3, 6].contains t
def c5 : LCode :=
  .seq (.region [⟨some 3, true, none, .box (.t 0)⟩,
     ⟨some 6, true, none, .mov (.c (.bool false))⟩])
  (.seq (.regionD [⟨0, [3], true, [], ⟨some 7, false, none, .load true 2 (.t 3)⟩⟩,
     ⟨1, [1], false, [], ⟨some 8, false, none, .mov (.t 1)⟩⟩,
     ⟨2, [8], false, [], ⟨some 9, false, none, .conv .i64 (.u 8)⟩⟩,
     ⟨4, [2], false, [], ⟨some 11, false, none, .mov (.t 2)⟩⟩,
     ⟨5, [11], false, [], ⟨some 12, false, none, .conv .i64 (.u 11)⟩⟩,
     ⟨7, [3], true, [], ⟨some 14, false, none, .load true 2 (.t 3)⟩⟩,
     ⟨8, [1], false, [], ⟨some 15, false, none, .mov (.t 1)⟩⟩,
     ⟨9, [15], false, [], ⟨some 16, false, none, .conv .i64 (.u 15)⟩⟩,
     ⟨10, [2], false, [], ⟨some 17, false, none, .mov (.t 2)⟩⟩,
     ⟨11, [17], false, [], ⟨some 18, false, none, .conv .i64 (.u 17)⟩⟩,
     ⟨12, [16, 18], false, [], ⟨some 19, false, none, .bin .add (.u 16) (.u 18)⟩⟩,
     ⟨3, [7, 9], false, [7], ⟨some 10, false, none, .call 15 [(.u 7), (.u 9)]⟩⟩,
     ⟨6, [10, 12], false, [7], ⟨some 13, false, none, .call 15 [(.u 10), (.u 12)]⟩⟩,
     ⟨13, [14, 19], false, [], ⟨some 20, false, none, .call 15 [(.u 14), (.u 19)]⟩⟩,
     ⟨14, [13, 20], false, [], ⟨some 21, false, none, .eqS false 2 [(0, 1), (1, 1)] (.u 13) (.u 20)⟩⟩,
     ⟨15, [21], false, [], ⟨some 22, false, none, .mov (.u 21)⟩⟩,
     ⟨16, [3, 22], true, [], ⟨some 23, false, some ((.u 22), true), .load true 2 (.t 3)⟩⟩,
     ⟨18, [3, 22], true, [], ⟨some 25, false, some ((.u 22), true), .load true 2 (.t 3)⟩⟩,
     ⟨17, [23, 22], false, [18], ⟨some 24, false, some ((.u 22), true), .call 15 [(.u 23), (.c (.int .i64 0))]⟩⟩,
     ⟨19, [24, 25, 22], false, [], ⟨some 26, false, some ((.u 22), true), .eqS false 2 [(0, 1), (1, 1)] (.u 24) (.u 25)⟩⟩,
     ⟨20, [22, 26], false, [], ⟨some 27, false, none, .pick (.u 22) (.u 26) (.c (.bool false))⟩⟩,
     ⟨21, [27], false, [], ⟨some 28, false, none, .mov (.u 27)⟩⟩,
     ⟨22, [3, 28], true, [], ⟨some 29, false, some ((.u 28), true), .load true 2 (.t 3)⟩⟩,
     ⟨24, [3, 28], true, [], ⟨some 31, false, some ((.u 28), true), .load true 2 (.t 3)⟩⟩,
     ⟨23, [29, 28], false, [24], ⟨some 30, false, some ((.u 28), true), .call 15 [(.u 29), (.c (.int .i64 1))]⟩⟩,
     ⟨25, [31, 28], false, [], ⟨some 32, false, some ((.u 28), true), .call 16 [(.u 31)]⟩⟩,
     ⟨26, [30, 32, 28], false, [], ⟨some 33, false, some ((.u 28), true), .eqS false 2 [(0, 1), (1, 1)] (.u 30) (.u 32)⟩⟩,
     ⟨27, [28, 33], false, [], ⟨some 34, false, none, .pick (.u 28) (.u 33) (.c (.bool false))⟩⟩,
     ⟨28, [34], false, [], ⟨some 35, false, none, .mov (.u 34)⟩⟩,
     ⟨29, [3, 35], true, [], ⟨some 36, false, some ((.u 35), true), .load true 2 (.t 3)⟩⟩,
     ⟨31, [35], false, [], ⟨some 38, false, some ((.u 35), true), .build [.int .u64 0, .int .u64 0] []⟩⟩,
     ⟨30, [36, 35], false, [], ⟨some 37, false, some ((.u 35), true), .call 15 [(.u 36), (.c (.int .i64 1001))]⟩⟩,
     ⟨32, [37, 38, 35], false, [], ⟨some 39, false, some ((.u 35), true), .eqS false 2 [(0, 1), (1, 1)] (.u 37) (.u 38)⟩⟩,
     ⟨33, [35, 39], false, [], ⟨some 40, false, none, .pick (.u 35) (.u 39) (.c (.bool false))⟩⟩,
     ⟨34, [40], false, [], ⟨some 41, false, none, .mov (.u 40)⟩⟩,
     ⟨35, [41], false, [], ⟨some 42, false, some ((.u 41), true), .call 13 []⟩⟩,
     ⟨36, [41, 42], false, [], ⟨some 43, false, none, .pick (.u 41) (.u 42) (.c (.bool false))⟩⟩,
     ⟨37, [43], false, [], ⟨some 6, true, none, .mov (.u 43)⟩⟩])
  (.ret))
def r5 : List LRes := [.slot 6]
theorem t5 : (Try.f5.body.bind (trCode v5 Try.prog Try.f5.ntmps)) = some c5 ∧ trRes v5 Try.prog Try.f5.results.toList = some r5 := ⟨by kernel_rfl, by kernel_rfl⟩

def v6 : Nat → Bool := fun t => [0, 1, 4, 5, 6, 7, 8, 9, 10].contains t
def c6 : LCode :=
  .seq (.region [⟨some 4, true, none, .mov (.c (.bool false))⟩])
  (.seq (.region [⟨some 12, false, none, .mov (.t 0)⟩,
     ⟨some 13, false, none, .call 14 [(.u 12)]⟩,
     ⟨some 14, false, none, .mov (.t 1)⟩,
     ⟨some 15, false, none, .app 1 1 (.u 13) (.u 14)⟩,
     ⟨some 16, false, none, .call 17 [(.u 15)]⟩,
     ⟨some 11, false, none, .mov (.u 16)⟩,
     ⟨some 17, false, none, .ext (.u 11) 0⟩,
     ⟨some 18, false, none, .ext (.u 11) 1⟩,
     ⟨some 5, true, none, .mov (.u 17)⟩,
     ⟨some 6, true, none, .mov (.u 18)⟩])
  (.seq (.region [⟨some 20, false, none, .mov (.t 1)⟩,
     ⟨some 21, false, none, .call 17 [(.u 20)]⟩,
     ⟨some 19, false, none, .mov (.u 21)⟩,
     ⟨some 22, false, none, .ext (.u 19) 0⟩,
     ⟨some 23, false, none, .ext (.u 19) 1⟩,
     ⟨some 7, true, none, .mov (.u 22)⟩,
     ⟨some 8, true, none, .mov (.u 23)⟩])
  (.seq (.region [⟨some 25, false, none, .mov (.t 1)⟩,
     ⟨some 26, false, none, .call 18 [(.u 25)]⟩,
     ⟨some 24, false, none, .mov (.u 26)⟩,
     ⟨some 27, false, none, .ext (.u 24) 0⟩,
     ⟨some 28, false, none, .ext (.u 24) 1⟩,
     ⟨some 9, true, none, .mov (.u 27)⟩,
     ⟨some 10, true, none, .mov (.u 28)⟩])
  (.seq (.regionD [⟨0, [6], false, [], ⟨some 29, false, none, .mov (.t 6)⟩⟩,
     ⟨1, [29], false, [], ⟨some 30, false, none, .mov (.u 29)⟩⟩,
     ⟨2, [5, 30], false, [], ⟨some 31, false, some ((.u 30), true), .mov (.t 5)⟩⟩,
     ⟨3, [0, 30], false, [], ⟨some 32, false, some ((.u 30), true), .mov (.t 0)⟩⟩,
     ⟨4, [31, 32, 30], false, [], ⟨some 33, false, some ((.u 30), true), .bin .eql (.u 31) (.u 32)⟩⟩,
     ⟨5, [30, 33], false, [], ⟨some 34, false, none, .pick (.u 30) (.u 33) (.c (.bool false))⟩⟩,
     ⟨6, [34], false, [], ⟨some 35, false, none, .mov (.u 34)⟩⟩,
     ⟨7, [7, 35], false, [], ⟨some 36, false, some ((.u 35), true), .mov (.t 7)⟩⟩,
     ⟨8, [9, 35], false, [], ⟨some 37, false, some ((.u 35), true), .mov (.t 9)⟩⟩,
     ⟨9, [36, 37, 35], false, [], ⟨some 38, false, some ((.u 35), true), .bin .eql (.u 36) (.u 37)⟩⟩,
     ⟨10, [35, 38], false, [], ⟨some 39, false, none, .pick (.u 35) (.u 38) (.c (.bool false))⟩⟩,
     ⟨11, [39], false, [], ⟨some 40, false, none, .mov (.u 39)⟩⟩,
     ⟨12, [8, 40], false, [], ⟨some 41, false, some ((.u 40), true), .mov (.t 8)⟩⟩,
     ⟨13, [10, 40], false, [], ⟨some 42, false, some ((.u 40), true), .mov (.t 10)⟩⟩,
     ⟨14, [41, 42, 40], false, [], ⟨some 43, false, some ((.u 40), true), .eqB false (.u 41) (.u 42)⟩⟩,
     ⟨15, [40, 43], false, [], ⟨some 44, false, none, .pick (.u 40) (.u 43) (.c (.bool false))⟩⟩,
     ⟨16, [44], false, [], ⟨some 45, false, none, .mov (.u 44)⟩⟩,
     ⟨17, [0, 45], false, [], ⟨some 46, false, some ((.u 45), true), .mov (.t 0)⟩⟩,
     ⟨20, [0, 45], false, [], ⟨some 49, false, some ((.u 45), true), .mov (.t 0)⟩⟩,
     ⟨18, [46, 45], false, [], ⟨some 47, false, some ((.u 45), true), .call 14 [(.u 46)]⟩⟩,
     ⟨19, [47, 45], true, [], ⟨some 48, false, some ((.u 45), true), .b2s (.u 47)⟩⟩,
     ⟨21, [49, 45], false, [19], ⟨some 50, false, some ((.u 45), true), .call 19 [(.u 49)]⟩⟩,
     ⟨22, [50, 45], true, [], ⟨some 51, false, some ((.u 45), true), .b2s (.u 50)⟩⟩,
     ⟨23, [48, 51, 45], false, [], ⟨some 52, false, some ((.u 45), true), .bin .eql (.u 48) (.u 51)⟩⟩,
     ⟨24, [45, 52], false, [], ⟨some 53, false, none, .pick (.u 45) (.u 52) (.c (.bool false))⟩⟩,
     ⟨25, [53], false, [], ⟨some 54, false, none, .mov (.u 53)⟩⟩,
     ⟨26, [54], false, [], ⟨some 55, false, some ((.u 54), true), .call 13 []⟩⟩,
     ⟨27, [54, 55], false, [], ⟨some 56, false, none, .pick (.u 54) (.u 55) (.c (.bool false))⟩⟩,
     ⟨28, [56], false, [], ⟨some 4, true, none, .mov (.u 56)⟩⟩])
  (.ret)))))
def r6 : List LRes := [.slot 4]
theorem t6 : (Try.f6.body.bind (trCode v6 Try.prog Try.f6.ntmps)) = some c6 ∧ trRes v6 Try.prog Try.f6.results.toList = some r6 := ⟨by kernel_rfl, by kernel_rfl⟩

def v7 : Nat → Bool := fun t => [0, 1, 2, 3, 5, 8].contains t
def c7 : LCode :=
  .seq (.region [⟨some 5, true, none, .box (.t 1)⟩,
     ⟨some 8, true, none, .mov (.c (.bool false))⟩])
  (.seq (.regionD [⟨0, [0], false, [], ⟨some 9, false, none, .mov (.t 0)⟩⟩,
     ⟨2, [0], false, [], ⟨some 11, false, none, .mov (.t 0)⟩⟩,
     ⟨1, [9], false, [], ⟨some 10, false, none, .call 20 [(.u 9)]⟩⟩,
     ⟨3, [11], false, [], ⟨some 12, false, none, .call 21 [(.u 11)]⟩⟩,
     ⟨4, [10, 12], false, [], ⟨some 13, false, none, .eqS false 2 [(0, 1), (1, 1)] (.u 10) (.u 12)⟩⟩,
     ⟨5, [13], false, [], ⟨some 14, false, none, .mov (.u 13)⟩⟩,
     ⟨6, [5, 14], true, [], ⟨some 15, false, some ((.u 14), true), .load true 2 (.t 5)⟩⟩,
     ⟨8, [5, 14], true, [], ⟨some 17, false, some ((.u 14), true), .load true 2 (.t 5)⟩⟩,
     ⟨7, [15, 14], false, [8], ⟨some 16, false, some ((.u 14), true), .call 16 [(.u 15)]⟩⟩,
     ⟨9, [17, 14], false, [], ⟨some 18, false, some ((.u 14), true), .call 22 [(.u 17)]⟩⟩,
     ⟨10, [16, 18, 14], false, [], ⟨some 19, false, some ((.u 14), true), .eqS false 2 [(0, 1), (1, 1)] (.u 16) (.u 18)⟩⟩,
     ⟨11, [14, 19], false, [], ⟨some 20, false, none, .pick (.u 14) (.u 19) (.c (.bool false))⟩⟩,
     ⟨12, [20], false, [], ⟨some 21, false, none, .mov (.u 20)⟩⟩,
     ⟨13, [5, 21], true, [], ⟨some 22, false, some ((.u 21), true), .load true 2 (.t 5)⟩⟩,
     ⟨14, [2, 21], false, [], ⟨some 23, false, some ((.u 21), true), .mov (.t 2)⟩⟩,
     ⟨16, [5, 21], true, [], ⟨some 25, false, some ((.u 21), true), .load true 2 (.t 5)⟩⟩,
     ⟨17, [2, 21], false, [], ⟨some 26, false, some ((.u 21), true), .mov (.t 2)⟩⟩,
     ⟨15, [22, 23, 21], false, [16], ⟨some 24, false, some ((.u 21), true), .call 15 [(.u 22), (.u 23)]⟩⟩,
     ⟨18, [25, 26, 21], false, [], ⟨some 27, false, some ((.u 21), true), .call 23 [(.u 25), (.u 26)]⟩⟩,
     ⟨19, [24, 27, 21], false, [], ⟨some 28, false, some ((.u 21), true), .eqS false 2 [(0, 1), (1, 1)] (.u 24) (.u 27)⟩⟩,
     ⟨20, [21, 28], false, [], ⟨some 29, false, none, .pick (.u 21) (.u 28) (.c (.bool false))⟩⟩,
     ⟨21, [29], false, [], ⟨some 30, false, none, .mov (.u 29)⟩⟩,
     ⟨22, [5, 30], true, [], ⟨some 31, false, some ((.u 30), true), .load true 2 (.t 5)⟩⟩,
     ⟨23, [3, 30], false, [], ⟨some 32, false, some ((.u 30), true), .mov (.t 3)⟩⟩,
     ⟨24, [32, 30], false, [], ⟨some 33, false, some ((.u 30), true), .conv .i64 (.u 32)⟩⟩,
     ⟨26, [5, 30], true, [], ⟨some 35, false, some ((.u 30), true), .load true 2 (.t 5)⟩⟩,
     ⟨27, [3, 30], false, [], ⟨some 36, false, some ((.u 30), true), .mov (.t 3)⟩⟩,
     ⟨28, [36, 30], false, [], ⟨some 37, false, some ((.u 30), true), .conv .i64 (.u 36)⟩⟩,
     ⟨25, [31, 33, 30], false, [26], ⟨some 34, false, some ((.u 30), true), .call 15 [(.u 31), (.u 33)]⟩⟩,
     ⟨29, [35, 37, 30], false, [], ⟨some 38, false, some ((.u 30), true), .call 23 [(.u 35), (.u 37)]⟩⟩,
     ⟨30, [34, 38, 30], false, [], ⟨some 39, false, some ((.u 30), true), .eqS false 2 [(0, 1), (1, 1)] (.u 34) (.u 38)⟩⟩,
     ⟨31, [30, 39], false, [], ⟨some 40, false, none, .pick (.u 30) (.u 39) (.c (.bool false))⟩⟩,
     ⟨32, [40], false, [], ⟨some 41, false, none, .mov (.u 40)⟩⟩,
     ⟨33, [41], false, [], ⟨some 42, false, some ((.u 41), true), .call 13 []⟩⟩,
     ⟨34, [41, 42], false, [], ⟨some 43, false, none, .pick (.u 41) (.u 42) (.c (.bool false))⟩⟩,
     ⟨35, [43], false, [], ⟨some 8, true, none, .mov (.u 43)⟩⟩])
  (.ret))
def r7 : List LRes := [.slot 8]
theorem t7 : (Try.f7.body.bind (trCode v7 Try.prog Try.f7.ntmps)) = some c7 ∧ trRes v7 Try.prog Try.f7.results.toList = some r7 := ⟨by kernel_rfl, by kernel_rfl⟩

def v8 : Nat → Bool := fun t => [0, 1, 4, 5, 6, 7, 8, 9, 10].contains t
def c8 : LCode :=
  .seq (.region [⟨some 4, true, none, .mov (.c (.bool false))⟩])
  (.seq (.region [⟨some 12, false, none, .mov (.t 0)⟩,
     ⟨some 13, false, none, .call 25 [(.u 12)]⟩,
     ⟨some 14, false, none, .call 24 [(.u 13)]⟩,
     ⟨some 11, false, none, .mov (.u 14)⟩,
     ⟨some 15, false, none, .ext (.u 11) 0⟩,
     ⟨some 16, false, none, .ext (.u 11) 1⟩,
     ⟨some 5, true, none, .mov (.u 15)⟩,
     ⟨some 6, true, none, .mov (.u 16)⟩])
  (.seq (.region [⟨some 18, false, none, .mov (.t 1)⟩,
     ⟨some 19, false, none, .call 24 [(.u 18)]⟩,
     ⟨some 17, false, none, .mov (.u 19)⟩,
     ⟨some 20, false, none, .ext (.u 17) 0⟩,
     ⟨some 21, false, none, .ext (.u 17) 1⟩,
     ⟨some 7, true, none, .mov (.u 20)⟩,
     ⟨some 8, true, none, .mov (.u 21)⟩])
  (.seq (.region [⟨some 23, false, none, .mov (.t 1)⟩,
     ⟨some 24, false, none, .call 26 [(.u 23)]⟩,
     ⟨some 22, false, none, .mov (.u 24)⟩,
     ⟨some 25, false, none, .ext (.u 22) 0⟩,
     ⟨some 26, false, none, .ext (.u 22) 1⟩,
     ⟨some 9, true, none, .mov (.u 25)⟩,
     ⟨some 10, true, none, .mov (.u 26)⟩])
  (.seq (.region [⟨some 27, false, none, .mov (.t 6)⟩,
     ⟨some 28, false, none, .bin .eql (.u 27) (.c (.int .i64 0))⟩,
     ⟨some 29, false, none, .mov (.u 28)⟩,
     ⟨some 30, false, some ((.u 29), true), .mov (.t 5)⟩,
     ⟨some 31, false, some ((.u 29), true), .mov (.t 0)⟩,
     ⟨some 32, false, some ((.u 29), true), .bin .eql (.u 30) (.u 31)⟩,
     ⟨some 33, false, none, .pick (.u 29) (.u 32) (.c (.bool false))⟩,
     ⟨some 34, false, none, .mov (.u 33)⟩,
     ⟨some 35, false, some ((.u 34), true), .mov (.t 7)⟩,
     ⟨some 36, false, some ((.u 34), true), .mov (.t 9)⟩,
     ⟨some 37, false, some ((.u 34), true), .bin .eql (.u 35) (.u 36)⟩,
     ⟨some 38, false, none, .pick (.u 34) (.u 37) (.c (.bool false))⟩,
     ⟨some 39, false, none, .mov (.u 38)⟩,
     ⟨some 40, false, some ((.u 39), true), .mov (.t 8)⟩,
     ⟨some 41, false, some ((.u 39), true), .mov (.t 10)⟩,
     ⟨some 42, false, some ((.u 39), true), .bin .eql (.u 40) (.u 41)⟩,
     ⟨some 43, false, none, .pick (.u 39) (.u 42) (.c (.bool false))⟩,
     ⟨some 44, false, none, .mov (.u 43)⟩,
     ⟨some 45, false, some ((.u 44), true), .mov (.t 0)⟩,
     ⟨some 46, false, some ((.u 44), true), .call 25 [(.u 45)]⟩,
     ⟨some 47, false, some ((.u 44), true), .mov (.t 0)⟩,
     ⟨some 48, false, some ((.u 44), true), .call 27 [(.u 47)]⟩,
     ⟨some 49, false, some ((.u 44), true), .bin .eql (.u 46) (.u 48)⟩,
     ⟨some 50, false, none, .pick (.u 44) (.u 49) (.c (.bool false))⟩,
     ⟨some 51, false, none, .mov (.u 50)⟩,
     ⟨some 52, false, some ((.u 51), true), .mov (.t 8)⟩,
     ⟨some 53, false, some ((.u 51), true), .bin .neq (.u 52) (.c (.int .i64 0))⟩,
     ⟨some 54, false, some ((.u 51), true), .mov (.u 53)⟩,
     ⟨some 55, false, some ((.u 54), false), .mov (.t 7)⟩,
     ⟨some 56, false, some ((.u 54), false), .call 25 [(.u 55)]⟩,
     ⟨some 57, false, some ((.u 54), false), .mov (.t 1)⟩,
     ⟨some 58, false, some ((.u 54), false), .bin .eql (.u 56) (.u 57)⟩,
     ⟨some 59, false, some ((.u 51), true), .pick (.u 54) (.c (.bool true)) (.u 58)⟩,
     ⟨some 60, false, none, .pick (.u 51) (.u 59) (.c (.bool false))⟩,
     ⟨some 61, false, none, .mov (.u 60)⟩,
     ⟨some 62, false, some ((.u 61), true), .call 13 []⟩,
     ⟨some 63, false, none, .pick (.u 61) (.u 62) (.c (.bool false))⟩,
     ⟨some 4, true, none, .mov (.u 63)⟩])
  (.ret)))))
def r8 : List LRes := [.slot 4]
theorem t8 : (Try.f8.body.bind (trCode v8 Try.prog Try.f8.ntmps)) = some c8 ∧ trRes v8 Try.prog Try.f8.results.toList = some r8 := ⟨by kernel_rfl, by kernel_rfl⟩

def v9 : Nat → Bool := fun t => [0, 1, 2, 4].contains t
def c9 : LCode :=
  .seq (.region [⟨some 2, true, none, .box (.t 0)⟩,
     ⟨some 4, true, none, .mov (.c (.int .u64 0))⟩])
  (.seq (.region [⟨some 5, false, none, .faddr 0 (.t 2)⟩,
     ⟨some 6, false, none, .load false 1 (.u 5)⟩,
     ⟨some 7, false, none, .faddr 1 (.t 2)⟩,
     ⟨some 8, false, none, .load false 1 (.u 7)⟩,
     ⟨some 9, false, none, .build [.int .u64 0, .int .u64 0] [(0, 1, (.u 6)), (1, 1, (.u 8))]⟩,
     ⟨some 10, false, none, .mov (.t 1)⟩,
     ⟨some 11, false, none, .call 28 [(.u 9), (.u 10)]⟩,
     ⟨some 4, true, none, .mov (.u 11)⟩])
  (.ret))
def r9 : List LRes := [.slot 4]
theorem t9 : (Try.f9.body.bind (trCode v9 Try.prog Try.f9.ntmps)) = some c9 ∧ trRes v9 Try.prog Try.f9.results.toList = some r9 := ⟨by kernel_rfl, by kernel_rfl⟩

def v10 : Nat → Bool := fun t => [0, 1, 2, 4, 5, 6, 7, 8, 22, 23, 24, 25, 39].contains t
def c10 : LCode :=
  .seq (.region [⟨some 2, true, none, .box (.t 0)⟩,
     ⟨some 4, true, none, .mov (.c (.int .u64 0))⟩])
  (.seq (.region [⟨some 9, false, none, .faddr 0 (.t 2)⟩,
     ⟨some 10, false, none, .load false 1 (.u 9)⟩,
     ⟨some 11, false, none, .bin .xor (.u 10) (.c (.int .u64 8317987319222330741))⟩,
     ⟨some 12, false, none, .faddr 1 (.t 2)⟩,
     ⟨some 13, false, none, .load false 1 (.u 12)⟩,
     ⟨some 14, false, none, .bin .xor (.u 13) (.c (.int .u64 7237128888997146477))⟩,
     ⟨some 15, false, none, .faddr 0 (.t 2)⟩,
     ⟨some 16, false, none, .load false 1 (.u 15)⟩,
     ⟨some 17, false, none, .bin .xor (.u 16) (.c (.int .u64 7816392313619706465))⟩,
     ⟨some 18, false, none, .faddr 1 (.t 2)⟩,
     ⟨some 19, false, none, .load false 1 (.u 18)⟩,
     ⟨some 20, false, none, .bin .xor (.u 19) (.c (.int .u64 8387220255154660723))⟩,
     ⟨some 21, false, none, .build [.int .u64 0, .int .u64 0, .int .u64 0, .int .u64 0] [(0, 1, (.u 11)), (1, 1, (.u 14)), (2, 1, (.u 17)), (3, 1, (.u 20))]⟩,
     ⟨some 5, true, none, .zero [.int .u64 0, .int .u64 0, .int .u64 0, .int .u64 0]⟩,
     ⟨none, true, none, .store 4 (.t 5) (.u 21)⟩])
  (.seq (.region [⟨some 6, true, none, .mov (.c (.int .u64 0))⟩])
  (.seq (.seq (.region [⟨some 22, true, none, .mov (.t 1)⟩,
      ⟨some 23, true, none, .lenL (.t 22)⟩,
      ⟨some 24, true, none, .mov (.c (.int .i64 0))⟩])
   (.block 0 (.loop (.seq (.region [⟨some 25, true, none, .bin .lss (.t 24) (.t 23)⟩])
     (.seq (.cond (.t 25)
       (.skip)
       (.exit 0))
     (.seq (.block 1 (.seq (.region [⟨some 26, false, none, .mov (.t 24)⟩,
          ⟨some 27, false, none, .iaS 1 (.t 22) (.t 24)⟩,
          ⟨some 28, false, none, .load false 1 (.u 27)⟩,
          ⟨some 7, true, none, .mov (.u 26)⟩,
          ⟨some 8, true, none, .mov (.u 28)⟩])
       (.seq (.region [⟨some 29, false, none, .mov (.t 6)⟩,
          ⟨some 30, false, none, .mov (.t 8)⟩,
          ⟨some 31, false, none, .conv .u64 (.u 30)⟩,
          ⟨some 32, false, none, .mov (.t 7)⟩,
          ⟨some 33, false, none, .bin .rem (.u 32) (.c (.int .i64 8))⟩,
          ⟨some 34, false, none, .bin .mul (.c (.int .i64 8)) (.u 33)⟩,
          ⟨some 35, false, none, .bin .shl (.u 31) (.u 34)⟩,
          ⟨some 36, false, none, .bin .or (.u 29) (.u 35)⟩,
          ⟨some 6, true, none, .mov (.u 36)⟩])
       (.seq (.region [⟨some 37, false, none, .mov (.t 7)⟩,
          ⟨some 38, false, none, .bin .rem (.u 37) (.c (.int .i64 8))⟩,
          ⟨some 39, true, none, .bin .eql (.u 38) (.c (.int .i64 7))⟩])
       (.cond (.t 39)
        (.region [⟨some 40, false, none, .load true 4 (.t 5)⟩,
          ⟨some 41, false, none, .mov (.t 6)⟩,
          ⟨some 42, false, none, .call 29 [(.u 40), (.u 41)]⟩,
          ⟨none, true, none, .store 4 (.t 5) (.u 42)⟩,
          ⟨some 6, true, none, .mov (.c (.int .u64 0))⟩])
        (.skip))))))
     (.region [⟨some 43, false, none, .bin .add (.t 24) (.c (.int .i64 1))⟩,
       ⟨some 24, true, none, .mov (.u 43)⟩])))))))
  (.seq (.region [⟨some 44, false, none, .load true 4 (.t 5)⟩,
     ⟨some 45, false, none, .mov (.t 6)⟩,
     ⟨some 46, false, none, .mov (.t 1)⟩,
     ⟨some 47, false, none, .lenL (.u 46)⟩,
     ⟨some 48, false, none, .bin .rem (.u 47) (.c (.int .i64 256))⟩,
     ⟨some 49, false, none, .conv .u64 (.u 48)⟩,
     ⟨some 50, false, none, .bin .shl (.u 49) (.c (.int .u64 56))⟩,
     ⟨some 51, false, none, .bin .or (.u 45) (.u 50)⟩,
     ⟨some 52, false, none, .call 29 [(.u 44), (.u 51)]⟩,
     ⟨none, true, none, .store 4 (.t 5) (.u 52)⟩])
  (.seq (.region [⟨some 53, false, none, .faddr 2 (.t 5)⟩,
     ⟨some 54, false, none, .load false 1 (.u 53)⟩,
     ⟨some 55, false, none, .bin .xor (.u 54) (.c (.int .u64 255))⟩,
     ⟨some 56, false, none, .faddr 2 (.t 5)⟩,
     ⟨none, true, none, .store 1 (.u 56) (.u 55)⟩])
  (.seq (.region [⟨some 57, false, none, .load true 4 (.t 5)⟩,
     ⟨some 58, false, none, .call 30 [(.u 57), (.c (.int .i64 4))]⟩,
     ⟨none, true, none, .store 4 (.t 5) (.u 58)⟩])
  (.seq (.region [⟨some 59, false, none, .faddr 0 (.t 5)⟩,
     ⟨some 60, false, none, .load false 1 (.u 59)⟩,
     ⟨some 61, false, none, .faddr 1 (.t 5)⟩,
     ⟨some 62, false, none, .load false 1 (.u 61)⟩,
     ⟨some 63, false, none, .bin .xor (.u 60) (.u 62)⟩,
     ⟨some 64, false, none, .faddr 2 (.t 5)⟩,
     ⟨some 65, false, none, .load false 1 (.u 64)⟩,
     ⟨some 66, false, none, .bin .xor (.u 63) (.u 65)⟩,
     ⟨some 67, false, none, .faddr 3 (.t 5)⟩,
     ⟨some 68, false, none, .load false 1 (.u 67)⟩,
     ⟨some 69, false, none, .bin .xor (.u 66) (.u 68)⟩,
     ⟨some 4, true, none, .mov (.u 69)⟩])
  (.ret))))))))
def r10 : List LRes := [.slot 4]
theorem t10 : (Try.f10.body.bind (trCode v10 Try.prog Try.f10.ntmps)) = some c10 ∧ trRes v10 Try.prog Try.f10.results.toList = some r10 := ⟨by kernel_rfl, by kernel_rfl⟩

def v11 : Nat → Bool := fun t => [0, 1, 2, 3, 6].contains t
def c11 : LCode :=
  .seq (.region [⟨some 3, true, none, .box (.t 0)⟩,
     ⟨some 6, true, none, .mov (.c (.int .u64 0))⟩])
  (.seq (.regionD [⟨0, [3], true, [], ⟨some 7, false, none, .load true 2 (.t 3)⟩⟩,
     ⟨1, [1], false, [], ⟨some 8, false, none, .mov (.t 1)⟩⟩,
     ⟨3, [2], false, [], ⟨some 10, false, none, .mov (.t 2)⟩⟩,
     ⟨2, [8], false, [0], ⟨some 9, false, none, .call 14 [(.u 8)]⟩⟩,
     ⟨4, [9, 10], false, [0], ⟨some 11, false, none, .app 1 1 (.u 9) (.u 10)⟩⟩,
     ⟨5, [7, 11], false, [], ⟨some 12, false, none, .call 9 [(.u 7), (.u 11)]⟩⟩,
     ⟨6, [12], false, [], ⟨some 6, true, none, .mov (.u 12)⟩⟩])
  (.ret))
def r11 : List LRes := [.slot 6]
theorem t11 : (Try.f11.body.bind (trCode v11 Try.prog Try.f11.ntmps)) = some c11 ∧ trRes v11 Try.prog Try.f11.results.toList = some r11 := ⟨by kernel_rfl, by kernel_rfl⟩

def v12 : Nat → Bool := fun t => [0, 1, 2, 3, 6].contains t
def c12 : LCode :=
  .seq (.region [⟨some 3, true, none, .box (.t 0)⟩,
     ⟨some 6, true, none, .mov (.c (.int .u64 0))⟩])
  (.seq (.regionD [⟨0, [3], true, [], ⟨some 7, false, none, .load true 2 (.t 3)⟩⟩,
     ⟨1, [1], false, [], ⟨some 8, false, none, .mov (.t 1)⟩⟩,
     ⟨3, [2], false, [], ⟨some 10, false, none, .mov (.t 2)⟩⟩,
     ⟨2, [8], false, [0], ⟨some 9, false, none, .call 19 [(.u 8)]⟩⟩,
     ⟨4, [9, 10], false, [0], ⟨some 11, false, none, .app 1 1 (.u 9) (.u 10)⟩⟩,
     ⟨5, [7, 11], false, [], ⟨some 12, false, none, .call 10 [(.u 7), (.u 11)]⟩⟩,
     ⟨6, [12], false, [], ⟨some 6, true, none, .mov (.u 12)⟩⟩])
  (.ret))
def r12 : List LRes := [.slot 6]
theorem t12 : (Try.f12.body.bind (trCode v12 Try.prog Try.f12.ntmps)) = some c12 ∧ trRes v12 Try.prog Try.f12.results.toList = some r12 := ⟨by kernel_rfl, by kernel_rfl⟩

def v13 : Nat → Bool := fun t => [0, 1, 2, 4].contains t
def c13 : LCode :=
  .seq (.region [⟨some 0, true, none, .mov (.c (.bool false))⟩])
  (.seq (.region [⟨some 1, true, none, .mov (.c (.fsl 1 0 []))⟩])
  (.seq (.seq (.region [⟨some 2, true, none, .mov (.c (.int .i64 0))⟩])
   (.block 0 (.loop (.seq (.seq (.region [⟨some 3, false, none, .mov (.t 2)⟩,
         ⟨some 4, true, none, .bin .lss (.u 3) (.c (.int .i64 15))⟩])
      (.cond (.t 4)
       (.skip)
       (.exit 0)))
     (.seq (.block 1 (.region [⟨some 7, false, none, .mov (.t 1)⟩,
         ⟨some 8, false, none, .mov (.t 2)⟩,
         ⟨some 9, false, none, .conv .u8 (.u 8)⟩,
         ⟨some 10, false, none, .mkS 1 1 [.int .u8 0] [(0, 1, (.u 9))]⟩,
         ⟨some 11, false, none, .app 1 1 (.u 7) (.u 10)⟩,
         ⟨some 1, true, none, .mov (.u 11)⟩]))
     (.region [⟨some 5, false, none, .mov (.t 2)⟩,
       ⟨some 6, false, none, .bin .add (.u 5) (.c (.int .i64 1))⟩,
       ⟨some 2, true, none, .mov (.u 6)⟩]))))))
  (.seq (.region [⟨some 12, false, none, .build [.int .u64 0, .int .u64 0] [(0, 1, (.c (.int .u64 506097522914230528))), (1, 1, (.c (.int .u64 1084818905618843912)))]⟩,
     ⟨some 13, false, none, .mov (.t 1)⟩,
     ⟨some 14, false, none, .call 9 [(.u 12), (.u 13)]⟩,
     ⟨some 15, false, none, .bin .eql (.u 14) (.c (.int .u64 11613035633349379557))⟩,
     ⟨some 0, true, none, .mov (.u 15)⟩])
  (.ret))))
def r13 : List LRes := [.slot 0]
theorem t13 : (Try.f13.body.bind (trCode v13 Try.prog Try.f13.ntmps)) = some c13 ∧ trRes v13 Try.prog Try.f13.results.toList = some r13 := ⟨by kernel_rfl, by kernel_rfl⟩

def v14 : Nat → Bool := fun t => [0, 2, 3, 4, 7, 8, 9].contains t
def c14 : LCode :=
  .seq (.region [⟨some 2, true, none, .mov (.c (.fsl 1 0 []))⟩])
  (.seq (.region [⟨some 5, false, none, .make 1 1 [.int .u8 0] (.c (.int .i64 8)) (.c (.int .i64 8))⟩,
     ⟨some 3, true, none, .mov (.u 5)⟩])
  (.seq (.seq (.region [⟨some 6, false, none, .mov (.t 3)⟩,
      ⟨some 7, true, none, .lenL (.u 6)⟩,
      ⟨some 8, true, none, .mov (.c (.int .i64 0))⟩])
   (.block 0 (.loop (.seq (.region [⟨some 9, true, none, .bin .lss (.t 8) (.t 7)⟩])
     (.seq (.cond (.t 9)
       (.skip)
       (.exit 0))
     (.seq (.block 1 (.seq (.region [⟨some 10, false, none, .mov (.t 8)⟩,
          ⟨some 4, true, none, .mov (.u 10)⟩])
       (.region [⟨some 11, false, none, .mov (.t 3)⟩,
         ⟨some 12, false, none, .mov (.t 4)⟩,
         ⟨some 13, false, none, .mov (.t 0)⟩,
         ⟨some 14, false, none, .mov (.t 4)⟩,
         ⟨some 15, false, none, .bin .mul (.c (.int .i64 8)) (.u 14)⟩,
         ⟨some 16, false, none, .bin .sub (.c (.int .i64 56)) (.u 15)⟩,
         ⟨some 17, false, none, .bin .shr (.u 13) (.u 16)⟩,
         ⟨some 18, false, none, .conv .u8 (.u 17)⟩,
         ⟨some 19, false, none, .iaS 1 (.u 11) (.u 12)⟩,
         ⟨none, true, none, .store 1 (.u 19) (.u 18)⟩])))
     (.region [⟨some 20, false, none, .bin .add (.t 8) (.c (.int .i64 1))⟩,
       ⟨some 8, true, none, .mov (.u 20)⟩])))))))
  (.seq (.region [⟨some 21, false, none, .mov (.t 3)⟩,
     ⟨some 2, true, none, .mov (.u 21)⟩])
  (.ret))))
def r14 : List LRes := [.slot 2]
theorem t14 : (Try.f14.body.bind (trCode v14 Try.prog Try.f14.ntmps)) = some c14 ∧ trRes v14 Try.prog Try.f14.results.toList = some r14 := ⟨by kernel_rfl, by kernel_rfl⟩

def v15 : Nat → Bool := fun t => [0, 1, 2, 4, 10, 12, 13, 14].contains t
def c15 : LCode :=
  .seq (.region [⟨some 2, true, none, .box (.t 0)⟩,
     ⟨some 4, true, none, .zero [.int .u64 0, .int .u64 0]⟩])
  (.seq (.seq (.region [⟨some 5, false, none, .mov (.t 1)⟩,
      ⟨some 6, false, none, .bin .lss (.u 5) (.c (.int .i64 0))⟩,
      ⟨some 7, false, none, .mov (.u 6)⟩,
      ⟨some 8, false, some ((.u 7), false), .mov (.t 1)⟩,
      ⟨some 9, false, some ((.u 7), false), .bin .gtr (.u 8) (.c (.int .i64 1000))⟩,
      ⟨some 10, true, none, .pick (.u 7) (.c (.bool true)) (.u 9)⟩])
   (.cond (.t 10)
    (.seq (.region [⟨some 11, false, none, .build [.int .u64 0, .int .u64 0] []⟩,
       ⟨none, true, none, .store 2 (.t 4) (.u 11)⟩])
    (.ret))
    (.skip)))
  (.seq (.seq (.region [⟨some 12, true, none, .mov (.t 1)⟩,
      ⟨some 13, true, none, .mov (.c (.int .i64 0))⟩])
   (.block 0 (.loop (.seq (.region [⟨some 14, true, none, .bin .lss (.t 13) (.t 12)⟩])
     (.seq (.cond (.t 14)
       (.skip)
       (.exit 0))
     (.seq (.block 1 (.region [⟨some 15, false, none, .load true 2 (.t 2)⟩,
         ⟨some 16, false, none, .call 16 [(.u 15)]⟩,
         ⟨none, true, none, .store 2 (.t 2) (.u 16)⟩]))
     (.region [⟨some 17, false, none, .bin .add (.t 13) (.c (.int .i64 1))⟩,
       ⟨some 13, true, none, .mov (.u 17)⟩])))))))
  (.seq (.region [⟨some 18, false, none, .load true 2 (.t 2)⟩,
     ⟨none, true, none, .store 2 (.t 4) (.u 18)⟩])
  (.ret))))
def r15 : List LRes := [.cell true 2 4]
theorem t15 : (Try.f15.body.bind (trCode v15 Try.prog Try.f15.ntmps)) = some c15 ∧ trRes v15 Try.prog Try.f15.results.toList = some r15 := ⟨by kernel_rfl, by kernel_rfl⟩

def v16 : Nat → Bool := fun t => [0, 1, 2, 1000000].contains t
def c16 : LCode :=
  .seq (.region [⟨some 1, true, none, .box (.t 0)⟩,
     ⟨some 2, true, none, .zero [.int .u64 0, .int .u64 0]⟩])
  (.seq (.regionD [⟨0, [1], true, [], ⟨some 3, false, none, .load true 2 (.t 1)⟩⟩,
     ⟨1, [], false, [], ⟨some 4, false, none, .mkN 1 5 [.int .u8 0] [(0, 1, (.c (.int .u8 107))), (1, 1, (.c (.int .u8 101))), (2, 1, (.c (.int .u8 121))), (3, 1, (.c (.int .u8 32))), (4, 1, (.c (.int .u8 48)))]⟩⟩,
     ⟨2, [4], false, [], ⟨some 5, false, none, .cvS (.u 4)⟩⟩,
     ⟨4, [1], true, [], ⟨some 7, false, none, .load true 2 (.t 1)⟩⟩,
     ⟨5, [], false, [], ⟨some 8, false, none, .mkN 1 5 [.int .u8 0] [(0, 1, (.c (.int .u8 107))), (1, 1, (.c (.int .u8 101))), (2, 1, (.c (.int .u8 121))), (3, 1, (.c (.int .u8 32))), (4, 1, (.c (.int .u8 49)))]⟩⟩,
     ⟨6, [8], false, [], ⟨some 9, false, none, .cvS (.u 8)⟩⟩,
     ⟨3, [3, 5], false, [4], ⟨some 6, false, none, .call 9 [(.u 3), (.u 5)]⟩⟩,
     ⟨7, [7, 9], false, [], ⟨some 10, false, none, .call 9 [(.u 7), (.u 9)]⟩⟩,
     ⟨8, [6, 10], false, [], ⟨some 11, false, none, .build [.int .u64 0, .int .u64 0] [(0, 1, (.u 6)), (1, 1, (.u 10))]⟩⟩,
     ⟨9, [2, 11], false, [], ⟨none, true, none, .store 2 (.t 2) (.u 11)⟩⟩])
  (.ret))
def r16 : List LRes := [.cell true 2 2]
theorem t16 : (Try.f16.body.bind (trCode v16 Try.prog Try.f16.ntmps)) = some c16 ∧ trRes v16 Try.prog Try.f16.results.toList = some r16 := ⟨by kernel_rfl, by kernel_rfl⟩

def v17 : Nat → Bool := fun t => [0, 2, 3, 4, 6, 9, 11, 12, 13, 14].contains t
def c17 : LCode :=
  .seq (.region [⟨some 2, true, none, .mov (.c (.int .u64 0))⟩,
     ⟨some 3, true, none, .mov (.c (.bool false))⟩])
  (.seq (.seq (.region [⟨some 7, false, none, .mov (.t 0)⟩,
      ⟨some 8, false, none, .lenL (.u 7)⟩,
      ⟨some 9, true, none, .bin .lss (.u 8) (.c (.int .i64 8))⟩])
   (.cond (.t 9)
    (.seq (.region [⟨some 2, true, none, .mov (.c (.int .u64 0))⟩,
       ⟨some 3, true, none, .mov (.c (.bool false))⟩])
    (.ret))
    (.skip)))
  (.seq (.region [⟨some 4, true, none, .mov (.c (.int .u64 0))⟩])
  (.seq (.seq (.region [⟨some 10, false, none, .mov (.t 0)⟩,
      ⟨some 11, true, none, .slL 1 (.u 10) none (some (.c (.int .i64 8))) none⟩,
      ⟨some 12, true, none, .lenL (.t 11)⟩,
      ⟨some 13, true, none, .mov (.c (.int .i64 0))⟩])
   (.block 0 (.loop (.seq (.region [⟨some 14, true, none, .bin .lss (.t 13) (.t 12)⟩])
     (.seq (.cond (.t 14)
       (.skip)
       (.exit 0))
     (.seq (.block 1 (.seq (.region [⟨some 15, false, none, .iaS 1 (.t 11) (.t 13)⟩,
          ⟨some 16, false, none, .load false 1 (.u 15)⟩,
          ⟨some 6, true, none, .mov (.u 16)⟩])
       (.region [⟨some 17, false, none, .mov (.t 4)⟩,
         ⟨some 18, false, none, .bin .shl (.u 17) (.c (.int .u64 8))⟩,
         ⟨some 19, false, none, .mov (.t 6)⟩,
         ⟨some 20, false, none, .conv .u64 (.u 19)⟩,
         ⟨some 21, false, none, .bin .or (.u 18) (.u 20)⟩,
         ⟨some 4, true, none, .mov (.u 21)⟩])))
     (.region [⟨some 22, false, none, .bin .add (.t 13) (.c (.int .i64 1))⟩,
       ⟨some 13, true, none, .mov (.u 22)⟩])))))))
  (.seq (.region [⟨some 23, false, none, .mov (.t 4)⟩,
     ⟨some 2, true, none, .mov (.u 23)⟩,
     ⟨some 3, true, none, .mov (.c (.bool true))⟩])
  (.ret)))))
def r17 : List LRes := [.slot 2, .slot 3]
theorem t17 : (Try.f17.body.bind (trCode v17 Try.prog Try.f17.ntmps)) = some c17 ∧ trRes v17 Try.prog Try.f17.results.toList = some r17 := ⟨by kernel_rfl, by kernel_rfl⟩

def v18 : Nat → Bool := fun t => [0, 2, 3, 4, 6, 9, 11, 12, 13, 14].contains t
def c18 : LCode :=
  .seq (.region [⟨some 2, true, none, .mov (.c (.int .u64 0))⟩,
     ⟨some 3, true, none, .mov (.c (.bool false))⟩])
  (.seq (.seq (.region [⟨some 7, false, none, .mov (.t 0)⟩,
      ⟨some 8, false, none, .lenL (.u 7)⟩,
      ⟨some 9, true, none, .bin .lss (.u 8) (.c (.int .i64 8))⟩])
   (.cond (.t 9)
    (.seq (.region [⟨some 2, true, none, .mov (.c (.int .u64 0))⟩,
       ⟨some 3, true, none, .mov (.c (.bool false))⟩])
    (.ret))
    (.skip)))
  (.seq (.region [⟨some 4, true, none, .mov (.c (.int .u64 0))⟩])
  (.seq (.seq (.region [⟨some 10, false, none, .mov (.t 0)⟩,
      ⟨some 11, true, none, .slL 1 (.u 10) none (some (.c (.int .i64 8))) none⟩,
      ⟨some 12, true, none, .lenL (.t 11)⟩,
      ⟨some 13, true, none, .mov (.c (.int .i64 0))⟩])
   (.block 0 (.loop (.seq (.region [⟨some 14, true, none, .bin .lss (.t 13) (.t 12)⟩])
     (.seq (.cond (.t 14)
       (.skip)
       (.exit 0))
     (.seq (.block 1 (.seq (.region [⟨some 15, false, none, .iaS 1 (.t 11) (.t 13)⟩,
          ⟨some 16, false, none, .load false 1 (.u 15)⟩,
          ⟨some 6, true, none, .mov (.u 16)⟩])
       (.region [⟨some 17, false, none, .mov (.t 4)⟩,
         ⟨some 18, false, none, .bin .shl (.u 17) (.c (.int .u64 8))⟩,
         ⟨some 19, false, none, .mov (.t 6)⟩,
         ⟨some 20, false, none, .conv .u64 (.u 19)⟩,
         ⟨some 21, false, none, .bin .or (.u 18) (.u 20)⟩,
         ⟨some 4, true, none, .mov (.u 21)⟩])))
     (.region [⟨some 22, false, none, .bin .add (.t 13) (.c (.int .i64 1))⟩,
       ⟨some 13, true, none, .mov (.u 22)⟩])))))))
  (.seq (.region [⟨some 23, false, none, .mov (.t 4)⟩,
     ⟨some 2, true, none, .mov (.u 23)⟩,
     ⟨some 3, true, none, .mov (.c (.bool true))⟩])
  (.ret)))))
def r18 : List LRes := [.slot 2, .slot 3]
theorem t18 : (Try.f18.body.bind (trCode v18 Try.prog Try.f18.ntmps)) = some c18 ∧ trRes v18 Try.prog Try.f18.results.toList = some r18 := ⟨by kernel_rfl, by kernel_rfl⟩

def v19 : Nat → Bool := fun t => [0, 2, 3, 4, 6].contains t
def c19 : LCode :=
  .seq (.region [⟨some 2, true, none, .mov (.c (.fsl 1 0 []))⟩])
  (.seq (.region [⟨some 3, true, none, .mov (.c (.fsl 1 0 []))⟩])
  (.seq (.seq (.region [⟨some 4, true, none, .mov (.c (.int .i64 7))⟩])
   (.block 0 (.loop (.seq (.seq (.region [⟨some 5, false, none, .mov (.t 4)⟩,
         ⟨some 6, true, none, .bin .geq (.u 5) (.c (.int .i64 0))⟩])
      (.cond (.t 6)
       (.skip)
       (.exit 0)))
     (.seq (.block 1 (.region [⟨some 9, false, none, .mov (.t 3)⟩,
         ⟨some 10, false, none, .mov (.t 0)⟩,
         ⟨some 11, false, none, .mov (.t 4)⟩,
         ⟨some 12, false, none, .bin .mul (.c (.int .i64 8)) (.u 11)⟩,
         ⟨some 13, false, none, .bin .shr (.u 10) (.u 12)⟩,
         ⟨some 14, false, none, .conv .u8 (.u 13)⟩,
         ⟨some 15, false, none, .mkS 1 1 [.int .u8 0] [(0, 1, (.u 14))]⟩,
         ⟨some 16, false, none, .app 1 1 (.u 9) (.u 15)⟩,
         ⟨some 3, true, none, .mov (.u 16)⟩]))
     (.region [⟨some 7, false, none, .mov (.t 4)⟩,
       ⟨some 8, false, none, .bin .sub (.u 7) (.c (.int .i64 1))⟩,
       ⟨some 4, true, none, .mov (.u 8)⟩]))))))
  (.seq (.region [⟨some 17, false, none, .mov (.t 3)⟩,
     ⟨some 2, true, none, .mov (.u 17)⟩])
  (.ret))))
def r19 : List LRes := [.slot 2]
theorem t19 : (Try.f19.body.bind (trCode v19 Try.prog Try.f19.ntmps)) = some c19 ∧ trRes v19 Try.prog Try.f19.results.toList = some r19 := ⟨by kernel_rfl, by kernel_rfl⟩

def v20 : Nat → Bool := fun t => [0, 2, 3, 4].contains t
def c20 : LCode :=
  .seq (.region [⟨some 2, true, none, .zero [.int .u64 0, .int .u64 0]⟩])
  (.seq (.region [⟨some 5, false, none, .mov (.t 0)⟩,
     ⟨some 6, false, none, .s2b (.u 5)⟩,
     ⟨some 3, true, none, .mov (.u 6)⟩])
  (.seq (.region [⟨some 7, false, none, .build [.int .u64 0, .int .u64 0] []⟩,
     ⟨some 8, false, none, .mov (.t 3)⟩,
     ⟨some 9, false, none, .call 9 [(.u 7), (.u 8)]⟩,
     ⟨some 4, true, none, .mov (.u 9)⟩])
  (.seq (.region [⟨some 10, false, none, .mov (.t 4)⟩,
     ⟨some 11, false, none, .build [.int .u64 0, .int .u64 0] []⟩,
     ⟨some 12, false, none, .mov (.t 3)⟩,
     ⟨some 13, false, none, .mkS 1 1 [.int .u8 0] [(0, 1, (.c (.int .u8 0)))]⟩,
     ⟨some 14, false, none, .app 1 1 (.u 12) (.u 13)⟩,
     ⟨some 15, false, none, .call 9 [(.u 11), (.u 14)]⟩,
     ⟨some 16, false, none, .build [.int .u64 0, .int .u64 0] [(0, 1, (.u 10)), (1, 1, (.u 15))]⟩,
     ⟨none, true, none, .store 2 (.t 2) (.u 16)⟩])
  (.ret))))
def r20 : List LRes := [.cell true 2 2]
theorem t20 : (Try.f20.body.bind (trCode v20 Try.prog Try.f20.ntmps)) = some c20 ∧ trRes v20 Try.prog Try.f20.results.toList = some r20 := ⟨by kernel_rfl, by kernel_rfl⟩

def v21 : Nat → Bool := fun t => [0, 2].contains t
def c21 : LCode :=
  .seq (.region [⟨some 2, true, none, .zero [.int .u64 0, .int .u64 0]⟩])
  (.seq (.region [⟨some 3, false, none, .build [.int .u64 0, .int .u64 0] []⟩,
     ⟨some 4, false, none, .mov (.t 0)⟩,
     ⟨some 5, false, none, .s2b (.u 4)⟩,
     ⟨some 6, false, none, .call 10 [(.u 3), (.u 5)]⟩,
     ⟨some 7, false, none, .build [.int .u64 0, .int .u64 0] []⟩,
     ⟨some 8, false, none, .mov (.t 0)⟩,
     ⟨some 9, false, none, .s2b (.u 8)⟩,
     ⟨some 10, false, none, .mkS 1 1 [.int .u8 0] [(0, 1, (.c (.int .u8 0)))]⟩,
     ⟨some 11, false, none, .app 1 1 (.u 9) (.u 10)⟩,
     ⟨some 12, false, none, .call 10 [(.u 7), (.u 11)]⟩,
     ⟨some 13, false, none, .build [.int .u64 0, .int .u64 0] [(0, 1, (.u 6)), (1, 1, (.u 12))]⟩,
     ⟨none, true, none, .store 2 (.t 2) (.u 13)⟩])
  (.ret))
def r21 : List LRes := [.cell true 2 2]
theorem t21 : (Try.f21.body.bind (trCode v21 Try.prog Try.f21.ntmps)) = some c21 ∧ trRes v21 Try.prog Try.f21.results.toList = some r21 := ⟨by kernel_rfl, by kernel_rfl⟩

def v22 : Nat → Bool := fun t => [0, 1, 2, 1000000].contains t
def c22 : LCode :=
  .seq (.region [⟨some 1, true, none, .box (.t 0)⟩,
     ⟨some 2, true, none, .zero [.int .u64 0, .int .u64 0]⟩])
  (.seq (.regionD [⟨0, [1], true, [], ⟨some 3, false, none, .load true 2 (.t 1)⟩⟩,
     ⟨1, [], false, [], ⟨some 4, false, none, .mkN 1 5 [.int .u8 0] [(0, 1, (.c (.int .u8 107))), (1, 1, (.c (.int .u8 101))), (2, 1, (.c (.int .u8 121))), (3, 1, (.c (.int .u8 32))), (4, 1, (.c (.int .u8 48)))]⟩⟩,
     ⟨2, [4], false, [], ⟨some 5, false, none, .cvS (.u 4)⟩⟩,
     ⟨4, [1], true, [], ⟨some 7, false, none, .load true 2 (.t 1)⟩⟩,
     ⟨5, [], false, [], ⟨some 8, false, none, .mkN 1 5 [.int .u8 0] [(0, 1, (.c (.int .u8 107))), (1, 1, (.c (.int .u8 101))), (2, 1, (.c (.int .u8 121))), (3, 1, (.c (.int .u8 32))), (4, 1, (.c (.int .u8 49)))]⟩⟩,
     ⟨6, [8], false, [], ⟨some 9, false, none, .cvS (.u 8)⟩⟩,
     ⟨3, [3, 5], false, [4], ⟨some 6, false, none, .call 10 [(.u 3), (.u 5)]⟩⟩,
     ⟨7, [7, 9], false, [], ⟨some 10, false, none, .call 10 [(.u 7), (.u 9)]⟩⟩,
     ⟨8, [6, 10], false, [], ⟨some 11, false, none, .build [.int .u64 0, .int .u64 0] [(0, 1, (.u 6)), (1, 1, (.u 10))]⟩⟩,
     ⟨9, [2, 11], false, [], ⟨none, true, none, .store 2 (.t 2) (.u 11)⟩⟩])
  (.ret))
def r22 : List LRes := [.cell true 2 2]
theorem t22 : (Try.f22.body.bind (trCode v22 Try.prog Try.f22.ntmps)) = some c22 ∧ trRes v22 Try.prog Try.f22.results.toList = some r22 := ⟨by kernel_rfl, by kernel_rfl⟩

def v23 : Nat → Bool := fun t => [0, 1, 2, 4, 10, 13].contains t
def c23 : LCode :=
  .seq (.region [⟨some 2, true, none, .box (.t 0)⟩,
     ⟨some 4, true, none, .zero [.int .u64 0, .int .u64 0]⟩])
  (.seq (.seq (.region [⟨some 5, false, none, .mov (.t 1)⟩,
      ⟨some 6, false, none, .bin .lss (.u 5) (.c (.int .i64 0))⟩,
      ⟨some 7, false, none, .mov (.u 6)⟩,
      ⟨some 8, false, some ((.u 7), false), .mov (.t 1)⟩,
      ⟨some 9, false, some ((.u 7), false), .bin .gtr (.u 8) (.c (.int .i64 1000))⟩,
      ⟨some 10, true, none, .pick (.u 7) (.c (.bool true)) (.u 9)⟩])
   (.cond (.t 10)
    (.seq (.region [⟨some 11, false, none, .build [.int .u64 0, .int .u64 0] []⟩,
       ⟨none, true, none, .store 2 (.t 4) (.u 11)⟩])
    (.ret))
    (.skip)))
  (.seq (.block 0 (.loop (.seq (.seq (.region [⟨some 12, false, none, .mov (.t 1)⟩,
         ⟨some 13, true, none, .bin .gtr (.u 12) (.c (.int .i64 0))⟩])
      (.cond (.t 13)
       (.skip)
       (.exit 0)))
     (.seq (.block 1 (.region [⟨some 16, false, none, .load true 2 (.t 2)⟩,
         ⟨some 17, false, none, .call 22 [(.u 16)]⟩,
         ⟨none, true, none, .store 2 (.t 2) (.u 17)⟩]))
     (.region [⟨some 14, false, none, .mov (.t 1)⟩,
       ⟨some 15, false, none, .bin .sub (.u 14) (.c (.int .i64 1))⟩,
       ⟨some 1, true, none, .mov (.u 15)⟩])))))
  (.seq (.region [⟨some 18, false, none, .load true 2 (.t 2)⟩,
     ⟨none, true, none, .store 2 (.t 4) (.u 18)⟩])
  (.ret))))
def r23 : List LRes := [.cell true 2 4]
theorem t23 : (Try.f23.body.bind (trCode v23 Try.prog Try.f23.ntmps)) = some c23 ∧ trRes v23 Try.prog Try.f23.results.toList = some r23 := ⟨by kernel_rfl, by kernel_rfl⟩

def v24 : Nat → Bool := fun t => [0, 2, 3, 4, 5, 6, 7, 10, 12, 13, 14, 19, 29].contains t
def c24 : LCode :=
  .seq (.region [⟨some 2, true, none, .mov (.c (.int .u64 0))⟩,
     ⟨some 3, true, none, .mov (.c (.int .i64 0))⟩])
  (.seq (.seq (.region [⟨some 8, false, none, .mov (.t 0)⟩,
      ⟨some 9, false, none, .len (.u 8)⟩,
      ⟨some 10, true, none, .bin .neq (.u 9) (.c (.int .i64 16))⟩])
   (.cond (.t 10)
    (.seq (.region [⟨some 2, true, none, .mov (.c (.int .u64 0))⟩,
       ⟨some 3, true, none, .mov (.c (.int .i64 230))⟩])
    (.ret))
    (.skip)))
  (.seq (.region [⟨some 4, true, none, .mov (.c (.int .u64 0))⟩])
  (.seq (.seq (.region [⟨some 11, false, none, .mov (.t 0)⟩,
      ⟨some 12, true, none, .len (.u 11)⟩,
      ⟨some 13, true, none, .mov (.c (.int .i64 0))⟩])
   (.block 0 (.loop (.seq (.region [⟨some 14, true, none, .bin .lss (.t 13) (.t 12)⟩])
     (.seq (.cond (.t 14)
       (.skip)
       (.exit 0))
     (.seq (.block 1 (.seq (.region [⟨some 15, false, none, .mov (.t 13)⟩,
          ⟨some 5, true, none, .mov (.u 15)⟩])
       (.seq (.region [⟨some 6, true, none, .mov (.c (.int .i64 0))⟩])
       (.seq (.seq (.region [⟨some 16, false, none, .mov (.t 0)⟩,
           ⟨some 17, false, none, .mov (.t 5)⟩,
           ⟨some 18, false, none, .ixS (.u 16) (.u 17)⟩,
           ⟨some 7, true, none, .mov (.u 18)⟩])
        (.block 2 (.seq (.region [⟨some 20, false, none, .mov (.t 7)⟩,
            ⟨some 21, false, none, .bin .geq (.u 20) (.c (.int .u8 48))⟩,
            ⟨some 22, false, none, .mov (.u 21)⟩,
            ⟨some 23, false, some ((.u 22), true), .mov (.t 7)⟩,
            ⟨some 24, false, some ((.u 22), true), .bin .leq (.u 23) (.c (.int .u8 57))⟩,
            ⟨some 25, false, none, .pick (.u 22) (.u 24) (.c (.bool false))⟩,
            ⟨some 19, true, none, .mov (.u 25)⟩])
         (.cond (.t 19)
          (.region [⟨some 26, false, none, .mov (.t 7)⟩,
            ⟨some 27, false, none, .bin .sub (.u 26) (.c (.int .u8 48))⟩,
            ⟨some 28, false, none, .conv .i64 (.u 27)⟩,
            ⟨some 6, true, none, .mov (.u 28)⟩])
          (.seq (.region [⟨some 30, false, none, .mov (.t 7)⟩,
             ⟨some 31, false, none, .bin .geq (.u 30) (.c (.int .u8 97))⟩,
             ⟨some 32, false, none, .mov (.u 31)⟩,
             ⟨some 33, false, some ((.u 32), true), .mov (.t 7)⟩,
             ⟨some 34, false, some ((.u 32), true), .bin .leq (.u 33) (.c (.int .u8 102))⟩,
             ⟨some 35, false, none, .pick (.u 32) (.u 34) (.c (.bool false))⟩,
             ⟨some 29, true, none, .mov (.u 35)⟩])
          (.cond (.t 29)
           (.region [⟨some 36, false, none, .mov (.t 7)⟩,
             ⟨some 37, false, none, .bin .sub (.u 36) (.c (.int .u8 97))⟩,
             ⟨some 38, false, none, .conv .i64 (.u 37)⟩,
             ⟨some 39, false, none, .bin .add (.u 38) (.c (.int .i64 10))⟩,
             ⟨some 6, true, none, .mov (.u 39)⟩])
           (.seq (.region [⟨some 2, true, none, .mov (.c (.int .u64 0))⟩,
              ⟨some 3, true, none, .mov (.c (.int .i64 230))⟩])
           (.ret))))))))
       (.region [⟨some 40, false, none, .mov (.t 4)⟩,
         ⟨some 41, false, none, .bin .shl (.u 40) (.c (.int .u64 4))⟩,
         ⟨some 42, false, none, .mov (.t 6)⟩,
         ⟨some 43, false, none, .conv .u64 (.u 42)⟩,
         ⟨some 44, false, none, .bin .or (.u 41) (.u 43)⟩,
         ⟨some 4, true, none, .mov (.u 44)⟩])))))
     (.region [⟨some 45, false, none, .bin .add (.t 13) (.c (.int .i64 1))⟩,
       ⟨some 13, true, none, .mov (.u 45)⟩])))))))
  (.seq (.region [⟨some 46, false, none, .mov (.t 4)⟩,
     ⟨some 2, true, none, .mov (.u 46)⟩,
     ⟨some 3, true, none, .mov (.c (.int .i64 0))⟩])
  (.ret)))))
def r24 : List LRes := [.slot 2, .slot 3]
theorem t24 : (Try.f24.body.bind (trCode v24 Try.prog Try.f24.ntmps)) = some c24 ∧ trRes v24 Try.prog Try.f24.results.toList = some r24 := ⟨by kernel_rfl, by kernel_rfl⟩

def v25 : Nat → Bool := fun t => [0, 2, 3, 4, 7, 8, 9].contains t
def c25 : LCode :=
  .seq (.region [⟨some 2, true, none, .mov (.c (.str []))⟩])
  (.seq (.region [⟨some 5, false, none, .make 1 1 [.int .u8 0] (.c (.int .i64 16)) (.c (.int .i64 16))⟩,
     ⟨some 3, true, none, .mov (.u 5)⟩])
  (.seq (.seq (.region [⟨some 6, false, none, .mov (.t 3)⟩,
      ⟨some 7, true, none, .lenL (.u 6)⟩,
      ⟨some 8, true, none, .mov (.c (.int .i64 0))⟩])
   (.block 0 (.loop (.seq (.region [⟨some 9, true, none, .bin .lss (.t 8) (.t 7)⟩])
     (.seq (.cond (.t 9)
       (.skip)
       (.exit 0))
     (.seq (.block 1 (.seq (.region [⟨some 10, false, none, .mov (.t 8)⟩,
          ⟨some 4, true, none, .mov (.u 10)⟩])
       (.region [⟨some 11, false, none, .mov (.t 3)⟩,
         ⟨some 12, false, none, .mov (.t 4)⟩,
         ⟨some 13, false, none, .mov (.t 0)⟩,
         ⟨some 14, false, none, .mov (.t 4)⟩,
         ⟨some 15, false, none, .bin .mul (.c (.int .i64 4)) (.u 14)⟩,
         ⟨some 16, false, none, .bin .sub (.c (.int .i64 60)) (.u 15)⟩,
         ⟨some 17, false, none, .bin .shr (.u 13) (.u 16)⟩,
         ⟨some 18, false, none, .bin .and (.u 17) (.c (.int .u64 15))⟩,
         ⟨some 19, false, none, .ixS (.c (.str [48, 49, 50, 51, 52, 53, 54, 55, 56, 57, 97, 98, 99, 100, 101, 102])) (.u 18)⟩,
         ⟨some 20, false, none, .iaS 1 (.u 11) (.u 12)⟩,
         ⟨none, true, none, .store 1 (.u 20) (.u 19)⟩])))
     (.region [⟨some 21, false, none, .bin .add (.t 8) (.c (.int .i64 1))⟩,
       ⟨some 8, true, none, .mov (.u 21)⟩])))))))
  (.seq (.region [⟨some 22, false, none, .mov (.t 3)⟩,
     ⟨some 23, false, none, .b2s (.u 22)⟩,
     ⟨some 2, true, none, .mov (.u 23)⟩])
  (.ret))))
def r25 : List LRes := [.slot 2]
theorem t25 : (Try.f25.body.bind (trCode v25 Try.prog Try.f25.ntmps)) = some c25 ∧ trRes v25 Try.prog Try.f25.results.toList = some r25 := ⟨by kernel_rfl, by kernel_rfl⟩

def v26 : Nat → Bool := fun t => [0, 2, 3, 4, 5, 6, 9, 13, 19, 32].contains t
def c26 : LCode :=
  .seq (.region [⟨some 2, true, none, .mov (.c (.int .u64 0))⟩,
     ⟨some 3, true, none, .mov (.c (.int .i64 0))⟩])
  (.seq (.seq (.region [⟨some 7, false, none, .mov (.t 0)⟩,
      ⟨some 8, false, none, .len (.u 7)⟩,
      ⟨some 9, true, none, .bin .neq (.u 8) (.c (.int .i64 16))⟩])
   (.cond (.t 9)
    (.seq (.region [⟨some 2, true, none, .mov (.c (.int .u64 0))⟩,
       ⟨some 3, true, none, .mov (.c (.int .i64 230))⟩])
    (.ret))
    (.skip)))
  (.seq (.region [⟨some 4, true, none, .mov (.c (.int .u64 0))⟩])
  (.seq (.seq (.region [⟨some 5, true, none, .mov (.c (.int .i64 0))⟩])
   (.block 0 (.loop (.seq (.seq (.region [⟨some 10, false, none, .mov (.t 5)⟩,
         ⟨some 11, false, none, .mov (.t 0)⟩,
         ⟨some 12, false, none, .len (.u 11)⟩,
         ⟨some 13, true, none, .bin .lss (.u 10) (.u 12)⟩])
      (.cond (.t 13)
       (.skip)
       (.exit 0)))
     (.seq (.block 1 (.seq (.region [⟨some 16, false, none, .mov (.t 0)⟩,
          ⟨some 17, false, none, .mov (.t 5)⟩,
          ⟨some 18, false, none, .ixS (.u 16) (.u 17)⟩,
          ⟨some 6, true, none, .mov (.u 18)⟩])
       (.block 2 (.seq (.region [⟨some 20, false, none, .mov (.t 6)⟩,
           ⟨some 21, false, none, .bin .leq (.c (.int .u8 48)) (.u 20)⟩,
           ⟨some 22, false, none, .mov (.u 21)⟩,
           ⟨some 23, false, some ((.u 22), true), .mov (.t 6)⟩,
           ⟨some 24, false, some ((.u 22), true), .bin .leq (.u 23) (.c (.int .u8 57))⟩,
           ⟨some 25, false, none, .pick (.u 22) (.u 24) (.c (.bool false))⟩,
           ⟨some 19, true, none, .mov (.u 25)⟩])
        (.cond (.t 19)
         (.region [⟨some 26, false, none, .mov (.t 4)⟩,
           ⟨some 27, false, none, .bin .shl (.u 26) (.c (.int .u64 4))⟩,
           ⟨some 28, false, none, .mov (.t 6)⟩,
           ⟨some 29, false, none, .bin .sub (.u 28) (.c (.int .u8 48))⟩,
           ⟨some 30, false, none, .conv .u64 (.u 29)⟩,
           ⟨some 31, false, none, .bin .or (.u 27) (.u 30)⟩,
           ⟨some 4, true, none, .mov (.u 31)⟩])
         (.seq (.region [⟨some 33, false, none, .mov (.t 6)⟩,
            ⟨some 34, false, none, .bin .leq (.c (.int .u8 97)) (.u 33)⟩,
            ⟨some 35, false, none, .mov (.u 34)⟩,
            ⟨some 36, false, some ((.u 35), true), .mov (.t 6)⟩,
            ⟨some 37, false, some ((.u 35), true), .bin .leq (.u 36) (.c (.int .u8 102))⟩,
            ⟨some 38, false, none, .pick (.u 35) (.u 37) (.c (.bool false))⟩,
            ⟨some 32, true, none, .mov (.u 38)⟩])
         (.cond (.t 32)
          (.region [⟨some 39, false, none, .mov (.t 4)⟩,
            ⟨some 40, false, none, .bin .shl (.u 39) (.c (.int .u64 4))⟩,
            ⟨some 41, false, none, .mov (.t 6)⟩,
            ⟨some 42, false, none, .bin .sub (.u 41) (.c (.int .u8 97))⟩,
            ⟨some 43, false, none, .bin .add (.u 42) (.c (.int .u8 10))⟩,
            ⟨some 44, false, none, .conv .u64 (.u 43)⟩,
            ⟨some 45, false, none, .bin .or (.u 40) (.u 44)⟩,
            ⟨some 4, true, none, .mov (.u 45)⟩])
          (.seq (.region [⟨some 2, true, none, .mov (.c (.int .u64 0))⟩,
             ⟨some 3, true, none, .mov (.c (.int .i64 230))⟩])
          (.ret)))))))))
     (.region [⟨some 14, false, none, .mov (.t 5)⟩,
       ⟨some 15, false, none, .bin .add (.u 14) (.c (.int .i64 1))⟩,
       ⟨some 5, true, none, .mov (.u 15)⟩]))))))
  (.seq (.region [⟨some 46, false, none, .mov (.t 4)⟩,
     ⟨some 2, true, none, .mov (.u 46)⟩,
     ⟨some 3, true, none, .mov (.c (.int .i64 0))⟩])
  (.ret)))))
def r26 : List LRes := [.slot 2, .slot 3]
theorem t26 : (Try.f26.body.bind (trCode v26 Try.prog Try.f26.ntmps)) = some c26 ∧ trRes v26 Try.prog Try.f26.results.toList = some r26 := ⟨by kernel_rfl, by kernel_rfl⟩

def v27 : Nat → Bool := fun t => [0, 2, 3, 5, 7, 8, 9, 10].contains t
def c27 : LCode :=
  .seq (.region [⟨some 2, true, none, .mov (.c (.str []))⟩])
  (.seq (.region [⟨some 3, true, none, .mov (.c (.str []))⟩])
  (.seq (.seq (.region [⟨some 6, false, none, .mov (.t 0)⟩,
      ⟨some 7, true, none, .call 19 [(.u 6)]⟩,
      ⟨some 8, true, none, .lenL (.t 7)⟩,
      ⟨some 9, true, none, .mov (.c (.int .i64 0))⟩])
   (.block 0 (.loop (.seq (.region [⟨some 10, true, none, .bin .lss (.t 9) (.t 8)⟩])
     (.seq (.cond (.t 10)
       (.skip)
       (.exit 0))
     (.seq (.block 1 (.seq (.region [⟨some 11, false, none, .iaS 1 (.t 7) (.t 9)⟩,
          ⟨some 12, false, none, .load false 1 (.u 11)⟩,
          ⟨some 5, true, none, .mov (.u 12)⟩])
       (.regionD [⟨0, [3], false, [], ⟨some 13, false, none, .mov (.t 3)⟩⟩,
         ⟨1, [5], false, [], ⟨some 14, false, none, .mov (.t 5)⟩⟩,
         ⟨2, [14], false, [], ⟨some 15, false, none, .bin .shr (.u 14) (.c (.int .u64 4))⟩⟩,
         ⟨3, [5], false, [], ⟨some 16, false, none, .mov (.t 5)⟩⟩,
         ⟨4, [16], false, [], ⟨some 17, false, none, .bin .shr (.u 16) (.c (.int .u64 4))⟩⟩,
         ⟨5, [17], false, [], ⟨some 18, false, none, .bin .add (.u 17) (.c (.int .u8 1))⟩⟩,
         ⟨6, [15, 18], false, [], ⟨some 19, false, none, .slS (.c (.str [48, 49, 50, 51, 52, 53, 54, 55, 56, 57, 97, 98, 99, 100, 101, 102])) (some (.u 15)) (some (.u 18))⟩⟩,
         ⟨7, [5], false, [], ⟨some 20, false, none, .mov (.t 5)⟩⟩,
         ⟨8, [20], false, [], ⟨some 21, false, none, .bin .and (.u 20) (.c (.int .u8 15))⟩⟩,
         ⟨9, [5], false, [], ⟨some 22, false, none, .mov (.t 5)⟩⟩,
         ⟨10, [22], false, [], ⟨some 23, false, none, .bin .and (.u 22) (.c (.int .u8 15))⟩⟩,
         ⟨11, [23], false, [], ⟨some 24, false, none, .bin .add (.u 23) (.c (.int .u8 1))⟩⟩,
         ⟨12, [21, 24], false, [], ⟨some 25, false, none, .slS (.c (.str [48, 49, 50, 51, 52, 53, 54, 55, 56, 57, 97, 98, 99, 100, 101, 102])) (some (.u 21)) (some (.u 24))⟩⟩,
         ⟨13, [19, 25], false, [], ⟨some 26, false, none, .bin .add (.u 19) (.u 25)⟩⟩,
         ⟨14, [13, 26], false, [], ⟨some 27, false, none, .bin .add (.u 13) (.u 26)⟩⟩,
         ⟨15, [27], false, [], ⟨some 3, true, none, .mov (.u 27)⟩⟩])))
     (.region [⟨some 28, false, none, .bin .add (.t 9) (.c (.int .i64 1))⟩,
       ⟨some 9, true, none, .mov (.u 28)⟩])))))))
  (.seq (.region [⟨some 29, false, none, .mov (.t 3)⟩,
     ⟨some 2, true, none, .mov (.u 29)⟩])
  (.ret))))
def r27 : List LRes := [.slot 2]
theorem t27 : (Try.f27.body.bind (trCode v27 Try.prog Try.f27.ntmps)) = some c27 ∧ trRes v27 Try.prog Try.f27.results.toList = some r27 := ⟨by kernel_rfl, by kernel_rfl⟩

def v28 : Nat → Bool := fun t => [0, 1, 2, 4, 5, 6, 24, 49, 50].contains t
def c28 : LCode :=
  .seq (.region [⟨some 2, true, none, .box (.t 0)⟩,
     ⟨some 4, true, none, .mov (.c (.int .u64 0))⟩])
  (.seq (.region [⟨some 7, false, none, .iaA 2 1 (.t 2) (.c (.int .i64 0))⟩,
     ⟨some 8, false, none, .load false 1 (.u 7)⟩,
     ⟨some 9, false, none, .bin .xor (.u 8) (.c (.int .u64 8317987319222330741))⟩,
     ⟨some 10, false, none, .iaA 2 1 (.t 2) (.c (.int .i64 1))⟩,
     ⟨some 11, false, none, .load false 1 (.u 10)⟩,
     ⟨some 12, false, none, .bin .xor (.u 11) (.c (.int .u64 7237128888997146477))⟩,
     ⟨some 13, false, none, .iaA 2 1 (.t 2) (.c (.int .i64 0))⟩,
     ⟨some 14, false, none, .load false 1 (.u 13)⟩,
     ⟨some 15, false, none, .bin .xor (.u 14) (.c (.int .u64 7816392313619706465))⟩,
     ⟨some 16, false, none, .iaA 2 1 (.t 2) (.c (.int .i64 1))⟩,
     ⟨some 17, false, none, .load false 1 (.u 16)⟩,
     ⟨some 18, false, none, .bin .xor (.u 17) (.c (.int .u64 8387220255154660723))⟩,
     ⟨some 19, false, none, .build [.int .u64 0, .int .u64 0, .int .u64 0, .int .u64 0] [(0, 1, (.u 9)), (1, 1, (.u 12)), (2, 1, (.u 15)), (3, 1, (.u 18))]⟩,
     ⟨some 5, true, none, .zero [.int .u64 0, .int .u64 0, .int .u64 0, .int .u64 0]⟩,
     ⟨none, true, none, .store 4 (.t 5) (.u 19)⟩])
  (.seq (.region [⟨some 6, true, none, .mov (.c (.int .i64 0))⟩])
  (.seq (.block 0 (.loop (.seq (.seq (.region [⟨some 20, false, none, .mov (.t 1)⟩,
         ⟨some 21, false, none, .lenL (.u 20)⟩,
         ⟨some 22, false, none, .mov (.t 6)⟩,
         ⟨some 23, false, none, .bin .sub (.u 21) (.u 22)⟩,
         ⟨some 24, true, none, .bin .geq (.u 23) (.c (.int .i64 8))⟩])
      (.cond (.t 24)
       (.skip)
       (.exit 0)))
     (.seq (.block 1 (.region [⟨some 27, false, none, .mov (.t 1)⟩,
         ⟨some 28, false, none, .mov (.t 6)⟩,
         ⟨some 29, false, none, .mov (.t 6)⟩,
         ⟨some 30, false, none, .bin .add (.u 29) (.c (.int .i64 8))⟩,
         ⟨some 31, false, none, .slL 1 (.u 27) (some (.u 28)) (some (.u 30)) none⟩,
         ⟨some 32, false, none, .call 32 [(.u 31)]⟩,
         ⟨some 33, false, none, .call 31 [(.t 5), (.u 32)]⟩]))
     (.region [⟨some 25, false, none, .mov (.t 6)⟩,
       ⟨some 26, false, none, .bin .add (.u 25) (.c (.int .i64 8))⟩,
       ⟨some 6, true, none, .mov (.u 26)⟩])))))
  (.seq (.region [⟨some 34, false, none, .mov (.t 1)⟩,
     ⟨some 35, false, none, .mov (.t 6)⟩,
     ⟨some 36, false, none, .slL 1 (.u 34) (some (.u 35)) none none⟩,
     ⟨some 37, false, none, .call 32 [(.u 36)]⟩,
     ⟨some 38, false, none, .mov (.t 1)⟩,
     ⟨some 39, false, none, .lenL (.u 38)⟩,
     ⟨some 40, false, none, .bin .rem (.u 39) (.c (.int .i64 256))⟩,
     ⟨some 41, false, none, .conv .u64 (.u 40)⟩,
     ⟨some 42, false, none, .bin .shl (.u 41) (.c (.int .u64 56))⟩,
     ⟨some 43, false, none, .bin .or (.u 37) (.u 42)⟩,
     ⟨some 44, false, none, .call 31 [(.t 5), (.u 43)]⟩])
  (.seq (.region [⟨some 45, false, none, .iaA 4 1 (.t 5) (.c (.int .i64 2))⟩,
     ⟨some 46, false, none, .load false 1 (.u 45)⟩,
     ⟨some 47, false, none, .bin .xor (.u 46) (.c (.int .u64 255))⟩,
     ⟨some 48, false, none, .iaA 4 1 (.t 5) (.c (.int .i64 2))⟩,
     ⟨none, true, none, .store 1 (.u 48) (.u 47)⟩])
  (.seq (.seq (.region [⟨some 49, true, none, .mov (.c (.int .i64 0))⟩])
   (.block 2 (.loop (.seq (.region [⟨some 50, true, none, .bin .lss (.t 49) (.c (.int .i64 4))⟩])
     (.seq (.cond (.t 50)
       (.skip)
       (.exit 2))
     (.seq (.block 3 (.region [⟨some 51, false, none, .call 33 [(.t 5)]⟩]))
     (.region [⟨some 52, false, none, .bin .add (.t 49) (.c (.int .i64 1))⟩,
       ⟨some 49, true, none, .mov (.u 52)⟩])))))))
  (.seq (.region [⟨some 53, false, none, .iaA 4 1 (.t 5) (.c (.int .i64 0))⟩,
     ⟨some 54, false, none, .load false 1 (.u 53)⟩,
     ⟨some 55, false, none, .iaA 4 1 (.t 5) (.c (.int .i64 1))⟩,
     ⟨some 56, false, none, .load false 1 (.u 55)⟩,
     ⟨some 57, false, none, .bin .xor (.u 54) (.u 56)⟩,
     ⟨some 58, false, none, .iaA 4 1 (.t 5) (.c (.int .i64 2))⟩,
     ⟨some 59, false, none, .load false 1 (.u 58)⟩,
     ⟨some 60, false, none, .bin .xor (.u 57) (.u 59)⟩,
     ⟨some 61, false, none, .iaA 4 1 (.t 5) (.c (.int .i64 3))⟩,
     ⟨some 62, false, none, .load false 1 (.u 61)⟩,
     ⟨some 63, false, none, .bin .xor (.u 60) (.u 62)⟩,
     ⟨some 4, true, none, .mov (.u 63)⟩])
  (.ret))))))))
def r28 : List LRes := [.slot 4]
theorem t28 : (Try.f28.body.bind (trCode v28 Try.prog Try.f28.ntmps)) = some c28 ∧ trRes v28 Try.prog Try.f28.results.toList = some r28 := ⟨by kernel_rfl, by kernel_rfl⟩

def v29 : Nat → Bool := fun t => [0, 1, 2, 4].contains t
def c29 : LCode :=
  .seq (.region [⟨some 2, true, none, .box (.t 0)⟩,
     ⟨some 4, true, none, .zero [.int .u64 0, .int .u64 0, .int .u64 0, .int .u64 0]⟩])
  (.seq (.region [⟨some 5, false, none, .faddr 3 (.t 2)⟩,
     ⟨some 6, false, none, .load false 1 (.u 5)⟩,
     ⟨some 7, false, none, .mov (.t 1)⟩,
     ⟨some 8, false, none, .bin .xor (.u 6) (.u 7)⟩,
     ⟨some 9, false, none, .faddr 3 (.t 2)⟩,
     ⟨none, true, none, .store 1 (.u 9) (.u 8)⟩])
  (.seq (.region [⟨some 10, false, none, .load true 4 (.t 2)⟩,
     ⟨some 11, false, none, .call 30 [(.u 10), (.c (.int .i64 2))]⟩,
     ⟨none, true, none, .store 4 (.t 2) (.u 11)⟩])
  (.seq (.region [⟨some 12, false, none, .faddr 0 (.t 2)⟩,
     ⟨some 13, false, none, .load false 1 (.u 12)⟩,
     ⟨some 14, false, none, .mov (.t 1)⟩,
     ⟨some 15, false, none, .bin .xor (.u 13) (.u 14)⟩,
     ⟨some 16, false, none, .faddr 0 (.t 2)⟩,
     ⟨none, true, none, .store 1 (.u 16) (.u 15)⟩])
  (.seq (.region [⟨some 17, false, none, .load true 4 (.t 2)⟩,
     ⟨none, true, none, .store 4 (.t 4) (.u 17)⟩])
  (.ret)))))
def r29 : List LRes := [.cell true 4 4]
theorem t29 : (Try.f29.body.bind (trCode v29 Try.prog Try.f29.ntmps)) = some c29 ∧ trRes v29 Try.prog Try.f29.results.toList = some r29 := ⟨by kernel_rfl, by kernel_rfl⟩

def v30 : Nat → Bool := fun t => [0, 1, 2, 4, 6].contains t
def c30 : LCode :=
  .seq (.region [⟨some 2, true, none, .box (.t 0)⟩,
     ⟨some 4, true, none, .zero [.int .u64 0, .int .u64 0, .int .u64 0, .int .u64 0]⟩])
  (.seq (.block 0 (.loop (.seq (.seq (.region [⟨some 5, false, none, .mov (.t 1)⟩,
         ⟨some 6, true, none, .bin .gtr (.u 5) (.c (.int .i64 0))⟩])
      (.cond (.t 6)
       (.skip)
       (.exit 0)))
     (.seq (.block 1 (.seq (.region [⟨some 9, false, none, .faddr 0 (.t 2)⟩,
          ⟨some 10, false, none, .load false 1 (.u 9)⟩,
          ⟨some 11, false, none, .faddr 1 (.t 2)⟩,
          ⟨some 12, false, none, .load false 1 (.u 11)⟩,
          ⟨some 13, false, none, .bin .add (.u 10) (.u 12)⟩,
          ⟨some 14, false, none, .faddr 0 (.t 2)⟩,
          ⟨none, true, none, .store 1 (.u 14) (.u 13)⟩])
       (.seq (.regionD [⟨0, [2], false, [], ⟨some 15, false, none, .faddr 1 (.t 2)⟩⟩,
          ⟨1, [15], true, [], ⟨some 16, false, none, .load false 1 (.u 15)⟩⟩,
          ⟨3, [2], false, [], ⟨some 18, false, none, .faddr 0 (.t 2)⟩⟩,
          ⟨4, [18], true, [], ⟨some 19, false, none, .load false 1 (.u 18)⟩⟩,
          ⟨2, [16], false, [4], ⟨some 17, false, none, .call 34 [(.u 16), (.c (.int .i64 13))]⟩⟩,
          ⟨5, [17, 19], false, [], ⟨some 20, false, none, .bin .xor (.u 17) (.u 19)⟩⟩,
          ⟨6, [2], false, [], ⟨some 21, false, none, .faddr 1 (.t 2)⟩⟩,
          ⟨7, [21, 20], false, [], ⟨none, true, none, .store 1 (.u 21) (.u 20)⟩⟩])
       (.seq (.region [⟨some 22, false, none, .faddr 0 (.t 2)⟩,
          ⟨some 23, false, none, .load false 1 (.u 22)⟩,
          ⟨some 24, false, none, .call 34 [(.u 23), (.c (.int .i64 32))]⟩,
          ⟨some 25, false, none, .faddr 0 (.t 2)⟩,
          ⟨none, true, none, .store 1 (.u 25) (.u 24)⟩])
       (.seq (.region [⟨some 26, false, none, .faddr 2 (.t 2)⟩,
          ⟨some 27, false, none, .load false 1 (.u 26)⟩,
          ⟨some 28, false, none, .faddr 3 (.t 2)⟩,
          ⟨some 29, false, none, .load false 1 (.u 28)⟩,
          ⟨some 30, false, none, .bin .add (.u 27) (.u 29)⟩,
          ⟨some 31, false, none, .faddr 2 (.t 2)⟩,
          ⟨none, true, none, .store 1 (.u 31) (.u 30)⟩])
       (.seq (.regionD [⟨0, [2], false, [], ⟨some 32, false, none, .faddr 3 (.t 2)⟩⟩,
          ⟨1, [32], true, [], ⟨some 33, false, none, .load false 1 (.u 32)⟩⟩,
          ⟨3, [2], false, [], ⟨some 35, false, none, .faddr 2 (.t 2)⟩⟩,
          ⟨4, [35], true, [], ⟨some 36, false, none, .load false 1 (.u 35)⟩⟩,
          ⟨2, [33], false, [4], ⟨some 34, false, none, .call 34 [(.u 33), (.c (.int .i64 16))]⟩⟩,
          ⟨5, [34, 36], false, [], ⟨some 37, false, none, .bin .xor (.u 34) (.u 36)⟩⟩,
          ⟨6, [2], false, [], ⟨some 38, false, none, .faddr 3 (.t 2)⟩⟩,
          ⟨7, [38, 37], false, [], ⟨none, true, none, .store 1 (.u 38) (.u 37)⟩⟩])
       (.seq (.region [⟨some 39, false, none, .faddr 0 (.t 2)⟩,
          ⟨some 40, false, none, .load false 1 (.u 39)⟩,
          ⟨some 41, false, none, .faddr 3 (.t 2)⟩,
          ⟨some 42, false, none, .load false 1 (.u 41)⟩,
          ⟨some 43, false, none, .bin .add (.u 40) (.u 42)⟩,
          ⟨some 44, false, none, .faddr 0 (.t 2)⟩,
          ⟨none, true, none, .store 1 (.u 44) (.u 43)⟩])
       (.seq (.regionD [⟨0, [2], false, [], ⟨some 45, false, none, .faddr 3 (.t 2)⟩⟩,
          ⟨1, [45], true, [], ⟨some 46, false, none, .load false 1 (.u 45)⟩⟩,
          ⟨3, [2], false, [], ⟨some 48, false, none, .faddr 0 (.t 2)⟩⟩,
          ⟨4, [48], true, [], ⟨some 49, false, none, .load false 1 (.u 48)⟩⟩,
          ⟨2, [46], false, [4], ⟨some 47, false, none, .call 34 [(.u 46), (.c (.int .i64 21))]⟩⟩,
          ⟨5, [47, 49], false, [], ⟨some 50, false, none, .bin .xor (.u 47) (.u 49)⟩⟩,
          ⟨6, [2], false, [], ⟨some 51, false, none, .faddr 3 (.t 2)⟩⟩,
          ⟨7, [51, 50], false, [], ⟨none, true, none, .store 1 (.u 51) (.u 50)⟩⟩])
       (.seq (.region [⟨some 52, false, none, .faddr 2 (.t 2)⟩,
          ⟨some 53, false, none, .load false 1 (.u 52)⟩,
          ⟨some 54, false, none, .faddr 1 (.t 2)⟩,
          ⟨some 55, false, none, .load false 1 (.u 54)⟩,
          ⟨some 56, false, none, .bin .add (.u 53) (.u 55)⟩,
          ⟨some 57, false, none, .faddr 2 (.t 2)⟩,
          ⟨none, true, none, .store 1 (.u 57) (.u 56)⟩])
       (.seq (.regionD [⟨0, [2], false, [], ⟨some 58, false, none, .faddr 1 (.t 2)⟩⟩,
          ⟨1, [58], true, [], ⟨some 59, false, none, .load false 1 (.u 58)⟩⟩,
          ⟨3, [2], false, [], ⟨some 61, false, none, .faddr 2 (.t 2)⟩⟩,
          ⟨4, [61], true, [], ⟨some 62, false, none, .load false 1 (.u 61)⟩⟩,
          ⟨2, [59], false, [4], ⟨some 60, false, none, .call 34 [(.u 59), (.c (.int .i64 17))]⟩⟩,
          ⟨5, [60, 62], false, [], ⟨some 63, false, none, .bin .xor (.u 60) (.u 62)⟩⟩,
          ⟨6, [2], false, [], ⟨some 64, false, none, .faddr 1 (.t 2)⟩⟩,
          ⟨7, [64, 63], false, [], ⟨none, true, none, .store 1 (.u 64) (.u 63)⟩⟩])
       (.region [⟨some 65, false, none, .faddr 2 (.t 2)⟩,
         ⟨some 66, false, none, .load false 1 (.u 65)⟩,
         ⟨some 67, false, none, .call 34 [(.u 66), (.c (.int .i64 32))]⟩,
         ⟨some 68, false, none, .faddr 2 (.t 2)⟩,
         ⟨none, true, none, .store 1 (.u 68) (.u 67)⟩])))))))))))
     (.region [⟨some 7, false, none, .mov (.t 1)⟩,
       ⟨some 8, false, none, .bin .sub (.u 7) (.c (.int .i64 1))⟩,
       ⟨some 1, true, none, .mov (.u 8)⟩])))))
  (.seq (.region [⟨some 69, false, none, .load true 4 (.t 2)⟩,
     ⟨none, true, none, .store 4 (.t 4) (.u 69)⟩])
  (.ret)))
def r30 : List LRes := [.cell true 4 4]
theorem t30 : (Try.f30.body.bind (trCode v30 Try.prog Try.f30.ntmps)) = some c30 ∧ trRes v30 Try.prog Try.f30.results.toList = some r30 := ⟨by kernel_rfl, by kernel_rfl⟩

def v31 : Nat → Bool := fun t => [0, 1].contains t
def c31 : LCode :=
  .seq (.regionD [⟨0, [0], false, [], ⟨some 4, false, none, .mov (.t 0)⟩⟩,
     ⟨1, [4], false, [], ⟨some 5, false, none, .nilc (.u 4)⟩⟩,
     ⟨2, [5], false, [], ⟨some 6, false, none, .iaA 4 1 (.u 5) (.c (.int .i64 3))⟩⟩,
     ⟨3, [6], true, [], ⟨some 7, false, none, .load false 1 (.u 6)⟩⟩,
     ⟨4, [1], false, [], ⟨some 8, false, none, .mov (.t 1)⟩⟩,
     ⟨5, [7, 8], false, [], ⟨some 9, false, none, .bin .xor (.u 7) (.u 8)⟩⟩,
     ⟨6, [4], false, [], ⟨some 10, false, none, .nilc (.u 4)⟩⟩,
     ⟨7, [10], false, [], ⟨some 11, false, none, .iaA 4 1 (.u 10) (.c (.int .i64 3))⟩⟩,
     ⟨8, [11, 9], false, [], ⟨none, true, none, .store 1 (.u 11) (.u 9)⟩⟩])
  (.seq (.region [⟨some 12, false, none, .mov (.t 0)⟩,
     ⟨some 13, false, none, .call 33 [(.u 12)]⟩])
  (.seq (.region [⟨some 14, false, none, .mov (.t 0)⟩,
     ⟨some 15, false, none, .call 33 [(.u 14)]⟩])
  (.regionD [⟨0, [0], false, [], ⟨some 16, false, none, .mov (.t 0)⟩⟩,
    ⟨1, [16], false, [], ⟨some 17, false, none, .nilc (.u 16)⟩⟩,
    ⟨2, [17], false, [], ⟨some 18, false, none, .iaA 4 1 (.u 17) (.c (.int .i64 0))⟩⟩,
    ⟨3, [18], true, [], ⟨some 19, false, none, .load false 1 (.u 18)⟩⟩,
    ⟨4, [1], false, [], ⟨some 20, false, none, .mov (.t 1)⟩⟩,
    ⟨5, [19, 20], false, [], ⟨some 21, false, none, .bin .xor (.u 19) (.u 20)⟩⟩,
    ⟨6, [16], false, [], ⟨some 22, false, none, .nilc (.u 16)⟩⟩,
    ⟨7, [22], false, [], ⟨some 23, false, none, .iaA 4 1 (.u 22) (.c (.int .i64 0))⟩⟩,
    ⟨8, [23, 21], false, [], ⟨none, true, none, .store 1 (.u 23) (.u 21)⟩⟩])))
def r31 : List LRes := []
theorem t31 : (Try.f31.body.bind (trCode v31 Try.prog Try.f31.ntmps)) = some c31 ∧ trRes v31 Try.prog Try.f31.results.toList = some r31 := ⟨by kernel_rfl, by kernel_rfl⟩

def v32 : Nat → Bool := fun t => [0, 2, 3, 4, 5, 6, 7, 8, 9].contains t
def c32 : LCode :=
  .seq (.region [⟨some 2, true, none, .mov (.c (.int .u64 0))⟩])
  (.seq (.region [⟨some 3, true, none, .mov (.c (.int .u64 0))⟩])
  (.seq (.seq (.region [⟨some 6, true, none, .mov (.t 0)⟩,
      ⟨some 7, true, none, .lenL (.t 6)⟩,
      ⟨some 8, true, none, .mov (.c (.int .i64 0))⟩])
   (.block 0 (.loop (.seq (.region [⟨some 9, true, none, .bin .lss (.t 8) (.t 7)⟩])
     (.seq (.cond (.t 9)
       (.skip)
       (.exit 0))
     (.seq (.block 1 (.seq (.region [⟨some 10, false, none, .mov (.t 8)⟩,
          ⟨some 11, false, none, .iaS 1 (.t 6) (.t 8)⟩,
          ⟨some 12, false, none, .load false 1 (.u 11)⟩,
          ⟨some 4, true, none, .mov (.u 10)⟩,
          ⟨some 5, true, none, .mov (.u 12)⟩])
       (.region [⟨some 13, false, none, .mov (.t 3)⟩,
         ⟨some 14, false, none, .mov (.t 5)⟩,
         ⟨some 15, false, none, .conv .u64 (.u 14)⟩,
         ⟨some 16, false, none, .mov (.t 4)⟩,
         ⟨some 17, false, none, .bin .mul (.c (.int .i64 8)) (.u 16)⟩,
         ⟨some 18, false, none, .bin .shl (.u 15) (.u 17)⟩,
         ⟨some 19, false, none, .bin .or (.u 13) (.u 18)⟩,
         ⟨some 3, true, none, .mov (.u 19)⟩])))
     (.region [⟨some 20, false, none, .bin .add (.t 8) (.c (.int .i64 1))⟩,
       ⟨some 8, true, none, .mov (.u 20)⟩])))))))
  (.seq (.region [⟨some 21, false, none, .mov (.t 3)⟩,
     ⟨some 2, true, none, .mov (.u 21)⟩])
  (.ret))))
def r32 : List LRes := [.slot 2]
theorem t32 : (Try.f32.body.bind (trCode v32 Try.prog Try.f32.ntmps)) = some c32 ∧ trRes v32 Try.prog Try.f32.results.toList = some r32 := ⟨by kernel_rfl, by kernel_rfl⟩

def v33 : Nat → Bool := fun t => [0].contains t
def c33 : LCode :=
  .seq (.regionD [⟨0, [0], false, [], ⟨some 2, false, none, .mov (.t 0)⟩⟩,
     ⟨1, [2], false, [], ⟨some 3, false, none, .nilc (.u 2)⟩⟩,
     ⟨2, [3], false, [], ⟨some 4, false, none, .iaA 4 1 (.u 3) (.c (.int .i64 0))⟩⟩,
     ⟨3, [4], true, [], ⟨some 5, false, none, .load false 1 (.u 4)⟩⟩,
     ⟨4, [0], false, [], ⟨some 6, false, none, .mov (.t 0)⟩⟩,
     ⟨5, [6], false, [], ⟨some 7, false, none, .nilc (.u 6)⟩⟩,
     ⟨6, [7], false, [], ⟨some 8, false, none, .iaA 4 1 (.u 7) (.c (.int .i64 1))⟩⟩,
     ⟨7, [8], true, [], ⟨some 9, false, none, .load false 1 (.u 8)⟩⟩,
     ⟨8, [5, 9], false, [], ⟨some 10, false, none, .bin .add (.u 5) (.u 9)⟩⟩,
     ⟨9, [2], false, [], ⟨some 11, false, none, .nilc (.u 2)⟩⟩,
     ⟨10, [11], false, [], ⟨some 12, false, none, .iaA 4 1 (.u 11) (.c (.int .i64 0))⟩⟩,
     ⟨11, [12, 10], false, [], ⟨none, true, none, .store 1 (.u 12) (.u 10)⟩⟩])
  (.seq (.regionD [⟨0, [0], false, [], ⟨some 13, false, none, .mov (.t 0)⟩⟩,
     ⟨1, [0], false, [], ⟨some 14, false, none, .mov (.t 0)⟩⟩,
     ⟨2, [14], false, [], ⟨some 15, false, none, .nilc (.u 14)⟩⟩,
     ⟨3, [15], false, [], ⟨some 16, false, none, .iaA 4 1 (.u 15) (.c (.int .i64 1))⟩⟩,
     ⟨4, [16], true, [], ⟨some 17, false, none, .load false 1 (.u 16)⟩⟩,
     ⟨6, [13], false, [], ⟨some 19, false, none, .nilc (.u 13)⟩⟩,
     ⟨5, [17], false, [], ⟨some 18, false, none, .call 35 [(.u 17), (.c (.int .i64 13))]⟩⟩,
     ⟨7, [19], false, [], ⟨some 20, false, none, .iaA 4 1 (.u 19) (.c (.int .i64 1))⟩⟩,
     ⟨8, [20, 18], false, [], ⟨none, true, none, .store 1 (.u 20) (.u 18)⟩⟩])
  (.seq (.regionD [⟨0, [0], false, [], ⟨some 21, false, none, .mov (.t 0)⟩⟩,
     ⟨1, [21], false, [], ⟨some 22, false, none, .nilc (.u 21)⟩⟩,
     ⟨2, [22], false, [], ⟨some 23, false, none, .iaA 4 1 (.u 22) (.c (.int .i64 1))⟩⟩,
     ⟨3, [23], true, [], ⟨some 24, false, none, .load false 1 (.u 23)⟩⟩,
     ⟨4, [0], false, [], ⟨some 25, false, none, .mov (.t 0)⟩⟩,
     ⟨5, [25], false, [], ⟨some 26, false, none, .nilc (.u 25)⟩⟩,
     ⟨6, [26], false, [], ⟨some 27, false, none, .iaA 4 1 (.u 26) (.c (.int .i64 0))⟩⟩,
     ⟨7, [27], true, [], ⟨some 28, false, none, .load false 1 (.u 27)⟩⟩,
     ⟨8, [24, 28], false, [], ⟨some 29, false, none, .bin .xor (.u 24) (.u 28)⟩⟩,
     ⟨9, [21], false, [], ⟨some 30, false, none, .nilc (.u 21)⟩⟩,
     ⟨10, [30], false, [], ⟨some 31, false, none, .iaA 4 1 (.u 30) (.c (.int .i64 1))⟩⟩,
     ⟨11, [31, 29], false, [], ⟨none, true, none, .store 1 (.u 31) (.u 29)⟩⟩])
  (.seq (.regionD [⟨0, [0], false, [], ⟨some 32, false, none, .mov (.t 0)⟩⟩,
     ⟨1, [0], false, [], ⟨some 33, false, none, .mov (.t 0)⟩⟩,
     ⟨2, [33], false, [], ⟨some 34, false, none, .nilc (.u 33)⟩⟩,
     ⟨3, [34], false, [], ⟨some 35, false, none, .iaA 4 1 (.u 34) (.c (.int .i64 0))⟩⟩,
     ⟨4, [35], true, [], ⟨some 36, false, none, .load false 1 (.u 35)⟩⟩,
     ⟨6, [32], false, [], ⟨some 38, false, none, .nilc (.u 32)⟩⟩,
     ⟨5, [36], false, [], ⟨some 37, false, none, .call 35 [(.u 36), (.c (.int .i64 32))]⟩⟩,
     ⟨7, [38], false, [], ⟨some 39, false, none, .iaA 4 1 (.u 38) (.c (.int .i64 0))⟩⟩,
     ⟨8, [39, 37], false, [], ⟨none, true, none, .store 1 (.u 39) (.u 37)⟩⟩])
  (.seq (.regionD [⟨0, [0], false, [], ⟨some 40, false, none, .mov (.t 0)⟩⟩,
     ⟨1, [40], false, [], ⟨some 41, false, none, .nilc (.u 40)⟩⟩,
     ⟨2, [41], false, [], ⟨some 42, false, none, .iaA 4 1 (.u 41) (.c (.int .i64 2))⟩⟩,
     ⟨3, [42], true, [], ⟨some 43, false, none, .load false 1 (.u 42)⟩⟩,
     ⟨4, [0], false, [], ⟨some 44, false, none, .mov (.t 0)⟩⟩,
     ⟨5, [44], false, [], ⟨some 45, false, none, .nilc (.u 44)⟩⟩,
     ⟨6, [45], false, [], ⟨some 46, false, none, .iaA 4 1 (.u 45) (.c (.int .i64 3))⟩⟩,
     ⟨7, [46], true, [], ⟨some 47, false, none, .load false 1 (.u 46)⟩⟩,
     ⟨8, [43, 47], false, [], ⟨some 48, false, none, .bin .add (.u 43) (.u 47)⟩⟩,
     ⟨9, [40], false, [], ⟨some 49, false, none, .nilc (.u 40)⟩⟩,
     ⟨10, [49], false, [], ⟨some 50, false, none, .iaA 4 1 (.u 49) (.c (.int .i64 2))⟩⟩,
     ⟨11, [50, 48], false, [], ⟨none, true, none, .store 1 (.u 50) (.u 48)⟩⟩])
  (.seq (.regionD [⟨0, [0], false, [], ⟨some 51, false, none, .mov (.t 0)⟩⟩,
     ⟨1, [0], false, [], ⟨some 52, false, none, .mov (.t 0)⟩⟩,
     ⟨2, [52], false, [], ⟨some 53, false, none, .nilc (.u 52)⟩⟩,
     ⟨3, [53], false, [], ⟨some 54, false, none, .iaA 4 1 (.u 53) (.c (.int .i64 3))⟩⟩,
     ⟨4, [54], true, [], ⟨some 55, false, none, .load false 1 (.u 54)⟩⟩,
     ⟨6, [51], false, [], ⟨some 57, false, none, .nilc (.u 51)⟩⟩,
     ⟨5, [55], false, [], ⟨some 56, false, none, .call 35 [(.u 55), (.c (.int .i64 16))]⟩⟩,
     ⟨7, [57], false, [], ⟨some 58, false, none, .iaA 4 1 (.u 57) (.c (.int .i64 3))⟩⟩,
     ⟨8, [58, 56], false, [], ⟨none, true, none, .store 1 (.u 58) (.u 56)⟩⟩])
  (.seq (.regionD [⟨0, [0], false, [], ⟨some 59, false, none, .mov (.t 0)⟩⟩,
     ⟨1, [59], false, [], ⟨some 60, false, none, .nilc (.u 59)⟩⟩,
     ⟨2, [60], false, [], ⟨some 61, false, none, .iaA 4 1 (.u 60) (.c (.int .i64 3))⟩⟩,
     ⟨3, [61], true, [], ⟨some 62, false, none, .load false 1 (.u 61)⟩⟩,
     ⟨4, [0], false, [], ⟨some 63, false, none, .mov (.t 0)⟩⟩,
     ⟨5, [63], false, [], ⟨some 64, false, none, .nilc (.u 63)⟩⟩,
     ⟨6, [64], false, [], ⟨some 65, false, none, .iaA 4 1 (.u 64) (.c (.int .i64 2))⟩⟩,
     ⟨7, [65], true, [], ⟨some 66, false, none, .load false 1 (.u 65)⟩⟩,
     ⟨8, [62, 66], false, [], ⟨some 67, false, none, .bin .xor (.u 62) (.u 66)⟩⟩,
     ⟨9, [59], false, [], ⟨some 68, false, none, .nilc (.u 59)⟩⟩,
     ⟨10, [68], false, [], ⟨some 69, false, none, .iaA 4 1 (.u 68) (.c (.int .i64 3))⟩⟩,
     ⟨11, [69, 67], false, [], ⟨none, true, none, .store 1 (.u 69) (.u 67)⟩⟩])
  (.seq (.regionD [⟨0, [0], false, [], ⟨some 70, false, none, .mov (.t 0)⟩⟩,
     ⟨1, [70], false, [], ⟨some 71, false, none, .nilc (.u 70)⟩⟩,
     ⟨2, [71], false, [], ⟨some 72, false, none, .iaA 4 1 (.u 71) (.c (.int .i64 0))⟩⟩,
     ⟨3, [72], true, [], ⟨some 73, false, none, .load false 1 (.u 72)⟩⟩,
     ⟨4, [0], false, [], ⟨some 74, false, none, .mov (.t 0)⟩⟩,
     ⟨5, [74], false, [], ⟨some 75, false, none, .nilc (.u 74)⟩⟩,
     ⟨6, [75], false, [], ⟨some 76, false, none, .iaA 4 1 (.u 75) (.c (.int .i64 3))⟩⟩,
     ⟨7, [76], true, [], ⟨some 77, false, none, .load false 1 (.u 76)⟩⟩,
     ⟨8, [73, 77], false, [], ⟨some 78, false, none, .bin .add (.u 73) (.u 77)⟩⟩,
     ⟨9, [70], false, [], ⟨some 79, false, none, .nilc (.u 70)⟩⟩,
     ⟨10, [79], false, [], ⟨some 80, false, none, .iaA 4 1 (.u 79) (.c (.int .i64 0))⟩⟩,
     ⟨11, [80, 78], false, [], ⟨none, true, none, .store 1 (.u 80) (.u 78)⟩⟩])
  (.seq (.regionD [⟨0, [0], false, [], ⟨some 81, false, none, .mov (.t 0)⟩⟩,
     ⟨1, [0], false, [], ⟨some 82, false, none, .mov (.t 0)⟩⟩,
     ⟨2, [82], false, [], ⟨some 83, false, none, .nilc (.u 82)⟩⟩,
     ⟨3, [83], false, [], ⟨some 84, false, none, .iaA 4 1 (.u 83) (.c (.int .i64 3))⟩⟩,
     ⟨4, [84], true, [], ⟨some 85, false, none, .load false 1 (.u 84)⟩⟩,
     ⟨6, [81], false, [], ⟨some 87, false, none, .nilc (.u 81)⟩⟩,
     ⟨5, [85], false, [], ⟨some 86, false, none, .call 35 [(.u 85), (.c (.int .i64 21))]⟩⟩,
     ⟨7, [87], false, [], ⟨some 88, false, none, .iaA 4 1 (.u 87) (.c (.int .i64 3))⟩⟩,
     ⟨8, [88, 86], false, [], ⟨none, true, none, .store 1 (.u 88) (.u 86)⟩⟩])
  (.seq (.regionD [⟨0, [0], false, [], ⟨some 89, false, none, .mov (.t 0)⟩⟩,
     ⟨1, [89], false, [], ⟨some 90, false, none, .nilc (.u 89)⟩⟩,
     ⟨2, [90], false, [], ⟨some 91, false, none, .iaA 4 1 (.u 90) (.c (.int .i64 3))⟩⟩,
     ⟨3, [91], true, [], ⟨some 92, false, none, .load false 1 (.u 91)⟩⟩,
     ⟨4, [0], false, [], ⟨some 93, false, none, .mov (.t 0)⟩⟩,
     ⟨5, [93], false, [], ⟨some 94, false, none, .nilc (.u 93)⟩⟩,
     ⟨6, [94], false, [], ⟨some 95, false, none, .iaA 4 1 (.u 94) (.c (.int .i64 0))⟩⟩,
     ⟨7, [95], true, [], ⟨some 96, false, none, .load false 1 (.u 95)⟩⟩,
     ⟨8, [92, 96], false, [], ⟨some 97, false, none, .bin .xor (.u 92) (.u 96)⟩⟩,
     ⟨9, [89], false, [], ⟨some 98, false, none, .nilc (.u 89)⟩⟩,
     ⟨10, [98], false, [], ⟨some 99, false, none, .iaA 4 1 (.u 98) (.c (.int .i64 3))⟩⟩,
     ⟨11, [99, 97], false, [], ⟨none, true, none, .store 1 (.u 99) (.u 97)⟩⟩])
  (.seq (.regionD [⟨0, [0], false, [], ⟨some 100, false, none, .mov (.t 0)⟩⟩,
     ⟨1, [100], false, [], ⟨some 101, false, none, .nilc (.u 100)⟩⟩,
     ⟨2, [101], false, [], ⟨some 102, false, none, .iaA 4 1 (.u 101) (.c (.int .i64 2))⟩⟩,
     ⟨3, [102], true, [], ⟨some 103, false, none, .load false 1 (.u 102)⟩⟩,
     ⟨4, [0], false, [], ⟨some 104, false, none, .mov (.t 0)⟩⟩,
     ⟨5, [104], false, [], ⟨some 105, false, none, .nilc (.u 104)⟩⟩,
     ⟨6, [105], false, [], ⟨some 106, false, none, .iaA 4 1 (.u 105) (.c (.int .i64 1))⟩⟩,
     ⟨7, [106], true, [], ⟨some 107, false, none, .load false 1 (.u 106)⟩⟩,
     ⟨8, [103, 107], false, [], ⟨some 108, false, none, .bin .add (.u 103) (.u 107)⟩⟩,
     ⟨9, [100], false, [], ⟨some 109, false, none, .nilc (.u 100)⟩⟩,
     ⟨10, [109], false, [], ⟨some 110, false, none, .iaA 4 1 (.u 109) (.c (.int .i64 2))⟩⟩,
     ⟨11, [110, 108], false, [], ⟨none, true, none, .store 1 (.u 110) (.u 108)⟩⟩])
  (.seq (.regionD [⟨0, [0], false, [], ⟨some 111, false, none, .mov (.t 0)⟩⟩,
     ⟨1, [0], false, [], ⟨some 112, false, none, .mov (.t 0)⟩⟩,
     ⟨2, [112], false, [], ⟨some 113, false, none, .nilc (.u 112)⟩⟩,
     ⟨3, [113], false, [], ⟨some 114, false, none, .iaA 4 1 (.u 113) (.c (.int .i64 1))⟩⟩,
     ⟨4, [114], true, [], ⟨some 115, false, none, .load false 1 (.u 114)⟩⟩,
     ⟨6, [111], false, [], ⟨some 117, false, none, .nilc (.u 111)⟩⟩,
     ⟨5, [115], false, [], ⟨some 116, false, none, .call 35 [(.u 115), (.c (.int .i64 17))]⟩⟩,
     ⟨7, [117], false, [], ⟨some 118, false, none, .iaA 4 1 (.u 117) (.c (.int .i64 1))⟩⟩,
     ⟨8, [118, 116], false, [], ⟨none, true, none, .store 1 (.u 118) (.u 116)⟩⟩])
  (.seq (.regionD [⟨0, [0], false, [], ⟨some 119, false, none, .mov (.t 0)⟩⟩,
     ⟨1, [119], false, [], ⟨some 120, false, none, .nilc (.u 119)⟩⟩,
     ⟨2, [120], false, [], ⟨some 121, false, none, .iaA 4 1 (.u 120) (.c (.int .i64 1))⟩⟩,
     ⟨3, [121], true, [], ⟨some 122, false, none, .load false 1 (.u 121)⟩⟩,
     ⟨4, [0], false, [], ⟨some 123, false, none, .mov (.t 0)⟩⟩,
     ⟨5, [123], false, [], ⟨some 124, false, none, .nilc (.u 123)⟩⟩,
     ⟨6, [124], false, [], ⟨some 125, false, none, .iaA 4 1 (.u 124) (.c (.int .i64 2))⟩⟩,
     ⟨7, [125], true, [], ⟨some 126, false, none, .load false 1 (.u 125)⟩⟩,
     ⟨8, [122, 126], false, [], ⟨some 127, false, none, .bin .xor (.u 122) (.u 126)⟩⟩,
     ⟨9, [119], false, [], ⟨some 128, false, none, .nilc (.u 119)⟩⟩,
     ⟨10, [128], false, [], ⟨some 129, false, none, .iaA 4 1 (.u 128) (.c (.int .i64 1))⟩⟩,
     ⟨11, [129, 127], false, [], ⟨none, true, none, .store 1 (.u 129) (.u 127)⟩⟩])
  (.regionD [⟨0, [0], false, [], ⟨some 130, false, none, .mov (.t 0)⟩⟩,
    ⟨1, [0], false, [], ⟨some 131, false, none, .mov (.t 0)⟩⟩,
    ⟨2, [131], false, [], ⟨some 132, false, none, .nilc (.u 131)⟩⟩,
    ⟨3, [132], false, [], ⟨some 133, false, none, .iaA 4 1 (.u 132) (.c (.int .i64 2))⟩⟩,
    ⟨4, [133], true, [], ⟨some 134, false, none, .load false 1 (.u 133)⟩⟩,
    ⟨6, [130], false, [], ⟨some 136, false, none, .nilc (.u 130)⟩⟩,
    ⟨5, [134], false, [], ⟨some 135, false, none, .call 35 [(.u 134), (.c (.int .i64 32))]⟩⟩,
    ⟨7, [136], false, [], ⟨some 137, false, none, .iaA 4 1 (.u 136) (.c (.int .i64 2))⟩⟩,
    ⟨8, [137, 135], false, [], ⟨none, true, none, .store 1 (.u 137) (.u 135)⟩⟩])))))))))))))
def r33 : List LRes := []
theorem t33 : (Try.f33.body.bind (trCode v33 Try.prog Try.f33.ntmps)) = some c33 ∧ trRes v33 Try.prog Try.f33.results.toList = some r33 := ⟨by kernel_rfl, by kernel_rfl⟩

def v34 : Nat → Bool := fun t => [0, 1, 4].contains t
def c34 : LCode :=
  .seq (.region [⟨some 4, true, none, .mov (.c (.int .u64 0))⟩])
  (.seq (.regionD [⟨0, [0], false, [], ⟨some 5, false, none, .mov (.t 0)⟩⟩,
     ⟨1, [1], false, [], ⟨some 6, false, none, .mov (.t 1)⟩⟩,
     ⟨2, [5, 6], false, [], ⟨some 7, false, none, .bin .shl (.u 5) (.u 6)⟩⟩,
     ⟨3, [0], false, [], ⟨some 8, false, none, .mov (.t 0)⟩⟩,
     ⟨4, [1], false, [], ⟨some 9, false, none, .mov (.t 1)⟩⟩,
     ⟨5, [9], false, [], ⟨some 10, false, none, .bin .sub (.c (.int .i64 64)) (.u 9)⟩⟩,
     ⟨6, [8, 10], false, [], ⟨some 11, false, none, .bin .shr (.u 8) (.u 10)⟩⟩,
     ⟨7, [7, 11], false, [], ⟨some 12, false, none, .bin .or (.u 7) (.u 11)⟩⟩,
     ⟨8, [12], false, [], ⟨some 4, true, none, .mov (.u 12)⟩⟩])
  (.ret))
def r34 : List LRes := [.slot 4]
theorem t34 : (Try.f34.body.bind (trCode v34 Try.prog Try.f34.ntmps)) = some c34 ∧ trRes v34 Try.prog Try.f34.results.toList = some r34 := ⟨by kernel_rfl, by kernel_rfl⟩

def v35 : Nat → Bool := fun t => [0, 1, 4, 5].contains t
def c35 : LCode :=
  .seq (.region [⟨some 4, true, none, .mov (.c (.int .u64 0))⟩])
  (.seq (.region [⟨some 6, false, none, .mov (.t 1)⟩,
     ⟨some 7, false, none, .conv .u64 (.u 6)⟩,
     ⟨some 8, false, none, .bin .and (.u 7) (.c (.int .u64 63))⟩,
     ⟨some 5, true, none, .mov (.u 8)⟩])
  (.seq (.region [⟨some 9, false, none, .mov (.t 0)⟩,
     ⟨some 10, false, none, .mov (.t 5)⟩,
     ⟨some 11, false, none, .bin .shl (.u 9) (.u 10)⟩,
     ⟨some 12, false, none, .mov (.t 0)⟩,
     ⟨some 13, false, none, .mov (.t 5)⟩,
     ⟨some 14, false, none, .bin .sub (.c (.int .u64 64)) (.u 13)⟩,
     ⟨some 15, false, none, .bin .shr (.u 12) (.u 14)⟩,
     ⟨some 16, false, none, .bin .or (.u 11) (.u 15)⟩,
     ⟨some 4, true, none, .mov (.u 16)⟩])
  (.ret)))
def r35 : List LRes := [.slot 4]
theorem t35 : (Try.f35.body.bind (trCode v35 Try.prog Try.f35.ntmps)) = some c35 ∧ trRes v35 Try.prog Try.f35.results.toList = some r35 := ⟨by kernel_rfl, by kernel_rfl⟩


end Go.Proofs.Ytaffhdelflhlfaa
