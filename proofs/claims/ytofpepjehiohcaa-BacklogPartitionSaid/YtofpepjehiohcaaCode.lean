/- The functions' bodies as the engine reads them; written by program out of the translation, checked by the kernel. -/
import Derived.Test.YtofpepjehiohcaaProg
import Derived.Test.YtofpepjehiohcaaLxL
import Derived.KernelRfl
namespace Go.Proofs.Ytofpepjehiohcaa
open Go Go.Lx
set_option maxRecDepth 100000
def v10 : Nat → Bool := fun t => [0, 2].contains t
def c10 : LCode :=
  .seq (.region [⟨some 2, true, none, .mov (.c (.nil))⟩])
  (.seq (.region [⟨some 3, false, none, .mov (.t 0)⟩,
     ⟨some 4, false, none, .build [.fsl 1 0 [], .int .i64 0] [(0, 1, (.u 3))]⟩,
     ⟨some 5, false, none, .box (.u 4)⟩,
     ⟨some 2, true, none, .mov (.u 5)⟩])
  (.ret))
def r10 : List LRes := [.slot 2]
theorem t10 : (Try.f10.body.bind (trCode v10 Try.prog Try.f10.ntmps)) = some c10 ∧ trRes v10 Try.prog Try.f10.results.toList = some r10 := ⟨by kernel_rfl, by kernel_rfl⟩

def v11 : Nat → Bool := fun t => [0, 1, 2, 6].contains t
def c11 : LCode :=
  .seq (.region [⟨some 6, true, none, .mov (.c (.int .i64 0))⟩])
  (.seq (.region [⟨some 7, false, none, .mov (.t 1)⟩,
     ⟨some 8, false, none, .mov (.t 0)⟩,
     ⟨some 9, false, none, .mov (.t 2)⟩,
     ⟨some 10, false, none, .mov (.t 1)⟩,
     ⟨some 11, false, none, .bin .sub (.u 9) (.u 10)⟩,
     ⟨some 12, false, none, .bin .add (.u 11) (.c (.int .i64 1))⟩,
     ⟨some 13, false, none, .call 30 [(.u 8), (.u 12)]⟩,
     ⟨some 14, false, none, .bin .add (.u 7) (.u 13)⟩,
     ⟨some 6, true, none, .mov (.u 14)⟩])
  (.ret))
def r11 : List LRes := [.slot 6]
theorem t11 : (Try.f11.body.bind (trCode v11 Try.prog Try.f11.ntmps)) = some c11 ∧ trRes v11 Try.prog Try.f11.results.toList = some r11 := ⟨by kernel_rfl, by kernel_rfl⟩

def v12 : Nat → Bool := fun t => [0, 1, 4].contains t
def c12 : LCode :=
  .seq (.region [⟨some 4, true, none, .mov (.c (.int .i64 0))⟩])
  (.seq (.region [⟨some 5, false, none, .mov (.t 1)⟩,
     ⟨some 6, false, none, .mov (.t 0)⟩,
     ⟨some 7, false, none, .mov (.t 1)⟩,
     ⟨some 8, false, none, .lenL (.u 7)⟩,
     ⟨some 9, false, none, .call 30 [(.u 6), (.u 8)]⟩,
     ⟨some 10, false, none, .iaS 1 (.u 5) (.u 9)⟩,
     ⟨some 11, false, none, .load false 1 (.u 10)⟩,
     ⟨some 4, true, none, .mov (.u 11)⟩])
  (.ret))
def r12 : List LRes := [.slot 4]
theorem t12 : (Try.f12.body.bind (trCode v12 Try.prog Try.f12.ntmps)) = some c12 ∧ trRes v12 Try.prog Try.f12.results.toList = some r12 := ⟨by kernel_rfl, by kernel_rfl⟩

def v13 : Nat → Bool := fun t => [0, 1, 2, 6, 7, 12].contains t
def c13 : LCode :=
  .seq (.region [⟨some 6, true, none, .zero [.int .i64 0, .int .i64 0, .int .i64 0, .int .i64 0, .int .i64 0, .fsl 1 0 [], .fsl 1 0 [], .int .i64 0, .int .i64 0, .int .i64 0, .int .i64 0, .int .i64 0, .int .i64 0, .int .i64 0, .int .i64 0, .bool false, .fsl 1 0 []]⟩,
     ⟨some 7, true, none, .mov (.c (.int .i64 0))⟩])
  (.seq (.seq (.region [⟨some 8, false, none, .mov (.t 0)⟩,
      ⟨some 9, false, none, .mov (.t 1)⟩,
      ⟨some 10, false, none, .mov (.t 2)⟩,
      ⟨some 11, false, none, .call 34 [(.u 8), (.u 9), (.u 10)]⟩,
      ⟨some 12, true, none, .un .not (.u 11)⟩])
   (.cond (.t 12)
    (.seq (.region [⟨some 13, false, none, .build [.int .i64 0, .int .i64 0, .int .i64 0, .int .i64 0, .int .i64 0, .fsl 1 0 [], .fsl 1 0 [], .int .i64 0, .int .i64 0, .int .i64 0, .int .i64 0, .int .i64 0, .int .i64 0, .int .i64 0, .int .i64 0, .bool false, .fsl 1 0 []] []⟩,
       ⟨none, true, none, .store 17 (.t 6) (.u 13)⟩,
       ⟨some 7, true, none, .mov (.c (.int .i64 200))⟩])
    (.ret))
    (.skip)))
  (.seq (.region [⟨some 14, false, none, .mov (.t 0)⟩,
     ⟨some 15, false, none, .mov (.t 1)⟩,
     ⟨some 16, false, none, .mov (.t 2)⟩,
     ⟨some 17, false, none, .build [.int .i64 0, .int .i64 0, .int .i64 0, .int .i64 0, .int .i64 0, .fsl 1 0 [], .fsl 1 0 [], .int .i64 0, .int .i64 0, .int .i64 0, .int .i64 0, .int .i64 0, .int .i64 0, .int .i64 0, .int .i64 0, .bool false, .fsl 1 0 []] [(0, 1, (.u 14)), (1, 1, (.u 15)), (2, 1, (.u 16))]⟩,
     ⟨none, true, none, .store 17 (.t 6) (.u 17)⟩,
     ⟨some 7, true, none, .mov (.c (.int .i64 0))⟩])
  (.ret)))
def r13 : List LRes := [.cell true 17 6, .slot 7]
theorem t13 : (Try.f13.body.bind (trCode v13 Try.prog Try.f13.ntmps)) = some c13 ∧ trRes v13 Try.prog Try.f13.results.toList = some r13 := ⟨by kernel_rfl, by kernel_rfl⟩

def v14 : Nat → Bool := fun t => [0, 1, 2, 3, 6, 7, 8, 9, 10, 11, 32, 35, 41, 66, 87, 109, 129].contains t
def c14 : LCode :=
  .seq (.region [⟨some 3, true, none, .box (.t 0)⟩,
     ⟨some 6, true, none, .zero [.int .i64 0, .int .i64 0, .int .i64 0, .int .i64 0, .int .i64 0, .fsl 1 0 [], .fsl 1 0 [], .int .i64 0, .int .i64 0, .int .i64 0, .int .i64 0, .int .i64 0, .int .i64 0, .int .i64 0, .int .i64 0, .bool false, .fsl 1 0 []]⟩,
     ⟨some 7, true, none, .mov (.c (.int .i64 0))⟩,
     ⟨some 8, true, none, .mov (.c (.bool false))⟩])
  (.seq (.region [⟨some 12, false, none, .load true 17 (.t 3)⟩,
     ⟨some 13, false, none, .call 35 [(.u 12)]⟩,
     ⟨some 9, true, none, .zero [.int .i64 0, .int .i64 0, .int .i64 0, .int .i64 0, .int .i64 0, .fsl 1 0 [], .fsl 1 0 [], .int .i64 0, .int .i64 0, .int .i64 0, .int .i64 0, .int .i64 0, .int .i64 0, .int .i64 0, .int .i64 0, .bool false, .fsl 1 0 []]⟩,
     ⟨none, true, none, .store 17 (.t 9) (.u 13)⟩])
  (.seq (.seq (.region [⟨some 14, false, none, .mov (.t 2)⟩,
      ⟨some 15, false, none, .bin .lss (.u 14) (.c (.int .i64 1))⟩,
      ⟨some 16, false, none, .mov (.u 15)⟩,
      ⟨some 17, false, some ((.u 16), false), .mov (.t 2)⟩,
      ⟨some 18, false, some ((.u 16), false), .bin .gtr (.u 17) (.c (.int .i64 64))⟩,
      ⟨some 19, false, none, .pick (.u 16) (.c (.bool true)) (.u 18)⟩,
      ⟨some 20, false, none, .mov (.u 19)⟩,
      ⟨some 21, false, some ((.u 20), false), .mov (.t 1)⟩,
      ⟨some 22, false, some ((.u 20), false), .bin .lss (.u 21) (.c (.int .i64 0))⟩,
      ⟨some 23, false, none, .pick (.u 20) (.c (.bool true)) (.u 22)⟩,
      ⟨some 24, false, none, .mov (.u 23)⟩,
      ⟨some 25, false, some ((.u 24), false), .mov (.t 1)⟩,
      ⟨some 26, false, some ((.u 24), false), .bin .gtr (.u 25) (.c (.int .i64 1099511627776))⟩,
      ⟨some 27, false, none, .pick (.u 24) (.c (.bool true)) (.u 26)⟩,
      ⟨some 28, false, none, .mov (.u 27)⟩,
      ⟨some 29, false, some ((.u 28), false), .faddr 3 (.t 3)⟩,
      ⟨some 30, false, some ((.u 28), false), .load false 1 (.u 29)⟩,
      ⟨some 31, false, some ((.u 28), false), .bin .gtr (.u 30) (.c (.int .i64 1073741821))⟩,
      ⟨some 32, true, none, .pick (.u 28) (.c (.bool true)) (.u 31)⟩])
   (.cond (.t 32)
    (.seq (.region [⟨some 33, false, none, .load true 17 (.t 9)⟩,
       ⟨none, true, none, .store 17 (.t 6) (.u 33)⟩,
       ⟨some 7, true, none, .mov (.c (.int .i64 0))⟩,
       ⟨some 8, true, none, .mov (.c (.bool false))⟩])
    (.ret))
    (.skip)))
  (.seq (.region [⟨some 10, true, none, .mov (.c (.int .i64 0))⟩])
  (.seq (.seq (.region [⟨some 34, false, none, .load true 17 (.t 3)⟩,
      ⟨some 35, true, none, .call 36 [(.u 34)]⟩])
   (.cond (.t 35)
    (.region [⟨some 10, true, none, .mov (.c (.int .i64 1))⟩])
    (.skip)))
  (.seq (.region [⟨some 36, false, none, .faddr 3 (.t 3)⟩,
     ⟨some 37, false, none, .load false 1 (.u 36)⟩,
     ⟨some 38, false, none, .bin .add (.u 37) (.c (.int .i64 1))⟩,
     ⟨some 39, false, none, .mov (.t 10)⟩,
     ⟨some 40, false, none, .bin .add (.u 38) (.u 39)⟩,
     ⟨some 11, true, none, .mov (.u 40)⟩])
  (.seq (.block 0 (.seq (.region [⟨some 42, false, none, .faddr 1 (.t 3)⟩,
       ⟨some 43, false, none, .load false 1 (.u 42)⟩,
       ⟨some 44, false, none, .bin .neq (.u 43) (.c (.int .i64 0))⟩,
       ⟨some 45, false, none, .mov (.u 44)⟩,
       ⟨some 46, false, some ((.u 45), true), .mov (.t 1)⟩,
       ⟨some 47, false, some ((.u 45), true), .bin .quo (.u 46) (.c (.int .i64 1000))⟩,
       ⟨some 48, false, some ((.u 45), true), .faddr 12 (.t 3)⟩,
       ⟨some 49, false, some ((.u 45), true), .load false 1 (.u 48)⟩,
       ⟨some 50, false, some ((.u 45), true), .bin .eql (.u 47) (.u 49)⟩,
       ⟨some 51, false, none, .pick (.u 45) (.u 50) (.c (.bool false))⟩,
       ⟨some 52, false, none, .mov (.u 51)⟩,
       ⟨some 53, false, some ((.u 52), true), .faddr 13 (.t 3)⟩,
       ⟨some 54, false, some ((.u 52), true), .load false 1 (.u 53)⟩,
       ⟨some 55, false, some ((.u 52), true), .faddr 1 (.t 3)⟩,
       ⟨some 56, false, some ((.u 52), true), .load false 1 (.u 55)⟩,
       ⟨some 57, false, some ((.u 52), true), .bin .geq (.u 54) (.u 56)⟩,
       ⟨some 58, false, none, .pick (.u 52) (.u 57) (.c (.bool false))⟩,
       ⟨some 41, true, none, .mov (.u 58)⟩])
    (.cond (.t 41)
     (.seq (.region [⟨some 59, false, none, .mov (.t 1)⟩,
        ⟨some 60, false, none, .faddr 7 (.t 9)⟩,
        ⟨some 61, false, none, .faddr 2 (.u 60)⟩,
        ⟨some 62, false, none, .call 37 [(.t 9), (.u 59), (.u 61)]⟩])
     (.seq (.regionD [⟨0, [9], true, [], ⟨some 63, false, none, .load true 17 (.t 9)⟩⟩,
        ⟨1, [9], false, [], ⟨some 64, false, none, .faddr 3 (.t 9)⟩⟩,
        ⟨2, [64], true, [], ⟨some 65, false, none, .load false 1 (.u 64)⟩⟩,
        ⟨3, [6, 63], false, [2], ⟨none, true, none, .store 17 (.t 6) (.u 63)⟩⟩,
        ⟨4, [65], false, [], ⟨some 7, true, none, .mov (.u 65)⟩⟩,
        ⟨5, [], false, [], ⟨some 8, true, none, .mov (.c (.bool false))⟩⟩])
     (.ret)))
     (.seq (.region [⟨some 67, false, none, .faddr 6 (.t 3)⟩,
        ⟨some 68, false, none, .load false 1 (.u 67)⟩,
        ⟨some 69, false, none, .lenL (.u 68)⟩,
        ⟨some 70, false, none, .faddr 4 (.t 3)⟩,
        ⟨some 71, false, none, .load false 1 (.u 70)⟩,
        ⟨some 72, false, none, .bin .add (.u 69) (.u 71)⟩,
        ⟨some 73, false, none, .mov (.t 2)⟩,
        ⟨some 74, false, none, .bin .add (.u 72) (.u 73)⟩,
        ⟨some 75, false, none, .mov (.t 10)⟩,
        ⟨some 76, false, none, .bin .add (.u 74) (.u 75)⟩,
        ⟨some 77, false, none, .faddr 0 (.t 3)⟩,
        ⟨some 78, false, none, .load false 1 (.u 77)⟩,
        ⟨some 79, false, none, .bin .gtr (.u 76) (.u 78)⟩,
        ⟨some 66, true, none, .mov (.u 79)⟩])
     (.cond (.t 66)
      (.seq (.region [⟨some 80, false, none, .mov (.t 1)⟩,
         ⟨some 81, false, none, .faddr 7 (.t 9)⟩,
         ⟨some 82, false, none, .faddr 3 (.u 81)⟩,
         ⟨some 83, false, none, .call 37 [(.t 9), (.u 80), (.u 82)]⟩])
      (.seq (.regionD [⟨0, [9], true, [], ⟨some 84, false, none, .load true 17 (.t 9)⟩⟩,
         ⟨1, [9], false, [], ⟨some 85, false, none, .faddr 3 (.t 9)⟩⟩,
         ⟨2, [85], true, [], ⟨some 86, false, none, .load false 1 (.u 85)⟩⟩,
         ⟨3, [6, 84], false, [2], ⟨none, true, none, .store 17 (.t 6) (.u 84)⟩⟩,
         ⟨4, [86], false, [], ⟨some 7, true, none, .mov (.u 86)⟩⟩,
         ⟨5, [], false, [], ⟨some 8, true, none, .mov (.c (.bool false))⟩⟩])
      (.ret)))
      (.seq (.region [⟨some 88, false, none, .faddr 5 (.t 3)⟩,
         ⟨some 89, false, none, .load false 1 (.u 88)⟩,
         ⟨some 90, false, none, .lenL (.u 89)⟩,
         ⟨some 91, false, none, .bin .gtr (.u 90) (.c (.int .i64 0))⟩,
         ⟨some 92, false, none, .mov (.u 91)⟩,
         ⟨some 93, false, some ((.u 92), true), .mov (.t 11)⟩,
         ⟨some 94, false, some ((.u 92), true), .faddr 5 (.t 3)⟩,
         ⟨some 95, false, some ((.u 92), true), .load false 1 (.u 94)⟩,
         ⟨some 96, false, some ((.u 92), true), .iaS 1 (.u 95) (.c (.int .i64 0))⟩,
         ⟨some 97, false, some ((.u 92), true), .load false 1 (.u 96)⟩,
         ⟨some 98, false, some ((.u 92), true), .bin .sub (.u 93) (.u 97)⟩,
         ⟨some 99, false, some ((.u 92), true), .bin .geq (.u 98) (.c (.int .i64 64))⟩,
         ⟨some 100, false, none, .pick (.u 92) (.u 99) (.c (.bool false))⟩,
         ⟨some 87, true, none, .mov (.u 100)⟩])
      (.cond (.t 87)
       (.seq (.region [⟨some 101, false, none, .mov (.t 1)⟩,
          ⟨some 102, false, none, .faddr 7 (.t 9)⟩,
          ⟨some 103, false, none, .faddr 4 (.u 102)⟩,
          ⟨some 104, false, none, .call 37 [(.t 9), (.u 101), (.u 103)]⟩])
       (.seq (.regionD [⟨0, [9], true, [], ⟨some 105, false, none, .load true 17 (.t 9)⟩⟩,
          ⟨1, [9], false, [], ⟨some 106, false, none, .faddr 3 (.t 9)⟩⟩,
          ⟨2, [106], true, [], ⟨some 107, false, none, .load false 1 (.u 106)⟩⟩,
          ⟨3, [6, 105], false, [2], ⟨none, true, none, .store 17 (.t 6) (.u 105)⟩⟩,
          ⟨4, [107], false, [], ⟨some 7, true, none, .mov (.u 107)⟩⟩,
          ⟨5, [], false, [], ⟨some 8, true, none, .mov (.c (.bool false))⟩⟩])
       (.ret)))
       (.skip))))))))
  (.seq (.seq (.region [⟨some 108, false, none, .mov (.t 10)⟩,
      ⟨some 109, true, none, .bin .eql (.u 108) (.c (.int .i64 1))⟩])
   (.cond (.t 109)
    (.region [⟨some 110, false, none, .mov (.t 1)⟩,
      ⟨some 111, false, none, .call 38 [(.t 9), (.u 110)]⟩])
    (.skip)))
  (.seq (.region [⟨some 112, false, none, .mov (.t 11)⟩,
     ⟨some 113, false, none, .faddr 3 (.t 9)⟩,
     ⟨none, true, none, .store 1 (.u 113) (.u 112)⟩])
  (.seq (.region [⟨some 114, false, none, .faddr 4 (.t 9)⟩,
     ⟨some 115, false, none, .load false 1 (.u 114)⟩,
     ⟨some 116, false, none, .mov (.t 2)⟩,
     ⟨some 117, false, none, .bin .add (.u 115) (.u 116)⟩,
     ⟨some 118, false, none, .faddr 4 (.t 9)⟩,
     ⟨none, true, none, .store 1 (.u 118) (.u 117)⟩])
  (.seq (.region [⟨some 119, false, none, .faddr 5 (.t 9)⟩,
     ⟨some 120, false, none, .load false 1 (.u 119)⟩,
     ⟨some 121, false, none, .mov (.t 11)⟩,
     ⟨some 122, false, none, .mkS 1 1 [.int .i64 0] [(0, 1, (.u 121))]⟩,
     ⟨some 123, false, none, .app 1 8 (.u 120) (.u 122)⟩,
     ⟨some 124, false, none, .faddr 5 (.t 9)⟩,
     ⟨none, true, none, .store 1 (.u 124) (.u 123)⟩])
  (.seq (.seq (.region [⟨some 125, false, none, .mov (.t 1)⟩,
      ⟨some 126, false, none, .bin .quo (.u 125) (.c (.int .i64 1000))⟩,
      ⟨some 127, false, none, .faddr 12 (.t 9)⟩,
      ⟨some 128, false, none, .load false 1 (.u 127)⟩,
      ⟨some 129, true, none, .bin .neq (.u 126) (.u 128)⟩])
   (.cond (.t 129)
    (.region [⟨some 130, false, none, .mov (.t 1)⟩,
      ⟨some 131, false, none, .bin .quo (.u 130) (.c (.int .i64 1000))⟩,
      ⟨some 132, false, none, .faddr 12 (.t 9)⟩,
      ⟨none, true, none, .store 1 (.u 132) (.u 131)⟩,
      ⟨some 133, false, none, .faddr 13 (.t 9)⟩,
      ⟨none, true, none, .store 1 (.u 133) (.c (.int .i64 0))⟩])
    (.skip)))
  (.seq (.region [⟨some 134, false, none, .faddr 13 (.t 9)⟩,
     ⟨some 135, false, none, .load false 1 (.u 134)⟩,
     ⟨some 136, false, none, .bin .add (.u 135) (.c (.int .i64 1))⟩,
     ⟨some 137, false, none, .faddr 13 (.t 9)⟩,
     ⟨none, true, none, .store 1 (.u 137) (.u 136)⟩])
  (.seq (.region [⟨some 138, false, none, .load true 17 (.t 9)⟩,
     ⟨some 139, false, none, .mov (.t 11)⟩,
     ⟨none, true, none, .store 17 (.t 6) (.u 138)⟩,
     ⟨some 7, true, none, .mov (.u 139)⟩,
     ⟨some 8, true, none, .mov (.c (.bool true))⟩])
  (.ret))))))))))))))
def r14 : List LRes := [.cell true 17 6, .slot 7, .slot 8]
theorem t14 : (Try.f14.body.bind (trCode v14 Try.prog Try.f14.ntmps)) = some c14 ∧ trRes v14 Try.prog Try.f14.results.toList = some r14 := ⟨by kernel_rfl, by kernel_rfl⟩

def v15 : Nat → Bool := fun t => [0, 1, 2, 6, 7].contains t
def c15 : LCode :=
  .seq (.region [⟨some 6, true, none, .zero [.int .i64 0, .int .i64 0, .int .i64 0, .int .i64 0, .int .i64 0, .fsl 1 0 [], .fsl 1 0 [], .int .i64 0, .int .i64 0, .int .i64 0, .int .i64 0, .int .i64 0, .int .i64 0, .int .i64 0, .int .i64 0, .bool false, .fsl 1 0 []]⟩,
     ⟨some 7, true, none, .mov (.c (.int .i64 0))⟩])
  (.seq (.region [⟨some 8, false, none, .build [.int .i64 0, .int .i64 0, .int .i64 0, .int .i64 0, .int .i64 0, .fsl 1 0 [], .fsl 1 0 [], .int .i64 0, .int .i64 0, .int .i64 0, .int .i64 0, .int .i64 0, .int .i64 0, .int .i64 0, .int .i64 0, .bool false, .fsl 1 0 []] []⟩,
     ⟨some 9, false, none, .mov (.t 0)⟩,
     ⟨some 10, false, none, .mov (.t 1)⟩,
     ⟨some 11, false, none, .mov (.t 2)⟩,
     ⟨some 12, false, none, .call 16 [(.u 8), (.u 9), (.u 10), (.u 11)]⟩,
     ⟨some 13, false, none, .ext (.u 12) 0⟩,
     ⟨some 14, false, none, .ext (.u 12) 1⟩,
     ⟨none, true, none, .store 17 (.t 6) (.u 13)⟩,
     ⟨some 7, true, none, .mov (.u 14)⟩])
  (.ret))
def r15 : List LRes := [.cell true 17 6, .slot 7]
theorem t15 : (Try.f15.body.bind (trCode v15 Try.prog Try.f15.ntmps)) = some c15 ∧ trRes v15 Try.prog Try.f15.results.toList = some r15 := ⟨by kernel_rfl, by kernel_rfl⟩

def v16 : Nat → Bool := fun t => [0, 1, 2, 3, 4, 8, 9, 31].contains t
def c16 : LCode :=
  .seq (.region [⟨some 4, true, none, .box (.t 0)⟩,
     ⟨some 8, true, none, .zero [.int .i64 0, .int .i64 0, .int .i64 0, .int .i64 0, .int .i64 0, .fsl 1 0 [], .fsl 1 0 [], .int .i64 0, .int .i64 0, .int .i64 0, .int .i64 0, .int .i64 0, .int .i64 0, .int .i64 0, .int .i64 0, .bool false, .fsl 1 0 []]⟩,
     ⟨some 9, true, none, .mov (.c (.int .i64 0))⟩])
  (.seq (.seq (.region [⟨some 10, false, none, .mov (.t 1)⟩,
      ⟨some 11, false, none, .bin .lss (.u 10) (.c (.int .i64 1))⟩,
      ⟨some 12, false, none, .mov (.u 11)⟩,
      ⟨some 13, false, some ((.u 12), false), .mov (.t 1)⟩,
      ⟨some 14, false, some ((.u 12), false), .bin .gtr (.u 13) (.c (.int .i64 64))⟩,
      ⟨some 15, false, none, .pick (.u 12) (.c (.bool true)) (.u 14)⟩,
      ⟨some 16, false, none, .mov (.u 15)⟩,
      ⟨some 17, false, some ((.u 16), false), .mov (.t 2)⟩,
      ⟨some 18, false, some ((.u 16), false), .bin .lss (.u 17) (.c (.int .i64 0))⟩,
      ⟨some 19, false, none, .pick (.u 16) (.c (.bool true)) (.u 18)⟩,
      ⟨some 20, false, none, .mov (.u 19)⟩,
      ⟨some 21, false, some ((.u 20), false), .mov (.t 2)⟩,
      ⟨some 22, false, some ((.u 20), false), .bin .gtr (.u 21) (.c (.int .i64 1000))⟩,
      ⟨some 23, false, none, .pick (.u 20) (.c (.bool true)) (.u 22)⟩,
      ⟨some 24, false, none, .mov (.u 23)⟩,
      ⟨some 25, false, some ((.u 24), false), .mov (.t 3)⟩,
      ⟨some 26, false, some ((.u 24), false), .bin .lss (.u 25) (.c (.int .i64 1))⟩,
      ⟨some 27, false, none, .pick (.u 24) (.c (.bool true)) (.u 26)⟩,
      ⟨some 28, false, none, .mov (.u 27)⟩,
      ⟨some 29, false, some ((.u 28), false), .mov (.t 3)⟩,
      ⟨some 30, false, some ((.u 28), false), .bin .gtr (.u 29) (.c (.int .i64 3))⟩,
      ⟨some 31, true, none, .pick (.u 28) (.c (.bool true)) (.u 30)⟩])
   (.cond (.t 31)
    (.seq (.region [⟨some 32, false, none, .build [.int .i64 0, .int .i64 0, .int .i64 0, .int .i64 0, .int .i64 0, .fsl 1 0 [], .fsl 1 0 [], .int .i64 0, .int .i64 0, .int .i64 0, .int .i64 0, .int .i64 0, .int .i64 0, .int .i64 0, .int .i64 0, .bool false, .fsl 1 0 []] []⟩,
       ⟨none, true, none, .store 17 (.t 8) (.u 32)⟩,
       ⟨some 9, true, none, .mov (.c (.int .i64 200))⟩])
    (.ret))
    (.skip)))
  (.seq (.region [⟨some 33, false, none, .load true 17 (.t 4)⟩,
     ⟨some 34, false, none, .call 39 [(.u 33)]⟩,
     ⟨none, true, none, .store 17 (.t 4) (.u 34)⟩])
  (.seq (.region [⟨some 35, false, none, .mov (.t 1)⟩,
     ⟨some 36, false, none, .mov (.t 2)⟩,
     ⟨some 37, false, none, .mov (.t 3)⟩,
     ⟨some 38, false, none, .faddr 0 (.t 4)⟩,
     ⟨none, true, none, .store 1 (.u 38) (.u 35)⟩,
     ⟨some 39, false, none, .faddr 1 (.t 4)⟩,
     ⟨none, true, none, .store 1 (.u 39) (.u 36)⟩,
     ⟨some 40, false, none, .faddr 2 (.t 4)⟩,
     ⟨none, true, none, .store 1 (.u 40) (.u 37)⟩])
  (.seq (.region [⟨some 41, false, none, .load true 17 (.t 4)⟩,
     ⟨none, true, none, .store 17 (.t 8) (.u 41)⟩,
     ⟨some 9, true, none, .mov (.c (.int .i64 0))⟩])
  (.ret)))))
def r16 : List LRes := [.cell true 17 8, .slot 9]
theorem t16 : (Try.f16.body.bind (trCode v16 Try.prog Try.f16.ntmps)) = some c16 ∧ trRes v16 Try.prog Try.f16.results.toList = some r16 := ⟨by kernel_rfl, by kernel_rfl⟩

def v17 : Nat → Bool := fun t => [0, 1, 2, 3, 4, 8, 9, 10, 15].contains t
def c17 : LCode :=
  .seq (.region [⟨some 4, true, none, .box (.t 0)⟩,
     ⟨some 8, true, none, .zero [.int .i64 0, .int .i64 0, .int .i64 0, .int .i64 0, .int .i64 0, .fsl 1 0 [], .fsl 1 0 [], .int .i64 0, .int .i64 0, .int .i64 0, .int .i64 0, .int .i64 0, .int .i64 0, .int .i64 0, .int .i64 0, .bool false, .fsl 1 0 []]⟩,
     ⟨some 9, true, none, .mov (.c (.int .i64 0))⟩])
  (.seq (.seq (.region [⟨some 11, false, none, .mov (.t 1)⟩,
      ⟨some 12, false, none, .mov (.t 2)⟩,
      ⟨some 13, false, none, .mov (.t 3)⟩,
      ⟨some 14, false, none, .call 34 [(.u 11), (.u 12), (.u 13)]⟩,
      ⟨some 15, true, none, .un .not (.u 14)⟩])
   (.cond (.t 15)
    (.seq (.region [⟨some 16, false, none, .build [.int .i64 0, .int .i64 0, .int .i64 0, .int .i64 0, .int .i64 0, .fsl 1 0 [], .fsl 1 0 [], .int .i64 0, .int .i64 0, .int .i64 0, .int .i64 0, .int .i64 0, .int .i64 0, .int .i64 0, .int .i64 0, .bool false, .fsl 1 0 []] []⟩,
       ⟨none, true, none, .store 17 (.t 8) (.u 16)⟩,
       ⟨some 9, true, none, .mov (.c (.int .i64 200))⟩])
    (.ret))
    (.skip)))
  (.seq (.region [⟨some 17, false, none, .load true 17 (.t 4)⟩,
     ⟨some 18, false, none, .call 35 [(.u 17)]⟩,
     ⟨some 10, true, none, .zero [.int .i64 0, .int .i64 0, .int .i64 0, .int .i64 0, .int .i64 0, .fsl 1 0 [], .fsl 1 0 [], .int .i64 0, .int .i64 0, .int .i64 0, .int .i64 0, .int .i64 0, .int .i64 0, .int .i64 0, .int .i64 0, .bool false, .fsl 1 0 []]⟩,
     ⟨none, true, none, .store 17 (.t 10) (.u 18)⟩])
  (.seq (.region [⟨some 19, false, none, .mov (.t 1)⟩,
     ⟨some 20, false, none, .mov (.t 2)⟩,
     ⟨some 21, false, none, .mov (.t 3)⟩,
     ⟨some 22, false, none, .faddr 0 (.t 10)⟩,
     ⟨none, true, none, .store 1 (.u 22) (.u 19)⟩,
     ⟨some 23, false, none, .faddr 1 (.t 10)⟩,
     ⟨none, true, none, .store 1 (.u 23) (.u 20)⟩,
     ⟨some 24, false, none, .faddr 2 (.t 10)⟩,
     ⟨none, true, none, .store 1 (.u 24) (.u 21)⟩])
  (.seq (.region [⟨some 25, false, none, .load true 17 (.t 10)⟩,
     ⟨none, true, none, .store 17 (.t 8) (.u 25)⟩,
     ⟨some 9, true, none, .mov (.c (.int .i64 0))⟩])
  (.ret)))))
def r17 : List LRes := [.cell true 17 8, .slot 9]
theorem t17 : (Try.f17.body.bind (trCode v17 Try.prog Try.f17.ntmps)) = some c17 ∧ trRes v17 Try.prog Try.f17.results.toList = some r17 := ⟨by kernel_rfl, by kernel_rfl⟩

def v18 : Nat → Bool := fun t => [0, 1, 2, 3, 4].contains t
def c18 : LCode :=
  .seq (.region [⟨some 2, true, none, .box (.t 0)⟩,
     ⟨some 3, true, none, .box (.t 1)⟩,
     ⟨some 4, true, none, .mov (.c (.bool false))⟩])
  (.seq (.region [⟨some 5, false, none, .faddr 0 (.t 2)⟩,
     ⟨some 6, false, none, .load false 1 (.u 5)⟩,
     ⟨some 7, false, none, .faddr 0 (.t 3)⟩,
     ⟨some 8, false, none, .load false 1 (.u 7)⟩,
     ⟨some 9, false, none, .bin .eql (.u 6) (.u 8)⟩,
     ⟨some 10, false, none, .mov (.u 9)⟩,
     ⟨some 11, false, some ((.u 10), true), .faddr 1 (.t 2)⟩,
     ⟨some 12, false, some ((.u 10), true), .load false 1 (.u 11)⟩,
     ⟨some 13, false, some ((.u 10), true), .faddr 1 (.t 3)⟩,
     ⟨some 14, false, some ((.u 10), true), .load false 1 (.u 13)⟩,
     ⟨some 15, false, some ((.u 10), true), .bin .eql (.u 12) (.u 14)⟩,
     ⟨some 16, false, none, .pick (.u 10) (.u 15) (.c (.bool false))⟩,
     ⟨some 17, false, none, .mov (.u 16)⟩,
     ⟨some 18, false, some ((.u 17), true), .faddr 2 (.t 2)⟩,
     ⟨some 19, false, some ((.u 17), true), .load false 1 (.u 18)⟩,
     ⟨some 20, false, some ((.u 17), true), .faddr 2 (.t 3)⟩,
     ⟨some 21, false, some ((.u 17), true), .load false 1 (.u 20)⟩,
     ⟨some 22, false, some ((.u 17), true), .bin .eql (.u 19) (.u 21)⟩,
     ⟨some 23, false, none, .pick (.u 17) (.u 22) (.c (.bool false))⟩,
     ⟨some 24, false, none, .mov (.u 23)⟩,
     ⟨some 25, false, some ((.u 24), true), .faddr 3 (.t 2)⟩,
     ⟨some 26, false, some ((.u 24), true), .load false 1 (.u 25)⟩,
     ⟨some 27, false, some ((.u 24), true), .faddr 3 (.t 3)⟩,
     ⟨some 28, false, some ((.u 24), true), .load false 1 (.u 27)⟩,
     ⟨some 29, false, some ((.u 24), true), .bin .eql (.u 26) (.u 28)⟩,
     ⟨some 30, false, none, .pick (.u 24) (.u 29) (.c (.bool false))⟩,
     ⟨some 31, false, none, .mov (.u 30)⟩,
     ⟨some 32, false, some ((.u 31), true), .faddr 4 (.t 2)⟩,
     ⟨some 33, false, some ((.u 31), true), .load false 1 (.u 32)⟩,
     ⟨some 34, false, some ((.u 31), true), .faddr 4 (.t 3)⟩,
     ⟨some 35, false, some ((.u 31), true), .load false 1 (.u 34)⟩,
     ⟨some 36, false, some ((.u 31), true), .bin .eql (.u 33) (.u 35)⟩,
     ⟨some 37, false, none, .pick (.u 31) (.u 36) (.c (.bool false))⟩,
     ⟨some 38, false, none, .mov (.u 37)⟩,
     ⟨some 39, false, some ((.u 38), true), .faddr 5 (.t 2)⟩,
     ⟨some 40, false, some ((.u 38), true), .load false 1 (.u 39)⟩,
     ⟨some 41, false, some ((.u 38), true), .faddr 5 (.t 3)⟩,
     ⟨some 42, false, some ((.u 38), true), .load false 1 (.u 41)⟩,
     ⟨some 43, false, some ((.u 38), true), .call 40 [(.u 40), (.u 42)]⟩,
     ⟨some 44, false, none, .pick (.u 38) (.u 43) (.c (.bool false))⟩,
     ⟨some 45, false, none, .mov (.u 44)⟩,
     ⟨some 46, false, some ((.u 45), true), .faddr 6 (.t 2)⟩,
     ⟨some 47, false, some ((.u 45), true), .load false 1 (.u 46)⟩,
     ⟨some 48, false, some ((.u 45), true), .faddr 6 (.t 3)⟩,
     ⟨some 49, false, some ((.u 45), true), .load false 1 (.u 48)⟩,
     ⟨some 50, false, some ((.u 45), true), .call 41 [(.u 47), (.u 49)]⟩,
     ⟨some 51, false, none, .pick (.u 45) (.u 50) (.c (.bool false))⟩,
     ⟨some 52, false, none, .mov (.u 51)⟩,
     ⟨some 53, false, some ((.u 52), true), .faddr 7 (.t 2)⟩,
     ⟨some 54, false, some ((.u 52), true), .load true 5 (.u 53)⟩,
     ⟨some 55, false, some ((.u 52), true), .faddr 7 (.t 3)⟩,
     ⟨some 56, false, some ((.u 52), true), .load true 5 (.u 55)⟩,
     ⟨some 57, false, some ((.u 52), true), .eqS false 5 [(0, 1), (1, 1), (2, 1), (3, 1), (4, 1)] (.u 54) (.u 56)⟩,
     ⟨some 58, false, none, .pick (.u 52) (.u 57) (.c (.bool false))⟩,
     ⟨some 59, false, none, .mov (.u 58)⟩,
     ⟨some 60, false, some ((.u 59), true), .faddr 12 (.t 2)⟩,
     ⟨some 61, false, some ((.u 59), true), .load false 1 (.u 60)⟩,
     ⟨some 62, false, some ((.u 59), true), .faddr 12 (.t 3)⟩,
     ⟨some 63, false, some ((.u 59), true), .load false 1 (.u 62)⟩,
     ⟨some 64, false, some ((.u 59), true), .bin .eql (.u 61) (.u 63)⟩,
     ⟨some 65, false, none, .pick (.u 59) (.u 64) (.c (.bool false))⟩,
     ⟨some 66, false, none, .mov (.u 65)⟩,
     ⟨some 67, false, some ((.u 66), true), .faddr 13 (.t 2)⟩,
     ⟨some 68, false, some ((.u 66), true), .load false 1 (.u 67)⟩,
     ⟨some 69, false, some ((.u 66), true), .faddr 13 (.t 3)⟩,
     ⟨some 70, false, some ((.u 66), true), .load false 1 (.u 69)⟩,
     ⟨some 71, false, some ((.u 66), true), .bin .eql (.u 68) (.u 70)⟩,
     ⟨some 72, false, none, .pick (.u 66) (.u 71) (.c (.bool false))⟩,
     ⟨some 73, false, none, .mov (.u 72)⟩,
     ⟨some 74, false, some ((.u 73), true), .faddr 14 (.t 2)⟩,
     ⟨some 75, false, some ((.u 73), true), .load false 1 (.u 74)⟩,
     ⟨some 76, false, some ((.u 73), true), .faddr 14 (.t 3)⟩,
     ⟨some 77, false, some ((.u 73), true), .load false 1 (.u 76)⟩,
     ⟨some 78, false, some ((.u 73), true), .bin .eql (.u 75) (.u 77)⟩,
     ⟨some 79, false, none, .pick (.u 73) (.u 78) (.c (.bool false))⟩,
     ⟨some 80, false, none, .mov (.u 79)⟩,
     ⟨some 81, false, some ((.u 80), true), .faddr 15 (.t 2)⟩,
     ⟨some 82, false, some ((.u 80), true), .load false 1 (.u 81)⟩,
     ⟨some 83, false, some ((.u 80), true), .faddr 15 (.t 3)⟩,
     ⟨some 84, false, some ((.u 80), true), .load false 1 (.u 83)⟩,
     ⟨some 85, false, some ((.u 80), true), .eqB false (.u 82) (.u 84)⟩,
     ⟨some 86, false, none, .pick (.u 80) (.u 85) (.c (.bool false))⟩,
     ⟨some 87, false, none, .mov (.u 86)⟩,
     ⟨some 88, false, some ((.u 87), true), .faddr 16 (.t 2)⟩,
     ⟨some 89, false, some ((.u 87), true), .load false 1 (.u 88)⟩,
     ⟨some 90, false, some ((.u 87), true), .faddr 16 (.t 3)⟩,
     ⟨some 91, false, some ((.u 87), true), .load false 1 (.u 90)⟩,
     ⟨some 92, false, some ((.u 87), true), .call 42 [(.u 89), (.u 91)]⟩,
     ⟨some 93, false, none, .pick (.u 87) (.u 92) (.c (.bool false))⟩,
     ⟨some 4, true, none, .mov (.u 93)⟩])
  (.ret))
def r18 : List LRes := [.slot 4]
theorem t18 : (Try.f18.body.bind (trCode v18 Try.prog Try.f18.ntmps)) = some c18 ∧ trRes v18 Try.prog Try.f18.results.toList = some r18 := ⟨by kernel_rfl, by kernel_rfl⟩

def v19 : Nat → Bool := fun t => [0, 1, 2, 3, 4, 5, 6].contains t
def c19 : LCode :=
  .seq (.region [⟨some 0, true, none, .mov (.c (.bool false))⟩])
  (.seq (.region [⟨some 8, false, none, .call 15 [(.c (.int .i64 4)), (.c (.int .i64 0)), (.c (.int .i64 1))]⟩,
     ⟨some 7, false, none, .mov (.u 8)⟩,
     ⟨some 9, false, none, .ext (.u 7) 0⟩,
     ⟨some 10, false, none, .ext (.u 7) 1⟩,
     ⟨some 1, true, none, .zero [.int .i64 0, .int .i64 0, .int .i64 0, .int .i64 0, .int .i64 0, .fsl 1 0 [], .fsl 1 0 [], .int .i64 0, .int .i64 0, .int .i64 0, .int .i64 0, .int .i64 0, .int .i64 0, .int .i64 0, .int .i64 0, .bool false, .fsl 1 0 []]⟩,
     ⟨none, true, none, .store 17 (.t 1) (.u 9)⟩,
     ⟨some 2, true, none, .mov (.u 10)⟩])
  (.seq (.region [⟨some 12, false, none, .load true 17 (.t 1)⟩,
     ⟨some 13, false, none, .call 24 [(.u 12), (.c (.int .i64 0)), (.c (.int .i64 4))]⟩,
     ⟨some 11, false, none, .mov (.u 13)⟩,
     ⟨some 14, false, none, .ext (.u 11) 0⟩,
     ⟨some 15, false, none, .ext (.u 11) 1⟩,
     ⟨some 16, false, none, .ext (.u 11) 2⟩,
     ⟨none, true, none, .store 17 (.t 1) (.u 14)⟩,
     ⟨some 3, true, none, .mov (.u 15)⟩,
     ⟨some 4, true, none, .mov (.u 16)⟩])
  (.seq (.region [⟨some 18, false, none, .load true 17 (.t 1)⟩,
     ⟨some 19, false, none, .call 24 [(.u 18), (.c (.int .i64 0)), (.c (.int .i64 1))]⟩,
     ⟨some 17, false, none, .mov (.u 19)⟩,
     ⟨some 20, false, none, .ext (.u 17) 0⟩,
     ⟨some 21, false, none, .ext (.u 17) 1⟩,
     ⟨some 22, false, none, .ext (.u 17) 2⟩,
     ⟨none, true, none, .store 17 (.t 1) (.u 20)⟩,
     ⟨some 5, true, none, .mov (.u 21)⟩,
     ⟨some 6, true, none, .mov (.u 22)⟩])
  (.seq (.region [⟨some 23, false, none, .mov (.t 2)⟩,
     ⟨some 24, false, none, .bin .eql (.u 23) (.c (.int .i64 0))⟩,
     ⟨some 25, false, none, .mov (.u 24)⟩,
     ⟨some 26, false, some ((.u 25), true), .mov (.t 4)⟩,
     ⟨some 27, false, none, .pick (.u 25) (.u 26) (.c (.bool false))⟩,
     ⟨some 28, false, none, .mov (.u 27)⟩,
     ⟨some 29, false, some ((.u 28), true), .mov (.t 3)⟩,
     ⟨some 30, false, some ((.u 28), true), .bin .eql (.u 29) (.c (.int .i64 1))⟩,
     ⟨some 31, false, none, .pick (.u 28) (.u 30) (.c (.bool false))⟩,
     ⟨some 32, false, none, .mov (.u 31)⟩,
     ⟨some 33, false, some ((.u 32), true), .mov (.t 6)⟩,
     ⟨some 34, false, some ((.u 32), true), .un .not (.u 33)⟩,
     ⟨some 35, false, none, .pick (.u 32) (.u 34) (.c (.bool false))⟩,
     ⟨some 36, false, none, .mov (.u 35)⟩,
     ⟨some 37, false, some ((.u 36), true), .mov (.t 5)⟩,
     ⟨some 38, false, some ((.u 36), true), .bin .eql (.u 37) (.c (.int .i64 2))⟩,
     ⟨some 39, false, none, .pick (.u 36) (.u 38) (.c (.bool false))⟩,
     ⟨some 40, false, none, .mov (.u 39)⟩,
     ⟨some 41, false, some ((.u 40), true), .faddr 7 (.t 1)⟩,
     ⟨some 42, false, some ((.u 40), true), .faddr 0 (.u 41)⟩,
     ⟨some 43, false, some ((.u 40), true), .load false 1 (.u 42)⟩,
     ⟨some 44, false, some ((.u 40), true), .bin .eql (.u 43) (.c (.int .i64 2))⟩,
     ⟨some 45, false, none, .pick (.u 40) (.u 44) (.c (.bool false))⟩,
     ⟨some 46, false, none, .mov (.u 45)⟩,
     ⟨some 47, false, some ((.u 46), true), .faddr 7 (.t 1)⟩,
     ⟨some 48, false, some ((.u 46), true), .faddr 3 (.u 47)⟩,
     ⟨some 49, false, some ((.u 46), true), .load false 1 (.u 48)⟩,
     ⟨some 50, false, some ((.u 46), true), .bin .eql (.u 49) (.c (.int .i64 1))⟩,
     ⟨some 51, false, none, .pick (.u 46) (.u 50) (.c (.bool false))⟩,
     ⟨some 52, false, none, .mov (.u 51)⟩,
     ⟨some 53, false, some ((.u 52), true), .faddr 4 (.t 1)⟩,
     ⟨some 54, false, some ((.u 52), true), .load false 1 (.u 53)⟩,
     ⟨some 55, false, some ((.u 52), true), .bin .eql (.u 54) (.c (.int .i64 4))⟩,
     ⟨some 56, false, none, .pick (.u 52) (.u 55) (.c (.bool false))⟩,
     ⟨some 0, true, none, .mov (.u 56)⟩])
  (.ret)))))
def r19 : List LRes := [.slot 0]
theorem t19 : (Try.f19.body.bind (trCode v19 Try.prog Try.f19.ntmps)) = some c19 ∧ trRes v19 Try.prog Try.f19.results.toList = some r19 := ⟨by kernel_rfl, by kernel_rfl⟩

def v20 : Nat → Bool := fun t => [0, 2, 3, 4, 5, 6].contains t
def c20 : LCode :=
  .seq (.region [⟨some 2, true, none, .mov (.c (.nil))⟩])
  (.seq (.region [⟨some 7, false, none, .build [.int .i64 0, .int .i64 0, .int .i64 0, .int .i64 0, .int .i64 0, .fsl 1 0 [], .fsl 1 0 [], .int .i64 0, .int .i64 0, .int .i64 0, .int .i64 0, .int .i64 0, .int .i64 0, .int .i64 0, .int .i64 0, .bool false, .fsl 1 0 [], .int .i64 0, .int .i64 0, .int .i64 0, .int .i64 0, .int .i64 0, .fsl 1 0 [], .fsl 1 0 [], .int .i64 0, .int .i64 0, .int .i64 0, .int .i64 0, .int .i64 0, .int .i64 0, .int .i64 0, .int .i64 0, .bool false, .fsl 1 0 [], .fsl 1 0 [], .int .i64 0, .fsl 1 0 [], .fsl 1 0 []] []⟩,
     ⟨some 8, false, none, .box (.u 7)⟩,
     ⟨some 3, true, none, .mov (.u 8)⟩])
  (.seq (.region [⟨some 9, false, none, .mov (.t 0)⟩,
     ⟨some 10, false, none, .mkS 1 7 [.int .i64 0] [(0, 1, (.c (.int .i64 64))), (1, 1, (.c (.int .i64 64))), (2, 1, (.c (.int .i64 20))), (3, 1, (.c (.int .i64 8))), (4, 1, (.c (.int .i64 5))), (5, 1, (.c (.int .i64 1))), (6, 1, (.c (.int .i64 3)))]⟩,
     ⟨some 11, false, none, .call 12 [(.u 9), (.u 10)]⟩,
     ⟨some 12, false, none, .mov (.t 0)⟩,
     ⟨some 13, false, none, .mkS 1 5 [.int .i64 0] [(0, 1, (.c (.int .i64 0))), (1, 1, (.c (.int .i64 0))), (2, 1, (.c (.int .i64 0))), (3, 1, (.c (.int .i64 2))), (4, 1, (.c (.int .i64 5)))]⟩,
     ⟨some 14, false, none, .call 12 [(.u 12), (.u 13)]⟩,
     ⟨some 15, false, none, .mov (.t 0)⟩,
     ⟨some 16, false, none, .call 11 [(.u 15), (.c (.int .i64 1)), (.c (.int .i64 3))]⟩,
     ⟨some 4, true, none, .mov (.u 11)⟩,
     ⟨some 5, true, none, .mov (.u 14)⟩,
     ⟨some 6, true, none, .mov (.u 16)⟩])
  (.seq (.region [⟨some 18, false, none, .mov (.t 3)⟩,
     ⟨some 19, false, none, .mov (.t 4)⟩,
     ⟨some 20, false, none, .mov (.t 5)⟩,
     ⟨some 21, false, none, .mov (.t 6)⟩,
     ⟨some 22, false, none, .call 15 [(.u 19), (.u 20), (.u 21)]⟩,
     ⟨some 17, false, none, .mov (.u 22)⟩,
     ⟨some 23, false, none, .ext (.u 17) 0⟩,
     ⟨some 24, false, none, .ext (.u 17) 1⟩,
     ⟨some 25, false, none, .nilc (.u 18)⟩,
     ⟨some 26, false, none, .faddr 0 (.u 25)⟩,
     ⟨none, true, none, .store 17 (.u 26) (.u 23)⟩])
  (.seq (.region [⟨some 28, false, none, .mov (.t 3)⟩,
     ⟨some 29, false, none, .mov (.t 4)⟩,
     ⟨some 30, false, none, .mov (.t 5)⟩,
     ⟨some 31, false, none, .mov (.t 6)⟩,
     ⟨some 32, false, none, .call 13 [(.u 29), (.u 30), (.u 31)]⟩,
     ⟨some 27, false, none, .mov (.u 32)⟩,
     ⟨some 33, false, none, .ext (.u 27) 0⟩,
     ⟨some 34, false, none, .ext (.u 27) 1⟩,
     ⟨some 35, false, none, .nilc (.u 28)⟩,
     ⟨some 36, false, none, .faddr 17 (.u 35)⟩,
     ⟨none, true, none, .store 17 (.u 36) (.u 33)⟩])
  (.seq (.region [⟨some 37, false, none, .mov (.t 3)⟩,
     ⟨some 2, true, none, .mov (.u 37)⟩])
  (.ret))))))
def r20 : List LRes := [.slot 2]
theorem t20 : (Try.f20.body.bind (trCode v20 Try.prog Try.f20.ntmps)) = some c20 ∧ trRes v20 Try.prog Try.f20.results.toList = some r20 := ⟨by kernel_rfl, by kernel_rfl⟩

def v21 : Nat → Bool := fun t => [0, 1, 4, 5, 6, 7, 8, 9, 10, 11, 12, 47, 56, 64, 65, 73, 83, 91, 92].contains t
def c21 : LCode :=
  .seq (.region [⟨some 4, true, none, .mov (.c (.bool false))⟩])
  (.seq (.seq (.region [⟨some 13, false, none, .mov (.t 1)⟩,
      ⟨some 14, false, none, .call 30 [(.u 13), (.c (.int .i64 9))]⟩,
      ⟨some 5, true, none, .mov (.u 14)⟩])
   (.block 0 (.seq (.region [⟨some 57, false, none, .mov (.t 5)⟩,
       ⟨some 58, false, none, .bin .lss (.u 57) (.c (.int .i64 3))⟩,
       ⟨some 56, true, none, .mov (.u 58)⟩])
    (.cond (.t 56)
     (.seq (.region [⟨some 59, false, none, .mov (.t 0)⟩,
        ⟨some 60, false, none, .mov (.t 1)⟩,
        ⟨some 61, false, none, .mkS 1 7 [.int .i64 0] [(0, 1, (.c (.int .i64 1))), (1, 1, (.c (.int .i64 1))), (2, 1, (.c (.int .i64 2))), (3, 1, (.c (.int .i64 4))), (4, 1, (.c (.int .i64 5))), (5, 1, (.c (.int .i64 0))), (6, 1, (.c (.int .i64 65)))]⟩,
        ⟨some 62, false, none, .call 12 [(.u 60), (.u 61)]⟩,
        ⟨some 63, false, none, .call 31 [(.u 59), (.u 62)]⟩,
        ⟨some 64, true, none, .un .not (.u 63)⟩])
     (.cond (.t 64)
      (.seq (.region [⟨some 4, true, none, .mov (.c (.bool false))⟩])
      (.ret))
      (.skip)))
     (.seq (.region [⟨some 66, false, none, .mov (.t 5)⟩,
        ⟨some 67, false, none, .bin .lss (.u 66) (.c (.int .i64 6))⟩,
        ⟨some 65, true, none, .mov (.u 67)⟩])
     (.cond (.t 65)
      (.seq (.region [⟨some 68, false, none, .mov (.t 0)⟩,
         ⟨some 69, false, none, .nilc (.u 68)⟩,
         ⟨some 70, false, none, .faddr 34 (.u 69)⟩,
         ⟨some 71, false, none, .load false 1 (.u 70)⟩,
         ⟨some 72, false, none, .lenL (.u 71)⟩,
         ⟨some 73, true, none, .bin .gtr (.u 72) (.c (.int .i64 0))⟩])
      (.cond (.t 73)
       (.region [⟨some 74, false, none, .mov (.t 0)⟩,
         ⟨some 75, false, none, .mov (.t 1)⟩,
         ⟨some 76, false, none, .mov (.t 0)⟩,
         ⟨some 77, false, none, .nilc (.u 76)⟩,
         ⟨some 78, false, none, .faddr 34 (.u 77)⟩,
         ⟨some 79, false, none, .load false 1 (.u 78)⟩,
         ⟨some 80, false, none, .lenL (.u 79)⟩,
         ⟨some 81, false, none, .call 30 [(.u 75), (.u 80)]⟩,
         ⟨some 82, false, none, .call 32 [(.u 74), (.u 81)]⟩])
       (.skip)))
      (.seq (.region [⟨some 84, false, none, .mov (.t 5)⟩,
         ⟨some 85, false, none, .bin .lss (.u 84) (.c (.int .i64 7))⟩,
         ⟨some 83, true, none, .mov (.u 85)⟩])
      (.cond (.t 83)
       (.seq (.region [⟨some 86, false, none, .mov (.t 0)⟩,
          ⟨some 87, false, none, .mov (.t 1)⟩,
          ⟨some 88, false, none, .mkS 1 6 [.int .i64 0] [(0, 1, (.c (.int .i64 0))), (1, 1, (.c (.int .i64 1))), (2, 1, (.c (.int .i64 2))), (3, 1, (.c (.int .i64 5))), (4, 1, (.c (.int .i64 64))), (5, 1, (.c (.int .i64 (-1))))]⟩,
          ⟨some 89, false, none, .call 12 [(.u 87), (.u 88)]⟩,
          ⟨some 90, false, none, .call 33 [(.u 86), (.u 89)]⟩,
          ⟨some 91, true, none, .un .not (.u 90)⟩])
       (.cond (.t 91)
        (.seq (.region [⟨some 4, true, none, .mov (.c (.bool false))⟩])
        (.ret))
        (.skip)))
       (.seq (.region [⟨some 93, false, none, .mov (.t 5)⟩,
          ⟨some 94, false, none, .bin .lss (.u 93) (.c (.int .i64 8))⟩,
          ⟨some 92, true, none, .mov (.u 94)⟩])
       (.cond (.t 92)
        (.regionD [⟨0, [0], false, [], ⟨some 95, false, none, .mov (.t 0)⟩⟩,
          ⟨1, [95], false, [], ⟨some 96, false, none, .nilc (.u 95)⟩⟩,
          ⟨2, [96], false, [], ⟨some 97, false, none, .faddr 35 (.u 96)⟩⟩,
          ⟨3, [97], true, [], ⟨some 98, false, none, .load false 1 (.u 97)⟩⟩,
          ⟨4, [1], false, [], ⟨some 99, false, none, .mov (.t 1)⟩⟩,
          ⟨5, [], false, [], ⟨some 100, false, none, .mkS 1 3 [.int .i64 0] [(0, 1, (.c (.int .i64 1))), (1, 1, (.c (.int .i64 400))), (2, 1, (.c (.int .i64 1000)))]⟩⟩,
          ⟨6, [99, 100], false, [3], ⟨some 101, false, none, .call 12 [(.u 99), (.u 100)]⟩⟩,
          ⟨7, [98, 101], false, [], ⟨some 102, false, none, .bin .add (.u 98) (.u 101)⟩⟩,
          ⟨8, [95], false, [], ⟨some 103, false, none, .nilc (.u 95)⟩⟩,
          ⟨9, [103], false, [], ⟨some 104, false, none, .faddr 35 (.u 103)⟩⟩,
          ⟨10, [104, 102], false, [], ⟨none, true, none, .store 1 (.u 104) (.u 102)⟩⟩])
        (.seq (.region [⟨some 15, false, none, .mov (.t 1)⟩,
           ⟨some 16, false, none, .mkS 1 4 [.int .i64 0] [(0, 1, (.c (.int .i64 64))), (1, 1, (.c (.int .i64 20))), (2, 1, (.c (.int .i64 6))), (3, 1, (.c (.int .i64 2)))]⟩,
           ⟨some 17, false, none, .call 12 [(.u 15), (.u 16)]⟩,
           ⟨some 18, false, none, .mov (.t 1)⟩,
           ⟨some 19, false, none, .mkS 1 2 [.int .i64 0] [(0, 1, (.c (.int .i64 0))), (1, 1, (.c (.int .i64 3)))]⟩,
           ⟨some 20, false, none, .call 12 [(.u 18), (.u 19)]⟩,
           ⟨some 21, false, none, .mov (.t 1)⟩,
           ⟨some 22, false, none, .call 11 [(.u 21), (.c (.int .i64 1)), (.c (.int .i64 3))]⟩,
           ⟨some 6, true, none, .mov (.u 17)⟩,
           ⟨some 7, true, none, .mov (.u 20)⟩,
           ⟨some 8, true, none, .mov (.u 22)⟩])
        (.seq (.region [⟨some 24, false, none, .mov (.t 0)⟩,
           ⟨some 25, false, none, .nilc (.u 24)⟩,
           ⟨some 26, false, none, .faddr 0 (.u 25)⟩,
           ⟨some 27, false, none, .load true 17 (.u 26)⟩,
           ⟨some 28, false, none, .mov (.t 6)⟩,
           ⟨some 29, false, none, .mov (.t 7)⟩,
           ⟨some 30, false, none, .mov (.t 8)⟩,
           ⟨some 31, false, none, .call 16 [(.u 27), (.u 28), (.u 29), (.u 30)]⟩,
           ⟨some 23, false, none, .mov (.u 31)⟩,
           ⟨some 32, false, none, .ext (.u 23) 0⟩,
           ⟨some 33, false, none, .ext (.u 23) 1⟩,
           ⟨some 9, true, none, .zero [.int .i64 0, .int .i64 0, .int .i64 0, .int .i64 0, .int .i64 0, .fsl 1 0 [], .fsl 1 0 [], .int .i64 0, .int .i64 0, .int .i64 0, .int .i64 0, .int .i64 0, .int .i64 0, .int .i64 0, .int .i64 0, .bool false, .fsl 1 0 []]⟩,
           ⟨none, true, none, .store 17 (.t 9) (.u 32)⟩,
           ⟨some 10, true, none, .mov (.u 33)⟩])
        (.seq (.region [⟨some 35, false, none, .mov (.t 0)⟩,
           ⟨some 36, false, none, .nilc (.u 35)⟩,
           ⟨some 37, false, none, .faddr 17 (.u 36)⟩,
           ⟨some 38, false, none, .load true 17 (.u 37)⟩,
           ⟨some 39, false, none, .mov (.t 6)⟩,
           ⟨some 40, false, none, .mov (.t 7)⟩,
           ⟨some 41, false, none, .mov (.t 8)⟩,
           ⟨some 42, false, none, .call 17 [(.u 38), (.u 39), (.u 40), (.u 41)]⟩,
           ⟨some 34, false, none, .mov (.u 42)⟩,
           ⟨some 43, false, none, .ext (.u 34) 0⟩,
           ⟨some 44, false, none, .ext (.u 34) 1⟩,
           ⟨some 11, true, none, .zero [.int .i64 0, .int .i64 0, .int .i64 0, .int .i64 0, .int .i64 0, .fsl 1 0 [], .fsl 1 0 [], .int .i64 0, .int .i64 0, .int .i64 0, .int .i64 0, .int .i64 0, .int .i64 0, .int .i64 0, .int .i64 0, .bool false, .fsl 1 0 []]⟩,
           ⟨none, true, none, .store 17 (.t 11) (.u 43)⟩,
           ⟨some 12, true, none, .mov (.u 44)⟩])
        (.seq (.seq (.region [⟨some 45, false, none, .mov (.t 10)⟩,
            ⟨some 46, false, none, .mov (.t 12)⟩,
            ⟨some 47, true, none, .bin .neq (.u 45) (.u 46)⟩])
         (.cond (.t 47)
          (.seq (.region [⟨some 4, true, none, .mov (.c (.bool false))⟩])
          (.ret))
          (.skip)))
        (.regionD [⟨0, [0], false, [], ⟨some 48, false, none, .mov (.t 0)⟩⟩,
          ⟨1, [0], false, [], ⟨some 49, false, none, .mov (.t 0)⟩⟩,
          ⟨2, [9], true, [], ⟨some 50, false, none, .load true 17 (.t 9)⟩⟩,
          ⟨3, [11], true, [], ⟨some 51, false, none, .load true 17 (.t 11)⟩⟩,
          ⟨4, [48], false, [], ⟨some 52, false, none, .nilc (.u 48)⟩⟩,
          ⟨5, [52], false, [], ⟨some 53, false, none, .faddr 0 (.u 52)⟩⟩,
          ⟨6, [53, 50], false, [3], ⟨none, true, none, .store 17 (.u 53) (.u 50)⟩⟩,
          ⟨7, [49], false, [], ⟨some 54, false, none, .nilc (.u 49)⟩⟩,
          ⟨8, [54], false, [], ⟨some 55, false, none, .faddr 17 (.u 54)⟩⟩,
          ⟨9, [55, 51], false, [], ⟨none, true, none, .store 17 (.u 55) (.u 51)⟩⟩])))))))))))))))
  (.seq (.regionD [⟨0, [0], false, [], ⟨some 105, false, none, .mov (.t 0)⟩⟩,
     ⟨1, [105], false, [], ⟨some 106, false, none, .nilc (.u 105)⟩⟩,
     ⟨2, [106], false, [], ⟨some 107, false, none, .faddr 0 (.u 106)⟩⟩,
     ⟨3, [107], true, [], ⟨some 108, false, none, .load true 17 (.u 107)⟩⟩,
     ⟨4, [0], false, [], ⟨some 109, false, none, .mov (.t 0)⟩⟩,
     ⟨5, [109], false, [], ⟨some 110, false, none, .nilc (.u 109)⟩⟩,
     ⟨6, [110], false, [], ⟨some 111, false, none, .faddr 17 (.u 110)⟩⟩,
     ⟨7, [111], true, [], ⟨some 112, false, none, .load true 17 (.u 111)⟩⟩,
     ⟨8, [108, 112], false, [], ⟨some 113, false, none, .call 18 [(.u 108), (.u 112)]⟩⟩,
     ⟨9, [113], false, [], ⟨some 4, true, none, .mov (.u 113)⟩⟩])
  (.ret)))
def r21 : List LRes := [.slot 4]
theorem t21 : (Try.f21.body.bind (trCode v21 Try.prog Try.f21.ntmps)) = some c21 ∧ trRes v21 Try.prog Try.f21.results.toList = some r21 := ⟨by kernel_rfl, by kernel_rfl⟩

def v22 : Nat → Bool := fun t => [0, 7].contains t
def c22 : LCode :=
  .seq (.block 0 (.loop (.seq (.seq (.region [⟨some 2, false, none, .mov (.t 0)⟩,
         ⟨some 3, false, none, .nilc (.u 2)⟩,
         ⟨some 4, false, none, .faddr 34 (.u 3)⟩,
         ⟨some 5, false, none, .load false 1 (.u 4)⟩,
         ⟨some 6, false, none, .lenL (.u 5)⟩,
         ⟨some 7, true, none, .bin .gtr (.u 6) (.c (.int .i64 0))⟩])
      (.cond (.t 7)
       (.skip)
       (.exit 0)))
     (.block 1 (.region [⟨some 8, false, none, .mov (.t 0)⟩,
        ⟨some 9, false, none, .call 32 [(.u 8), (.c (.int .i64 0))]⟩])))))
  (.seq (.region [⟨some 10, false, none, .mov (.t 0)⟩,
     ⟨some 11, false, none, .call 33 [(.u 10), (.c (.int .i64 64))]⟩])
  (.region [⟨some 12, false, none, .mov (.t 0)⟩,
    ⟨some 13, false, none, .call 33 [(.u 12), (.c (.int .i64 64))]⟩]))
def r22 : List LRes := []
theorem t22 : (Try.f22.body.bind (trCode v22 Try.prog Try.f22.ntmps)) = some c22 ∧ trRes v22 Try.prog Try.f22.results.toList = some r22 := ⟨by kernel_rfl, by kernel_rfl⟩

def v23 : Nat → Bool := fun t => [0, 1, 2, 4, 5, 6, 11, 21].contains t
def c23 : LCode :=
  .seq (.region [⟨some 2, true, none, .box (.t 0)⟩,
     ⟨some 4, true, none, .zero [.str [], .int .i64 0, .int .i64 0, .str []]⟩,
     ⟨some 5, true, none, .mov (.c (.bool false))⟩])
  (.seq (.seq (.region [⟨some 6, true, none, .mov (.c (.int .i64 0))⟩])
   (.block 0 (.loop (.seq (.seq (.region [⟨some 7, false, none, .mov (.t 6)⟩,
         ⟨some 8, false, none, .faddr 3 (.t 2)⟩,
         ⟨some 9, false, none, .load false 1 (.u 8)⟩,
         ⟨some 10, false, none, .lenL (.u 9)⟩,
         ⟨some 11, true, none, .bin .lss (.u 7) (.u 10)⟩])
      (.cond (.t 11)
       (.skip)
       (.exit 0)))
     (.seq (.block 1 (.seq (.region [⟨some 14, false, none, .faddr 3 (.t 2)⟩,
          ⟨some 15, false, none, .load false 1 (.u 14)⟩,
          ⟨some 16, false, none, .mov (.t 6)⟩,
          ⟨some 17, false, none, .iaS 4 (.u 15) (.u 16)⟩,
          ⟨some 18, false, none, .faddr 0 (.u 17)⟩,
          ⟨some 19, false, none, .load false 1 (.u 18)⟩,
          ⟨some 20, false, none, .mov (.t 1)⟩,
          ⟨some 21, true, none, .bin .eql (.u 19) (.u 20)⟩])
       (.cond (.t 21)
        (.seq (.region [⟨some 22, false, none, .faddr 3 (.t 2)⟩,
           ⟨some 23, false, none, .load false 1 (.u 22)⟩,
           ⟨some 24, false, none, .mov (.t 6)⟩,
           ⟨some 25, false, none, .iaS 4 (.u 23) (.u 24)⟩,
           ⟨some 26, false, none, .load true 4 (.u 25)⟩,
           ⟨none, true, none, .store 4 (.t 4) (.u 26)⟩,
           ⟨some 5, true, none, .mov (.c (.bool true))⟩])
        (.ret))
        (.skip))))
     (.region [⟨some 12, false, none, .mov (.t 6)⟩,
       ⟨some 13, false, none, .bin .add (.u 12) (.c (.int .i64 1))⟩,
       ⟨some 6, true, none, .mov (.u 13)⟩]))))))
  (.seq (.region [⟨some 27, false, none, .build [.str [], .int .i64 0, .int .i64 0, .str []] []⟩,
     ⟨none, true, none, .store 4 (.t 4) (.u 27)⟩,
     ⟨some 5, true, none, .mov (.c (.bool false))⟩])
  (.ret)))
def r23 : List LRes := [.cell true 4 4, .slot 5]
theorem t23 : (Try.f23.body.bind (trCode v23 Try.prog Try.f23.ntmps)) = some c23 ∧ trRes v23 Try.prog Try.f23.results.toList = some r23 := ⟨by kernel_rfl, by kernel_rfl⟩

def v24 : Nat → Bool := fun t => [0, 1, 2, 3, 6, 7, 8, 9, 10, 31, 39, 48, 58, 78].contains t
def c24 : LCode :=
  .seq (.region [⟨some 3, true, none, .box (.t 0)⟩,
     ⟨some 6, true, none, .zero [.int .i64 0, .int .i64 0, .int .i64 0, .int .i64 0, .int .i64 0, .fsl 1 0 [], .fsl 1 0 [], .int .i64 0, .int .i64 0, .int .i64 0, .int .i64 0, .int .i64 0, .int .i64 0, .int .i64 0, .int .i64 0, .bool false, .fsl 1 0 []]⟩,
     ⟨some 7, true, none, .mov (.c (.int .i64 0))⟩,
     ⟨some 8, true, none, .mov (.c (.bool false))⟩])
  (.seq (.region [⟨some 11, false, none, .load true 17 (.t 3)⟩,
     ⟨some 12, false, none, .call 39 [(.u 11)]⟩,
     ⟨none, true, none, .store 17 (.t 3) (.u 12)⟩])
  (.seq (.seq (.region [⟨some 13, false, none, .mov (.t 2)⟩,
      ⟨some 14, false, none, .bin .lss (.u 13) (.c (.int .i64 1))⟩,
      ⟨some 15, false, none, .mov (.u 14)⟩,
      ⟨some 16, false, some ((.u 15), false), .mov (.t 2)⟩,
      ⟨some 17, false, some ((.u 15), false), .bin .gtr (.u 16) (.c (.int .i64 64))⟩,
      ⟨some 18, false, none, .pick (.u 15) (.c (.bool true)) (.u 17)⟩,
      ⟨some 19, false, none, .mov (.u 18)⟩,
      ⟨some 20, false, some ((.u 19), false), .mov (.t 1)⟩,
      ⟨some 21, false, some ((.u 19), false), .bin .lss (.u 20) (.c (.int .i64 0))⟩,
      ⟨some 22, false, none, .pick (.u 19) (.c (.bool true)) (.u 21)⟩,
      ⟨some 23, false, none, .mov (.u 22)⟩,
      ⟨some 24, false, some ((.u 23), false), .mov (.t 1)⟩,
      ⟨some 25, false, some ((.u 23), false), .bin .gtr (.u 24) (.c (.int .i64 1099511627776))⟩,
      ⟨some 26, false, none, .pick (.u 23) (.c (.bool true)) (.u 25)⟩,
      ⟨some 27, false, none, .mov (.u 26)⟩,
      ⟨some 28, false, some ((.u 27), false), .faddr 3 (.t 3)⟩,
      ⟨some 29, false, some ((.u 27), false), .load false 1 (.u 28)⟩,
      ⟨some 30, false, some ((.u 27), false), .bin .gtr (.u 29) (.c (.int .i64 1073741821))⟩,
      ⟨some 31, true, none, .pick (.u 27) (.c (.bool true)) (.u 30)⟩])
   (.cond (.t 31)
    (.seq (.region [⟨some 32, false, none, .load true 17 (.t 3)⟩,
       ⟨none, true, none, .store 17 (.t 6) (.u 32)⟩,
       ⟨some 7, true, none, .mov (.c (.int .i64 0))⟩,
       ⟨some 8, true, none, .mov (.c (.bool false))⟩])
    (.ret))
    (.skip)))
  (.seq (.region [⟨some 33, false, none, .faddr 3 (.t 3)⟩,
     ⟨some 34, false, none, .load false 1 (.u 33)⟩,
     ⟨some 35, false, none, .bin .add (.u 34) (.c (.int .i64 1))⟩,
     ⟨some 9, true, none, .mov (.u 35)⟩])
  (.seq (.seq (.region [⟨some 36, false, none, .faddr 7 (.t 3)⟩,
      ⟨some 37, false, none, .load true 5 (.u 36)⟩,
      ⟨some 38, false, none, .build [.int .i64 0, .int .i64 0, .int .i64 0, .int .i64 0, .int .i64 0] []⟩,
      ⟨some 39, true, none, .eqS true 5 [(0, 1), (1, 1), (2, 1), (3, 1), (4, 1)] (.u 37) (.u 38)⟩])
   (.cond (.t 39)
    (.region [⟨some 40, false, none, .mov (.t 9)⟩,
      ⟨some 41, false, none, .bin .add (.u 40) (.c (.int .i64 1))⟩,
      ⟨some 9, true, none, .mov (.u 41)⟩])
    (.skip)))
  (.seq (.seq (.region [⟨some 42, false, none, .load true 17 (.t 3)⟩,
      ⟨some 43, false, none, .mov (.t 9)⟩,
      ⟨some 44, false, none, .mov (.t 1)⟩,
      ⟨some 45, false, none, .mov (.t 2)⟩,
      ⟨some 46, false, none, .call 43 [(.u 42), (.u 43), (.u 44), (.u 45)]⟩,
      ⟨some 10, true, none, .mov (.u 46)⟩])
   (.seq (.region [⟨some 47, false, none, .mov (.t 10)⟩,
      ⟨some 48, true, none, .bin .neq (.u 47) (.c (.int .i64 0))⟩])
   (.cond (.t 48)
    (.seq (.region [⟨some 49, false, none, .mov (.t 10)⟩,
       ⟨some 50, false, none, .mov (.t 1)⟩,
       ⟨some 51, false, none, .call 44 [(.t 3), (.u 49), (.u 50)]⟩])
    (.seq (.regionD [⟨0, [3], true, [], ⟨some 52, false, none, .load true 17 (.t 3)⟩⟩,
       ⟨1, [3], false, [], ⟨some 53, false, none, .faddr 3 (.t 3)⟩⟩,
       ⟨2, [53], true, [], ⟨some 54, false, none, .load false 1 (.u 53)⟩⟩,
       ⟨3, [6, 52], false, [2], ⟨none, true, none, .store 17 (.t 6) (.u 52)⟩⟩,
       ⟨4, [54], false, [], ⟨some 7, true, none, .mov (.u 54)⟩⟩,
       ⟨5, [], false, [], ⟨some 8, true, none, .mov (.c (.bool false))⟩⟩])
    (.ret)))
    (.skip))))
  (.seq (.seq (.region [⟨some 55, false, none, .faddr 7 (.t 3)⟩,
      ⟨some 56, false, none, .load true 5 (.u 55)⟩,
      ⟨some 57, false, none, .build [.int .i64 0, .int .i64 0, .int .i64 0, .int .i64 0, .int .i64 0] []⟩,
      ⟨some 58, true, none, .eqS true 5 [(0, 1), (1, 1), (2, 1), (3, 1), (4, 1)] (.u 56) (.u 57)⟩])
   (.cond (.t 58)
    (.region [⟨some 59, false, none, .mov (.t 1)⟩,
      ⟨some 60, false, none, .call 45 [(.t 3), (.u 59)]⟩])
    (.skip)))
  (.seq (.region [⟨some 61, false, none, .mov (.t 9)⟩,
     ⟨some 62, false, none, .faddr 3 (.t 3)⟩,
     ⟨none, true, none, .store 1 (.u 62) (.u 61)⟩])
  (.seq (.region [⟨some 63, false, none, .faddr 4 (.t 3)⟩,
     ⟨some 64, false, none, .load false 1 (.u 63)⟩,
     ⟨some 65, false, none, .mov (.t 2)⟩,
     ⟨some 66, false, none, .bin .add (.u 64) (.u 65)⟩,
     ⟨some 67, false, none, .faddr 4 (.t 3)⟩,
     ⟨none, true, none, .store 1 (.u 67) (.u 66)⟩])
  (.seq (.region [⟨some 68, false, none, .faddr 5 (.t 3)⟩,
     ⟨some 69, false, none, .load false 1 (.u 68)⟩,
     ⟨some 70, false, none, .mov (.t 9)⟩,
     ⟨some 71, false, none, .mkS 1 1 [.int .i64 0] [(0, 1, (.u 70))]⟩,
     ⟨some 72, false, none, .app 1 8 (.u 69) (.u 71)⟩,
     ⟨some 73, false, none, .faddr 5 (.t 3)⟩,
     ⟨none, true, none, .store 1 (.u 73) (.u 72)⟩])
  (.seq (.seq (.region [⟨some 74, false, none, .mov (.t 1)⟩,
      ⟨some 75, false, none, .bin .quo (.u 74) (.c (.int .i64 1000))⟩,
      ⟨some 76, false, none, .faddr 12 (.t 3)⟩,
      ⟨some 77, false, none, .load false 1 (.u 76)⟩,
      ⟨some 78, true, none, .bin .neq (.u 75) (.u 77)⟩])
   (.cond (.t 78)
    (.region [⟨some 79, false, none, .mov (.t 1)⟩,
      ⟨some 80, false, none, .bin .quo (.u 79) (.c (.int .i64 1000))⟩,
      ⟨some 81, false, none, .faddr 12 (.t 3)⟩,
      ⟨none, true, none, .store 1 (.u 81) (.u 80)⟩,
      ⟨some 82, false, none, .faddr 13 (.t 3)⟩,
      ⟨none, true, none, .store 1 (.u 82) (.c (.int .i64 0))⟩])
    (.skip)))
  (.seq (.region [⟨some 83, false, none, .faddr 13 (.t 3)⟩,
     ⟨some 84, false, none, .load false 1 (.u 83)⟩,
     ⟨some 85, false, none, .bin .add (.u 84) (.c (.int .i64 1))⟩,
     ⟨some 86, false, none, .faddr 13 (.t 3)⟩,
     ⟨none, true, none, .store 1 (.u 86) (.u 85)⟩])
  (.seq (.region [⟨some 87, false, none, .load true 17 (.t 3)⟩,
     ⟨some 88, false, none, .mov (.t 9)⟩,
     ⟨none, true, none, .store 17 (.t 6) (.u 87)⟩,
     ⟨some 7, true, none, .mov (.u 88)⟩,
     ⟨some 8, true, none, .mov (.c (.bool true))⟩])
  (.ret)))))))))))))
def r24 : List LRes := [.cell true 17 6, .slot 7, .slot 8]
theorem t24 : (Try.f24.body.bind (trCode v24 Try.prog Try.f24.ntmps)) = some c24 ∧ trRes v24 Try.prog Try.f24.results.toList = some r24 := ⟨by kernel_rfl, by kernel_rfl⟩

def v25 : Nat → Bool := fun t => [0, 1, 2, 3, 4, 6, 7, 30].contains t
def c25 : LCode :=
  .seq (.region [⟨some 3, true, none, .box (.t 0)⟩,
     ⟨some 4, true, none, .box (.t 1)⟩,
     ⟨some 6, true, none, .zero [.int .i64 0, .int .i64 0, .int .i64 0, .int .i64 0, .int .i64 0, .fsl 1 0 [], .fsl 1 0 [], .int .i64 0, .int .i64 0, .int .i64 0, .int .i64 0, .int .i64 0, .int .i64 0, .int .i64 0, .int .i64 0, .bool false, .fsl 1 0 []]⟩])
  (.seq (.region [⟨some 8, false, none, .load true 17 (.t 3)⟩,
     ⟨some 9, false, none, .call 39 [(.u 8)]⟩,
     ⟨none, true, none, .store 17 (.t 3) (.u 9)⟩])
  (.seq (.regionD [⟨0, [3], false, [], ⟨some 10, false, none, .faddr 6 (.t 3)⟩⟩,
     ⟨1, [10], true, [], ⟨some 11, false, none, .load false 1 (.u 10)⟩⟩,
     ⟨2, [4], true, [], ⟨some 12, false, none, .load true 4 (.t 4)⟩⟩,
     ⟨3, [12], false, [1], ⟨some 13, false, none, .call 46 [(.u 12)]⟩⟩,
     ⟨4, [13], false, [], ⟨some 14, false, none, .mkS 4 1 [.int .i64 0, .int .i64 0, .int .i64 0, .fsl 1 0 []] [(0, 4, (.u 13))]⟩⟩,
     ⟨5, [11, 14], false, [], ⟨some 15, false, none, .app 4 48 (.u 11) (.u 14)⟩⟩,
     ⟨6, [3], false, [], ⟨some 16, false, none, .faddr 6 (.t 3)⟩⟩,
     ⟨7, [16, 15], false, [], ⟨none, true, none, .store 1 (.u 16) (.u 15)⟩⟩])
  (.seq (.region [⟨some 17, false, none, .faddr 4 (.t 3)⟩,
     ⟨some 18, false, none, .load false 1 (.u 17)⟩,
     ⟨some 19, false, none, .bin .sub (.u 18) (.c (.int .i64 1))⟩,
     ⟨some 20, false, none, .faddr 4 (.t 3)⟩,
     ⟨none, true, none, .store 1 (.u 20) (.u 19)⟩])
  (.seq (.seq (.region [⟨some 21, false, none, .faddr 5 (.t 3)⟩,
      ⟨some 22, false, none, .load false 1 (.u 21)⟩,
      ⟨some 23, false, none, .faddr 2 (.t 4)⟩,
      ⟨some 24, false, none, .load false 1 (.u 23)⟩,
      ⟨some 25, false, none, .call 47 [(.u 22), (.u 24)]⟩,
      ⟨some 7, true, none, .mov (.u 25)⟩])
   (.seq (.region [⟨some 26, false, none, .mov (.t 2)⟩,
      ⟨some 27, false, none, .mov (.u 26)⟩,
      ⟨some 28, false, some ((.u 27), true), .mov (.t 7)⟩,
      ⟨some 29, false, some ((.u 27), true), .bin .geq (.u 28) (.c (.int .i64 0))⟩,
      ⟨some 30, true, none, .pick (.u 27) (.u 29) (.c (.bool false))⟩])
   (.cond (.t 30)
    (.region [⟨some 31, false, none, .faddr 5 (.t 3)⟩,
      ⟨some 32, false, none, .load false 1 (.u 31)⟩,
      ⟨some 33, false, none, .mov (.t 7)⟩,
      ⟨some 34, false, none, .mov (.t 7)⟩,
      ⟨some 35, false, none, .bin .add (.u 34) (.c (.int .i64 1))⟩,
      ⟨some 36, false, none, .call 48 [(.u 32), (.u 33), (.u 35)]⟩,
      ⟨some 37, false, none, .faddr 5 (.t 3)⟩,
      ⟨none, true, none, .store 1 (.u 37) (.u 36)⟩])
    (.skip))))
  (.seq (.region [⟨some 38, false, none, .load true 17 (.t 3)⟩,
     ⟨none, true, none, .store 17 (.t 6) (.u 38)⟩])
  (.ret))))))
def r25 : List LRes := [.cell true 17 6]
theorem t25 : (Try.f25.body.bind (trCode v25 Try.prog Try.f25.ntmps)) = some c25 ∧ trRes v25 Try.prog Try.f25.results.toList = some r25 := ⟨by kernel_rfl, by kernel_rfl⟩

def v26 : Nat → Bool := fun t => [0, 1, 2, 3, 6, 7, 8, 41, 54, 71].contains t
def c26 : LCode :=
  .seq (.region [⟨some 3, true, none, .box (.t 0)⟩,
     ⟨some 6, true, none, .zero [.int .i64 0, .int .i64 0, .int .i64 0, .int .i64 0, .int .i64 0, .fsl 1 0 [], .fsl 1 0 [], .int .i64 0, .int .i64 0, .int .i64 0, .int .i64 0, .int .i64 0, .int .i64 0, .int .i64 0, .int .i64 0, .bool false, .fsl 1 0 []]⟩,
     ⟨some 7, true, none, .mov (.c (.fsl 1 0 []))⟩])
  (.seq (.region [⟨some 9, false, none, .load true 17 (.t 3)⟩,
     ⟨some 10, false, none, .call 39 [(.u 9)]⟩,
     ⟨none, true, none, .store 17 (.t 3) (.u 10)⟩])
  (.seq (.region [⟨some 11, false, none, .mov (.t 2)⟩,
     ⟨some 12, false, none, .faddr 6 (.t 3)⟩,
     ⟨some 13, false, none, .load false 1 (.u 12)⟩,
     ⟨some 14, false, none, .lenL (.u 13)⟩,
     ⟨some 15, false, none, .mm false (.u 11) [(.u 14)]⟩,
     ⟨some 16, false, none, .mm true (.c (.int .i64 0)) [(.u 15)]⟩,
     ⟨some 2, true, none, .mov (.u 16)⟩])
  (.seq (.region [⟨some 17, false, none, .faddr 6 (.t 3)⟩,
     ⟨some 18, false, none, .load false 1 (.u 17)⟩,
     ⟨some 19, false, none, .mov (.t 2)⟩,
     ⟨some 20, false, none, .slL 4 (.u 18) none (some (.u 19)) none⟩,
     ⟨some 21, false, none, .call 49 [(.u 20)]⟩,
     ⟨some 8, true, none, .mov (.u 21)⟩])
  (.seq (.region [⟨some 22, false, none, .faddr 6 (.t 3)⟩,
     ⟨some 23, false, none, .load false 1 (.u 22)⟩,
     ⟨some 24, false, none, .mov (.t 2)⟩,
     ⟨some 25, false, none, .call 50 [(.u 23), (.c (.int .i64 0)), (.u 24)]⟩,
     ⟨some 26, false, none, .faddr 6 (.t 3)⟩,
     ⟨none, true, none, .store 1 (.u 26) (.u 25)⟩])
  (.seq (.seq (.region [⟨some 27, false, none, .faddr 7 (.t 3)⟩,
      ⟨some 28, false, none, .load true 5 (.u 27)⟩,
      ⟨some 29, false, none, .build [.int .i64 0, .int .i64 0, .int .i64 0, .int .i64 0, .int .i64 0] []⟩,
      ⟨some 30, false, none, .eqS false 5 [(0, 1), (1, 1), (2, 1), (3, 1), (4, 1)] (.u 28) (.u 29)⟩,
      ⟨some 31, false, none, .mov (.u 30)⟩,
      ⟨some 32, false, some ((.u 31), false), .faddr 6 (.t 3)⟩,
      ⟨some 33, false, some ((.u 31), false), .load false 1 (.u 32)⟩,
      ⟨some 34, false, some ((.u 31), false), .lenL (.u 33)⟩,
      ⟨some 35, false, some ((.u 31), false), .faddr 4 (.t 3)⟩,
      ⟨some 36, false, some ((.u 31), false), .load false 1 (.u 35)⟩,
      ⟨some 37, false, some ((.u 31), false), .bin .add (.u 34) (.u 36)⟩,
      ⟨some 38, false, some ((.u 31), false), .faddr 0 (.t 3)⟩,
      ⟨some 39, false, some ((.u 31), false), .load false 1 (.u 38)⟩,
      ⟨some 40, false, some ((.u 31), false), .bin .geq (.u 37) (.u 39)⟩,
      ⟨some 41, true, none, .pick (.u 31) (.c (.bool true)) (.u 40)⟩])
   (.cond (.t 41)
    (.seq (.region [⟨some 42, false, none, .load true 17 (.t 3)⟩,
       ⟨some 43, false, none, .mov (.t 8)⟩,
       ⟨none, true, none, .store 17 (.t 6) (.u 42)⟩,
       ⟨some 7, true, none, .mov (.u 43)⟩])
    (.ret))
    (.skip)))
  (.seq (.seq (.region [⟨some 44, false, none, .faddr 3 (.t 3)⟩,
      ⟨some 45, false, none, .load false 1 (.u 44)⟩,
      ⟨some 46, false, none, .bin .gtr (.u 45) (.c (.int .i64 1073741821))⟩,
      ⟨some 47, false, none, .mov (.u 46)⟩,
      ⟨some 48, false, some ((.u 47), false), .mov (.t 1)⟩,
      ⟨some 49, false, some ((.u 47), false), .bin .lss (.u 48) (.c (.int .i64 0))⟩,
      ⟨some 50, false, none, .pick (.u 47) (.c (.bool true)) (.u 49)⟩,
      ⟨some 51, false, none, .mov (.u 50)⟩,
      ⟨some 52, false, some ((.u 51), false), .mov (.t 1)⟩,
      ⟨some 53, false, some ((.u 51), false), .bin .gtr (.u 52) (.c (.int .i64 1099511627776))⟩,
      ⟨some 54, true, none, .pick (.u 51) (.c (.bool true)) (.u 53)⟩])
   (.cond (.t 54)
    (.seq (.region [⟨some 55, false, none, .load true 17 (.t 3)⟩,
       ⟨some 56, false, none, .mov (.t 8)⟩,
       ⟨none, true, none, .store 17 (.t 6) (.u 55)⟩,
       ⟨some 7, true, none, .mov (.u 56)⟩])
    (.ret))
    (.skip)))
  (.seq (.seq (.regionD [⟨0, [3], false, [], ⟨some 57, false, none, .faddr 5 (.t 3)⟩⟩,
      ⟨1, [57], true, [], ⟨some 58, false, none, .load false 1 (.u 57)⟩⟩,
      ⟨2, [58], false, [], ⟨some 59, false, none, .lenL (.u 58)⟩⟩,
      ⟨3, [59], false, [], ⟨some 60, false, none, .bin .gtr (.u 59) (.c (.int .i64 0))⟩⟩,
      ⟨4, [60], false, [], ⟨some 61, false, none, .mov (.u 60)⟩⟩,
      ⟨5, [3, 61], false, [], ⟨some 62, false, some ((.u 61), true), .faddr 3 (.t 3)⟩⟩,
      ⟨6, [62, 61], true, [], ⟨some 63, false, some ((.u 61), true), .load false 1 (.u 62)⟩⟩,
      ⟨7, [63, 61], false, [], ⟨some 64, false, some ((.u 61), true), .bin .add (.u 63) (.c (.int .i64 1))⟩⟩,
      ⟨8, [3, 61], false, [], ⟨some 65, false, some ((.u 61), true), .faddr 5 (.t 3)⟩⟩,
      ⟨9, [65, 61], true, [], ⟨some 66, false, some ((.u 61), true), .load false 1 (.u 65)⟩⟩,
      ⟨10, [66, 61], false, [], ⟨some 67, false, some ((.u 61), true), .iaS 1 (.u 66) (.c (.int .i64 0))⟩⟩,
      ⟨11, [67, 61], true, [], ⟨some 68, false, some ((.u 61), true), .load false 1 (.u 67)⟩⟩,
      ⟨12, [64, 68, 61], false, [], ⟨some 69, false, some ((.u 61), true), .bin .sub (.u 64) (.u 68)⟩⟩,
      ⟨13, [69, 61], false, [], ⟨some 70, false, some ((.u 61), true), .bin .geq (.u 69) (.c (.int .i64 64))⟩⟩,
      ⟨14, [61, 70], false, [], ⟨some 71, true, none, .pick (.u 61) (.u 70) (.c (.bool false))⟩⟩])
   (.cond (.t 71)
    (.seq (.region [⟨some 72, false, none, .load true 17 (.t 3)⟩,
       ⟨some 73, false, none, .mov (.t 8)⟩,
       ⟨none, true, none, .store 17 (.t 6) (.u 72)⟩,
       ⟨some 7, true, none, .mov (.u 73)⟩])
    (.ret))
    (.skip)))
  (.seq (.region [⟨some 74, false, none, .mov (.t 1)⟩,
     ⟨some 75, false, none, .call 45 [(.t 3), (.u 74)]⟩])
  (.seq (.region [⟨some 76, false, none, .load true 17 (.t 3)⟩,
     ⟨some 77, false, none, .mov (.t 8)⟩,
     ⟨none, true, none, .store 17 (.t 6) (.u 76)⟩,
     ⟨some 7, true, none, .mov (.u 77)⟩])
  (.ret))))))))))
def r26 : List LRes := [.cell true 17 6, .slot 7]
theorem t26 : (Try.f26.body.bind (trCode v26 Try.prog Try.f26.ntmps)) = some c26 ∧ trRes v26 Try.prog Try.f26.results.toList = some r26 := ⟨by kernel_rfl, by kernel_rfl⟩

def v27 : Nat → Bool := fun t => [0, 1, 2, 3, 4].contains t
def c27 : LCode :=
  .seq (.region [⟨some 2, true, none, .box (.t 0)⟩,
     ⟨some 3, true, none, .box (.t 1)⟩,
     ⟨some 4, true, none, .mov (.c (.bool false))⟩])
  (.seq (.region [⟨some 5, false, none, .faddr 0 (.t 2)⟩,
     ⟨some 6, false, none, .load false 1 (.u 5)⟩,
     ⟨some 7, false, none, .faddr 0 (.t 3)⟩,
     ⟨some 8, false, none, .load false 1 (.u 7)⟩,
     ⟨some 9, false, none, .bin .eql (.u 6) (.u 8)⟩,
     ⟨some 10, false, none, .mov (.u 9)⟩,
     ⟨some 11, false, some ((.u 10), true), .faddr 1 (.t 2)⟩,
     ⟨some 12, false, some ((.u 10), true), .load false 1 (.u 11)⟩,
     ⟨some 13, false, some ((.u 10), true), .faddr 1 (.t 3)⟩,
     ⟨some 14, false, some ((.u 10), true), .load false 1 (.u 13)⟩,
     ⟨some 15, false, some ((.u 10), true), .bin .eql (.u 12) (.u 14)⟩,
     ⟨some 16, false, none, .pick (.u 10) (.u 15) (.c (.bool false))⟩,
     ⟨some 17, false, none, .mov (.u 16)⟩,
     ⟨some 18, false, some ((.u 17), true), .faddr 2 (.t 2)⟩,
     ⟨some 19, false, some ((.u 17), true), .load false 1 (.u 18)⟩,
     ⟨some 20, false, some ((.u 17), true), .faddr 2 (.t 3)⟩,
     ⟨some 21, false, some ((.u 17), true), .load false 1 (.u 20)⟩,
     ⟨some 22, false, some ((.u 17), true), .bin .eql (.u 19) (.u 21)⟩,
     ⟨some 23, false, none, .pick (.u 17) (.u 22) (.c (.bool false))⟩,
     ⟨some 24, false, none, .mov (.u 23)⟩,
     ⟨some 25, false, some ((.u 24), true), .faddr 3 (.t 2)⟩,
     ⟨some 26, false, some ((.u 24), true), .load false 1 (.u 25)⟩,
     ⟨some 27, false, some ((.u 24), true), .faddr 3 (.t 3)⟩,
     ⟨some 28, false, some ((.u 24), true), .load false 1 (.u 27)⟩,
     ⟨some 29, false, some ((.u 24), true), .call 51 [(.u 26), (.u 28)]⟩,
     ⟨some 30, false, none, .pick (.u 24) (.u 29) (.c (.bool false))⟩,
     ⟨some 4, true, none, .mov (.u 30)⟩])
  (.ret))
def r27 : List LRes := [.slot 4]
theorem t27 : (Try.f27.body.bind (trCode v27 Try.prog Try.f27.ntmps)) = some c27 ∧ trRes v27 Try.prog Try.f27.results.toList = some r27 := ⟨by kernel_rfl, by kernel_rfl⟩

def v28 : Nat → Bool := fun t => [0, 1, 4, 5, 6, 7, 11].contains t
def c28 : LCode :=
  .seq (.region [⟨some 4, true, none, .mov (.c (.fsl 1 0 []))⟩])
  (.seq (.region [⟨some 5, true, none, .mov (.c (.fsl 1 0 []))⟩])
  (.seq (.seq (.region [⟨some 6, true, none, .mov (.c (.int .i64 0))⟩])
   (.block 0 (.loop (.seq (.seq (.region [⟨some 8, false, none, .mov (.t 6)⟩,
         ⟨some 9, false, none, .mov (.t 0)⟩,
         ⟨some 10, false, none, .lenL (.u 9)⟩,
         ⟨some 11, true, none, .bin .lss (.u 8) (.u 10)⟩])
      (.cond (.t 11)
       (.skip)
       (.exit 0)))
     (.seq (.block 1 (.seq (.region [⟨some 14, false, none, .mov (.t 0)⟩,
          ⟨some 15, false, none, .mov (.t 6)⟩,
          ⟨some 16, false, none, .iaS 4 (.u 14) (.u 15)⟩,
          ⟨some 17, false, none, .load true 4 (.u 16)⟩,
          ⟨some 7, true, none, .zero [.int .i64 0, .int .i64 0, .int .i64 0, .fsl 1 0 []]⟩,
          ⟨none, true, none, .store 4 (.t 7) (.u 17)⟩])
       (.seq (.region [⟨some 18, false, none, .faddr 3 (.t 7)⟩,
          ⟨some 19, false, none, .load false 1 (.u 18)⟩,
          ⟨some 20, false, none, .app 4 48 (.c (.fsl 1 0 [])) (.u 19)⟩,
          ⟨some 21, false, none, .faddr 3 (.t 7)⟩,
          ⟨none, true, none, .store 1 (.u 21) (.u 20)⟩])
       (.seq (.region [⟨some 22, false, none, .mov (.t 1)⟩,
          ⟨some 23, false, none, .faddr 2 (.t 7)⟩,
          ⟨none, true, none, .store 1 (.u 23) (.u 22)⟩])
       (.region [⟨some 24, false, none, .mov (.t 5)⟩,
         ⟨some 25, false, none, .load true 4 (.t 7)⟩,
         ⟨some 26, false, none, .mkS 4 1 [.int .i64 0, .int .i64 0, .int .i64 0, .fsl 1 0 []] [(0, 4, (.u 25))]⟩,
         ⟨some 27, false, none, .app 4 48 (.u 24) (.u 26)⟩,
         ⟨some 5, true, none, .mov (.u 27)⟩])))))
     (.region [⟨some 12, false, none, .mov (.t 6)⟩,
       ⟨some 13, false, none, .bin .add (.u 12) (.c (.int .i64 1))⟩,
       ⟨some 6, true, none, .mov (.u 13)⟩]))))))
  (.seq (.region [⟨some 28, false, none, .mov (.t 5)⟩,
     ⟨some 4, true, none, .mov (.u 28)⟩])
  (.ret))))
def r28 : List LRes := [.slot 4]
theorem t28 : (Try.f28.body.bind (trCode v28 Try.prog Try.f28.ntmps)) = some c28 ∧ trRes v28 Try.prog Try.f28.results.toList = some r28 := ⟨by kernel_rfl, by kernel_rfl⟩

def v29 : Nat → Bool := fun t => [0, 1, 2, 4].contains t
def c29 : LCode :=
  .seq (.region [⟨some 2, true, none, .box (.t 0)⟩,
     ⟨some 4, true, none, .zero [.int .i64 0, .int .i64 0, .int .i64 0, .fsl 1 0 []]⟩])
  (.seq (.regionD [⟨0, [1], false, [], ⟨some 5, false, none, .mov (.t 1)⟩⟩,
     ⟨1, [2], false, [], ⟨some 6, false, none, .faddr 0 (.t 2)⟩⟩,
     ⟨2, [6], true, [], ⟨some 7, false, none, .load false 1 (.u 6)⟩⟩,
     ⟨4, [2], false, [], ⟨some 9, false, none, .faddr 1 (.t 2)⟩⟩,
     ⟨5, [9], true, [], ⟨some 10, false, none, .load false 1 (.u 9)⟩⟩,
     ⟨7, [2], false, [], ⟨some 12, false, none, .faddr 2 (.t 2)⟩⟩,
     ⟨8, [12], true, [], ⟨some 13, false, none, .load false 1 (.u 12)⟩⟩,
     ⟨10, [2], false, [], ⟨some 15, false, none, .faddr 3 (.t 2)⟩⟩,
     ⟨11, [15], true, [], ⟨some 16, false, none, .load false 1 (.u 15)⟩⟩,
     ⟨13, [2], false, [], ⟨some 18, false, none, .faddr 4 (.t 2)⟩⟩,
     ⟨14, [18], true, [], ⟨some 19, false, none, .load false 1 (.u 18)⟩⟩,
     ⟨3, [7], false, [14, 11, 8, 5], ⟨some 8, false, none, .call 52 [(.c (.str [102, 105, 114, 115, 116])), (.u 7)]⟩⟩,
     ⟨6, [10], false, [14, 11, 8], ⟨some 11, false, none, .call 52 [(.c (.str [108, 97, 115, 116])), (.u 10)]⟩⟩,
     ⟨9, [13], false, [14, 11], ⟨some 14, false, none, .call 52 [(.c (.str [114, 97, 116, 101, 100])), (.u 13)]⟩⟩,
     ⟨12, [16], false, [14], ⟨some 17, false, none, .call 52 [(.c (.str [102, 117, 108, 108])), (.u 16)]⟩⟩,
     ⟨15, [19], false, [], ⟨some 20, false, none, .call 52 [(.c (.str [115, 116, 97, 108, 108, 101, 100])), (.u 19)]⟩⟩,
     ⟨16, [8, 11, 14, 17, 20], false, [], ⟨some 21, false, none, .mkS 4 5 [.str [], .int .i64 0, .int .i64 0, .str []] [(0, 4, (.u 8)), (4, 4, (.u 11)), (8, 4, (.u 14)), (12, 4, (.u 17)), (16, 4, (.u 20))]⟩⟩,
     ⟨17, [5, 21], false, [], ⟨some 22, false, none, .build [.int .i64 0, .int .i64 0, .int .i64 0, .fsl 1 0 []] [(0, 1, (.c (.int .i64 1331))), (1, 1, (.u 5)), (3, 1, (.u 21))]⟩⟩,
     ⟨18, [4, 22], false, [], ⟨none, true, none, .store 4 (.t 4) (.u 22)⟩⟩])
  (.ret))
def r29 : List LRes := [.cell true 4 4]
theorem t29 : (Try.f29.body.bind (trCode v29 Try.prog Try.f29.ntmps)) = some c29 ∧ trRes v29 Try.prog Try.f29.results.toList = some r29 := ⟨by kernel_rfl, by kernel_rfl⟩

def v30 : Nat → Bool := fun t => [0, 1, 4, 5, 7, 29, 45].contains t
def c30 : LCode :=
  .seq (.region [⟨some 4, true, none, .mov (.c (.int .i64 0))⟩])
  (.seq (.seq (.region [⟨some 6, false, none, .mov (.t 1)⟩,
      ⟨some 7, true, none, .bin .lss (.u 6) (.c (.int .i64 1))⟩])
   (.cond (.t 7)
    (.seq (.region [⟨some 4, true, none, .mov (.c (.int .i64 0))⟩])
    (.ret))
    (.skip)))
  (.seq (.region [⟨some 8, false, none, .mov (.t 0)⟩,
     ⟨some 9, false, none, .nilc (.u 8)⟩,
     ⟨some 10, false, none, .faddr 1 (.u 9)⟩,
     ⟨some 11, false, none, .load false 1 (.u 10)⟩,
     ⟨some 12, false, none, .bin .add (.u 11) (.c (.int .i64 1))⟩,
     ⟨some 13, false, none, .nilc (.u 8)⟩,
     ⟨some 14, false, none, .faddr 1 (.u 13)⟩,
     ⟨none, true, none, .store 1 (.u 14) (.u 12)⟩])
  (.seq (.region [⟨some 15, false, none, .mov (.t 0)⟩,
     ⟨some 16, false, none, .nilc (.u 15)⟩,
     ⟨some 17, false, none, .faddr 1 (.u 16)⟩,
     ⟨some 18, false, none, .load false 1 (.u 17)⟩,
     ⟨some 19, false, none, .bin .mul (.u 18) (.c (.int .i64 7))⟩,
     ⟨some 5, true, none, .mov (.u 19)⟩])
  (.seq (.seq (.regionD [⟨0, [0], false, [], ⟨some 20, false, none, .mov (.t 0)⟩⟩,
      ⟨1, [20], false, [], ⟨some 21, false, none, .nilc (.u 20)⟩⟩,
      ⟨2, [21], false, [], ⟨some 22, false, none, .faddr 1 (.u 21)⟩⟩,
      ⟨3, [22], true, [], ⟨some 23, false, none, .load false 1 (.u 22)⟩⟩,
      ⟨4, [0], false, [], ⟨some 24, false, none, .mov (.t 0)⟩⟩,
      ⟨5, [24], false, [], ⟨some 25, false, none, .nilc (.u 24)⟩⟩,
      ⟨6, [25], false, [], ⟨some 26, false, none, .faddr 0 (.u 25)⟩⟩,
      ⟨7, [26], true, [], ⟨some 27, false, none, .load false 1 (.u 26)⟩⟩,
      ⟨8, [27], false, [], ⟨some 28, false, none, .lenL (.u 27)⟩⟩,
      ⟨9, [23, 28], false, [], ⟨some 29, true, none, .bin .leq (.u 23) (.u 28)⟩⟩])
   (.cond (.t 29)
    (.regionD [⟨0, [0], false, [], ⟨some 30, false, none, .mov (.t 0)⟩⟩,
      ⟨1, [30], false, [], ⟨some 31, false, none, .nilc (.u 30)⟩⟩,
      ⟨2, [31], false, [], ⟨some 32, false, none, .faddr 0 (.u 31)⟩⟩,
      ⟨3, [32], true, [], ⟨some 33, false, none, .load false 1 (.u 32)⟩⟩,
      ⟨4, [0], false, [], ⟨some 34, false, none, .mov (.t 0)⟩⟩,
      ⟨5, [34], false, [], ⟨some 35, false, none, .nilc (.u 34)⟩⟩,
      ⟨6, [35], false, [], ⟨some 36, false, none, .faddr 1 (.u 35)⟩⟩,
      ⟨7, [36], true, [], ⟨some 37, false, none, .load false 1 (.u 36)⟩⟩,
      ⟨8, [37], false, [], ⟨some 38, false, none, .bin .sub (.u 37) (.c (.int .i64 1))⟩⟩,
      ⟨9, [33, 38], false, [], ⟨some 39, false, none, .iaS 1 (.u 33) (.u 38)⟩⟩,
      ⟨10, [39], true, [], ⟨some 40, false, none, .load false 1 (.u 39)⟩⟩,
      ⟨11, [40], false, [], ⟨some 5, true, none, .mov (.u 40)⟩⟩])
    (.skip)))
  (.seq (.region [⟨some 41, false, none, .mov (.t 5)⟩,
     ⟨some 42, false, none, .mov (.t 1)⟩,
     ⟨some 43, false, none, .bin .rem (.u 41) (.u 42)⟩,
     ⟨some 5, true, none, .mov (.u 43)⟩])
  (.seq (.seq (.region [⟨some 44, false, none, .mov (.t 5)⟩,
      ⟨some 45, true, none, .bin .lss (.u 44) (.c (.int .i64 0))⟩])
   (.cond (.t 45)
    (.region [⟨some 46, false, none, .mov (.t 5)⟩,
      ⟨some 47, false, none, .mov (.t 1)⟩,
      ⟨some 48, false, none, .bin .add (.u 46) (.u 47)⟩,
      ⟨some 5, true, none, .mov (.u 48)⟩])
    (.skip)))
  (.seq (.region [⟨some 49, false, none, .mov (.t 5)⟩,
     ⟨some 4, true, none, .mov (.u 49)⟩])
  (.ret))))))))
def r30 : List LRes := [.slot 4]
theorem t30 : (Try.f30.body.bind (trCode v30 Try.prog Try.f30.ntmps)) = some c30 ∧ trRes v30 Try.prog Try.f30.results.toList = some r30 := ⟨by kernel_rfl, by kernel_rfl⟩

def v31 : Nat → Bool := fun t => [0, 1, 4, 5, 6, 7, 8, 9, 10, 11, 12, 56, 57, 60].contains t
def c31 : LCode :=
  .seq (.region [⟨some 4, true, none, .mov (.c (.bool false))⟩])
  (.seq (.regionD [⟨0, [0], false, [], ⟨some 14, false, none, .mov (.t 0)⟩⟩,
     ⟨1, [14], false, [], ⟨some 15, false, none, .nilc (.u 14)⟩⟩,
     ⟨2, [15], false, [], ⟨some 16, false, none, .faddr 0 (.u 15)⟩⟩,
     ⟨3, [16], true, [], ⟨some 17, false, none, .load true 17 (.u 16)⟩⟩,
     ⟨4, [0], false, [], ⟨some 18, false, none, .mov (.t 0)⟩⟩,
     ⟨5, [18], false, [], ⟨some 19, false, none, .nilc (.u 18)⟩⟩,
     ⟨6, [19], false, [], ⟨some 20, false, none, .faddr 35 (.u 19)⟩⟩,
     ⟨7, [20], true, [], ⟨some 21, false, none, .load false 1 (.u 20)⟩⟩,
     ⟨8, [1], false, [], ⟨some 22, false, none, .mov (.t 1)⟩⟩,
     ⟨9, [17, 21, 22], false, [], ⟨some 23, false, none, .call 24 [(.u 17), (.u 21), (.u 22)]⟩⟩,
     ⟨10, [23], false, [], ⟨some 13, false, none, .mov (.u 23)⟩⟩,
     ⟨11, [13], false, [], ⟨some 24, false, none, .ext (.u 13) 0⟩⟩,
     ⟨12, [13], false, [], ⟨some 25, false, none, .ext (.u 13) 1⟩⟩,
     ⟨13, [13], false, [], ⟨some 26, false, none, .ext (.u 13) 2⟩⟩,
     ⟨14, [], false, [], ⟨some 5, true, none, .zero [.int .i64 0, .int .i64 0, .int .i64 0, .int .i64 0, .int .i64 0, .fsl 1 0 [], .fsl 1 0 [], .int .i64 0, .int .i64 0, .int .i64 0, .int .i64 0, .int .i64 0, .int .i64 0, .int .i64 0, .int .i64 0, .bool false, .fsl 1 0 []]⟩⟩,
     ⟨15, [5, 24], false, [], ⟨none, true, none, .store 17 (.t 5) (.u 24)⟩⟩,
     ⟨16, [25], false, [], ⟨some 6, true, none, .mov (.u 25)⟩⟩,
     ⟨17, [26], false, [], ⟨some 7, true, none, .mov (.u 26)⟩⟩])
  (.seq (.regionD [⟨0, [0], false, [], ⟨some 28, false, none, .mov (.t 0)⟩⟩,
     ⟨1, [28], false, [], ⟨some 29, false, none, .nilc (.u 28)⟩⟩,
     ⟨2, [29], false, [], ⟨some 30, false, none, .faddr 17 (.u 29)⟩⟩,
     ⟨3, [30], true, [], ⟨some 31, false, none, .load true 17 (.u 30)⟩⟩,
     ⟨4, [0], false, [], ⟨some 32, false, none, .mov (.t 0)⟩⟩,
     ⟨5, [32], false, [], ⟨some 33, false, none, .nilc (.u 32)⟩⟩,
     ⟨6, [33], false, [], ⟨some 34, false, none, .faddr 35 (.u 33)⟩⟩,
     ⟨7, [34], true, [], ⟨some 35, false, none, .load false 1 (.u 34)⟩⟩,
     ⟨8, [1], false, [], ⟨some 36, false, none, .mov (.t 1)⟩⟩,
     ⟨9, [31, 35, 36], false, [], ⟨some 37, false, none, .call 14 [(.u 31), (.u 35), (.u 36)]⟩⟩,
     ⟨10, [37], false, [], ⟨some 27, false, none, .mov (.u 37)⟩⟩,
     ⟨11, [27], false, [], ⟨some 38, false, none, .ext (.u 27) 0⟩⟩,
     ⟨12, [27], false, [], ⟨some 39, false, none, .ext (.u 27) 1⟩⟩,
     ⟨13, [27], false, [], ⟨some 40, false, none, .ext (.u 27) 2⟩⟩,
     ⟨14, [], false, [], ⟨some 8, true, none, .zero [.int .i64 0, .int .i64 0, .int .i64 0, .int .i64 0, .int .i64 0, .fsl 1 0 [], .fsl 1 0 [], .int .i64 0, .int .i64 0, .int .i64 0, .int .i64 0, .int .i64 0, .int .i64 0, .int .i64 0, .int .i64 0, .bool false, .fsl 1 0 []]⟩⟩,
     ⟨15, [8, 38], false, [], ⟨none, true, none, .store 17 (.t 8) (.u 38)⟩⟩,
     ⟨16, [39], false, [], ⟨some 9, true, none, .mov (.u 39)⟩⟩,
     ⟨17, [40], false, [], ⟨some 10, true, none, .mov (.u 40)⟩⟩])
  (.seq (.regionD [⟨0, [0], false, [], ⟨some 41, false, none, .mov (.t 0)⟩⟩,
     ⟨1, [0], false, [], ⟨some 42, false, none, .mov (.t 0)⟩⟩,
     ⟨2, [5], true, [], ⟨some 43, false, none, .load true 17 (.t 5)⟩⟩,
     ⟨3, [8], true, [], ⟨some 44, false, none, .load true 17 (.t 8)⟩⟩,
     ⟨4, [41], false, [], ⟨some 45, false, none, .nilc (.u 41)⟩⟩,
     ⟨5, [45], false, [], ⟨some 46, false, none, .faddr 0 (.u 45)⟩⟩,
     ⟨6, [46, 43], false, [3], ⟨none, true, none, .store 17 (.u 46) (.u 43)⟩⟩,
     ⟨7, [42], false, [], ⟨some 47, false, none, .nilc (.u 42)⟩⟩,
     ⟨8, [47], false, [], ⟨some 48, false, none, .faddr 17 (.u 47)⟩⟩,
     ⟨9, [48, 44], false, [], ⟨none, true, none, .store 17 (.u 48) (.u 44)⟩⟩])
  (.seq (.seq (.region [⟨some 49, false, none, .mov (.t 6)⟩,
      ⟨some 50, false, none, .mov (.t 9)⟩,
      ⟨some 51, false, none, .bin .neq (.u 49) (.u 50)⟩,
      ⟨some 52, false, none, .mov (.u 51)⟩,
      ⟨some 53, false, some ((.u 52), false), .mov (.t 7)⟩,
      ⟨some 54, false, some ((.u 52), false), .mov (.t 10)⟩,
      ⟨some 55, false, some ((.u 52), false), .eqB true (.u 53) (.u 54)⟩,
      ⟨some 56, true, none, .pick (.u 52) (.c (.bool true)) (.u 55)⟩])
   (.cond (.t 56)
    (.seq (.region [⟨some 4, true, none, .mov (.c (.bool false))⟩])
    (.ret))
    (.skip)))
  (.seq (.seq (.region [⟨some 57, true, none, .mov (.t 10)⟩])
   (.cond (.t 57)
    (.seq (.region [⟨some 11, true, none, .mov (.c (.fsl 1 0 []))⟩])
    (.seq (.seq (.region [⟨some 12, true, none, .mov (.c (.int .i64 0))⟩])
     (.block 0 (.loop (.seq (.seq (.region [⟨some 58, false, none, .mov (.t 12)⟩,
           ⟨some 59, false, none, .mov (.t 1)⟩,
           ⟨some 60, true, none, .bin .lss (.u 58) (.u 59)⟩])
        (.cond (.t 60)
         (.skip)
         (.exit 0)))
       (.seq (.block 1 (.region [⟨some 63, false, none, .mov (.t 11)⟩,
           ⟨some 64, false, none, .mov (.t 0)⟩,
           ⟨some 65, false, none, .nilc (.u 64)⟩,
           ⟨some 66, false, none, .faddr 35 (.u 65)⟩,
           ⟨some 67, false, none, .load false 1 (.u 66)⟩,
           ⟨some 68, false, none, .mov (.t 9)⟩,
           ⟨some 69, false, none, .mov (.t 12)⟩,
           ⟨some 70, false, none, .build [.str [], .int .i64 0, .int .i64 0, .str []] [(0, 1, (.c (.str [105, 116, 101, 109]))), (1, 1, (.c (.int .i64 1))), (2, 1, (.u 69))]⟩,
           ⟨some 71, false, none, .mkS 4 1 [.str [], .int .i64 0, .int .i64 0, .str []] [(0, 4, (.u 70))]⟩,
           ⟨some 72, false, none, .build [.int .i64 0, .int .i64 0, .int .i64 0, .fsl 1 0 []] [(0, 1, (.c (.int .i64 1302))), (1, 1, (.u 67)), (2, 1, (.u 68)), (3, 1, (.u 71))]⟩,
           ⟨some 73, false, none, .mkS 4 1 [.int .i64 0, .int .i64 0, .int .i64 0, .fsl 1 0 []] [(0, 4, (.u 72))]⟩,
           ⟨some 74, false, none, .app 4 48 (.u 63) (.u 73)⟩,
           ⟨some 11, true, none, .mov (.u 74)⟩]))
       (.region [⟨some 61, false, none, .mov (.t 12)⟩,
         ⟨some 62, false, none, .bin .add (.u 61) (.c (.int .i64 1))⟩,
         ⟨some 12, true, none, .mov (.u 62)⟩]))))))
    (.seq (.region [⟨some 75, false, none, .mov (.t 0)⟩,
       ⟨some 76, false, none, .mov (.t 0)⟩,
       ⟨some 77, false, none, .nilc (.u 76)⟩,
       ⟨some 78, false, none, .faddr 34 (.u 77)⟩,
       ⟨some 79, false, none, .load false 1 (.u 78)⟩,
       ⟨some 80, false, none, .mov (.t 11)⟩,
       ⟨some 81, false, none, .mkS 1 1 [.fsl 1 0 []] [(0, 1, (.u 80))]⟩,
       ⟨some 82, false, none, .app 1 24 (.u 79) (.u 81)⟩,
       ⟨some 83, false, none, .nilc (.u 75)⟩,
       ⟨some 84, false, none, .faddr 34 (.u 83)⟩,
       ⟨none, true, none, .store 1 (.u 84) (.u 82)⟩])
    (.region [⟨some 85, false, none, .mov (.t 0)⟩,
      ⟨some 86, false, none, .mov (.t 0)⟩,
      ⟨some 87, false, none, .nilc (.u 86)⟩,
      ⟨some 88, false, none, .faddr 37 (.u 87)⟩,
      ⟨some 89, false, none, .load false 1 (.u 88)⟩,
      ⟨some 90, false, none, .mov (.t 9)⟩,
      ⟨some 91, false, none, .mkS 1 1 [.int .i64 0] [(0, 1, (.u 90))]⟩,
      ⟨some 92, false, none, .app 1 8 (.u 89) (.u 91)⟩,
      ⟨some 93, false, none, .nilc (.u 85)⟩,
      ⟨some 94, false, none, .faddr 37 (.u 93)⟩,
      ⟨none, true, none, .store 1 (.u 94) (.u 92)⟩]))))
    (.skip)))
  (.seq (.region [⟨some 4, true, none, .mov (.c (.bool true))⟩])
  (.ret)))))))
def r31 : List LRes := [.slot 4]
theorem t31 : (Try.f31.body.bind (trCode v31 Try.prog Try.f31.ntmps)) = some c31 ∧ trRes v31 Try.prog Try.f31.results.toList = some r31 := ⟨by kernel_rfl, by kernel_rfl⟩

def v32 : Nat → Bool := fun t => [0, 1, 4, 5, 58, 1000001].contains t
def c32 : LCode :=
  .seq (.region [⟨some 6, false, none, .mov (.t 0)⟩,
     ⟨some 7, false, none, .nilc (.u 6)⟩,
     ⟨some 8, false, none, .faddr 34 (.u 7)⟩,
     ⟨some 9, false, none, .load false 1 (.u 8)⟩,
     ⟨some 10, false, none, .mov (.t 1)⟩,
     ⟨some 11, false, none, .iaS 1 (.u 9) (.u 10)⟩,
     ⟨some 12, false, none, .load false 1 (.u 11)⟩,
     ⟨some 13, false, none, .iaS 4 (.u 12) (.c (.int .i64 0))⟩,
     ⟨some 14, false, none, .load true 4 (.u 13)⟩,
     ⟨some 4, true, none, .zero [.int .i64 0, .int .i64 0, .int .i64 0, .fsl 1 0 []]⟩,
     ⟨none, true, none, .store 4 (.t 4) (.u 14)⟩])
  (.seq (.regionD [⟨0, [0], false, [], ⟨some 15, false, none, .mov (.t 0)⟩⟩,
     ⟨1, [15], false, [], ⟨some 16, false, none, .nilc (.u 15)⟩⟩,
     ⟨2, [16], false, [], ⟨some 17, false, none, .faddr 34 (.u 16)⟩⟩,
     ⟨3, [17], true, [], ⟨some 18, false, none, .load false 1 (.u 17)⟩⟩,
     ⟨4, [1], false, [], ⟨some 19, false, none, .mov (.t 1)⟩⟩,
     ⟨5, [0], false, [], ⟨some 20, false, none, .mov (.t 0)⟩⟩,
     ⟨6, [20], false, [], ⟨some 21, false, none, .nilc (.u 20)⟩⟩,
     ⟨7, [21], false, [], ⟨some 22, false, none, .faddr 34 (.u 21)⟩⟩,
     ⟨8, [22], true, [], ⟨some 23, false, none, .load false 1 (.u 22)⟩⟩,
     ⟨9, [1], false, [], ⟨some 24, false, none, .mov (.t 1)⟩⟩,
     ⟨10, [23, 24], false, [], ⟨some 25, false, none, .iaS 1 (.u 23) (.u 24)⟩⟩,
     ⟨11, [25], true, [], ⟨some 26, false, none, .load false 1 (.u 25)⟩⟩,
     ⟨12, [26], false, [], ⟨some 27, false, none, .slL 4 (.u 26) (some (.c (.int .i64 1))) none none⟩⟩,
     ⟨13, [18, 19], false, [], ⟨some 28, false, none, .iaS 1 (.u 18) (.u 19)⟩⟩,
     ⟨14, [28, 27], false, [], ⟨none, true, none, .store 1 (.u 28) (.u 27)⟩⟩])
  (.seq (.region [⟨some 29, false, none, .mov (.t 0)⟩,
     ⟨some 30, false, none, .nilc (.u 29)⟩,
     ⟨some 31, false, none, .faddr 34 (.u 30)⟩,
     ⟨some 32, false, none, .load false 1 (.u 31)⟩,
     ⟨some 33, false, none, .mov (.t 1)⟩,
     ⟨some 34, false, none, .iaS 1 (.u 32) (.u 33)⟩,
     ⟨some 35, false, none, .load false 1 (.u 34)⟩,
     ⟨some 36, false, none, .lenL (.u 35)⟩,
     ⟨some 37, false, none, .bin .eql (.u 36) (.c (.int .i64 0))⟩,
     ⟨some 5, true, none, .mov (.u 37)⟩])
  (.seq (.regionD [⟨0, [0], false, [], ⟨some 38, false, none, .mov (.t 0)⟩⟩,
     ⟨1, [0], false, [], ⟨some 39, false, none, .mov (.t 0)⟩⟩,
     ⟨2, [0], false, [], ⟨some 40, false, none, .mov (.t 0)⟩⟩,
     ⟨3, [40], false, [], ⟨some 41, false, none, .nilc (.u 40)⟩⟩,
     ⟨4, [41], false, [], ⟨some 42, false, none, .faddr 0 (.u 41)⟩⟩,
     ⟨5, [42], true, [], ⟨some 43, false, none, .load true 17 (.u 42)⟩⟩,
     ⟨6, [4], true, [], ⟨some 44, false, none, .load true 4 (.t 4)⟩⟩,
     ⟨7, [5], false, [], ⟨some 45, false, none, .mov (.t 5)⟩⟩,
     ⟨9, [0], false, [], ⟨some 47, false, none, .mov (.t 0)⟩⟩,
     ⟨10, [47], false, [], ⟨some 48, false, none, .nilc (.u 47)⟩⟩,
     ⟨11, [48], false, [], ⟨some 49, false, none, .faddr 17 (.u 48)⟩⟩,
     ⟨12, [49], true, [], ⟨some 50, false, none, .load true 17 (.u 49)⟩⟩,
     ⟨13, [4], true, [], ⟨some 51, false, none, .load true 4 (.t 4)⟩⟩,
     ⟨14, [5], false, [], ⟨some 52, false, none, .mov (.t 5)⟩⟩,
     ⟨8, [43, 44, 45], false, [13, 12], ⟨some 46, false, none, .call 25 [(.u 43), (.u 44), (.u 45)]⟩⟩,
     ⟨15, [50, 51, 52], false, [], ⟨some 53, false, none, .call 53 [(.u 50), (.u 51), (.u 52)]⟩⟩,
     ⟨16, [38], false, [], ⟨some 54, false, none, .nilc (.u 38)⟩⟩,
     ⟨17, [54], false, [], ⟨some 55, false, none, .faddr 0 (.u 54)⟩⟩,
     ⟨18, [55, 46], false, [], ⟨none, true, none, .store 17 (.u 55) (.u 46)⟩⟩,
     ⟨19, [39], false, [], ⟨some 56, false, none, .nilc (.u 39)⟩⟩,
     ⟨20, [56], false, [], ⟨some 57, false, none, .faddr 17 (.u 56)⟩⟩,
     ⟨21, [57, 53], false, [], ⟨none, true, none, .store 17 (.u 57) (.u 53)⟩⟩])
  (.seq (.region [⟨some 58, true, none, .mov (.t 5)⟩])
  (.cond (.t 58)
   (.regionD [⟨0, [0], false, [], ⟨some 59, false, none, .mov (.t 0)⟩⟩,
     ⟨1, [0], false, [], ⟨some 60, false, none, .mov (.t 0)⟩⟩,
     ⟨2, [60], false, [], ⟨some 61, false, none, .nilc (.u 60)⟩⟩,
     ⟨3, [61], false, [], ⟨some 62, false, none, .faddr 34 (.u 61)⟩⟩,
     ⟨4, [62], true, [], ⟨some 63, false, none, .load false 1 (.u 62)⟩⟩,
     ⟨5, [1], false, [], ⟨some 64, false, none, .mov (.t 1)⟩⟩,
     ⟨6, [63, 64], false, [], ⟨some 65, false, none, .slL 1 (.u 63) none (some (.u 64)) none⟩⟩,
     ⟨8, [0], false, [], ⟨some 67, false, none, .mov (.t 0)⟩⟩,
     ⟨9, [67], false, [], ⟨some 68, false, none, .nilc (.u 67)⟩⟩,
     ⟨10, [68], false, [], ⟨some 69, false, none, .faddr 34 (.u 68)⟩⟩,
     ⟨11, [69], true, [], ⟨some 70, false, none, .load false 1 (.u 69)⟩⟩,
     ⟨12, [1], false, [], ⟨some 71, false, none, .mov (.t 1)⟩⟩,
     ⟨13, [71], false, [], ⟨some 72, false, none, .bin .add (.u 71) (.c (.int .i64 1))⟩⟩,
     ⟨14, [70, 72], false, [], ⟨some 73, false, none, .slL 1 (.u 70) (some (.u 72)) none none⟩⟩,
     ⟨7, [65], false, [11], ⟨some 66, false, none, .appF 1 24 (.c (.fsl 1 0 [])) (.u 65)⟩⟩,
     ⟨15, [66, 73], false, [], ⟨some 74, false, none, .appF 1 24 (.u 66) (.u 73)⟩⟩,
     ⟨16, [59], false, [], ⟨some 75, false, none, .nilc (.u 59)⟩⟩,
     ⟨17, [75], false, [], ⟨some 76, false, none, .faddr 34 (.u 75)⟩⟩,
     ⟨18, [76, 74], false, [], ⟨none, true, none, .store 1 (.u 76) (.u 74)⟩⟩])
   (.skip))))))
def r32 : List LRes := []
theorem t32 : (Try.f32.body.bind (trCode v32 Try.prog Try.f32.ntmps)) = some c32 ∧ trRes v32 Try.prog Try.f32.results.toList = some r32 := ⟨by kernel_rfl, by kernel_rfl⟩

def v33 : Nat → Bool := fun t => [0, 1, 4, 5, 6, 7, 8].contains t
def c33 : LCode :=
  .seq (.region [⟨some 4, true, none, .mov (.c (.bool false))⟩])
  (.seq (.regionD [⟨0, [0], false, [], ⟨some 10, false, none, .mov (.t 0)⟩⟩,
     ⟨1, [10], false, [], ⟨some 11, false, none, .nilc (.u 10)⟩⟩,
     ⟨2, [11], false, [], ⟨some 12, false, none, .faddr 0 (.u 11)⟩⟩,
     ⟨3, [12], true, [], ⟨some 13, false, none, .load true 17 (.u 12)⟩⟩,
     ⟨4, [0], false, [], ⟨some 14, false, none, .mov (.t 0)⟩⟩,
     ⟨5, [14], false, [], ⟨some 15, false, none, .nilc (.u 14)⟩⟩,
     ⟨6, [15], false, [], ⟨some 16, false, none, .faddr 35 (.u 15)⟩⟩,
     ⟨7, [16], true, [], ⟨some 17, false, none, .load false 1 (.u 16)⟩⟩,
     ⟨8, [1], false, [], ⟨some 18, false, none, .mov (.t 1)⟩⟩,
     ⟨9, [13, 17, 18], false, [], ⟨some 19, false, none, .call 26 [(.u 13), (.u 17), (.u 18)]⟩⟩,
     ⟨10, [19], false, [], ⟨some 9, false, none, .mov (.u 19)⟩⟩,
     ⟨11, [9], false, [], ⟨some 20, false, none, .ext (.u 9) 0⟩⟩,
     ⟨12, [9], false, [], ⟨some 21, false, none, .ext (.u 9) 1⟩⟩,
     ⟨13, [], false, [], ⟨some 5, true, none, .zero [.int .i64 0, .int .i64 0, .int .i64 0, .int .i64 0, .int .i64 0, .fsl 1 0 [], .fsl 1 0 [], .int .i64 0, .int .i64 0, .int .i64 0, .int .i64 0, .int .i64 0, .int .i64 0, .int .i64 0, .int .i64 0, .bool false, .fsl 1 0 []]⟩⟩,
     ⟨14, [5, 20], false, [], ⟨none, true, none, .store 17 (.t 5) (.u 20)⟩⟩,
     ⟨15, [21], false, [], ⟨some 6, true, none, .mov (.u 21)⟩⟩])
  (.seq (.regionD [⟨0, [0], false, [], ⟨some 23, false, none, .mov (.t 0)⟩⟩,
     ⟨1, [23], false, [], ⟨some 24, false, none, .nilc (.u 23)⟩⟩,
     ⟨2, [24], false, [], ⟨some 25, false, none, .faddr 17 (.u 24)⟩⟩,
     ⟨3, [25], true, [], ⟨some 26, false, none, .load true 17 (.u 25)⟩⟩,
     ⟨4, [0], false, [], ⟨some 27, false, none, .mov (.t 0)⟩⟩,
     ⟨5, [27], false, [], ⟨some 28, false, none, .nilc (.u 27)⟩⟩,
     ⟨6, [28], false, [], ⟨some 29, false, none, .faddr 35 (.u 28)⟩⟩,
     ⟨7, [29], true, [], ⟨some 30, false, none, .load false 1 (.u 29)⟩⟩,
     ⟨8, [1], false, [], ⟨some 31, false, none, .mov (.t 1)⟩⟩,
     ⟨9, [26, 30, 31], false, [], ⟨some 32, false, none, .call 54 [(.u 26), (.u 30), (.u 31)]⟩⟩,
     ⟨10, [32], false, [], ⟨some 22, false, none, .mov (.u 32)⟩⟩,
     ⟨11, [22], false, [], ⟨some 33, false, none, .ext (.u 22) 0⟩⟩,
     ⟨12, [22], false, [], ⟨some 34, false, none, .ext (.u 22) 1⟩⟩,
     ⟨13, [], false, [], ⟨some 7, true, none, .zero [.int .i64 0, .int .i64 0, .int .i64 0, .int .i64 0, .int .i64 0, .fsl 1 0 [], .fsl 1 0 [], .int .i64 0, .int .i64 0, .int .i64 0, .int .i64 0, .int .i64 0, .int .i64 0, .int .i64 0, .int .i64 0, .bool false, .fsl 1 0 []]⟩⟩,
     ⟨14, [7, 33], false, [], ⟨none, true, none, .store 17 (.t 7) (.u 33)⟩⟩,
     ⟨15, [34], false, [], ⟨some 8, true, none, .mov (.u 34)⟩⟩])
  (.seq (.regionD [⟨0, [0], false, [], ⟨some 35, false, none, .mov (.t 0)⟩⟩,
     ⟨1, [0], false, [], ⟨some 36, false, none, .mov (.t 0)⟩⟩,
     ⟨2, [5], true, [], ⟨some 37, false, none, .load true 17 (.t 5)⟩⟩,
     ⟨3, [7], true, [], ⟨some 38, false, none, .load true 17 (.t 7)⟩⟩,
     ⟨4, [35], false, [], ⟨some 39, false, none, .nilc (.u 35)⟩⟩,
     ⟨5, [39], false, [], ⟨some 40, false, none, .faddr 0 (.u 39)⟩⟩,
     ⟨6, [40, 37], false, [3], ⟨none, true, none, .store 17 (.u 40) (.u 37)⟩⟩,
     ⟨7, [36], false, [], ⟨some 41, false, none, .nilc (.u 36)⟩⟩,
     ⟨8, [41], false, [], ⟨some 42, false, none, .faddr 17 (.u 41)⟩⟩,
     ⟨9, [42, 38], false, [], ⟨none, true, none, .store 17 (.u 42) (.u 38)⟩⟩])
  (.seq (.region [⟨some 43, false, none, .mov (.t 0)⟩,
     ⟨some 44, false, none, .mov (.t 0)⟩,
     ⟨some 45, false, none, .nilc (.u 44)⟩,
     ⟨some 46, false, none, .faddr 36 (.u 45)⟩,
     ⟨some 47, false, none, .load false 1 (.u 46)⟩,
     ⟨some 48, false, none, .mov (.t 8)⟩,
     ⟨some 49, false, none, .app 4 48 (.u 47) (.u 48)⟩,
     ⟨some 50, false, none, .nilc (.u 43)⟩,
     ⟨some 51, false, none, .faddr 36 (.u 50)⟩,
     ⟨none, true, none, .store 1 (.u 51) (.u 49)⟩])
  (.seq (.region [⟨some 52, false, none, .mov (.t 6)⟩,
     ⟨some 53, false, none, .mov (.t 8)⟩,
     ⟨some 54, false, none, .call 41 [(.u 52), (.u 53)]⟩,
     ⟨some 4, true, none, .mov (.u 54)⟩])
  (.ret))))))
def r33 : List LRes := [.slot 4]
theorem t33 : (Try.f33.body.bind (trCode v33 Try.prog Try.f33.ntmps)) = some c33 ∧ trRes v33 Try.prog Try.f33.results.toList = some r33 := ⟨by kernel_rfl, by kernel_rfl⟩

def v34 : Nat → Bool := fun t => [0, 1, 2, 6].contains t
def c34 : LCode :=
  .seq (.region [⟨some 6, true, none, .mov (.c (.bool false))⟩])
  (.seq (.region [⟨some 7, false, none, .mov (.t 0)⟩,
     ⟨some 8, false, none, .bin .geq (.u 7) (.c (.int .i64 1))⟩,
     ⟨some 9, false, none, .mov (.u 8)⟩,
     ⟨some 10, false, some ((.u 9), true), .mov (.t 0)⟩,
     ⟨some 11, false, some ((.u 9), true), .bin .leq (.u 10) (.c (.int .i64 64))⟩,
     ⟨some 12, false, none, .pick (.u 9) (.u 11) (.c (.bool false))⟩,
     ⟨some 13, false, none, .mov (.u 12)⟩,
     ⟨some 14, false, some ((.u 13), true), .mov (.t 1)⟩,
     ⟨some 15, false, some ((.u 13), true), .bin .geq (.u 14) (.c (.int .i64 0))⟩,
     ⟨some 16, false, none, .pick (.u 13) (.u 15) (.c (.bool false))⟩,
     ⟨some 17, false, none, .mov (.u 16)⟩,
     ⟨some 18, false, some ((.u 17), true), .mov (.t 1)⟩,
     ⟨some 19, false, some ((.u 17), true), .bin .leq (.u 18) (.c (.int .i64 1000))⟩,
     ⟨some 20, false, none, .pick (.u 17) (.u 19) (.c (.bool false))⟩,
     ⟨some 21, false, none, .mov (.u 20)⟩,
     ⟨some 22, false, some ((.u 21), true), .mov (.t 2)⟩,
     ⟨some 23, false, some ((.u 21), true), .bin .geq (.u 22) (.c (.int .i64 1))⟩,
     ⟨some 24, false, none, .pick (.u 21) (.u 23) (.c (.bool false))⟩,
     ⟨some 25, false, none, .mov (.u 24)⟩,
     ⟨some 26, false, some ((.u 25), true), .mov (.t 2)⟩,
     ⟨some 27, false, some ((.u 25), true), .bin .leq (.u 26) (.c (.int .i64 3))⟩,
     ⟨some 28, false, none, .pick (.u 25) (.u 27) (.c (.bool false))⟩,
     ⟨some 6, true, none, .mov (.u 28)⟩])
  (.ret))
def r34 : List LRes := [.slot 6]
theorem t34 : (Try.f34.body.bind (trCode v34 Try.prog Try.f34.ntmps)) = some c34 ∧ trRes v34 Try.prog Try.f34.results.toList = some r34 := ⟨by kernel_rfl, by kernel_rfl⟩

def v35 : Nat → Bool := fun t => [0, 1, 2, 3, 4, 17].contains t
def c35 : LCode :=
  .seq (.region [⟨some 1, true, none, .box (.t 0)⟩,
     ⟨some 2, true, none, .zero [.int .i64 0, .int .i64 0, .int .i64 0, .int .i64 0, .int .i64 0, .fsl 1 0 [], .fsl 1 0 [], .int .i64 0, .int .i64 0, .int .i64 0, .int .i64 0, .int .i64 0, .int .i64 0, .int .i64 0, .int .i64 0, .bool false, .fsl 1 0 []]⟩])
  (.seq (.region [⟨some 5, false, none, .faddr 5 (.t 1)⟩,
     ⟨some 6, false, none, .load false 1 (.u 5)⟩,
     ⟨some 7, false, none, .app 1 8 (.c (.fsl 1 0 [])) (.u 6)⟩,
     ⟨some 8, false, none, .faddr 5 (.t 1)⟩,
     ⟨none, true, none, .store 1 (.u 8) (.u 7)⟩])
  (.seq (.region [⟨some 9, false, none, .faddr 16 (.t 1)⟩,
     ⟨some 10, false, none, .load false 1 (.u 9)⟩,
     ⟨some 11, false, none, .app 2 16 (.c (.fsl 1 0 [])) (.u 10)⟩,
     ⟨some 12, false, none, .faddr 16 (.t 1)⟩,
     ⟨none, true, none, .store 1 (.u 12) (.u 11)⟩])
  (.seq (.region [⟨some 3, true, none, .mov (.c (.fsl 1 0 []))⟩])
  (.seq (.seq (.region [⟨some 4, true, none, .mov (.c (.int .i64 0))⟩])
   (.block 0 (.loop (.seq (.seq (.region [⟨some 13, false, none, .mov (.t 4)⟩,
         ⟨some 14, false, none, .faddr 6 (.t 1)⟩,
         ⟨some 15, false, none, .load false 1 (.u 14)⟩,
         ⟨some 16, false, none, .lenL (.u 15)⟩,
         ⟨some 17, true, none, .bin .lss (.u 13) (.u 16)⟩])
      (.cond (.t 17)
       (.skip)
       (.exit 0)))
     (.seq (.block 1 (.regionD [⟨0, [3], false, [], ⟨some 20, false, none, .mov (.t 3)⟩⟩,
         ⟨1, [1], false, [], ⟨some 21, false, none, .faddr 6 (.t 1)⟩⟩,
         ⟨2, [21], true, [], ⟨some 22, false, none, .load false 1 (.u 21)⟩⟩,
         ⟨3, [4], false, [], ⟨some 23, false, none, .mov (.t 4)⟩⟩,
         ⟨4, [4], false, [], ⟨some 24, false, none, .mov (.t 4)⟩⟩,
         ⟨5, [24], false, [], ⟨some 25, false, none, .bin .add (.u 24) (.c (.int .i64 1))⟩⟩,
         ⟨6, [22, 23, 25], false, [], ⟨some 26, false, none, .slL 4 (.u 22) (some (.u 23)) (some (.u 25)) none⟩⟩,
         ⟨7, [1], false, [], ⟨some 27, false, none, .faddr 6 (.t 1)⟩⟩,
         ⟨8, [27], true, [], ⟨some 28, false, none, .load false 1 (.u 27)⟩⟩,
         ⟨9, [4], false, [], ⟨some 29, false, none, .mov (.t 4)⟩⟩,
         ⟨10, [28, 29], false, [], ⟨some 30, false, none, .iaS 4 (.u 28) (.u 29)⟩⟩,
         ⟨11, [30], false, [], ⟨some 31, false, none, .faddr 2 (.u 30)⟩⟩,
         ⟨12, [31], true, [], ⟨some 32, false, none, .load false 1 (.u 31)⟩⟩,
         ⟨13, [26, 32], false, [], ⟨some 33, false, none, .call 28 [(.u 26), (.u 32)]⟩⟩,
         ⟨14, [20, 33], false, [], ⟨some 34, false, none, .app 4 48 (.u 20) (.u 33)⟩⟩,
         ⟨15, [34], false, [], ⟨some 3, true, none, .mov (.u 34)⟩⟩]))
     (.region [⟨some 18, false, none, .mov (.t 4)⟩,
       ⟨some 19, false, none, .bin .add (.u 18) (.c (.int .i64 1))⟩,
       ⟨some 4, true, none, .mov (.u 19)⟩]))))))
  (.seq (.region [⟨some 35, false, none, .mov (.t 3)⟩,
     ⟨some 36, false, none, .faddr 6 (.t 1)⟩,
     ⟨none, true, none, .store 1 (.u 36) (.u 35)⟩])
  (.seq (.region [⟨some 37, false, none, .load true 17 (.t 1)⟩,
     ⟨none, true, none, .store 17 (.t 2) (.u 37)⟩])
  (.ret)))))))
def r35 : List LRes := [.cell true 17 2]
theorem t35 : (Try.f35.body.bind (trCode v35 Try.prog Try.f35.ntmps)) = some c35 ∧ trRes v35 Try.prog Try.f35.results.toList = some r35 := ⟨by kernel_rfl, by kernel_rfl⟩

def v36 : Nat → Bool := fun t => [0, 1, 2].contains t
def c36 : LCode :=
  .seq (.region [⟨some 1, true, none, .box (.t 0)⟩,
     ⟨some 2, true, none, .mov (.c (.bool false))⟩])
  (.seq (.region [⟨some 3, false, none, .faddr 7 (.t 1)⟩,
     ⟨some 4, false, none, .load true 5 (.u 3)⟩,
     ⟨some 5, false, none, .build [.int .i64 0, .int .i64 0, .int .i64 0, .int .i64 0, .int .i64 0] []⟩,
     ⟨some 6, false, none, .eqS true 5 [(0, 1), (1, 1), (2, 1), (3, 1), (4, 1)] (.u 4) (.u 5)⟩,
     ⟨some 2, true, none, .mov (.u 6)⟩])
  (.ret))
def r36 : List LRes := [.slot 2]
theorem t36 : (Try.f36.body.bind (trCode v36 Try.prog Try.f36.ntmps)) = some c36 ∧ trRes v36 Try.prog Try.f36.results.toList = some r36 := ⟨by kernel_rfl, by kernel_rfl⟩

def v37 : Nat → Bool := fun t => [0, 1, 2, 18, 51, 72, 85].contains t
def c37 : LCode :=
  .seq (.region [⟨some 6, false, none, .mov (.t 0)⟩,
     ⟨some 7, false, none, .nilc (.u 6)⟩,
     ⟨some 8, false, none, .faddr 3 (.u 7)⟩,
     ⟨some 9, false, none, .load false 1 (.u 8)⟩,
     ⟨some 10, false, none, .bin .add (.u 9) (.c (.int .i64 1))⟩,
     ⟨some 11, false, none, .nilc (.u 6)⟩,
     ⟨some 12, false, none, .faddr 3 (.u 11)⟩,
     ⟨none, true, none, .store 1 (.u 12) (.u 10)⟩])
  (.seq (.seq (.region [⟨some 13, false, none, .mov (.t 0)⟩,
      ⟨some 14, false, none, .nilc (.u 13)⟩,
      ⟨some 15, false, none, .faddr 7 (.u 14)⟩,
      ⟨some 16, false, none, .faddr 0 (.u 15)⟩,
      ⟨some 17, false, none, .load false 1 (.u 16)⟩,
      ⟨some 18, true, none, .bin .eql (.u 17) (.c (.int .i64 0))⟩])
   (.cond (.t 18)
    (.region [⟨some 19, false, none, .mov (.t 0)⟩,
      ⟨some 20, false, none, .mov (.t 0)⟩,
      ⟨some 21, false, none, .nilc (.u 20)⟩,
      ⟨some 22, false, none, .faddr 3 (.u 21)⟩,
      ⟨some 23, false, none, .load false 1 (.u 22)⟩,
      ⟨some 24, false, none, .nilc (.u 19)⟩,
      ⟨some 25, false, none, .faddr 7 (.u 24)⟩,
      ⟨some 26, false, none, .faddr 0 (.u 25)⟩,
      ⟨none, true, none, .store 1 (.u 26) (.u 23)⟩])
    (.skip)))
  (.seq (.region [⟨some 27, false, none, .mov (.t 0)⟩,
     ⟨some 28, false, none, .mov (.t 0)⟩,
     ⟨some 29, false, none, .nilc (.u 28)⟩,
     ⟨some 30, false, none, .faddr 3 (.u 29)⟩,
     ⟨some 31, false, none, .load false 1 (.u 30)⟩,
     ⟨some 32, false, none, .nilc (.u 27)⟩,
     ⟨some 33, false, none, .faddr 7 (.u 32)⟩,
     ⟨some 34, false, none, .faddr 1 (.u 33)⟩,
     ⟨none, true, none, .store 1 (.u 34) (.u 31)⟩])
  (.seq (.region [⟨some 35, false, none, .mov (.t 2)⟩,
     ⟨some 36, false, none, .nilc (.u 35)⟩,
     ⟨some 37, false, none, .load false 1 (.u 36)⟩,
     ⟨some 38, false, none, .bin .add (.u 37) (.c (.int .i64 1))⟩,
     ⟨some 39, false, none, .nilc (.u 35)⟩,
     ⟨none, true, none, .store 1 (.u 39) (.u 38)⟩])
  (.seq (.region [⟨some 40, false, none, .mov (.t 0)⟩,
     ⟨some 41, false, none, .nilc (.u 40)⟩,
     ⟨some 42, false, none, .faddr 14 (.u 41)⟩,
     ⟨some 43, false, none, .load false 1 (.u 42)⟩,
     ⟨some 44, false, none, .bin .add (.u 43) (.c (.int .i64 1))⟩,
     ⟨some 45, false, none, .nilc (.u 40)⟩,
     ⟨some 46, false, none, .faddr 14 (.u 45)⟩,
     ⟨none, true, none, .store 1 (.u 46) (.u 44)⟩])
  (.seq (.seq (.region [⟨some 47, false, none, .mov (.t 0)⟩,
      ⟨some 48, false, none, .nilc (.u 47)⟩,
      ⟨some 49, false, none, .faddr 2 (.u 48)⟩,
      ⟨some 50, false, none, .load false 1 (.u 49)⟩,
      ⟨some 51, true, none, .bin .eql (.u 50) (.c (.int .i64 2))⟩])
   (.cond (.t 51)
    (.seq (.regionD [⟨0, [0], false, [], ⟨some 52, false, none, .mov (.t 0)⟩⟩,
       ⟨1, [0], false, [], ⟨some 53, false, none, .mov (.t 0)⟩⟩,
       ⟨2, [53], false, [], ⟨some 54, false, none, .nilc (.u 53)⟩⟩,
       ⟨3, [54], false, [], ⟨some 55, false, none, .faddr 16 (.u 54)⟩⟩,
       ⟨4, [55], true, [], ⟨some 56, false, none, .load false 1 (.u 55)⟩⟩,
       ⟨5, [1], false, [], ⟨some 57, false, none, .mov (.t 1)⟩⟩,
       ⟨6, [0], false, [], ⟨some 58, false, none, .mov (.t 0)⟩⟩,
       ⟨7, [58], false, [], ⟨some 59, false, none, .nilc (.u 58)⟩⟩,
       ⟨8, [59], false, [], ⟨some 60, false, none, .faddr 3 (.u 59)⟩⟩,
       ⟨9, [60], true, [], ⟨some 61, false, none, .load false 1 (.u 60)⟩⟩,
       ⟨10, [57, 61], false, [], ⟨some 62, false, none, .build [.int .i64 0, .int .i64 0] [(0, 1, (.u 57)), (1, 1, (.u 61))]⟩⟩,
       ⟨11, [62], false, [], ⟨some 63, false, none, .mkS 2 1 [.int .i64 0, .int .i64 0] [(0, 2, (.u 62))]⟩⟩,
       ⟨12, [56, 63], false, [], ⟨some 64, false, none, .app 2 16 (.u 56) (.u 63)⟩⟩,
       ⟨13, [52], false, [], ⟨some 65, false, none, .nilc (.u 52)⟩⟩,
       ⟨14, [65], false, [], ⟨some 66, false, none, .faddr 16 (.u 65)⟩⟩,
       ⟨15, [66, 64], false, [], ⟨none, true, none, .store 1 (.u 66) (.u 64)⟩⟩])
    (.seq (.region [⟨some 67, false, none, .mov (.t 0)⟩,
       ⟨some 68, false, none, .nilc (.u 67)⟩,
       ⟨some 69, false, none, .faddr 16 (.u 68)⟩,
       ⟨some 70, false, none, .load false 1 (.u 69)⟩,
       ⟨some 71, false, none, .lenL (.u 70)⟩,
       ⟨some 72, true, none, .bin .gtr (.u 71) (.c (.int .i64 16))⟩])
    (.cond (.t 72)
     (.region [⟨some 73, false, none, .mov (.t 0)⟩,
       ⟨some 74, false, none, .mov (.t 0)⟩,
       ⟨some 75, false, none, .nilc (.u 74)⟩,
       ⟨some 76, false, none, .faddr 16 (.u 75)⟩,
       ⟨some 77, false, none, .load false 1 (.u 76)⟩,
       ⟨some 78, false, none, .slL 2 (.u 77) (some (.c (.int .i64 1))) none none⟩,
       ⟨some 79, false, none, .nilc (.u 73)⟩,
       ⟨some 80, false, none, .faddr 16 (.u 79)⟩,
       ⟨none, true, none, .store 1 (.u 80) (.u 78)⟩])
     (.skip))))
    (.skip)))
  (.seq (.region [⟨some 81, false, none, .mov (.t 0)⟩,
     ⟨some 82, false, none, .nilc (.u 81)⟩,
     ⟨some 83, false, none, .faddr 2 (.u 82)⟩,
     ⟨some 84, false, none, .load false 1 (.u 83)⟩,
     ⟨some 85, true, none, .bin .eql (.u 84) (.c (.int .i64 3))⟩])
  (.cond (.t 85)
   (.region [⟨some 86, false, none, .mov (.t 0)⟩,
     ⟨some 87, false, none, .nilc (.u 86)⟩,
     ⟨some 88, false, none, .faddr 15 (.u 87)⟩,
     ⟨none, true, none, .store 1 (.u 88) (.c (.bool true))⟩])
   (.skip))))))))
def r37 : List LRes := []
theorem t37 : (Try.f37.body.bind (trCode v37 Try.prog Try.f37.ntmps)) = some c37 ∧ trRes v37 Try.prog Try.f37.results.toList = some r37 := ⟨by kernel_rfl, by kernel_rfl⟩

def v38 : Nat → Bool := fun t => [0, 1].contains t
def c38 : LCode :=
  .seq (.region [⟨some 4, false, none, .mov (.t 0)⟩,
     ⟨some 5, false, none, .nilc (.u 4)⟩,
     ⟨some 6, false, none, .faddr 3 (.u 5)⟩,
     ⟨some 7, false, none, .load false 1 (.u 6)⟩,
     ⟨some 8, false, none, .bin .add (.u 7) (.c (.int .i64 1))⟩,
     ⟨some 9, false, none, .nilc (.u 4)⟩,
     ⟨some 10, false, none, .faddr 3 (.u 9)⟩,
     ⟨none, true, none, .store 1 (.u 10) (.u 8)⟩])
  (.seq (.regionD [⟨0, [0], false, [], ⟨some 11, false, none, .mov (.t 0)⟩⟩,
     ⟨1, [0], false, [], ⟨some 12, false, none, .mov (.t 0)⟩⟩,
     ⟨2, [12], false, [], ⟨some 13, false, none, .nilc (.u 12)⟩⟩,
     ⟨3, [13], false, [], ⟨some 14, false, none, .faddr 6 (.u 13)⟩⟩,
     ⟨4, [14], true, [], ⟨some 15, false, none, .load false 1 (.u 14)⟩⟩,
     ⟨5, [0], false, [], ⟨some 16, false, none, .mov (.t 0)⟩⟩,
     ⟨6, [16], false, [], ⟨some 17, false, none, .nilc (.u 16)⟩⟩,
     ⟨7, [17], false, [], ⟨some 18, false, none, .faddr 7 (.u 17)⟩⟩,
     ⟨8, [18], true, [], ⟨some 19, false, none, .load true 5 (.u 18)⟩⟩,
     ⟨9, [1], false, [], ⟨some 20, false, none, .mov (.t 1)⟩⟩,
     ⟨12, [0], false, [], ⟨some 23, false, none, .mov (.t 0)⟩⟩,
     ⟨13, [23], false, [], ⟨some 24, false, none, .nilc (.u 23)⟩⟩,
     ⟨14, [24], false, [], ⟨some 25, false, none, .faddr 3 (.u 24)⟩⟩,
     ⟨15, [25], true, [], ⟨some 26, false, none, .load false 1 (.u 25)⟩⟩,
     ⟨10, [19, 20], false, [15, 4], ⟨some 21, false, none, .call 29 [(.u 19), (.u 20)]⟩⟩,
     ⟨11, [21], false, [], ⟨some 22, false, none, .mkS 4 1 [.int .i64 0, .int .i64 0, .int .i64 0, .fsl 1 0 []] [(0, 4, (.u 21))]⟩⟩,
     ⟨16, [22, 26], false, [4], ⟨some 27, false, none, .call 28 [(.u 22), (.u 26)]⟩⟩,
     ⟨17, [15, 27], false, [], ⟨some 28, false, none, .app 4 48 (.u 15) (.u 27)⟩⟩,
     ⟨18, [11], false, [], ⟨some 29, false, none, .nilc (.u 11)⟩⟩,
     ⟨19, [29], false, [], ⟨some 30, false, none, .faddr 6 (.u 29)⟩⟩,
     ⟨20, [30, 28], false, [], ⟨none, true, none, .store 1 (.u 30) (.u 28)⟩⟩])
  (.region [⟨some 31, false, none, .mov (.t 0)⟩,
    ⟨some 32, false, none, .build [.int .i64 0, .int .i64 0, .int .i64 0, .int .i64 0, .int .i64 0] []⟩,
    ⟨some 33, false, none, .nilc (.u 31)⟩,
    ⟨some 34, false, none, .faddr 7 (.u 33)⟩,
    ⟨none, true, none, .store 5 (.u 34) (.u 32)⟩]))
def r38 : List LRes := []
theorem t38 : (Try.f38.body.bind (trCode v38 Try.prog Try.f38.ntmps)) = some c38 ∧ trRes v38 Try.prog Try.f38.results.toList = some r38 := ⟨by kernel_rfl, by kernel_rfl⟩

def v39 : Nat → Bool := fun t => [0, 1, 2].contains t
def c39 : LCode :=
  .seq (.region [⟨some 1, true, none, .box (.t 0)⟩,
     ⟨some 2, true, none, .zero [.int .i64 0, .int .i64 0, .int .i64 0, .int .i64 0, .int .i64 0, .fsl 1 0 [], .fsl 1 0 [], .int .i64 0, .int .i64 0, .int .i64 0, .int .i64 0, .int .i64 0, .int .i64 0, .int .i64 0, .int .i64 0, .bool false, .fsl 1 0 []]⟩])
  (.seq (.region [⟨some 3, false, none, .faddr 5 (.t 1)⟩,
     ⟨some 4, false, none, .load false 1 (.u 3)⟩,
     ⟨some 5, false, none, .call 55 [(.u 4)]⟩,
     ⟨some 6, false, none, .faddr 5 (.t 1)⟩,
     ⟨none, true, none, .store 1 (.u 6) (.u 5)⟩])
  (.seq (.region [⟨some 7, false, none, .faddr 6 (.t 1)⟩,
     ⟨some 8, false, none, .load false 1 (.u 7)⟩,
     ⟨some 9, false, none, .call 49 [(.u 8)]⟩,
     ⟨some 10, false, none, .faddr 6 (.t 1)⟩,
     ⟨none, true, none, .store 1 (.u 10) (.u 9)⟩])
  (.seq (.region [⟨some 11, false, none, .faddr 16 (.t 1)⟩,
     ⟨some 12, false, none, .load false 1 (.u 11)⟩,
     ⟨some 13, false, none, .call 56 [(.u 12)]⟩,
     ⟨some 14, false, none, .faddr 16 (.t 1)⟩,
     ⟨none, true, none, .store 1 (.u 14) (.u 13)⟩])
  (.seq (.region [⟨some 15, false, none, .load true 17 (.t 1)⟩,
     ⟨none, true, none, .store 17 (.t 2) (.u 15)⟩])
  (.ret)))))
def r39 : List LRes := [.cell true 17 2]
theorem t39 : (Try.f39.body.bind (trCode v39 Try.prog Try.f39.ntmps)) = some c39 ∧ trRes v39 Try.prog Try.f39.results.toList = some r39 := ⟨by kernel_rfl, by kernel_rfl⟩

def v40 : Nat → Bool := fun t => [0, 1, 4, 5, 10, 14, 25].contains t
def c40 : LCode :=
  .seq (.region [⟨some 4, true, none, .mov (.c (.bool false))⟩])
  (.seq (.seq (.region [⟨some 6, false, none, .mov (.t 0)⟩,
      ⟨some 7, false, none, .lenL (.u 6)⟩,
      ⟨some 8, false, none, .mov (.t 1)⟩,
      ⟨some 9, false, none, .lenL (.u 8)⟩,
      ⟨some 10, true, none, .bin .neq (.u 7) (.u 9)⟩])
   (.cond (.t 10)
    (.seq (.region [⟨some 4, true, none, .mov (.c (.bool false))⟩])
    (.ret))
    (.skip)))
  (.seq (.seq (.region [⟨some 5, true, none, .mov (.c (.int .i64 0))⟩])
   (.block 0 (.loop (.seq (.seq (.region [⟨some 11, false, none, .mov (.t 5)⟩,
         ⟨some 12, false, none, .mov (.t 0)⟩,
         ⟨some 13, false, none, .lenL (.u 12)⟩,
         ⟨some 14, true, none, .bin .lss (.u 11) (.u 13)⟩])
      (.cond (.t 14)
       (.skip)
       (.exit 0)))
     (.seq (.block 1 (.seq (.regionD [⟨0, [0], false, [], ⟨some 17, false, none, .mov (.t 0)⟩⟩,
          ⟨1, [5], false, [], ⟨some 18, false, none, .mov (.t 5)⟩⟩,
          ⟨2, [17, 18], false, [], ⟨some 19, false, none, .iaS 1 (.u 17) (.u 18)⟩⟩,
          ⟨3, [19], true, [], ⟨some 20, false, none, .load false 1 (.u 19)⟩⟩,
          ⟨4, [1], false, [], ⟨some 21, false, none, .mov (.t 1)⟩⟩,
          ⟨5, [5], false, [], ⟨some 22, false, none, .mov (.t 5)⟩⟩,
          ⟨6, [21, 22], false, [], ⟨some 23, false, none, .iaS 1 (.u 21) (.u 22)⟩⟩,
          ⟨7, [23], true, [], ⟨some 24, false, none, .load false 1 (.u 23)⟩⟩,
          ⟨8, [20, 24], false, [], ⟨some 25, true, none, .bin .neq (.u 20) (.u 24)⟩⟩])
       (.cond (.t 25)
        (.seq (.region [⟨some 4, true, none, .mov (.c (.bool false))⟩])
        (.ret))
        (.skip))))
     (.region [⟨some 15, false, none, .mov (.t 5)⟩,
       ⟨some 16, false, none, .bin .add (.u 15) (.c (.int .i64 1))⟩,
       ⟨some 5, true, none, .mov (.u 16)⟩]))))))
  (.seq (.region [⟨some 4, true, none, .mov (.c (.bool true))⟩])
  (.ret))))
def r40 : List LRes := [.slot 4]
theorem t40 : (Try.f40.body.bind (trCode v40 Try.prog Try.f40.ntmps)) = some c40 ∧ trRes v40 Try.prog Try.f40.results.toList = some r40 := ⟨by kernel_rfl, by kernel_rfl⟩

def v41 : Nat → Bool := fun t => [0, 1, 4, 5, 10, 14, 26].contains t
def c41 : LCode :=
  .seq (.region [⟨some 4, true, none, .mov (.c (.bool false))⟩])
  (.seq (.seq (.region [⟨some 6, false, none, .mov (.t 0)⟩,
      ⟨some 7, false, none, .lenL (.u 6)⟩,
      ⟨some 8, false, none, .mov (.t 1)⟩,
      ⟨some 9, false, none, .lenL (.u 8)⟩,
      ⟨some 10, true, none, .bin .neq (.u 7) (.u 9)⟩])
   (.cond (.t 10)
    (.seq (.region [⟨some 4, true, none, .mov (.c (.bool false))⟩])
    (.ret))
    (.skip)))
  (.seq (.seq (.region [⟨some 5, true, none, .mov (.c (.int .i64 0))⟩])
   (.block 0 (.loop (.seq (.seq (.region [⟨some 11, false, none, .mov (.t 5)⟩,
         ⟨some 12, false, none, .mov (.t 0)⟩,
         ⟨some 13, false, none, .lenL (.u 12)⟩,
         ⟨some 14, true, none, .bin .lss (.u 11) (.u 13)⟩])
      (.cond (.t 14)
       (.skip)
       (.exit 0)))
     (.seq (.block 1 (.seq (.regionD [⟨0, [0], false, [], ⟨some 17, false, none, .mov (.t 0)⟩⟩,
          ⟨1, [5], false, [], ⟨some 18, false, none, .mov (.t 5)⟩⟩,
          ⟨2, [17, 18], false, [], ⟨some 19, false, none, .iaS 4 (.u 17) (.u 18)⟩⟩,
          ⟨3, [19], true, [], ⟨some 20, false, none, .load true 4 (.u 19)⟩⟩,
          ⟨4, [1], false, [], ⟨some 21, false, none, .mov (.t 1)⟩⟩,
          ⟨5, [5], false, [], ⟨some 22, false, none, .mov (.t 5)⟩⟩,
          ⟨6, [21, 22], false, [], ⟨some 23, false, none, .iaS 4 (.u 21) (.u 22)⟩⟩,
          ⟨7, [23], true, [], ⟨some 24, false, none, .load true 4 (.u 23)⟩⟩,
          ⟨8, [20, 24], false, [], ⟨some 25, false, none, .call 27 [(.u 20), (.u 24)]⟩⟩,
          ⟨9, [25], false, [], ⟨some 26, true, none, .un .not (.u 25)⟩⟩])
       (.cond (.t 26)
        (.seq (.region [⟨some 4, true, none, .mov (.c (.bool false))⟩])
        (.ret))
        (.skip))))
     (.region [⟨some 15, false, none, .mov (.t 5)⟩,
       ⟨some 16, false, none, .bin .add (.u 15) (.c (.int .i64 1))⟩,
       ⟨some 5, true, none, .mov (.u 16)⟩]))))))
  (.seq (.region [⟨some 4, true, none, .mov (.c (.bool true))⟩])
  (.ret))))
def r41 : List LRes := [.slot 4]
theorem t41 : (Try.f41.body.bind (trCode v41 Try.prog Try.f41.ntmps)) = some c41 ∧ trRes v41 Try.prog Try.f41.results.toList = some r41 := ⟨by kernel_rfl, by kernel_rfl⟩

def v42 : Nat → Bool := fun t => [0, 1, 4, 5, 10, 14, 25].contains t
def c42 : LCode :=
  .seq (.region [⟨some 4, true, none, .mov (.c (.bool false))⟩])
  (.seq (.seq (.region [⟨some 6, false, none, .mov (.t 0)⟩,
      ⟨some 7, false, none, .lenL (.u 6)⟩,
      ⟨some 8, false, none, .mov (.t 1)⟩,
      ⟨some 9, false, none, .lenL (.u 8)⟩,
      ⟨some 10, true, none, .bin .neq (.u 7) (.u 9)⟩])
   (.cond (.t 10)
    (.seq (.region [⟨some 4, true, none, .mov (.c (.bool false))⟩])
    (.ret))
    (.skip)))
  (.seq (.seq (.region [⟨some 5, true, none, .mov (.c (.int .i64 0))⟩])
   (.block 0 (.loop (.seq (.seq (.region [⟨some 11, false, none, .mov (.t 5)⟩,
         ⟨some 12, false, none, .mov (.t 0)⟩,
         ⟨some 13, false, none, .lenL (.u 12)⟩,
         ⟨some 14, true, none, .bin .lss (.u 11) (.u 13)⟩])
      (.cond (.t 14)
       (.skip)
       (.exit 0)))
     (.seq (.block 1 (.seq (.regionD [⟨0, [0], false, [], ⟨some 17, false, none, .mov (.t 0)⟩⟩,
          ⟨1, [5], false, [], ⟨some 18, false, none, .mov (.t 5)⟩⟩,
          ⟨2, [17, 18], false, [], ⟨some 19, false, none, .iaS 2 (.u 17) (.u 18)⟩⟩,
          ⟨3, [19], true, [], ⟨some 20, false, none, .load true 2 (.u 19)⟩⟩,
          ⟨4, [1], false, [], ⟨some 21, false, none, .mov (.t 1)⟩⟩,
          ⟨5, [5], false, [], ⟨some 22, false, none, .mov (.t 5)⟩⟩,
          ⟨6, [21, 22], false, [], ⟨some 23, false, none, .iaS 2 (.u 21) (.u 22)⟩⟩,
          ⟨7, [23], true, [], ⟨some 24, false, none, .load true 2 (.u 23)⟩⟩,
          ⟨8, [20, 24], false, [], ⟨some 25, true, none, .eqS true 2 [(0, 1), (1, 1)] (.u 20) (.u 24)⟩⟩])
       (.cond (.t 25)
        (.seq (.region [⟨some 4, true, none, .mov (.c (.bool false))⟩])
        (.ret))
        (.skip))))
     (.region [⟨some 15, false, none, .mov (.t 5)⟩,
       ⟨some 16, false, none, .bin .add (.u 15) (.c (.int .i64 1))⟩,
       ⟨some 5, true, none, .mov (.u 16)⟩]))))))
  (.seq (.region [⟨some 4, true, none, .mov (.c (.bool true))⟩])
  (.ret))))
def r42 : List LRes := [.slot 4]
theorem t42 : (Try.f42.body.bind (trCode v42 Try.prog Try.f42.ntmps)) = some c42 ∧ trRes v42 Try.prog Try.f42.results.toList = some r42 := ⟨by kernel_rfl, by kernel_rfl⟩

def v43 : Nat → Bool := fun t => [0, 1, 2, 3, 4, 8, 9, 21, 24, 42, 47].contains t
def c43 : LCode :=
  .seq (.region [⟨some 4, true, none, .box (.t 0)⟩,
     ⟨some 8, true, none, .mov (.c (.int .i64 0))⟩])
  (.seq (.region [⟨some 10, false, none, .faddr 6 (.t 4)⟩,
     ⟨some 11, false, none, .load false 1 (.u 10)⟩,
     ⟨some 12, false, none, .lenL (.u 11)⟩,
     ⟨some 13, false, none, .faddr 4 (.t 4)⟩,
     ⟨some 14, false, none, .load false 1 (.u 13)⟩,
     ⟨some 15, false, none, .bin .add (.u 12) (.u 14)⟩,
     ⟨some 16, false, none, .mov (.t 3)⟩,
     ⟨some 17, false, none, .bin .add (.u 15) (.u 16)⟩,
     ⟨some 9, true, none, .mov (.u 17)⟩])
  (.seq (.seq (.region [⟨some 18, false, none, .faddr 7 (.t 4)⟩,
      ⟨some 19, false, none, .load true 5 (.u 18)⟩,
      ⟨some 20, false, none, .build [.int .i64 0, .int .i64 0, .int .i64 0, .int .i64 0, .int .i64 0] []⟩,
      ⟨some 21, true, none, .eqS true 5 [(0, 1), (1, 1), (2, 1), (3, 1), (4, 1)] (.u 19) (.u 20)⟩])
   (.cond (.t 21)
    (.region [⟨some 22, false, none, .mov (.t 9)⟩,
      ⟨some 23, false, none, .bin .add (.u 22) (.c (.int .i64 1))⟩,
      ⟨some 9, true, none, .mov (.u 23)⟩])
    (.skip)))
  (.seq (.block 0 (.seq (.region [⟨some 25, false, none, .faddr 1 (.t 4)⟩,
       ⟨some 26, false, none, .load false 1 (.u 25)⟩,
       ⟨some 27, false, none, .bin .neq (.u 26) (.c (.int .i64 0))⟩,
       ⟨some 28, false, none, .mov (.u 27)⟩,
       ⟨some 29, false, some ((.u 28), true), .mov (.t 2)⟩,
       ⟨some 30, false, some ((.u 28), true), .bin .quo (.u 29) (.c (.int .i64 1000))⟩,
       ⟨some 31, false, some ((.u 28), true), .faddr 12 (.t 4)⟩,
       ⟨some 32, false, some ((.u 28), true), .load false 1 (.u 31)⟩,
       ⟨some 33, false, some ((.u 28), true), .bin .eql (.u 30) (.u 32)⟩,
       ⟨some 34, false, none, .pick (.u 28) (.u 33) (.c (.bool false))⟩,
       ⟨some 35, false, none, .mov (.u 34)⟩,
       ⟨some 36, false, some ((.u 35), true), .faddr 13 (.t 4)⟩,
       ⟨some 37, false, some ((.u 35), true), .load false 1 (.u 36)⟩,
       ⟨some 38, false, some ((.u 35), true), .faddr 1 (.t 4)⟩,
       ⟨some 39, false, some ((.u 35), true), .load false 1 (.u 38)⟩,
       ⟨some 40, false, some ((.u 35), true), .bin .geq (.u 37) (.u 39)⟩,
       ⟨some 41, false, none, .pick (.u 35) (.u 40) (.c (.bool false))⟩,
       ⟨some 24, true, none, .mov (.u 41)⟩])
    (.cond (.t 24)
     (.seq (.region [⟨some 8, true, none, .mov (.c (.int .i64 1))⟩])
     (.ret))
     (.seq (.region [⟨some 43, false, none, .mov (.t 9)⟩,
        ⟨some 44, false, none, .faddr 0 (.t 4)⟩,
        ⟨some 45, false, none, .load false 1 (.u 44)⟩,
        ⟨some 46, false, none, .bin .gtr (.u 43) (.u 45)⟩,
        ⟨some 42, true, none, .mov (.u 46)⟩])
     (.cond (.t 42)
      (.seq (.region [⟨some 8, true, none, .mov (.c (.int .i64 2))⟩])
      (.ret))
      (.seq (.region [⟨some 48, false, none, .faddr 5 (.t 4)⟩,
         ⟨some 49, false, none, .load false 1 (.u 48)⟩,
         ⟨some 50, false, none, .lenL (.u 49)⟩,
         ⟨some 51, false, none, .bin .gtr (.u 50) (.c (.int .i64 0))⟩,
         ⟨some 52, false, none, .mov (.u 51)⟩,
         ⟨some 53, false, some ((.u 52), true), .mov (.t 1)⟩,
         ⟨some 54, false, some ((.u 52), true), .faddr 5 (.t 4)⟩,
         ⟨some 55, false, some ((.u 52), true), .load false 1 (.u 54)⟩,
         ⟨some 56, false, some ((.u 52), true), .iaS 1 (.u 55) (.c (.int .i64 0))⟩,
         ⟨some 57, false, some ((.u 52), true), .load false 1 (.u 56)⟩,
         ⟨some 58, false, some ((.u 52), true), .bin .sub (.u 53) (.u 57)⟩,
         ⟨some 59, false, some ((.u 52), true), .bin .geq (.u 58) (.c (.int .i64 64))⟩,
         ⟨some 60, false, none, .pick (.u 52) (.u 59) (.c (.bool false))⟩,
         ⟨some 47, true, none, .mov (.u 60)⟩])
      (.cond (.t 47)
       (.seq (.region [⟨some 8, true, none, .mov (.c (.int .i64 3))⟩])
       (.ret))
       (.skip))))))))
  (.seq (.region [⟨some 8, true, none, .mov (.c (.int .i64 0))⟩])
  (.ret)))))
def r43 : List LRes := [.slot 8]
theorem t43 : (Try.f43.body.bind (trCode v43 Try.prog Try.f43.ntmps)) = some c43 ∧ trRes v43 Try.prog Try.f43.results.toList = some r43 := ⟨by kernel_rfl, by kernel_rfl⟩

def v44 : Nat → Bool := fun t => [0, 1, 2, 6, 19, 36, 37, 48, 59, 80, 81, 105, 115].contains t
def c44 : LCode :=
  .seq (.region [⟨some 7, false, none, .mov (.t 0)⟩,
     ⟨some 8, false, none, .nilc (.u 7)⟩,
     ⟨some 9, false, none, .faddr 3 (.u 8)⟩,
     ⟨some 10, false, none, .load false 1 (.u 9)⟩,
     ⟨some 11, false, none, .bin .add (.u 10) (.c (.int .i64 1))⟩,
     ⟨some 12, false, none, .nilc (.u 7)⟩,
     ⟨some 13, false, none, .faddr 3 (.u 12)⟩,
     ⟨none, true, none, .store 1 (.u 13) (.u 11)⟩])
  (.seq (.seq (.region [⟨some 14, false, none, .mov (.t 0)⟩,
      ⟨some 15, false, none, .nilc (.u 14)⟩,
      ⟨some 16, false, none, .faddr 7 (.u 15)⟩,
      ⟨some 17, false, none, .load true 5 (.u 16)⟩,
      ⟨some 18, false, none, .build [.int .i64 0, .int .i64 0, .int .i64 0, .int .i64 0, .int .i64 0] []⟩,
      ⟨some 19, true, none, .eqS false 5 [(0, 1), (1, 1), (2, 1), (3, 1), (4, 1)] (.u 17) (.u 18)⟩])
   (.cond (.t 19)
    (.region [⟨some 20, false, none, .mov (.t 0)⟩,
      ⟨some 21, false, none, .mov (.t 0)⟩,
      ⟨some 22, false, none, .nilc (.u 21)⟩,
      ⟨some 23, false, none, .faddr 3 (.u 22)⟩,
      ⟨some 24, false, none, .load false 1 (.u 23)⟩,
      ⟨some 25, false, none, .nilc (.u 20)⟩,
      ⟨some 26, false, none, .faddr 7 (.u 25)⟩,
      ⟨some 27, false, none, .faddr 0 (.u 26)⟩,
      ⟨none, true, none, .store 1 (.u 27) (.u 24)⟩])
    (.skip)))
  (.seq (.region [⟨some 28, false, none, .mov (.t 0)⟩,
     ⟨some 29, false, none, .mov (.t 0)⟩,
     ⟨some 30, false, none, .nilc (.u 29)⟩,
     ⟨some 31, false, none, .faddr 3 (.u 30)⟩,
     ⟨some 32, false, none, .load false 1 (.u 31)⟩,
     ⟨some 33, false, none, .nilc (.u 28)⟩,
     ⟨some 34, false, none, .faddr 7 (.u 33)⟩,
     ⟨some 35, false, none, .faddr 1 (.u 34)⟩,
     ⟨none, true, none, .store 1 (.u 35) (.u 32)⟩])
  (.seq (.seq (.region [⟨some 36, true, none, .mov (.t 1)⟩])
   (.block 0 (.seq (.region [⟨some 38, false, none, .bin .eql (.t 36) (.c (.int .i64 1))⟩,
       ⟨some 37, true, none, .mov (.u 38)⟩])
    (.cond (.t 37)
     (.region [⟨some 39, false, none, .mov (.t 0)⟩,
       ⟨some 40, false, none, .nilc (.u 39)⟩,
       ⟨some 41, false, none, .faddr 7 (.u 40)⟩,
       ⟨some 42, false, none, .faddr 2 (.u 41)⟩,
       ⟨some 43, false, none, .load false 1 (.u 42)⟩,
       ⟨some 44, false, none, .bin .add (.u 43) (.c (.int .i64 1))⟩,
       ⟨some 45, false, none, .nilc (.u 39)⟩,
       ⟨some 46, false, none, .faddr 7 (.u 45)⟩,
       ⟨some 47, false, none, .faddr 2 (.u 46)⟩,
       ⟨none, true, none, .store 1 (.u 47) (.u 44)⟩])
     (.seq (.region [⟨some 49, false, none, .bin .eql (.t 36) (.c (.int .i64 2))⟩,
        ⟨some 48, true, none, .mov (.u 49)⟩])
     (.cond (.t 48)
      (.region [⟨some 50, false, none, .mov (.t 0)⟩,
        ⟨some 51, false, none, .nilc (.u 50)⟩,
        ⟨some 52, false, none, .faddr 7 (.u 51)⟩,
        ⟨some 53, false, none, .faddr 3 (.u 52)⟩,
        ⟨some 54, false, none, .load false 1 (.u 53)⟩,
        ⟨some 55, false, none, .bin .add (.u 54) (.c (.int .i64 1))⟩,
        ⟨some 56, false, none, .nilc (.u 50)⟩,
        ⟨some 57, false, none, .faddr 7 (.u 56)⟩,
        ⟨some 58, false, none, .faddr 3 (.u 57)⟩,
        ⟨none, true, none, .store 1 (.u 58) (.u 55)⟩])
      (.seq (.region [⟨some 60, false, none, .bin .eql (.t 36) (.c (.int .i64 3))⟩,
         ⟨some 59, true, none, .mov (.u 60)⟩])
      (.cond (.t 59)
       (.region [⟨some 61, false, none, .mov (.t 0)⟩,
         ⟨some 62, false, none, .nilc (.u 61)⟩,
         ⟨some 63, false, none, .faddr 7 (.u 62)⟩,
         ⟨some 64, false, none, .faddr 4 (.u 63)⟩,
         ⟨some 65, false, none, .load false 1 (.u 64)⟩,
         ⟨some 66, false, none, .bin .add (.u 65) (.c (.int .i64 1))⟩,
         ⟨some 67, false, none, .nilc (.u 61)⟩,
         ⟨some 68, false, none, .faddr 7 (.u 67)⟩,
         ⟨some 69, false, none, .faddr 4 (.u 68)⟩,
         ⟨none, true, none, .store 1 (.u 69) (.u 66)⟩])
       (.skip)))))))))
  (.seq (.region [⟨some 70, false, none, .mov (.t 0)⟩,
     ⟨some 71, false, none, .nilc (.u 70)⟩,
     ⟨some 72, false, none, .faddr 14 (.u 71)⟩,
     ⟨some 73, false, none, .load false 1 (.u 72)⟩,
     ⟨some 74, false, none, .bin .add (.u 73) (.c (.int .i64 1))⟩,
     ⟨some 75, false, none, .nilc (.u 70)⟩,
     ⟨some 76, false, none, .faddr 14 (.u 75)⟩,
     ⟨none, true, none, .store 1 (.u 76) (.u 74)⟩])
  (.seq (.region [⟨some 77, false, none, .mov (.t 0)⟩,
     ⟨some 78, false, none, .nilc (.u 77)⟩,
     ⟨some 79, false, none, .faddr 2 (.u 78)⟩,
     ⟨some 80, true, none, .load false 1 (.u 79)⟩])
  (.block 1 (.seq (.region [⟨some 82, false, none, .bin .eql (.t 80) (.c (.int .i64 2))⟩,
      ⟨some 81, true, none, .mov (.u 82)⟩])
   (.cond (.t 81)
    (.seq (.regionD [⟨0, [0], false, [], ⟨some 83, false, none, .mov (.t 0)⟩⟩,
       ⟨1, [0], false, [], ⟨some 84, false, none, .mov (.t 0)⟩⟩,
       ⟨2, [84], false, [], ⟨some 85, false, none, .nilc (.u 84)⟩⟩,
       ⟨3, [85], false, [], ⟨some 86, false, none, .faddr 16 (.u 85)⟩⟩,
       ⟨4, [86], true, [], ⟨some 87, false, none, .load false 1 (.u 86)⟩⟩,
       ⟨5, [2], false, [], ⟨some 88, false, none, .mov (.t 2)⟩⟩,
       ⟨6, [0], false, [], ⟨some 89, false, none, .mov (.t 0)⟩⟩,
       ⟨7, [89], false, [], ⟨some 90, false, none, .nilc (.u 89)⟩⟩,
       ⟨8, [90], false, [], ⟨some 91, false, none, .faddr 3 (.u 90)⟩⟩,
       ⟨9, [91], true, [], ⟨some 92, false, none, .load false 1 (.u 91)⟩⟩,
       ⟨10, [88, 92], false, [], ⟨some 93, false, none, .build [.int .i64 0, .int .i64 0] [(0, 1, (.u 88)), (1, 1, (.u 92))]⟩⟩,
       ⟨11, [93], false, [], ⟨some 94, false, none, .mkS 2 1 [.int .i64 0, .int .i64 0] [(0, 2, (.u 93))]⟩⟩,
       ⟨12, [87, 94], false, [], ⟨some 95, false, none, .app 2 16 (.u 87) (.u 94)⟩⟩,
       ⟨13, [83], false, [], ⟨some 96, false, none, .nilc (.u 83)⟩⟩,
       ⟨14, [96], false, [], ⟨some 97, false, none, .faddr 16 (.u 96)⟩⟩,
       ⟨15, [97, 95], false, [], ⟨none, true, none, .store 1 (.u 97) (.u 95)⟩⟩])
    (.seq (.region [⟨some 98, false, none, .mov (.t 0)⟩,
       ⟨some 99, false, none, .nilc (.u 98)⟩,
       ⟨some 100, false, none, .faddr 16 (.u 99)⟩,
       ⟨some 101, false, none, .load false 1 (.u 100)⟩,
       ⟨some 102, false, none, .lenL (.u 101)⟩,
       ⟨some 103, false, none, .bin .sub (.u 102) (.c (.int .i64 16))⟩,
       ⟨some 6, true, none, .mov (.u 103)⟩])
    (.seq (.region [⟨some 104, false, none, .mov (.t 6)⟩,
       ⟨some 105, true, none, .bin .gtr (.u 104) (.c (.int .i64 0))⟩])
    (.cond (.t 105)
     (.region [⟨some 106, false, none, .mov (.t 0)⟩,
       ⟨some 107, false, none, .mov (.t 0)⟩,
       ⟨some 108, false, none, .nilc (.u 107)⟩,
       ⟨some 109, false, none, .faddr 16 (.u 108)⟩,
       ⟨some 110, false, none, .load false 1 (.u 109)⟩,
       ⟨some 111, false, none, .mov (.t 6)⟩,
       ⟨some 112, false, none, .call 57 [(.u 110), (.c (.int .i64 0)), (.u 111)]⟩,
       ⟨some 113, false, none, .nilc (.u 106)⟩,
       ⟨some 114, false, none, .faddr 16 (.u 113)⟩,
       ⟨none, true, none, .store 1 (.u 114) (.u 112)⟩])
     (.skip)))))
    (.seq (.region [⟨some 116, false, none, .bin .eql (.t 80) (.c (.int .i64 3))⟩,
       ⟨some 115, true, none, .mov (.u 116)⟩])
    (.cond (.t 115)
     (.region [⟨some 117, false, none, .mov (.t 0)⟩,
       ⟨some 118, false, none, .nilc (.u 117)⟩,
       ⟨some 119, false, none, .faddr 15 (.u 118)⟩,
       ⟨none, true, none, .store 1 (.u 119) (.c (.bool true))⟩])
     (.skip)))))))))))
def r44 : List LRes := []
theorem t44 : (Try.f44.body.bind (trCode v44 Try.prog Try.f44.ntmps)) = some c44 ∧ trRes v44 Try.prog Try.f44.results.toList = some r44 := ⟨by kernel_rfl, by kernel_rfl⟩

def v45 : Nat → Bool := fun t => [0, 1, 4].contains t
def c45 : LCode :=
  .seq (.region [⟨some 5, false, none, .mov (.t 0)⟩,
     ⟨some 6, false, none, .nilc (.u 5)⟩,
     ⟨some 7, false, none, .faddr 3 (.u 6)⟩,
     ⟨some 8, false, none, .load false 1 (.u 7)⟩,
     ⟨some 9, false, none, .bin .add (.u 8) (.c (.int .i64 1))⟩,
     ⟨some 10, false, none, .nilc (.u 5)⟩,
     ⟨some 11, false, none, .faddr 3 (.u 10)⟩,
     ⟨none, true, none, .store 1 (.u 11) (.u 9)⟩])
  (.seq (.region [⟨some 12, false, none, .mov (.t 0)⟩,
     ⟨some 13, false, none, .nilc (.u 12)⟩,
     ⟨some 14, false, none, .faddr 7 (.u 13)⟩,
     ⟨some 15, false, none, .load true 5 (.u 14)⟩,
     ⟨some 16, false, none, .mov (.t 1)⟩,
     ⟨some 17, false, none, .call 58 [(.u 15), (.u 16)]⟩,
     ⟨some 4, true, none, .zero [.int .i64 0, .int .i64 0, .int .i64 0, .fsl 1 0 []]⟩,
     ⟨none, true, none, .store 4 (.t 4) (.u 17)⟩])
  (.seq (.region [⟨some 18, false, none, .mov (.t 0)⟩,
     ⟨some 19, false, none, .nilc (.u 18)⟩,
     ⟨some 20, false, none, .faddr 3 (.u 19)⟩,
     ⟨some 21, false, none, .load false 1 (.u 20)⟩,
     ⟨some 22, false, none, .faddr 2 (.t 4)⟩,
     ⟨none, true, none, .store 1 (.u 22) (.u 21)⟩])
  (.seq (.regionD [⟨0, [0], false, [], ⟨some 23, false, none, .mov (.t 0)⟩⟩,
     ⟨1, [0], false, [], ⟨some 24, false, none, .mov (.t 0)⟩⟩,
     ⟨2, [24], false, [], ⟨some 25, false, none, .nilc (.u 24)⟩⟩,
     ⟨3, [25], false, [], ⟨some 26, false, none, .faddr 6 (.u 25)⟩⟩,
     ⟨4, [26], true, [], ⟨some 27, false, none, .load false 1 (.u 26)⟩⟩,
     ⟨5, [4], true, [], ⟨some 28, false, none, .load true 4 (.t 4)⟩⟩,
     ⟨6, [28], false, [], ⟨some 29, false, none, .mkS 4 1 [.int .i64 0, .int .i64 0, .int .i64 0, .fsl 1 0 []] [(0, 4, (.u 28))]⟩⟩,
     ⟨7, [27, 29], false, [], ⟨some 30, false, none, .app 4 48 (.u 27) (.u 29)⟩⟩,
     ⟨8, [23], false, [], ⟨some 31, false, none, .nilc (.u 23)⟩⟩,
     ⟨9, [31], false, [], ⟨some 32, false, none, .faddr 6 (.u 31)⟩⟩,
     ⟨10, [32, 30], false, [], ⟨none, true, none, .store 1 (.u 32) (.u 30)⟩⟩])
  (.region [⟨some 33, false, none, .mov (.t 0)⟩,
    ⟨some 34, false, none, .build [.int .i64 0, .int .i64 0, .int .i64 0, .int .i64 0, .int .i64 0] []⟩,
    ⟨some 35, false, none, .nilc (.u 33)⟩,
    ⟨some 36, false, none, .faddr 7 (.u 35)⟩,
    ⟨none, true, none, .store 5 (.u 36) (.u 34)⟩]))))
def r45 : List LRes := []
theorem t45 : (Try.f45.body.bind (trCode v45 Try.prog Try.f45.ntmps)) = some c45 ∧ trRes v45 Try.prog Try.f45.results.toList = some r45 := ⟨by kernel_rfl, by kernel_rfl⟩

def v46 : Nat → Bool := fun t => [0, 1, 2].contains t
def c46 : LCode :=
  .seq (.region [⟨some 1, true, none, .box (.t 0)⟩,
     ⟨some 2, true, none, .zero [.int .i64 0, .int .i64 0, .int .i64 0, .fsl 1 0 []]⟩])
  (.seq (.region [⟨some 3, false, none, .faddr 3 (.t 1)⟩,
     ⟨some 4, false, none, .load false 1 (.u 3)⟩,
     ⟨some 5, false, none, .call 59 [(.u 4)]⟩,
     ⟨some 6, false, none, .faddr 3 (.t 1)⟩,
     ⟨none, true, none, .store 1 (.u 6) (.u 5)⟩])
  (.seq (.region [⟨some 7, false, none, .load true 4 (.t 1)⟩,
     ⟨none, true, none, .store 4 (.t 2) (.u 7)⟩])
  (.ret)))
def r46 : List LRes := [.cell true 4 2]
theorem t46 : (Try.f46.body.bind (trCode v46 Try.prog Try.f46.ntmps)) = some c46 ∧ trRes v46 Try.prog Try.f46.results.toList = some r46 := ⟨by kernel_rfl, by kernel_rfl⟩

def v47 : Nat → Bool := fun t => [0, 1, 4, 5, 7, 8, 9, 16].contains t
def c47 : LCode :=
  .seq (.region [⟨some 4, true, none, .mov (.c (.int .i64 0))⟩])
  (.seq (.seq (.region [⟨some 6, false, none, .mov (.t 0)⟩,
      ⟨some 7, true, none, .lenL (.u 6)⟩,
      ⟨some 8, true, none, .mov (.c (.int .i64 0))⟩])
   (.block 0 (.loop (.seq (.region [⟨some 9, true, none, .bin .lss (.t 8) (.t 7)⟩])
     (.seq (.cond (.t 9)
       (.skip)
       (.exit 0))
     (.seq (.block 1 (.seq (.region [⟨some 10, false, none, .mov (.t 8)⟩,
          ⟨some 5, true, none, .mov (.u 10)⟩])
       (.seq (.region [⟨some 11, false, none, .mov (.t 1)⟩,
          ⟨some 12, false, none, .mov (.t 0)⟩,
          ⟨some 13, false, none, .mov (.t 5)⟩,
          ⟨some 14, false, none, .iaS 1 (.u 12) (.u 13)⟩,
          ⟨some 15, false, none, .load false 1 (.u 14)⟩,
          ⟨some 16, true, none, .bin .eql (.u 11) (.u 15)⟩])
       (.cond (.t 16)
        (.seq (.region [⟨some 17, false, none, .mov (.t 5)⟩,
           ⟨some 4, true, none, .mov (.u 17)⟩])
        (.ret))
        (.skip)))))
     (.region [⟨some 18, false, none, .bin .add (.t 8) (.c (.int .i64 1))⟩,
       ⟨some 8, true, none, .mov (.u 18)⟩])))))))
  (.seq (.region [⟨some 4, true, none, .mov (.c (.int .i64 (-1)))⟩])
  (.ret)))
def r47 : List LRes := [.slot 4]
theorem t47 : (Try.f47.body.bind (trCode v47 Try.prog Try.f47.ntmps)) = some c47 ∧ trRes v47 Try.prog Try.f47.results.toList = some r47 := ⟨by kernel_rfl, by kernel_rfl⟩

def v48 : Nat → Bool := fun t => [0, 1, 2, 6, 7, 16].contains t
def c48 : LCode :=
  .seq (.region [⟨some 6, true, none, .mov (.c (.fsl 1 0 []))⟩])
  (.seq (.region [⟨some 8, false, none, .mov (.t 0)⟩,
     ⟨some 9, false, none, .mov (.t 1)⟩,
     ⟨some 10, false, none, .mov (.t 2)⟩,
     ⟨some 11, false, none, .mov (.t 0)⟩,
     ⟨some 12, false, none, .lenL (.u 11)⟩,
     ⟨some 13, false, none, .slL 1 (.u 8) (some (.u 9)) (some (.u 10)) (some (.u 12))⟩])
  (.seq (.seq (.region [⟨some 14, false, none, .mov (.t 1)⟩,
      ⟨some 15, false, none, .mov (.t 2)⟩,
      ⟨some 16, true, none, .bin .eql (.u 14) (.u 15)⟩])
   (.cond (.t 16)
    (.seq (.region [⟨some 17, false, none, .mov (.t 0)⟩,
       ⟨some 6, true, none, .mov (.u 17)⟩])
    (.ret))
    (.skip)))
  (.seq (.region [⟨some 18, false, none, .mov (.t 0)⟩,
     ⟨some 19, false, none, .lenL (.u 18)⟩,
     ⟨some 7, true, none, .mov (.u 19)⟩])
  (.seq (.regionD [⟨0, [0], false, [], ⟨some 20, false, none, .mov (.t 0)⟩⟩,
     ⟨1, [1], false, [], ⟨some 21, false, none, .mov (.t 1)⟩⟩,
     ⟨2, [20, 21], false, [], ⟨some 22, false, none, .slL 1 (.u 20) none (some (.u 21)) none⟩⟩,
     ⟨3, [0], false, [], ⟨some 23, false, none, .mov (.t 0)⟩⟩,
     ⟨4, [2], false, [], ⟨some 24, false, none, .mov (.t 2)⟩⟩,
     ⟨5, [23, 24], false, [], ⟨some 25, false, none, .slL 1 (.u 23) (some (.u 24)) none none⟩⟩,
     ⟨6, [22, 25], false, [], ⟨some 26, false, none, .app 1 8 (.u 22) (.u 25)⟩⟩,
     ⟨7, [26], false, [], ⟨some 0, true, none, .mov (.u 26)⟩⟩])
  (.seq (.region [⟨some 27, false, none, .mov (.t 0)⟩,
     ⟨some 28, false, none, .mov (.t 0)⟩,
     ⟨some 29, false, none, .lenL (.u 28)⟩,
     ⟨some 30, false, none, .mov (.t 7)⟩,
     ⟨some 31, false, none, .slL 1 (.u 27) (some (.u 29)) (some (.u 30)) none⟩,
     ⟨none, true, none, .clear 1 [.int .i64 0] (.u 31)⟩])
  (.seq (.region [⟨some 32, false, none, .mov (.t 0)⟩,
     ⟨some 6, true, none, .mov (.u 32)⟩])
  (.ret)))))))
def r48 : List LRes := [.slot 6]
theorem t48 : (Try.f48.body.bind (trCode v48 Try.prog Try.f48.ntmps)) = some c48 ∧ trRes v48 Try.prog Try.f48.results.toList = some r48 := ⟨by kernel_rfl, by kernel_rfl⟩

def v49 : Nat → Bool := fun t => [0, 2, 3, 5, 9, 10, 11, 12].contains t
def c49 : LCode :=
  .seq (.region [⟨some 2, true, none, .mov (.c (.fsl 1 0 []))⟩])
  (.seq (.region [⟨some 6, false, none, .mov (.t 0)⟩,
     ⟨some 7, false, none, .lenL (.u 6)⟩,
     ⟨some 8, false, none, .make 4 48 [.int .i64 0, .int .i64 0, .int .i64 0, .fsl 1 0 []] (.c (.int .i64 0)) (.u 7)⟩,
     ⟨some 3, true, none, .mov (.u 8)⟩])
  (.seq (.seq (.region [⟨some 9, true, none, .mov (.t 0)⟩,
      ⟨some 10, true, none, .lenL (.t 9)⟩,
      ⟨some 11, true, none, .mov (.c (.int .i64 0))⟩])
   (.block 0 (.loop (.seq (.region [⟨some 12, true, none, .bin .lss (.t 11) (.t 10)⟩])
     (.seq (.cond (.t 12)
       (.skip)
       (.exit 0))
     (.seq (.block 1 (.seq (.region [⟨some 13, false, none, .iaS 4 (.t 9) (.t 11)⟩,
          ⟨some 14, false, none, .load true 4 (.u 13)⟩,
          ⟨some 5, true, none, .zero [.int .i64 0, .int .i64 0, .int .i64 0, .fsl 1 0 []]⟩,
          ⟨none, true, none, .store 4 (.t 5) (.u 14)⟩])
       (.region [⟨some 15, false, none, .mov (.t 3)⟩,
         ⟨some 16, false, none, .load true 4 (.t 5)⟩,
         ⟨some 17, false, none, .call 46 [(.u 16)]⟩,
         ⟨some 18, false, none, .mkS 4 1 [.int .i64 0, .int .i64 0, .int .i64 0, .fsl 1 0 []] [(0, 4, (.u 17))]⟩,
         ⟨some 19, false, none, .app 4 48 (.u 15) (.u 18)⟩,
         ⟨some 3, true, none, .mov (.u 19)⟩])))
     (.region [⟨some 20, false, none, .bin .add (.t 11) (.c (.int .i64 1))⟩,
       ⟨some 11, true, none, .mov (.u 20)⟩])))))))
  (.seq (.region [⟨some 21, false, none, .mov (.t 3)⟩,
     ⟨some 2, true, none, .mov (.u 21)⟩])
  (.ret))))
def r49 : List LRes := [.slot 2]
theorem t49 : (Try.f49.body.bind (trCode v49 Try.prog Try.f49.ntmps)) = some c49 ∧ trRes v49 Try.prog Try.f49.results.toList = some r49 := ⟨by kernel_rfl, by kernel_rfl⟩

def v50 : Nat → Bool := fun t => [0, 1, 2, 6, 7, 16].contains t
def c50 : LCode :=
  .seq (.region [⟨some 6, true, none, .mov (.c (.fsl 1 0 []))⟩])
  (.seq (.region [⟨some 8, false, none, .mov (.t 0)⟩,
     ⟨some 9, false, none, .mov (.t 1)⟩,
     ⟨some 10, false, none, .mov (.t 2)⟩,
     ⟨some 11, false, none, .mov (.t 0)⟩,
     ⟨some 12, false, none, .lenL (.u 11)⟩,
     ⟨some 13, false, none, .slL 4 (.u 8) (some (.u 9)) (some (.u 10)) (some (.u 12))⟩])
  (.seq (.seq (.region [⟨some 14, false, none, .mov (.t 1)⟩,
      ⟨some 15, false, none, .mov (.t 2)⟩,
      ⟨some 16, true, none, .bin .eql (.u 14) (.u 15)⟩])
   (.cond (.t 16)
    (.seq (.region [⟨some 17, false, none, .mov (.t 0)⟩,
       ⟨some 6, true, none, .mov (.u 17)⟩])
    (.ret))
    (.skip)))
  (.seq (.region [⟨some 18, false, none, .mov (.t 0)⟩,
     ⟨some 19, false, none, .lenL (.u 18)⟩,
     ⟨some 7, true, none, .mov (.u 19)⟩])
  (.seq (.regionD [⟨0, [0], false, [], ⟨some 20, false, none, .mov (.t 0)⟩⟩,
     ⟨1, [1], false, [], ⟨some 21, false, none, .mov (.t 1)⟩⟩,
     ⟨2, [20, 21], false, [], ⟨some 22, false, none, .slL 4 (.u 20) none (some (.u 21)) none⟩⟩,
     ⟨3, [0], false, [], ⟨some 23, false, none, .mov (.t 0)⟩⟩,
     ⟨4, [2], false, [], ⟨some 24, false, none, .mov (.t 2)⟩⟩,
     ⟨5, [23, 24], false, [], ⟨some 25, false, none, .slL 4 (.u 23) (some (.u 24)) none none⟩⟩,
     ⟨6, [22, 25], false, [], ⟨some 26, false, none, .app 4 48 (.u 22) (.u 25)⟩⟩,
     ⟨7, [26], false, [], ⟨some 0, true, none, .mov (.u 26)⟩⟩])
  (.seq (.region [⟨some 27, false, none, .mov (.t 0)⟩,
     ⟨some 28, false, none, .mov (.t 0)⟩,
     ⟨some 29, false, none, .lenL (.u 28)⟩,
     ⟨some 30, false, none, .mov (.t 7)⟩,
     ⟨some 31, false, none, .slL 4 (.u 27) (some (.u 29)) (some (.u 30)) none⟩,
     ⟨none, true, none, .clear 4 [.int .i64 0, .int .i64 0, .int .i64 0, .fsl 1 0 []] (.u 31)⟩])
  (.seq (.region [⟨some 32, false, none, .mov (.t 0)⟩,
     ⟨some 6, true, none, .mov (.u 32)⟩])
  (.ret)))))))
def r50 : List LRes := [.slot 6]
theorem t50 : (Try.f50.body.bind (trCode v50 Try.prog Try.f50.ntmps)) = some c50 ∧ trRes v50 Try.prog Try.f50.results.toList = some r50 := ⟨by kernel_rfl, by kernel_rfl⟩

def v51 : Nat → Bool := fun t => [0, 1, 4, 5, 10, 14, 25].contains t
def c51 : LCode :=
  .seq (.region [⟨some 4, true, none, .mov (.c (.bool false))⟩])
  (.seq (.seq (.region [⟨some 6, false, none, .mov (.t 0)⟩,
      ⟨some 7, false, none, .lenL (.u 6)⟩,
      ⟨some 8, false, none, .mov (.t 1)⟩,
      ⟨some 9, false, none, .lenL (.u 8)⟩,
      ⟨some 10, true, none, .bin .neq (.u 7) (.u 9)⟩])
   (.cond (.t 10)
    (.seq (.region [⟨some 4, true, none, .mov (.c (.bool false))⟩])
    (.ret))
    (.skip)))
  (.seq (.seq (.region [⟨some 5, true, none, .mov (.c (.int .i64 0))⟩])
   (.block 0 (.loop (.seq (.seq (.region [⟨some 11, false, none, .mov (.t 5)⟩,
         ⟨some 12, false, none, .mov (.t 0)⟩,
         ⟨some 13, false, none, .lenL (.u 12)⟩,
         ⟨some 14, true, none, .bin .lss (.u 11) (.u 13)⟩])
      (.cond (.t 14)
       (.skip)
       (.exit 0)))
     (.seq (.block 1 (.seq (.regionD [⟨0, [0], false, [], ⟨some 17, false, none, .mov (.t 0)⟩⟩,
          ⟨1, [5], false, [], ⟨some 18, false, none, .mov (.t 5)⟩⟩,
          ⟨2, [17, 18], false, [], ⟨some 19, false, none, .iaS 4 (.u 17) (.u 18)⟩⟩,
          ⟨3, [19], true, [], ⟨some 20, false, none, .load true 4 (.u 19)⟩⟩,
          ⟨4, [1], false, [], ⟨some 21, false, none, .mov (.t 1)⟩⟩,
          ⟨5, [5], false, [], ⟨some 22, false, none, .mov (.t 5)⟩⟩,
          ⟨6, [21, 22], false, [], ⟨some 23, false, none, .iaS 4 (.u 21) (.u 22)⟩⟩,
          ⟨7, [23], true, [], ⟨some 24, false, none, .load true 4 (.u 23)⟩⟩,
          ⟨8, [20, 24], false, [], ⟨some 25, true, none, .eqS true 4 [(0, 2), (1, 1), (2, 1), (3, 2)] (.u 20) (.u 24)⟩⟩])
       (.cond (.t 25)
        (.seq (.region [⟨some 4, true, none, .mov (.c (.bool false))⟩])
        (.ret))
        (.skip))))
     (.region [⟨some 15, false, none, .mov (.t 5)⟩,
       ⟨some 16, false, none, .bin .add (.u 15) (.c (.int .i64 1))⟩,
       ⟨some 5, true, none, .mov (.u 16)⟩]))))))
  (.seq (.region [⟨some 4, true, none, .mov (.c (.bool true))⟩])
  (.ret))))
def r51 : List LRes := [.slot 4]
theorem t51 : (Try.f51.body.bind (trCode v51 Try.prog Try.f51.ntmps)) = some c51 ∧ trRes v51 Try.prog Try.f51.results.toList = some r51 := ⟨by kernel_rfl, by kernel_rfl⟩

def v52 : Nat → Bool := fun t => [0, 1, 4].contains t
def c52 : LCode :=
  .seq (.region [⟨some 4, true, none, .zero [.str [], .int .i64 0, .int .i64 0, .str []]⟩])
  (.seq (.region [⟨some 5, false, none, .mov (.t 0)⟩,
     ⟨some 6, false, none, .mov (.t 1)⟩,
     ⟨some 7, false, none, .build [.str [], .int .i64 0, .int .i64 0, .str []] [(0, 1, (.u 5)), (1, 1, (.c (.int .i64 1))), (2, 1, (.u 6))]⟩,
     ⟨none, true, none, .store 4 (.t 4) (.u 7)⟩])
  (.ret))
def r52 : List LRes := [.cell true 4 4]
theorem t52 : (Try.f52.body.bind (trCode v52 Try.prog Try.f52.ntmps)) = some c52 ∧ trRes v52 Try.prog Try.f52.results.toList = some r52 := ⟨by kernel_rfl, by kernel_rfl⟩

def v53 : Nat → Bool := fun t => [0, 1, 2, 3, 4, 6, 7, 8, 9, 25, 30, 40].contains t
def c53 : LCode :=
  .seq (.region [⟨some 3, true, none, .box (.t 0)⟩,
     ⟨some 4, true, none, .box (.t 1)⟩,
     ⟨some 6, true, none, .zero [.int .i64 0, .int .i64 0, .int .i64 0, .int .i64 0, .int .i64 0, .fsl 1 0 [], .fsl 1 0 [], .int .i64 0, .int .i64 0, .int .i64 0, .int .i64 0, .int .i64 0, .int .i64 0, .int .i64 0, .int .i64 0, .bool false, .fsl 1 0 []]⟩])
  (.seq (.region [⟨some 10, false, none, .load true 17 (.t 3)⟩,
     ⟨some 11, false, none, .call 35 [(.u 10)]⟩,
     ⟨some 7, true, none, .zero [.int .i64 0, .int .i64 0, .int .i64 0, .int .i64 0, .int .i64 0, .fsl 1 0 [], .fsl 1 0 [], .int .i64 0, .int .i64 0, .int .i64 0, .int .i64 0, .int .i64 0, .int .i64 0, .int .i64 0, .int .i64 0, .bool false, .fsl 1 0 []]⟩,
     ⟨none, true, none, .store 17 (.t 7) (.u 11)⟩])
  (.seq (.regionD [⟨0, [7], false, [], ⟨some 12, false, none, .faddr 6 (.t 7)⟩⟩,
     ⟨1, [12], true, [], ⟨some 13, false, none, .load false 1 (.u 12)⟩⟩,
     ⟨2, [4], true, [], ⟨some 14, false, none, .load true 4 (.t 4)⟩⟩,
     ⟨3, [14], false, [], ⟨some 15, false, none, .mkS 4 1 [.int .i64 0, .int .i64 0, .int .i64 0, .fsl 1 0 []] [(0, 4, (.u 14))]⟩⟩,
     ⟨4, [4], false, [], ⟨some 16, false, none, .faddr 2 (.t 4)⟩⟩,
     ⟨5, [16], true, [], ⟨some 17, false, none, .load false 1 (.u 16)⟩⟩,
     ⟨6, [15, 17], false, [1], ⟨some 18, false, none, .call 28 [(.u 15), (.u 17)]⟩⟩,
     ⟨7, [13, 18], false, [], ⟨some 19, false, none, .app 4 48 (.u 13) (.u 18)⟩⟩,
     ⟨8, [7], false, [], ⟨some 20, false, none, .faddr 6 (.t 7)⟩⟩,
     ⟨9, [20, 19], false, [], ⟨none, true, none, .store 1 (.u 20) (.u 19)⟩⟩])
  (.seq (.region [⟨some 21, false, none, .faddr 4 (.t 7)⟩,
     ⟨some 22, false, none, .load false 1 (.u 21)⟩,
     ⟨some 23, false, none, .bin .sub (.u 22) (.c (.int .i64 1))⟩,
     ⟨some 24, false, none, .faddr 4 (.t 7)⟩,
     ⟨none, true, none, .store 1 (.u 24) (.u 23)⟩])
  (.seq (.seq (.region [⟨some 25, true, none, .mov (.t 2)⟩])
   (.cond (.t 25)
    (.seq (.region [⟨some 8, true, none, .mov (.c (.fsl 1 0 []))⟩])
    (.seq (.seq (.region [⟨some 9, true, none, .mov (.c (.int .i64 0))⟩])
     (.block 0 (.loop (.seq (.seq (.region [⟨some 26, false, none, .mov (.t 9)⟩,
           ⟨some 27, false, none, .faddr 5 (.t 7)⟩,
           ⟨some 28, false, none, .load false 1 (.u 27)⟩,
           ⟨some 29, false, none, .lenL (.u 28)⟩,
           ⟨some 30, true, none, .bin .lss (.u 26) (.u 29)⟩])
        (.cond (.t 30)
         (.skip)
         (.exit 0)))
       (.seq (.block 1 (.seq (.regionD [⟨0, [7], false, [], ⟨some 33, false, none, .faddr 5 (.t 7)⟩⟩,
            ⟨1, [33], true, [], ⟨some 34, false, none, .load false 1 (.u 33)⟩⟩,
            ⟨2, [9], false, [], ⟨some 35, false, none, .mov (.t 9)⟩⟩,
            ⟨3, [34, 35], false, [], ⟨some 36, false, none, .iaS 1 (.u 34) (.u 35)⟩⟩,
            ⟨4, [36], true, [], ⟨some 37, false, none, .load false 1 (.u 36)⟩⟩,
            ⟨5, [4], false, [], ⟨some 38, false, none, .faddr 2 (.t 4)⟩⟩,
            ⟨6, [38], true, [], ⟨some 39, false, none, .load false 1 (.u 38)⟩⟩,
            ⟨7, [37, 39], false, [], ⟨some 40, true, none, .bin .neq (.u 37) (.u 39)⟩⟩])
         (.cond (.t 40)
          (.region [⟨some 41, false, none, .mov (.t 8)⟩,
            ⟨some 42, false, none, .faddr 5 (.t 7)⟩,
            ⟨some 43, false, none, .load false 1 (.u 42)⟩,
            ⟨some 44, false, none, .mov (.t 9)⟩,
            ⟨some 45, false, none, .iaS 1 (.u 43) (.u 44)⟩,
            ⟨some 46, false, none, .load false 1 (.u 45)⟩,
            ⟨some 47, false, none, .mkS 1 1 [.int .i64 0] [(0, 1, (.u 46))]⟩,
            ⟨some 48, false, none, .app 1 8 (.u 41) (.u 47)⟩,
            ⟨some 8, true, none, .mov (.u 48)⟩])
          (.skip))))
       (.region [⟨some 31, false, none, .mov (.t 9)⟩,
         ⟨some 32, false, none, .bin .add (.u 31) (.c (.int .i64 1))⟩,
         ⟨some 9, true, none, .mov (.u 32)⟩]))))))
    (.region [⟨some 49, false, none, .mov (.t 8)⟩,
      ⟨some 50, false, none, .faddr 5 (.t 7)⟩,
      ⟨none, true, none, .store 1 (.u 50) (.u 49)⟩])))
    (.skip)))
  (.seq (.region [⟨some 51, false, none, .load true 17 (.t 7)⟩,
     ⟨none, true, none, .store 17 (.t 6) (.u 51)⟩])
  (.ret))))))
def r53 : List LRes := [.cell true 17 6]
theorem t53 : (Try.f53.body.bind (trCode v53 Try.prog Try.f53.ntmps)) = some c53 ∧ trRes v53 Try.prog Try.f53.results.toList = some r53 := ⟨by kernel_rfl, by kernel_rfl⟩

def v54 : Nat → Bool := fun t => [0, 1, 2, 3, 6, 7, 8, 9, 71].contains t
def c54 : LCode :=
  .seq (.region [⟨some 3, true, none, .box (.t 0)⟩,
     ⟨some 6, true, none, .zero [.int .i64 0, .int .i64 0, .int .i64 0, .int .i64 0, .int .i64 0, .fsl 1 0 [], .fsl 1 0 [], .int .i64 0, .int .i64 0, .int .i64 0, .int .i64 0, .int .i64 0, .int .i64 0, .int .i64 0, .int .i64 0, .bool false, .fsl 1 0 []]⟩,
     ⟨some 7, true, none, .mov (.c (.fsl 1 0 []))⟩])
  (.seq (.region [⟨some 10, false, none, .load true 17 (.t 3)⟩,
     ⟨some 11, false, none, .call 35 [(.u 10)]⟩,
     ⟨some 8, true, none, .zero [.int .i64 0, .int .i64 0, .int .i64 0, .int .i64 0, .int .i64 0, .fsl 1 0 [], .fsl 1 0 [], .int .i64 0, .int .i64 0, .int .i64 0, .int .i64 0, .int .i64 0, .int .i64 0, .int .i64 0, .int .i64 0, .bool false, .fsl 1 0 []]⟩,
     ⟨none, true, none, .store 17 (.t 8) (.u 11)⟩])
  (.seq (.region [⟨some 12, false, none, .mov (.t 2)⟩,
     ⟨some 13, false, none, .faddr 6 (.t 8)⟩,
     ⟨some 14, false, none, .load false 1 (.u 13)⟩,
     ⟨some 15, false, none, .lenL (.u 14)⟩,
     ⟨some 16, false, none, .mm false (.u 12) [(.u 15)]⟩,
     ⟨some 17, false, none, .mm true (.c (.int .i64 0)) [(.u 16)]⟩,
     ⟨some 2, true, none, .mov (.u 17)⟩])
  (.seq (.region [⟨some 18, false, none, .faddr 6 (.t 8)⟩,
     ⟨some 19, false, none, .load false 1 (.u 18)⟩,
     ⟨some 20, false, none, .mov (.t 2)⟩,
     ⟨some 21, false, none, .mov (.t 2)⟩,
     ⟨some 22, false, none, .slL 4 (.u 19) none (some (.u 20)) (some (.u 21))⟩,
     ⟨some 9, true, none, .mov (.u 22)⟩])
  (.seq (.region [⟨some 23, false, none, .faddr 6 (.t 8)⟩,
     ⟨some 24, false, none, .load false 1 (.u 23)⟩,
     ⟨some 25, false, none, .mov (.t 2)⟩,
     ⟨some 26, false, none, .slL 4 (.u 24) (some (.u 25)) none none⟩,
     ⟨some 27, false, none, .app 4 48 (.c (.fsl 1 0 [])) (.u 26)⟩,
     ⟨some 28, false, none, .faddr 6 (.t 8)⟩,
     ⟨none, true, none, .store 1 (.u 28) (.u 27)⟩])
  (.seq (.seq (.regionD [⟨0, [8], true, [], ⟨some 29, false, none, .load true 17 (.t 8)⟩⟩,
      ⟨1, [29], false, [], ⟨some 30, false, none, .call 36 [(.u 29)]⟩⟩,
      ⟨2, [30], false, [], ⟨some 31, false, none, .mov (.u 30)⟩⟩,
      ⟨3, [8, 31], false, [], ⟨some 32, false, some ((.u 31), true), .faddr 6 (.t 8)⟩⟩,
      ⟨4, [32, 31], true, [], ⟨some 33, false, some ((.u 31), true), .load false 1 (.u 32)⟩⟩,
      ⟨5, [33, 31], false, [], ⟨some 34, false, some ((.u 31), true), .lenL (.u 33)⟩⟩,
      ⟨6, [8, 31], false, [], ⟨some 35, false, some ((.u 31), true), .faddr 4 (.t 8)⟩⟩,
      ⟨7, [35, 31], true, [], ⟨some 36, false, some ((.u 31), true), .load false 1 (.u 35)⟩⟩,
      ⟨8, [34, 36, 31], false, [], ⟨some 37, false, some ((.u 31), true), .bin .add (.u 34) (.u 36)⟩⟩,
      ⟨9, [8, 31], false, [], ⟨some 38, false, some ((.u 31), true), .faddr 0 (.t 8)⟩⟩,
      ⟨10, [38, 31], true, [], ⟨some 39, false, some ((.u 31), true), .load false 1 (.u 38)⟩⟩,
      ⟨11, [37, 39, 31], false, [], ⟨some 40, false, some ((.u 31), true), .bin .lss (.u 37) (.u 39)⟩⟩,
      ⟨12, [31, 40], false, [], ⟨some 41, false, none, .pick (.u 31) (.u 40) (.c (.bool false))⟩⟩,
      ⟨13, [41], false, [], ⟨some 42, false, none, .mov (.u 41)⟩⟩,
      ⟨14, [8, 42], false, [], ⟨some 43, false, some ((.u 42), true), .faddr 3 (.t 8)⟩⟩,
      ⟨15, [43, 42], true, [], ⟨some 44, false, some ((.u 42), true), .load false 1 (.u 43)⟩⟩,
      ⟨16, [44, 42], false, [], ⟨some 45, false, some ((.u 42), true), .bin .leq (.u 44) (.c (.int .i64 1073741821))⟩⟩,
      ⟨17, [42, 45], false, [], ⟨some 46, false, none, .pick (.u 42) (.u 45) (.c (.bool false))⟩⟩,
      ⟨18, [46], false, [], ⟨some 47, false, none, .mov (.u 46)⟩⟩,
      ⟨19, [1, 47], false, [], ⟨some 48, false, some ((.u 47), true), .mov (.t 1)⟩⟩,
      ⟨20, [48, 47], false, [], ⟨some 49, false, some ((.u 47), true), .bin .geq (.u 48) (.c (.int .i64 0))⟩⟩,
      ⟨21, [47, 49], false, [], ⟨some 50, false, none, .pick (.u 47) (.u 49) (.c (.bool false))⟩⟩,
      ⟨22, [50], false, [], ⟨some 51, false, none, .mov (.u 50)⟩⟩,
      ⟨23, [1, 51], false, [], ⟨some 52, false, some ((.u 51), true), .mov (.t 1)⟩⟩,
      ⟨24, [52, 51], false, [], ⟨some 53, false, some ((.u 51), true), .bin .leq (.u 52) (.c (.int .i64 1099511627776))⟩⟩,
      ⟨25, [51, 53], false, [], ⟨some 54, false, none, .pick (.u 51) (.u 53) (.c (.bool false))⟩⟩,
      ⟨26, [54], false, [], ⟨some 55, false, none, .mov (.u 54)⟩⟩,
      ⟨27, [8, 55], false, [], ⟨some 56, false, some ((.u 55), true), .faddr 5 (.t 8)⟩⟩,
      ⟨28, [56, 55], true, [], ⟨some 57, false, some ((.u 55), true), .load false 1 (.u 56)⟩⟩,
      ⟨29, [57, 55], false, [], ⟨some 58, false, some ((.u 55), true), .lenL (.u 57)⟩⟩,
      ⟨30, [58, 55], false, [], ⟨some 59, false, some ((.u 55), true), .bin .eql (.u 58) (.c (.int .i64 0))⟩⟩,
      ⟨31, [59, 55], false, [], ⟨some 60, false, some ((.u 55), true), .mov (.u 59)⟩⟩,
      ⟨32, [8, 60], false, [], ⟨some 61, false, some ((.u 60), false), .faddr 3 (.t 8)⟩⟩,
      ⟨33, [61, 60], true, [], ⟨some 62, false, some ((.u 60), false), .load false 1 (.u 61)⟩⟩,
      ⟨34, [62, 60], false, [], ⟨some 63, false, some ((.u 60), false), .bin .add (.u 62) (.c (.int .i64 1))⟩⟩,
      ⟨35, [8, 60], false, [], ⟨some 64, false, some ((.u 60), false), .faddr 5 (.t 8)⟩⟩,
      ⟨36, [64, 60], true, [], ⟨some 65, false, some ((.u 60), false), .load false 1 (.u 64)⟩⟩,
      ⟨37, [65, 60], false, [], ⟨some 66, false, some ((.u 60), false), .iaS 1 (.u 65) (.c (.int .i64 0))⟩⟩,
      ⟨38, [66, 60], true, [], ⟨some 67, false, some ((.u 60), false), .load false 1 (.u 66)⟩⟩,
      ⟨39, [63, 67, 60], false, [], ⟨some 68, false, some ((.u 60), false), .bin .sub (.u 63) (.u 67)⟩⟩,
      ⟨40, [68, 60], false, [], ⟨some 69, false, some ((.u 60), false), .bin .lss (.u 68) (.c (.int .i64 64))⟩⟩,
      ⟨41, [60, 69, 55], false, [], ⟨some 70, false, some ((.u 55), true), .pick (.u 60) (.c (.bool true)) (.u 69)⟩⟩,
      ⟨42, [55, 70], false, [], ⟨some 71, true, none, .pick (.u 55) (.u 70) (.c (.bool false))⟩⟩])
   (.cond (.t 71)
    (.region [⟨some 72, false, none, .mov (.t 1)⟩,
      ⟨some 73, false, none, .call 38 [(.t 8), (.u 72)]⟩])
    (.skip)))
  (.seq (.region [⟨some 74, false, none, .load true 17 (.t 8)⟩,
     ⟨some 75, false, none, .mov (.t 9)⟩,
     ⟨none, true, none, .store 17 (.t 6) (.u 74)⟩,
     ⟨some 7, true, none, .mov (.u 75)⟩])
  (.ret)))))))
def r54 : List LRes := [.cell true 17 6, .slot 7]
theorem t54 : (Try.f54.body.bind (trCode v54 Try.prog Try.f54.ntmps)) = some c54 ∧ trRes v54 Try.prog Try.f54.results.toList = some r54 := ⟨by kernel_rfl, by kernel_rfl⟩

def v55 : Nat → Bool := fun t => [0, 2, 4, 1000001].contains t
def c55 : LCode :=
  .seq (.region [⟨some 2, true, none, .mov (.c (.fsl 1 0 []))⟩])
  (.seq (.seq (.region [⟨some 3, false, none, .mov (.t 0)⟩,
      ⟨some 4, true, none, .isNil false (.u 3)⟩])
   (.cond (.t 4)
    (.seq (.region [⟨some 2, true, none, .mov (.c (.fsl 1 0 []))⟩])
    (.ret))
    (.skip)))
  (.seq (.region [⟨some 5, false, none, .mkS 1 0 [.int .i64 0] []⟩,
     ⟨some 6, false, none, .mov (.t 0)⟩,
     ⟨some 7, false, none, .appF 1 8 (.u 5) (.u 6)⟩,
     ⟨some 2, true, none, .mov (.u 7)⟩])
  (.ret)))
def r55 : List LRes := [.slot 2]
theorem t55 : (Try.f55.body.bind (trCode v55 Try.prog Try.f55.ntmps)) = some c55 ∧ trRes v55 Try.prog Try.f55.results.toList = some r55 := ⟨by kernel_rfl, by kernel_rfl⟩

def v56 : Nat → Bool := fun t => [0, 2, 4, 1000001].contains t
def c56 : LCode :=
  .seq (.region [⟨some 2, true, none, .mov (.c (.fsl 1 0 []))⟩])
  (.seq (.seq (.region [⟨some 3, false, none, .mov (.t 0)⟩,
      ⟨some 4, true, none, .isNil false (.u 3)⟩])
   (.cond (.t 4)
    (.seq (.region [⟨some 2, true, none, .mov (.c (.fsl 1 0 []))⟩])
    (.ret))
    (.skip)))
  (.seq (.region [⟨some 5, false, none, .mkS 2 0 [.int .i64 0, .int .i64 0] []⟩,
     ⟨some 6, false, none, .mov (.t 0)⟩,
     ⟨some 7, false, none, .appF 2 16 (.u 5) (.u 6)⟩,
     ⟨some 2, true, none, .mov (.u 7)⟩])
  (.ret)))
def r56 : List LRes := [.slot 2]
theorem t56 : (Try.f56.body.bind (trCode v56 Try.prog Try.f56.ntmps)) = some c56 ∧ trRes v56 Try.prog Try.f56.results.toList = some r56 := ⟨by kernel_rfl, by kernel_rfl⟩

def v57 : Nat → Bool := fun t => [0, 1, 2, 6, 7, 16].contains t
def c57 : LCode :=
  .seq (.region [⟨some 6, true, none, .mov (.c (.fsl 1 0 []))⟩])
  (.seq (.region [⟨some 8, false, none, .mov (.t 0)⟩,
     ⟨some 9, false, none, .mov (.t 1)⟩,
     ⟨some 10, false, none, .mov (.t 2)⟩,
     ⟨some 11, false, none, .mov (.t 0)⟩,
     ⟨some 12, false, none, .lenL (.u 11)⟩,
     ⟨some 13, false, none, .slL 2 (.u 8) (some (.u 9)) (some (.u 10)) (some (.u 12))⟩])
  (.seq (.seq (.region [⟨some 14, false, none, .mov (.t 1)⟩,
      ⟨some 15, false, none, .mov (.t 2)⟩,
      ⟨some 16, true, none, .bin .eql (.u 14) (.u 15)⟩])
   (.cond (.t 16)
    (.seq (.region [⟨some 17, false, none, .mov (.t 0)⟩,
       ⟨some 6, true, none, .mov (.u 17)⟩])
    (.ret))
    (.skip)))
  (.seq (.region [⟨some 18, false, none, .mov (.t 0)⟩,
     ⟨some 19, false, none, .lenL (.u 18)⟩,
     ⟨some 7, true, none, .mov (.u 19)⟩])
  (.seq (.regionD [⟨0, [0], false, [], ⟨some 20, false, none, .mov (.t 0)⟩⟩,
     ⟨1, [1], false, [], ⟨some 21, false, none, .mov (.t 1)⟩⟩,
     ⟨2, [20, 21], false, [], ⟨some 22, false, none, .slL 2 (.u 20) none (some (.u 21)) none⟩⟩,
     ⟨3, [0], false, [], ⟨some 23, false, none, .mov (.t 0)⟩⟩,
     ⟨4, [2], false, [], ⟨some 24, false, none, .mov (.t 2)⟩⟩,
     ⟨5, [23, 24], false, [], ⟨some 25, false, none, .slL 2 (.u 23) (some (.u 24)) none none⟩⟩,
     ⟨6, [22, 25], false, [], ⟨some 26, false, none, .app 2 16 (.u 22) (.u 25)⟩⟩,
     ⟨7, [26], false, [], ⟨some 0, true, none, .mov (.u 26)⟩⟩])
  (.seq (.region [⟨some 27, false, none, .mov (.t 0)⟩,
     ⟨some 28, false, none, .mov (.t 0)⟩,
     ⟨some 29, false, none, .lenL (.u 28)⟩,
     ⟨some 30, false, none, .mov (.t 7)⟩,
     ⟨some 31, false, none, .slL 2 (.u 27) (some (.u 29)) (some (.u 30)) none⟩,
     ⟨none, true, none, .clear 2 [.int .i64 0, .int .i64 0] (.u 31)⟩])
  (.seq (.region [⟨some 32, false, none, .mov (.t 0)⟩,
     ⟨some 6, true, none, .mov (.u 32)⟩])
  (.ret)))))))
def r57 : List LRes := [.slot 6]
theorem t57 : (Try.f57.body.bind (trCode v57 Try.prog Try.f57.ntmps)) = some c57 ∧ trRes v57 Try.prog Try.f57.results.toList = some r57 := ⟨by kernel_rfl, by kernel_rfl⟩

def v58 : Nat → Bool := fun t => [0, 1, 2, 4].contains t
def c58 : LCode :=
  .seq (.region [⟨some 2, true, none, .box (.t 0)⟩,
     ⟨some 4, true, none, .zero [.int .i64 0, .int .i64 0, .int .i64 0, .fsl 1 0 []]⟩])
  (.seq (.regionD [⟨0, [1], false, [], ⟨some 5, false, none, .mov (.t 1)⟩⟩,
     ⟨1, [2], false, [], ⟨some 6, false, none, .faddr 0 (.t 2)⟩⟩,
     ⟨2, [6], true, [], ⟨some 7, false, none, .load false 1 (.u 6)⟩⟩,
     ⟨4, [2], false, [], ⟨some 9, false, none, .faddr 1 (.t 2)⟩⟩,
     ⟨5, [9], true, [], ⟨some 10, false, none, .load false 1 (.u 9)⟩⟩,
     ⟨7, [2], false, [], ⟨some 12, false, none, .faddr 2 (.t 2)⟩⟩,
     ⟨8, [12], true, [], ⟨some 13, false, none, .load false 1 (.u 12)⟩⟩,
     ⟨10, [2], false, [], ⟨some 15, false, none, .faddr 3 (.t 2)⟩⟩,
     ⟨11, [15], true, [], ⟨some 16, false, none, .load false 1 (.u 15)⟩⟩,
     ⟨13, [2], false, [], ⟨some 18, false, none, .faddr 4 (.t 2)⟩⟩,
     ⟨14, [18], true, [], ⟨some 19, false, none, .load false 1 (.u 18)⟩⟩,
     ⟨3, [7], false, [14, 11, 8, 5], ⟨some 8, false, none, .call 60 [(.c (.str [102, 105, 114, 115, 116])), (.u 7)]⟩⟩,
     ⟨6, [10], false, [14, 11, 8], ⟨some 11, false, none, .call 60 [(.c (.str [108, 97, 115, 116])), (.u 10)]⟩⟩,
     ⟨9, [13], false, [14, 11], ⟨some 14, false, none, .call 60 [(.c (.str [114, 97, 116, 101, 100])), (.u 13)]⟩⟩,
     ⟨12, [16], false, [14], ⟨some 17, false, none, .call 60 [(.c (.str [102, 117, 108, 108])), (.u 16)]⟩⟩,
     ⟨15, [19], false, [], ⟨some 20, false, none, .call 60 [(.c (.str [115, 116, 97, 108, 108, 101, 100])), (.u 19)]⟩⟩,
     ⟨16, [8, 11, 14, 17, 20], false, [], ⟨some 21, false, none, .mkS 4 5 [.str [], .int .i64 0, .int .i64 0, .str []] [(0, 4, (.u 8)), (4, 4, (.u 11)), (8, 4, (.u 14)), (12, 4, (.u 17)), (16, 4, (.u 20))]⟩⟩,
     ⟨17, [5, 21], false, [], ⟨some 22, false, none, .build [.int .i64 0, .int .i64 0, .int .i64 0, .fsl 1 0 []] [(0, 1, (.c (.int .i64 1331))), (1, 1, (.u 5)), (3, 1, (.u 21))]⟩⟩,
     ⟨18, [4, 22], false, [], ⟨none, true, none, .store 4 (.t 4) (.u 22)⟩⟩])
  (.ret))
def r58 : List LRes := [.cell true 4 4]
theorem t58 : (Try.f58.body.bind (trCode v58 Try.prog Try.f58.ntmps)) = some c58 ∧ trRes v58 Try.prog Try.f58.results.toList = some r58 := ⟨by kernel_rfl, by kernel_rfl⟩

def v59 : Nat → Bool := fun t => [0, 2, 4].contains t
def c59 : LCode :=
  .seq (.region [⟨some 2, true, none, .mov (.c (.fsl 1 0 []))⟩])
  (.seq (.seq (.region [⟨some 3, false, none, .mov (.t 0)⟩,
      ⟨some 4, true, none, .isNil false (.u 3)⟩])
   (.cond (.t 4)
    (.seq (.region [⟨some 2, true, none, .mov (.c (.fsl 1 0 []))⟩])
    (.ret))
    (.skip)))
  (.seq (.region [⟨some 5, false, none, .mkS 4 0 [.str [], .int .i64 0, .int .i64 0, .str []] []⟩,
     ⟨some 6, false, none, .mov (.t 0)⟩,
     ⟨some 7, false, none, .app 4 48 (.u 5) (.u 6)⟩,
     ⟨some 2, true, none, .mov (.u 7)⟩])
  (.ret)))
def r59 : List LRes := [.slot 2]
theorem t59 : (Try.f59.body.bind (trCode v59 Try.prog Try.f59.ntmps)) = some c59 ∧ trRes v59 Try.prog Try.f59.results.toList = some r59 := ⟨by kernel_rfl, by kernel_rfl⟩

def v60 : Nat → Bool := fun t => [0, 1, 4].contains t
def c60 : LCode :=
  .seq (.region [⟨some 4, true, none, .zero [.str [], .int .i64 0, .int .i64 0, .str []]⟩])
  (.seq (.region [⟨some 5, false, none, .mov (.t 0)⟩,
     ⟨some 6, false, none, .mov (.t 1)⟩,
     ⟨some 7, false, none, .build [.str [], .int .i64 0, .int .i64 0, .str []] [(0, 1, (.u 5)), (1, 1, (.c (.int .i64 1))), (2, 1, (.u 6))]⟩,
     ⟨none, true, none, .store 4 (.t 4) (.u 7)⟩])
  (.ret))
def r60 : List LRes := [.cell true 4 4]
theorem t60 : (Try.f60.body.bind (trCode v60 Try.prog Try.f60.ntmps)) = some c60 ∧ trRes v60 Try.prog Try.f60.results.toList = some r60 := ⟨by kernel_rfl, by kernel_rfl⟩


end Go.Proofs.Ytofpepjehiohcaa
