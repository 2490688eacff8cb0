/- The functions' bodies as the engine reads them; written by program out of the translation, checked by the kernel. -/
import Derived.Test.YtphjbikodkomnaaDoorProg
import Derived.Test.YtphjbikodkomnaaDoorLxL
import Derived.KernelRfl
namespace Go.Proofs.YtphjbikodkomnaaDoor
open Go Go.Lx
set_option maxRecDepth 100000
def v3 : Nat → Bool := fun t => [0, 1, 2, 3, 5, 8, 9, 10, 12, 14, 15, 16, 17, 18, 26, 27, 28, 29, 50, 51, 52, 53, 92].contains t
def c3 : LCode :=
  .seq (.region [⟨some 5, true, none, .box (.t 1)⟩,
     ⟨some 8, true, none, .mov (.c (.bool false))⟩])
  (.seq (.region [⟨some 19, false, none, .mov (.t 0)⟩,
     ⟨some 20, false, none, .call 7 [(.u 19), (.c (.int .i64 40))]⟩,
     ⟨some 9, true, none, .mov (.u 20)⟩])
  (.seq (.region [⟨some 21, false, none, .mov (.t 9)⟩,
     ⟨some 22, false, none, .call 8 [(.u 21)]⟩,
     ⟨some 23, false, none, .fld true 6 5 (.u 22)⟩,
     ⟨some 10, true, none, .zero [.int .i64 0, .int .i64 0, .int .i64 0, .int .i64 0, .int .i64 0, .int .i64 0]⟩,
     ⟨none, true, none, .store 6 (.t 10) (.u 23)⟩])
  (.seq (.seq (.region [⟨some 24, false, none, .load true 6 (.t 5)⟩,
      ⟨some 25, false, none, .load true 6 (.t 10)⟩,
      ⟨some 26, true, none, .mkS 6 2 [.int .i64 0, .int .i64 0, .int .i64 0, .int .i64 0, .int .i64 0, .int .i64 0] [(0, 6, (.u 24)), (6, 6, (.u 25))]⟩,
      ⟨some 27, true, none, .lenL (.t 26)⟩,
      ⟨some 28, true, none, .mov (.c (.int .i64 0))⟩])
   (.block 0 (.loop (.seq (.region [⟨some 29, true, none, .bin .lss (.t 28) (.t 27)⟩])
     (.seq (.cond (.t 29)
       (.skip)
       (.exit 0))
     (.seq (.block 1 (.seq (.region [⟨some 30, false, none, .iaS 6 (.t 26) (.t 28)⟩,
          ⟨some 31, false, none, .load true 6 (.u 30)⟩,
          ⟨some 12, true, none, .zero [.int .i64 0, .int .i64 0, .int .i64 0, .int .i64 0, .int .i64 0, .int .i64 0]⟩,
          ⟨none, true, none, .store 6 (.t 12) (.u 31)⟩])
       (.seq (.region [⟨some 32, false, none, .mov (.t 2)⟩,
          ⟨some 33, false, none, .mov (.t 3)⟩,
          ⟨some 34, false, none, .build [.int .i64 0, .int .i64 0] [(0, 1, (.u 32)), (1, 1, (.u 33))]⟩,
          ⟨some 35, false, none, .mov (.t 9)⟩,
          ⟨some 36, false, none, .call 9 [(.u 35), (.c (.int .i64 3))]⟩,
          ⟨some 37, false, none, .mov (.t 9)⟩,
          ⟨some 38, false, none, .mkS 1 9 [.int .i64 0] [(0, 1, (.c (.int .i64 0))), (1, 1, (.c (.int .i64 149))), (2, 1, (.c (.int .i64 150))), (3, 1, (.c (.int .i64 299))), (4, 1, (.c (.int .i64 300))), (5, 1, (.c (.int .i64 450))), (6, 1, (.c (.int .i64 899))), (7, 1, (.c (.int .i64 900))), (8, 1, (.c (.int .i64 2000)))]⟩,
          ⟨some 39, false, none, .call 10 [(.u 37), (.u 38)]⟩,
          ⟨some 40, false, none, .build [.int .i64 0, .int .i64 0] [(0, 1, (.u 36)), (1, 1, (.u 39))]⟩,
          ⟨some 41, false, none, .mov (.t 2)⟩,
          ⟨some 42, false, none, .mov (.t 9)⟩,
          ⟨some 43, false, none, .call 9 [(.u 42), (.c (.int .i64 256))]⟩,
          ⟨some 44, false, none, .build [.int .i64 0, .int .i64 0] [(0, 1, (.u 41)), (1, 1, (.u 43))]⟩,
          ⟨some 45, false, none, .mov (.t 9)⟩,
          ⟨some 46, false, none, .call 9 [(.u 45), (.c (.int .i64 4))]⟩,
          ⟨some 47, false, none, .bin .sub (.u 46) (.c (.int .i64 1))⟩,
          ⟨some 48, false, none, .mov (.t 3)⟩,
          ⟨some 49, false, none, .build [.int .i64 0, .int .i64 0] [(0, 1, (.u 47)), (1, 1, (.u 48))]⟩,
          ⟨some 50, true, none, .mkS 2 4 [.int .i64 0, .int .i64 0] [(0, 2, (.u 34)), (2, 2, (.u 40)), (4, 2, (.u 44)), (6, 2, (.u 49))]⟩,
          ⟨some 51, true, none, .lenL (.t 50)⟩,
          ⟨some 52, true, none, .mov (.c (.int .i64 0))⟩])
       (.block 2 (.loop (.seq (.region [⟨some 53, true, none, .bin .lss (.t 52) (.t 51)⟩])
         (.seq (.cond (.t 53)
           (.skip)
           (.exit 2))
         (.seq (.block 3 (.seq (.region [⟨some 54, false, none, .iaS 2 (.t 50) (.t 52)⟩,
              ⟨some 55, false, none, .load true 2 (.u 54)⟩,
              ⟨some 14, true, none, .zero [.int .i64 0, .int .i64 0]⟩,
              ⟨none, true, none, .store 2 (.t 14) (.u 55)⟩])
           (.seq (.region [⟨some 57, false, none, .load true 6 (.t 12)⟩,
              ⟨some 58, false, none, .iaA 2 1 (.t 14) (.c (.int .i64 0))⟩,
              ⟨some 59, false, none, .load false 1 (.u 58)⟩,
              ⟨some 60, false, none, .iaA 2 1 (.t 14) (.c (.int .i64 1))⟩,
              ⟨some 61, false, none, .load false 1 (.u 60)⟩,
              ⟨some 62, false, none, .call 11 [(.u 57), (.u 59), (.u 61)]⟩,
              ⟨some 56, false, none, .mov (.u 62)⟩,
              ⟨some 63, false, none, .ext (.u 56) 0⟩,
              ⟨some 64, false, none, .ext (.u 56) 1⟩,
              ⟨some 15, true, none, .mov (.u 63)⟩,
              ⟨some 16, true, none, .mov (.u 64)⟩])
           (.seq (.region [⟨some 66, false, none, .load true 6 (.t 12)⟩,
              ⟨some 67, false, none, .iaA 2 1 (.t 14) (.c (.int .i64 0))⟩,
              ⟨some 68, false, none, .load false 1 (.u 67)⟩,
              ⟨some 69, false, none, .iaA 2 1 (.t 14) (.c (.int .i64 1))⟩,
              ⟨some 70, false, none, .load false 1 (.u 69)⟩,
              ⟨some 71, false, none, .call 12 [(.u 66), (.u 68), (.u 70)]⟩,
              ⟨some 65, false, none, .mov (.u 71)⟩,
              ⟨some 72, false, none, .ext (.u 65) 0⟩,
              ⟨some 73, false, none, .ext (.u 65) 1⟩,
              ⟨some 17, true, none, .mov (.u 72)⟩,
              ⟨some 18, true, none, .mov (.u 73)⟩])
           (.seq (.regionD [⟨0, [15], false, [], ⟨some 74, false, none, .mov (.t 15)⟩⟩,
              ⟨1, [17], false, [], ⟨some 75, false, none, .mov (.t 17)⟩⟩,
              ⟨2, [74, 75], false, [], ⟨some 76, false, none, .bin .neq (.u 74) (.u 75)⟩⟩,
              ⟨3, [76], false, [], ⟨some 77, false, none, .mov (.u 76)⟩⟩,
              ⟨4, [16, 77], false, [], ⟨some 78, false, some ((.u 77), false), .mov (.t 16)⟩⟩,
              ⟨5, [18, 77], false, [], ⟨some 79, false, some ((.u 77), false), .mov (.t 18)⟩⟩,
              ⟨6, [78, 79, 77], false, [], ⟨some 80, false, some ((.u 77), false), .bin .neq (.u 78) (.u 79)⟩⟩,
              ⟨7, [77, 80], false, [], ⟨some 81, false, none, .pick (.u 77) (.c (.bool true)) (.u 80)⟩⟩,
              ⟨8, [81], false, [], ⟨some 82, false, none, .mov (.u 81)⟩⟩,
              ⟨9, [12, 82], true, [], ⟨some 83, false, some ((.u 82), false), .load true 6 (.t 12)⟩⟩,
              ⟨10, [14, 82], false, [], ⟨some 84, false, some ((.u 82), false), .iaA 2 1 (.t 14) (.c (.int .i64 1))⟩⟩,
              ⟨11, [84, 82], true, [], ⟨some 85, false, some ((.u 82), false), .load false 1 (.u 84)⟩⟩,
              ⟨13, [12, 82], true, [], ⟨some 87, false, some ((.u 82), false), .load true 6 (.t 12)⟩⟩,
              ⟨14, [14, 82], false, [], ⟨some 88, false, some ((.u 82), false), .iaA 2 1 (.t 14) (.c (.int .i64 1))⟩⟩,
              ⟨15, [88, 82], true, [], ⟨some 89, false, some ((.u 82), false), .load false 1 (.u 88)⟩⟩,
              ⟨12, [83, 85, 82], false, [15, 13], ⟨some 86, false, some ((.u 82), false), .call 13 [(.u 83), (.u 85)]⟩⟩,
              ⟨16, [87, 89, 82], false, [], ⟨some 90, false, some ((.u 82), false), .call 14 [(.u 87), (.u 89)]⟩⟩,
              ⟨17, [86, 90, 82], false, [], ⟨some 91, false, some ((.u 82), false), .bin .neq (.u 86) (.u 90)⟩⟩,
              ⟨18, [82, 91], false, [], ⟨some 92, true, none, .pick (.u 82) (.c (.bool true)) (.u 91)⟩⟩])
           (.cond (.t 92)
            (.seq (.region [⟨some 8, true, none, .mov (.c (.bool false))⟩])
            (.ret))
            (.skip)))))))
         (.region [⟨some 93, false, none, .bin .add (.t 52) (.c (.int .i64 1))⟩,
           ⟨some 52, true, none, .mov (.u 93)⟩])))))))))
     (.region [⟨some 94, false, none, .bin .add (.t 28) (.c (.int .i64 1))⟩,
       ⟨some 28, true, none, .mov (.u 94)⟩])))))))
  (.seq (.regionD [⟨0, [5], true, [], ⟨some 95, false, none, .load true 6 (.t 5)⟩⟩,
     ⟨2, [5], true, [], ⟨some 97, false, none, .load true 6 (.t 5)⟩⟩,
     ⟨1, [95], false, [2], ⟨some 96, false, none, .call 15 [(.u 95)]⟩⟩,
     ⟨3, [97], false, [], ⟨some 98, false, none, .call 16 [(.u 97)]⟩⟩,
     ⟨4, [96, 98], false, [], ⟨some 99, false, none, .eqB false (.u 96) (.u 98)⟩⟩,
     ⟨5, [99], false, [], ⟨some 100, false, none, .mov (.u 99)⟩⟩,
     ⟨6, [10, 100], true, [], ⟨some 101, false, some ((.u 100), true), .load true 6 (.t 10)⟩⟩,
     ⟨7, [101, 100], false, [], ⟨some 102, false, some ((.u 100), true), .call 15 [(.u 101)]⟩⟩,
     ⟨8, [100, 102], false, [], ⟨some 103, false, none, .pick (.u 100) (.u 102) (.c (.bool false))⟩⟩,
     ⟨9, [103], false, [], ⟨some 104, false, none, .mov (.u 103)⟩⟩,
     ⟨10, [104], false, [], ⟨some 105, false, some ((.u 104), true), .call 17 []⟩⟩,
     ⟨11, [104, 105], false, [], ⟨some 106, false, none, .pick (.u 104) (.u 105) (.c (.bool false))⟩⟩,
     ⟨12, [106], false, [], ⟨some 8, true, none, .mov (.u 106)⟩⟩])
  (.ret)))))
def r3 : List LRes := [.slot 8]
theorem t3 : (Tryd.f3.body.bind (trCode v3 Tryd.prog Tryd.f3.ntmps)) = some c3 ∧ trRes v3 Tryd.prog Tryd.f3.results.toList = some r3 := ⟨by kernel_rfl, by kernel_rfl⟩

def v4 : Nat → Bool := fun t => [0, 2, 3, 4, 5, 6, 7, 8, 9, 16, 29, 73].contains t
def c4 : LCode :=
  .seq (.region [⟨some 2, true, none, .mov (.c (.bool false))⟩])
  (.seq (.region [⟨some 10, false, none, .mov (.t 0)⟩,
     ⟨some 11, false, none, .call 7 [(.u 10), (.c (.int .i64 120))]⟩,
     ⟨some 3, true, none, .mov (.u 11)⟩])
  (.seq (.region [⟨some 12, false, none, .mov (.t 3)⟩,
     ⟨some 13, false, none, .call 8 [(.u 12)]⟩,
     ⟨some 14, false, none, .fld true 6 5 (.u 13)⟩,
     ⟨some 4, true, none, .zero [.int .i64 0, .int .i64 0, .int .i64 0, .int .i64 0, .int .i64 0, .int .i64 0]⟩,
     ⟨none, true, none, .store 6 (.t 4) (.u 14)⟩])
  (.seq (.region [⟨some 5, true, none, .mov (.c (.int .i64 0))⟩])
  (.seq (.block 0 (.loop (.seq (.seq (.region [⟨some 15, false, none, .mov (.t 3)⟩,
         ⟨some 16, true, none, .call 18 [(.u 15)]⟩])
      (.cond (.t 16)
       (.skip)
       (.exit 0)))
     (.block 1 (.seq (.region [⟨some 17, false, none, .mov (.t 3)⟩,
         ⟨some 18, false, none, .mkS 1 10 [.int .i64 0] [(0, 1, (.c (.int .i64 0))), (1, 1, (.c (.int .i64 10))), (2, 1, (.c (.int .i64 149))), (3, 1, (.c (.int .i64 150))), (4, 1, (.c (.int .i64 299))), (5, 1, (.c (.int .i64 300))), (6, 1, (.c (.int .i64 450))), (7, 1, (.c (.int .i64 899))), (8, 1, (.c (.int .i64 900))), (9, 1, (.c (.int .i64 5000)))]⟩,
         ⟨some 19, false, none, .call 10 [(.u 17), (.u 18)]⟩,
         ⟨some 6, true, none, .mov (.u 19)⟩])
      (.seq (.region [⟨some 21, false, none, .load true 6 (.t 4)⟩,
         ⟨some 22, false, none, .mov (.t 5)⟩,
         ⟨some 23, false, none, .mov (.t 6)⟩,
         ⟨some 24, false, none, .call 11 [(.u 21), (.u 22), (.u 23)]⟩,
         ⟨some 20, false, none, .mov (.u 24)⟩,
         ⟨some 25, false, none, .ext (.u 20) 0⟩,
         ⟨some 26, false, none, .ext (.u 20) 1⟩,
         ⟨some 7, true, none, .mov (.u 25)⟩,
         ⟨some 8, true, none, .mov (.u 26)⟩])
      (.seq (.region [⟨some 9, true, none, .mov (.c (.int .i64 0))⟩])
      (.seq (.seq (.region [⟨some 27, false, none, .mov (.t 7)⟩,
          ⟨some 28, false, none, .mov (.t 5)⟩,
          ⟨some 29, true, none, .bin .gtr (.u 27) (.u 28)⟩])
       (.cond (.t 29)
        (.region [⟨some 30, false, none, .faddr 2 (.t 4)⟩,
          ⟨some 31, false, none, .load false 1 (.u 30)⟩,
          ⟨some 32, false, none, .faddr 3 (.t 4)⟩,
          ⟨some 33, false, none, .load false 1 (.u 32)⟩,
          ⟨some 34, false, none, .mkS 1 3 [.int .i64 0] [(0, 1, (.c (.int .i64 0))), (1, 1, (.u 31)), (2, 1, (.u 33))]⟩,
          ⟨some 35, false, none, .mov (.t 7)⟩,
          ⟨some 36, false, none, .iaS 1 (.u 34) (.u 35)⟩,
          ⟨some 37, false, none, .load false 1 (.u 36)⟩,
          ⟨some 9, true, none, .mov (.u 37)⟩])
        (.skip)))
      (.seq (.seq (.region [⟨some 38, false, none, .mov (.t 7)⟩,
          ⟨some 39, false, none, .bin .lss (.u 38) (.c (.int .i64 0))⟩,
          ⟨some 40, false, none, .mov (.u 39)⟩,
          ⟨some 41, false, some ((.u 40), false), .mov (.t 7)⟩,
          ⟨some 42, false, some ((.u 40), false), .bin .gtr (.u 41) (.c (.int .i64 2))⟩,
          ⟨some 43, false, none, .pick (.u 40) (.c (.bool true)) (.u 42)⟩,
          ⟨some 44, false, none, .mov (.u 43)⟩,
          ⟨some 45, false, some ((.u 44), false), .mov (.t 7)⟩,
          ⟨some 46, false, some ((.u 44), false), .load true 6 (.t 4)⟩,
          ⟨some 47, false, some ((.u 44), false), .mov (.t 6)⟩,
          ⟨some 48, false, some ((.u 44), false), .call 13 [(.u 46), (.u 47)]⟩,
          ⟨some 49, false, some ((.u 44), false), .bin .neq (.u 45) (.u 48)⟩,
          ⟨some 50, false, none, .pick (.u 44) (.c (.bool true)) (.u 49)⟩,
          ⟨some 51, false, none, .mov (.u 50)⟩,
          ⟨some 52, false, some ((.u 51), false), .mov (.t 8)⟩,
          ⟨some 53, false, some ((.u 51), false), .mov (.t 9)⟩,
          ⟨some 54, false, some ((.u 51), false), .bin .neq (.u 52) (.u 53)⟩,
          ⟨some 55, false, none, .pick (.u 51) (.c (.bool true)) (.u 54)⟩,
          ⟨some 56, false, none, .mov (.u 55)⟩,
          ⟨some 57, false, some ((.u 56), false), .mov (.t 7)⟩,
          ⟨some 58, false, some ((.u 56), false), .bin .eql (.u 57) (.c (.int .i64 2))⟩,
          ⟨some 59, false, some ((.u 56), false), .mov (.t 6)⟩,
          ⟨some 60, false, some ((.u 56), false), .faddr 1 (.t 4)⟩,
          ⟨some 61, false, some ((.u 56), false), .load false 1 (.u 60)⟩,
          ⟨some 62, false, some ((.u 56), false), .bin .lss (.u 59) (.u 61)⟩,
          ⟨some 63, false, some ((.u 56), false), .eqB true (.u 58) (.u 62)⟩,
          ⟨some 64, false, none, .pick (.u 56) (.c (.bool true)) (.u 63)⟩,
          ⟨some 65, false, none, .mov (.u 64)⟩,
          ⟨some 66, false, some ((.u 65), false), .mov (.t 7)⟩,
          ⟨some 67, false, some ((.u 65), false), .bin .eql (.u 66) (.c (.int .i64 0))⟩,
          ⟨some 68, false, some ((.u 65), false), .mov (.t 6)⟩,
          ⟨some 69, false, some ((.u 65), false), .faddr 0 (.t 4)⟩,
          ⟨some 70, false, some ((.u 65), false), .load false 1 (.u 69)⟩,
          ⟨some 71, false, some ((.u 65), false), .bin .geq (.u 68) (.u 70)⟩,
          ⟨some 72, false, some ((.u 65), false), .eqB true (.u 67) (.u 71)⟩,
          ⟨some 73, true, none, .pick (.u 65) (.c (.bool true)) (.u 72)⟩])
       (.cond (.t 73)
        (.seq (.region [⟨some 2, true, none, .mov (.c (.bool false))⟩])
        (.ret))
        (.skip)))
      (.region [⟨some 74, false, none, .mov (.t 7)⟩,
        ⟨some 5, true, none, .mov (.u 74)⟩]))))))))))
  (.seq (.region [⟨some 75, false, none, .call 17 []⟩,
     ⟨some 2, true, none, .mov (.u 75)⟩])
  (.ret))))))
def r4 : List LRes := [.slot 2]
theorem t4 : (Tryd.f4.body.bind (trCode v4 Tryd.prog Tryd.f4.ntmps)) = some c4 ∧ trRes v4 Tryd.prog Tryd.f4.results.toList = some r4 := ⟨by kernel_rfl, by kernel_rfl⟩

def v5 : Nat → Bool := fun t => [0, 2, 3, 5, 12].contains t
def c5 : LCode :=
  .seq (.region [⟨some 2, true, none, .mov (.c (.bool false))⟩])
  (.seq (.seq (.region [⟨some 3, true, none, .mov (.c (.int .i64 (-1)))⟩])
   (.block 0 (.loop (.seq (.seq (.region [⟨some 4, false, none, .mov (.t 3)⟩,
         ⟨some 5, true, none, .bin .lss (.u 4) (.c (.int .i64 8))⟩])
      (.cond (.t 5)
       (.skip)
       (.exit 0)))
     (.seq (.block 1 (.seq (.region [⟨some 8, false, none, .mov (.t 3)⟩,
          ⟨some 9, false, none, .call 19 [(.u 8)]⟩,
          ⟨some 10, false, none, .mov (.t 3)⟩,
          ⟨some 11, false, none, .call 20 [(.u 10)]⟩,
          ⟨some 12, true, none, .bin .neq (.u 9) (.u 11)⟩])
       (.cond (.t 12)
        (.seq (.region [⟨some 2, true, none, .mov (.c (.bool false))⟩])
        (.ret))
        (.skip))))
     (.region [⟨some 6, false, none, .mov (.t 3)⟩,
       ⟨some 7, false, none, .bin .add (.u 6) (.c (.int .i64 1))⟩,
       ⟨some 3, true, none, .mov (.u 7)⟩]))))))
  (.seq (.region [⟨some 13, false, none, .mov (.t 0)⟩,
     ⟨some 14, false, none, .call 19 [(.u 13)]⟩,
     ⟨some 15, false, none, .mov (.t 0)⟩,
     ⟨some 16, false, none, .call 20 [(.u 15)]⟩,
     ⟨some 17, false, none, .bin .eql (.u 14) (.u 16)⟩,
     ⟨some 18, false, none, .mov (.u 17)⟩,
     ⟨some 19, false, some ((.u 18), true), .call 17 []⟩,
     ⟨some 20, false, none, .pick (.u 18) (.u 19) (.c (.bool false))⟩,
     ⟨some 2, true, none, .mov (.u 20)⟩])
  (.ret)))
def r5 : List LRes := [.slot 2]
theorem t5 : (Tryd.f5.body.bind (trCode v5 Tryd.prog Tryd.f5.ntmps)) = some c5 ∧ trRes v5 Tryd.prog Tryd.f5.results.toList = some r5 := ⟨by kernel_rfl, by kernel_rfl⟩

def v6 : Nat → Bool := fun t => [0, 1, 2, 6, 7].contains t
def c6 : LCode :=
  .seq (.region [⟨some 6, true, none, .mov (.c (.bool false))⟩])
  (.seq (.region [⟨some 8, false, none, .mov (.t 0)⟩,
     ⟨some 9, false, none, .call 7 [(.u 8), (.c (.int .i64 40))]⟩,
     ⟨some 10, false, none, .call 8 [(.u 9)]⟩,
     ⟨some 11, false, none, .fld true 6 5 (.u 10)⟩,
     ⟨some 7, true, none, .zero [.int .i64 0, .int .i64 0, .int .i64 0, .int .i64 0, .int .i64 0, .int .i64 0]⟩,
     ⟨none, true, none, .store 6 (.t 7) (.u 11)⟩])
  (.seq (.regionD [⟨0, [1], false, [], ⟨some 12, false, none, .mov (.t 1)⟩⟩,
     ⟨1, [2], false, [], ⟨some 13, false, none, .mov (.t 2)⟩⟩,
     ⟨2, [12, 13], false, [], ⟨some 14, false, none, .bin .gtr (.u 12) (.u 13)⟩⟩,
     ⟨3, [14], false, [], ⟨some 15, false, none, .mov (.u 14)⟩⟩,
     ⟨4, [7, 15], true, [], ⟨some 16, false, some ((.u 15), false), .load true 6 (.t 7)⟩⟩,
     ⟨5, [1, 15], false, [], ⟨some 17, false, some ((.u 15), false), .mov (.t 1)⟩⟩,
     ⟨7, [7, 15], true, [], ⟨some 19, false, some ((.u 15), false), .load true 6 (.t 7)⟩⟩,
     ⟨8, [2, 15], false, [], ⟨some 20, false, some ((.u 15), false), .mov (.t 2)⟩⟩,
     ⟨6, [16, 17, 15], false, [7], ⟨some 18, false, some ((.u 15), false), .call 13 [(.u 16), (.u 17)]⟩⟩,
     ⟨9, [19, 20, 15], false, [], ⟨some 21, false, some ((.u 15), false), .call 13 [(.u 19), (.u 20)]⟩⟩,
     ⟨10, [18, 21, 15], false, [], ⟨some 22, false, some ((.u 15), false), .bin .geq (.u 18) (.u 21)⟩⟩,
     ⟨11, [15, 22], false, [], ⟨some 23, false, none, .pick (.u 15) (.c (.bool true)) (.u 22)⟩⟩,
     ⟨12, [23], false, [], ⟨some 24, false, none, .mov (.u 23)⟩⟩,
     ⟨13, [2, 24], false, [], ⟨some 25, false, some ((.u 24), true), .mov (.t 2)⟩⟩,
     ⟨14, [1, 24], false, [], ⟨some 26, false, some ((.u 24), true), .mov (.t 1)⟩⟩,
     ⟨15, [25, 26, 24], false, [], ⟨some 27, false, some ((.u 24), true), .bin .gtr (.u 25) (.u 26)⟩⟩,
     ⟨16, [27, 24], false, [], ⟨some 28, false, some ((.u 24), true), .mov (.u 27)⟩⟩,
     ⟨17, [7, 28], true, [], ⟨some 29, false, some ((.u 28), false), .load true 6 (.t 7)⟩⟩,
     ⟨18, [2, 28], false, [], ⟨some 30, false, some ((.u 28), false), .mov (.t 2)⟩⟩,
     ⟨20, [7, 28], true, [], ⟨some 32, false, some ((.u 28), false), .load true 6 (.t 7)⟩⟩,
     ⟨21, [1, 28], false, [], ⟨some 33, false, some ((.u 28), false), .mov (.t 1)⟩⟩,
     ⟨19, [29, 30, 28], false, [20], ⟨some 31, false, some ((.u 28), false), .call 13 [(.u 29), (.u 30)]⟩⟩,
     ⟨22, [32, 33, 28], false, [], ⟨some 34, false, some ((.u 28), false), .call 13 [(.u 32), (.u 33)]⟩⟩,
     ⟨23, [31, 34, 28], false, [], ⟨some 35, false, some ((.u 28), false), .bin .geq (.u 31) (.u 34)⟩⟩,
     ⟨24, [28, 35, 24], false, [], ⟨some 36, false, some ((.u 24), true), .pick (.u 28) (.c (.bool true)) (.u 35)⟩⟩,
     ⟨25, [24, 36], false, [], ⟨some 37, false, none, .pick (.u 24) (.u 36) (.c (.bool false))⟩⟩,
     ⟨26, [37], false, [], ⟨some 38, false, none, .mov (.u 37)⟩⟩,
     ⟨27, [38], false, [], ⟨some 39, false, some ((.u 38), true), .call 17 []⟩⟩,
     ⟨28, [38, 39], false, [], ⟨some 40, false, none, .pick (.u 38) (.u 39) (.c (.bool false))⟩⟩,
     ⟨29, [40], false, [], ⟨some 6, true, none, .mov (.u 40)⟩⟩])
  (.ret)))
def r6 : List LRes := [.slot 6]
theorem t6 : (Tryd.f6.body.bind (trCode v6 Tryd.prog Tryd.f6.ntmps)) = some c6 ∧ trRes v6 Tryd.prog Tryd.f6.results.toList = some r6 := ⟨by kernel_rfl, by kernel_rfl⟩

def v7 : Nat → Bool := fun t => [0, 1, 4, 8].contains t
def c7 : LCode :=
  .seq (.region [⟨some 4, true, none, .mov (.c (.nil))⟩])
  (.seq (.seq (.region [⟨some 5, false, none, .mov (.t 0)⟩,
      ⟨some 6, false, none, .lenL (.u 5)⟩,
      ⟨some 7, false, none, .mov (.t 1)⟩,
      ⟨some 8, true, none, .bin .gtr (.u 6) (.u 7)⟩])
   (.cond (.t 8)
    (.region [⟨some 9, false, none, .mov (.t 0)⟩,
      ⟨some 10, false, none, .mov (.t 1)⟩,
      ⟨some 11, false, none, .slL 1 (.u 9) none (some (.u 10)) none⟩,
      ⟨some 0, true, none, .mov (.u 11)⟩])
    (.skip)))
  (.seq (.region [⟨some 12, false, none, .mov (.t 0)⟩,
     ⟨some 13, false, none, .build [.fsl 1 0 [], .int .i64 0] [(0, 1, (.u 12))]⟩,
     ⟨some 14, false, none, .box (.u 13)⟩,
     ⟨some 4, true, none, .mov (.u 14)⟩])
  (.ret)))
def r7 : List LRes := [.slot 4]
theorem t7 : (Tryd.f7.body.bind (trCode v7 Tryd.prog Tryd.f7.ntmps)) = some c7 ∧ trRes v7 Tryd.prog Tryd.f7.results.toList = some r7 := ⟨by kernel_rfl, by kernel_rfl⟩

def v8 : Nat → Bool := fun t => [0, 2, 3, 4, 5, 29, 43].contains t
def c8 : LCode :=
  .seq (.region [⟨some 2, true, none, .zero [.int .u64 0, .int .u64 0, .int .i64 0, .int .i64 0, .int .i64 0, .int .i64 0, .int .i64 0, .int .i64 0, .int .i64 0, .int .i64 0, .int .i64 0, .int .i64 0, .int .i64 0]⟩])
  (.seq (.region [⟨some 6, false, none, .mov (.t 0)⟩,
     ⟨some 7, false, none, .mkS 1 4 [.int .i64 0] [(0, 1, (.c (.int .i64 0))), (1, 1, (.c (.int .i64 0))), (2, 1, (.c (.int .i64 300))), (3, 1, (.c (.int .i64 900)))]⟩,
     ⟨some 8, false, none, .call 10 [(.u 6), (.u 7)]⟩,
     ⟨some 3, true, none, .mov (.u 8)⟩])
  (.seq (.region [⟨some 9, false, none, .mov (.t 3)⟩,
     ⟨some 10, false, none, .mov (.t 3)⟩,
     ⟨some 11, false, none, .mov (.t 0)⟩,
     ⟨some 12, false, none, .call 9 [(.u 11), (.c (.int .i64 2))]⟩,
     ⟨some 13, false, none, .bin .mul (.u 10) (.u 12)⟩,
     ⟨some 14, false, none, .bin .quo (.u 13) (.c (.int .i64 2))⟩,
     ⟨some 15, false, none, .mov (.t 0)⟩,
     ⟨some 16, false, none, .call 9 [(.u 15), (.c (.int .i64 5))]⟩,
     ⟨some 17, false, none, .bin .add (.c (.int .i64 1)) (.u 16)⟩,
     ⟨some 18, false, none, .mov (.t 0)⟩,
     ⟨some 19, false, none, .call 9 [(.u 18), (.c (.int .i64 5))]⟩,
     ⟨some 20, false, none, .bin .add (.c (.int .i64 1)) (.u 19)⟩,
     ⟨some 21, false, none, .mov (.t 0)⟩,
     ⟨some 22, false, none, .call 9 [(.u 21), (.c (.int .i64 5))]⟩,
     ⟨some 23, false, none, .bin .add (.c (.int .i64 1)) (.u 22)⟩,
     ⟨some 24, false, none, .mov (.t 0)⟩,
     ⟨some 25, false, none, .call 9 [(.u 24), (.c (.int .i64 5))]⟩,
     ⟨some 26, false, none, .bin .add (.c (.int .i64 1)) (.u 25)⟩,
     ⟨some 27, false, none, .build [.int .i64 0, .int .i64 0, .int .i64 0, .int .i64 0, .int .i64 0, .int .i64 0] [(0, 1, (.u 9)), (1, 1, (.u 14)), (2, 1, (.u 17)), (3, 1, (.u 20)), (4, 1, (.u 23)), (5, 1, (.u 26))]⟩,
     ⟨some 4, true, none, .zero [.int .i64 0, .int .i64 0, .int .i64 0, .int .i64 0, .int .i64 0, .int .i64 0]⟩,
     ⟨none, true, none, .store 6 (.t 4) (.u 27)⟩])
  (.seq (.seq (.region [⟨some 28, false, none, .mov (.t 0)⟩,
      ⟨some 29, true, none, .call 21 [(.u 28), (.c (.int .i64 2))]⟩])
   (.cond (.t 29)
    (.region [⟨some 30, false, none, .faddr 2 (.t 4)⟩,
      ⟨none, true, none, .store 1 (.u 30) (.c (.int .i64 2))⟩,
      ⟨some 31, false, none, .faddr 3 (.t 4)⟩,
      ⟨none, true, none, .store 1 (.u 31) (.c (.int .i64 1))⟩])
    (.skip)))
  (.seq (.region [⟨some 32, false, none, .mov (.t 0)⟩,
     ⟨some 33, false, none, .call 9 [(.u 32), (.c (.int .i64 4))]⟩,
     ⟨some 34, false, none, .bin .add (.c (.int .i64 1)) (.u 33)⟩,
     ⟨some 35, false, none, .build [.int .i64 0, .int .i64 0] [(0, 1, (.u 34))]⟩,
     ⟨some 5, true, none, .zero [.int .i64 0, .int .i64 0]⟩,
     ⟨none, true, none, .store 2 (.t 5) (.u 35)⟩])
  (.seq (.seq (.region [⟨some 36, false, none, .faddr 0 (.t 5)⟩,
      ⟨some 37, false, none, .load false 1 (.u 36)⟩,
      ⟨some 38, false, none, .bin .eql (.u 37) (.c (.int .i64 2))⟩,
      ⟨some 39, false, none, .mov (.u 38)⟩,
      ⟨some 40, false, some ((.u 39), false), .faddr 0 (.t 5)⟩,
      ⟨some 41, false, some ((.u 39), false), .load false 1 (.u 40)⟩,
      ⟨some 42, false, some ((.u 39), false), .bin .eql (.u 41) (.c (.int .i64 3))⟩,
      ⟨some 43, true, none, .pick (.u 39) (.c (.bool true)) (.u 42)⟩])
   (.cond (.t 43)
    (.region [⟨some 44, false, none, .mov (.t 0)⟩,
      ⟨some 45, false, none, .call 9 [(.u 44), (.c (.int .i64 4))]⟩,
      ⟨some 46, false, none, .bin .add (.c (.int .i64 1)) (.u 45)⟩,
      ⟨some 47, false, none, .faddr 1 (.t 5)⟩,
      ⟨none, true, none, .store 1 (.u 47) (.u 46)⟩])
    (.skip)))
  (.seq (.regionD [⟨0, [0], false, [], ⟨some 48, false, none, .mov (.t 0)⟩⟩,
     ⟨2, [0], false, [], ⟨some 50, false, none, .mov (.t 0)⟩⟩,
     ⟨4, [4], true, [], ⟨some 52, false, none, .load true 6 (.t 4)⟩⟩,
     ⟨5, [5], true, [], ⟨some 53, false, none, .load true 2 (.t 5)⟩⟩,
     ⟨1, [48], false, [5, 4], ⟨some 49, false, none, .call 22 [(.u 48)]⟩⟩,
     ⟨3, [50], false, [5, 4], ⟨some 51, false, none, .call 23 [(.u 50)]⟩⟩,
     ⟨6, [49, 51, 52, 53], false, [], ⟨some 54, false, none, .build [.int .u64 0, .int .u64 0, .int .i64 0, .int .i64 0, .int .i64 0, .int .i64 0, .int .i64 0, .int .i64 0, .int .i64 0, .int .i64 0, .int .i64 0, .int .i64 0, .int .i64 0] [(0, 2, (.u 49)), (2, 3, (.u 51)), (5, 6, (.u 52)), (11, 2, (.u 53))]⟩⟩,
     ⟨7, [2, 54], false, [], ⟨none, true, none, .store 13 (.t 2) (.u 54)⟩⟩])
  (.ret)))))))
def r8 : List LRes := [.cell true 13 2]
theorem t8 : (Tryd.f8.body.bind (trCode v8 Tryd.prog Tryd.f8.ntmps)) = some c8 ∧ trRes v8 Tryd.prog Tryd.f8.results.toList = some r8 := ⟨by kernel_rfl, by kernel_rfl⟩

def v9 : Nat → Bool := fun t => [0, 1, 4, 18].contains t
def c9 : LCode :=
  .seq (.region [⟨some 4, true, none, .mov (.c (.int .i64 0))⟩])
  (.seq (.seq (.regionD [⟨0, [1], false, [], ⟨some 5, false, none, .mov (.t 1)⟩⟩,
      ⟨1, [5], false, [], ⟨some 6, false, none, .bin .lss (.u 5) (.c (.int .i64 2))⟩⟩,
      ⟨2, [6], false, [], ⟨some 7, false, none, .mov (.u 6)⟩⟩,
      ⟨3, [0, 7], false, [], ⟨some 8, false, some ((.u 7), false), .mov (.t 0)⟩⟩,
      ⟨4, [8, 7], false, [], ⟨some 9, false, some ((.u 7), false), .nilc (.u 8)⟩⟩,
      ⟨5, [9, 7], false, [], ⟨some 10, false, some ((.u 7), false), .faddr 1 (.u 9)⟩⟩,
      ⟨6, [10, 7], true, [], ⟨some 11, false, some ((.u 7), false), .load false 1 (.u 10)⟩⟩,
      ⟨7, [0, 7], false, [], ⟨some 12, false, some ((.u 7), false), .mov (.t 0)⟩⟩,
      ⟨8, [12, 7], false, [], ⟨some 13, false, some ((.u 7), false), .nilc (.u 12)⟩⟩,
      ⟨9, [13, 7], false, [], ⟨some 14, false, some ((.u 7), false), .faddr 0 (.u 13)⟩⟩,
      ⟨10, [14, 7], true, [], ⟨some 15, false, some ((.u 7), false), .load false 1 (.u 14)⟩⟩,
      ⟨11, [15, 7], false, [], ⟨some 16, false, some ((.u 7), false), .lenL (.u 15)⟩⟩,
      ⟨12, [11, 16, 7], false, [], ⟨some 17, false, some ((.u 7), false), .bin .geq (.u 11) (.u 16)⟩⟩,
      ⟨13, [7, 17], false, [], ⟨some 18, true, none, .pick (.u 7) (.c (.bool true)) (.u 17)⟩⟩])
   (.cond (.t 18)
    (.seq (.region [⟨some 4, true, none, .mov (.c (.int .i64 0))⟩])
    (.ret))
    (.skip)))
  (.seq (.region [⟨some 19, false, none, .mov (.t 0)⟩,
     ⟨some 20, false, none, .nilc (.u 19)⟩,
     ⟨some 21, false, none, .faddr 1 (.u 20)⟩,
     ⟨some 22, false, none, .load false 1 (.u 21)⟩,
     ⟨some 23, false, none, .bin .add (.u 22) (.c (.int .i64 1))⟩,
     ⟨some 24, false, none, .nilc (.u 19)⟩,
     ⟨some 25, false, none, .faddr 1 (.u 24)⟩,
     ⟨none, true, none, .store 1 (.u 25) (.u 23)⟩])
  (.seq (.regionD [⟨0, [0], false, [], ⟨some 26, false, none, .mov (.t 0)⟩⟩,
     ⟨1, [26], false, [], ⟨some 27, false, none, .nilc (.u 26)⟩⟩,
     ⟨2, [27], false, [], ⟨some 28, false, none, .faddr 0 (.u 27)⟩⟩,
     ⟨3, [28], true, [], ⟨some 29, false, none, .load false 1 (.u 28)⟩⟩,
     ⟨4, [0], false, [], ⟨some 30, false, none, .mov (.t 0)⟩⟩,
     ⟨5, [30], false, [], ⟨some 31, false, none, .nilc (.u 30)⟩⟩,
     ⟨6, [31], false, [], ⟨some 32, false, none, .faddr 1 (.u 31)⟩⟩,
     ⟨7, [32], true, [], ⟨some 33, false, none, .load false 1 (.u 32)⟩⟩,
     ⟨8, [33], false, [], ⟨some 34, false, none, .bin .sub (.u 33) (.c (.int .i64 1))⟩⟩,
     ⟨9, [29, 34], false, [], ⟨some 35, false, none, .iaS 1 (.u 29) (.u 34)⟩⟩,
     ⟨10, [35], true, [], ⟨some 36, false, none, .load false 1 (.u 35)⟩⟩,
     ⟨11, [36], false, [], ⟨some 37, false, none, .conv .i64 (.u 36)⟩⟩,
     ⟨12, [1], false, [], ⟨some 38, false, none, .mov (.t 1)⟩⟩,
     ⟨13, [37, 38], false, [], ⟨some 39, false, none, .bin .rem (.u 37) (.u 38)⟩⟩,
     ⟨14, [39], false, [], ⟨some 4, true, none, .mov (.u 39)⟩⟩])
  (.ret))))
def r9 : List LRes := [.slot 4]
theorem t9 : (Tryd.f9.body.bind (trCode v9 Tryd.prog Tryd.f9.ntmps)) = some c9 ∧ trRes v9 Tryd.prog Tryd.f9.results.toList = some r9 := ⟨by kernel_rfl, by kernel_rfl⟩

def v10 : Nat → Bool := fun t => [0, 1, 4].contains t
def c10 : LCode :=
  .seq (.region [⟨some 4, true, none, .mov (.c (.int .i64 0))⟩])
  (.seq (.region [⟨some 5, false, none, .mov (.t 1)⟩,
     ⟨some 6, false, none, .mov (.t 0)⟩,
     ⟨some 7, false, none, .mov (.t 1)⟩,
     ⟨some 8, false, none, .lenL (.u 7)⟩,
     ⟨some 9, false, none, .call 9 [(.u 6), (.u 8)]⟩,
     ⟨some 10, false, none, .iaS 1 (.u 5) (.u 9)⟩,
     ⟨some 11, false, none, .load false 1 (.u 10)⟩,
     ⟨some 4, true, none, .mov (.u 11)⟩])
  (.ret))
def r10 : List LRes := [.slot 4]
theorem t10 : (Tryd.f10.body.bind (trCode v10 Tryd.prog Tryd.f10.ntmps)) = some c10 ∧ trRes v10 Tryd.prog Tryd.f10.results.toList = some r10 := ⟨by kernel_rfl, by kernel_rfl⟩

def v11 : Nat → Bool := fun t => [0, 1, 2, 3, 6, 7, 8, 11, 15, 25].contains t
def c11 : LCode :=
  .seq (.region [⟨some 3, true, none, .box (.t 0)⟩,
     ⟨some 6, true, none, .mov (.c (.int .i64 0))⟩,
     ⟨some 7, true, none, .mov (.c (.int .i64 0))⟩])
  (.seq (.seq (.region [⟨some 9, false, none, .load true 6 (.t 3)⟩,
      ⟨some 10, false, none, .call 15 [(.u 9)]⟩,
      ⟨some 11, true, none, .un .not (.u 10)⟩])
   (.cond (.t 11)
    (.seq (.region [⟨some 6, true, none, .mov (.c (.int .i64 0))⟩,
       ⟨some 7, true, none, .mov (.c (.int .i64 0))⟩])
    (.ret))
    (.skip)))
  (.seq (.region [⟨some 12, false, none, .load true 6 (.t 3)⟩,
     ⟨some 13, false, none, .mov (.t 2)⟩,
     ⟨some 14, false, none, .call 13 [(.u 12), (.u 13)]⟩,
     ⟨some 8, true, none, .mov (.u 14)⟩])
  (.seq (.block 0 (.seq (.region [⟨some 16, false, none, .mov (.t 8)⟩,
       ⟨some 17, false, none, .bin .eql (.u 16) (.c (.int .i64 2))⟩,
       ⟨some 18, false, none, .mov (.u 17)⟩,
       ⟨some 19, false, some ((.u 18), true), .mov (.t 1)⟩,
       ⟨some 20, false, some ((.u 18), true), .bin .lss (.u 19) (.c (.int .i64 2))⟩,
       ⟨some 21, false, none, .pick (.u 18) (.u 20) (.c (.bool false))⟩,
       ⟨some 15, true, none, .mov (.u 21)⟩])
    (.cond (.t 15)
     (.seq (.regionD [⟨0, [8], false, [], ⟨some 22, false, none, .mov (.t 8)⟩⟩,
        ⟨1, [3], false, [], ⟨some 23, false, none, .faddr 3 (.t 3)⟩⟩,
        ⟨2, [23], true, [], ⟨some 24, false, none, .load false 1 (.u 23)⟩⟩,
        ⟨3, [22], false, [], ⟨some 6, true, none, .mov (.u 22)⟩⟩,
        ⟨4, [24], false, [], ⟨some 7, true, none, .mov (.u 24)⟩⟩])
     (.ret))
     (.seq (.region [⟨some 26, false, none, .mov (.t 8)⟩,
        ⟨some 27, false, none, .bin .eql (.u 26) (.c (.int .i64 1))⟩,
        ⟨some 28, false, none, .mov (.u 27)⟩,
        ⟨some 29, false, some ((.u 28), true), .mov (.t 1)⟩,
        ⟨some 30, false, some ((.u 28), true), .bin .lss (.u 29) (.c (.int .i64 1))⟩,
        ⟨some 31, false, none, .pick (.u 28) (.u 30) (.c (.bool false))⟩,
        ⟨some 25, true, none, .mov (.u 31)⟩])
     (.cond (.t 25)
      (.seq (.regionD [⟨0, [8], false, [], ⟨some 32, false, none, .mov (.t 8)⟩⟩,
         ⟨1, [3], false, [], ⟨some 33, false, none, .faddr 2 (.t 3)⟩⟩,
         ⟨2, [33], true, [], ⟨some 34, false, none, .load false 1 (.u 33)⟩⟩,
         ⟨3, [32], false, [], ⟨some 6, true, none, .mov (.u 32)⟩⟩,
         ⟨4, [34], false, [], ⟨some 7, true, none, .mov (.u 34)⟩⟩])
      (.ret))
      (.skip))))))
  (.seq (.region [⟨some 35, false, none, .mov (.t 8)⟩,
     ⟨some 6, true, none, .mov (.u 35)⟩,
     ⟨some 7, true, none, .mov (.c (.int .i64 0))⟩])
  (.ret)))))
def r11 : List LRes := [.slot 6, .slot 7]
theorem t11 : (Tryd.f11.body.bind (trCode v11 Tryd.prog Tryd.f11.ntmps)) = some c11 ∧ trRes v11 Tryd.prog Tryd.f11.results.toList = some r11 := ⟨by kernel_rfl, by kernel_rfl⟩

def v12 : Nat → Bool := fun t => [0, 1, 2, 3, 6, 7, 8, 12, 22].contains t
def c12 : LCode :=
  .seq (.region [⟨some 3, true, none, .box (.t 0)⟩,
     ⟨some 6, true, none, .mov (.c (.int .i64 0))⟩,
     ⟨some 7, true, none, .mov (.c (.int .i64 0))⟩])
  (.seq (.region [⟨some 9, false, none, .load true 6 (.t 3)⟩,
     ⟨some 10, false, none, .mov (.t 2)⟩,
     ⟨some 11, false, none, .call 14 [(.u 9), (.u 10)]⟩,
     ⟨some 8, true, none, .mov (.u 11)⟩])
  (.seq (.block 0 (.seq (.region [⟨some 13, false, none, .mov (.t 8)⟩,
       ⟨some 14, false, none, .bin .eql (.u 13) (.c (.int .i64 2))⟩,
       ⟨some 15, false, none, .mov (.u 14)⟩,
       ⟨some 16, false, some ((.u 15), true), .mov (.t 1)⟩,
       ⟨some 17, false, some ((.u 15), true), .bin .lss (.u 16) (.c (.int .i64 2))⟩,
       ⟨some 18, false, none, .pick (.u 15) (.u 17) (.c (.bool false))⟩,
       ⟨some 12, true, none, .mov (.u 18)⟩])
    (.cond (.t 12)
     (.seq (.regionD [⟨0, [8], false, [], ⟨some 19, false, none, .mov (.t 8)⟩⟩,
        ⟨1, [3], false, [], ⟨some 20, false, none, .faddr 3 (.t 3)⟩⟩,
        ⟨2, [20], true, [], ⟨some 21, false, none, .load false 1 (.u 20)⟩⟩,
        ⟨3, [19], false, [], ⟨some 6, true, none, .mov (.u 19)⟩⟩,
        ⟨4, [21], false, [], ⟨some 7, true, none, .mov (.u 21)⟩⟩])
     (.ret))
     (.seq (.region [⟨some 23, false, none, .mov (.t 8)⟩,
        ⟨some 24, false, none, .bin .eql (.u 23) (.c (.int .i64 1))⟩,
        ⟨some 25, false, none, .mov (.u 24)⟩,
        ⟨some 26, false, some ((.u 25), true), .mov (.t 1)⟩,
        ⟨some 27, false, some ((.u 25), true), .bin .lss (.u 26) (.c (.int .i64 1))⟩,
        ⟨some 28, false, none, .pick (.u 25) (.u 27) (.c (.bool false))⟩,
        ⟨some 22, true, none, .mov (.u 28)⟩])
     (.cond (.t 22)
      (.seq (.regionD [⟨0, [8], false, [], ⟨some 29, false, none, .mov (.t 8)⟩⟩,
         ⟨1, [3], false, [], ⟨some 30, false, none, .faddr 2 (.t 3)⟩⟩,
         ⟨2, [30], true, [], ⟨some 31, false, none, .load false 1 (.u 30)⟩⟩,
         ⟨3, [29], false, [], ⟨some 6, true, none, .mov (.u 29)⟩⟩,
         ⟨4, [31], false, [], ⟨some 7, true, none, .mov (.u 31)⟩⟩])
      (.ret))
      (.skip))))))
  (.seq (.region [⟨some 32, false, none, .mov (.t 8)⟩,
     ⟨some 6, true, none, .mov (.u 32)⟩,
     ⟨some 7, true, none, .mov (.c (.int .i64 0))⟩])
  (.ret))))
def r12 : List LRes := [.slot 6, .slot 7]
theorem t12 : (Tryd.f12.body.bind (trCode v12 Tryd.prog Tryd.f12.ntmps)) = some c12 ∧ trRes v12 Tryd.prog Tryd.f12.results.toList = some r12 := ⟨by kernel_rfl, by kernel_rfl⟩

def v13 : Nat → Bool := fun t => [0, 1, 2, 4, 5, 9, 14].contains t
def c13 : LCode :=
  .seq (.region [⟨some 2, true, none, .box (.t 0)⟩,
     ⟨some 4, true, none, .mov (.c (.int .i64 0))⟩])
  (.seq (.block 0 (.seq (.region [⟨some 6, false, none, .load true 6 (.t 2)⟩,
       ⟨some 7, false, none, .call 15 [(.u 6)]⟩,
       ⟨some 8, false, none, .un .not (.u 7)⟩,
       ⟨some 5, true, none, .mov (.u 8)⟩])
    (.cond (.t 5)
     (.seq (.region [⟨some 4, true, none, .mov (.c (.int .i64 0))⟩])
     (.ret))
     (.seq (.region [⟨some 10, false, none, .mov (.t 1)⟩,
        ⟨some 11, false, none, .faddr 1 (.t 2)⟩,
        ⟨some 12, false, none, .load false 1 (.u 11)⟩,
        ⟨some 13, false, none, .bin .lss (.u 10) (.u 12)⟩,
        ⟨some 9, true, none, .mov (.u 13)⟩])
     (.cond (.t 9)
      (.seq (.region [⟨some 4, true, none, .mov (.c (.int .i64 2))⟩])
      (.ret))
      (.seq (.region [⟨some 15, false, none, .mov (.t 1)⟩,
         ⟨some 16, false, none, .faddr 0 (.t 2)⟩,
         ⟨some 17, false, none, .load false 1 (.u 16)⟩,
         ⟨some 18, false, none, .bin .lss (.u 15) (.u 17)⟩,
         ⟨some 14, true, none, .mov (.u 18)⟩])
      (.cond (.t 14)
       (.seq (.region [⟨some 4, true, none, .mov (.c (.int .i64 1))⟩])
       (.ret))
       (.skip))))))))
  (.seq (.region [⟨some 4, true, none, .mov (.c (.int .i64 0))⟩])
  (.ret)))
def r13 : List LRes := [.slot 4]
theorem t13 : (Tryd.f13.body.bind (trCode v13 Tryd.prog Tryd.f13.ntmps)) = some c13 ∧ trRes v13 Tryd.prog Tryd.f13.results.toList = some r13 := ⟨by kernel_rfl, by kernel_rfl⟩

def v14 : Nat → Bool := fun t => [0, 1, 2, 4, 5, 9, 14].contains t
def c14 : LCode :=
  .seq (.region [⟨some 2, true, none, .box (.t 0)⟩,
     ⟨some 4, true, none, .mov (.c (.int .i64 0))⟩])
  (.seq (.block 0 (.seq (.region [⟨some 6, false, none, .load true 6 (.t 2)⟩,
       ⟨some 7, false, none, .call 16 [(.u 6)]⟩,
       ⟨some 8, false, none, .un .not (.u 7)⟩,
       ⟨some 5, true, none, .mov (.u 8)⟩])
    (.cond (.t 5)
     (.seq (.region [⟨some 4, true, none, .mov (.c (.int .i64 0))⟩])
     (.ret))
     (.seq (.region [⟨some 10, false, none, .mov (.t 1)⟩,
        ⟨some 11, false, none, .faddr 1 (.t 2)⟩,
        ⟨some 12, false, none, .load false 1 (.u 11)⟩,
        ⟨some 13, false, none, .bin .lss (.u 10) (.u 12)⟩,
        ⟨some 9, true, none, .mov (.u 13)⟩])
     (.cond (.t 9)
      (.seq (.region [⟨some 4, true, none, .mov (.c (.int .i64 2))⟩])
      (.ret))
      (.seq (.region [⟨some 15, false, none, .mov (.t 1)⟩,
         ⟨some 16, false, none, .faddr 0 (.t 2)⟩,
         ⟨some 17, false, none, .load false 1 (.u 16)⟩,
         ⟨some 18, false, none, .bin .lss (.u 15) (.u 17)⟩,
         ⟨some 14, true, none, .mov (.u 18)⟩])
      (.cond (.t 14)
       (.seq (.region [⟨some 4, true, none, .mov (.c (.int .i64 1))⟩])
       (.ret))
       (.skip))))))))
  (.seq (.region [⟨some 4, true, none, .mov (.c (.int .i64 0))⟩])
  (.ret)))
def r14 : List LRes := [.slot 4]
theorem t14 : (Tryd.f14.body.bind (trCode v14 Tryd.prog Tryd.f14.ntmps)) = some c14 ∧ trRes v14 Tryd.prog Tryd.f14.results.toList = some r14 := ⟨by kernel_rfl, by kernel_rfl⟩

def v15 : Nat → Bool := fun t => [0, 1, 2].contains t
def c15 : LCode :=
  .seq (.region [⟨some 1, true, none, .box (.t 0)⟩,
     ⟨some 2, true, none, .mov (.c (.bool false))⟩])
  (.seq (.region [⟨some 3, false, none, .faddr 1 (.t 1)⟩,
     ⟨some 4, false, none, .load false 1 (.u 3)⟩,
     ⟨some 5, false, none, .bin .geq (.u 4) (.c (.int .i64 0))⟩,
     ⟨some 6, false, none, .mov (.u 5)⟩,
     ⟨some 7, false, some ((.u 6), true), .faddr 1 (.t 1)⟩,
     ⟨some 8, false, some ((.u 6), true), .load false 1 (.u 7)⟩,
     ⟨some 9, false, some ((.u 6), true), .faddr 0 (.t 1)⟩,
     ⟨some 10, false, some ((.u 6), true), .load false 1 (.u 9)⟩,
     ⟨some 11, false, some ((.u 6), true), .bin .leq (.u 8) (.u 10)⟩,
     ⟨some 12, false, none, .pick (.u 6) (.u 11) (.c (.bool false))⟩,
     ⟨some 13, false, none, .mov (.u 12)⟩,
     ⟨some 14, false, some ((.u 13), true), .faddr 0 (.t 1)⟩,
     ⟨some 15, false, some ((.u 13), true), .load false 1 (.u 14)⟩,
     ⟨some 16, false, some ((.u 13), true), .bin .leq (.u 15) (.c (.int .i64 1048576))⟩,
     ⟨some 17, false, none, .pick (.u 13) (.u 16) (.c (.bool false))⟩,
     ⟨some 18, false, none, .mov (.u 17)⟩,
     ⟨some 19, false, some ((.u 18), true), .faddr 2 (.t 1)⟩,
     ⟨some 20, false, some ((.u 18), true), .load false 1 (.u 19)⟩,
     ⟨some 21, false, some ((.u 18), true), .call 24 [(.u 20)]⟩,
     ⟨some 22, false, none, .pick (.u 18) (.u 21) (.c (.bool false))⟩,
     ⟨some 23, false, none, .mov (.u 22)⟩,
     ⟨some 24, false, some ((.u 23), true), .faddr 3 (.t 1)⟩,
     ⟨some 25, false, some ((.u 23), true), .load false 1 (.u 24)⟩,
     ⟨some 26, false, some ((.u 23), true), .call 24 [(.u 25)]⟩,
     ⟨some 27, false, none, .pick (.u 23) (.u 26) (.c (.bool false))⟩,
     ⟨some 28, false, none, .mov (.u 27)⟩,
     ⟨some 29, false, some ((.u 28), true), .faddr 4 (.t 1)⟩,
     ⟨some 30, false, some ((.u 28), true), .load false 1 (.u 29)⟩,
     ⟨some 31, false, some ((.u 28), true), .call 24 [(.u 30)]⟩,
     ⟨some 32, false, none, .pick (.u 28) (.u 31) (.c (.bool false))⟩,
     ⟨some 33, false, none, .mov (.u 32)⟩,
     ⟨some 34, false, some ((.u 33), true), .faddr 5 (.t 1)⟩,
     ⟨some 35, false, some ((.u 33), true), .load false 1 (.u 34)⟩,
     ⟨some 36, false, some ((.u 33), true), .call 24 [(.u 35)]⟩,
     ⟨some 37, false, none, .pick (.u 33) (.u 36) (.c (.bool false))⟩,
     ⟨some 2, true, none, .mov (.u 37)⟩])
  (.ret))
def r15 : List LRes := [.slot 2]
theorem t15 : (Tryd.f15.body.bind (trCode v15 Tryd.prog Tryd.f15.ntmps)) = some c15 ∧ trRes v15 Tryd.prog Tryd.f15.results.toList = some r15 := ⟨by kernel_rfl, by kernel_rfl⟩

def v16 : Nat → Bool := fun t => [0, 1, 2, 4, 13, 14, 15, 16, 24].contains t
def c16 : LCode :=
  .seq (.region [⟨some 1, true, none, .box (.t 0)⟩,
     ⟨some 2, true, none, .mov (.c (.bool false))⟩])
  (.seq (.seq (.region [⟨some 5, false, none, .faddr 2 (.t 1)⟩,
      ⟨some 6, false, none, .load false 1 (.u 5)⟩,
      ⟨some 7, false, none, .faddr 3 (.t 1)⟩,
      ⟨some 8, false, none, .load false 1 (.u 7)⟩,
      ⟨some 9, false, none, .faddr 4 (.t 1)⟩,
      ⟨some 10, false, none, .load false 1 (.u 9)⟩,
      ⟨some 11, false, none, .faddr 5 (.t 1)⟩,
      ⟨some 12, false, none, .load false 1 (.u 11)⟩,
      ⟨some 13, true, none, .mkS 1 4 [.int .i64 0] [(0, 1, (.u 6)), (1, 1, (.u 8)), (2, 1, (.u 10)), (3, 1, (.u 12))]⟩,
      ⟨some 14, true, none, .lenL (.t 13)⟩,
      ⟨some 15, true, none, .mov (.c (.int .i64 0))⟩])
   (.block 0 (.loop (.seq (.region [⟨some 16, true, none, .bin .lss (.t 15) (.t 14)⟩])
     (.seq (.cond (.t 16)
       (.skip)
       (.exit 0))
     (.seq (.block 1 (.seq (.region [⟨some 17, false, none, .iaS 1 (.t 13) (.t 15)⟩,
          ⟨some 18, false, none, .load false 1 (.u 17)⟩,
          ⟨some 4, true, none, .mov (.u 18)⟩])
       (.seq (.region [⟨some 19, false, none, .mov (.t 4)⟩,
          ⟨some 20, false, none, .bin .lss (.u 19) (.c (.int .i64 1))⟩,
          ⟨some 21, false, none, .mov (.u 20)⟩,
          ⟨some 22, false, some ((.u 21), false), .mov (.t 4)⟩,
          ⟨some 23, false, some ((.u 21), false), .bin .gtr (.u 22) (.c (.int .i64 5))⟩,
          ⟨some 24, true, none, .pick (.u 21) (.c (.bool true)) (.u 23)⟩])
       (.cond (.t 24)
        (.seq (.region [⟨some 2, true, none, .mov (.c (.bool false))⟩])
        (.ret))
        (.skip)))))
     (.region [⟨some 25, false, none, .bin .add (.t 15) (.c (.int .i64 1))⟩,
       ⟨some 15, true, none, .mov (.u 25)⟩])))))))
  (.seq (.region [⟨some 26, false, none, .faddr 1 (.t 1)⟩,
     ⟨some 27, false, none, .load false 1 (.u 26)⟩,
     ⟨some 28, false, none, .bin .geq (.u 27) (.c (.int .i64 0))⟩,
     ⟨some 29, false, none, .mov (.u 28)⟩,
     ⟨some 30, false, some ((.u 29), true), .faddr 1 (.t 1)⟩,
     ⟨some 31, false, some ((.u 29), true), .load false 1 (.u 30)⟩,
     ⟨some 32, false, some ((.u 29), true), .faddr 0 (.t 1)⟩,
     ⟨some 33, false, some ((.u 29), true), .load false 1 (.u 32)⟩,
     ⟨some 34, false, some ((.u 29), true), .bin .leq (.u 31) (.u 33)⟩,
     ⟨some 35, false, none, .pick (.u 29) (.u 34) (.c (.bool false))⟩,
     ⟨some 36, false, none, .mov (.u 35)⟩,
     ⟨some 37, false, some ((.u 36), true), .faddr 0 (.t 1)⟩,
     ⟨some 38, false, some ((.u 36), true), .load false 1 (.u 37)⟩,
     ⟨some 39, false, some ((.u 36), true), .bin .leq (.u 38) (.c (.int .i64 1048576))⟩,
     ⟨some 40, false, none, .pick (.u 36) (.u 39) (.c (.bool false))⟩,
     ⟨some 2, true, none, .mov (.u 40)⟩])
  (.ret)))
def r16 : List LRes := [.slot 2]
theorem t16 : (Tryd.f16.body.bind (trCode v16 Tryd.prog Tryd.f16.ntmps)) = some c16 ∧ trRes v16 Tryd.prog Tryd.f16.results.toList = some r16 := ⟨by kernel_rfl, by kernel_rfl⟩

def v17 : Nat → Bool := fun t => [0, 1, 2, 3, 4, 5, 6, 7].contains t
def c17 : LCode :=
  .seq (.region [⟨some 0, true, none, .mov (.c (.bool false))⟩])
  (.seq (.region [⟨some 8, false, none, .build [.int .i64 0, .int .i64 0, .int .i64 0, .int .i64 0, .int .i64 0, .int .i64 0] [(0, 1, (.c (.int .i64 100))), (1, 1, (.c (.int .i64 20))), (2, 1, (.c (.int .i64 2))), (3, 1, (.c (.int .i64 5))), (4, 1, (.c (.int .i64 1))), (5, 1, (.c (.int .i64 1)))]⟩,
     ⟨some 1, true, none, .zero [.int .i64 0, .int .i64 0, .int .i64 0, .int .i64 0, .int .i64 0, .int .i64 0]⟩,
     ⟨none, true, none, .store 6 (.t 1) (.u 8)⟩])
  (.seq (.region [⟨some 10, false, none, .load true 6 (.t 1)⟩,
     ⟨some 11, false, none, .call 11 [(.u 10), (.c (.int .i64 0)), (.c (.int .i64 50))]⟩,
     ⟨some 9, false, none, .mov (.u 11)⟩,
     ⟨some 12, false, none, .ext (.u 9) 0⟩,
     ⟨some 13, false, none, .ext (.u 9) 1⟩,
     ⟨some 2, true, none, .mov (.u 12)⟩,
     ⟨some 3, true, none, .mov (.u 13)⟩])
  (.seq (.region [⟨some 15, false, none, .load true 6 (.t 1)⟩,
     ⟨some 16, false, none, .call 11 [(.u 15), (.c (.int .i64 1)), (.c (.int .i64 50))]⟩,
     ⟨some 14, false, none, .mov (.u 16)⟩,
     ⟨some 17, false, none, .ext (.u 14) 0⟩,
     ⟨some 18, false, none, .ext (.u 14) 1⟩,
     ⟨some 4, true, none, .mov (.u 17)⟩,
     ⟨some 5, true, none, .mov (.u 18)⟩])
  (.seq (.region [⟨some 20, false, none, .load true 6 (.t 1)⟩,
     ⟨some 21, false, none, .call 11 [(.u 20), (.c (.int .i64 1)), (.c (.int .i64 10))]⟩,
     ⟨some 19, false, none, .mov (.u 21)⟩,
     ⟨some 22, false, none, .ext (.u 19) 0⟩,
     ⟨some 23, false, none, .ext (.u 19) 1⟩,
     ⟨some 6, true, none, .mov (.u 22)⟩,
     ⟨some 7, true, none, .mov (.u 23)⟩])
  (.seq (.region [⟨some 24, false, none, .mov (.t 2)⟩,
     ⟨some 25, false, none, .bin .eql (.u 24) (.c (.int .i64 1))⟩,
     ⟨some 26, false, none, .mov (.u 25)⟩,
     ⟨some 27, false, some ((.u 26), true), .mov (.t 3)⟩,
     ⟨some 28, false, some ((.u 26), true), .bin .eql (.u 27) (.c (.int .i64 2))⟩,
     ⟨some 29, false, none, .pick (.u 26) (.u 28) (.c (.bool false))⟩,
     ⟨some 30, false, none, .mov (.u 29)⟩,
     ⟨some 31, false, some ((.u 30), true), .mov (.t 4)⟩,
     ⟨some 32, false, some ((.u 30), true), .bin .eql (.u 31) (.c (.int .i64 1))⟩,
     ⟨some 33, false, none, .pick (.u 30) (.u 32) (.c (.bool false))⟩,
     ⟨some 34, false, none, .mov (.u 33)⟩,
     ⟨some 35, false, some ((.u 34), true), .mov (.t 5)⟩,
     ⟨some 36, false, some ((.u 34), true), .bin .eql (.u 35) (.c (.int .i64 0))⟩,
     ⟨some 37, false, none, .pick (.u 34) (.u 36) (.c (.bool false))⟩,
     ⟨some 38, false, none, .mov (.u 37)⟩,
     ⟨some 39, false, some ((.u 38), true), .mov (.t 6)⟩,
     ⟨some 40, false, some ((.u 38), true), .bin .eql (.u 39) (.c (.int .i64 2))⟩,
     ⟨some 41, false, none, .pick (.u 38) (.u 40) (.c (.bool false))⟩,
     ⟨some 42, false, none, .mov (.u 41)⟩,
     ⟨some 43, false, some ((.u 42), true), .mov (.t 7)⟩,
     ⟨some 44, false, some ((.u 42), true), .bin .eql (.u 43) (.c (.int .i64 5))⟩,
     ⟨some 45, false, none, .pick (.u 42) (.u 44) (.c (.bool false))⟩,
     ⟨some 46, false, none, .mov (.u 45)⟩,
     ⟨some 47, false, some ((.u 46), true), .call 19 [(.c (.int .i64 4))]⟩,
     ⟨some 48, false, some ((.u 46), true), .bin .eql (.u 47) (.c (.str [115, 117, 115, 112, 101, 110, 100]))⟩,
     ⟨some 49, false, none, .pick (.u 46) (.u 48) (.c (.bool false))⟩,
     ⟨some 0, true, none, .mov (.u 49)⟩])
  (.ret))))))
def r17 : List LRes := [.slot 0]
theorem t17 : (Tryd.f17.body.bind (trCode v17 Tryd.prog Tryd.f17.ntmps)) = some c17 ∧ trRes v17 Tryd.prog Tryd.f17.results.toList = some r17 := ⟨by kernel_rfl, by kernel_rfl⟩

def v18 : Nat → Bool := fun t => [0, 2].contains t
def c18 : LCode :=
  .seq (.region [⟨some 2, true, none, .mov (.c (.bool false))⟩])
  (.seq (.regionD [⟨0, [0], false, [], ⟨some 3, false, none, .mov (.t 0)⟩⟩,
     ⟨1, [3], false, [], ⟨some 4, false, none, .nilc (.u 3)⟩⟩,
     ⟨2, [4], false, [], ⟨some 5, false, none, .faddr 1 (.u 4)⟩⟩,
     ⟨3, [5], true, [], ⟨some 6, false, none, .load false 1 (.u 5)⟩⟩,
     ⟨4, [0], false, [], ⟨some 7, false, none, .mov (.t 0)⟩⟩,
     ⟨5, [7], false, [], ⟨some 8, false, none, .nilc (.u 7)⟩⟩,
     ⟨6, [8], false, [], ⟨some 9, false, none, .faddr 0 (.u 8)⟩⟩,
     ⟨7, [9], true, [], ⟨some 10, false, none, .load false 1 (.u 9)⟩⟩,
     ⟨8, [10], false, [], ⟨some 11, false, none, .lenL (.u 10)⟩⟩,
     ⟨9, [6, 11], false, [], ⟨some 12, false, none, .bin .lss (.u 6) (.u 11)⟩⟩,
     ⟨10, [12], false, [], ⟨some 2, true, none, .mov (.u 12)⟩⟩])
  (.ret))
def r18 : List LRes := [.slot 2]
theorem t18 : (Tryd.f18.body.bind (trCode v18 Tryd.prog Tryd.f18.ntmps)) = some c18 ∧ trRes v18 Tryd.prog Tryd.f18.results.toList = some r18 := ⟨by kernel_rfl, by kernel_rfl⟩

def v19 : Nat → Bool := fun t => [0, 2, 5].contains t
def c19 : LCode :=
  .seq (.region [⟨some 2, true, none, .mov (.c (.str []))⟩])
  (.seq (.seq (.region [⟨some 3, false, none, .mov (.t 0)⟩,
      ⟨some 4, false, none, .call 24 [(.u 3)]⟩,
      ⟨some 5, true, none, .un .not (.u 4)⟩])
   (.cond (.t 5)
    (.seq (.region [⟨some 2, true, none, .mov (.c (.str []))⟩])
    (.ret))
    (.skip)))
  (.seq (.region [⟨some 6, false, none, .mov (.t 0)⟩,
     ⟨some 7, false, none, .iaA 6 1 (.g 0) (.u 6)⟩,
     ⟨some 8, false, none, .load false 1 (.u 7)⟩,
     ⟨some 2, true, none, .mov (.u 8)⟩])
  (.ret)))
def r19 : List LRes := [.slot 2]
theorem t19 : (Tryd.f19.body.bind (trCode v19 Tryd.prog Tryd.f19.ntmps)) = some c19 ∧ trRes v19 Tryd.prog Tryd.f19.results.toList = some r19 := ⟨by kernel_rfl, by kernel_rfl⟩

def v20 : Nat → Bool := fun t => [0, 2, 3, 4, 6, 8, 10, 12].contains t
def c20 : LCode :=
  .seq (.region [⟨some 2, true, none, .mov (.c (.str []))⟩])
  (.seq (.seq (.region [⟨some 3, true, none, .mov (.t 0)⟩])
   (.block 0 (.seq (.region [⟨some 5, false, none, .bin .eql (.t 3) (.c (.int .i64 1))⟩,
       ⟨some 4, true, none, .mov (.u 5)⟩])
    (.cond (.t 4)
     (.seq (.region [⟨some 2, true, none, .mov (.c (.str [105, 103, 110, 111, 114, 101]))⟩])
     (.ret))
     (.seq (.region [⟨some 7, false, none, .bin .eql (.t 3) (.c (.int .i64 2))⟩,
        ⟨some 6, true, none, .mov (.u 7)⟩])
     (.cond (.t 6)
      (.seq (.region [⟨some 2, true, none, .mov (.c (.str [114, 101, 112, 111, 114, 116]))⟩])
      (.ret))
      (.seq (.region [⟨some 9, false, none, .bin .eql (.t 3) (.c (.int .i64 3))⟩,
         ⟨some 8, true, none, .mov (.u 9)⟩])
      (.cond (.t 8)
       (.seq (.region [⟨some 2, true, none, .mov (.c (.str [114, 111, 116, 97, 116, 101]))⟩])
       (.ret))
       (.seq (.region [⟨some 11, false, none, .bin .eql (.t 3) (.c (.int .i64 4))⟩,
          ⟨some 10, true, none, .mov (.u 11)⟩])
       (.cond (.t 10)
        (.seq (.region [⟨some 2, true, none, .mov (.c (.str [115, 117, 115, 112, 101, 110, 100]))⟩])
        (.ret))
        (.seq (.region [⟨some 13, false, none, .bin .eql (.t 3) (.c (.int .i64 5))⟩,
           ⟨some 12, true, none, .mov (.u 13)⟩])
        (.cond (.t 12)
         (.seq (.region [⟨some 2, true, none, .mov (.c (.str [104, 97, 108, 116]))⟩])
         (.ret))
         (.skip)))))))))))))
  (.seq (.region [⟨some 2, true, none, .mov (.c (.str []))⟩])
  (.ret)))
def r20 : List LRes := [.slot 2]
theorem t20 : (Tryd.f20.body.bind (trCode v20 Tryd.prog Tryd.f20.ntmps)) = some c20 ∧ trRes v20 Tryd.prog Tryd.f20.results.toList = some r20 := ⟨by kernel_rfl, by kernel_rfl⟩

def v21 : Nat → Bool := fun t => [0, 1, 4].contains t
def c21 : LCode :=
  .seq (.region [⟨some 4, true, none, .mov (.c (.bool false))⟩])
  (.seq (.region [⟨some 5, false, none, .mov (.t 0)⟩,
     ⟨some 6, false, none, .mov (.t 1)⟩,
     ⟨some 7, false, none, .call 9 [(.u 5), (.u 6)]⟩,
     ⟨some 8, false, none, .mov (.t 1)⟩,
     ⟨some 9, false, none, .bin .sub (.u 8) (.c (.int .i64 1))⟩,
     ⟨some 10, false, none, .bin .eql (.u 7) (.u 9)⟩,
     ⟨some 4, true, none, .mov (.u 10)⟩])
  (.ret))
def r21 : List LRes := [.slot 4]
theorem t21 : (Tryd.f21.body.bind (trCode v21 Tryd.prog Tryd.f21.ntmps)) = some c21 ∧ trRes v21 Tryd.prog Tryd.f21.results.toList = some r21 := ⟨by kernel_rfl, by kernel_rfl⟩

def v22 : Nat → Bool := fun t => [0, 2].contains t
def c22 : LCode :=
  .seq (.region [⟨some 2, true, none, .zero [.int .u64 0, .int .u64 0]⟩])
  (.seq (.region [⟨some 3, false, none, .mov (.t 0)⟩,
     ⟨some 4, false, none, .call 9 [(.u 3), (.c (.int .i64 3))]⟩,
     ⟨some 5, false, none, .conv .u64 (.u 4)⟩,
     ⟨some 6, false, none, .mov (.t 0)⟩,
     ⟨some 7, false, none, .call 9 [(.u 6), (.c (.int .i64 5))]⟩,
     ⟨some 8, false, none, .conv .u64 (.u 7)⟩,
     ⟨some 9, false, none, .bin .shl (.u 8) (.c (.int .u64 60))⟩,
     ⟨some 10, false, none, .build [.int .u64 0, .int .u64 0] [(0, 1, (.u 5)), (1, 1, (.u 9))]⟩,
     ⟨none, true, none, .store 2 (.t 2) (.u 10)⟩])
  (.ret))
def r22 : List LRes := [.cell true 2 2]
theorem t22 : (Tryd.f22.body.bind (trCode v22 Tryd.prog Tryd.f22.ntmps)) = some c22 ∧ trRes v22 Tryd.prog Tryd.f22.results.toList = some r22 := ⟨by kernel_rfl, by kernel_rfl⟩

def v23 : Nat → Bool := fun t => [0, 2].contains t
def c23 : LCode :=
  .seq (.region [⟨some 2, true, none, .zero [.int .i64 0, .int .i64 0, .int .i64 0]⟩])
  (.seq (.region [⟨some 3, false, none, .mov (.t 0)⟩,
     ⟨some 4, false, none, .mkS 1 6 [.int .i64 0] [(0, 1, (.c (.int .i64 64))), (1, 1, (.c (.int .i64 150))), (2, 1, (.c (.int .i64 300))), (3, 1, (.c (.int .i64 600))), (4, 1, (.c (.int .i64 1500))), (5, 1, (.c (.int .i64 1048576)))]⟩,
     ⟨some 5, false, none, .call 10 [(.u 3), (.u 4)]⟩,
     ⟨some 6, false, none, .mov (.t 0)⟩,
     ⟨some 7, false, none, .call 9 [(.u 6), (.c (.int .i64 4))]⟩,
     ⟨some 8, false, none, .bin .add (.c (.int .i64 2)) (.u 7)⟩,
     ⟨some 9, false, none, .mov (.t 0)⟩,
     ⟨some 10, false, none, .call 9 [(.u 9), (.c (.int .i64 4))]⟩,
     ⟨some 11, false, none, .bin .add (.c (.int .i64 1)) (.u 10)⟩,
     ⟨some 12, false, none, .build [.int .i64 0, .int .i64 0, .int .i64 0] [(0, 1, (.u 5)), (1, 1, (.u 8)), (2, 1, (.u 11))]⟩,
     ⟨none, true, none, .store 3 (.t 2) (.u 12)⟩])
  (.ret))
def r23 : List LRes := [.cell true 3 2]
theorem t23 : (Tryd.f23.body.bind (trCode v23 Tryd.prog Tryd.f23.ntmps)) = some c23 ∧ trRes v23 Tryd.prog Tryd.f23.results.toList = some r23 := ⟨by kernel_rfl, by kernel_rfl⟩

def v24 : Nat → Bool := fun t => [0, 2].contains t
def c24 : LCode :=
  .seq (.region [⟨some 2, true, none, .mov (.c (.bool false))⟩])
  (.seq (.region [⟨some 3, false, none, .mov (.t 0)⟩,
     ⟨some 4, false, none, .bin .geq (.u 3) (.c (.int .i64 1))⟩,
     ⟨some 5, false, none, .mov (.u 4)⟩,
     ⟨some 6, false, some ((.u 5), true), .mov (.t 0)⟩,
     ⟨some 7, false, some ((.u 5), true), .bin .leq (.u 6) (.c (.int .i64 5))⟩,
     ⟨some 8, false, none, .pick (.u 5) (.u 7) (.c (.bool false))⟩,
     ⟨some 2, true, none, .mov (.u 8)⟩])
  (.ret))
def r24 : List LRes := [.slot 2]
theorem t24 : (Tryd.f24.body.bind (trCode v24 Tryd.prog Tryd.f24.ntmps)) = some c24 ∧ trRes v24 Tryd.prog Tryd.f24.results.toList = some r24 := ⟨by kernel_rfl, by kernel_rfl⟩

def v45 : Nat → Bool := fun t => [].contains t
def c45 : LCode :=
  .region [⟨some 0, false, none, .build [.str [], .str [], .str [], .str [], .str [], .str []] [(0, 1, (.c (.str []))), (1, 1, (.c (.str [105, 103, 110, 111, 114, 101]))), (2, 1, (.c (.str [114, 101, 112, 111, 114, 116]))), (3, 1, (.c (.str [114, 111, 116, 97, 116, 101]))), (4, 1, (.c (.str [115, 117, 115, 112, 101, 110, 100]))), (5, 1, (.c (.str [104, 97, 108, 116])))]⟩,
    ⟨none, false, none, .store 6 (.g 0) (.u 0)⟩]
def r45 : List LRes := []
theorem t45 : (Tryd.f45.body.bind (trCode v45 Tryd.prog Tryd.f45.ntmps)) = some c45 ∧ trRes v45 Tryd.prog Tryd.f45.results.toList = some r45 := ⟨by kernel_rfl, by kernel_rfl⟩


end Go.Proofs.YtphjbikodkomnaaDoor
