/- The functions' bodies as the engine reads them; written by program out of the translation, checked by the kernel. -/
import Derived.Test.YtkdblnejpmbnfaaProg
import Derived.Test.YtkdblnejpmbnfaaLxL
import Derived.KernelRfl
namespace Go.Proofs.Ytkdblnejpmbnfaa
open Go Go.Lx
set_option maxRecDepth 100000
def v2 : Nat → Bool := fun t => [].contains t
def c2 : LCode :=
  .region [⟨some 0, false, none, .build [] [(0, 1, (.c (.any)))]⟩]
def r2 : List LRes := []
theorem t2 : (Try.f2.body.bind (trCode v2 Try.prog Try.f2.ntmps)) = some c2 ∧ trRes v2 Try.prog Try.f2.results.toList = some r2 := ⟨by kernel_rfl, by kernel_rfl⟩

def v3 : Nat → Bool := fun t => [0, 1, 2, 6, 7, 8, 9, 10, 11, 12, 13, 14, 15, 16, 17, 41, 55, 70, 97].contains t
def c3 : LCode :=
  .seq (.region [⟨some 6, true, none, .mov (.c (.bool false))⟩])
  (.seq (.region [⟨some 18, false, none, .mov (.t 0)⟩,
     ⟨some 19, false, none, .call 8 [(.u 18)]⟩,
     ⟨some 7, true, none, .mov (.u 19)⟩])
  (.seq (.region [⟨some 20, false, none, .mov (.t 1)⟩,
     ⟨some 21, false, none, .conv .i64 (.u 20)⟩,
     ⟨some 22, false, none, .bin .add (.c (.int .i64 1)) (.u 21)⟩,
     ⟨some 23, false, none, .mov (.t 2)⟩,
     ⟨some 24, false, none, .conv .i64 (.u 23)⟩,
     ⟨some 25, false, none, .bin .add (.c (.int .i64 1)) (.u 24)⟩,
     ⟨some 8, true, none, .mov (.u 22)⟩,
     ⟨some 9, true, none, .mov (.u 25)⟩])
  (.seq (.region [⟨some 26, false, none, .build [.int .i64 0, .int .i64 0] [(1, 1, (.c (.int .i64 1)))]⟩,
     ⟨some 27, false, none, .call 9 [(.u 26)]⟩,
     ⟨some 10, true, none, .zero [.int .i64 0, .int .i64 0, .fsl 1 0 []]⟩,
     ⟨none, true, none, .store 3 (.t 10) (.u 27)⟩])
  (.seq (.region [⟨some 29, false, none, .load true 3 (.t 10)⟩,
     ⟨some 30, false, none, .call 10 [(.u 29), (.c (.int .i64 1))]⟩,
     ⟨some 28, false, none, .mov (.u 30)⟩,
     ⟨some 31, false, none, .ext (.u 28) 0⟩,
     ⟨some 32, false, none, .ext (.u 28) 1⟩,
     ⟨some 33, false, none, .ext (.u 28) 2⟩,
     ⟨none, true, none, .store 3 (.t 10) (.u 31)⟩,
     ⟨some 11, true, none, .mov (.u 32)⟩,
     ⟨some 12, true, none, .mov (.u 33)⟩])
  (.seq (.seq (.region [⟨some 34, false, none, .mov (.t 12)⟩,
      ⟨some 35, false, none, .bin .neq (.u 34) (.c (.int .i64 0))⟩,
      ⟨some 36, false, none, .mov (.u 35)⟩,
      ⟨some 37, false, some ((.u 36), false), .faddr 2 (.t 10)⟩,
      ⟨some 38, false, some ((.u 36), false), .load false 1 (.u 37)⟩,
      ⟨some 39, false, some ((.u 36), false), .lenL (.u 38)⟩,
      ⟨some 40, false, some ((.u 36), false), .bin .neq (.u 39) (.c (.int .i64 2))⟩,
      ⟨some 41, true, none, .pick (.u 36) (.c (.bool true)) (.u 40)⟩])
   (.cond (.t 41)
    (.seq (.region [⟨some 6, true, none, .mov (.c (.bool false))⟩])
    (.ret))
    (.skip)))
  (.seq (.region [⟨some 42, false, none, .load true 3 (.t 10)⟩,
     ⟨some 43, false, none, .call 11 [(.u 42)]⟩,
     ⟨none, true, none, .store 3 (.t 10) (.u 43)⟩])
  (.seq (.regionD [⟨0, [10], false, [], ⟨some 44, false, none, .faddr 2 (.t 10)⟩⟩,
     ⟨1, [44], true, [], ⟨some 45, false, none, .load false 1 (.u 44)⟩⟩,
     ⟨2, [10], false, [], ⟨some 46, false, none, .faddr 2 (.t 10)⟩⟩,
     ⟨3, [46], true, [], ⟨some 47, false, none, .load false 1 (.u 46)⟩⟩,
     ⟨4, [8], false, [], ⟨some 48, false, none, .mov (.t 8)⟩⟩,
     ⟨5, [9], false, [], ⟨some 49, false, none, .mov (.t 9)⟩⟩,
     ⟨6, [45], false, [], ⟨some 50, false, none, .iaS 14 (.u 45) (.c (.int .i64 1))⟩⟩,
     ⟨7, [50], false, [], ⟨some 51, false, none, .faddr 2 (.u 50)⟩⟩,
     ⟨8, [51, 48], false, [3], ⟨none, true, none, .store 1 (.u 51) (.u 48)⟩⟩,
     ⟨9, [47], false, [], ⟨some 52, false, none, .iaS 14 (.u 47) (.c (.int .i64 1))⟩⟩,
     ⟨10, [52], false, [], ⟨some 53, false, none, .faddr 3 (.u 52)⟩⟩,
     ⟨11, [53, 49], false, [], ⟨none, true, none, .store 1 (.u 53) (.u 49)⟩⟩])
  (.seq (.seq (.region [⟨some 13, true, none, .mov (.c (.int .i64 0))⟩])
   (.block 0 (.loop (.seq (.seq (.region [⟨some 54, false, none, .mov (.t 13)⟩,
         ⟨some 55, true, none, .bin .lss (.u 54) (.c (.int .i64 8))⟩])
      (.cond (.t 55)
       (.skip)
       (.exit 0)))
     (.seq (.block 1 (.seq (.seq (.regionD [⟨0, [10], true, [], ⟨some 59, false, none, .load true 3 (.t 10)⟩⟩,
           ⟨1, [11], false, [], ⟨some 60, false, none, .mov (.t 11)⟩⟩,
           ⟨2, [7], false, [], ⟨some 61, false, none, .mov (.t 7)⟩⟩,
           ⟨3, [8], false, [], ⟨some 62, false, none, .mov (.t 8)⟩⟩,
           ⟨4, [9], false, [], ⟨some 63, false, none, .mov (.t 9)⟩⟩,
           ⟨5, [62, 63], false, [], ⟨some 64, false, none, .mkS 1 5 [.int .i64 0] [(0, 1, (.c (.int .i64 0))), (1, 1, (.u 62)), (2, 1, (.u 63)), (3, 1, (.c (.int .i64 7))), (4, 1, (.c (.int .i64 4294967294)))]⟩⟩,
           ⟨6, [61, 64], false, [0], ⟨some 65, false, none, .call 13 [(.u 61), (.u 64)]⟩⟩,
           ⟨7, [59, 60, 65], false, [], ⟨some 66, false, none, .call 12 [(.u 59), (.u 60), (.u 65)]⟩⟩,
           ⟨8, [66], false, [], ⟨some 58, false, none, .mov (.u 66)⟩⟩,
           ⟨9, [58], false, [], ⟨some 67, false, none, .ext (.u 58) 0⟩⟩,
           ⟨10, [58], false, [], ⟨some 68, false, none, .ext (.u 58) 1⟩⟩,
           ⟨11, [], false, [], ⟨some 14, true, none, .zero [.int .i64 0, .int .i64 0, .fsl 1 0 []]⟩⟩,
           ⟨12, [14, 67], false, [], ⟨none, true, none, .store 3 (.t 14) (.u 67)⟩⟩,
           ⟨13, [68], false, [], ⟨some 15, true, none, .mov (.u 68)⟩⟩])
        (.seq (.region [⟨some 69, false, none, .mov (.t 15)⟩,
           ⟨some 70, true, none, .bin .eql (.u 69) (.c (.int .i64 0))⟩])
        (.cond (.t 70)
         (.region [⟨some 71, false, none, .load true 3 (.t 14)⟩,
           ⟨none, true, none, .store 3 (.t 10) (.u 71)⟩])
         (.skip))))
       (.seq (.region [⟨some 73, false, none, .load true 3 (.t 10)⟩,
          ⟨some 74, false, none, .mov (.t 11)⟩,
          ⟨some 75, false, none, .call 14 [(.u 73), (.u 74)]⟩,
          ⟨some 72, false, none, .mov (.u 75)⟩,
          ⟨some 76, false, none, .ext (.u 72) 0⟩,
          ⟨some 77, false, none, .ext (.u 72) 1⟩,
          ⟨some 16, true, none, .zero [.int .i64 0, .int .i64 0, .int .i64 0, .int .i64 0, .int .i64 0, .int .i64 0, .int .i64 0, .int .i64 0, .int .i64 0, .int .i64 0, .str [], .str [], .fsl 1 0 [], .bool false]⟩,
          ⟨none, true, none, .store 14 (.t 16) (.u 76)⟩,
          ⟨some 17, true, none, .mov (.u 77)⟩])
       (.seq (.region [⟨some 78, false, none, .mov (.t 17)⟩,
          ⟨some 79, false, none, .un .not (.u 78)⟩,
          ⟨some 80, false, none, .mov (.u 79)⟩,
          ⟨some 81, false, some ((.u 80), false), .faddr 2 (.t 16)⟩,
          ⟨some 82, false, some ((.u 80), false), .load false 1 (.u 81)⟩,
          ⟨some 83, false, some ((.u 80), false), .mov (.t 8)⟩,
          ⟨some 84, false, some ((.u 80), false), .bin .neq (.u 82) (.u 83)⟩,
          ⟨some 85, false, none, .pick (.u 80) (.c (.bool true)) (.u 84)⟩,
          ⟨some 86, false, none, .mov (.u 85)⟩,
          ⟨some 87, false, some ((.u 86), false), .faddr 3 (.t 16)⟩,
          ⟨some 88, false, some ((.u 86), false), .load false 1 (.u 87)⟩,
          ⟨some 89, false, some ((.u 86), false), .mov (.t 8)⟩,
          ⟨some 90, false, some ((.u 86), false), .bin .neq (.u 88) (.u 89)⟩,
          ⟨some 91, false, some ((.u 86), false), .mov (.u 90)⟩,
          ⟨some 92, false, some ((.u 91), true), .faddr 3 (.t 16)⟩,
          ⟨some 93, false, some ((.u 91), true), .load false 1 (.u 92)⟩,
          ⟨some 94, false, some ((.u 91), true), .mov (.t 9)⟩,
          ⟨some 95, false, some ((.u 91), true), .bin .neq (.u 93) (.u 94)⟩,
          ⟨some 96, false, some ((.u 86), false), .pick (.u 91) (.u 95) (.c (.bool false))⟩,
          ⟨some 97, true, none, .pick (.u 86) (.c (.bool true)) (.u 96)⟩])
       (.cond (.t 97)
        (.seq (.region [⟨some 6, true, none, .mov (.c (.bool false))⟩])
        (.ret))
        (.skip))))))
     (.region [⟨some 56, false, none, .mov (.t 13)⟩,
       ⟨some 57, false, none, .bin .add (.u 56) (.c (.int .i64 1))⟩,
       ⟨some 13, true, none, .mov (.u 57)⟩]))))))
  (.seq (.region [⟨some 98, false, none, .call 15 []⟩,
     ⟨some 6, true, none, .mov (.u 98)⟩])
  (.ret))))))))))
def r3 : List LRes := [.slot 6]
theorem t3 : (Try.f3.body.bind (trCode v3 Try.prog Try.f3.ntmps)) = some c3 ∧ trRes v3 Try.prog Try.f3.results.toList = some r3 := ⟨by kernel_rfl, by kernel_rfl⟩

def v4 : Nat → Bool := fun t => [0, 1, 4, 5, 6, 7, 8, 9, 10, 11, 12, 13, 14, 15, 16, 17, 18, 19, 20, 21, 22, 23, 25, 70, 72, 76, 77, 87, 90, 101, 103, 114, 116, 127, 150, 162].contains t
def c4 : LCode :=
  .seq (.region [⟨some 4, true, none, .mov (.c (.bool false))⟩])
  (.seq (.region [⟨some 26, false, none, .mov (.t 0)⟩,
     ⟨some 27, false, none, .call 8 [(.u 26)]⟩,
     ⟨some 5, true, none, .mov (.u 27)⟩])
  (.seq (.region [⟨some 29, false, none, .build [.int .i64 0, .int .i64 0] [(1, 1, (.c (.int .i64 1)))]⟩,
     ⟨some 30, false, none, .call 9 [(.u 29)]⟩,
     ⟨some 31, false, none, .call 10 [(.u 30), (.c (.int .i64 1))]⟩,
     ⟨some 28, false, none, .mov (.u 31)⟩,
     ⟨some 32, false, none, .ext (.u 28) 0⟩,
     ⟨some 33, false, none, .ext (.u 28) 1⟩,
     ⟨some 34, false, none, .ext (.u 28) 2⟩,
     ⟨some 6, true, none, .zero [.int .i64 0, .int .i64 0, .fsl 1 0 []]⟩,
     ⟨none, true, none, .store 3 (.t 6) (.u 32)⟩,
     ⟨some 7, true, none, .mov (.u 33)⟩,
     ⟨some 8, true, none, .mov (.u 34)⟩])
  (.seq (.region [⟨some 36, false, none, .load true 3 (.t 6)⟩,
     ⟨some 37, false, none, .mov (.t 7)⟩,
     ⟨some 38, false, none, .mov (.t 1)⟩,
     ⟨some 39, false, none, .conv .i64 (.u 38)⟩,
     ⟨some 40, false, none, .call 16 [(.u 36), (.u 37), (.u 39)]⟩,
     ⟨some 35, false, none, .mov (.u 40)⟩,
     ⟨some 41, false, none, .ext (.u 35) 0⟩,
     ⟨some 42, false, none, .ext (.u 35) 1⟩,
     ⟨none, true, none, .store 3 (.t 6) (.u 41)⟩,
     ⟨some 9, true, none, .mov (.u 42)⟩])
  (.seq (.region [⟨some 44, false, none, .load true 3 (.t 6)⟩,
     ⟨some 45, false, none, .mov (.t 7)⟩,
     ⟨some 46, false, none, .call 14 [(.u 44), (.u 45)]⟩,
     ⟨some 43, false, none, .mov (.u 46)⟩,
     ⟨some 47, false, none, .ext (.u 43) 0⟩,
     ⟨some 48, false, none, .ext (.u 43) 1⟩,
     ⟨some 10, true, none, .zero [.int .i64 0, .int .i64 0, .int .i64 0, .int .i64 0, .int .i64 0, .int .i64 0, .int .i64 0, .int .i64 0, .int .i64 0, .int .i64 0, .str [], .str [], .fsl 1 0 [], .bool false]⟩,
     ⟨none, true, none, .store 14 (.t 10) (.u 47)⟩,
     ⟨some 11, true, none, .mov (.u 48)⟩])
  (.seq (.seq (.region [⟨some 49, false, none, .mov (.t 8)⟩,
      ⟨some 50, false, none, .bin .neq (.u 49) (.c (.int .i64 0))⟩,
      ⟨some 51, false, none, .mov (.u 50)⟩,
      ⟨some 52, false, some ((.u 51), false), .mov (.t 9)⟩,
      ⟨some 53, false, some ((.u 51), false), .bin .neq (.u 52) (.c (.int .i64 0))⟩,
      ⟨some 54, false, none, .pick (.u 51) (.c (.bool true)) (.u 53)⟩,
      ⟨some 55, false, none, .mov (.u 54)⟩,
      ⟨some 56, false, some ((.u 55), false), .mov (.t 11)⟩,
      ⟨some 57, false, some ((.u 55), false), .un .not (.u 56)⟩,
      ⟨some 58, false, none, .pick (.u 55) (.c (.bool true)) (.u 57)⟩,
      ⟨some 59, false, none, .mov (.u 58)⟩,
      ⟨some 60, false, some ((.u 59), false), .faddr 6 (.t 10)⟩,
      ⟨some 61, false, some ((.u 59), false), .load false 1 (.u 60)⟩,
      ⟨some 62, false, some ((.u 59), false), .mov (.t 1)⟩,
      ⟨some 63, false, some ((.u 59), false), .conv .i64 (.u 62)⟩,
      ⟨some 64, false, some ((.u 59), false), .bin .neq (.u 61) (.u 63)⟩,
      ⟨some 65, false, none, .pick (.u 59) (.c (.bool true)) (.u 64)⟩,
      ⟨some 66, false, none, .mov (.u 65)⟩,
      ⟨some 67, false, some ((.u 66), false), .faddr 7 (.t 10)⟩,
      ⟨some 68, false, some ((.u 66), false), .load false 1 (.u 67)⟩,
      ⟨some 69, false, some ((.u 66), false), .bin .eql (.u 68) (.c (.int .i64 4294967295))⟩,
      ⟨some 70, true, none, .pick (.u 66) (.c (.bool true)) (.u 69)⟩])
   (.cond (.t 70)
    (.seq (.region [⟨some 4, true, none, .mov (.c (.bool false))⟩])
    (.ret))
    (.skip)))
  (.seq (.seq (.region [⟨some 12, true, none, .mov (.c (.int .i64 0))⟩])
   (.block 0 (.loop (.seq (.seq (.region [⟨some 71, false, none, .mov (.t 12)⟩,
         ⟨some 72, true, none, .bin .lss (.u 71) (.c (.int .i64 8))⟩])
      (.cond (.t 72)
       (.skip)
       (.exit 0)))
     (.seq (.block 1 (.seq (.seq (.region [⟨some 75, false, none, .mov (.t 5)⟩,
           ⟨some 76, true, none, .call 17 [(.u 75), (.c (.int .i64 4))]⟩])
        (.block 2 (.seq (.region [⟨some 78, false, none, .bin .eql (.t 76) (.c (.int .i64 0))⟩,
            ⟨some 77, true, none, .mov (.u 78)⟩])
         (.cond (.t 77)
          (.seq (.region [⟨some 80, false, none, .load true 3 (.t 6)⟩,
             ⟨some 81, false, none, .mov (.t 7)⟩,
             ⟨some 82, false, none, .call 10 [(.u 80), (.u 81)]⟩,
             ⟨some 79, false, none, .mov (.u 82)⟩,
             ⟨some 83, false, none, .ext (.u 79) 0⟩,
             ⟨some 84, false, none, .ext (.u 79) 1⟩,
             ⟨some 85, false, none, .ext (.u 79) 2⟩,
             ⟨some 13, true, none, .zero [.int .i64 0, .int .i64 0, .fsl 1 0 []]⟩,
             ⟨none, true, none, .store 3 (.t 13) (.u 83)⟩,
             ⟨some 14, true, none, .mov (.u 84)⟩,
             ⟨some 15, true, none, .mov (.u 85)⟩])
          (.seq (.region [⟨some 86, false, none, .mov (.t 15)⟩,
             ⟨some 87, true, none, .bin .eql (.u 86) (.c (.int .i64 0))⟩])
          (.cond (.t 87)
           (.region [⟨some 88, false, none, .load true 3 (.t 13)⟩,
             ⟨some 89, false, none, .mov (.t 14)⟩,
             ⟨none, true, none, .store 3 (.t 6) (.u 88)⟩,
             ⟨some 7, true, none, .mov (.u 89)⟩])
           (.skip))))
          (.seq (.region [⟨some 91, false, none, .bin .eql (.t 76) (.c (.int .i64 1))⟩,
             ⟨some 90, true, none, .mov (.u 91)⟩])
          (.cond (.t 90)
           (.seq (.regionD [⟨0, [6], true, [], ⟨some 93, false, none, .load true 3 (.t 6)⟩⟩,
              ⟨1, [7], false, [], ⟨some 94, false, none, .mov (.t 7)⟩⟩,
              ⟨2, [5], false, [], ⟨some 95, false, none, .mov (.t 5)⟩⟩,
              ⟨3, [95], false, [0], ⟨some 96, false, none, .call 17 [(.u 95), (.c (.int .i64 9))]⟩⟩,
              ⟨4, [93, 94, 96], false, [], ⟨some 97, false, none, .call 12 [(.u 93), (.u 94), (.u 96)]⟩⟩,
              ⟨5, [97], false, [], ⟨some 92, false, none, .mov (.u 97)⟩⟩,
              ⟨6, [92], false, [], ⟨some 98, false, none, .ext (.u 92) 0⟩⟩,
              ⟨7, [92], false, [], ⟨some 99, false, none, .ext (.u 92) 1⟩⟩,
              ⟨8, [], false, [], ⟨some 16, true, none, .zero [.int .i64 0, .int .i64 0, .fsl 1 0 []]⟩⟩,
              ⟨9, [16, 98], false, [], ⟨none, true, none, .store 3 (.t 16) (.u 98)⟩⟩,
              ⟨10, [99], false, [], ⟨some 17, true, none, .mov (.u 99)⟩⟩])
           (.seq (.region [⟨some 100, false, none, .mov (.t 17)⟩,
              ⟨some 101, true, none, .bin .eql (.u 100) (.c (.int .i64 0))⟩])
           (.cond (.t 101)
            (.region [⟨some 102, false, none, .load true 3 (.t 16)⟩,
              ⟨none, true, none, .store 3 (.t 6) (.u 102)⟩])
            (.skip))))
           (.seq (.region [⟨some 104, false, none, .bin .eql (.t 76) (.c (.int .i64 2))⟩,
              ⟨some 103, true, none, .mov (.u 104)⟩])
           (.cond (.t 103)
            (.seq (.regionD [⟨0, [6], true, [], ⟨some 106, false, none, .load true 3 (.t 6)⟩⟩,
               ⟨1, [7], false, [], ⟨some 107, false, none, .mov (.t 7)⟩⟩,
               ⟨2, [5], false, [], ⟨some 108, false, none, .mov (.t 5)⟩⟩,
               ⟨3, [108], false, [0], ⟨some 109, false, none, .call 17 [(.u 108), (.c (.int .i64 9))]⟩⟩,
               ⟨4, [106, 107, 109], false, [], ⟨some 110, false, none, .call 18 [(.u 106), (.u 107), (.u 109)]⟩⟩,
               ⟨5, [110], false, [], ⟨some 105, false, none, .mov (.u 110)⟩⟩,
               ⟨6, [105], false, [], ⟨some 111, false, none, .ext (.u 105) 0⟩⟩,
               ⟨7, [105], false, [], ⟨some 112, false, none, .ext (.u 105) 1⟩⟩,
               ⟨8, [], false, [], ⟨some 18, true, none, .zero [.int .i64 0, .int .i64 0, .fsl 1 0 []]⟩⟩,
               ⟨9, [18, 111], false, [], ⟨none, true, none, .store 3 (.t 18) (.u 111)⟩⟩,
               ⟨10, [112], false, [], ⟨some 19, true, none, .mov (.u 112)⟩⟩])
            (.seq (.region [⟨some 113, false, none, .mov (.t 19)⟩,
               ⟨some 114, true, none, .bin .eql (.u 113) (.c (.int .i64 0))⟩])
            (.cond (.t 114)
             (.region [⟨some 115, false, none, .load true 3 (.t 18)⟩,
               ⟨none, true, none, .store 3 (.t 6) (.u 115)⟩])
             (.skip))))
            (.seq (.region [⟨some 117, false, none, .bin .eql (.t 76) (.c (.int .i64 3))⟩,
               ⟨some 116, true, none, .mov (.u 117)⟩])
            (.cond (.t 116)
             (.seq (.regionD [⟨0, [6], true, [], ⟨some 119, false, none, .load true 3 (.t 6)⟩⟩,
                ⟨1, [7], false, [], ⟨some 120, false, none, .mov (.t 7)⟩⟩,
                ⟨2, [5], false, [], ⟨some 121, false, none, .mov (.t 5)⟩⟩,
                ⟨3, [121], false, [0], ⟨some 122, false, none, .call 20 [(.u 121)]⟩⟩,
                ⟨4, [119, 120, 122], false, [], ⟨some 123, false, none, .call 19 [(.u 119), (.u 120), (.u 122), (.c (.str [97]))]⟩⟩,
                ⟨5, [123], false, [], ⟨some 118, false, none, .mov (.u 123)⟩⟩,
                ⟨6, [118], false, [], ⟨some 124, false, none, .ext (.u 118) 0⟩⟩,
                ⟨7, [118], false, [], ⟨some 125, false, none, .ext (.u 118) 1⟩⟩,
                ⟨8, [], false, [], ⟨some 20, true, none, .zero [.int .i64 0, .int .i64 0, .fsl 1 0 []]⟩⟩,
                ⟨9, [20, 124], false, [], ⟨none, true, none, .store 3 (.t 20) (.u 124)⟩⟩,
                ⟨10, [125], false, [], ⟨some 21, true, none, .mov (.u 125)⟩⟩])
             (.seq (.region [⟨some 126, false, none, .mov (.t 21)⟩,
                ⟨some 127, true, none, .bin .eql (.u 126) (.c (.int .i64 0))⟩])
             (.cond (.t 127)
              (.region [⟨some 128, false, none, .load true 3 (.t 20)⟩,
                ⟨none, true, none, .store 3 (.t 6) (.u 128)⟩])
              (.skip))))
             (.skip)))))))))))
       (.seq (.region [⟨some 130, false, none, .load true 3 (.t 6)⟩,
          ⟨some 131, false, none, .mov (.t 7)⟩,
          ⟨some 132, false, none, .call 14 [(.u 130), (.u 131)]⟩,
          ⟨some 129, false, none, .mov (.u 132)⟩,
          ⟨some 133, false, none, .ext (.u 129) 0⟩,
          ⟨some 134, false, none, .ext (.u 129) 1⟩,
          ⟨some 22, true, none, .zero [.int .i64 0, .int .i64 0, .int .i64 0, .int .i64 0, .int .i64 0, .int .i64 0, .int .i64 0, .int .i64 0, .int .i64 0, .int .i64 0, .str [], .str [], .fsl 1 0 [], .bool false]⟩,
          ⟨none, true, none, .store 14 (.t 22) (.u 133)⟩,
          ⟨some 23, true, none, .mov (.u 134)⟩])
       (.seq (.seq (.region [⟨some 135, false, none, .mov (.t 23)⟩,
           ⟨some 136, false, none, .un .not (.u 135)⟩,
           ⟨some 137, false, none, .mov (.u 136)⟩,
           ⟨some 138, false, some ((.u 137), false), .faddr 6 (.t 22)⟩,
           ⟨some 139, false, some ((.u 137), false), .load false 1 (.u 138)⟩,
           ⟨some 140, false, some ((.u 137), false), .faddr 6 (.t 10)⟩,
           ⟨some 141, false, some ((.u 137), false), .load false 1 (.u 140)⟩,
           ⟨some 142, false, some ((.u 137), false), .bin .neq (.u 139) (.u 141)⟩,
           ⟨some 143, false, none, .pick (.u 137) (.c (.bool true)) (.u 142)⟩,
           ⟨some 144, false, none, .mov (.u 143)⟩,
           ⟨some 145, false, some ((.u 144), false), .faddr 7 (.t 22)⟩,
           ⟨some 146, false, some ((.u 144), false), .load false 1 (.u 145)⟩,
           ⟨some 147, false, some ((.u 144), false), .faddr 7 (.t 10)⟩,
           ⟨some 148, false, some ((.u 144), false), .load false 1 (.u 147)⟩,
           ⟨some 149, false, some ((.u 144), false), .bin .neq (.u 146) (.u 148)⟩,
           ⟨some 150, true, none, .pick (.u 144) (.c (.bool true)) (.u 149)⟩])
        (.cond (.t 150)
         (.seq (.region [⟨some 4, true, none, .mov (.c (.bool false))⟩])
         (.ret))
         (.skip)))
       (.seq (.region [⟨some 152, false, none, .load true 3 (.t 6)⟩,
          ⟨some 153, false, none, .mov (.t 7)⟩,
          ⟨some 154, false, none, .call 16 [(.u 152), (.u 153), (.c (.int .i64 3))]⟩,
          ⟨some 151, false, none, .mov (.u 154)⟩,
          ⟨some 155, false, none, .ext (.u 151) 0⟩,
          ⟨some 156, false, none, .ext (.u 151) 1⟩,
          ⟨some 24, false, none, .zero [.int .i64 0, .int .i64 0, .fsl 1 0 []]⟩,
          ⟨none, true, none, .store 3 (.u 24) (.u 155)⟩,
          ⟨some 25, true, none, .mov (.u 156)⟩])
       (.seq (.region [⟨some 157, false, none, .mov (.t 25)⟩,
          ⟨some 158, false, none, .bin .eql (.u 157) (.c (.int .i64 1))⟩,
          ⟨some 159, false, none, .faddr 3 (.t 22)⟩,
          ⟨some 160, false, none, .load false 1 (.u 159)⟩,
          ⟨some 161, false, none, .bin .neq (.u 160) (.c (.int .i64 0))⟩,
          ⟨some 162, true, none, .eqB true (.u 158) (.u 161)⟩])
       (.cond (.t 162)
        (.seq (.region [⟨some 4, true, none, .mov (.c (.bool false))⟩])
        (.ret))
        (.skip))))))))
     (.region [⟨some 73, false, none, .mov (.t 12)⟩,
       ⟨some 74, false, none, .bin .add (.u 73) (.c (.int .i64 1))⟩,
       ⟨some 12, true, none, .mov (.u 74)⟩]))))))
  (.seq (.region [⟨some 163, false, none, .call 15 []⟩,
     ⟨some 4, true, none, .mov (.u 163)⟩])
  (.ret))))))))
def r4 : List LRes := [.slot 4]
theorem t4 : (Try.f4.body.bind (trCode v4 Try.prog Try.f4.ntmps)) = some c4 ∧ trRes v4 Try.prog Try.f4.results.toList = some r4 := ⟨by kernel_rfl, by kernel_rfl⟩

def v5 : Nat → Bool := fun t => [0, 1, 2].contains t
def c5 : LCode :=
  .seq (.region [⟨some 1, true, none, .box (.t 0)⟩,
     ⟨some 2, true, none, .mov (.c (.bool false))⟩])
  (.seq (.regionD [⟨0, [1], true, [], ⟨some 3, false, none, .load true 2 (.t 1)⟩⟩,
     ⟨2, [1], true, [], ⟨some 5, false, none, .load true 2 (.t 1)⟩⟩,
     ⟨1, [3], false, [2], ⟨some 4, false, none, .call 9 [(.u 3)]⟩⟩,
     ⟨3, [5], false, [], ⟨some 6, false, none, .call 22 [(.u 5)]⟩⟩,
     ⟨4, [4, 6], false, [], ⟨some 7, false, none, .call 21 [(.u 4), (.u 6)]⟩⟩,
     ⟨5, [7], false, [], ⟨some 8, false, none, .mov (.u 7)⟩⟩,
     ⟨6, [1, 8], true, [], ⟨some 9, false, some ((.u 8), true), .load true 2 (.t 1)⟩⟩,
     ⟨7, [9, 8], false, [], ⟨some 10, false, some ((.u 8), true), .call 9 [(.u 9)]⟩⟩,
     ⟨8, [10, 8], false, [], ⟨some 11, false, some ((.u 8), true), .call 23 [(.u 10)]⟩⟩,
     ⟨9, [8, 11], false, [], ⟨some 12, false, none, .pick (.u 8) (.u 11) (.c (.bool false))⟩⟩,
     ⟨10, [12], false, [], ⟨some 13, false, none, .mov (.u 12)⟩⟩,
     ⟨11, [13], false, [], ⟨some 14, false, some ((.u 13), true), .call 15 []⟩⟩,
     ⟨12, [13, 14], false, [], ⟨some 15, false, none, .pick (.u 13) (.u 14) (.c (.bool false))⟩⟩,
     ⟨13, [15], false, [], ⟨some 2, true, none, .mov (.u 15)⟩⟩])
  (.ret))
def r5 : List LRes := [.slot 2]
theorem t5 : (Try.f5.body.bind (trCode v5 Try.prog Try.f5.ntmps)) = some c5 ∧ trRes v5 Try.prog Try.f5.results.toList = some r5 := ⟨by kernel_rfl, by kernel_rfl⟩

def v6 : Nat → Bool := fun t => [0, 2, 3, 4, 5, 6, 7, 8, 9, 10, 11, 12, 13, 19, 34, 43, 62, 66, 70, 82].contains t
def c6 : LCode :=
  .seq (.region [⟨some 2, true, none, .mov (.c (.bool false))⟩])
  (.seq (.region [⟨some 14, false, none, .mov (.t 0)⟩,
     ⟨some 15, false, none, .call 8 [(.u 14)]⟩,
     ⟨some 3, true, none, .mov (.u 15)⟩])
  (.seq (.region [⟨some 16, false, none, .build [.int .i64 0, .int .i64 0] [(1, 1, (.c (.int .i64 1)))]⟩,
     ⟨some 17, false, none, .call 9 [(.u 16)]⟩,
     ⟨some 4, true, none, .zero [.int .i64 0, .int .i64 0, .fsl 1 0 []]⟩,
     ⟨none, true, none, .store 3 (.t 4) (.u 17)⟩])
  (.seq (.region [⟨some 5, true, none, .mov (.c (.int .i64 1))⟩,
     ⟨some 6, true, none, .mov (.c (.int .i64 0))⟩])
  (.seq (.seq (.region [⟨some 7, true, none, .mov (.c (.int .i64 0))⟩])
   (.block 0 (.loop (.seq (.seq (.region [⟨some 18, false, none, .mov (.t 7)⟩,
         ⟨some 19, true, none, .bin .lss (.u 18) (.c (.int .i64 20))⟩])
      (.cond (.t 19)
       (.skip)
       (.exit 0)))
     (.seq (.block 1 (.seq (.region [⟨some 22, false, none, .mov (.t 3)⟩,
          ⟨some 23, false, none, .load true 3 (.t 4)⟩,
          ⟨some 24, false, none, .call 24 [(.u 22), (.u 23)]⟩,
          ⟨some 8, true, none, .mov (.u 24)⟩])
       (.seq (.region [⟨some 26, false, none, .load true 3 (.t 4)⟩,
          ⟨some 27, false, none, .mov (.t 8)⟩,
          ⟨some 28, false, none, .call 10 [(.u 26), (.u 27)]⟩,
          ⟨some 25, false, none, .mov (.u 28)⟩,
          ⟨some 29, false, none, .ext (.u 25) 0⟩,
          ⟨some 30, false, none, .ext (.u 25) 1⟩,
          ⟨some 31, false, none, .ext (.u 25) 2⟩,
          ⟨some 9, true, none, .zero [.int .i64 0, .int .i64 0, .fsl 1 0 []]⟩,
          ⟨none, true, none, .store 3 (.t 9) (.u 29)⟩,
          ⟨some 10, true, none, .mov (.u 30)⟩,
          ⟨some 11, true, none, .mov (.u 31)⟩])
       (.seq (.seq (.region [⟨some 32, false, none, .mov (.t 3)⟩,
           ⟨some 33, false, none, .call 17 [(.u 32), (.c (.int .i64 3))]⟩,
           ⟨some 34, true, none, .bin .eql (.u 33) (.c (.int .i64 0))⟩])
        (.cond (.t 34)
         (.seq (.region [⟨some 36, false, none, .load true 3 (.t 4)⟩,
            ⟨some 37, false, none, .mov (.t 8)⟩,
            ⟨some 38, false, none, .call 25 [(.u 36), (.u 37)]⟩,
            ⟨some 35, false, none, .mov (.u 38)⟩,
            ⟨some 39, false, none, .ext (.u 35) 0⟩,
            ⟨some 40, false, none, .ext (.u 35) 1⟩,
            ⟨none, true, none, .store 3 (.t 9) (.u 39)⟩,
            ⟨some 11, true, none, .mov (.u 40)⟩])
         (.region [⟨some 10, true, none, .mov (.c (.int .i64 0))⟩]))
         (.seq (.region [⟨some 41, false, none, .mov (.t 3)⟩,
            ⟨some 42, false, none, .call 17 [(.u 41), (.c (.int .i64 3))]⟩,
            ⟨some 43, true, none, .bin .eql (.u 42) (.c (.int .i64 0))⟩])
         (.cond (.t 43)
          (.seq (.regionD [⟨0, [4], true, [], ⟨some 45, false, none, .load true 3 (.t 4)⟩⟩,
             ⟨1, [8], false, [], ⟨some 46, false, none, .mov (.t 8)⟩⟩,
             ⟨2, [3], false, [], ⟨some 47, false, none, .mov (.t 3)⟩⟩,
             ⟨3, [47], false, [0], ⟨some 48, false, none, .call 17 [(.u 47), (.c (.int .i64 9))]⟩⟩,
             ⟨4, [45, 46, 48], false, [], ⟨some 49, false, none, .call 16 [(.u 45), (.u 46), (.u 48)]⟩⟩,
             ⟨5, [49], false, [], ⟨some 44, false, none, .mov (.u 49)⟩⟩,
             ⟨6, [44], false, [], ⟨some 50, false, none, .ext (.u 44) 0⟩⟩,
             ⟨7, [44], false, [], ⟨some 51, false, none, .ext (.u 44) 1⟩⟩,
             ⟨8, [9, 50], false, [], ⟨none, true, none, .store 3 (.t 9) (.u 50)⟩⟩,
             ⟨9, [51], false, [], ⟨some 11, true, none, .mov (.u 51)⟩⟩])
          (.seq (.region [⟨some 10, true, none, .mov (.c (.int .i64 0))⟩])
          (.seq (.region [⟨some 53, false, none, .load true 3 (.t 9)⟩,
             ⟨some 54, false, none, .mov (.t 8)⟩,
             ⟨some 55, false, none, .call 26 [(.u 53), (.u 54)]⟩,
             ⟨some 52, false, none, .mov (.u 55)⟩,
             ⟨some 56, false, none, .ext (.u 52) 0⟩,
             ⟨some 57, false, none, .ext (.u 52) 1⟩,
             ⟨some 12, true, none, .zero [.int .i64 0, .int .i64 0, .int .i64 0, .int .i64 0, .int .i64 0, .int .i64 0, .int .i64 0, .int .i64 0, .int .i64 0, .int .i64 0, .str [], .str [], .fsl 1 0 [], .bool false]⟩,
             ⟨none, true, none, .store 14 (.t 12) (.u 56)⟩,
             ⟨some 13, true, none, .mov (.u 57)⟩])
          (.seq (.region [⟨some 58, false, none, .mov (.t 11)⟩,
             ⟨some 59, false, none, .bin .eql (.u 58) (.c (.int .i64 0))⟩,
             ⟨some 60, false, none, .mov (.u 59)⟩,
             ⟨some 61, false, some ((.u 60), true), .mov (.t 13)⟩,
             ⟨some 62, true, none, .pick (.u 60) (.u 61) (.c (.bool false))⟩])
          (.cond (.t 62)
           (.seq (.seq (.region [⟨some 63, false, none, .faddr 7 (.t 12)⟩,
               ⟨some 64, false, none, .load false 1 (.u 63)⟩,
               ⟨some 65, false, none, .mov (.t 6)⟩,
               ⟨some 66, true, none, .bin .leq (.u 64) (.u 65)⟩])
            (.cond (.t 66)
             (.seq (.region [⟨some 2, true, none, .mov (.c (.bool false))⟩])
             (.ret))
             (.skip)))
           (.region [⟨some 67, false, none, .faddr 7 (.t 12)⟩,
             ⟨some 68, false, none, .load false 1 (.u 67)⟩,
             ⟨some 6, true, none, .mov (.u 68)⟩]))
           (.skip))))))
          (.skip)))))
       (.seq (.seq (.region [⟨some 69, false, none, .mov (.t 11)⟩,
           ⟨some 70, true, none, .bin .neq (.u 69) (.c (.int .i64 0))⟩])
        (.cond (.t 70)
         (.exit 1)
         (.skip)))
       (.seq (.seq (.region [⟨some 71, false, none, .mov (.t 10)⟩,
           ⟨some 72, false, none, .bin .neq (.u 71) (.c (.int .i64 0))⟩,
           ⟨some 73, false, none, .mov (.u 72)⟩,
           ⟨some 74, false, some ((.u 73), true), .mov (.t 10)⟩,
           ⟨some 75, false, some ((.u 73), true), .mov (.t 5)⟩,
           ⟨some 76, false, some ((.u 73), true), .bin .leq (.u 74) (.u 75)⟩,
           ⟨some 77, false, none, .pick (.u 73) (.u 76) (.c (.bool false))⟩,
           ⟨some 78, false, none, .mov (.u 77)⟩,
           ⟨some 79, false, some ((.u 78), false), .load true 3 (.t 9)⟩,
           ⟨some 80, false, some ((.u 78), false), .call 27 [(.u 79)]⟩,
           ⟨some 81, false, some ((.u 78), false), .un .not (.u 80)⟩,
           ⟨some 82, true, none, .pick (.u 78) (.c (.bool true)) (.u 81)⟩])
        (.cond (.t 82)
         (.seq (.region [⟨some 2, true, none, .mov (.c (.bool false))⟩])
         (.ret))
         (.skip)))
       (.seq (.region [⟨some 83, false, none, .mov (.t 5)⟩,
          ⟨some 84, false, none, .mov (.t 10)⟩,
          ⟨some 85, false, none, .mm true (.u 83) [(.u 84)]⟩,
          ⟨some 5, true, none, .mov (.u 85)⟩])
       (.region [⟨some 86, false, none, .load true 3 (.t 9)⟩,
         ⟨none, true, none, .store 3 (.t 4) (.u 86)⟩]))))))))
     (.region [⟨some 20, false, none, .mov (.t 7)⟩,
       ⟨some 21, false, none, .bin .add (.u 20) (.c (.int .i64 1))⟩,
       ⟨some 7, true, none, .mov (.u 21)⟩]))))))
  (.seq (.region [⟨some 87, false, none, .call 15 []⟩,
     ⟨some 2, true, none, .mov (.u 87)⟩])
  (.ret))))))
def r6 : List LRes := [.slot 2]
theorem t6 : (Try.f6.body.bind (trCode v6 Try.prog Try.f6.ntmps)) = some c6 ∧ trRes v6 Try.prog Try.f6.results.toList = some r6 := ⟨by kernel_rfl, by kernel_rfl⟩

def v7 : Nat → Bool := fun t => [0, 2, 3, 4, 5, 6, 7, 8, 9, 10, 11, 12, 13, 19, 24, 46, 48, 58, 69, 71, 78].contains t
def c7 : LCode :=
  .seq (.region [⟨some 2, true, none, .mov (.c (.bool false))⟩])
  (.seq (.region [⟨some 14, false, none, .mov (.t 0)⟩,
     ⟨some 15, false, none, .call 8 [(.u 14)]⟩,
     ⟨some 3, true, none, .mov (.u 15)⟩])
  (.seq (.region [⟨some 16, false, none, .build [.int .i64 0, .int .i64 0] [(1, 1, (.c (.int .i64 1)))]⟩,
     ⟨some 17, false, none, .call 9 [(.u 16)]⟩,
     ⟨some 4, true, none, .zero [.int .i64 0, .int .i64 0, .fsl 1 0 []]⟩,
     ⟨none, true, none, .store 3 (.t 4) (.u 17)⟩])
  (.seq (.region [⟨some 5, true, none, .zero [.bool false, .bool false, .bool false, .bool false, .bool false, .bool false, .bool false, .bool false]⟩])
  (.seq (.seq (.region [⟨some 6, true, none, .mov (.c (.int .i64 0))⟩])
   (.block 0 (.loop (.seq (.seq (.region [⟨some 18, false, none, .mov (.t 6)⟩,
         ⟨some 19, true, none, .bin .lss (.u 18) (.c (.int .i64 24))⟩])
      (.cond (.t 19)
       (.skip)
       (.exit 0)))
     (.seq (.block 1 (.seq (.seq (.region [⟨some 22, false, none, .mov (.t 3)⟩,
           ⟨some 23, false, none, .call 17 [(.u 22), (.c (.int .i64 3))]⟩,
           ⟨some 24, true, none, .bin .eql (.u 23) (.c (.int .i64 0))⟩])
        (.cond (.t 24)
         (.seq (.region [⟨some 25, false, none, .mov (.t 3)⟩,
            ⟨some 26, false, none, .call 17 [(.u 25), (.c (.int .i64 8))]⟩,
            ⟨some 7, true, none, .mov (.u 26)⟩])
         (.seq (.region [⟨some 28, false, none, .load true 3 (.t 4)⟩,
            ⟨some 29, false, none, .mov (.t 7)⟩,
            ⟨some 30, false, none, .call 28 [(.u 28), (.c (.int .i64 1)), (.u 29)]⟩,
            ⟨some 27, false, none, .mov (.u 30)⟩,
            ⟨some 31, false, none, .ext (.u 27) 0⟩,
            ⟨some 32, false, none, .ext (.u 27) 1⟩,
            ⟨some 8, true, none, .zero [.int .i64 0, .int .i64 0, .fsl 1 0 []]⟩,
            ⟨none, true, none, .store 3 (.t 8) (.u 31)⟩,
            ⟨some 9, true, none, .mov (.u 32)⟩])
         (.seq (.seq (.region [⟨some 33, false, none, .mov (.t 9)⟩,
             ⟨some 34, false, none, .bin .eql (.u 33) (.c (.int .i64 0))⟩,
             ⟨some 35, false, none, .mov (.t 7)⟩,
             ⟨some 36, false, none, .iaA 8 1 (.t 5) (.u 35)⟩,
             ⟨some 37, false, none, .load false 1 (.u 36)⟩,
             ⟨some 38, false, none, .eqB true (.u 34) (.u 37)⟩,
             ⟨some 39, false, none, .mov (.u 38)⟩,
             ⟨some 40, false, some ((.u 39), false), .mov (.t 9)⟩,
             ⟨some 41, false, some ((.u 39), false), .bin .neq (.u 40) (.c (.int .i64 0))⟩,
             ⟨some 42, false, some ((.u 39), false), .mov (.u 41)⟩,
             ⟨some 43, false, some ((.u 42), true), .mov (.t 9)⟩,
             ⟨some 44, false, some ((.u 42), true), .bin .neq (.u 43) (.c (.int .i64 9))⟩,
             ⟨some 45, false, some ((.u 39), false), .pick (.u 42) (.u 44) (.c (.bool false))⟩,
             ⟨some 46, true, none, .pick (.u 39) (.c (.bool true)) (.u 45)⟩])
          (.cond (.t 46)
           (.seq (.region [⟨some 2, true, none, .mov (.c (.bool false))⟩])
           (.ret))
           (.skip)))
         (.seq (.seq (.region [⟨some 47, false, none, .mov (.t 9)⟩,
             ⟨some 48, true, none, .bin .eql (.u 47) (.c (.int .i64 0))⟩])
          (.cond (.t 48)
           (.region [⟨some 49, false, none, .mov (.t 7)⟩,
             ⟨some 50, false, none, .load true 3 (.t 8)⟩,
             ⟨none, true, none, .store 3 (.t 4) (.u 50)⟩,
             ⟨some 51, false, none, .iaA 8 1 (.t 5) (.u 49)⟩,
             ⟨none, true, none, .store 1 (.u 51) (.c (.bool false))⟩])
           (.skip)))
         (.exit 1)))))
         (.skip)))
       (.seq (.region [⟨some 10, true, none, .mov (.c (.int .i64 0))⟩])
       (.seq (.block 2 (.loop (.seq (.seq (.region [⟨some 52, false, none, .mov (.t 10)⟩,
              ⟨some 53, false, none, .bin .lss (.u 52) (.c (.int .i64 8))⟩,
              ⟨some 54, false, none, .mov (.u 53)⟩,
              ⟨some 55, false, some ((.u 54), true), .mov (.t 10)⟩,
              ⟨some 56, false, some ((.u 54), true), .iaA 8 1 (.t 5) (.u 55)⟩,
              ⟨some 57, false, some ((.u 54), true), .load false 1 (.u 56)⟩,
              ⟨some 58, true, none, .pick (.u 54) (.u 57) (.c (.bool false))⟩])
           (.cond (.t 58)
            (.skip)
            (.exit 2)))
          (.block 3 (.region [⟨some 59, false, none, .mov (.t 10)⟩,
             ⟨some 60, false, none, .bin .add (.u 59) (.c (.int .i64 1))⟩,
             ⟨some 10, true, none, .mov (.u 60)⟩])))))
       (.seq (.region [⟨some 62, false, none, .load true 3 (.t 4)⟩,
          ⟨some 63, false, none, .build [.int .i64 0, .int .i64 0] [(1, 1, (.c (.int .i64 1)))]⟩,
          ⟨some 64, false, none, .call 29 [(.u 62), (.c (.int .i64 1)), (.u 63), (.c (.int .i64 1))]⟩,
          ⟨some 61, false, none, .mov (.u 64)⟩,
          ⟨some 65, false, none, .ext (.u 61) 0⟩,
          ⟨some 66, false, none, .ext (.u 61) 1⟩,
          ⟨some 67, false, none, .ext (.u 61) 2⟩,
          ⟨some 11, true, none, .zero [.int .i64 0, .int .i64 0, .fsl 1 0 []]⟩,
          ⟨none, true, none, .store 3 (.t 11) (.u 65)⟩,
          ⟨some 12, true, none, .mov (.u 66)⟩,
          ⟨some 13, true, none, .mov (.u 67)⟩])
       (.seq (.seq (.region [⟨some 68, false, none, .mov (.t 10)⟩,
           ⟨some 69, true, none, .bin .eql (.u 68) (.c (.int .i64 8))⟩])
        (.cond (.t 69)
         (.seq (.seq (.region [⟨some 70, false, none, .mov (.t 13)⟩,
             ⟨some 71, true, none, .bin .neq (.u 70) (.c (.int .i64 24))⟩])
          (.cond (.t 71)
           (.seq (.region [⟨some 2, true, none, .mov (.c (.bool false))⟩])
           (.ret))
           (.skip)))
         (.exit 1))
         (.skip)))
       (.seq (.seq (.region [⟨some 72, false, none, .mov (.t 13)⟩,
           ⟨some 73, false, none, .bin .neq (.u 72) (.c (.int .i64 0))⟩,
           ⟨some 74, false, none, .mov (.u 73)⟩,
           ⟨some 75, false, some ((.u 74), false), .mov (.t 12)⟩,
           ⟨some 76, false, some ((.u 74), false), .mov (.t 10)⟩,
           ⟨some 77, false, some ((.u 74), false), .bin .neq (.u 75) (.u 76)⟩,
           ⟨some 78, true, none, .pick (.u 74) (.c (.bool true)) (.u 77)⟩])
        (.cond (.t 78)
         (.seq (.region [⟨some 2, true, none, .mov (.c (.bool false))⟩])
         (.ret))
         (.skip)))
       (.region [⟨some 79, false, none, .mov (.t 10)⟩,
         ⟨some 80, false, none, .load true 3 (.t 11)⟩,
         ⟨none, true, none, .store 3 (.t 4) (.u 80)⟩,
         ⟨some 81, false, none, .iaA 8 1 (.t 5) (.u 79)⟩,
         ⟨none, true, none, .store 1 (.u 81) (.c (.bool true))⟩]))))))))
     (.region [⟨some 20, false, none, .mov (.t 6)⟩,
       ⟨some 21, false, none, .bin .add (.u 20) (.c (.int .i64 1))⟩,
       ⟨some 6, true, none, .mov (.u 21)⟩]))))))
  (.seq (.region [⟨some 82, false, none, .call 15 []⟩,
     ⟨some 2, true, none, .mov (.u 82)⟩])
  (.ret))))))
def r7 : List LRes := [.slot 2]
theorem t7 : (Try.f7.body.bind (trCode v7 Try.prog Try.f7.ntmps)) = some c7 ∧ trRes v7 Try.prog Try.f7.results.toList = some r7 := ⟨by kernel_rfl, by kernel_rfl⟩

def v8 : Nat → Bool := fun t => [0, 2].contains t
def c8 : LCode :=
  .seq (.region [⟨some 2, true, none, .mov (.c (.nil))⟩])
  (.seq (.region [⟨some 3, false, none, .mov (.t 0)⟩,
     ⟨some 4, false, none, .build [.fsl 1 0 [], .int .i64 0] [(0, 1, (.u 3))]⟩,
     ⟨some 5, false, none, .box (.u 4)⟩,
     ⟨some 2, true, none, .mov (.u 5)⟩])
  (.ret))
def r8 : List LRes := [.slot 2]
theorem t8 : (Try.f8.body.bind (trCode v8 Try.prog Try.f8.ntmps)) = some c8 ∧ trRes v8 Try.prog Try.f8.results.toList = some r8 := ⟨by kernel_rfl, by kernel_rfl⟩

def v9 : Nat → Bool := fun t => [0, 1, 2, 3].contains t
def c9 : LCode :=
  .seq (.region [⟨some 1, true, none, .box (.t 0)⟩,
     ⟨some 2, true, none, .zero [.int .i64 0, .int .i64 0, .fsl 1 0 []]⟩])
  (.seq (.region [⟨some 4, false, none, .load true 2 (.t 1)⟩,
     ⟨some 5, false, none, .build [.int .i64 0, .int .i64 0, .int .i64 0, .int .i64 0, .int .i64 0, .int .i64 0, .int .i64 0, .int .i64 0, .int .i64 0, .int .i64 0, .str [], .str [], .fsl 1 0 [], .bool false] [(0, 1, (.c (.int .i64 1))), (6, 1, (.c (.int .i64 4294967295))), (7, 1, (.c (.int .i64 4294967295))), (8, 2, (.u 4)), (10, 1, (.c (.str [105, 110, 105, 116]))), (11, 1, (.c (.str [47, 105, 110, 105, 116]))), (13, 1, (.c (.bool true)))]⟩,
     ⟨some 3, true, none, .zero [.int .i64 0, .int .i64 0, .int .i64 0, .int .i64 0, .int .i64 0, .int .i64 0, .int .i64 0, .int .i64 0, .int .i64 0, .int .i64 0, .str [], .str [], .fsl 1 0 [], .bool false]⟩,
     ⟨none, true, none, .store 14 (.t 3) (.u 5)⟩])
  (.seq (.region [⟨some 6, false, none, .load true 14 (.t 3)⟩,
     ⟨some 7, false, none, .mkS 14 1 [.int .i64 0, .int .i64 0, .int .i64 0, .int .i64 0, .int .i64 0, .int .i64 0, .int .i64 0, .int .i64 0, .int .i64 0, .int .i64 0, .str [], .str [], .fsl 1 0 [], .bool false] [(0, 14, (.u 6))]⟩,
     ⟨some 8, false, none, .build [.int .i64 0, .int .i64 0, .fsl 1 0 []] [(0, 1, (.c (.int .i64 2))), (1, 1, (.c (.int .i64 1))), (2, 1, (.u 7))]⟩,
     ⟨none, true, none, .store 3 (.t 2) (.u 8)⟩])
  (.ret)))
def r9 : List LRes := [.cell true 3 2]
theorem t9 : (Try.f9.body.bind (trCode v9 Try.prog Try.f9.ntmps)) = some c9 ∧ trRes v9 Try.prog Try.f9.results.toList = some r9 := ⟨by kernel_rfl, by kernel_rfl⟩

def v10 : Nat → Bool := fun t => [0, 1, 2, 3, 4, 5, 6, 7, 8, 19].contains t
def c10 : LCode :=
  .seq (.region [⟨some 2, true, none, .box (.t 0)⟩,
     ⟨some 3, true, none, .box (.t 1)⟩,
     ⟨some 4, true, none, .zero [.int .i64 0, .int .i64 0, .fsl 1 0 []]⟩,
     ⟨some 5, true, none, .mov (.c (.int .i64 0))⟩,
     ⟨some 6, true, none, .mov (.c (.int .i64 0))⟩])
  (.seq (.region [⟨some 9, false, none, .faddr 0 (.t 2)⟩,
     ⟨some 10, false, none, .load false 1 (.u 9)⟩,
     ⟨some 7, true, none, .zero [.int .i64 0]⟩,
     ⟨none, true, none, .store 1 (.t 7) (.u 10)⟩])
  (.seq (.region [⟨some 12, false, none, .load true 3 (.t 2)⟩,
     ⟨some 13, false, none, .load false 1 (.t 3)⟩,
     ⟨some 14, false, none, .mkf 31 [(.t 7), (.t 3)]⟩,
     ⟨some 15, false, none, .call 30 [(.u 12), (.u 13), (.u 14)]⟩,
     ⟨some 11, false, none, .mov (.u 15)⟩,
     ⟨some 16, false, none, .ext (.u 11) 0⟩,
     ⟨some 17, false, none, .ext (.u 11) 1⟩,
     ⟨none, true, none, .store 3 (.t 2) (.u 16)⟩,
     ⟨some 8, true, none, .mov (.u 17)⟩])
  (.seq (.seq (.region [⟨some 18, false, none, .mov (.t 8)⟩,
      ⟨some 19, true, none, .bin .neq (.u 18) (.c (.int .i64 0))⟩])
   (.cond (.t 19)
    (.seq (.region [⟨some 20, false, none, .build [.int .i64 0, .int .i64 0, .fsl 1 0 []] []⟩,
       ⟨some 21, false, none, .mov (.t 8)⟩,
       ⟨none, true, none, .store 3 (.t 4) (.u 20)⟩,
       ⟨some 5, true, none, .mov (.c (.int .i64 0))⟩,
       ⟨some 6, true, none, .mov (.u 21)⟩])
    (.ret))
    (.skip)))
  (.seq (.regionD [⟨0, [2], true, [], ⟨some 22, false, none, .load true 3 (.t 2)⟩⟩,
     ⟨1, [7], true, [], ⟨some 23, false, none, .load false 1 (.t 7)⟩⟩,
     ⟨2, [4, 22], false, [1], ⟨none, true, none, .store 3 (.t 4) (.u 22)⟩⟩,
     ⟨3, [23], false, [], ⟨some 5, true, none, .mov (.u 23)⟩⟩,
     ⟨4, [], false, [], ⟨some 6, true, none, .mov (.c (.int .i64 0))⟩⟩])
  (.ret)))))
def r10 : List LRes := [.cell true 3 4, .slot 5, .slot 6]
theorem t10 : (Try.f10.body.bind (trCode v10 Try.prog Try.f10.ntmps)) = some c10 ∧ trRes v10 Try.prog Try.f10.results.toList = some r10 := ⟨by kernel_rfl, by kernel_rfl⟩

def v11 : Nat → Bool := fun t => [0, 1, 2, 3, 4, 14].contains t
def c11 : LCode :=
  .seq (.region [⟨some 1, true, none, .box (.t 0)⟩,
     ⟨some 2, true, none, .zero [.int .i64 0, .int .i64 0, .fsl 1 0 []]⟩])
  (.seq (.region [⟨some 5, false, none, .faddr 0 (.t 1)⟩,
     ⟨some 6, false, none, .load false 1 (.u 5)⟩,
     ⟨some 7, false, none, .faddr 1 (.t 1)⟩,
     ⟨some 8, false, none, .load false 1 (.u 7)⟩,
     ⟨some 9, false, none, .build [.int .i64 0, .int .i64 0, .fsl 1 0 []] [(0, 1, (.u 6)), (1, 1, (.u 8))]⟩,
     ⟨some 3, true, none, .zero [.int .i64 0, .int .i64 0, .fsl 1 0 []]⟩,
     ⟨none, true, none, .store 3 (.t 3) (.u 9)⟩])
  (.seq (.seq (.region [⟨some 4, true, none, .mov (.c (.int .i64 0))⟩])
   (.block 0 (.loop (.seq (.seq (.region [⟨some 10, false, none, .mov (.t 4)⟩,
         ⟨some 11, false, none, .faddr 2 (.t 1)⟩,
         ⟨some 12, false, none, .load false 1 (.u 11)⟩,
         ⟨some 13, false, none, .lenL (.u 12)⟩,
         ⟨some 14, true, none, .bin .lss (.u 10) (.u 13)⟩])
      (.cond (.t 14)
       (.skip)
       (.exit 0)))
     (.seq (.block 1 (.regionD [⟨0, [3], false, [], ⟨some 17, false, none, .faddr 2 (.t 3)⟩⟩,
         ⟨1, [17], true, [], ⟨some 18, false, none, .load false 1 (.u 17)⟩⟩,
         ⟨2, [1], false, [], ⟨some 19, false, none, .faddr 2 (.t 1)⟩⟩,
         ⟨3, [19], true, [], ⟨some 20, false, none, .load false 1 (.u 19)⟩⟩,
         ⟨4, [4], false, [], ⟨some 21, false, none, .mov (.t 4)⟩⟩,
         ⟨5, [20, 21], false, [], ⟨some 22, false, none, .iaS 14 (.u 20) (.u 21)⟩⟩,
         ⟨6, [22], true, [], ⟨some 23, false, none, .load true 14 (.u 22)⟩⟩,
         ⟨7, [23], false, [1], ⟨some 24, false, none, .call 33 [(.u 23)]⟩⟩,
         ⟨8, [24], false, [], ⟨some 25, false, none, .mkS 14 1 [.int .i64 0, .int .i64 0, .int .i64 0, .int .i64 0, .int .i64 0, .int .i64 0, .int .i64 0, .int .i64 0, .int .i64 0, .int .i64 0, .str [], .str [], .fsl 1 0 [], .bool false] [(0, 14, (.u 24))]⟩⟩,
         ⟨9, [18, 25], false, [], ⟨some 26, false, none, .app 14 144 (.u 18) (.u 25)⟩⟩,
         ⟨10, [3], false, [], ⟨some 27, false, none, .faddr 2 (.t 3)⟩⟩,
         ⟨11, [27, 26], false, [], ⟨none, true, none, .store 1 (.u 27) (.u 26)⟩⟩]))
     (.region [⟨some 15, false, none, .mov (.t 4)⟩,
       ⟨some 16, false, none, .bin .add (.u 15) (.c (.int .i64 1))⟩,
       ⟨some 4, true, none, .mov (.u 16)⟩]))))))
  (.seq (.region [⟨some 28, false, none, .load true 3 (.t 3)⟩,
     ⟨none, true, none, .store 3 (.t 2) (.u 28)⟩])
  (.ret))))
def r11 : List LRes := [.cell true 3 2]
theorem t11 : (Try.f11.body.bind (trCode v11 Try.prog Try.f11.ntmps)) = some c11 ∧ trRes v11 Try.prog Try.f11.results.toList = some r11 := ⟨by kernel_rfl, by kernel_rfl⟩

def v12 : Nat → Bool := fun t => [0, 1, 2, 3, 5, 6, 7].contains t
def c12 : LCode :=
  .seq (.region [⟨some 3, true, none, .box (.t 0)⟩,
     ⟨some 5, true, none, .box (.t 2)⟩,
     ⟨some 6, true, none, .zero [.int .i64 0, .int .i64 0, .fsl 1 0 []]⟩,
     ⟨some 7, true, none, .mov (.c (.int .i64 0))⟩])
  (.seq (.region [⟨some 8, false, none, .load true 3 (.t 3)⟩,
     ⟨some 9, false, none, .mov (.t 1)⟩,
     ⟨some 10, false, none, .mkf 34 [(.t 5)]⟩,
     ⟨some 11, false, none, .call 30 [(.u 8), (.u 9), (.u 10)]⟩,
     ⟨some 12, false, none, .ext (.u 11) 0⟩,
     ⟨some 13, false, none, .ext (.u 11) 1⟩,
     ⟨none, true, none, .store 3 (.t 6) (.u 12)⟩,
     ⟨some 7, true, none, .mov (.u 13)⟩])
  (.ret))
def r12 : List LRes := [.cell true 3 6, .slot 7]
theorem t12 : (Try.f12.body.bind (trCode v12 Try.prog Try.f12.ntmps)) = some c12 ∧ trRes v12 Try.prog Try.f12.results.toList = some r12 := ⟨by kernel_rfl, by kernel_rfl⟩

def v13 : Nat → Bool := fun t => [0, 1, 4].contains t
def c13 : LCode :=
  .seq (.region [⟨some 4, true, none, .mov (.c (.int .i64 0))⟩])
  (.seq (.region [⟨some 5, false, none, .mov (.t 1)⟩,
     ⟨some 6, false, none, .mov (.t 0)⟩,
     ⟨some 7, false, none, .mov (.t 1)⟩,
     ⟨some 8, false, none, .lenL (.u 7)⟩,
     ⟨some 9, false, none, .call 17 [(.u 6), (.u 8)]⟩,
     ⟨some 10, false, none, .iaS 1 (.u 5) (.u 9)⟩,
     ⟨some 11, false, none, .load false 1 (.u 10)⟩,
     ⟨some 4, true, none, .mov (.u 11)⟩])
  (.ret))
def r13 : List LRes := [.slot 4]
theorem t13 : (Try.f13.body.bind (trCode v13 Try.prog Try.f13.ntmps)) = some c13 ∧ trRes v13 Try.prog Try.f13.results.toList = some r13 := ⟨by kernel_rfl, by kernel_rfl⟩

def v14 : Nat → Bool := fun t => [0, 1, 2, 4, 5, 6, 11].contains t
def c14 : LCode :=
  .seq (.region [⟨some 2, true, none, .box (.t 0)⟩,
     ⟨some 4, true, none, .zero [.int .i64 0, .int .i64 0, .int .i64 0, .int .i64 0, .int .i64 0, .int .i64 0, .int .i64 0, .int .i64 0, .int .i64 0, .int .i64 0, .str [], .str [], .fsl 1 0 [], .bool false]⟩,
     ⟨some 5, true, none, .mov (.c (.bool false))⟩])
  (.seq (.region [⟨some 7, false, none, .load true 3 (.t 2)⟩,
     ⟨some 8, false, none, .mov (.t 1)⟩,
     ⟨some 9, false, none, .call 36 [(.u 7), (.u 8)]⟩,
     ⟨some 6, true, none, .mov (.u 9)⟩])
  (.seq (.seq (.region [⟨some 10, false, none, .mov (.t 6)⟩,
      ⟨some 11, true, none, .bin .lss (.u 10) (.c (.int .i64 0))⟩])
   (.cond (.t 11)
    (.seq (.region [⟨some 12, false, none, .build [.int .i64 0, .int .i64 0, .int .i64 0, .int .i64 0, .int .i64 0, .int .i64 0, .int .i64 0, .int .i64 0, .int .i64 0, .int .i64 0, .str [], .str [], .fsl 1 0 [], .bool false] []⟩,
       ⟨none, true, none, .store 14 (.t 4) (.u 12)⟩,
       ⟨some 5, true, none, .mov (.c (.bool false))⟩])
    (.ret))
    (.skip)))
  (.seq (.region [⟨some 13, false, none, .faddr 2 (.t 2)⟩,
     ⟨some 14, false, none, .load false 1 (.u 13)⟩,
     ⟨some 15, false, none, .mov (.t 6)⟩,
     ⟨some 16, false, none, .iaS 14 (.u 14) (.u 15)⟩,
     ⟨some 17, false, none, .load true 14 (.u 16)⟩,
     ⟨some 18, false, none, .call 32 [(.u 17)]⟩,
     ⟨none, true, none, .store 14 (.t 4) (.u 18)⟩,
     ⟨some 5, true, none, .mov (.c (.bool true))⟩])
  (.ret))))
def r14 : List LRes := [.cell true 14 4, .slot 5]
theorem t14 : (Try.f14.body.bind (trCode v14 Try.prog Try.f14.ntmps)) = some c14 ∧ trRes v14 Try.prog Try.f14.results.toList = some r14 := ⟨by kernel_rfl, by kernel_rfl⟩

def v15 : Nat → Bool := fun t => [0, 1, 2, 3, 4, 6, 7, 8].contains t
def c15 : LCode :=
  .seq (.region [⟨some 0, true, none, .mov (.c (.bool false))⟩])
  (.seq (.region [⟨some 9, false, none, .build [.int .i64 0, .int .i64 0] [(1, 1, (.c (.int .i64 1)))]⟩,
     ⟨some 10, false, none, .call 9 [(.u 9)]⟩,
     ⟨some 1, true, none, .zero [.int .i64 0, .int .i64 0, .fsl 1 0 []]⟩,
     ⟨none, true, none, .store 3 (.t 1) (.u 10)⟩])
  (.seq (.region [⟨some 12, false, none, .load true 3 (.t 1)⟩,
     ⟨some 13, false, none, .call 10 [(.u 12), (.c (.int .i64 1))]⟩,
     ⟨some 11, false, none, .mov (.u 13)⟩,
     ⟨some 14, false, none, .ext (.u 11) 0⟩,
     ⟨some 15, false, none, .ext (.u 11) 1⟩,
     ⟨some 16, false, none, .ext (.u 11) 2⟩,
     ⟨none, true, none, .store 3 (.t 1) (.u 14)⟩,
     ⟨some 2, true, none, .mov (.u 15)⟩,
     ⟨some 3, true, none, .mov (.u 16)⟩])
  (.seq (.region [⟨some 18, false, none, .load true 3 (.t 1)⟩,
     ⟨some 19, false, none, .mov (.t 2)⟩,
     ⟨some 20, false, none, .call 12 [(.u 18), (.u 19), (.c (.int .i64 5))]⟩,
     ⟨some 17, false, none, .mov (.u 20)⟩,
     ⟨some 21, false, none, .ext (.u 17) 0⟩,
     ⟨some 22, false, none, .ext (.u 17) 1⟩,
     ⟨none, true, none, .store 3 (.t 1) (.u 21)⟩,
     ⟨some 4, true, none, .mov (.u 22)⟩])
  (.seq (.region [⟨some 24, false, none, .load true 3 (.t 1)⟩,
     ⟨some 25, false, none, .mov (.t 2)⟩,
     ⟨some 26, false, none, .call 12 [(.u 24), (.u 25), (.c (.int .i64 0))]⟩,
     ⟨some 23, false, none, .mov (.u 26)⟩,
     ⟨some 27, false, none, .ext (.u 23) 0⟩,
     ⟨some 28, false, none, .ext (.u 23) 1⟩,
     ⟨some 5, false, none, .zero [.int .i64 0, .int .i64 0, .fsl 1 0 []]⟩,
     ⟨none, true, none, .store 3 (.u 5) (.u 27)⟩,
     ⟨some 6, true, none, .mov (.u 28)⟩])
  (.seq (.region [⟨some 30, false, none, .load true 3 (.t 1)⟩,
     ⟨some 31, false, none, .call 14 [(.u 30), (.c (.int .i64 2))]⟩,
     ⟨some 29, false, none, .mov (.u 31)⟩,
     ⟨some 32, false, none, .ext (.u 29) 0⟩,
     ⟨some 33, false, none, .ext (.u 29) 1⟩,
     ⟨some 7, true, none, .zero [.int .i64 0, .int .i64 0, .int .i64 0, .int .i64 0, .int .i64 0, .int .i64 0, .int .i64 0, .int .i64 0, .int .i64 0, .int .i64 0, .str [], .str [], .fsl 1 0 [], .bool false]⟩,
     ⟨none, true, none, .store 14 (.t 7) (.u 32)⟩,
     ⟨some 8, true, none, .mov (.u 33)⟩])
  (.seq (.region [⟨some 34, false, none, .mov (.t 3)⟩,
     ⟨some 35, false, none, .bin .eql (.u 34) (.c (.int .i64 0))⟩,
     ⟨some 36, false, none, .mov (.u 35)⟩,
     ⟨some 37, false, some ((.u 36), true), .mov (.t 4)⟩,
     ⟨some 38, false, some ((.u 36), true), .bin .eql (.u 37) (.c (.int .i64 0))⟩,
     ⟨some 39, false, none, .pick (.u 36) (.u 38) (.c (.bool false))⟩,
     ⟨some 40, false, none, .mov (.u 39)⟩,
     ⟨some 41, false, some ((.u 40), true), .mov (.t 6)⟩,
     ⟨some 42, false, some ((.u 40), true), .bin .eql (.u 41) (.c (.int .i64 1))⟩,
     ⟨some 43, false, none, .pick (.u 40) (.u 42) (.c (.bool false))⟩,
     ⟨some 44, false, none, .mov (.u 43)⟩,
     ⟨some 45, false, some ((.u 44), true), .mov (.t 2)⟩,
     ⟨some 46, false, some ((.u 44), true), .bin .eql (.u 45) (.c (.int .i64 2))⟩,
     ⟨some 47, false, none, .pick (.u 44) (.u 46) (.c (.bool false))⟩,
     ⟨some 48, false, none, .mov (.u 47)⟩,
     ⟨some 49, false, some ((.u 48), true), .mov (.t 8)⟩,
     ⟨some 50, false, none, .pick (.u 48) (.u 49) (.c (.bool false))⟩,
     ⟨some 51, false, none, .mov (.u 50)⟩,
     ⟨some 52, false, some ((.u 51), true), .faddr 2 (.t 7)⟩,
     ⟨some 53, false, some ((.u 51), true), .load false 1 (.u 52)⟩,
     ⟨some 54, false, some ((.u 51), true), .bin .eql (.u 53) (.c (.int .i64 5))⟩,
     ⟨some 55, false, none, .pick (.u 51) (.u 54) (.c (.bool false))⟩,
     ⟨some 56, false, none, .mov (.u 55)⟩,
     ⟨some 57, false, some ((.u 56), true), .faddr 1 (.t 7)⟩,
     ⟨some 58, false, some ((.u 56), true), .load false 1 (.u 57)⟩,
     ⟨some 59, false, some ((.u 56), true), .bin .eql (.u 58) (.c (.int .i64 1))⟩,
     ⟨some 60, false, none, .pick (.u 56) (.u 59) (.c (.bool false))⟩,
     ⟨some 0, true, none, .mov (.u 60)⟩])
  (.ret)))))))
def r15 : List LRes := [.slot 0]
theorem t15 : (Try.f15.body.bind (trCode v15 Try.prog Try.f15.ntmps)) = some c15 ∧ trRes v15 Try.prog Try.f15.results.toList = some r15 := ⟨by kernel_rfl, by kernel_rfl⟩

def v16 : Nat → Bool := fun t => [0, 1, 2, 3, 5, 6, 7].contains t
def c16 : LCode :=
  .seq (.region [⟨some 3, true, none, .box (.t 0)⟩,
     ⟨some 5, true, none, .box (.t 2)⟩,
     ⟨some 6, true, none, .zero [.int .i64 0, .int .i64 0, .fsl 1 0 []]⟩,
     ⟨some 7, true, none, .mov (.c (.int .i64 0))⟩])
  (.seq (.region [⟨some 8, false, none, .load true 3 (.t 3)⟩,
     ⟨some 9, false, none, .mov (.t 1)⟩,
     ⟨some 10, false, none, .mkf 37 [(.t 5)]⟩,
     ⟨some 11, false, none, .call 30 [(.u 8), (.u 9), (.u 10)]⟩,
     ⟨some 12, false, none, .ext (.u 11) 0⟩,
     ⟨some 13, false, none, .ext (.u 11) 1⟩,
     ⟨none, true, none, .store 3 (.t 6) (.u 12)⟩,
     ⟨some 7, true, none, .mov (.u 13)⟩])
  (.ret))
def r16 : List LRes := [.cell true 3 6, .slot 7]
theorem t16 : (Try.f16.body.bind (trCode v16 Try.prog Try.f16.ntmps)) = some c16 ∧ trRes v16 Try.prog Try.f16.results.toList = some r16 := ⟨by kernel_rfl, by kernel_rfl⟩

def v17 : Nat → Bool := fun t => [0, 1, 4, 5, 7, 29, 45].contains t
def c17 : LCode :=
  .seq (.region [⟨some 4, true, none, .mov (.c (.int .i64 0))⟩])
  (.seq (.seq (.region [⟨some 6, false, none, .mov (.t 1)⟩,
      ⟨some 7, true, none, .bin .lss (.u 6) (.c (.int .i64 1))⟩])
   (.cond (.t 7)
    (.seq (.region [⟨some 4, true, none, .mov (.c (.int .i64 0))⟩])
    (.ret))
    (.skip)))
  (.seq (.region [⟨some 8, false, none, .mov (.t 0)⟩,
     ⟨some 9, false, none, .nilc (.u 8)⟩,
     ⟨some 10, false, none, .faddr 1 (.u 9)⟩,
     ⟨some 11, false, none, .load false 1 (.u 10)⟩,
     ⟨some 12, false, none, .bin .add (.u 11) (.c (.int .i64 1))⟩,
     ⟨some 13, false, none, .nilc (.u 8)⟩,
     ⟨some 14, false, none, .faddr 1 (.u 13)⟩,
     ⟨none, true, none, .store 1 (.u 14) (.u 12)⟩])
  (.seq (.region [⟨some 15, false, none, .mov (.t 0)⟩,
     ⟨some 16, false, none, .nilc (.u 15)⟩,
     ⟨some 17, false, none, .faddr 1 (.u 16)⟩,
     ⟨some 18, false, none, .load false 1 (.u 17)⟩,
     ⟨some 19, false, none, .bin .mul (.u 18) (.c (.int .i64 7))⟩,
     ⟨some 5, true, none, .mov (.u 19)⟩])
  (.seq (.seq (.regionD [⟨0, [0], false, [], ⟨some 20, false, none, .mov (.t 0)⟩⟩,
      ⟨1, [20], false, [], ⟨some 21, false, none, .nilc (.u 20)⟩⟩,
      ⟨2, [21], false, [], ⟨some 22, false, none, .faddr 1 (.u 21)⟩⟩,
      ⟨3, [22], true, [], ⟨some 23, false, none, .load false 1 (.u 22)⟩⟩,
      ⟨4, [0], false, [], ⟨some 24, false, none, .mov (.t 0)⟩⟩,
      ⟨5, [24], false, [], ⟨some 25, false, none, .nilc (.u 24)⟩⟩,
      ⟨6, [25], false, [], ⟨some 26, false, none, .faddr 0 (.u 25)⟩⟩,
      ⟨7, [26], true, [], ⟨some 27, false, none, .load false 1 (.u 26)⟩⟩,
      ⟨8, [27], false, [], ⟨some 28, false, none, .lenL (.u 27)⟩⟩,
      ⟨9, [23, 28], false, [], ⟨some 29, true, none, .bin .leq (.u 23) (.u 28)⟩⟩])
   (.cond (.t 29)
    (.regionD [⟨0, [0], false, [], ⟨some 30, false, none, .mov (.t 0)⟩⟩,
      ⟨1, [30], false, [], ⟨some 31, false, none, .nilc (.u 30)⟩⟩,
      ⟨2, [31], false, [], ⟨some 32, false, none, .faddr 0 (.u 31)⟩⟩,
      ⟨3, [32], true, [], ⟨some 33, false, none, .load false 1 (.u 32)⟩⟩,
      ⟨4, [0], false, [], ⟨some 34, false, none, .mov (.t 0)⟩⟩,
      ⟨5, [34], false, [], ⟨some 35, false, none, .nilc (.u 34)⟩⟩,
      ⟨6, [35], false, [], ⟨some 36, false, none, .faddr 1 (.u 35)⟩⟩,
      ⟨7, [36], true, [], ⟨some 37, false, none, .load false 1 (.u 36)⟩⟩,
      ⟨8, [37], false, [], ⟨some 38, false, none, .bin .sub (.u 37) (.c (.int .i64 1))⟩⟩,
      ⟨9, [33, 38], false, [], ⟨some 39, false, none, .iaS 1 (.u 33) (.u 38)⟩⟩,
      ⟨10, [39], true, [], ⟨some 40, false, none, .load false 1 (.u 39)⟩⟩,
      ⟨11, [40], false, [], ⟨some 5, true, none, .mov (.u 40)⟩⟩])
    (.skip)))
  (.seq (.region [⟨some 41, false, none, .mov (.t 5)⟩,
     ⟨some 42, false, none, .mov (.t 1)⟩,
     ⟨some 43, false, none, .bin .rem (.u 41) (.u 42)⟩,
     ⟨some 5, true, none, .mov (.u 43)⟩])
  (.seq (.seq (.region [⟨some 44, false, none, .mov (.t 5)⟩,
      ⟨some 45, true, none, .bin .lss (.u 44) (.c (.int .i64 0))⟩])
   (.cond (.t 45)
    (.region [⟨some 46, false, none, .mov (.t 5)⟩,
      ⟨some 47, false, none, .mov (.t 1)⟩,
      ⟨some 48, false, none, .bin .add (.u 46) (.u 47)⟩,
      ⟨some 5, true, none, .mov (.u 48)⟩])
    (.skip)))
  (.seq (.region [⟨some 49, false, none, .mov (.t 5)⟩,
     ⟨some 4, true, none, .mov (.u 49)⟩])
  (.ret))))))))
def r17 : List LRes := [.slot 4]
theorem t17 : (Try.f17.body.bind (trCode v17 Try.prog Try.f17.ntmps)) = some c17 ∧ trRes v17 Try.prog Try.f17.results.toList = some r17 := ⟨by kernel_rfl, by kernel_rfl⟩

def v18 : Nat → Bool := fun t => [0, 1, 2, 3, 5, 6, 7].contains t
def c18 : LCode :=
  .seq (.region [⟨some 3, true, none, .box (.t 0)⟩,
     ⟨some 5, true, none, .box (.t 2)⟩,
     ⟨some 6, true, none, .zero [.int .i64 0, .int .i64 0, .fsl 1 0 []]⟩,
     ⟨some 7, true, none, .mov (.c (.int .i64 0))⟩])
  (.seq (.region [⟨some 8, false, none, .load true 3 (.t 3)⟩,
     ⟨some 9, false, none, .mov (.t 1)⟩,
     ⟨some 10, false, none, .mkf 39 [(.t 5)]⟩,
     ⟨some 11, false, none, .call 30 [(.u 8), (.u 9), (.u 10)]⟩,
     ⟨some 12, false, none, .ext (.u 11) 0⟩,
     ⟨some 13, false, none, .ext (.u 11) 1⟩,
     ⟨none, true, none, .store 3 (.t 6) (.u 12)⟩,
     ⟨some 7, true, none, .mov (.u 13)⟩])
  (.ret))
def r18 : List LRes := [.cell true 3 6, .slot 7]
theorem t18 : (Try.f18.body.bind (trCode v18 Try.prog Try.f18.ntmps)) = some c18 ∧ trRes v18 Try.prog Try.f18.results.toList = some r18 := ⟨by kernel_rfl, by kernel_rfl⟩

def v19 : Nat → Bool := fun t => [0, 1, 2, 3, 4, 6, 7, 8, 9].contains t
def c19 : LCode :=
  .seq (.region [⟨some 4, true, none, .box (.t 0)⟩,
     ⟨some 6, true, none, .box (.t 2)⟩,
     ⟨some 7, true, none, .box (.t 3)⟩,
     ⟨some 8, true, none, .zero [.int .i64 0, .int .i64 0, .fsl 1 0 []]⟩,
     ⟨some 9, true, none, .mov (.c (.int .i64 0))⟩])
  (.seq (.region [⟨some 10, false, none, .load true 3 (.t 4)⟩,
     ⟨some 11, false, none, .mov (.t 1)⟩,
     ⟨some 12, false, none, .mkf 40 [(.t 6), (.t 7)]⟩,
     ⟨some 13, false, none, .call 30 [(.u 10), (.u 11), (.u 12)]⟩,
     ⟨some 14, false, none, .ext (.u 13) 0⟩,
     ⟨some 15, false, none, .ext (.u 13) 1⟩,
     ⟨none, true, none, .store 3 (.t 8) (.u 14)⟩,
     ⟨some 9, true, none, .mov (.u 15)⟩])
  (.ret))
def r19 : List LRes := [.cell true 3 8, .slot 9]
theorem t19 : (Try.f19.body.bind (trCode v19 Try.prog Try.f19.ntmps)) = some c19 ∧ trRes v19 Try.prog Try.f19.results.toList = some r19 := ⟨by kernel_rfl, by kernel_rfl⟩

def v20 : Nat → Bool := fun t => [0, 2, 3, 4, 9].contains t
def c20 : LCode :=
  .seq (.region [⟨some 2, true, none, .mov (.c (.str []))⟩])
  (.seq (.region [⟨some 3, true, none, .mov (.c (.str []))⟩])
  (.seq (.seq (.region [⟨some 5, false, none, .mov (.t 0)⟩,
      ⟨some 6, false, none, .mkS 1 5 [.int .i64 0] [(0, 1, (.c (.int .i64 1))), (1, 1, (.c (.int .i64 1))), (2, 1, (.c (.int .i64 2))), (3, 1, (.c (.int .i64 2))), (4, 1, (.c (.int .i64 3)))]⟩,
      ⟨some 7, false, none, .call 13 [(.u 5), (.u 6)]⟩,
      ⟨some 4, true, none, .mov (.u 7)⟩])
   (.block 0 (.loop (.seq (.seq (.region [⟨some 8, false, none, .mov (.t 4)⟩,
         ⟨some 9, true, none, .bin .gtr (.u 8) (.c (.int .i64 0))⟩])
      (.cond (.t 9)
       (.skip)
       (.exit 0)))
     (.seq (.block 1 (.region [⟨some 12, false, none, .mov (.t 3)⟩,
         ⟨some 13, false, none, .mov (.t 0)⟩,
         ⟨some 14, false, none, .mkS 1 5 [.str []] [(0, 1, (.c (.str [97]))), (1, 1, (.c (.str [98]))), (2, 1, (.c (.str [99]))), (3, 1, (.c (.str [108]))), (4, 1, (.c (.str [109])))]⟩,
         ⟨some 15, false, none, .call 41 [(.u 13), (.u 14)]⟩,
         ⟨some 16, false, none, .bin .add (.c (.str [47])) (.u 15)⟩,
         ⟨some 17, false, none, .bin .add (.u 12) (.u 16)⟩,
         ⟨some 3, true, none, .mov (.u 17)⟩]))
     (.region [⟨some 10, false, none, .mov (.t 4)⟩,
       ⟨some 11, false, none, .bin .sub (.u 10) (.c (.int .i64 1))⟩,
       ⟨some 4, true, none, .mov (.u 11)⟩]))))))
  (.seq (.region [⟨some 18, false, none, .mov (.t 3)⟩,
     ⟨some 2, true, none, .mov (.u 18)⟩])
  (.ret))))
def r20 : List LRes := [.slot 2]
theorem t20 : (Try.f20.body.bind (trCode v20 Try.prog Try.f20.ntmps)) = some c20 ∧ trRes v20 Try.prog Try.f20.results.toList = some r20 := ⟨by kernel_rfl, by kernel_rfl⟩

def v21 : Nat → Bool := fun t => [0, 1, 2, 3, 4, 5, 26, 31, 45].contains t
def c21 : LCode :=
  .seq (.region [⟨some 2, true, none, .box (.t 0)⟩,
     ⟨some 3, true, none, .box (.t 1)⟩,
     ⟨some 4, true, none, .mov (.c (.bool false))⟩])
  (.seq (.seq (.region [⟨some 6, false, none, .faddr 0 (.t 2)⟩,
      ⟨some 7, false, none, .load false 1 (.u 6)⟩,
      ⟨some 8, false, none, .faddr 0 (.t 3)⟩,
      ⟨some 9, false, none, .load false 1 (.u 8)⟩,
      ⟨some 10, false, none, .bin .neq (.u 7) (.u 9)⟩,
      ⟨some 11, false, none, .mov (.u 10)⟩,
      ⟨some 12, false, some ((.u 11), false), .faddr 1 (.t 2)⟩,
      ⟨some 13, false, some ((.u 11), false), .load false 1 (.u 12)⟩,
      ⟨some 14, false, some ((.u 11), false), .faddr 1 (.t 3)⟩,
      ⟨some 15, false, some ((.u 11), false), .load false 1 (.u 14)⟩,
      ⟨some 16, false, some ((.u 11), false), .bin .neq (.u 13) (.u 15)⟩,
      ⟨some 17, false, none, .pick (.u 11) (.c (.bool true)) (.u 16)⟩,
      ⟨some 18, false, none, .mov (.u 17)⟩,
      ⟨some 19, false, some ((.u 18), false), .faddr 2 (.t 2)⟩,
      ⟨some 20, false, some ((.u 18), false), .load false 1 (.u 19)⟩,
      ⟨some 21, false, some ((.u 18), false), .lenL (.u 20)⟩,
      ⟨some 22, false, some ((.u 18), false), .faddr 2 (.t 3)⟩,
      ⟨some 23, false, some ((.u 18), false), .load false 1 (.u 22)⟩,
      ⟨some 24, false, some ((.u 18), false), .lenL (.u 23)⟩,
      ⟨some 25, false, some ((.u 18), false), .bin .neq (.u 21) (.u 24)⟩,
      ⟨some 26, true, none, .pick (.u 18) (.c (.bool true)) (.u 25)⟩])
   (.cond (.t 26)
    (.seq (.region [⟨some 4, true, none, .mov (.c (.bool false))⟩])
    (.ret))
    (.skip)))
  (.seq (.seq (.region [⟨some 5, true, none, .mov (.c (.int .i64 0))⟩])
   (.block 0 (.loop (.seq (.seq (.region [⟨some 27, false, none, .mov (.t 5)⟩,
         ⟨some 28, false, none, .faddr 2 (.t 2)⟩,
         ⟨some 29, false, none, .load false 1 (.u 28)⟩,
         ⟨some 30, false, none, .lenL (.u 29)⟩,
         ⟨some 31, true, none, .bin .lss (.u 27) (.u 30)⟩])
      (.cond (.t 31)
       (.skip)
       (.exit 0)))
     (.seq (.block 1 (.seq (.regionD [⟨0, [2], false, [], ⟨some 34, false, none, .faddr 2 (.t 2)⟩⟩,
          ⟨1, [34], true, [], ⟨some 35, false, none, .load false 1 (.u 34)⟩⟩,
          ⟨2, [5], false, [], ⟨some 36, false, none, .mov (.t 5)⟩⟩,
          ⟨3, [35, 36], false, [], ⟨some 37, false, none, .iaS 14 (.u 35) (.u 36)⟩⟩,
          ⟨4, [37], true, [], ⟨some 38, false, none, .load true 14 (.u 37)⟩⟩,
          ⟨5, [3], false, [], ⟨some 39, false, none, .faddr 2 (.t 3)⟩⟩,
          ⟨6, [39], true, [], ⟨some 40, false, none, .load false 1 (.u 39)⟩⟩,
          ⟨7, [5], false, [], ⟨some 41, false, none, .mov (.t 5)⟩⟩,
          ⟨8, [40, 41], false, [], ⟨some 42, false, none, .iaS 14 (.u 40) (.u 41)⟩⟩,
          ⟨9, [42], true, [], ⟨some 43, false, none, .load true 14 (.u 42)⟩⟩,
          ⟨10, [38, 43], false, [], ⟨some 44, false, none, .call 42 [(.u 38), (.u 43)]⟩⟩,
          ⟨11, [44], false, [], ⟨some 45, true, none, .un .not (.u 44)⟩⟩])
       (.cond (.t 45)
        (.seq (.region [⟨some 4, true, none, .mov (.c (.bool false))⟩])
        (.ret))
        (.skip))))
     (.region [⟨some 32, false, none, .mov (.t 5)⟩,
       ⟨some 33, false, none, .bin .add (.u 32) (.c (.int .i64 1))⟩,
       ⟨some 5, true, none, .mov (.u 33)⟩]))))))
  (.seq (.region [⟨some 4, true, none, .mov (.c (.bool true))⟩])
  (.ret))))
def r21 : List LRes := [.slot 4]
theorem t21 : (Try.f21.body.bind (trCode v21 Try.prog Try.f21.ntmps)) = some c21 ∧ trRes v21 Try.prog Try.f21.results.toList = some r21 := ⟨by kernel_rfl, by kernel_rfl⟩

def v22 : Nat → Bool := fun t => [0, 1, 2].contains t
def c22 : LCode :=
  .seq (.region [⟨some 1, true, none, .box (.t 0)⟩,
     ⟨some 2, true, none, .zero [.int .i64 0, .int .i64 0, .fsl 1 0 []]⟩])
  (.seq (.region [⟨some 3, false, none, .load true 2 (.t 1)⟩,
     ⟨some 4, false, none, .build [.int .i64 0, .int .i64 0, .int .i64 0, .int .i64 0, .int .i64 0, .int .i64 0, .int .i64 0, .int .i64 0, .int .i64 0, .int .i64 0, .str [], .str [], .fsl 1 0 [], .bool false] [(0, 1, (.c (.int .i64 1))), (6, 1, (.c (.int .i64 4294967295))), (7, 1, (.c (.int .i64 4294967295))), (8, 2, (.u 3)), (10, 1, (.c (.str [105, 110, 105, 116]))), (11, 1, (.c (.str [47, 105, 110, 105, 116]))), (13, 1, (.c (.bool true)))]⟩,
     ⟨some 5, false, none, .mkS 14 1 [.int .i64 0, .int .i64 0, .int .i64 0, .int .i64 0, .int .i64 0, .int .i64 0, .int .i64 0, .int .i64 0, .int .i64 0, .int .i64 0, .str [], .str [], .fsl 1 0 [], .bool false] [(0, 14, (.u 4))]⟩,
     ⟨some 6, false, none, .build [.int .i64 0, .int .i64 0, .fsl 1 0 []] [(0, 1, (.c (.int .i64 2))), (1, 1, (.c (.int .i64 1))), (2, 1, (.u 5))]⟩,
     ⟨none, true, none, .store 3 (.t 2) (.u 6)⟩])
  (.ret))
def r22 : List LRes := [.cell true 3 2]
theorem t22 : (Try.f22.body.bind (trCode v22 Try.prog Try.f22.ntmps)) = some c22 ∧ trRes v22 Try.prog Try.f22.results.toList = some r22 := ⟨by kernel_rfl, by kernel_rfl⟩

def v23 : Nat → Bool := fun t => [0, 1, 2, 3, 4, 14, 32, 34, 35, 36, 37, 61, 77].contains t
def c23 : LCode :=
  .seq (.region [⟨some 1, true, none, .box (.t 0)⟩,
     ⟨some 2, true, none, .mov (.c (.bool false))⟩])
  (.seq (.seq (.region [⟨some 5, false, none, .faddr 0 (.t 1)⟩,
      ⟨some 6, false, none, .load false 1 (.u 5)⟩,
      ⟨some 7, false, none, .call 43 [(.u 6)]⟩,
      ⟨some 8, false, none, .un .not (.u 7)⟩,
      ⟨some 9, false, none, .mov (.u 8)⟩,
      ⟨some 10, false, some ((.u 9), false), .faddr 1 (.t 1)⟩,
      ⟨some 11, false, some ((.u 9), false), .load false 1 (.u 10)⟩,
      ⟨some 12, false, some ((.u 9), false), .call 43 [(.u 11)]⟩,
      ⟨some 13, false, some ((.u 9), false), .un .not (.u 12)⟩,
      ⟨some 14, true, none, .pick (.u 9) (.c (.bool true)) (.u 13)⟩])
   (.cond (.t 14)
    (.seq (.region [⟨some 2, true, none, .mov (.c (.bool false))⟩])
    (.ret))
    (.skip)))
  (.seq (.seq (.region [⟨some 15, false, none, .faddr 2 (.t 1)⟩,
      ⟨some 16, false, none, .load false 1 (.u 15)⟩,
      ⟨some 17, false, none, .lenL (.u 16)⟩,
      ⟨some 18, false, none, .bin .lss (.u 17) (.c (.int .i64 1))⟩,
      ⟨some 19, false, none, .mov (.u 18)⟩,
      ⟨some 20, false, some ((.u 19), false), .faddr 2 (.t 1)⟩,
      ⟨some 21, false, some ((.u 19), false), .load false 1 (.u 20)⟩,
      ⟨some 22, false, some ((.u 19), false), .lenL (.u 21)⟩,
      ⟨some 23, false, some ((.u 19), false), .bin .gtr (.u 22) (.c (.int .i64 16))⟩,
      ⟨some 24, false, none, .pick (.u 19) (.c (.bool true)) (.u 23)⟩,
      ⟨some 25, false, none, .mov (.u 24)⟩,
      ⟨some 26, false, some ((.u 25), false), .faddr 2 (.t 1)⟩,
      ⟨some 27, false, some ((.u 25), false), .load false 1 (.u 26)⟩,
      ⟨some 28, false, some ((.u 25), false), .iaS 14 (.u 27) (.c (.int .i64 0))⟩,
      ⟨some 29, false, some ((.u 25), false), .faddr 0 (.u 28)⟩,
      ⟨some 30, false, some ((.u 25), false), .load false 1 (.u 29)⟩,
      ⟨some 31, false, some ((.u 25), false), .bin .neq (.u 30) (.c (.int .i64 1))⟩,
      ⟨some 32, true, none, .pick (.u 25) (.c (.bool true)) (.u 31)⟩])
   (.cond (.t 32)
    (.seq (.region [⟨some 2, true, none, .mov (.c (.bool false))⟩])
    (.ret))
    (.skip)))
  (.seq (.seq (.region [⟨some 33, false, none, .faddr 2 (.t 1)⟩,
      ⟨some 34, true, none, .load false 1 (.u 33)⟩,
      ⟨some 35, true, none, .lenL (.t 34)⟩,
      ⟨some 36, true, none, .mov (.c (.int .i64 0))⟩])
   (.block 0 (.loop (.seq (.region [⟨some 37, true, none, .bin .lss (.t 36) (.t 35)⟩])
     (.seq (.cond (.t 37)
       (.skip)
       (.exit 0))
     (.seq (.block 1 (.seq (.region [⟨some 38, false, none, .mov (.t 36)⟩,
          ⟨some 39, false, none, .iaS 14 (.t 34) (.t 36)⟩,
          ⟨some 40, false, none, .load true 14 (.u 39)⟩,
          ⟨some 4, true, none, .zero [.int .i64 0, .int .i64 0, .int .i64 0, .int .i64 0, .int .i64 0, .int .i64 0, .int .i64 0, .int .i64 0, .int .i64 0, .int .i64 0, .str [], .str [], .fsl 1 0 [], .bool false]⟩,
          ⟨some 3, true, none, .mov (.u 38)⟩,
          ⟨none, true, none, .store 14 (.t 4) (.u 40)⟩])
       (.seq (.seq (.regionD [⟨0, [4], false, [], ⟨some 41, false, none, .faddr 0 (.t 4)⟩⟩,
           ⟨1, [41], true, [], ⟨some 42, false, none, .load false 1 (.u 41)⟩⟩,
           ⟨2, [1], false, [], ⟨some 43, false, none, .faddr 0 (.t 1)⟩⟩,
           ⟨3, [43], true, [], ⟨some 44, false, none, .load false 1 (.u 43)⟩⟩,
           ⟨4, [42, 44], false, [], ⟨some 45, false, none, .bin .geq (.u 42) (.u 44)⟩⟩,
           ⟨5, [45], false, [], ⟨some 46, false, none, .mov (.u 45)⟩⟩,
           ⟨6, [3, 46], false, [], ⟨some 47, false, some ((.u 46), false), .mov (.t 3)⟩⟩,
           ⟨7, [47, 46], false, [], ⟨some 48, false, some ((.u 46), false), .bin .gtr (.u 47) (.c (.int .i64 0))⟩⟩,
           ⟨8, [48, 46], false, [], ⟨some 49, false, some ((.u 46), false), .mov (.u 48)⟩⟩,
           ⟨9, [4, 49], false, [], ⟨some 50, false, some ((.u 49), true), .faddr 0 (.t 4)⟩⟩,
           ⟨10, [50, 49], true, [], ⟨some 51, false, some ((.u 49), true), .load false 1 (.u 50)⟩⟩,
           ⟨11, [1, 49], false, [], ⟨some 52, false, some ((.u 49), true), .faddr 2 (.t 1)⟩⟩,
           ⟨12, [52, 49], true, [], ⟨some 53, false, some ((.u 49), true), .load false 1 (.u 52)⟩⟩,
           ⟨13, [3, 49], false, [], ⟨some 54, false, some ((.u 49), true), .mov (.t 3)⟩⟩,
           ⟨14, [54, 49], false, [], ⟨some 55, false, some ((.u 49), true), .bin .sub (.u 54) (.c (.int .i64 1))⟩⟩,
           ⟨15, [53, 55, 49], false, [], ⟨some 56, false, some ((.u 49), true), .iaS 14 (.u 53) (.u 55)⟩⟩,
           ⟨16, [56, 49], false, [], ⟨some 57, false, some ((.u 49), true), .faddr 0 (.u 56)⟩⟩,
           ⟨17, [57, 49], true, [], ⟨some 58, false, some ((.u 49), true), .load false 1 (.u 57)⟩⟩,
           ⟨18, [51, 58, 49], false, [], ⟨some 59, false, some ((.u 49), true), .bin .leq (.u 51) (.u 58)⟩⟩,
           ⟨19, [49, 59, 46], false, [], ⟨some 60, false, some ((.u 46), false), .pick (.u 49) (.u 59) (.c (.bool false))⟩⟩,
           ⟨20, [46, 60], false, [], ⟨some 61, true, none, .pick (.u 46) (.c (.bool true)) (.u 60)⟩⟩])
        (.cond (.t 61)
         (.seq (.region [⟨some 2, true, none, .mov (.c (.bool false))⟩])
         (.ret))
         (.skip)))
       (.seq (.region [⟨some 62, false, none, .load true 3 (.t 1)⟩,
          ⟨some 63, false, none, .load true 14 (.t 4)⟩,
          ⟨some 64, false, none, .call 44 [(.u 62), (.u 63)]⟩,
          ⟨some 65, false, none, .un .not (.u 64)⟩,
          ⟨some 66, false, none, .mov (.u 65)⟩,
          ⟨some 67, false, some ((.u 66), false), .load true 3 (.t 1)⟩,
          ⟨some 68, false, some ((.u 66), false), .load true 14 (.t 4)⟩,
          ⟨some 69, false, some ((.u 66), false), .call 45 [(.u 67), (.u 68)]⟩,
          ⟨some 70, false, some ((.u 66), false), .un .not (.u 69)⟩,
          ⟨some 71, false, none, .pick (.u 66) (.c (.bool true)) (.u 70)⟩,
          ⟨some 72, false, none, .mov (.u 71)⟩,
          ⟨some 73, false, some ((.u 72), false), .faddr 12 (.t 4)⟩,
          ⟨some 74, false, some ((.u 72), false), .load false 1 (.u 73)⟩,
          ⟨some 75, false, some ((.u 72), false), .call 46 [(.u 74)]⟩,
          ⟨some 76, false, some ((.u 72), false), .un .not (.u 75)⟩,
          ⟨some 77, true, none, .pick (.u 72) (.c (.bool true)) (.u 76)⟩])
       (.cond (.t 77)
        (.seq (.region [⟨some 2, true, none, .mov (.c (.bool false))⟩])
        (.ret))
        (.skip))))))
     (.region [⟨some 78, false, none, .bin .add (.t 36) (.c (.int .i64 1))⟩,
       ⟨some 36, true, none, .mov (.u 78)⟩])))))))
  (.seq (.region [⟨some 2, true, none, .mov (.c (.bool true))⟩])
  (.ret)))))
def r23 : List LRes := [.slot 2]
theorem t23 : (Try.f23.body.bind (trCode v23 Try.prog Try.f23.ntmps)) = some c23 ∧ trRes v23 Try.prog Try.f23.results.toList = some r23 := ⟨by kernel_rfl, by kernel_rfl⟩

def v24 : Nat → Bool := fun t => [0, 1, 3, 4, 13].contains t
def c24 : LCode :=
  .seq (.region [⟨some 3, true, none, .box (.t 1)⟩,
     ⟨some 4, true, none, .mov (.c (.int .i64 0))⟩])
  (.seq (.seq (.region [⟨some 5, false, none, .faddr 2 (.t 3)⟩,
      ⟨some 6, false, none, .load false 1 (.u 5)⟩,
      ⟨some 7, false, none, .lenL (.u 6)⟩,
      ⟨some 8, false, none, .bin .eql (.u 7) (.c (.int .i64 0))⟩,
      ⟨some 9, false, none, .mov (.u 8)⟩,
      ⟨some 10, false, some ((.u 9), false), .mov (.t 0)⟩,
      ⟨some 11, false, some ((.u 9), false), .call 17 [(.u 10), (.c (.int .i64 24))]⟩,
      ⟨some 12, false, some ((.u 9), false), .bin .eql (.u 11) (.c (.int .i64 23))⟩,
      ⟨some 13, true, none, .pick (.u 9) (.c (.bool true)) (.u 12)⟩])
   (.cond (.t 13)
    (.seq (.region [⟨some 14, false, none, .mov (.t 0)⟩,
       ⟨some 15, false, none, .call 47 [(.u 14), (.c (.int .i64 0)), (.c (.int .i64 9))]⟩,
       ⟨some 4, true, none, .mov (.u 15)⟩])
    (.ret))
    (.skip)))
  (.seq (.regionD [⟨0, [3], false, [], ⟨some 16, false, none, .faddr 2 (.t 3)⟩⟩,
     ⟨1, [16], true, [], ⟨some 17, false, none, .load false 1 (.u 16)⟩⟩,
     ⟨2, [0], false, [], ⟨some 18, false, none, .mov (.t 0)⟩⟩,
     ⟨3, [3], false, [], ⟨some 19, false, none, .faddr 2 (.t 3)⟩⟩,
     ⟨4, [19], true, [], ⟨some 20, false, none, .load false 1 (.u 19)⟩⟩,
     ⟨5, [20], false, [], ⟨some 21, false, none, .lenL (.u 20)⟩⟩,
     ⟨6, [18, 21], false, [1], ⟨some 22, false, none, .call 17 [(.u 18), (.u 21)]⟩⟩,
     ⟨7, [17, 22], false, [], ⟨some 23, false, none, .iaS 14 (.u 17) (.u 22)⟩⟩,
     ⟨8, [23], false, [], ⟨some 24, false, none, .faddr 0 (.u 23)⟩⟩,
     ⟨9, [24], true, [], ⟨some 25, false, none, .load false 1 (.u 24)⟩⟩,
     ⟨10, [25], false, [], ⟨some 4, true, none, .mov (.u 25)⟩⟩])
  (.ret)))
def r24 : List LRes := [.slot 4]
theorem t24 : (Try.f24.body.bind (trCode v24 Try.prog Try.f24.ntmps)) = some c24 ∧ trRes v24 Try.prog Try.f24.results.toList = some r24 := ⟨by kernel_rfl, by kernel_rfl⟩

def v25 : Nat → Bool := fun t => [0, 1, 2, 3, 4, 5].contains t
def c25 : LCode :=
  .seq (.region [⟨some 2, true, none, .box (.t 0)⟩,
     ⟨some 3, true, none, .box (.t 1)⟩,
     ⟨some 4, true, none, .zero [.int .i64 0, .int .i64 0, .fsl 1 0 []]⟩,
     ⟨some 5, true, none, .mov (.c (.int .i64 0))⟩])
  (.seq (.region [⟨some 6, false, none, .load true 3 (.t 2)⟩,
     ⟨some 7, false, none, .load false 1 (.t 3)⟩,
     ⟨some 8, false, none, .mkf 48 [(.t 3)]⟩,
     ⟨some 9, false, none, .call 30 [(.u 6), (.u 7), (.u 8)]⟩,
     ⟨some 10, false, none, .ext (.u 9) 0⟩,
     ⟨some 11, false, none, .ext (.u 9) 1⟩,
     ⟨none, true, none, .store 3 (.t 4) (.u 10)⟩,
     ⟨some 5, true, none, .mov (.u 11)⟩])
  (.ret))
def r25 : List LRes := [.cell true 3 4, .slot 5]
theorem t25 : (Try.f25.body.bind (trCode v25 Try.prog Try.f25.ntmps)) = some c25 ∧ trRes v25 Try.prog Try.f25.results.toList = some r25 := ⟨by kernel_rfl, by kernel_rfl⟩

def v26 : Nat → Bool := fun t => [0, 1, 2, 4, 5, 6, 11, 21].contains t
def c26 : LCode :=
  .seq (.region [⟨some 2, true, none, .box (.t 0)⟩,
     ⟨some 4, true, none, .zero [.int .i64 0, .int .i64 0, .int .i64 0, .int .i64 0, .int .i64 0, .int .i64 0, .int .i64 0, .int .i64 0, .int .i64 0, .int .i64 0, .str [], .str [], .fsl 1 0 [], .bool false]⟩,
     ⟨some 5, true, none, .mov (.c (.bool false))⟩])
  (.seq (.seq (.region [⟨some 6, true, none, .mov (.c (.int .i64 0))⟩])
   (.block 0 (.loop (.seq (.seq (.region [⟨some 7, false, none, .mov (.t 6)⟩,
         ⟨some 8, false, none, .faddr 2 (.t 2)⟩,
         ⟨some 9, false, none, .load false 1 (.u 8)⟩,
         ⟨some 10, false, none, .lenL (.u 9)⟩,
         ⟨some 11, true, none, .bin .lss (.u 7) (.u 10)⟩])
      (.cond (.t 11)
       (.skip)
       (.exit 0)))
     (.seq (.block 1 (.seq (.region [⟨some 14, false, none, .faddr 2 (.t 2)⟩,
          ⟨some 15, false, none, .load false 1 (.u 14)⟩,
          ⟨some 16, false, none, .mov (.t 6)⟩,
          ⟨some 17, false, none, .iaS 14 (.u 15) (.u 16)⟩,
          ⟨some 18, false, none, .faddr 0 (.u 17)⟩,
          ⟨some 19, false, none, .load false 1 (.u 18)⟩,
          ⟨some 20, false, none, .mov (.t 1)⟩,
          ⟨some 21, true, none, .bin .eql (.u 19) (.u 20)⟩])
       (.cond (.t 21)
        (.seq (.region [⟨some 22, false, none, .faddr 2 (.t 2)⟩,
           ⟨some 23, false, none, .load false 1 (.u 22)⟩,
           ⟨some 24, false, none, .mov (.t 6)⟩,
           ⟨some 25, false, none, .iaS 14 (.u 23) (.u 24)⟩,
           ⟨some 26, false, none, .load true 14 (.u 25)⟩,
           ⟨some 27, false, none, .call 33 [(.u 26)]⟩,
           ⟨none, true, none, .store 14 (.t 4) (.u 27)⟩,
           ⟨some 5, true, none, .mov (.c (.bool true))⟩])
        (.ret))
        (.skip))))
     (.region [⟨some 12, false, none, .mov (.t 6)⟩,
       ⟨some 13, false, none, .bin .add (.u 12) (.c (.int .i64 1))⟩,
       ⟨some 6, true, none, .mov (.u 13)⟩]))))))
  (.seq (.region [⟨some 28, false, none, .build [.int .i64 0, .int .i64 0, .int .i64 0, .int .i64 0, .int .i64 0, .int .i64 0, .int .i64 0, .int .i64 0, .int .i64 0, .int .i64 0, .str [], .str [], .fsl 1 0 [], .bool false] []⟩,
     ⟨none, true, none, .store 14 (.t 4) (.u 28)⟩,
     ⟨some 5, true, none, .mov (.c (.bool false))⟩])
  (.ret)))
def r26 : List LRes := [.cell true 14 4, .slot 5]
theorem t26 : (Try.f26.body.bind (trCode v26 Try.prog Try.f26.ntmps)) = some c26 ∧ trRes v26 Try.prog Try.f26.results.toList = some r26 := ⟨by kernel_rfl, by kernel_rfl⟩

def v27 : Nat → Bool := fun t => [0, 1, 2, 3, 33, 38, 44].contains t
def c27 : LCode :=
  .seq (.region [⟨some 1, true, none, .box (.t 0)⟩,
     ⟨some 2, true, none, .mov (.c (.bool false))⟩])
  (.seq (.seq (.region [⟨some 4, false, none, .faddr 0 (.t 1)⟩,
      ⟨some 5, false, none, .load false 1 (.u 4)⟩,
      ⟨some 6, false, none, .bin .lss (.u 5) (.c (.int .i64 1))⟩,
      ⟨some 7, false, none, .mov (.u 6)⟩,
      ⟨some 8, false, some ((.u 7), false), .faddr 0 (.t 1)⟩,
      ⟨some 9, false, some ((.u 7), false), .load false 1 (.u 8)⟩,
      ⟨some 10, false, some ((.u 7), false), .bin .gtr (.u 9) (.c (.int .i64 1073741824))⟩,
      ⟨some 11, false, none, .pick (.u 7) (.c (.bool true)) (.u 10)⟩,
      ⟨some 12, false, none, .mov (.u 11)⟩,
      ⟨some 13, false, some ((.u 12), false), .faddr 1 (.t 1)⟩,
      ⟨some 14, false, some ((.u 12), false), .load false 1 (.u 13)⟩,
      ⟨some 15, false, some ((.u 12), false), .bin .lss (.u 14) (.c (.int .i64 1))⟩,
      ⟨some 16, false, none, .pick (.u 12) (.c (.bool true)) (.u 15)⟩,
      ⟨some 17, false, none, .mov (.u 16)⟩,
      ⟨some 18, false, some ((.u 17), false), .faddr 1 (.t 1)⟩,
      ⟨some 19, false, some ((.u 17), false), .load false 1 (.u 18)⟩,
      ⟨some 20, false, some ((.u 17), false), .bin .gtr (.u 19) (.c (.int .i64 1073741824))⟩,
      ⟨some 21, false, none, .pick (.u 17) (.c (.bool true)) (.u 20)⟩,
      ⟨some 22, false, none, .mov (.u 21)⟩,
      ⟨some 23, false, some ((.u 22), false), .faddr 2 (.t 1)⟩,
      ⟨some 24, false, some ((.u 22), false), .load false 1 (.u 23)⟩,
      ⟨some 25, false, some ((.u 22), false), .lenL (.u 24)⟩,
      ⟨some 26, false, some ((.u 22), false), .bin .lss (.u 25) (.c (.int .i64 1))⟩,
      ⟨some 27, false, none, .pick (.u 22) (.c (.bool true)) (.u 26)⟩,
      ⟨some 28, false, none, .mov (.u 27)⟩,
      ⟨some 29, false, some ((.u 28), false), .faddr 2 (.t 1)⟩,
      ⟨some 30, false, some ((.u 28), false), .load false 1 (.u 29)⟩,
      ⟨some 31, false, some ((.u 28), false), .lenL (.u 30)⟩,
      ⟨some 32, false, some ((.u 28), false), .bin .gtr (.u 31) (.c (.int .i64 16))⟩,
      ⟨some 33, true, none, .pick (.u 28) (.c (.bool true)) (.u 32)⟩])
   (.cond (.t 33)
    (.seq (.region [⟨some 2, true, none, .mov (.c (.bool false))⟩])
    (.ret))
    (.skip)))
  (.seq (.seq (.region [⟨some 3, true, none, .mov (.c (.int .i64 0))⟩])
   (.block 0 (.loop (.seq (.seq (.region [⟨some 34, false, none, .mov (.t 3)⟩,
         ⟨some 35, false, none, .faddr 2 (.t 1)⟩,
         ⟨some 36, false, none, .load false 1 (.u 35)⟩,
         ⟨some 37, false, none, .lenL (.u 36)⟩,
         ⟨some 38, true, none, .bin .lss (.u 34) (.u 37)⟩])
      (.cond (.t 38)
       (.skip)
       (.exit 0)))
     (.seq (.block 1 (.seq (.region [⟨some 41, false, none, .load true 3 (.t 1)⟩,
          ⟨some 42, false, none, .mov (.t 3)⟩,
          ⟨some 43, false, none, .call 50 [(.u 41), (.u 42)]⟩,
          ⟨some 44, true, none, .un .not (.u 43)⟩])
       (.cond (.t 44)
        (.seq (.region [⟨some 2, true, none, .mov (.c (.bool false))⟩])
        (.ret))
        (.skip))))
     (.region [⟨some 39, false, none, .mov (.t 3)⟩,
       ⟨some 40, false, none, .bin .add (.u 39) (.c (.int .i64 1))⟩,
       ⟨some 3, true, none, .mov (.u 40)⟩]))))))
  (.seq (.region [⟨some 2, true, none, .mov (.c (.bool true))⟩])
  (.ret))))
def r27 : List LRes := [.slot 2]
theorem t27 : (Try.f27.body.bind (trCode v27 Try.prog Try.f27.ntmps)) = some c27 ∧ trRes v27 Try.prog Try.f27.results.toList = some r27 := ⟨by kernel_rfl, by kernel_rfl⟩

def v28 : Nat → Bool := fun t => [0, 1, 2, 3, 5, 6, 7].contains t
def c28 : LCode :=
  .seq (.region [⟨some 3, true, none, .box (.t 0)⟩,
     ⟨some 5, true, none, .box (.t 2)⟩,
     ⟨some 6, true, none, .zero [.int .i64 0, .int .i64 0, .fsl 1 0 []]⟩,
     ⟨some 7, true, none, .mov (.c (.int .i64 0))⟩])
  (.seq (.region [⟨some 8, false, none, .load true 3 (.t 3)⟩,
     ⟨some 9, false, none, .mov (.t 1)⟩,
     ⟨some 10, false, none, .mkf 51 [(.t 5)]⟩,
     ⟨some 11, false, none, .call 30 [(.u 8), (.u 9), (.u 10)]⟩,
     ⟨some 12, false, none, .ext (.u 11) 0⟩,
     ⟨some 13, false, none, .ext (.u 11) 1⟩,
     ⟨none, true, none, .store 3 (.t 6) (.u 12)⟩,
     ⟨some 7, true, none, .mov (.u 13)⟩])
  (.ret))
def r28 : List LRes := [.cell true 3 6, .slot 7]
theorem t28 : (Try.f28.body.bind (trCode v28 Try.prog Try.f28.ntmps)) = some c28 ∧ trRes v28 Try.prog Try.f28.results.toList = some r28 := ⟨by kernel_rfl, by kernel_rfl⟩

def v29 : Nat → Bool := fun t => [0, 1, 2, 3, 4, 6, 7, 8, 9, 10, 11, 12, 21].contains t
def c29 : LCode :=
  .seq (.region [⟨some 4, true, none, .box (.t 0)⟩,
     ⟨some 6, true, none, .box (.t 2)⟩,
     ⟨some 7, true, none, .box (.t 3)⟩,
     ⟨some 8, true, none, .zero [.int .i64 0, .int .i64 0, .fsl 1 0 []]⟩,
     ⟨some 9, true, none, .mov (.c (.int .i64 0))⟩,
     ⟨some 10, true, none, .mov (.c (.int .i64 0))⟩])
  (.seq (.region [⟨some 11, true, none, .zero [.int .i64 0]⟩,
     ⟨none, true, none, .store 1 (.t 11) (.c (.int .i64 0))⟩])
  (.seq (.region [⟨some 14, false, none, .load true 3 (.t 4)⟩,
     ⟨some 15, false, none, .mov (.t 1)⟩,
     ⟨some 16, false, none, .mkf 55 [(.t 11), (.t 6), (.t 7)]⟩,
     ⟨some 17, false, none, .call 30 [(.u 14), (.u 15), (.u 16)]⟩,
     ⟨some 13, false, none, .mov (.u 17)⟩,
     ⟨some 18, false, none, .ext (.u 13) 0⟩,
     ⟨some 19, false, none, .ext (.u 13) 1⟩,
     ⟨none, true, none, .store 3 (.t 4) (.u 18)⟩,
     ⟨some 12, true, none, .mov (.u 19)⟩])
  (.seq (.seq (.region [⟨some 20, false, none, .mov (.t 12)⟩,
      ⟨some 21, true, none, .bin .neq (.u 20) (.c (.int .i64 0))⟩])
   (.cond (.t 21)
    (.seq (.region [⟨some 22, false, none, .build [.int .i64 0, .int .i64 0, .fsl 1 0 []] []⟩,
       ⟨some 23, false, none, .mov (.t 12)⟩,
       ⟨none, true, none, .store 3 (.t 8) (.u 22)⟩,
       ⟨some 9, true, none, .mov (.c (.int .i64 0))⟩,
       ⟨some 10, true, none, .mov (.u 23)⟩])
    (.ret))
    (.skip)))
  (.seq (.regionD [⟨0, [4], true, [], ⟨some 24, false, none, .load true 3 (.t 4)⟩⟩,
     ⟨1, [11], true, [], ⟨some 25, false, none, .load false 1 (.t 11)⟩⟩,
     ⟨2, [8, 24], false, [1], ⟨none, true, none, .store 3 (.t 8) (.u 24)⟩⟩,
     ⟨3, [25], false, [], ⟨some 9, true, none, .mov (.u 25)⟩⟩,
     ⟨4, [], false, [], ⟨some 10, true, none, .mov (.c (.int .i64 0))⟩⟩])
  (.ret)))))
def r29 : List LRes := [.cell true 3 8, .slot 9, .slot 10]
theorem t29 : (Try.f29.body.bind (trCode v29 Try.prog Try.f29.ntmps)) = some c29 ∧ trRes v29 Try.prog Try.f29.results.toList = some r29 := ⟨by kernel_rfl, by kernel_rfl⟩

def v30 : Nat → Bool := fun t => [0, 1, 2, 3, 6, 7, 8, 9, 14, 25].contains t
def c30 : LCode :=
  .seq (.region [⟨some 3, true, none, .box (.t 0)⟩,
     ⟨some 6, true, none, .zero [.int .i64 0, .int .i64 0, .fsl 1 0 []]⟩,
     ⟨some 7, true, none, .mov (.c (.int .i64 0))⟩])
  (.seq (.region [⟨some 10, false, none, .load true 3 (.t 3)⟩,
     ⟨some 11, false, none, .mov (.t 1)⟩,
     ⟨some 12, false, none, .call 36 [(.u 10), (.u 11)]⟩,
     ⟨some 8, true, none, .mov (.u 12)⟩])
  (.seq (.seq (.region [⟨some 13, false, none, .mov (.t 8)⟩,
      ⟨some 14, true, none, .bin .lss (.u 13) (.c (.int .i64 0))⟩])
   (.cond (.t 14)
    (.seq (.region [⟨some 15, false, none, .build [.int .i64 0, .int .i64 0, .fsl 1 0 []] []⟩,
       ⟨none, true, none, .store 3 (.t 6) (.u 15)⟩,
       ⟨some 7, true, none, .mov (.c (.int .i64 3))⟩])
    (.ret))
    (.skip)))
  (.seq (.region [⟨some 16, false, none, .load true 3 (.t 3)⟩,
     ⟨some 17, false, none, .call 57 [(.u 16)]⟩,
     ⟨none, true, none, .store 3 (.t 3) (.u 17)⟩])
  (.seq (.seq (.region [⟨some 18, false, none, .mov (.t 2)⟩,
      ⟨some 19, false, none, .faddr 2 (.t 3)⟩,
      ⟨some 20, false, none, .load false 1 (.u 19)⟩,
      ⟨some 21, false, none, .mov (.t 8)⟩,
      ⟨some 22, false, none, .iaS 14 (.u 20) (.u 21)⟩,
      ⟨some 23, false, none, .callV (.u 18) [(.t 3), (.u 22)]⟩,
      ⟨some 9, true, none, .mov (.u 23)⟩])
   (.seq (.region [⟨some 24, false, none, .mov (.t 9)⟩,
      ⟨some 25, true, none, .bin .neq (.u 24) (.c (.int .i64 0))⟩])
   (.cond (.t 25)
    (.seq (.region [⟨some 26, false, none, .build [.int .i64 0, .int .i64 0, .fsl 1 0 []] []⟩,
       ⟨some 27, false, none, .mov (.t 9)⟩,
       ⟨none, true, none, .store 3 (.t 6) (.u 26)⟩,
       ⟨some 7, true, none, .mov (.u 27)⟩])
    (.ret))
    (.skip))))
  (.seq (.region [⟨some 28, false, none, .load true 3 (.t 3)⟩,
     ⟨none, true, none, .store 3 (.t 6) (.u 28)⟩,
     ⟨some 7, true, none, .mov (.c (.int .i64 0))⟩])
  (.ret))))))
def r30 : List LRes := [.cell true 3 6, .slot 7]
theorem t30 : (Try.f30.body.bind (trCode v30 Try.prog Try.f30.ntmps)) = some c30 ∧ trRes v30 Try.prog Try.f30.results.toList = some r30 := ⟨by kernel_rfl, by kernel_rfl⟩

def v31 : Nat → Bool := fun t => [0, 1, 2, 3, 6, 7, 20].contains t
def c31 : LCode :=
  .seq (.region [⟨some 6, true, none, .mov (.c (.int .i64 0))⟩])
  (.seq (.seq (.region [⟨some 8, false, none, .mov (.t 0)⟩,
      ⟨some 9, false, none, .nilc (.u 8)⟩,
      ⟨some 10, false, none, .faddr 2 (.u 9)⟩,
      ⟨some 11, false, none, .load false 1 (.u 10)⟩,
      ⟨some 12, false, none, .lenL (.u 11)⟩,
      ⟨some 13, false, none, .bin .geq (.u 12) (.c (.int .i64 16))⟩,
      ⟨some 14, false, none, .mov (.u 13)⟩,
      ⟨some 15, false, some ((.u 14), false), .mov (.t 0)⟩,
      ⟨some 16, false, some ((.u 14), false), .nilc (.u 15)⟩,
      ⟨some 17, false, some ((.u 14), false), .faddr 0 (.u 16)⟩,
      ⟨some 18, false, some ((.u 14), false), .load false 1 (.u 17)⟩,
      ⟨some 19, false, some ((.u 14), false), .bin .geq (.u 18) (.c (.int .i64 1073741824))⟩,
      ⟨some 20, true, none, .pick (.u 14) (.c (.bool true)) (.u 19)⟩])
   (.cond (.t 20)
    (.seq (.region [⟨some 6, true, none, .mov (.c (.int .i64 11))⟩])
    (.ret))
    (.skip)))
  (.seq (.region [⟨some 21, false, none, .mov (.t 1)⟩,
     ⟨some 22, false, none, .nilc (.u 21)⟩,
     ⟨some 23, false, none, .load true 14 (.u 22)⟩,
     ⟨some 24, false, none, .call 32 [(.u 23)]⟩,
     ⟨some 7, true, none, .zero [.int .i64 0, .int .i64 0, .int .i64 0, .int .i64 0, .int .i64 0, .int .i64 0, .int .i64 0, .int .i64 0, .int .i64 0, .int .i64 0, .str [], .str [], .fsl 1 0 [], .bool false]⟩,
     ⟨none, true, none, .store 14 (.t 7) (.u 24)⟩])
  (.seq (.regionD [⟨0, [2], true, [], ⟨some 25, false, none, .load false 1 (.t 2)⟩⟩,
     ⟨1, [3], true, [], ⟨some 26, false, none, .load false 1 (.t 3)⟩⟩,
     ⟨2, [7], false, [], ⟨some 27, false, none, .faddr 0 (.t 7)⟩⟩,
     ⟨3, [27, 25], false, [1], ⟨none, true, none, .store 1 (.u 27) (.u 25)⟩⟩,
     ⟨4, [7], false, [], ⟨some 28, false, none, .faddr 1 (.t 7)⟩⟩,
     ⟨5, [28, 26], false, [], ⟨none, true, none, .store 1 (.u 28) (.u 26)⟩⟩])
  (.seq (.regionD [⟨0, [0], false, [], ⟨some 29, false, none, .mov (.t 0)⟩⟩,
     ⟨1, [0], false, [], ⟨some 30, false, none, .mov (.t 0)⟩⟩,
     ⟨2, [30], false, [], ⟨some 31, false, none, .nilc (.u 30)⟩⟩,
     ⟨3, [31], false, [], ⟨some 32, false, none, .faddr 2 (.u 31)⟩⟩,
     ⟨4, [32], true, [], ⟨some 33, false, none, .load false 1 (.u 32)⟩⟩,
     ⟨5, [7], true, [], ⟨some 34, false, none, .load true 14 (.t 7)⟩⟩,
     ⟨6, [34], false, [], ⟨some 35, false, none, .mkS 14 1 [.int .i64 0, .int .i64 0, .int .i64 0, .int .i64 0, .int .i64 0, .int .i64 0, .int .i64 0, .int .i64 0, .int .i64 0, .int .i64 0, .str [], .str [], .fsl 1 0 [], .bool false] [(0, 14, (.u 34))]⟩⟩,
     ⟨7, [33, 35], false, [], ⟨some 36, false, none, .app 14 144 (.u 33) (.u 35)⟩⟩,
     ⟨8, [29], false, [], ⟨some 37, false, none, .nilc (.u 29)⟩⟩,
     ⟨9, [37], false, [], ⟨some 38, false, none, .faddr 2 (.u 37)⟩⟩,
     ⟨10, [38, 36], false, [], ⟨none, true, none, .store 1 (.u 38) (.u 36)⟩⟩])
  (.seq (.region [⟨some 39, false, none, .mov (.t 0)⟩,
     ⟨some 40, false, none, .nilc (.u 39)⟩,
     ⟨some 41, false, none, .faddr 0 (.u 40)⟩,
     ⟨some 42, false, none, .load false 1 (.u 41)⟩,
     ⟨some 43, false, none, .bin .add (.u 42) (.c (.int .i64 1))⟩,
     ⟨some 44, false, none, .nilc (.u 39)⟩,
     ⟨some 45, false, none, .faddr 0 (.u 44)⟩,
     ⟨none, true, none, .store 1 (.u 45) (.u 43)⟩])
  (.seq (.region [⟨some 6, true, none, .mov (.c (.int .i64 0))⟩])
  (.ret)))))))
def r31 : List LRes := [.slot 6]
theorem t31 : (Try.f31.body.bind (trCode v31 Try.prog Try.f31.ntmps)) = some c31 ∧ trRes v31 Try.prog Try.f31.results.toList = some r31 := ⟨by kernel_rfl, by kernel_rfl⟩

def v32 : Nat → Bool := fun t => [0, 1, 2].contains t
def c32 : LCode :=
  .seq (.region [⟨some 1, true, none, .box (.t 0)⟩,
     ⟨some 2, true, none, .zero [.int .i64 0, .int .i64 0, .int .i64 0, .int .i64 0, .int .i64 0, .int .i64 0, .int .i64 0, .int .i64 0, .int .i64 0, .int .i64 0, .str [], .str [], .fsl 1 0 [], .bool false]⟩])
  (.seq (.region [⟨some 3, false, none, .faddr 12 (.t 1)⟩,
     ⟨some 4, false, none, .load false 1 (.u 3)⟩,
     ⟨some 5, false, none, .call 58 [(.u 4), (.c (.fn 59))]⟩,
     ⟨some 6, false, none, .faddr 12 (.t 1)⟩,
     ⟨none, true, none, .store 1 (.u 6) (.u 5)⟩])
  (.seq (.region [⟨some 7, false, none, .load true 14 (.t 1)⟩,
     ⟨none, true, none, .store 14 (.t 2) (.u 7)⟩])
  (.ret)))
def r32 : List LRes := [.cell true 14 2]
theorem t32 : (Try.f32.body.bind (trCode v32 Try.prog Try.f32.ntmps)) = some c32 ∧ trRes v32 Try.prog Try.f32.results.toList = some r32 := ⟨by kernel_rfl, by kernel_rfl⟩

def v33 : Nat → Bool := fun t => [0, 1, 2].contains t
def c33 : LCode :=
  .seq (.region [⟨some 1, true, none, .box (.t 0)⟩,
     ⟨some 2, true, none, .zero [.int .i64 0, .int .i64 0, .int .i64 0, .int .i64 0, .int .i64 0, .int .i64 0, .int .i64 0, .int .i64 0, .int .i64 0, .int .i64 0, .str [], .str [], .fsl 1 0 [], .bool false]⟩])
  (.seq (.region [⟨some 3, false, none, .faddr 12 (.t 1)⟩,
     ⟨some 4, false, none, .load false 1 (.u 3)⟩,
     ⟨some 5, false, none, .app 4 32 (.c (.fsl 1 0 [])) (.u 4)⟩,
     ⟨some 6, false, none, .faddr 12 (.t 1)⟩,
     ⟨none, true, none, .store 1 (.u 6) (.u 5)⟩])
  (.seq (.region [⟨some 7, false, none, .load true 14 (.t 1)⟩,
     ⟨none, true, none, .store 14 (.t 2) (.u 7)⟩])
  (.ret)))
def r33 : List LRes := [.cell true 14 2]
theorem t33 : (Try.f33.body.bind (trCode v33 Try.prog Try.f33.ntmps)) = some c33 ∧ trRes v33 Try.prog Try.f33.results.toList = some r33 := ⟨by kernel_rfl, by kernel_rfl⟩

def v34 : Nat → Bool := fun t => [0, 1, 2, 5].contains t
def c34 : LCode :=
  .seq (.region [⟨some 5, true, none, .mov (.c (.int .i64 0))⟩])
  (.seq (.regionD [⟨0, [2], true, [], ⟨some 6, false, none, .load false 1 (.t 2)⟩⟩,
     ⟨1, [1], false, [], ⟨some 7, false, none, .mov (.t 1)⟩⟩,
     ⟨2, [7], false, [], ⟨some 8, false, none, .nilc (.u 7)⟩⟩,
     ⟨3, [8], false, [], ⟨some 9, false, none, .faddr 3 (.u 8)⟩⟩,
     ⟨4, [9], true, [], ⟨some 10, false, none, .load false 1 (.u 9)⟩⟩,
     ⟨5, [10], false, [], ⟨some 11, false, none, .bin .eql (.u 10) (.c (.int .i64 0))⟩⟩,
     ⟨6, [1], false, [], ⟨some 12, false, none, .mov (.t 1)⟩⟩,
     ⟨7, [12], false, [], ⟨some 13, false, none, .nilc (.u 12)⟩⟩,
     ⟨8, [13], false, [], ⟨some 14, false, none, .faddr 2 (.u 13)⟩⟩,
     ⟨9, [1], false, [], ⟨some 15, false, none, .mov (.t 1)⟩⟩,
     ⟨10, [15], false, [], ⟨some 16, false, none, .nilc (.u 15)⟩⟩,
     ⟨11, [16], false, [], ⟨some 17, false, none, .faddr 3 (.u 16)⟩⟩,
     ⟨12, [6, 11, 14, 17], false, [], ⟨some 18, false, none, .call 35 [(.u 6), (.u 11), (.u 14), (.u 17)]⟩⟩,
     ⟨13, [18], false, [], ⟨some 5, true, none, .mov (.u 18)⟩⟩])
  (.ret))
def r34 : List LRes := [.slot 5]
theorem t34 : (Try.f34.body.bind (trCode v34 Try.prog Try.f34.ntmps)) = some c34 ∧ trRes v34 Try.prog Try.f34.results.toList = some r34 := ⟨by kernel_rfl, by kernel_rfl⟩

def v35 : Nat → Bool := fun t => [0, 1, 2, 3, 8, 9, 13, 21].contains t
def c35 : LCode :=
  .seq (.region [⟨some 8, true, none, .mov (.c (.int .i64 0))⟩])
  (.seq (.block 0 (.seq (.region [⟨some 10, false, none, .mov (.t 0)⟩,
       ⟨some 11, false, none, .call 38 [(.u 10)]⟩,
       ⟨some 12, false, none, .un .not (.u 11)⟩,
       ⟨some 9, true, none, .mov (.u 12)⟩])
    (.cond (.t 9)
     (.seq (.region [⟨some 8, true, none, .mov (.c (.int .i64 22))⟩])
     (.ret))
     (.seq (.region [⟨some 14, false, none, .mov (.t 1)⟩,
        ⟨some 13, true, none, .mov (.u 14)⟩])
     (.cond (.t 13)
      (.region [⟨some 15, false, none, .mov (.t 2)⟩,
        ⟨some 16, false, none, .mov (.t 3)⟩,
        ⟨some 17, false, none, .mov (.t 0)⟩,
        ⟨some 18, false, none, .mov (.t 0)⟩,
        ⟨some 19, false, none, .nilc (.u 15)⟩,
        ⟨none, true, none, .store 1 (.u 19) (.u 17)⟩,
        ⟨some 20, false, none, .nilc (.u 16)⟩,
        ⟨none, true, none, .store 1 (.u 20) (.u 18)⟩])
      (.seq (.seq (.region [⟨some 22, false, none, .mov (.t 0)⟩,
          ⟨some 23, false, none, .mov (.t 2)⟩,
          ⟨some 24, false, none, .nilc (.u 23)⟩,
          ⟨some 25, false, none, .load false 1 (.u 24)⟩,
          ⟨some 26, false, none, .bin .eql (.u 22) (.u 25)⟩,
          ⟨some 21, true, none, .mov (.u 26)⟩])
       (.cond (.t 21)
        (.skip)
        (.region [⟨some 27, false, none, .mov (.t 0)⟩,
          ⟨some 28, false, none, .mov (.t 3)⟩,
          ⟨some 29, false, none, .nilc (.u 28)⟩,
          ⟨some 30, false, none, .load false 1 (.u 29)⟩,
          ⟨some 31, false, none, .bin .eql (.u 27) (.u 30)⟩,
          ⟨some 21, true, none, .mov (.u 31)⟩])))
      (.cond (.t 21)
       (.region [⟨some 32, false, none, .mov (.t 3)⟩,
         ⟨some 33, false, none, .mov (.t 0)⟩,
         ⟨some 34, false, none, .nilc (.u 32)⟩,
         ⟨none, true, none, .store 1 (.u 34) (.u 33)⟩])
       (.seq (.region [⟨some 8, true, none, .mov (.c (.int .i64 1))⟩])
       (.ret)))))))))
  (.seq (.region [⟨some 8, true, none, .mov (.c (.int .i64 0))⟩])
  (.ret)))
def r35 : List LRes := [.slot 8]
theorem t35 : (Try.f35.body.bind (trCode v35 Try.prog Try.f35.ntmps)) = some c35 ∧ trRes v35 Try.prog Try.f35.results.toList = some r35 := ⟨by kernel_rfl, by kernel_rfl⟩

def v36 : Nat → Bool := fun t => [0, 1, 2, 3, 4].contains t
def c36 : LCode :=
  .seq (.region [⟨some 2, true, none, .box (.t 0)⟩,
     ⟨some 3, true, none, .box (.t 1)⟩,
     ⟨some 4, true, none, .mov (.c (.int .i64 0))⟩])
  (.seq (.region [⟨some 5, false, none, .faddr 2 (.t 2)⟩,
     ⟨some 6, false, none, .load false 1 (.u 5)⟩,
     ⟨some 7, false, none, .mkf 61 [(.t 3)]⟩,
     ⟨some 8, false, none, .call 60 [(.u 6), (.u 7)]⟩,
     ⟨some 4, true, none, .mov (.u 8)⟩])
  (.ret))
def r36 : List LRes := [.slot 4]
theorem t36 : (Try.f36.body.bind (trCode v36 Try.prog Try.f36.ntmps)) = some c36 ∧ trRes v36 Try.prog Try.f36.results.toList = some r36 := ⟨by kernel_rfl, by kernel_rfl⟩

def v37 : Nat → Bool := fun t => [0, 1, 2, 5, 6, 10, 23].contains t
def c37 : LCode :=
  .seq (.region [⟨some 5, true, none, .mov (.c (.int .i64 0))⟩])
  (.seq (.block 0 (.seq (.region [⟨some 7, false, none, .load false 1 (.t 2)⟩,
       ⟨some 8, false, none, .call 38 [(.u 7)]⟩,
       ⟨some 9, false, none, .un .not (.u 8)⟩,
       ⟨some 6, true, none, .mov (.u 9)⟩])
    (.cond (.t 6)
     (.seq (.region [⟨some 5, true, none, .mov (.c (.int .i64 22))⟩])
     (.ret))
     (.seq (.region [⟨some 11, false, none, .mov (.t 1)⟩,
        ⟨some 12, false, none, .nilc (.u 11)⟩,
        ⟨some 13, false, none, .faddr 6 (.u 12)⟩,
        ⟨some 14, false, none, .load false 1 (.u 13)⟩,
        ⟨some 15, false, none, .bin .neq (.u 14) (.c (.int .i64 4294967295))⟩,
        ⟨some 16, false, none, .mov (.u 15)⟩,
        ⟨some 17, false, some ((.u 16), true), .mov (.t 1)⟩,
        ⟨some 18, false, some ((.u 16), true), .nilc (.u 17)⟩,
        ⟨some 19, false, some ((.u 16), true), .faddr 3 (.u 18)⟩,
        ⟨some 20, false, some ((.u 16), true), .load false 1 (.u 19)⟩,
        ⟨some 21, false, some ((.u 16), true), .bin .neq (.u 20) (.c (.int .i64 0))⟩,
        ⟨some 22, false, none, .pick (.u 16) (.u 21) (.c (.bool false))⟩,
        ⟨some 10, true, none, .mov (.u 22)⟩])
     (.cond (.t 10)
      (.seq (.region [⟨some 5, true, none, .mov (.c (.int .i64 1))⟩])
      (.ret))
      (.seq (.region [⟨some 24, false, none, .mov (.t 0)⟩,
         ⟨some 25, false, none, .nilc (.u 24)⟩,
         ⟨some 26, false, none, .faddr 1 (.u 25)⟩,
         ⟨some 27, false, none, .load false 1 (.u 26)⟩,
         ⟨some 28, false, none, .bin .geq (.u 27) (.c (.int .i64 1073741824))⟩,
         ⟨some 23, true, none, .mov (.u 28)⟩])
      (.cond (.t 23)
       (.seq (.region [⟨some 5, true, none, .mov (.c (.int .i64 11))⟩])
       (.ret))
       (.skip))))))))
  (.seq (.regionD [⟨0, [1], false, [], ⟨some 29, false, none, .mov (.t 1)⟩⟩,
     ⟨1, [1], false, [], ⟨some 30, false, none, .mov (.t 1)⟩⟩,
     ⟨2, [2], true, [], ⟨some 31, false, none, .load false 1 (.t 2)⟩⟩,
     ⟨3, [0], false, [], ⟨some 32, false, none, .mov (.t 0)⟩⟩,
     ⟨4, [32], false, [], ⟨some 33, false, none, .nilc (.u 32)⟩⟩,
     ⟨5, [33], false, [], ⟨some 34, false, none, .faddr 1 (.u 33)⟩⟩,
     ⟨6, [34], true, [], ⟨some 35, false, none, .load false 1 (.u 34)⟩⟩,
     ⟨7, [29], false, [], ⟨some 36, false, none, .nilc (.u 29)⟩⟩,
     ⟨8, [36], false, [], ⟨some 37, false, none, .faddr 6 (.u 36)⟩⟩,
     ⟨9, [37, 31], false, [], ⟨none, true, none, .store 1 (.u 37) (.u 31)⟩⟩,
     ⟨10, [30], false, [], ⟨some 38, false, none, .nilc (.u 30)⟩⟩,
     ⟨11, [38], false, [], ⟨some 39, false, none, .faddr 7 (.u 38)⟩⟩,
     ⟨12, [39, 35], false, [], ⟨none, true, none, .store 1 (.u 39) (.u 35)⟩⟩])
  (.seq (.region [⟨some 40, false, none, .mov (.t 0)⟩,
     ⟨some 41, false, none, .nilc (.u 40)⟩,
     ⟨some 42, false, none, .faddr 1 (.u 41)⟩,
     ⟨some 43, false, none, .load false 1 (.u 42)⟩,
     ⟨some 44, false, none, .bin .add (.u 43) (.c (.int .i64 1))⟩,
     ⟨some 45, false, none, .nilc (.u 40)⟩,
     ⟨some 46, false, none, .faddr 1 (.u 45)⟩,
     ⟨none, true, none, .store 1 (.u 46) (.u 44)⟩])
  (.seq (.region [⟨some 5, true, none, .mov (.c (.int .i64 0))⟩])
  (.ret)))))
def r37 : List LRes := [.slot 5]
theorem t37 : (Try.f37.body.bind (trCode v37 Try.prog Try.f37.ntmps)) = some c37 ∧ trRes v37 Try.prog Try.f37.results.toList = some r37 := ⟨by kernel_rfl, by kernel_rfl⟩

def v38 : Nat → Bool := fun t => [0, 2].contains t
def c38 : LCode :=
  .seq (.region [⟨some 2, true, none, .mov (.c (.bool false))⟩])
  (.seq (.region [⟨some 3, false, none, .mov (.t 0)⟩,
     ⟨some 4, false, none, .bin .geq (.u 3) (.c (.int .i64 0))⟩,
     ⟨some 5, false, none, .mov (.u 4)⟩,
     ⟨some 6, false, some ((.u 5), true), .mov (.t 0)⟩,
     ⟨some 7, false, some ((.u 5), true), .bin .lss (.u 6) (.c (.int .i64 4294967295))⟩,
     ⟨some 8, false, none, .pick (.u 5) (.u 7) (.c (.bool false))⟩,
     ⟨some 2, true, none, .mov (.u 8)⟩])
  (.ret))
def r38 : List LRes := [.slot 2]
theorem t38 : (Try.f38.body.bind (trCode v38 Try.prog Try.f38.ntmps)) = some c38 ∧ trRes v38 Try.prog Try.f38.results.toList = some r38 := ⟨by kernel_rfl, by kernel_rfl⟩

def v39 : Nat → Bool := fun t => [0, 1, 2, 5].contains t
def c39 : LCode :=
  .seq (.region [⟨some 5, true, none, .mov (.c (.int .i64 0))⟩])
  (.seq (.regionD [⟨0, [2], true, [], ⟨some 6, false, none, .load false 1 (.t 2)⟩⟩,
     ⟨1, [1], false, [], ⟨some 7, false, none, .mov (.t 1)⟩⟩,
     ⟨2, [7], false, [], ⟨some 8, false, none, .nilc (.u 7)⟩⟩,
     ⟨3, [8], false, [], ⟨some 9, false, none, .faddr 3 (.u 8)⟩⟩,
     ⟨4, [9], true, [], ⟨some 10, false, none, .load false 1 (.u 9)⟩⟩,
     ⟨5, [10], false, [], ⟨some 11, false, none, .bin .eql (.u 10) (.c (.int .i64 0))⟩⟩,
     ⟨6, [1], false, [], ⟨some 12, false, none, .mov (.t 1)⟩⟩,
     ⟨7, [12], false, [], ⟨some 13, false, none, .nilc (.u 12)⟩⟩,
     ⟨8, [13], false, [], ⟨some 14, false, none, .faddr 4 (.u 13)⟩⟩,
     ⟨9, [1], false, [], ⟨some 15, false, none, .mov (.t 1)⟩⟩,
     ⟨10, [15], false, [], ⟨some 16, false, none, .nilc (.u 15)⟩⟩,
     ⟨11, [16], false, [], ⟨some 17, false, none, .faddr 5 (.u 16)⟩⟩,
     ⟨12, [6, 11, 14, 17], false, [], ⟨some 18, false, none, .call 35 [(.u 6), (.u 11), (.u 14), (.u 17)]⟩⟩,
     ⟨13, [18], false, [], ⟨some 5, true, none, .mov (.u 18)⟩⟩])
  (.ret))
def r39 : List LRes := [.slot 5]
theorem t39 : (Try.f39.body.bind (trCode v39 Try.prog Try.f39.ntmps)) = some c39 ∧ trRes v39 Try.prog Try.f39.results.toList = some r39 := ⟨by kernel_rfl, by kernel_rfl⟩

def v40 : Nat → Bool := fun t => [0, 1, 2, 3, 6].contains t
def c40 : LCode :=
  .seq (.region [⟨some 6, true, none, .mov (.c (.int .i64 0))⟩])
  (.seq (.regionD [⟨0, [1], false, [], ⟨some 7, false, none, .mov (.t 1)⟩⟩,
     ⟨1, [1], false, [], ⟨some 8, false, none, .mov (.t 1)⟩⟩,
     ⟨2, [2], true, [], ⟨some 9, false, none, .load false 1 (.t 2)⟩⟩,
     ⟨3, [3], true, [], ⟨some 10, false, none, .load false 1 (.t 3)⟩⟩,
     ⟨4, [7], false, [], ⟨some 11, false, none, .nilc (.u 7)⟩⟩,
     ⟨5, [11], false, [], ⟨some 12, false, none, .faddr 11 (.u 11)⟩⟩,
     ⟨6, [12, 9], false, [3], ⟨none, true, none, .store 1 (.u 12) (.u 9)⟩⟩,
     ⟨7, [8], false, [], ⟨some 13, false, none, .nilc (.u 8)⟩⟩,
     ⟨8, [13], false, [], ⟨some 14, false, none, .faddr 10 (.u 13)⟩⟩,
     ⟨9, [14, 10], false, [], ⟨none, true, none, .store 1 (.u 14) (.u 10)⟩⟩])
  (.seq (.region [⟨some 6, true, none, .mov (.c (.int .i64 0))⟩])
  (.ret)))
def r40 : List LRes := [.slot 6]
theorem t40 : (Try.f40.body.bind (trCode v40 Try.prog Try.f40.ntmps)) = some c40 ∧ trRes v40 Try.prog Try.f40.results.toList = some r40 := ⟨by kernel_rfl, by kernel_rfl⟩

def v41 : Nat → Bool := fun t => [0, 1, 4].contains t
def c41 : LCode :=
  .seq (.region [⟨some 4, true, none, .mov (.c (.str []))⟩])
  (.seq (.region [⟨some 5, false, none, .mov (.t 1)⟩,
     ⟨some 6, false, none, .mov (.t 0)⟩,
     ⟨some 7, false, none, .mov (.t 1)⟩,
     ⟨some 8, false, none, .lenL (.u 7)⟩,
     ⟨some 9, false, none, .call 17 [(.u 6), (.u 8)]⟩,
     ⟨some 10, false, none, .iaS 1 (.u 5) (.u 9)⟩,
     ⟨some 11, false, none, .load false 1 (.u 10)⟩,
     ⟨some 4, true, none, .mov (.u 11)⟩])
  (.ret))
def r41 : List LRes := [.slot 4]
theorem t41 : (Try.f41.body.bind (trCode v41 Try.prog Try.f41.ntmps)) = some c41 ∧ trRes v41 Try.prog Try.f41.results.toList = some r41 := ⟨by kernel_rfl, by kernel_rfl⟩

def v42 : Nat → Bool := fun t => [0, 1, 2, 3, 4, 5, 96, 101, 114].contains t
def c42 : LCode :=
  .seq (.region [⟨some 2, true, none, .box (.t 0)⟩,
     ⟨some 3, true, none, .box (.t 1)⟩,
     ⟨some 4, true, none, .mov (.c (.bool false))⟩])
  (.seq (.seq (.region [⟨some 6, false, none, .faddr 0 (.t 2)⟩,
      ⟨some 7, false, none, .load false 1 (.u 6)⟩,
      ⟨some 8, false, none, .faddr 0 (.t 3)⟩,
      ⟨some 9, false, none, .load false 1 (.u 8)⟩,
      ⟨some 10, false, none, .bin .neq (.u 7) (.u 9)⟩,
      ⟨some 11, false, none, .mov (.u 10)⟩,
      ⟨some 12, false, some ((.u 11), false), .faddr 1 (.t 2)⟩,
      ⟨some 13, false, some ((.u 11), false), .load false 1 (.u 12)⟩,
      ⟨some 14, false, some ((.u 11), false), .faddr 1 (.t 3)⟩,
      ⟨some 15, false, some ((.u 11), false), .load false 1 (.u 14)⟩,
      ⟨some 16, false, some ((.u 11), false), .bin .neq (.u 13) (.u 15)⟩,
      ⟨some 17, false, none, .pick (.u 11) (.c (.bool true)) (.u 16)⟩,
      ⟨some 18, false, none, .mov (.u 17)⟩,
      ⟨some 19, false, some ((.u 18), false), .faddr 2 (.t 2)⟩,
      ⟨some 20, false, some ((.u 18), false), .load false 1 (.u 19)⟩,
      ⟨some 21, false, some ((.u 18), false), .faddr 2 (.t 3)⟩,
      ⟨some 22, false, some ((.u 18), false), .load false 1 (.u 21)⟩,
      ⟨some 23, false, some ((.u 18), false), .bin .neq (.u 20) (.u 22)⟩,
      ⟨some 24, false, none, .pick (.u 18) (.c (.bool true)) (.u 23)⟩,
      ⟨some 25, false, none, .mov (.u 24)⟩,
      ⟨some 26, false, some ((.u 25), false), .faddr 3 (.t 2)⟩,
      ⟨some 27, false, some ((.u 25), false), .load false 1 (.u 26)⟩,
      ⟨some 28, false, some ((.u 25), false), .faddr 3 (.t 3)⟩,
      ⟨some 29, false, some ((.u 25), false), .load false 1 (.u 28)⟩,
      ⟨some 30, false, some ((.u 25), false), .bin .neq (.u 27) (.u 29)⟩,
      ⟨some 31, false, none, .pick (.u 25) (.c (.bool true)) (.u 30)⟩,
      ⟨some 32, false, none, .mov (.u 31)⟩,
      ⟨some 33, false, some ((.u 32), false), .faddr 4 (.t 2)⟩,
      ⟨some 34, false, some ((.u 32), false), .load false 1 (.u 33)⟩,
      ⟨some 35, false, some ((.u 32), false), .faddr 4 (.t 3)⟩,
      ⟨some 36, false, some ((.u 32), false), .load false 1 (.u 35)⟩,
      ⟨some 37, false, some ((.u 32), false), .bin .neq (.u 34) (.u 36)⟩,
      ⟨some 38, false, none, .pick (.u 32) (.c (.bool true)) (.u 37)⟩,
      ⟨some 39, false, none, .mov (.u 38)⟩,
      ⟨some 40, false, some ((.u 39), false), .faddr 5 (.t 2)⟩,
      ⟨some 41, false, some ((.u 39), false), .load false 1 (.u 40)⟩,
      ⟨some 42, false, some ((.u 39), false), .faddr 5 (.t 3)⟩,
      ⟨some 43, false, some ((.u 39), false), .load false 1 (.u 42)⟩,
      ⟨some 44, false, some ((.u 39), false), .bin .neq (.u 41) (.u 43)⟩,
      ⟨some 45, false, none, .pick (.u 39) (.c (.bool true)) (.u 44)⟩,
      ⟨some 46, false, none, .mov (.u 45)⟩,
      ⟨some 47, false, some ((.u 46), false), .faddr 6 (.t 2)⟩,
      ⟨some 48, false, some ((.u 46), false), .load false 1 (.u 47)⟩,
      ⟨some 49, false, some ((.u 46), false), .faddr 6 (.t 3)⟩,
      ⟨some 50, false, some ((.u 46), false), .load false 1 (.u 49)⟩,
      ⟨some 51, false, some ((.u 46), false), .bin .neq (.u 48) (.u 50)⟩,
      ⟨some 52, false, none, .pick (.u 46) (.c (.bool true)) (.u 51)⟩,
      ⟨some 53, false, none, .mov (.u 52)⟩,
      ⟨some 54, false, some ((.u 53), false), .faddr 7 (.t 2)⟩,
      ⟨some 55, false, some ((.u 53), false), .load false 1 (.u 54)⟩,
      ⟨some 56, false, some ((.u 53), false), .faddr 7 (.t 3)⟩,
      ⟨some 57, false, some ((.u 53), false), .load false 1 (.u 56)⟩,
      ⟨some 58, false, some ((.u 53), false), .bin .neq (.u 55) (.u 57)⟩,
      ⟨some 59, false, none, .pick (.u 53) (.c (.bool true)) (.u 58)⟩,
      ⟨some 60, false, none, .mov (.u 59)⟩,
      ⟨some 61, false, some ((.u 60), false), .faddr 8 (.t 2)⟩,
      ⟨some 62, false, some ((.u 60), false), .load true 2 (.u 61)⟩,
      ⟨some 63, false, some ((.u 60), false), .faddr 8 (.t 3)⟩,
      ⟨some 64, false, some ((.u 60), false), .load true 2 (.u 63)⟩,
      ⟨some 65, false, some ((.u 60), false), .eqS true 2 [(0, 1), (1, 1)] (.u 62) (.u 64)⟩,
      ⟨some 66, false, none, .pick (.u 60) (.c (.bool true)) (.u 65)⟩,
      ⟨some 67, false, none, .mov (.u 66)⟩,
      ⟨some 68, false, some ((.u 67), false), .faddr 10 (.t 2)⟩,
      ⟨some 69, false, some ((.u 67), false), .load false 1 (.u 68)⟩,
      ⟨some 70, false, some ((.u 67), false), .faddr 10 (.t 3)⟩,
      ⟨some 71, false, some ((.u 67), false), .load false 1 (.u 70)⟩,
      ⟨some 72, false, some ((.u 67), false), .bin .neq (.u 69) (.u 71)⟩,
      ⟨some 73, false, none, .pick (.u 67) (.c (.bool true)) (.u 72)⟩,
      ⟨some 74, false, none, .mov (.u 73)⟩,
      ⟨some 75, false, some ((.u 74), false), .faddr 11 (.t 2)⟩,
      ⟨some 76, false, some ((.u 74), false), .load false 1 (.u 75)⟩,
      ⟨some 77, false, some ((.u 74), false), .faddr 11 (.t 3)⟩,
      ⟨some 78, false, some ((.u 74), false), .load false 1 (.u 77)⟩,
      ⟨some 79, false, some ((.u 74), false), .bin .neq (.u 76) (.u 78)⟩,
      ⟨some 80, false, none, .pick (.u 74) (.c (.bool true)) (.u 79)⟩,
      ⟨some 81, false, none, .mov (.u 80)⟩,
      ⟨some 82, false, some ((.u 81), false), .faddr 13 (.t 2)⟩,
      ⟨some 83, false, some ((.u 81), false), .load false 1 (.u 82)⟩,
      ⟨some 84, false, some ((.u 81), false), .faddr 13 (.t 3)⟩,
      ⟨some 85, false, some ((.u 81), false), .load false 1 (.u 84)⟩,
      ⟨some 86, false, some ((.u 81), false), .eqB true (.u 83) (.u 85)⟩,
      ⟨some 87, false, none, .pick (.u 81) (.c (.bool true)) (.u 86)⟩,
      ⟨some 88, false, none, .mov (.u 87)⟩,
      ⟨some 89, false, some ((.u 88), false), .faddr 12 (.t 2)⟩,
      ⟨some 90, false, some ((.u 88), false), .load false 1 (.u 89)⟩,
      ⟨some 91, false, some ((.u 88), false), .lenL (.u 90)⟩,
      ⟨some 92, false, some ((.u 88), false), .faddr 12 (.t 3)⟩,
      ⟨some 93, false, some ((.u 88), false), .load false 1 (.u 92)⟩,
      ⟨some 94, false, some ((.u 88), false), .lenL (.u 93)⟩,
      ⟨some 95, false, some ((.u 88), false), .bin .neq (.u 91) (.u 94)⟩,
      ⟨some 96, true, none, .pick (.u 88) (.c (.bool true)) (.u 95)⟩])
   (.cond (.t 96)
    (.seq (.region [⟨some 4, true, none, .mov (.c (.bool false))⟩])
    (.ret))
    (.skip)))
  (.seq (.seq (.region [⟨some 5, true, none, .mov (.c (.int .i64 0))⟩])
   (.block 0 (.loop (.seq (.seq (.region [⟨some 97, false, none, .mov (.t 5)⟩,
         ⟨some 98, false, none, .faddr 12 (.t 2)⟩,
         ⟨some 99, false, none, .load false 1 (.u 98)⟩,
         ⟨some 100, false, none, .lenL (.u 99)⟩,
         ⟨some 101, true, none, .bin .lss (.u 97) (.u 100)⟩])
      (.cond (.t 101)
       (.skip)
       (.exit 0)))
     (.seq (.block 1 (.seq (.regionD [⟨0, [2], false, [], ⟨some 104, false, none, .faddr 12 (.t 2)⟩⟩,
          ⟨1, [104], true, [], ⟨some 105, false, none, .load false 1 (.u 104)⟩⟩,
          ⟨2, [5], false, [], ⟨some 106, false, none, .mov (.t 5)⟩⟩,
          ⟨3, [105, 106], false, [], ⟨some 107, false, none, .iaS 4 (.u 105) (.u 106)⟩⟩,
          ⟨4, [107], true, [], ⟨some 108, false, none, .load true 4 (.u 107)⟩⟩,
          ⟨5, [3], false, [], ⟨some 109, false, none, .faddr 12 (.t 3)⟩⟩,
          ⟨6, [109], true, [], ⟨some 110, false, none, .load false 1 (.u 109)⟩⟩,
          ⟨7, [5], false, [], ⟨some 111, false, none, .mov (.t 5)⟩⟩,
          ⟨8, [110, 111], false, [], ⟨some 112, false, none, .iaS 4 (.u 110) (.u 111)⟩⟩,
          ⟨9, [112], true, [], ⟨some 113, false, none, .load true 4 (.u 112)⟩⟩,
          ⟨10, [108, 113], false, [], ⟨some 114, true, none, .eqS true 4 [(0, 1), (1, 1), (2, 1), (3, 1)] (.u 108) (.u 113)⟩⟩])
       (.cond (.t 114)
        (.seq (.region [⟨some 4, true, none, .mov (.c (.bool false))⟩])
        (.ret))
        (.skip))))
     (.region [⟨some 102, false, none, .mov (.t 5)⟩,
       ⟨some 103, false, none, .bin .add (.u 102) (.c (.int .i64 1))⟩,
       ⟨some 5, true, none, .mov (.u 103)⟩]))))))
  (.seq (.region [⟨some 4, true, none, .mov (.c (.bool true))⟩])
  (.ret))))
def r42 : List LRes := [.slot 4]
theorem t42 : (Try.f42.body.bind (trCode v42 Try.prog Try.f42.ntmps)) = some c42 ∧ trRes v42 Try.prog Try.f42.results.toList = some r42 := ⟨by kernel_rfl, by kernel_rfl⟩

def v43 : Nat → Bool := fun t => [0, 2].contains t
def c43 : LCode :=
  .seq (.region [⟨some 2, true, none, .mov (.c (.bool false))⟩])
  (.seq (.region [⟨some 3, false, none, .mov (.t 0)⟩,
     ⟨some 4, false, none, .bin .geq (.u 3) (.c (.int .i64 1))⟩,
     ⟨some 5, false, none, .mov (.u 4)⟩,
     ⟨some 6, false, some ((.u 5), true), .mov (.t 0)⟩,
     ⟨some 7, false, some ((.u 5), true), .bin .leq (.u 6) (.c (.int .i64 1073741824))⟩,
     ⟨some 8, false, none, .pick (.u 5) (.u 7) (.c (.bool false))⟩,
     ⟨some 2, true, none, .mov (.u 8)⟩])
  (.ret))
def r43 : List LRes := [.slot 2]
theorem t43 : (Try.f43.body.bind (trCode v43 Try.prog Try.f43.ntmps)) = some c43 ∧ trRes v43 Try.prog Try.f43.results.toList = some r43 := ⟨by kernel_rfl, by kernel_rfl⟩

def v44 : Nat → Bool := fun t => [0, 1, 2, 3, 4, 7].contains t
def c44 : LCode :=
  .seq (.region [⟨some 2, true, none, .box (.t 0)⟩,
     ⟨some 3, true, none, .box (.t 1)⟩,
     ⟨some 4, true, none, .mov (.c (.bool false))⟩])
  (.seq (.seq (.region [⟨some 5, false, none, .faddr 0 (.t 3)⟩,
      ⟨some 6, false, none, .load false 1 (.u 5)⟩,
      ⟨some 7, true, none, .bin .eql (.u 6) (.c (.int .i64 1))⟩])
   (.cond (.t 7)
    (.seq (.region [⟨some 8, false, none, .faddr 1 (.t 3)⟩,
       ⟨some 9, false, none, .load false 1 (.u 8)⟩,
       ⟨some 10, false, none, .bin .eql (.u 9) (.c (.int .i64 0))⟩,
       ⟨some 4, true, none, .mov (.u 10)⟩])
    (.ret))
    (.skip)))
  (.seq (.region [⟨some 11, false, none, .faddr 1 (.t 3)⟩,
     ⟨some 12, false, none, .load false 1 (.u 11)⟩,
     ⟨some 13, false, none, .faddr 0 (.t 3)⟩,
     ⟨some 14, false, none, .load false 1 (.u 13)⟩,
     ⟨some 15, false, none, .bin .lss (.u 12) (.u 14)⟩,
     ⟨some 16, false, none, .mov (.u 15)⟩,
     ⟨some 17, false, some ((.u 16), true), .load true 3 (.t 2)⟩,
     ⟨some 18, false, some ((.u 16), true), .faddr 1 (.t 3)⟩,
     ⟨some 19, false, some ((.u 16), true), .load false 1 (.u 18)⟩,
     ⟨some 20, false, some ((.u 16), true), .call 36 [(.u 17), (.u 19)]⟩,
     ⟨some 21, false, some ((.u 16), true), .bin .geq (.u 20) (.c (.int .i64 0))⟩,
     ⟨some 22, false, none, .pick (.u 16) (.u 21) (.c (.bool false))⟩,
     ⟨some 4, true, none, .mov (.u 22)⟩])
  (.ret)))
def r44 : List LRes := [.slot 4]
theorem t44 : (Try.f44.body.bind (trCode v44 Try.prog Try.f44.ntmps)) = some c44 ∧ trRes v44 Try.prog Try.f44.results.toList = some r44 := ⟨by kernel_rfl, by kernel_rfl⟩

def v45 : Nat → Bool := fun t => [0, 1, 2, 3, 4, 26, 34].contains t
def c45 : LCode :=
  .seq (.region [⟨some 2, true, none, .box (.t 0)⟩,
     ⟨some 3, true, none, .box (.t 1)⟩,
     ⟨some 4, true, none, .mov (.c (.bool false))⟩])
  (.seq (.seq (.region [⟨some 5, false, none, .faddr 2 (.t 3)⟩,
      ⟨some 6, false, none, .load false 1 (.u 5)⟩,
      ⟨some 7, false, none, .call 38 [(.u 6)]⟩,
      ⟨some 8, false, none, .un .not (.u 7)⟩,
      ⟨some 9, false, none, .mov (.u 8)⟩,
      ⟨some 10, false, some ((.u 9), false), .faddr 3 (.t 3)⟩,
      ⟨some 11, false, some ((.u 9), false), .load false 1 (.u 10)⟩,
      ⟨some 12, false, some ((.u 9), false), .call 38 [(.u 11)]⟩,
      ⟨some 13, false, some ((.u 9), false), .un .not (.u 12)⟩,
      ⟨some 14, false, none, .pick (.u 9) (.c (.bool true)) (.u 13)⟩,
      ⟨some 15, false, none, .mov (.u 14)⟩,
      ⟨some 16, false, some ((.u 15), false), .faddr 4 (.t 3)⟩,
      ⟨some 17, false, some ((.u 15), false), .load false 1 (.u 16)⟩,
      ⟨some 18, false, some ((.u 15), false), .call 38 [(.u 17)]⟩,
      ⟨some 19, false, some ((.u 15), false), .un .not (.u 18)⟩,
      ⟨some 20, false, none, .pick (.u 15) (.c (.bool true)) (.u 19)⟩,
      ⟨some 21, false, none, .mov (.u 20)⟩,
      ⟨some 22, false, some ((.u 21), false), .faddr 5 (.t 3)⟩,
      ⟨some 23, false, some ((.u 21), false), .load false 1 (.u 22)⟩,
      ⟨some 24, false, some ((.u 21), false), .call 38 [(.u 23)]⟩,
      ⟨some 25, false, some ((.u 21), false), .un .not (.u 24)⟩,
      ⟨some 26, true, none, .pick (.u 21) (.c (.bool true)) (.u 25)⟩])
   (.cond (.t 26)
    (.seq (.region [⟨some 4, true, none, .mov (.c (.bool false))⟩])
    (.ret))
    (.skip)))
  (.seq (.seq (.region [⟨some 27, false, none, .faddr 6 (.t 3)⟩,
      ⟨some 28, false, none, .load false 1 (.u 27)⟩,
      ⟨some 29, false, none, .bin .lss (.u 28) (.c (.int .i64 0))⟩,
      ⟨some 30, false, none, .mov (.u 29)⟩,
      ⟨some 31, false, some ((.u 30), false), .faddr 6 (.t 3)⟩,
      ⟨some 32, false, some ((.u 30), false), .load false 1 (.u 31)⟩,
      ⟨some 33, false, some ((.u 30), false), .bin .gtr (.u 32) (.c (.int .i64 4294967295))⟩,
      ⟨some 34, true, none, .pick (.u 30) (.c (.bool true)) (.u 33)⟩])
   (.cond (.t 34)
    (.seq (.region [⟨some 4, true, none, .mov (.c (.bool false))⟩])
    (.ret))
    (.skip)))
  (.seq (.region [⟨some 35, false, none, .faddr 7 (.t 3)⟩,
     ⟨some 36, false, none, .load false 1 (.u 35)⟩,
     ⟨some 37, false, none, .bin .eql (.u 36) (.c (.int .i64 4294967295))⟩,
     ⟨some 38, false, none, .mov (.u 37)⟩,
     ⟨some 39, false, some ((.u 38), false), .faddr 7 (.t 3)⟩,
     ⟨some 40, false, some ((.u 38), false), .load false 1 (.u 39)⟩,
     ⟨some 41, false, some ((.u 38), false), .bin .geq (.u 40) (.c (.int .i64 0))⟩,
     ⟨some 42, false, some ((.u 38), false), .mov (.u 41)⟩,
     ⟨some 43, false, some ((.u 42), true), .faddr 7 (.t 3)⟩,
     ⟨some 44, false, some ((.u 42), true), .load false 1 (.u 43)⟩,
     ⟨some 45, false, some ((.u 42), true), .faddr 1 (.t 2)⟩,
     ⟨some 46, false, some ((.u 42), true), .load false 1 (.u 45)⟩,
     ⟨some 47, false, some ((.u 42), true), .bin .lss (.u 44) (.u 46)⟩,
     ⟨some 48, false, some ((.u 38), false), .pick (.u 42) (.u 47) (.c (.bool false))⟩,
     ⟨some 49, false, none, .pick (.u 38) (.c (.bool true)) (.u 48)⟩,
     ⟨some 4, true, none, .mov (.u 49)⟩])
  (.ret))))
def r45 : List LRes := [.slot 4]
theorem t45 : (Try.f45.body.bind (trCode v45 Try.prog Try.f45.ntmps)) = some c45 ∧ trRes v45 Try.prog Try.f45.results.toList = some r45 := ⟨by kernel_rfl, by kernel_rfl⟩

def v46 : Nat → Bool := fun t => [0, 2, 3, 4, 7, 8, 9, 10, 11, 37].contains t
def c46 : LCode :=
  .seq (.region [⟨some 2, true, none, .mov (.c (.bool false))⟩])
  (.seq (.seq (.region [⟨some 5, false, none, .mov (.t 0)⟩,
      ⟨some 6, false, none, .lenL (.u 5)⟩,
      ⟨some 7, true, none, .bin .gtr (.u 6) (.c (.int .i64 8))⟩])
   (.cond (.t 7)
    (.seq (.region [⟨some 2, true, none, .mov (.c (.bool false))⟩])
    (.ret))
    (.skip)))
  (.seq (.seq (.region [⟨some 8, true, none, .mov (.t 0)⟩,
      ⟨some 9, true, none, .lenL (.t 8)⟩,
      ⟨some 10, true, none, .mov (.c (.int .i64 0))⟩])
   (.block 0 (.loop (.seq (.region [⟨some 11, true, none, .bin .lss (.t 10) (.t 9)⟩])
     (.seq (.cond (.t 11)
       (.skip)
       (.exit 0))
     (.seq (.block 1 (.seq (.region [⟨some 12, false, none, .mov (.t 10)⟩,
          ⟨some 13, false, none, .iaS 4 (.t 8) (.t 10)⟩,
          ⟨some 14, false, none, .load true 4 (.u 13)⟩,
          ⟨some 4, true, none, .zero [.int .i64 0, .int .i64 0, .int .i64 0, .int .i64 0]⟩,
          ⟨some 3, true, none, .mov (.u 12)⟩,
          ⟨none, true, none, .store 4 (.t 4) (.u 14)⟩])
       (.seq (.regionD [⟨0, [4], false, [], ⟨some 15, false, none, .faddr 0 (.t 4)⟩⟩,
          ⟨1, [15], true, [], ⟨some 16, false, none, .load false 1 (.u 15)⟩⟩,
          ⟨2, [16], false, [], ⟨some 17, false, none, .bin .lss (.u 16) (.c (.int .i64 0))⟩⟩,
          ⟨3, [17], false, [], ⟨some 18, false, none, .mov (.u 17)⟩⟩,
          ⟨4, [4, 18], false, [], ⟨some 19, false, some ((.u 18), false), .faddr 0 (.t 4)⟩⟩,
          ⟨5, [19, 18], true, [], ⟨some 20, false, some ((.u 18), false), .load false 1 (.u 19)⟩⟩,
          ⟨6, [20, 18], false, [], ⟨some 21, false, some ((.u 18), false), .bin .geq (.u 20) (.c (.int .i64 8))⟩⟩,
          ⟨7, [18, 21], false, [], ⟨some 22, false, none, .pick (.u 18) (.c (.bool true)) (.u 21)⟩⟩,
          ⟨8, [22], false, [], ⟨some 23, false, none, .mov (.u 22)⟩⟩,
          ⟨9, [3, 23], false, [], ⟨some 24, false, some ((.u 23), false), .mov (.t 3)⟩⟩,
          ⟨10, [24, 23], false, [], ⟨some 25, false, some ((.u 23), false), .bin .gtr (.u 24) (.c (.int .i64 0))⟩⟩,
          ⟨11, [25, 23], false, [], ⟨some 26, false, some ((.u 23), false), .mov (.u 25)⟩⟩,
          ⟨12, [4, 26], false, [], ⟨some 27, false, some ((.u 26), true), .faddr 0 (.t 4)⟩⟩,
          ⟨13, [27, 26], true, [], ⟨some 28, false, some ((.u 26), true), .load false 1 (.u 27)⟩⟩,
          ⟨14, [0, 26], false, [], ⟨some 29, false, some ((.u 26), true), .mov (.t 0)⟩⟩,
          ⟨15, [3, 26], false, [], ⟨some 30, false, some ((.u 26), true), .mov (.t 3)⟩⟩,
          ⟨16, [30, 26], false, [], ⟨some 31, false, some ((.u 26), true), .bin .sub (.u 30) (.c (.int .i64 1))⟩⟩,
          ⟨17, [29, 31, 26], false, [], ⟨some 32, false, some ((.u 26), true), .iaS 4 (.u 29) (.u 31)⟩⟩,
          ⟨18, [32, 26], false, [], ⟨some 33, false, some ((.u 26), true), .faddr 0 (.u 32)⟩⟩,
          ⟨19, [33, 26], true, [], ⟨some 34, false, some ((.u 26), true), .load false 1 (.u 33)⟩⟩,
          ⟨20, [28, 34, 26], false, [], ⟨some 35, false, some ((.u 26), true), .bin .leq (.u 28) (.u 34)⟩⟩,
          ⟨21, [26, 35, 23], false, [], ⟨some 36, false, some ((.u 23), false), .pick (.u 26) (.u 35) (.c (.bool false))⟩⟩,
          ⟨22, [23, 36], false, [], ⟨some 37, true, none, .pick (.u 23) (.c (.bool true)) (.u 36)⟩⟩])
       (.cond (.t 37)
        (.seq (.region [⟨some 2, true, none, .mov (.c (.bool false))⟩])
        (.ret))
        (.skip)))))
     (.region [⟨some 38, false, none, .bin .add (.t 10) (.c (.int .i64 1))⟩,
       ⟨some 10, true, none, .mov (.u 38)⟩])))))))
  (.seq (.region [⟨some 2, true, none, .mov (.c (.bool true))⟩])
  (.ret))))
def r46 : List LRes := [.slot 2]
theorem t46 : (Try.f46.body.bind (trCode v46 Try.prog Try.f46.ntmps)) = some c46 ∧ trRes v46 Try.prog Try.f46.results.toList = some r46 := ⟨by kernel_rfl, by kernel_rfl⟩

def v47 : Nat → Bool := fun t => [0, 1, 2, 6].contains t
def c47 : LCode :=
  .seq (.region [⟨some 6, true, none, .mov (.c (.int .i64 0))⟩])
  (.seq (.region [⟨some 7, false, none, .mov (.t 1)⟩,
     ⟨some 8, false, none, .mov (.t 0)⟩,
     ⟨some 9, false, none, .mov (.t 2)⟩,
     ⟨some 10, false, none, .mov (.t 1)⟩,
     ⟨some 11, false, none, .bin .sub (.u 9) (.u 10)⟩,
     ⟨some 12, false, none, .bin .add (.u 11) (.c (.int .i64 1))⟩,
     ⟨some 13, false, none, .call 17 [(.u 8), (.u 12)]⟩,
     ⟨some 14, false, none, .bin .add (.u 7) (.u 13)⟩,
     ⟨some 6, true, none, .mov (.u 14)⟩])
  (.ret))
def r47 : List LRes := [.slot 6]
theorem t47 : (Try.f47.body.bind (trCode v47 Try.prog Try.f47.ntmps)) = some c47 ∧ trRes v47 Try.prog Try.f47.results.toList = some r47 := ⟨by kernel_rfl, by kernel_rfl⟩

def v48 : Nat → Bool := fun t => [0, 1, 2, 5, 7].contains t
def c48 : LCode :=
  .seq (.region [⟨some 5, true, none, .mov (.c (.int .i64 0))⟩])
  (.seq (.seq (.region [⟨some 6, false, none, .load false 1 (.t 2)⟩,
      ⟨some 7, true, none, .bin .eql (.u 6) (.c (.int .i64 1))⟩])
   (.cond (.t 7)
    (.seq (.region [⟨some 5, true, none, .mov (.c (.int .i64 1))⟩])
    (.ret))
    (.skip)))
  (.seq (.region [⟨some 8, false, none, .mov (.t 0)⟩,
     ⟨some 9, false, none, .load false 1 (.t 2)⟩,
     ⟨some 10, false, none, .call 49 [(.u 8), (.u 9)]⟩])
  (.seq (.region [⟨some 5, true, none, .mov (.c (.int .i64 0))⟩])
  (.ret))))
def r48 : List LRes := [.slot 5]
theorem t48 : (Try.f48.body.bind (trCode v48 Try.prog Try.f48.ntmps)) = some c48 ∧ trRes v48 Try.prog Try.f48.results.toList = some r48 := ⟨by kernel_rfl, by kernel_rfl⟩

def v49 : Nat → Bool := fun t => [0, 1, 4, 5, 12, 28, 29, 30, 41].contains t
def c49 : LCode :=
  .seq (.region [⟨some 6, false, none, .mov (.t 0)⟩,
     ⟨some 7, false, none, .nilc (.u 6)⟩,
     ⟨some 8, false, none, .load true 3 (.u 7)⟩,
     ⟨some 9, false, none, .mov (.t 1)⟩,
     ⟨some 10, false, none, .call 36 [(.u 8), (.u 9)]⟩,
     ⟨some 4, true, none, .mov (.u 10)⟩])
  (.seq (.seq (.region [⟨some 11, false, none, .mov (.t 4)⟩,
      ⟨some 12, true, none, .bin .lss (.u 11) (.c (.int .i64 0))⟩])
   (.cond (.t 12)
    (.ret)
    (.skip)))
  (.seq (.region [⟨some 13, false, none, .mov (.t 0)⟩,
     ⟨some 14, false, none, .mov (.t 0)⟩,
     ⟨some 15, false, none, .nilc (.u 14)⟩,
     ⟨some 16, false, none, .faddr 2 (.u 15)⟩,
     ⟨some 17, false, none, .load false 1 (.u 16)⟩,
     ⟨some 18, false, none, .mov (.t 4)⟩,
     ⟨some 19, false, none, .mov (.t 4)⟩,
     ⟨some 20, false, none, .bin .add (.u 19) (.c (.int .i64 1))⟩,
     ⟨some 21, false, none, .call 62 [(.u 17), (.u 18), (.u 20)]⟩,
     ⟨some 22, false, none, .nilc (.u 13)⟩,
     ⟨some 23, false, none, .faddr 2 (.u 22)⟩,
     ⟨none, true, none, .store 1 (.u 23) (.u 21)⟩])
  (.seq (.region [⟨some 24, false, none, .mov (.t 0)⟩,
     ⟨some 25, false, none, .nilc (.u 24)⟩,
     ⟨some 26, false, none, .faddr 2 (.u 25)⟩,
     ⟨some 27, false, none, .load false 1 (.u 26)⟩,
     ⟨some 28, true, none, .lenL (.u 27)⟩,
     ⟨some 29, true, none, .mov (.c (.int .i64 0))⟩])
  (.block 0 (.loop (.seq (.region [⟨some 30, true, none, .bin .lss (.t 29) (.t 28)⟩])
    (.seq (.cond (.t 30)
      (.skip)
      (.exit 0))
    (.seq (.block 1 (.seq (.region [⟨some 31, false, none, .mov (.t 29)⟩,
         ⟨some 5, true, none, .mov (.u 31)⟩])
      (.seq (.region [⟨some 32, false, none, .mov (.t 0)⟩,
         ⟨some 33, false, none, .nilc (.u 32)⟩,
         ⟨some 34, false, none, .faddr 2 (.u 33)⟩,
         ⟨some 35, false, none, .load false 1 (.u 34)⟩,
         ⟨some 36, false, none, .mov (.t 5)⟩,
         ⟨some 37, false, none, .iaS 14 (.u 35) (.u 36)⟩,
         ⟨some 38, false, none, .faddr 1 (.u 37)⟩,
         ⟨some 39, false, none, .load false 1 (.u 38)⟩,
         ⟨some 40, false, none, .mov (.t 1)⟩,
         ⟨some 41, true, none, .bin .eql (.u 39) (.u 40)⟩])
      (.cond (.t 41)
       (.region [⟨some 42, false, none, .mov (.t 0)⟩,
         ⟨some 43, false, none, .nilc (.u 42)⟩,
         ⟨some 44, false, none, .faddr 2 (.u 43)⟩,
         ⟨some 45, false, none, .load false 1 (.u 44)⟩,
         ⟨some 46, false, none, .mov (.t 5)⟩,
         ⟨some 47, false, none, .iaS 14 (.u 45) (.u 46)⟩,
         ⟨some 48, false, none, .faddr 1 (.u 47)⟩,
         ⟨none, true, none, .store 1 (.u 48) (.c (.int .i64 1))⟩])
       (.skip)))))
    (.region [⟨some 49, false, none, .bin .add (.t 29) (.c (.int .i64 1))⟩,
      ⟨some 29, true, none, .mov (.u 49)⟩])))))))))
def r49 : List LRes := []
theorem t49 : (Try.f49.body.bind (trCode v49 Try.prog Try.f49.ntmps)) = some c49 ∧ trRes v49 Try.prog Try.f49.results.toList = some r49 := ⟨by kernel_rfl, by kernel_rfl⟩

def v50 : Nat → Bool := fun t => [0, 1, 2, 4, 5, 7, 8, 48, 50, 66, 115, 120, 158].contains t
def c50 : LCode :=
  .seq (.region [⟨some 2, true, none, .box (.t 0)⟩,
     ⟨some 4, true, none, .mov (.c (.bool false))⟩])
  (.seq (.region [⟨some 9, false, none, .faddr 2 (.t 2)⟩,
     ⟨some 10, false, none, .load false 1 (.u 9)⟩,
     ⟨some 11, false, none, .mov (.t 1)⟩,
     ⟨some 12, false, none, .iaS 14 (.u 10) (.u 11)⟩,
     ⟨some 13, false, none, .load true 14 (.u 12)⟩,
     ⟨some 5, true, none, .zero [.int .i64 0, .int .i64 0, .int .i64 0, .int .i64 0, .int .i64 0, .int .i64 0, .int .i64 0, .int .i64 0, .int .i64 0, .int .i64 0, .str [], .str [], .fsl 1 0 [], .bool false]⟩,
     ⟨none, true, none, .store 14 (.t 5) (.u 13)⟩])
  (.seq (.seq (.regionD [⟨0, [1], false, [], ⟨some 14, false, none, .mov (.t 1)⟩⟩,
      ⟨1, [14], false, [], ⟨some 15, false, none, .bin .eql (.u 14) (.c (.int .i64 0))⟩⟩,
      ⟨2, [15], false, [], ⟨some 16, false, none, .mov (.u 15)⟩⟩,
      ⟨3, [5, 16], false, [], ⟨some 17, false, some ((.u 16), true), .faddr 0 (.t 5)⟩⟩,
      ⟨4, [17, 16], true, [], ⟨some 18, false, some ((.u 16), true), .load false 1 (.u 17)⟩⟩,
      ⟨5, [18, 16], false, [], ⟨some 19, false, some ((.u 16), true), .bin .neq (.u 18) (.c (.int .i64 1))⟩⟩,
      ⟨6, [19, 16], false, [], ⟨some 20, false, some ((.u 16), true), .mov (.u 19)⟩⟩,
      ⟨7, [5, 20], false, [], ⟨some 21, false, some ((.u 20), false), .faddr 1 (.t 5)⟩⟩,
      ⟨8, [21, 20], true, [], ⟨some 22, false, some ((.u 20), false), .load false 1 (.u 21)⟩⟩,
      ⟨9, [22, 20], false, [], ⟨some 23, false, some ((.u 20), false), .bin .neq (.u 22) (.c (.int .i64 0))⟩⟩,
      ⟨10, [20, 23, 16], false, [], ⟨some 24, false, some ((.u 16), true), .pick (.u 20) (.c (.bool true)) (.u 23)⟩⟩,
      ⟨11, [16, 24], false, [], ⟨some 25, false, none, .pick (.u 16) (.u 24) (.c (.bool false))⟩⟩,
      ⟨12, [25], false, [], ⟨some 26, false, none, .mov (.u 25)⟩⟩,
      ⟨13, [1, 26], false, [], ⟨some 27, false, some ((.u 26), false), .mov (.t 1)⟩⟩,
      ⟨14, [27, 26], false, [], ⟨some 28, false, some ((.u 26), false), .bin .gtr (.u 27) (.c (.int .i64 0))⟩⟩,
      ⟨15, [28, 26], false, [], ⟨some 29, false, some ((.u 26), false), .mov (.u 28)⟩⟩,
      ⟨16, [2, 29], false, [], ⟨some 30, false, some ((.u 29), true), .faddr 2 (.t 2)⟩⟩,
      ⟨17, [30, 29], true, [], ⟨some 31, false, some ((.u 29), true), .load false 1 (.u 30)⟩⟩,
      ⟨18, [1, 29], false, [], ⟨some 32, false, some ((.u 29), true), .mov (.t 1)⟩⟩,
      ⟨19, [32, 29], false, [], ⟨some 33, false, some ((.u 29), true), .bin .sub (.u 32) (.c (.int .i64 1))⟩⟩,
      ⟨20, [31, 33, 29], false, [], ⟨some 34, false, some ((.u 29), true), .iaS 14 (.u 31) (.u 33)⟩⟩,
      ⟨21, [34, 29], false, [], ⟨some 35, false, some ((.u 29), true), .faddr 0 (.u 34)⟩⟩,
      ⟨22, [35, 29], true, [], ⟨some 36, false, some ((.u 29), true), .load false 1 (.u 35)⟩⟩,
      ⟨23, [5, 29], false, [], ⟨some 37, false, some ((.u 29), true), .faddr 0 (.t 5)⟩⟩,
      ⟨24, [37, 29], true, [], ⟨some 38, false, some ((.u 29), true), .load false 1 (.u 37)⟩⟩,
      ⟨25, [36, 38, 29], false, [], ⟨some 39, false, some ((.u 29), true), .bin .geq (.u 36) (.u 38)⟩⟩,
      ⟨26, [29, 39, 26], false, [], ⟨some 40, false, some ((.u 26), false), .pick (.u 29) (.u 39) (.c (.bool false))⟩⟩,
      ⟨27, [26, 40], false, [], ⟨some 41, false, none, .pick (.u 26) (.c (.bool true)) (.u 40)⟩⟩,
      ⟨28, [41], false, [], ⟨some 42, false, none, .mov (.u 41)⟩⟩,
      ⟨29, [5, 42], false, [], ⟨some 43, false, some ((.u 42), false), .faddr 0 (.t 5)⟩⟩,
      ⟨30, [43, 42], true, [], ⟨some 44, false, some ((.u 42), false), .load false 1 (.u 43)⟩⟩,
      ⟨31, [2, 42], false, [], ⟨some 45, false, some ((.u 42), false), .faddr 0 (.t 2)⟩⟩,
      ⟨32, [45, 42], true, [], ⟨some 46, false, some ((.u 42), false), .load false 1 (.u 45)⟩⟩,
      ⟨33, [44, 46, 42], false, [], ⟨some 47, false, some ((.u 42), false), .bin .geq (.u 44) (.u 46)⟩⟩,
      ⟨34, [42, 47], false, [], ⟨some 48, true, none, .pick (.u 42) (.c (.bool true)) (.u 47)⟩⟩])
   (.cond (.t 48)
    (.seq (.region [⟨some 4, true, none, .mov (.c (.bool false))⟩])
    (.ret))
    (.skip)))
  (.seq (.seq (.region [⟨some 49, false, none, .mov (.t 1)⟩,
      ⟨some 50, true, none, .bin .gtr (.u 49) (.c (.int .i64 0))⟩])
   (.cond (.t 50)
    (.seq (.region [⟨some 52, false, none, .load true 3 (.t 2)⟩,
       ⟨some 53, false, none, .faddr 1 (.t 5)⟩,
       ⟨some 54, false, none, .load false 1 (.u 53)⟩,
       ⟨some 55, false, none, .call 26 [(.u 52), (.u 54)]⟩,
       ⟨some 51, false, none, .mov (.u 55)⟩,
       ⟨some 56, false, none, .ext (.u 51) 0⟩,
       ⟨some 57, false, none, .ext (.u 51) 1⟩,
       ⟨some 6, false, none, .zero [.int .i64 0, .int .i64 0, .int .i64 0, .int .i64 0, .int .i64 0, .int .i64 0, .int .i64 0, .int .i64 0, .int .i64 0, .int .i64 0, .str [], .str [], .fsl 1 0 [], .bool false]⟩,
       ⟨none, true, none, .store 14 (.u 6) (.u 56)⟩,
       ⟨some 7, true, none, .mov (.u 57)⟩])
    (.seq (.region [⟨some 58, false, none, .mov (.t 7)⟩,
       ⟨some 59, false, none, .un .not (.u 58)⟩,
       ⟨some 60, false, none, .mov (.u 59)⟩,
       ⟨some 61, false, some ((.u 60), false), .faddr 1 (.t 5)⟩,
       ⟨some 62, false, some ((.u 60), false), .load false 1 (.u 61)⟩,
       ⟨some 63, false, some ((.u 60), false), .faddr 0 (.t 5)⟩,
       ⟨some 64, false, some ((.u 60), false), .load false 1 (.u 63)⟩,
       ⟨some 65, false, some ((.u 60), false), .bin .geq (.u 62) (.u 64)⟩,
       ⟨some 66, true, none, .pick (.u 60) (.c (.bool true)) (.u 65)⟩])
    (.cond (.t 66)
     (.seq (.region [⟨some 4, true, none, .mov (.c (.bool false))⟩])
     (.ret))
     (.skip))))
    (.skip)))
  (.seq (.seq (.region [⟨some 67, false, none, .faddr 2 (.t 5)⟩,
      ⟨some 68, false, none, .load false 1 (.u 67)⟩,
      ⟨some 69, false, none, .call 63 [(.u 68)]⟩,
      ⟨some 70, false, none, .un .not (.u 69)⟩,
      ⟨some 71, false, none, .mov (.u 70)⟩,
      ⟨some 72, false, some ((.u 71), false), .faddr 3 (.t 5)⟩,
      ⟨some 73, false, some ((.u 71), false), .load false 1 (.u 72)⟩,
      ⟨some 74, false, some ((.u 71), false), .call 63 [(.u 73)]⟩,
      ⟨some 75, false, some ((.u 71), false), .un .not (.u 74)⟩,
      ⟨some 76, false, none, .pick (.u 71) (.c (.bool true)) (.u 75)⟩,
      ⟨some 77, false, none, .mov (.u 76)⟩,
      ⟨some 78, false, some ((.u 77), false), .faddr 4 (.t 5)⟩,
      ⟨some 79, false, some ((.u 77), false), .load false 1 (.u 78)⟩,
      ⟨some 80, false, some ((.u 77), false), .call 63 [(.u 79)]⟩,
      ⟨some 81, false, some ((.u 77), false), .un .not (.u 80)⟩,
      ⟨some 82, false, none, .pick (.u 77) (.c (.bool true)) (.u 81)⟩,
      ⟨some 83, false, none, .mov (.u 82)⟩,
      ⟨some 84, false, some ((.u 83), false), .faddr 5 (.t 5)⟩,
      ⟨some 85, false, some ((.u 83), false), .load false 1 (.u 84)⟩,
      ⟨some 86, false, some ((.u 83), false), .call 63 [(.u 85)]⟩,
      ⟨some 87, false, some ((.u 83), false), .un .not (.u 86)⟩,
      ⟨some 88, false, none, .pick (.u 83) (.c (.bool true)) (.u 87)⟩,
      ⟨some 89, false, none, .mov (.u 88)⟩,
      ⟨some 90, false, some ((.u 89), false), .faddr 6 (.t 5)⟩,
      ⟨some 91, false, some ((.u 89), false), .load false 1 (.u 90)⟩,
      ⟨some 92, false, some ((.u 89), false), .bin .lss (.u 91) (.c (.int .i64 0))⟩,
      ⟨some 93, false, none, .pick (.u 89) (.c (.bool true)) (.u 92)⟩,
      ⟨some 94, false, none, .mov (.u 93)⟩,
      ⟨some 95, false, some ((.u 94), false), .faddr 6 (.t 5)⟩,
      ⟨some 96, false, some ((.u 94), false), .load false 1 (.u 95)⟩,
      ⟨some 97, false, some ((.u 94), false), .bin .gtr (.u 96) (.c (.int .i64 4294967295))⟩,
      ⟨some 98, false, none, .pick (.u 94) (.c (.bool true)) (.u 97)⟩,
      ⟨some 99, false, none, .mov (.u 98)⟩,
      ⟨some 100, false, some ((.u 99), false), .faddr 7 (.t 5)⟩,
      ⟨some 101, false, some ((.u 99), false), .load false 1 (.u 100)⟩,
      ⟨some 102, false, some ((.u 99), false), .bin .neq (.u 101) (.c (.int .i64 4294967295))⟩,
      ⟨some 103, false, some ((.u 99), false), .mov (.u 102)⟩,
      ⟨some 104, false, some ((.u 103), true), .faddr 7 (.t 5)⟩,
      ⟨some 105, false, some ((.u 103), true), .load false 1 (.u 104)⟩,
      ⟨some 106, false, some ((.u 103), true), .bin .lss (.u 105) (.c (.int .i64 0))⟩,
      ⟨some 107, false, some ((.u 103), true), .mov (.u 106)⟩,
      ⟨some 108, false, some ((.u 107), false), .faddr 7 (.t 5)⟩,
      ⟨some 109, false, some ((.u 107), false), .load false 1 (.u 108)⟩,
      ⟨some 110, false, some ((.u 107), false), .faddr 1 (.t 2)⟩,
      ⟨some 111, false, some ((.u 107), false), .load false 1 (.u 110)⟩,
      ⟨some 112, false, some ((.u 107), false), .bin .geq (.u 109) (.u 111)⟩,
      ⟨some 113, false, some ((.u 103), true), .pick (.u 107) (.c (.bool true)) (.u 112)⟩,
      ⟨some 114, false, some ((.u 99), false), .pick (.u 103) (.u 113) (.c (.bool false))⟩,
      ⟨some 115, true, none, .pick (.u 99) (.c (.bool true)) (.u 114)⟩])
   (.cond (.t 115)
    (.seq (.region [⟨some 4, true, none, .mov (.c (.bool false))⟩])
    (.ret))
    (.skip)))
  (.seq (.seq (.region [⟨some 8, true, none, .mov (.c (.int .i64 0))⟩])
   (.block 0 (.loop (.seq (.seq (.region [⟨some 116, false, none, .mov (.t 8)⟩,
         ⟨some 117, false, none, .faddr 12 (.t 5)⟩,
         ⟨some 118, false, none, .load false 1 (.u 117)⟩,
         ⟨some 119, false, none, .lenL (.u 118)⟩,
         ⟨some 120, true, none, .bin .lss (.u 116) (.u 119)⟩])
      (.cond (.t 120)
       (.skip)
       (.exit 0)))
     (.seq (.block 1 (.seq (.regionD [⟨0, [5], false, [], ⟨some 123, false, none, .faddr 12 (.t 5)⟩⟩,
          ⟨1, [123], true, [], ⟨some 124, false, none, .load false 1 (.u 123)⟩⟩,
          ⟨2, [8], false, [], ⟨some 125, false, none, .mov (.t 8)⟩⟩,
          ⟨3, [124, 125], false, [], ⟨some 126, false, none, .iaS 4 (.u 124) (.u 125)⟩⟩,
          ⟨4, [126], false, [], ⟨some 127, false, none, .faddr 0 (.u 126)⟩⟩,
          ⟨5, [127], true, [], ⟨some 128, false, none, .load false 1 (.u 127)⟩⟩,
          ⟨6, [128], false, [], ⟨some 129, false, none, .bin .lss (.u 128) (.c (.int .i64 0))⟩⟩,
          ⟨7, [129], false, [], ⟨some 130, false, none, .mov (.u 129)⟩⟩,
          ⟨8, [5, 130], false, [], ⟨some 131, false, some ((.u 130), false), .faddr 12 (.t 5)⟩⟩,
          ⟨9, [131, 130], true, [], ⟨some 132, false, some ((.u 130), false), .load false 1 (.u 131)⟩⟩,
          ⟨10, [8, 130], false, [], ⟨some 133, false, some ((.u 130), false), .mov (.t 8)⟩⟩,
          ⟨11, [132, 133, 130], false, [], ⟨some 134, false, some ((.u 130), false), .iaS 4 (.u 132) (.u 133)⟩⟩,
          ⟨12, [134, 130], false, [], ⟨some 135, false, some ((.u 130), false), .faddr 0 (.u 134)⟩⟩,
          ⟨13, [135, 130], true, [], ⟨some 136, false, some ((.u 130), false), .load false 1 (.u 135)⟩⟩,
          ⟨14, [136, 130], false, [], ⟨some 137, false, some ((.u 130), false), .bin .geq (.u 136) (.c (.int .i64 8))⟩⟩,
          ⟨15, [130, 137], false, [], ⟨some 138, false, none, .pick (.u 130) (.c (.bool true)) (.u 137)⟩⟩,
          ⟨16, [138], false, [], ⟨some 139, false, none, .mov (.u 138)⟩⟩,
          ⟨17, [8, 139], false, [], ⟨some 140, false, some ((.u 139), false), .mov (.t 8)⟩⟩,
          ⟨18, [140, 139], false, [], ⟨some 141, false, some ((.u 139), false), .bin .gtr (.u 140) (.c (.int .i64 0))⟩⟩,
          ⟨19, [141, 139], false, [], ⟨some 142, false, some ((.u 139), false), .mov (.u 141)⟩⟩,
          ⟨20, [5, 142], false, [], ⟨some 143, false, some ((.u 142), true), .faddr 12 (.t 5)⟩⟩,
          ⟨21, [143, 142], true, [], ⟨some 144, false, some ((.u 142), true), .load false 1 (.u 143)⟩⟩,
          ⟨22, [8, 142], false, [], ⟨some 145, false, some ((.u 142), true), .mov (.t 8)⟩⟩,
          ⟨23, [145, 142], false, [], ⟨some 146, false, some ((.u 142), true), .bin .sub (.u 145) (.c (.int .i64 1))⟩⟩,
          ⟨24, [144, 146, 142], false, [], ⟨some 147, false, some ((.u 142), true), .iaS 4 (.u 144) (.u 146)⟩⟩,
          ⟨25, [147, 142], false, [], ⟨some 148, false, some ((.u 142), true), .faddr 0 (.u 147)⟩⟩,
          ⟨26, [148, 142], true, [], ⟨some 149, false, some ((.u 142), true), .load false 1 (.u 148)⟩⟩,
          ⟨27, [5, 142], false, [], ⟨some 150, false, some ((.u 142), true), .faddr 12 (.t 5)⟩⟩,
          ⟨28, [150, 142], true, [], ⟨some 151, false, some ((.u 142), true), .load false 1 (.u 150)⟩⟩,
          ⟨29, [8, 142], false, [], ⟨some 152, false, some ((.u 142), true), .mov (.t 8)⟩⟩,
          ⟨30, [151, 152, 142], false, [], ⟨some 153, false, some ((.u 142), true), .iaS 4 (.u 151) (.u 152)⟩⟩,
          ⟨31, [153, 142], false, [], ⟨some 154, false, some ((.u 142), true), .faddr 0 (.u 153)⟩⟩,
          ⟨32, [154, 142], true, [], ⟨some 155, false, some ((.u 142), true), .load false 1 (.u 154)⟩⟩,
          ⟨33, [149, 155, 142], false, [], ⟨some 156, false, some ((.u 142), true), .bin .geq (.u 149) (.u 155)⟩⟩,
          ⟨34, [142, 156, 139], false, [], ⟨some 157, false, some ((.u 139), false), .pick (.u 142) (.u 156) (.c (.bool false))⟩⟩,
          ⟨35, [139, 157], false, [], ⟨some 158, true, none, .pick (.u 139) (.c (.bool true)) (.u 157)⟩⟩])
       (.cond (.t 158)
        (.seq (.region [⟨some 4, true, none, .mov (.c (.bool false))⟩])
        (.ret))
        (.skip))))
     (.region [⟨some 121, false, none, .mov (.t 8)⟩,
       ⟨some 122, false, none, .bin .add (.u 121) (.c (.int .i64 1))⟩,
       ⟨some 8, true, none, .mov (.u 122)⟩]))))))
  (.seq (.region [⟨some 4, true, none, .mov (.c (.bool true))⟩])
  (.ret)))))))
def r50 : List LRes := [.slot 4]
theorem t50 : (Try.f50.body.bind (trCode v50 Try.prog Try.f50.ntmps)) = some c50 ∧ trRes v50 Try.prog Try.f50.results.toList = some r50 := ⟨by kernel_rfl, by kernel_rfl⟩

def v51 : Nat → Bool := fun t => [0, 1, 2, 5, 6, 14].contains t
def c51 : LCode :=
  .seq (.region [⟨some 5, true, none, .mov (.c (.int .i64 0))⟩])
  (.seq (.region [⟨some 7, false, none, .mov (.t 1)⟩,
     ⟨some 8, false, none, .nilc (.u 7)⟩,
     ⟨some 9, false, none, .faddr 12 (.u 8)⟩,
     ⟨some 10, false, none, .load false 1 (.u 9)⟩,
     ⟨some 11, false, none, .mkf 53 [(.t 2)]⟩,
     ⟨some 12, false, none, .call 52 [(.u 10), (.u 11)]⟩,
     ⟨some 6, true, none, .mov (.u 12)⟩])
  (.seq (.seq (.region [⟨some 13, false, none, .mov (.t 6)⟩,
      ⟨some 14, true, none, .bin .lss (.u 13) (.c (.int .i64 0))⟩])
   (.cond (.t 14)
    (.seq (.region [⟨some 5, true, none, .mov (.c (.int .i64 9))⟩])
    (.ret))
    (.skip)))
  (.seq (.region [⟨some 15, false, none, .mov (.t 1)⟩,
     ⟨some 16, false, none, .mov (.t 1)⟩,
     ⟨some 17, false, none, .nilc (.u 16)⟩,
     ⟨some 18, false, none, .faddr 12 (.u 17)⟩,
     ⟨some 19, false, none, .load false 1 (.u 18)⟩,
     ⟨some 20, false, none, .mov (.t 6)⟩,
     ⟨some 21, false, none, .mov (.t 6)⟩,
     ⟨some 22, false, none, .bin .add (.u 21) (.c (.int .i64 1))⟩,
     ⟨some 23, false, none, .call 54 [(.u 19), (.u 20), (.u 22)]⟩,
     ⟨some 24, false, none, .nilc (.u 15)⟩,
     ⟨some 25, false, none, .faddr 12 (.u 24)⟩,
     ⟨none, true, none, .store 1 (.u 25) (.u 23)⟩])
  (.seq (.region [⟨some 5, true, none, .mov (.c (.int .i64 0))⟩])
  (.ret)))))
def r51 : List LRes := [.slot 5]
theorem t51 : (Try.f51.body.bind (trCode v51 Try.prog Try.f51.ntmps)) = some c51 ∧ trRes v51 Try.prog Try.f51.results.toList = some r51 := ⟨by kernel_rfl, by kernel_rfl⟩

def v52 : Nat → Bool := fun t => [0, 1, 4, 5, 7, 8, 9, 16].contains t
def c52 : LCode :=
  .seq (.region [⟨some 4, true, none, .mov (.c (.int .i64 0))⟩])
  (.seq (.seq (.region [⟨some 6, false, none, .mov (.t 0)⟩,
      ⟨some 7, true, none, .lenL (.u 6)⟩,
      ⟨some 8, true, none, .mov (.c (.int .i64 0))⟩])
   (.block 0 (.loop (.seq (.region [⟨some 9, true, none, .bin .lss (.t 8) (.t 7)⟩])
     (.seq (.cond (.t 9)
       (.skip)
       (.exit 0))
     (.seq (.block 1 (.seq (.region [⟨some 10, false, none, .mov (.t 8)⟩,
          ⟨some 5, true, none, .mov (.u 10)⟩])
       (.seq (.region [⟨some 11, false, none, .mov (.t 1)⟩,
          ⟨some 12, false, none, .mov (.t 0)⟩,
          ⟨some 13, false, none, .mov (.t 5)⟩,
          ⟨some 14, false, none, .iaS 4 (.u 12) (.u 13)⟩,
          ⟨some 15, false, none, .load true 4 (.u 14)⟩,
          ⟨some 16, true, none, .callV (.u 11) [(.u 15)]⟩])
       (.cond (.t 16)
        (.seq (.region [⟨some 17, false, none, .mov (.t 5)⟩,
           ⟨some 4, true, none, .mov (.u 17)⟩])
        (.ret))
        (.skip)))))
     (.region [⟨some 18, false, none, .bin .add (.t 8) (.c (.int .i64 1))⟩,
       ⟨some 8, true, none, .mov (.u 18)⟩])))))))
  (.seq (.region [⟨some 4, true, none, .mov (.c (.int .i64 (-1)))⟩])
  (.ret)))
def r52 : List LRes := [.slot 4]
theorem t52 : (Try.f52.body.bind (trCode v52 Try.prog Try.f52.ntmps)) = some c52 ∧ trRes v52 Try.prog Try.f52.results.toList = some r52 := ⟨by kernel_rfl, by kernel_rfl⟩

def v53 : Nat → Bool := fun t => [0, 1, 2, 3].contains t
def c53 : LCode :=
  .seq (.region [⟨some 2, true, none, .box (.t 0)⟩,
     ⟨some 3, true, none, .mov (.c (.bool false))⟩])
  (.seq (.region [⟨some 4, false, none, .faddr 0 (.t 2)⟩,
     ⟨some 5, false, none, .load false 1 (.u 4)⟩,
     ⟨some 6, false, none, .load false 1 (.t 1)⟩,
     ⟨some 7, false, none, .bin .eql (.u 5) (.u 6)⟩,
     ⟨some 3, true, none, .mov (.u 7)⟩])
  (.ret))
def r53 : List LRes := [.slot 3]
theorem t53 : (Try.f53.body.bind (trCode v53 Try.prog Try.f53.ntmps)) = some c53 ∧ trRes v53 Try.prog Try.f53.results.toList = some r53 := ⟨by kernel_rfl, by kernel_rfl⟩

def v54 : Nat → Bool := fun t => [0, 1, 2, 6, 7, 16].contains t
def c54 : LCode :=
  .seq (.region [⟨some 6, true, none, .mov (.c (.fsl 1 0 []))⟩])
  (.seq (.region [⟨some 8, false, none, .mov (.t 0)⟩,
     ⟨some 9, false, none, .mov (.t 1)⟩,
     ⟨some 10, false, none, .mov (.t 2)⟩,
     ⟨some 11, false, none, .mov (.t 0)⟩,
     ⟨some 12, false, none, .lenL (.u 11)⟩,
     ⟨some 13, false, none, .slL 4 (.u 8) (some (.u 9)) (some (.u 10)) (some (.u 12))⟩])
  (.seq (.seq (.region [⟨some 14, false, none, .mov (.t 1)⟩,
      ⟨some 15, false, none, .mov (.t 2)⟩,
      ⟨some 16, true, none, .bin .eql (.u 14) (.u 15)⟩])
   (.cond (.t 16)
    (.seq (.region [⟨some 17, false, none, .mov (.t 0)⟩,
       ⟨some 6, true, none, .mov (.u 17)⟩])
    (.ret))
    (.skip)))
  (.seq (.region [⟨some 18, false, none, .mov (.t 0)⟩,
     ⟨some 19, false, none, .lenL (.u 18)⟩,
     ⟨some 7, true, none, .mov (.u 19)⟩])
  (.seq (.regionD [⟨0, [0], false, [], ⟨some 20, false, none, .mov (.t 0)⟩⟩,
     ⟨1, [1], false, [], ⟨some 21, false, none, .mov (.t 1)⟩⟩,
     ⟨2, [20, 21], false, [], ⟨some 22, false, none, .slL 4 (.u 20) none (some (.u 21)) none⟩⟩,
     ⟨3, [0], false, [], ⟨some 23, false, none, .mov (.t 0)⟩⟩,
     ⟨4, [2], false, [], ⟨some 24, false, none, .mov (.t 2)⟩⟩,
     ⟨5, [23, 24], false, [], ⟨some 25, false, none, .slL 4 (.u 23) (some (.u 24)) none none⟩⟩,
     ⟨6, [22, 25], false, [], ⟨some 26, false, none, .app 4 32 (.u 22) (.u 25)⟩⟩,
     ⟨7, [26], false, [], ⟨some 0, true, none, .mov (.u 26)⟩⟩])
  (.seq (.region [⟨some 27, false, none, .mov (.t 0)⟩,
     ⟨some 28, false, none, .mov (.t 0)⟩,
     ⟨some 29, false, none, .lenL (.u 28)⟩,
     ⟨some 30, false, none, .mov (.t 7)⟩,
     ⟨some 31, false, none, .slL 4 (.u 27) (some (.u 29)) (some (.u 30)) none⟩,
     ⟨none, true, none, .clear 4 [.int .i64 0, .int .i64 0, .int .i64 0, .int .i64 0] (.u 31)⟩])
  (.seq (.region [⟨some 32, false, none, .mov (.t 0)⟩,
     ⟨some 6, true, none, .mov (.u 32)⟩])
  (.ret)))))))
def r54 : List LRes := [.slot 6]
theorem t54 : (Try.f54.body.bind (trCode v54 Try.prog Try.f54.ntmps)) = some c54 ∧ trRes v54 Try.prog Try.f54.results.toList = some r54 := ⟨by kernel_rfl, by kernel_rfl⟩

def v55 : Nat → Bool := fun t => [0, 1, 2, 3, 4, 7, 13, 32].contains t
def c55 : LCode :=
  .seq (.region [⟨some 7, true, none, .mov (.c (.int .i64 0))⟩])
  (.seq (.seq (.region [⟨some 8, false, none, .mov (.t 1)⟩,
      ⟨some 9, false, none, .nilc (.u 8)⟩,
      ⟨some 10, false, none, .faddr 12 (.u 9)⟩,
      ⟨some 11, false, none, .load false 1 (.u 10)⟩,
      ⟨some 12, false, none, .lenL (.u 11)⟩,
      ⟨some 13, true, none, .bin .geq (.u 12) (.c (.int .i64 8))⟩])
   (.cond (.t 13)
    (.seq (.region [⟨some 7, true, none, .mov (.c (.int .i64 24))⟩])
    (.ret))
    (.skip)))
  (.seq (.block 0 (.loop (.seq (.seq (.regionD [⟨0, [2], true, [], ⟨some 14, false, none, .load false 1 (.t 2)⟩⟩,
         ⟨1, [1], false, [], ⟨some 15, false, none, .mov (.t 1)⟩⟩,
         ⟨2, [15], false, [], ⟨some 16, false, none, .nilc (.u 15)⟩⟩,
         ⟨3, [16], false, [], ⟨some 17, false, none, .faddr 12 (.u 16)⟩⟩,
         ⟨4, [17], true, [], ⟨some 18, false, none, .load false 1 (.u 17)⟩⟩,
         ⟨5, [18], false, [], ⟨some 19, false, none, .lenL (.u 18)⟩⟩,
         ⟨6, [14, 19], false, [], ⟨some 20, false, none, .bin .lss (.u 14) (.u 19)⟩⟩,
         ⟨7, [20], false, [], ⟨some 21, false, none, .mov (.u 20)⟩⟩,
         ⟨8, [1, 21], false, [], ⟨some 22, false, some ((.u 21), true), .mov (.t 1)⟩⟩,
         ⟨9, [22, 21], false, [], ⟨some 23, false, some ((.u 21), true), .nilc (.u 22)⟩⟩,
         ⟨10, [23, 21], false, [], ⟨some 24, false, some ((.u 21), true), .faddr 12 (.u 23)⟩⟩,
         ⟨11, [24, 21], true, [], ⟨some 25, false, some ((.u 21), true), .load false 1 (.u 24)⟩⟩,
         ⟨12, [2, 21], true, [], ⟨some 26, false, some ((.u 21), true), .load false 1 (.t 2)⟩⟩,
         ⟨13, [25, 26, 21], false, [], ⟨some 27, false, some ((.u 21), true), .iaS 4 (.u 25) (.u 26)⟩⟩,
         ⟨14, [27, 21], false, [], ⟨some 28, false, some ((.u 21), true), .faddr 0 (.u 27)⟩⟩,
         ⟨15, [28, 21], true, [], ⟨some 29, false, some ((.u 21), true), .load false 1 (.u 28)⟩⟩,
         ⟨16, [2, 21], true, [], ⟨some 30, false, some ((.u 21), true), .load false 1 (.t 2)⟩⟩,
         ⟨17, [29, 30, 21], false, [], ⟨some 31, false, some ((.u 21), true), .bin .eql (.u 29) (.u 30)⟩⟩,
         ⟨18, [21, 31], false, [], ⟨some 32, true, none, .pick (.u 21) (.u 31) (.c (.bool false))⟩⟩])
      (.cond (.t 32)
       (.skip)
       (.exit 0)))
     (.block 1 (.region [⟨some 33, false, none, .load false 1 (.t 2)⟩,
        ⟨some 34, false, none, .bin .add (.u 33) (.c (.int .i64 1))⟩,
        ⟨none, true, none, .store 1 (.t 2) (.u 34)⟩])))))
  (.seq (.regionD [⟨0, [1], false, [], ⟨some 35, false, none, .mov (.t 1)⟩⟩,
     ⟨1, [1], false, [], ⟨some 36, false, none, .mov (.t 1)⟩⟩,
     ⟨2, [36], false, [], ⟨some 37, false, none, .nilc (.u 36)⟩⟩,
     ⟨3, [37], false, [], ⟨some 38, false, none, .faddr 12 (.u 37)⟩⟩,
     ⟨4, [38], true, [], ⟨some 39, false, none, .load false 1 (.u 38)⟩⟩,
     ⟨5, [2], true, [], ⟨some 40, false, none, .load false 1 (.t 2)⟩⟩,
     ⟨6, [2], true, [], ⟨some 41, false, none, .load false 1 (.t 2)⟩⟩,
     ⟨7, [3], true, [], ⟨some 42, false, none, .load true 2 (.t 3)⟩⟩,
     ⟨8, [4], true, [], ⟨some 43, false, none, .load false 1 (.t 4)⟩⟩,
     ⟨9, [41, 42, 43], false, [], ⟨some 44, false, none, .build [.int .i64 0, .int .i64 0, .int .i64 0, .int .i64 0] [(0, 1, (.u 41)), (1, 2, (.u 42)), (3, 1, (.u 43))]⟩⟩,
     ⟨10, [44], false, [], ⟨some 45, false, none, .mkS 4 1 [.int .i64 0, .int .i64 0, .int .i64 0, .int .i64 0] [(0, 4, (.u 44))]⟩⟩,
     ⟨11, [39, 40, 45], false, [], ⟨some 46, false, none, .call 56 [(.u 39), (.u 40), (.u 45)]⟩⟩,
     ⟨12, [35], false, [], ⟨some 47, false, none, .nilc (.u 35)⟩⟩,
     ⟨13, [47], false, [], ⟨some 48, false, none, .faddr 12 (.u 47)⟩⟩,
     ⟨14, [48, 46], false, [], ⟨none, true, none, .store 1 (.u 48) (.u 46)⟩⟩])
  (.seq (.region [⟨some 7, true, none, .mov (.c (.int .i64 0))⟩])
  (.ret)))))
def r55 : List LRes := [.slot 7]
theorem t55 : (Try.f55.body.bind (trCode v55 Try.prog Try.f55.ntmps)) = some c55 ∧ trRes v55 Try.prog Try.f55.results.toList = some r55 := ⟨by kernel_rfl, by kernel_rfl⟩

def v56 : Nat → Bool := fun t => [0, 1, 2, 6, 7, 8, 9, 16, 22, 31, 68].contains t
def c56 : LCode :=
  .seq (.region [⟨some 6, true, none, .mov (.c (.fsl 1 0 []))⟩])
  (.seq (.region [⟨some 10, false, none, .mov (.t 0)⟩,
     ⟨some 11, false, none, .mov (.t 1)⟩,
     ⟨some 12, false, none, .slL 4 (.u 10) (some (.u 11)) none none⟩])
  (.seq (.region [⟨some 13, false, none, .mov (.t 2)⟩,
     ⟨some 14, false, none, .lenL (.u 13)⟩,
     ⟨some 7, true, none, .mov (.u 14)⟩])
  (.seq (.seq (.region [⟨some 15, false, none, .mov (.t 7)⟩,
      ⟨some 16, true, none, .bin .eql (.u 15) (.c (.int .i64 0))⟩])
   (.cond (.t 16)
    (.seq (.region [⟨some 17, false, none, .mov (.t 0)⟩,
       ⟨some 6, true, none, .mov (.u 17)⟩])
    (.ret))
    (.skip)))
  (.seq (.region [⟨some 18, false, none, .mov (.t 0)⟩,
     ⟨some 19, false, none, .lenL (.u 18)⟩,
     ⟨some 8, true, none, .mov (.u 19)⟩])
  (.seq (.seq (.region [⟨some 20, false, none, .mov (.t 1)⟩,
      ⟨some 21, false, none, .mov (.t 8)⟩,
      ⟨some 22, true, none, .bin .eql (.u 20) (.u 21)⟩])
   (.cond (.t 22)
    (.seq (.region [⟨some 23, false, none, .mov (.t 0)⟩,
       ⟨some 24, false, none, .mov (.t 2)⟩,
       ⟨some 25, false, none, .app 4 32 (.u 23) (.u 24)⟩,
       ⟨some 6, true, none, .mov (.u 25)⟩])
    (.ret))
    (.skip)))
  (.seq (.seq (.region [⟨some 26, false, none, .mov (.t 8)⟩,
      ⟨some 27, false, none, .mov (.t 7)⟩,
      ⟨some 28, false, none, .bin .add (.u 26) (.u 27)⟩,
      ⟨some 29, false, none, .mov (.t 0)⟩,
      ⟨some 30, false, none, .cap (.u 29)⟩,
      ⟨some 31, true, none, .bin .gtr (.u 28) (.u 30)⟩])
   (.cond (.t 31)
    (.seq (.region [⟨some 32, false, none, .mov (.t 0)⟩,
       ⟨some 33, false, none, .mov (.t 1)⟩,
       ⟨some 34, false, none, .slL 4 (.u 32) none (some (.u 33)) none⟩,
       ⟨some 35, false, none, .mov (.t 8)⟩,
       ⟨some 36, false, none, .mov (.t 7)⟩,
       ⟨some 37, false, none, .bin .add (.u 35) (.u 36)⟩,
       ⟨some 38, false, none, .mov (.t 1)⟩,
       ⟨some 39, false, none, .bin .sub (.u 37) (.u 38)⟩,
       ⟨some 40, false, none, .appZ 4 32 [.int .i64 0, .int .i64 0, .int .i64 0, .int .i64 0] (.u 34) (.u 39)⟩,
       ⟨some 9, true, none, .mov (.u 40)⟩])
    (.seq (.region [⟨some 41, false, none, .mov (.t 9)⟩,
       ⟨some 42, false, none, .mov (.t 1)⟩,
       ⟨some 43, false, none, .slL 4 (.u 41) (some (.u 42)) none none⟩,
       ⟨some 44, false, none, .mov (.t 2)⟩,
       ⟨some 45, false, none, .copy 4 (.u 43) (.u 44)⟩])
    (.seq (.regionD [⟨0, [9], false, [], ⟨some 46, false, none, .mov (.t 9)⟩⟩,
       ⟨1, [1], false, [], ⟨some 47, false, none, .mov (.t 1)⟩⟩,
       ⟨2, [7], false, [], ⟨some 48, false, none, .mov (.t 7)⟩⟩,
       ⟨3, [47, 48], false, [], ⟨some 49, false, none, .bin .add (.u 47) (.u 48)⟩⟩,
       ⟨4, [46, 49], false, [], ⟨some 50, false, none, .slL 4 (.u 46) (some (.u 49)) none none⟩⟩,
       ⟨5, [0], false, [], ⟨some 51, false, none, .mov (.t 0)⟩⟩,
       ⟨6, [1], false, [], ⟨some 52, false, none, .mov (.t 1)⟩⟩,
       ⟨7, [51, 52], false, [], ⟨some 53, false, none, .slL 4 (.u 51) (some (.u 52)) none none⟩⟩,
       ⟨8, [50, 53], false, [], ⟨some 54, false, none, .copy 4 (.u 50) (.u 53)⟩⟩])
    (.seq (.region [⟨some 55, false, none, .mov (.t 9)⟩,
       ⟨some 6, true, none, .mov (.u 55)⟩])
    (.ret)))))
    (.skip)))
  (.seq (.region [⟨some 56, false, none, .mov (.t 0)⟩,
     ⟨some 57, false, none, .mov (.t 8)⟩,
     ⟨some 58, false, none, .mov (.t 7)⟩,
     ⟨some 59, false, none, .bin .add (.u 57) (.u 58)⟩,
     ⟨some 60, false, none, .slL 4 (.u 56) none (some (.u 59)) none⟩,
     ⟨some 0, true, none, .mov (.u 60)⟩])
  (.seq (.seq (.region [⟨some 61, false, none, .mov (.t 2)⟩,
      ⟨some 62, false, none, .mov (.t 0)⟩,
      ⟨some 63, false, none, .mov (.t 1)⟩,
      ⟨some 64, false, none, .mov (.t 7)⟩,
      ⟨some 65, false, none, .bin .add (.u 63) (.u 64)⟩,
      ⟨some 66, false, none, .slL 4 (.u 62) (some (.u 65)) none none⟩,
      ⟨some 67, false, none, .build [] [(0, 1, (.c (.any)))]⟩,
      ⟨some 68, true, none, .un .not (.u 67)⟩])
   (.cond (.t 68)
    (.seq (.regionD [⟨0, [0], false, [], ⟨some 69, false, none, .mov (.t 0)⟩⟩,
       ⟨1, [1], false, [], ⟨some 70, false, none, .mov (.t 1)⟩⟩,
       ⟨2, [7], false, [], ⟨some 71, false, none, .mov (.t 7)⟩⟩,
       ⟨3, [70, 71], false, [], ⟨some 72, false, none, .bin .add (.u 70) (.u 71)⟩⟩,
       ⟨4, [69, 72], false, [], ⟨some 73, false, none, .slL 4 (.u 69) (some (.u 72)) none none⟩⟩,
       ⟨5, [0], false, [], ⟨some 74, false, none, .mov (.t 0)⟩⟩,
       ⟨6, [1], false, [], ⟨some 75, false, none, .mov (.t 1)⟩⟩,
       ⟨7, [74, 75], false, [], ⟨some 76, false, none, .slL 4 (.u 74) (some (.u 75)) none none⟩⟩,
       ⟨8, [73, 76], false, [], ⟨some 77, false, none, .copy 4 (.u 73) (.u 76)⟩⟩])
    (.seq (.region [⟨some 78, false, none, .mov (.t 0)⟩,
       ⟨some 79, false, none, .mov (.t 1)⟩,
       ⟨some 80, false, none, .slL 4 (.u 78) (some (.u 79)) none none⟩,
       ⟨some 81, false, none, .mov (.t 2)⟩,
       ⟨some 82, false, none, .copy 4 (.u 80) (.u 81)⟩])
    (.seq (.region [⟨some 83, false, none, .mov (.t 0)⟩,
       ⟨some 6, true, none, .mov (.u 83)⟩])
    (.ret))))
    (.skip)))
  (.seq (.region [⟨some 84, false, none, .mov (.t 0)⟩,
     ⟨some 85, false, none, .mov (.t 8)⟩,
     ⟨some 86, false, none, .slL 4 (.u 84) (some (.u 85)) none none⟩,
     ⟨some 87, false, none, .mov (.t 2)⟩,
     ⟨some 88, false, none, .copy 4 (.u 86) (.u 87)⟩])
  (.seq (.region [⟨some 89, false, none, .mov (.t 0)⟩,
     ⟨some 90, false, none, .mov (.t 1)⟩,
     ⟨some 91, false, none, .slL 4 (.u 89) (some (.u 90)) none none⟩,
     ⟨some 92, false, none, .mov (.t 7)⟩,
     ⟨some 93, false, none, .call 65 [(.u 91), (.u 92)]⟩])
  (.seq (.region [⟨some 94, false, none, .mov (.t 0)⟩,
     ⟨some 6, true, none, .mov (.u 94)⟩])
  (.ret))))))))))))
def r56 : List LRes := [.slot 6]
theorem t56 : (Try.f56.body.bind (trCode v56 Try.prog Try.f56.ntmps)) = some c56 ∧ trRes v56 Try.prog Try.f56.results.toList = some r56 := ⟨by kernel_rfl, by kernel_rfl⟩

def v57 : Nat → Bool := fun t => [0, 1, 2].contains t
def c57 : LCode :=
  .seq (.region [⟨some 1, true, none, .box (.t 0)⟩,
     ⟨some 2, true, none, .zero [.int .i64 0, .int .i64 0, .fsl 1 0 []]⟩])
  (.seq (.region [⟨some 3, false, none, .faddr 2 (.t 1)⟩,
     ⟨some 4, false, none, .load false 1 (.u 3)⟩,
     ⟨some 5, false, none, .call 66 [(.u 4), (.c (.fn 32))]⟩,
     ⟨some 6, false, none, .faddr 2 (.t 1)⟩,
     ⟨none, true, none, .store 1 (.u 6) (.u 5)⟩])
  (.seq (.region [⟨some 7, false, none, .load true 3 (.t 1)⟩,
     ⟨none, true, none, .store 3 (.t 2) (.u 7)⟩])
  (.ret)))
def r57 : List LRes := [.cell true 3 2]
theorem t57 : (Try.f57.body.bind (trCode v57 Try.prog Try.f57.ntmps)) = some c57 ∧ trRes v57 Try.prog Try.f57.results.toList = some r57 := ⟨by kernel_rfl, by kernel_rfl⟩

def v58 : Nat → Bool := fun t => [0, 1, 4, 5, 7, 10, 14, 15, 16, 17].contains t
def c58 : LCode :=
  .seq (.region [⟨some 4, true, none, .mov (.c (.fsl 1 0 []))⟩])
  (.seq (.seq (.region [⟨some 8, false, none, .mov (.t 0)⟩,
      ⟨some 9, false, none, .lenL (.u 8)⟩,
      ⟨some 10, true, none, .bin .eql (.u 9) (.c (.int .i64 0))⟩])
   (.cond (.t 10)
    (.seq (.region [⟨some 4, true, none, .mov (.c (.fsl 1 0 []))⟩])
    (.ret))
    (.skip)))
  (.seq (.region [⟨some 11, false, none, .mov (.t 0)⟩,
     ⟨some 12, false, none, .lenL (.u 11)⟩,
     ⟨some 13, false, none, .make 4 32 [.int .i64 0, .int .i64 0, .int .i64 0, .int .i64 0] (.c (.int .i64 0)) (.u 12)⟩,
     ⟨some 5, true, none, .mov (.u 13)⟩])
  (.seq (.seq (.region [⟨some 14, true, none, .mov (.t 0)⟩,
      ⟨some 15, true, none, .lenL (.t 14)⟩,
      ⟨some 16, true, none, .mov (.c (.int .i64 0))⟩])
   (.block 0 (.loop (.seq (.region [⟨some 17, true, none, .bin .lss (.t 16) (.t 15)⟩])
     (.seq (.cond (.t 17)
       (.skip)
       (.exit 0))
     (.seq (.block 1 (.seq (.region [⟨some 18, false, none, .iaS 4 (.t 14) (.t 16)⟩,
          ⟨some 19, false, none, .load true 4 (.u 18)⟩,
          ⟨some 7, true, none, .zero [.int .i64 0, .int .i64 0, .int .i64 0, .int .i64 0]⟩,
          ⟨none, true, none, .store 4 (.t 7) (.u 19)⟩])
       (.region [⟨some 20, false, none, .mov (.t 5)⟩,
         ⟨some 21, false, none, .mov (.t 1)⟩,
         ⟨some 22, false, none, .load true 4 (.t 7)⟩,
         ⟨some 23, false, none, .callV (.u 21) [(.u 22)]⟩,
         ⟨some 24, false, none, .mkS 4 1 [.int .i64 0, .int .i64 0, .int .i64 0, .int .i64 0] [(0, 4, (.u 23))]⟩,
         ⟨some 25, false, none, .app 4 32 (.u 20) (.u 24)⟩,
         ⟨some 5, true, none, .mov (.u 25)⟩])))
     (.region [⟨some 26, false, none, .bin .add (.t 16) (.c (.int .i64 1))⟩,
       ⟨some 16, true, none, .mov (.u 26)⟩])))))))
  (.seq (.region [⟨some 27, false, none, .mov (.t 5)⟩,
     ⟨some 4, true, none, .mov (.u 27)⟩])
  (.ret)))))
def r58 : List LRes := [.slot 4]
theorem t58 : (Try.f58.body.bind (trCode v58 Try.prog Try.f58.ntmps)) = some c58 ∧ trRes v58 Try.prog Try.f58.results.toList = some r58 := ⟨by kernel_rfl, by kernel_rfl⟩

def v59 : Nat → Bool := fun t => [0, 1, 2].contains t
def c59 : LCode :=
  .seq (.region [⟨some 1, true, none, .box (.t 0)⟩,
     ⟨some 2, true, none, .zero [.int .i64 0, .int .i64 0, .int .i64 0, .int .i64 0]⟩])
  (.seq (.region [⟨some 3, false, none, .load true 4 (.t 1)⟩,
     ⟨none, true, none, .store 4 (.t 2) (.u 3)⟩])
  (.ret))
def r59 : List LRes := [.cell true 4 2]
theorem t59 : (Try.f59.body.bind (trCode v59 Try.prog Try.f59.ntmps)) = some c59 ∧ trRes v59 Try.prog Try.f59.results.toList = some r59 := ⟨by kernel_rfl, by kernel_rfl⟩

def v60 : Nat → Bool := fun t => [0, 1, 4, 5, 7, 8, 9, 16].contains t
def c60 : LCode :=
  .seq (.region [⟨some 4, true, none, .mov (.c (.int .i64 0))⟩])
  (.seq (.seq (.region [⟨some 6, false, none, .mov (.t 0)⟩,
      ⟨some 7, true, none, .lenL (.u 6)⟩,
      ⟨some 8, true, none, .mov (.c (.int .i64 0))⟩])
   (.block 0 (.loop (.seq (.region [⟨some 9, true, none, .bin .lss (.t 8) (.t 7)⟩])
     (.seq (.cond (.t 9)
       (.skip)
       (.exit 0))
     (.seq (.block 1 (.seq (.region [⟨some 10, false, none, .mov (.t 8)⟩,
          ⟨some 5, true, none, .mov (.u 10)⟩])
       (.seq (.region [⟨some 11, false, none, .mov (.t 1)⟩,
          ⟨some 12, false, none, .mov (.t 0)⟩,
          ⟨some 13, false, none, .mov (.t 5)⟩,
          ⟨some 14, false, none, .iaS 14 (.u 12) (.u 13)⟩,
          ⟨some 15, false, none, .load true 14 (.u 14)⟩,
          ⟨some 16, true, none, .callV (.u 11) [(.u 15)]⟩])
       (.cond (.t 16)
        (.seq (.region [⟨some 17, false, none, .mov (.t 5)⟩,
           ⟨some 4, true, none, .mov (.u 17)⟩])
        (.ret))
        (.skip)))))
     (.region [⟨some 18, false, none, .bin .add (.t 8) (.c (.int .i64 1))⟩,
       ⟨some 8, true, none, .mov (.u 18)⟩])))))))
  (.seq (.region [⟨some 4, true, none, .mov (.c (.int .i64 (-1)))⟩])
  (.ret)))
def r60 : List LRes := [.slot 4]
theorem t60 : (Try.f60.body.bind (trCode v60 Try.prog Try.f60.ntmps)) = some c60 ∧ trRes v60 Try.prog Try.f60.results.toList = some r60 := ⟨by kernel_rfl, by kernel_rfl⟩

def v61 : Nat → Bool := fun t => [0, 1, 2, 3].contains t
def c61 : LCode :=
  .seq (.region [⟨some 2, true, none, .box (.t 0)⟩,
     ⟨some 3, true, none, .mov (.c (.bool false))⟩])
  (.seq (.region [⟨some 4, false, none, .faddr 0 (.t 2)⟩,
     ⟨some 5, false, none, .load false 1 (.u 4)⟩,
     ⟨some 6, false, none, .load false 1 (.t 1)⟩,
     ⟨some 7, false, none, .bin .eql (.u 5) (.u 6)⟩,
     ⟨some 3, true, none, .mov (.u 7)⟩])
  (.ret))
def r61 : List LRes := [.slot 3]
theorem t61 : (Try.f61.body.bind (trCode v61 Try.prog Try.f61.ntmps)) = some c61 ∧ trRes v61 Try.prog Try.f61.results.toList = some r61 := ⟨by kernel_rfl, by kernel_rfl⟩

def v62 : Nat → Bool := fun t => [0, 1, 2, 6, 7, 16].contains t
def c62 : LCode :=
  .seq (.region [⟨some 6, true, none, .mov (.c (.fsl 1 0 []))⟩])
  (.seq (.region [⟨some 8, false, none, .mov (.t 0)⟩,
     ⟨some 9, false, none, .mov (.t 1)⟩,
     ⟨some 10, false, none, .mov (.t 2)⟩,
     ⟨some 11, false, none, .mov (.t 0)⟩,
     ⟨some 12, false, none, .lenL (.u 11)⟩,
     ⟨some 13, false, none, .slL 14 (.u 8) (some (.u 9)) (some (.u 10)) (some (.u 12))⟩])
  (.seq (.seq (.region [⟨some 14, false, none, .mov (.t 1)⟩,
      ⟨some 15, false, none, .mov (.t 2)⟩,
      ⟨some 16, true, none, .bin .eql (.u 14) (.u 15)⟩])
   (.cond (.t 16)
    (.seq (.region [⟨some 17, false, none, .mov (.t 0)⟩,
       ⟨some 6, true, none, .mov (.u 17)⟩])
    (.ret))
    (.skip)))
  (.seq (.region [⟨some 18, false, none, .mov (.t 0)⟩,
     ⟨some 19, false, none, .lenL (.u 18)⟩,
     ⟨some 7, true, none, .mov (.u 19)⟩])
  (.seq (.regionD [⟨0, [0], false, [], ⟨some 20, false, none, .mov (.t 0)⟩⟩,
     ⟨1, [1], false, [], ⟨some 21, false, none, .mov (.t 1)⟩⟩,
     ⟨2, [20, 21], false, [], ⟨some 22, false, none, .slL 14 (.u 20) none (some (.u 21)) none⟩⟩,
     ⟨3, [0], false, [], ⟨some 23, false, none, .mov (.t 0)⟩⟩,
     ⟨4, [2], false, [], ⟨some 24, false, none, .mov (.t 2)⟩⟩,
     ⟨5, [23, 24], false, [], ⟨some 25, false, none, .slL 14 (.u 23) (some (.u 24)) none none⟩⟩,
     ⟨6, [22, 25], false, [], ⟨some 26, false, none, .app 14 144 (.u 22) (.u 25)⟩⟩,
     ⟨7, [26], false, [], ⟨some 0, true, none, .mov (.u 26)⟩⟩])
  (.seq (.region [⟨some 27, false, none, .mov (.t 0)⟩,
     ⟨some 28, false, none, .mov (.t 0)⟩,
     ⟨some 29, false, none, .lenL (.u 28)⟩,
     ⟨some 30, false, none, .mov (.t 7)⟩,
     ⟨some 31, false, none, .slL 14 (.u 27) (some (.u 29)) (some (.u 30)) none⟩,
     ⟨none, true, none, .clear 14 [.int .i64 0, .int .i64 0, .int .i64 0, .int .i64 0, .int .i64 0, .int .i64 0, .int .i64 0, .int .i64 0, .int .i64 0, .int .i64 0, .str [], .str [], .fsl 1 0 [], .bool false] (.u 31)⟩])
  (.seq (.region [⟨some 32, false, none, .mov (.t 0)⟩,
     ⟨some 6, true, none, .mov (.u 32)⟩])
  (.ret)))))))
def r62 : List LRes := [.slot 6]
theorem t62 : (Try.f62.body.bind (trCode v62 Try.prog Try.f62.ntmps)) = some c62 ∧ trRes v62 Try.prog Try.f62.results.toList = some r62 := ⟨by kernel_rfl, by kernel_rfl⟩

def v63 : Nat → Bool := fun t => [0, 2].contains t
def c63 : LCode :=
  .seq (.region [⟨some 2, true, none, .mov (.c (.bool false))⟩])
  (.seq (.region [⟨some 3, false, none, .mov (.t 0)⟩,
     ⟨some 4, false, none, .bin .geq (.u 3) (.c (.int .i64 0))⟩,
     ⟨some 5, false, none, .mov (.u 4)⟩,
     ⟨some 6, false, some ((.u 5), true), .mov (.t 0)⟩,
     ⟨some 7, false, some ((.u 5), true), .bin .lss (.u 6) (.c (.int .i64 4294967295))⟩,
     ⟨some 8, false, none, .pick (.u 5) (.u 7) (.c (.bool false))⟩,
     ⟨some 2, true, none, .mov (.u 8)⟩])
  (.ret))
def r63 : List LRes := [.slot 2]
theorem t63 : (Try.f63.body.bind (trCode v63 Try.prog Try.f63.ntmps)) = some c63 ∧ trRes v63 Try.prog Try.f63.results.toList = some r63 := ⟨by kernel_rfl, by kernel_rfl⟩

def v65 : Nat → Bool := fun t => [0, 1].contains t
def c65 : LCode :=
  .region [⟨some 4, false, none, .mov (.t 0)⟩,
    ⟨some 5, false, none, .mov (.t 0)⟩,
    ⟨some 6, false, none, .lenL (.u 5)⟩,
    ⟨some 7, false, none, .mov (.t 1)⟩,
    ⟨some 8, false, none, .bin .sub (.u 6) (.u 7)⟩,
    ⟨some 9, false, none, .call 67 [(.u 4), (.u 8)]⟩]
def r65 : List LRes := []
theorem t65 : (Try.f65.body.bind (trCode v65 Try.prog Try.f65.ntmps)) = some c65 ∧ trRes v65 Try.prog Try.f65.results.toList = some r65 := ⟨by kernel_rfl, by kernel_rfl⟩

def v66 : Nat → Bool := fun t => [0, 1, 4, 5, 7, 10, 14, 15, 16, 17].contains t
def c66 : LCode :=
  .seq (.region [⟨some 4, true, none, .mov (.c (.fsl 1 0 []))⟩])
  (.seq (.seq (.region [⟨some 8, false, none, .mov (.t 0)⟩,
      ⟨some 9, false, none, .lenL (.u 8)⟩,
      ⟨some 10, true, none, .bin .eql (.u 9) (.c (.int .i64 0))⟩])
   (.cond (.t 10)
    (.seq (.region [⟨some 4, true, none, .mov (.c (.fsl 1 0 []))⟩])
    (.ret))
    (.skip)))
  (.seq (.region [⟨some 11, false, none, .mov (.t 0)⟩,
     ⟨some 12, false, none, .lenL (.u 11)⟩,
     ⟨some 13, false, none, .make 14 144 [.int .i64 0, .int .i64 0, .int .i64 0, .int .i64 0, .int .i64 0, .int .i64 0, .int .i64 0, .int .i64 0, .int .i64 0, .int .i64 0, .str [], .str [], .fsl 1 0 [], .bool false] (.c (.int .i64 0)) (.u 12)⟩,
     ⟨some 5, true, none, .mov (.u 13)⟩])
  (.seq (.seq (.region [⟨some 14, true, none, .mov (.t 0)⟩,
      ⟨some 15, true, none, .lenL (.t 14)⟩,
      ⟨some 16, true, none, .mov (.c (.int .i64 0))⟩])
   (.block 0 (.loop (.seq (.region [⟨some 17, true, none, .bin .lss (.t 16) (.t 15)⟩])
     (.seq (.cond (.t 17)
       (.skip)
       (.exit 0))
     (.seq (.block 1 (.seq (.region [⟨some 18, false, none, .iaS 14 (.t 14) (.t 16)⟩,
          ⟨some 19, false, none, .load true 14 (.u 18)⟩,
          ⟨some 7, true, none, .zero [.int .i64 0, .int .i64 0, .int .i64 0, .int .i64 0, .int .i64 0, .int .i64 0, .int .i64 0, .int .i64 0, .int .i64 0, .int .i64 0, .str [], .str [], .fsl 1 0 [], .bool false]⟩,
          ⟨none, true, none, .store 14 (.t 7) (.u 19)⟩])
       (.region [⟨some 20, false, none, .mov (.t 5)⟩,
         ⟨some 21, false, none, .mov (.t 1)⟩,
         ⟨some 22, false, none, .load true 14 (.t 7)⟩,
         ⟨some 23, false, none, .callV (.u 21) [(.u 22)]⟩,
         ⟨some 24, false, none, .mkS 14 1 [.int .i64 0, .int .i64 0, .int .i64 0, .int .i64 0, .int .i64 0, .int .i64 0, .int .i64 0, .int .i64 0, .int .i64 0, .int .i64 0, .str [], .str [], .fsl 1 0 [], .bool false] [(0, 14, (.u 23))]⟩,
         ⟨some 25, false, none, .app 14 144 (.u 20) (.u 24)⟩,
         ⟨some 5, true, none, .mov (.u 25)⟩])))
     (.region [⟨some 26, false, none, .bin .add (.t 16) (.c (.int .i64 1))⟩,
       ⟨some 16, true, none, .mov (.u 26)⟩])))))))
  (.seq (.region [⟨some 27, false, none, .mov (.t 5)⟩,
     ⟨some 4, true, none, .mov (.u 27)⟩])
  (.ret)))))
def r66 : List LRes := [.slot 4]
theorem t66 : (Try.f66.body.bind (trCode v66 Try.prog Try.f66.ntmps)) = some c66 ∧ trRes v66 Try.prog Try.f66.results.toList = some r66 := ⟨by kernel_rfl, by kernel_rfl⟩

def v67 : Nat → Bool := fun t => [0, 1].contains t
def c67 : LCode :=
  .seq (.region [⟨some 4, false, none, .mov (.t 0)⟩,
     ⟨some 5, false, none, .mov (.t 1)⟩,
     ⟨some 6, false, none, .slL 4 (.u 4) none (some (.u 5)) none⟩,
     ⟨some 7, false, none, .call 68 [(.u 6)]⟩])
  (.seq (.region [⟨some 8, false, none, .mov (.t 0)⟩,
     ⟨some 9, false, none, .mov (.t 1)⟩,
     ⟨some 10, false, none, .slL 4 (.u 8) (some (.u 9)) none none⟩,
     ⟨some 11, false, none, .call 68 [(.u 10)]⟩])
  (.region [⟨some 12, false, none, .mov (.t 0)⟩,
    ⟨some 13, false, none, .call 68 [(.u 12)]⟩]))
def r67 : List LRes := []
theorem t67 : (Try.f67.body.bind (trCode v67 Try.prog Try.f67.ntmps)) = some c67 ∧ trRes v67 Try.prog Try.f67.results.toList = some r67 := ⟨by kernel_rfl, by kernel_rfl⟩

def v68 : Nat → Bool := fun t => [0, 2, 3, 9].contains t
def c68 : LCode :=
  .seq (.region [⟨some 4, false, none, .mov (.t 0)⟩,
     ⟨some 5, false, none, .lenL (.u 4)⟩,
     ⟨some 6, false, none, .bin .sub (.u 5) (.c (.int .i64 1))⟩,
     ⟨some 2, true, none, .mov (.c (.int .i64 0))⟩,
     ⟨some 3, true, none, .mov (.u 6)⟩])
  (.block 0 (.loop (.seq (.seq (.region [⟨some 7, false, none, .mov (.t 2)⟩,
        ⟨some 8, false, none, .mov (.t 3)⟩,
        ⟨some 9, true, none, .bin .lss (.u 7) (.u 8)⟩])
     (.cond (.t 9)
      (.skip)
      (.exit 0)))
    (.seq (.block 1 (.regionD [⟨0, [0], false, [], ⟨some 14, false, none, .mov (.t 0)⟩⟩,
        ⟨1, [2], false, [], ⟨some 15, false, none, .mov (.t 2)⟩⟩,
        ⟨2, [0], false, [], ⟨some 16, false, none, .mov (.t 0)⟩⟩,
        ⟨3, [3], false, [], ⟨some 17, false, none, .mov (.t 3)⟩⟩,
        ⟨4, [0], false, [], ⟨some 18, false, none, .mov (.t 0)⟩⟩,
        ⟨5, [3], false, [], ⟨some 19, false, none, .mov (.t 3)⟩⟩,
        ⟨6, [18, 19], false, [], ⟨some 20, false, none, .iaS 4 (.u 18) (.u 19)⟩⟩,
        ⟨7, [20], true, [], ⟨some 21, false, none, .load true 4 (.u 20)⟩⟩,
        ⟨8, [0], false, [], ⟨some 22, false, none, .mov (.t 0)⟩⟩,
        ⟨9, [2], false, [], ⟨some 23, false, none, .mov (.t 2)⟩⟩,
        ⟨10, [22, 23], false, [], ⟨some 24, false, none, .iaS 4 (.u 22) (.u 23)⟩⟩,
        ⟨11, [24], true, [], ⟨some 25, false, none, .load true 4 (.u 24)⟩⟩,
        ⟨12, [14, 15], false, [], ⟨some 26, false, none, .iaS 4 (.u 14) (.u 15)⟩⟩,
        ⟨13, [26, 21], false, [], ⟨none, true, none, .store 4 (.u 26) (.u 21)⟩⟩,
        ⟨14, [16, 17], false, [], ⟨some 27, false, none, .iaS 4 (.u 16) (.u 17)⟩⟩,
        ⟨15, [27, 25], false, [], ⟨none, true, none, .store 4 (.u 27) (.u 25)⟩⟩]))
    (.region [⟨some 10, false, none, .mov (.t 2)⟩,
      ⟨some 11, false, none, .bin .add (.u 10) (.c (.int .i64 1))⟩,
      ⟨some 12, false, none, .mov (.t 3)⟩,
      ⟨some 13, false, none, .bin .sub (.u 12) (.c (.int .i64 1))⟩,
      ⟨some 2, true, none, .mov (.u 11)⟩,
      ⟨some 3, true, none, .mov (.u 13)⟩])))))
def r68 : List LRes := []
theorem t68 : (Try.f68.body.bind (trCode v68 Try.prog Try.f68.ntmps)) = some c68 ∧ trRes v68 Try.prog Try.f68.results.toList = some r68 := ⟨by kernel_rfl, by kernel_rfl⟩


end Go.Proofs.Ytkdblnejpmbnfaa
