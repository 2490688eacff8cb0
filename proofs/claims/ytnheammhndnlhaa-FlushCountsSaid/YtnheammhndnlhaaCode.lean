/- The functions' bodies as the engine reads them; written by program out of the translation, checked by the kernel. -/
import Derived.Test.YtnheammhndnlhaaProg
import Derived.Test.YtnheammhndnlhaaLxL
import Derived.KernelRfl
namespace Go.Proofs.Ytnheammhndnlhaa
open Go Go.Lx
set_option maxRecDepth 100000
def v3 : Nat → Bool := fun t => [0, 1, 2, 6, 7, 8, 9, 10, 11, 12, 14, 25, 36, 47].contains t
def c3 : LCode :=
  .seq (.region [⟨some 6, true, none, .mov (.c (.bool false))⟩])
  (.seq (.region [⟨some 13, false, none, .build [.int .i64 0, .int .i64 0] [(0, 1, (.c (.int .i64 4)))]⟩,
     ⟨some 7, true, none, .zero [.int .i64 0, .int .i64 0]⟩,
     ⟨none, true, none, .store 2 (.t 7) (.u 13)⟩])
  (.seq (.region [⟨some 8, true, none, .mov (.c (.int .i64 0))⟩])
  (.seq (.seq (.region [⟨some 14, true, none, .mov (.t 0)⟩])
   (.cond (.t 14)
    (.region [⟨some 15, false, none, .mov (.t 1)⟩,
      ⟨some 16, false, none, .conv .i64 (.u 15)⟩,
      ⟨some 17, false, none, .bin .add (.c (.int .i64 1)) (.u 16)⟩,
      ⟨some 18, false, none, .build [.int .i64 0, .int .i64 0] [(0, 1, (.c (.int .i64 2))), (1, 1, (.u 17))]⟩,
      ⟨some 19, false, none, .mov (.t 1)⟩,
      ⟨some 20, false, none, .conv .i64 (.u 19)⟩,
      ⟨none, true, none, .store 2 (.t 7) (.u 18)⟩,
      ⟨some 8, true, none, .mov (.u 20)⟩])
    (.skip)))
  (.seq (.region [⟨some 21, false, none, .call 6 [(.c (.int .i64 0))]⟩,
     ⟨some 9, true, none, .zero [.int .i64 0, .int .i64 0]⟩,
     ⟨none, true, none, .store 2 (.t 9) (.u 21)⟩])
  (.seq (.seq (.region [⟨some 10, true, none, .mov (.c (.int .i64 0))⟩])
   (.block 0 (.loop (.seq (.seq (.region [⟨some 22, false, none, .mov (.t 10)⟩,
         ⟨some 23, false, none, .mov (.t 2)⟩,
         ⟨some 24, false, none, .conv .i64 (.u 23)⟩,
         ⟨some 25, true, none, .bin .lss (.u 22) (.u 24)⟩])
      (.cond (.t 25)
       (.skip)
       (.exit 0)))
     (.seq (.block 1 (.seq (.region [⟨some 29, false, none, .load true 2 (.t 7)⟩,
          ⟨some 30, false, none, .load true 2 (.t 9)⟩,
          ⟨some 31, false, none, .mov (.t 10)⟩,
          ⟨some 32, false, none, .call 7 [(.u 29), (.u 30), (.u 31)]⟩,
          ⟨some 28, false, none, .mov (.u 32)⟩,
          ⟨some 33, false, none, .ext (.u 28) 0⟩,
          ⟨some 34, false, none, .ext (.u 28) 1⟩,
          ⟨some 11, true, none, .zero [.int .i64 0, .int .i64 0]⟩,
          ⟨none, true, none, .store 2 (.t 11) (.u 33)⟩,
          ⟨some 12, true, none, .mov (.u 34)⟩])
       (.seq (.region [⟨some 35, false, none, .load true 2 (.t 11)⟩,
          ⟨none, true, none, .store 2 (.t 9) (.u 35)⟩])
       (.seq (.seq (.region [⟨some 36, true, none, .mov (.t 12)⟩])
        (.cond (.t 36)
         (.region [⟨some 37, false, none, .mov (.t 10)⟩,
           ⟨some 38, false, none, .call 6 [(.u 37)]⟩,
           ⟨none, true, none, .store 2 (.t 9) (.u 38)⟩])
         (.skip)))
       (.seq (.region [⟨some 39, false, none, .faddr 0 (.t 9)⟩,
          ⟨some 40, false, none, .load false 1 (.u 39)⟩,
          ⟨some 41, false, none, .mov (.t 8)⟩,
          ⟨some 42, false, none, .bin .gtr (.u 40) (.u 41)⟩,
          ⟨some 43, false, none, .mov (.u 42)⟩,
          ⟨some 44, false, some ((.u 43), false), .faddr 0 (.t 9)⟩,
          ⟨some 45, false, some ((.u 43), false), .load false 1 (.u 44)⟩,
          ⟨some 46, false, some ((.u 43), false), .bin .lss (.u 45) (.c (.int .i64 0))⟩,
          ⟨some 47, true, none, .pick (.u 43) (.c (.bool true)) (.u 46)⟩])
       (.cond (.t 47)
        (.seq (.region [⟨some 6, true, none, .mov (.c (.bool false))⟩])
        (.ret))
        (.skip)))))))
     (.region [⟨some 26, false, none, .mov (.t 10)⟩,
       ⟨some 27, false, none, .bin .add (.u 26) (.c (.int .i64 1))⟩,
       ⟨some 10, true, none, .mov (.u 27)⟩]))))))
  (.seq (.region [⟨some 48, false, none, .call 8 []⟩,
     ⟨some 6, true, none, .mov (.u 48)⟩])
  (.ret)))))))
def r3 : List LRes := [.slot 6]
theorem t3 : (Try.f3.body.bind (trCode v3 Try.prog Try.f3.ntmps)) = some c3 ∧ trRes v3 Try.prog Try.f3.results.toList = some r3 := ⟨by kernel_rfl, by kernel_rfl⟩

def v4 : Nat → Bool := fun t => [0, 1, 2, 3, 5, 6, 8, 9, 10, 12, 14, 16, 17, 18, 19, 20, 28, 29, 30, 31, 43, 44, 45, 46, 52, 53, 54, 55, 90].contains t
def c4 : LCode :=
  .seq (.region [⟨some 5, true, none, .box (.t 1)⟩,
     ⟨some 6, true, none, .box (.t 2)⟩,
     ⟨some 8, true, none, .mov (.c (.bool false))⟩])
  (.seq (.region [⟨some 21, false, none, .mov (.t 0)⟩,
     ⟨some 22, false, none, .call 9 [(.u 21), (.c (.int .i64 40))]⟩,
     ⟨some 9, true, none, .mov (.u 22)⟩])
  (.seq (.region [⟨some 23, false, none, .mov (.t 9)⟩,
     ⟨some 24, false, none, .call 10 [(.u 23)]⟩,
     ⟨some 25, false, none, .fld true 2 11 (.u 24)⟩,
     ⟨some 10, true, none, .zero [.int .i64 0, .int .i64 0]⟩,
     ⟨none, true, none, .store 2 (.t 10) (.u 25)⟩])
  (.seq (.seq (.region [⟨some 26, false, none, .load true 2 (.t 5)⟩,
      ⟨some 27, false, none, .load true 2 (.t 10)⟩,
      ⟨some 28, true, none, .mkS 2 2 [.int .i64 0, .int .i64 0] [(0, 2, (.u 26)), (2, 2, (.u 27))]⟩,
      ⟨some 29, true, none, .lenL (.t 28)⟩,
      ⟨some 30, true, none, .mov (.c (.int .i64 0))⟩])
   (.block 0 (.loop (.seq (.region [⟨some 31, true, none, .bin .lss (.t 30) (.t 29)⟩])
     (.seq (.cond (.t 31)
       (.skip)
       (.exit 0))
     (.seq (.block 1 (.seq (.region [⟨some 32, false, none, .iaS 2 (.t 28) (.t 30)⟩,
          ⟨some 33, false, none, .load true 2 (.u 32)⟩,
          ⟨some 12, true, none, .zero [.int .i64 0, .int .i64 0]⟩,
          ⟨none, true, none, .store 2 (.t 12) (.u 33)⟩])
       (.seq (.regionD [⟨0, [6], true, [], ⟨some 34, false, none, .load true 2 (.t 6)⟩⟩,
          ⟨1, [9], false, [], ⟨some 35, false, none, .mov (.t 9)⟩⟩,
          ⟨3, [9], false, [], ⟨some 37, false, none, .mov (.t 9)⟩⟩,
          ⟨6, [6], false, [], ⟨some 40, false, none, .faddr 1 (.t 6)⟩⟩,
          ⟨7, [40], true, [], ⟨some 41, false, none, .load false 1 (.u 40)⟩⟩,
          ⟨8, [41], false, [], ⟨some 42, false, none, .build [.int .i64 0, .int .i64 0] [(0, 1, (.c (.int .i64 1099511627776))), (1, 1, (.u 41))]⟩⟩,
          ⟨11, [], false, [], ⟨some 45, true, none, .mov (.c (.int .i64 0))⟩⟩,
          ⟨2, [35], false, [7, 0], ⟨some 36, false, none, .call 11 [(.u 35), (.c (.int .i64 5))]⟩⟩,
          ⟨4, [37], false, [7, 0], ⟨some 38, false, none, .call 11 [(.u 37), (.c (.int .i64 9))]⟩⟩,
          ⟨5, [36, 38], false, [], ⟨some 39, false, none, .build [.int .i64 0, .int .i64 0] [(0, 1, (.u 36)), (1, 1, (.u 38))]⟩⟩,
          ⟨9, [34, 39, 42], false, [], ⟨some 43, true, none, .mkS 2 3 [.int .i64 0, .int .i64 0] [(0, 2, (.u 34)), (2, 2, (.u 39)), (4, 2, (.u 42))]⟩⟩,
          ⟨10, [43], false, [], ⟨some 44, true, none, .lenL (.t 43)⟩⟩])
       (.block 2 (.loop (.seq (.region [⟨some 46, true, none, .bin .lss (.t 45) (.t 44)⟩])
         (.seq (.cond (.t 46)
           (.skip)
           (.exit 2))
         (.seq (.block 3 (.seq (.region [⟨some 47, false, none, .iaS 2 (.t 43) (.t 45)⟩,
              ⟨some 48, false, none, .load true 2 (.u 47)⟩,
              ⟨some 14, true, none, .zero [.int .i64 0, .int .i64 0]⟩,
              ⟨none, true, none, .store 2 (.t 14) (.u 48)⟩])
           (.seq (.region [⟨some 49, false, none, .mov (.t 3)⟩,
              ⟨some 50, false, none, .mov (.t 9)⟩,
              ⟨some 51, false, none, .call 11 [(.u 50), (.c (.int .i64 15))]⟩,
              ⟨some 52, true, none, .mkS 1 2 [.int .i64 0] [(0, 1, (.u 49)), (1, 1, (.u 51))]⟩,
              ⟨some 53, true, none, .lenL (.t 52)⟩,
              ⟨some 54, true, none, .mov (.c (.int .i64 0))⟩])
           (.block 4 (.loop (.seq (.region [⟨some 55, true, none, .bin .lss (.t 54) (.t 53)⟩])
             (.seq (.cond (.t 55)
               (.skip)
               (.exit 4))
             (.seq (.block 5 (.seq (.region [⟨some 56, false, none, .iaS 1 (.t 52) (.t 54)⟩,
                  ⟨some 57, false, none, .load false 1 (.u 56)⟩,
                  ⟨some 16, true, none, .mov (.u 57)⟩])
               (.seq (.region [⟨some 59, false, none, .load true 2 (.t 12)⟩,
                  ⟨some 60, false, none, .load true 2 (.t 14)⟩,
                  ⟨some 61, false, none, .mov (.t 16)⟩,
                  ⟨some 62, false, none, .call 7 [(.u 59), (.u 60), (.u 61)]⟩,
                  ⟨some 58, false, none, .mov (.u 62)⟩,
                  ⟨some 63, false, none, .ext (.u 58) 0⟩,
                  ⟨some 64, false, none, .ext (.u 58) 1⟩,
                  ⟨some 17, true, none, .zero [.int .i64 0, .int .i64 0]⟩,
                  ⟨none, true, none, .store 2 (.t 17) (.u 63)⟩,
                  ⟨some 18, true, none, .mov (.u 64)⟩])
               (.seq (.region [⟨some 66, false, none, .load true 2 (.t 12)⟩,
                  ⟨some 67, false, none, .load true 2 (.t 14)⟩,
                  ⟨some 68, false, none, .mov (.t 16)⟩,
                  ⟨some 69, false, none, .call 12 [(.u 66), (.u 67), (.u 68)]⟩,
                  ⟨some 65, false, none, .mov (.u 69)⟩,
                  ⟨some 70, false, none, .ext (.u 65) 0⟩,
                  ⟨some 71, false, none, .ext (.u 65) 1⟩,
                  ⟨some 19, true, none, .zero [.int .i64 0, .int .i64 0]⟩,
                  ⟨none, true, none, .store 2 (.t 19) (.u 70)⟩,
                  ⟨some 20, true, none, .mov (.u 71)⟩])
               (.seq (.regionD [⟨0, [17], true, [], ⟨some 72, false, none, .load true 2 (.t 17)⟩⟩,
                  ⟨1, [19], true, [], ⟨some 73, false, none, .load true 2 (.t 19)⟩⟩,
                  ⟨2, [72, 73], false, [], ⟨some 74, false, none, .eqS true 2 [(0, 1), (1, 1)] (.u 72) (.u 73)⟩⟩,
                  ⟨3, [74], false, [], ⟨some 75, false, none, .mov (.u 74)⟩⟩,
                  ⟨4, [18, 75], false, [], ⟨some 76, false, some ((.u 75), false), .mov (.t 18)⟩⟩,
                  ⟨5, [20, 75], false, [], ⟨some 77, false, some ((.u 75), false), .mov (.t 20)⟩⟩,
                  ⟨6, [76, 77, 75], false, [], ⟨some 78, false, some ((.u 75), false), .eqB true (.u 76) (.u 77)⟩⟩,
                  ⟨7, [75, 78], false, [], ⟨some 79, false, none, .pick (.u 75) (.c (.bool true)) (.u 78)⟩⟩,
                  ⟨8, [79], false, [], ⟨some 80, false, none, .mov (.u 79)⟩⟩,
                  ⟨9, [12, 80], true, [], ⟨some 81, false, some ((.u 80), false), .load true 2 (.t 12)⟩⟩,
                  ⟨10, [14, 80], true, [], ⟨some 82, false, some ((.u 80), false), .load true 2 (.t 14)⟩⟩,
                  ⟨11, [16, 80], false, [], ⟨some 83, false, some ((.u 80), false), .mov (.t 16)⟩⟩,
                  ⟨13, [12, 80], true, [], ⟨some 85, false, some ((.u 80), false), .load true 2 (.t 12)⟩⟩,
                  ⟨14, [14, 80], true, [], ⟨some 86, false, some ((.u 80), false), .load true 2 (.t 14)⟩⟩,
                  ⟨15, [16, 80], false, [], ⟨some 87, false, some ((.u 80), false), .mov (.t 16)⟩⟩,
                  ⟨12, [81, 82, 83, 80], false, [14, 13], ⟨some 84, false, some ((.u 80), false), .call 13 [(.u 81), (.u 82), (.u 83)]⟩⟩,
                  ⟨16, [85, 86, 87, 80], false, [], ⟨some 88, false, some ((.u 80), false), .call 14 [(.u 85), (.u 86), (.u 87)]⟩⟩,
                  ⟨17, [84, 88, 80], false, [], ⟨some 89, false, some ((.u 80), false), .eqB true (.u 84) (.u 88)⟩⟩,
                  ⟨18, [80, 89], false, [], ⟨some 90, true, none, .pick (.u 80) (.c (.bool true)) (.u 89)⟩⟩])
               (.cond (.t 90)
                (.seq (.region [⟨some 8, true, none, .mov (.c (.bool false))⟩])
                (.ret))
                (.skip)))))))
             (.region [⟨some 91, false, none, .bin .add (.t 54) (.c (.int .i64 1))⟩,
               ⟨some 54, true, none, .mov (.u 91)⟩])))))))))
         (.region [⟨some 92, false, none, .bin .add (.t 45) (.c (.int .i64 1))⟩,
           ⟨some 45, true, none, .mov (.u 92)⟩])))))))))
     (.region [⟨some 93, false, none, .bin .add (.t 30) (.c (.int .i64 1))⟩,
       ⟨some 30, true, none, .mov (.u 93)⟩])))))))
  (.seq (.regionD [⟨0, [5], true, [], ⟨some 94, false, none, .load true 2 (.t 5)⟩⟩,
     ⟨2, [5], true, [], ⟨some 96, false, none, .load true 2 (.t 5)⟩⟩,
     ⟨1, [94], false, [2], ⟨some 95, false, none, .call 15 [(.u 94)]⟩⟩,
     ⟨3, [96], false, [], ⟨some 97, false, none, .call 16 [(.u 96)]⟩⟩,
     ⟨4, [95, 97], false, [], ⟨some 98, false, none, .eqB false (.u 95) (.u 97)⟩⟩,
     ⟨5, [98], false, [], ⟨some 99, false, none, .mov (.u 98)⟩⟩,
     ⟨6, [10, 99], true, [], ⟨some 100, false, some ((.u 99), true), .load true 2 (.t 10)⟩⟩,
     ⟨7, [100, 99], false, [], ⟨some 101, false, some ((.u 99), true), .call 15 [(.u 100)]⟩⟩,
     ⟨8, [99, 101], false, [], ⟨some 102, false, none, .pick (.u 99) (.u 101) (.c (.bool false))⟩⟩,
     ⟨9, [102], false, [], ⟨some 103, false, none, .mov (.u 102)⟩⟩,
     ⟨10, [3, 103], false, [], ⟨some 104, false, some ((.u 103), true), .mov (.t 3)⟩⟩,
     ⟨12, [3, 103], false, [], ⟨some 106, false, some ((.u 103), true), .mov (.t 3)⟩⟩,
     ⟨13, [106, 103], false, [], ⟨some 107, false, some ((.u 103), true), .build [.int .i64 0, .int .i64 0] [(1, 1, (.u 106))]⟩⟩,
     ⟨11, [104, 103], false, [], ⟨some 105, false, some ((.u 103), true), .call 6 [(.u 104)]⟩⟩,
     ⟨14, [105, 107, 103], false, [], ⟨some 108, false, some ((.u 103), true), .eqS false 2 [(0, 1), (1, 1)] (.u 105) (.u 107)⟩⟩,
     ⟨15, [103, 108], false, [], ⟨some 109, false, none, .pick (.u 103) (.u 108) (.c (.bool false))⟩⟩,
     ⟨16, [109], false, [], ⟨some 110, false, none, .mov (.u 109)⟩⟩,
     ⟨17, [110], false, [], ⟨some 111, false, some ((.u 110), true), .call 8 []⟩⟩,
     ⟨18, [110, 111], false, [], ⟨some 112, false, none, .pick (.u 110) (.u 111) (.c (.bool false))⟩⟩,
     ⟨19, [112], false, [], ⟨some 8, true, none, .mov (.u 112)⟩⟩])
  (.ret)))))
def r4 : List LRes := [.slot 8]
theorem t4 : (Try.f4.body.bind (trCode v4 Try.prog Try.f4.ntmps)) = some c4 ∧ trRes v4 Try.prog Try.f4.results.toList = some r4 := ⟨by kernel_rfl, by kernel_rfl⟩

def v5 : Nat → Bool := fun t => [0, 1, 2, 6, 7, 8, 9, 10].contains t
def c5 : LCode :=
  .seq (.region [⟨some 6, true, none, .mov (.c (.bool false))⟩])
  (.seq (.region [⟨some 11, false, none, .mov (.t 0)⟩,
     ⟨some 12, false, none, .conv .i64 (.u 11)⟩,
     ⟨some 13, false, none, .bin .add (.c (.int .i64 1)) (.u 12)⟩,
     ⟨some 14, false, none, .build [.int .i64 0, .int .i64 0] [(0, 1, (.c (.int .i64 3))), (1, 1, (.u 13))]⟩,
     ⟨some 7, true, none, .zero [.int .i64 0, .int .i64 0]⟩,
     ⟨none, true, none, .store 2 (.t 7) (.u 14)⟩])
  (.seq (.region [⟨some 15, false, none, .mov (.t 1)⟩,
     ⟨some 16, false, none, .conv .i64 (.u 15)⟩,
     ⟨some 17, false, none, .call 6 [(.u 16)]⟩,
     ⟨some 8, true, none, .zero [.int .i64 0, .int .i64 0]⟩,
     ⟨none, true, none, .store 2 (.t 8) (.u 17)⟩])
  (.seq (.region [⟨some 19, false, none, .load true 2 (.t 7)⟩,
     ⟨some 20, false, none, .load true 2 (.t 8)⟩,
     ⟨some 21, false, none, .mov (.t 1)⟩,
     ⟨some 22, false, none, .conv .i64 (.u 21)⟩,
     ⟨some 23, false, none, .mov (.t 2)⟩,
     ⟨some 24, false, none, .conv .i64 (.u 23)⟩,
     ⟨some 25, false, none, .bin .add (.u 22) (.u 24)⟩,
     ⟨some 26, false, none, .call 7 [(.u 19), (.u 20), (.u 25)]⟩,
     ⟨some 18, false, none, .mov (.u 26)⟩,
     ⟨some 27, false, none, .ext (.u 18) 0⟩,
     ⟨some 28, false, none, .ext (.u 18) 1⟩,
     ⟨some 9, true, none, .zero [.int .i64 0, .int .i64 0]⟩,
     ⟨none, true, none, .store 2 (.t 9) (.u 27)⟩,
     ⟨some 10, true, none, .mov (.u 28)⟩])
  (.seq (.region [⟨some 29, false, none, .mov (.t 10)⟩,
     ⟨some 30, false, none, .mov (.t 2)⟩,
     ⟨some 31, false, none, .conv .i64 (.u 30)⟩,
     ⟨some 32, false, none, .faddr 1 (.t 7)⟩,
     ⟨some 33, false, none, .load false 1 (.u 32)⟩,
     ⟨some 34, false, none, .bin .geq (.u 31) (.u 33)⟩,
     ⟨some 35, false, none, .eqB false (.u 29) (.u 34)⟩,
     ⟨some 36, false, none, .mov (.u 35)⟩,
     ⟨some 37, false, some ((.u 36), true), .load true 2 (.t 7)⟩,
     ⟨some 38, false, some ((.u 36), true), .load true 2 (.t 9)⟩,
     ⟨some 39, false, some ((.u 36), true), .mov (.t 1)⟩,
     ⟨some 40, false, some ((.u 36), true), .conv .i64 (.u 39)⟩,
     ⟨some 41, false, some ((.u 36), true), .mov (.t 2)⟩,
     ⟨some 42, false, some ((.u 36), true), .conv .i64 (.u 41)⟩,
     ⟨some 43, false, some ((.u 36), true), .bin .add (.u 40) (.u 42)⟩,
     ⟨some 44, false, some ((.u 36), true), .call 13 [(.u 37), (.u 38), (.u 43)]⟩,
     ⟨some 45, false, some ((.u 36), true), .mov (.t 10)⟩,
     ⟨some 46, false, some ((.u 36), true), .eqB false (.u 44) (.u 45)⟩,
     ⟨some 47, false, none, .pick (.u 36) (.u 46) (.c (.bool false))⟩,
     ⟨some 48, false, none, .mov (.u 47)⟩,
     ⟨some 49, false, some ((.u 48), true), .load true 2 (.t 7)⟩,
     ⟨some 50, false, some ((.u 48), true), .load true 2 (.t 8)⟩,
     ⟨some 51, false, some ((.u 48), true), .mov (.t 1)⟩,
     ⟨some 52, false, some ((.u 48), true), .conv .i64 (.u 51)⟩,
     ⟨some 53, false, some ((.u 48), true), .mov (.t 2)⟩,
     ⟨some 54, false, some ((.u 48), true), .conv .i64 (.u 53)⟩,
     ⟨some 55, false, some ((.u 48), true), .bin .add (.u 52) (.u 54)⟩,
     ⟨some 56, false, some ((.u 48), true), .call 13 [(.u 49), (.u 50), (.u 55)]⟩,
     ⟨some 57, false, some ((.u 48), true), .un .not (.u 56)⟩,
     ⟨some 58, false, none, .pick (.u 48) (.u 57) (.c (.bool false))⟩,
     ⟨some 59, false, none, .mov (.u 58)⟩,
     ⟨some 60, false, some ((.u 59), true), .call 8 []⟩,
     ⟨some 61, false, none, .pick (.u 59) (.u 60) (.c (.bool false))⟩,
     ⟨some 6, true, none, .mov (.u 61)⟩])
  (.ret)))))
def r5 : List LRes := [.slot 6]
theorem t5 : (Try.f5.body.bind (trCode v5 Try.prog Try.f5.ntmps)) = some c5 ∧ trRes v5 Try.prog Try.f5.results.toList = some r5 := ⟨by kernel_rfl, by kernel_rfl⟩

def v6 : Nat → Bool := fun t => [0, 2].contains t
def c6 : LCode :=
  .seq (.region [⟨some 2, true, none, .zero [.int .i64 0, .int .i64 0]⟩])
  (.seq (.region [⟨some 3, false, none, .mov (.t 0)⟩,
     ⟨some 4, false, none, .build [.int .i64 0, .int .i64 0] [(1, 1, (.u 3))]⟩,
     ⟨none, true, none, .store 2 (.t 2) (.u 4)⟩])
  (.ret))
def r6 : List LRes := [.cell true 2 2]
theorem t6 : (Try.f6.body.bind (trCode v6 Try.prog Try.f6.ntmps)) = some c6 ∧ trRes v6 Try.prog Try.f6.results.toList = some r6 := ⟨by kernel_rfl, by kernel_rfl⟩

def v7 : Nat → Bool := fun t => [0, 1, 2, 3, 4, 6, 7, 16, 19, 20, 23, 31].contains t
def c7 : LCode :=
  .seq (.region [⟨some 3, true, none, .box (.t 0)⟩,
     ⟨some 4, true, none, .box (.t 1)⟩,
     ⟨some 6, true, none, .zero [.int .i64 0, .int .i64 0]⟩,
     ⟨some 7, true, none, .mov (.c (.bool false))⟩])
  (.seq (.region [⟨some 8, false, none, .faddr 0 (.t 4)⟩,
     ⟨some 9, false, none, .load false 1 (.u 8)⟩,
     ⟨some 10, false, none, .mm true (.u 9) [(.c (.int .i64 0))]⟩,
     ⟨some 11, false, none, .mm false (.u 10) [(.c (.int .i64 1099511627775))]⟩,
     ⟨some 12, false, none, .bin .add (.u 11) (.c (.int .i64 1))⟩,
     ⟨some 13, false, none, .faddr 0 (.t 4)⟩,
     ⟨none, true, none, .store 1 (.u 13) (.u 12)⟩])
  (.seq (.seq (.region [⟨some 14, false, none, .load true 2 (.t 3)⟩,
      ⟨some 15, false, none, .call 15 [(.u 14)]⟩,
      ⟨some 16, true, none, .un .not (.u 15)⟩])
   (.cond (.t 16)
    (.seq (.region [⟨some 17, false, none, .load true 2 (.t 4)⟩,
       ⟨none, true, none, .store 2 (.t 6) (.u 17)⟩,
       ⟨some 7, true, none, .mov (.c (.bool false))⟩])
    (.ret))
    (.skip)))
  (.seq (.seq (.region [⟨some 18, false, none, .faddr 0 (.t 3)⟩,
      ⟨some 19, true, none, .load false 1 (.u 18)⟩])
   (.block 0 (.seq (.region [⟨some 21, false, none, .bin .eql (.t 19) (.c (.int .i64 4))⟩,
       ⟨some 20, true, none, .mov (.u 21)⟩])
    (.cond (.t 20)
     (.seq (.region [⟨some 22, false, none, .load true 2 (.t 4)⟩,
        ⟨none, true, none, .store 2 (.t 6) (.u 22)⟩,
        ⟨some 7, true, none, .mov (.c (.bool true))⟩])
     (.ret))
     (.seq (.region [⟨some 24, false, none, .bin .eql (.t 19) (.c (.int .i64 2))⟩,
        ⟨some 23, true, none, .mov (.u 24)⟩])
     (.cond (.t 23)
      (.seq (.regionD [⟨0, [4], true, [], ⟨some 25, false, none, .load true 2 (.t 4)⟩⟩,
         ⟨1, [4], false, [], ⟨some 26, false, none, .faddr 0 (.t 4)⟩⟩,
         ⟨2, [26], true, [], ⟨some 27, false, none, .load false 1 (.u 26)⟩⟩,
         ⟨3, [3], false, [], ⟨some 28, false, none, .faddr 1 (.t 3)⟩⟩,
         ⟨4, [28], true, [], ⟨some 29, false, none, .load false 1 (.u 28)⟩⟩,
         ⟨5, [27, 29], false, [], ⟨some 30, false, none, .bin .geq (.u 27) (.u 29)⟩⟩,
         ⟨6, [6, 25], false, [4, 2], ⟨none, true, none, .store 2 (.t 6) (.u 25)⟩⟩,
         ⟨7, [30], false, [], ⟨some 7, true, none, .mov (.u 30)⟩⟩])
      (.ret))
      (.seq (.region [⟨some 32, false, none, .bin .eql (.t 19) (.c (.int .i64 3))⟩,
         ⟨some 31, true, none, .mov (.u 32)⟩])
      (.cond (.t 31)
       (.seq (.regionD [⟨0, [4], true, [], ⟨some 33, false, none, .load true 2 (.t 4)⟩⟩,
          ⟨1, [2], false, [], ⟨some 34, false, none, .mov (.t 2)⟩⟩,
          ⟨2, [4], false, [], ⟨some 35, false, none, .faddr 1 (.t 4)⟩⟩,
          ⟨3, [35], true, [], ⟨some 36, false, none, .load false 1 (.u 35)⟩⟩,
          ⟨4, [3], false, [], ⟨some 37, false, none, .faddr 1 (.t 3)⟩⟩,
          ⟨5, [37], true, [], ⟨some 38, false, none, .load false 1 (.u 37)⟩⟩,
          ⟨6, [34, 36, 38], false, [0], ⟨some 39, false, none, .call 17 [(.u 34), (.u 36), (.u 38)]⟩⟩,
          ⟨7, [6, 33], false, [], ⟨none, true, none, .store 2 (.t 6) (.u 33)⟩⟩,
          ⟨8, [39], false, [], ⟨some 7, true, none, .mov (.u 39)⟩⟩])
       (.ret))
       (.skip)))))))))
  (.seq (.region [⟨some 40, false, none, .load true 2 (.t 4)⟩,
     ⟨none, true, none, .store 2 (.t 6) (.u 40)⟩,
     ⟨some 7, true, none, .mov (.c (.bool false))⟩])
  (.ret)))))
def r7 : List LRes := [.cell true 2 6, .slot 7]
theorem t7 : (Try.f7.body.bind (trCode v7 Try.prog Try.f7.ntmps)) = some c7 ∧ trRes v7 Try.prog Try.f7.results.toList = some r7 := ⟨by kernel_rfl, by kernel_rfl⟩

def v8 : Nat → Bool := fun t => [0, 1, 2, 3, 4, 5].contains t
def c8 : LCode :=
  .seq (.region [⟨some 0, true, none, .mov (.c (.bool false))⟩])
  (.seq (.region [⟨some 6, false, none, .build [.int .i64 0, .int .i64 0] [(0, 1, (.c (.int .i64 2))), (1, 1, (.c (.int .i64 3)))]⟩,
     ⟨some 1, true, none, .zero [.int .i64 0, .int .i64 0]⟩,
     ⟨none, true, none, .store 2 (.t 1) (.u 6)⟩])
  (.seq (.region [⟨some 8, false, none, .load true 2 (.t 1)⟩,
     ⟨some 9, false, none, .build [.int .i64 0, .int .i64 0] []⟩,
     ⟨some 10, false, none, .call 7 [(.u 8), (.u 9), (.c (.int .i64 0))]⟩,
     ⟨some 7, false, none, .mov (.u 10)⟩,
     ⟨some 11, false, none, .ext (.u 7) 0⟩,
     ⟨some 12, false, none, .ext (.u 7) 1⟩,
     ⟨some 2, true, none, .zero [.int .i64 0, .int .i64 0]⟩,
     ⟨none, true, none, .store 2 (.t 2) (.u 11)⟩,
     ⟨some 3, true, none, .mov (.u 12)⟩])
  (.seq (.region [⟨some 14, false, none, .load true 2 (.t 1)⟩,
     ⟨some 15, false, none, .load true 2 (.t 2)⟩,
     ⟨some 16, false, none, .call 7 [(.u 14), (.u 15), (.c (.int .i64 0))]⟩,
     ⟨some 13, false, none, .mov (.u 16)⟩,
     ⟨some 17, false, none, .ext (.u 13) 0⟩,
     ⟨some 18, false, none, .ext (.u 13) 1⟩,
     ⟨none, true, none, .store 2 (.t 2) (.u 17)⟩,
     ⟨some 4, true, none, .mov (.u 18)⟩])
  (.seq (.region [⟨some 20, false, none, .load true 2 (.t 1)⟩,
     ⟨some 21, false, none, .load true 2 (.t 2)⟩,
     ⟨some 22, false, none, .call 7 [(.u 20), (.u 21), (.c (.int .i64 0))]⟩,
     ⟨some 19, false, none, .mov (.u 22)⟩,
     ⟨some 23, false, none, .ext (.u 19) 0⟩,
     ⟨some 24, false, none, .ext (.u 19) 1⟩,
     ⟨none, true, none, .store 2 (.t 2) (.u 23)⟩,
     ⟨some 5, true, none, .mov (.u 24)⟩])
  (.seq (.region [⟨some 25, false, none, .mov (.t 3)⟩,
     ⟨some 26, false, none, .un .not (.u 25)⟩,
     ⟨some 27, false, none, .mov (.u 26)⟩,
     ⟨some 28, false, some ((.u 27), true), .mov (.t 4)⟩,
     ⟨some 29, false, some ((.u 27), true), .un .not (.u 28)⟩,
     ⟨some 30, false, none, .pick (.u 27) (.u 29) (.c (.bool false))⟩,
     ⟨some 31, false, none, .mov (.u 30)⟩,
     ⟨some 32, false, some ((.u 31), true), .mov (.t 5)⟩,
     ⟨some 33, false, none, .pick (.u 31) (.u 32) (.c (.bool false))⟩,
     ⟨some 34, false, none, .mov (.u 33)⟩,
     ⟨some 35, false, some ((.u 34), true), .faddr 0 (.t 2)⟩,
     ⟨some 36, false, some ((.u 34), true), .load false 1 (.u 35)⟩,
     ⟨some 37, false, some ((.u 34), true), .bin .eql (.u 36) (.c (.int .i64 3))⟩,
     ⟨some 38, false, none, .pick (.u 34) (.u 37) (.c (.bool false))⟩,
     ⟨some 39, false, none, .mov (.u 38)⟩,
     ⟨some 40, false, some ((.u 39), true), .call 6 [(.c (.int .i64 7))]⟩,
     ⟨some 41, false, some ((.u 39), true), .build [.int .i64 0, .int .i64 0] [(1, 1, (.c (.int .i64 7)))]⟩,
     ⟨some 42, false, some ((.u 39), true), .eqS false 2 [(0, 1), (1, 1)] (.u 40) (.u 41)⟩,
     ⟨some 43, false, none, .pick (.u 39) (.u 42) (.c (.bool false))⟩,
     ⟨some 0, true, none, .mov (.u 43)⟩])
  (.ret))))))
def r8 : List LRes := [.slot 0]
theorem t8 : (Try.f8.body.bind (trCode v8 Try.prog Try.f8.ntmps)) = some c8 ∧ trRes v8 Try.prog Try.f8.results.toList = some r8 := ⟨by kernel_rfl, by kernel_rfl⟩

def v9 : Nat → Bool := fun t => [0, 1, 4, 8].contains t
def c9 : LCode :=
  .seq (.region [⟨some 4, true, none, .mov (.c (.nil))⟩])
  (.seq (.seq (.region [⟨some 5, false, none, .mov (.t 0)⟩,
      ⟨some 6, false, none, .lenL (.u 5)⟩,
      ⟨some 7, false, none, .mov (.t 1)⟩,
      ⟨some 8, true, none, .bin .gtr (.u 6) (.u 7)⟩])
   (.cond (.t 8)
    (.region [⟨some 9, false, none, .mov (.t 0)⟩,
      ⟨some 10, false, none, .mov (.t 1)⟩,
      ⟨some 11, false, none, .slL 1 (.u 9) none (some (.u 10)) none⟩,
      ⟨some 0, true, none, .mov (.u 11)⟩])
    (.skip)))
  (.seq (.region [⟨some 12, false, none, .mov (.t 0)⟩,
     ⟨some 13, false, none, .build [.fsl 1 0 [], .int .i64 0] [(0, 1, (.u 12))]⟩,
     ⟨some 14, false, none, .box (.u 13)⟩,
     ⟨some 4, true, none, .mov (.u 14)⟩])
  (.ret)))
def r9 : List LRes := [.slot 4]
theorem t9 : (Try.f9.body.bind (trCode v9 Try.prog Try.f9.ntmps)) = some c9 ∧ trRes v9 Try.prog Try.f9.results.toList = some r9 := ⟨by kernel_rfl, by kernel_rfl⟩

def v10 : Nat → Bool := fun t => [0, 2, 3, 4, 5, 29, 43].contains t
def c10 : LCode :=
  .seq (.region [⟨some 2, true, none, .zero [.int .u64 0, .int .u64 0, .int .i64 0, .int .i64 0, .int .i64 0, .int .i64 0, .int .i64 0, .int .i64 0, .int .i64 0, .int .i64 0, .int .i64 0, .int .i64 0, .int .i64 0]⟩])
  (.seq (.region [⟨some 6, false, none, .mov (.t 0)⟩,
     ⟨some 7, false, none, .mkS 1 4 [.int .i64 0] [(0, 1, (.c (.int .i64 0))), (1, 1, (.c (.int .i64 0))), (2, 1, (.c (.int .i64 300))), (3, 1, (.c (.int .i64 900)))]⟩,
     ⟨some 8, false, none, .call 18 [(.u 6), (.u 7)]⟩,
     ⟨some 3, true, none, .mov (.u 8)⟩])
  (.seq (.region [⟨some 9, false, none, .mov (.t 3)⟩,
     ⟨some 10, false, none, .mov (.t 3)⟩,
     ⟨some 11, false, none, .mov (.t 0)⟩,
     ⟨some 12, false, none, .call 11 [(.u 11), (.c (.int .i64 2))]⟩,
     ⟨some 13, false, none, .bin .mul (.u 10) (.u 12)⟩,
     ⟨some 14, false, none, .bin .quo (.u 13) (.c (.int .i64 2))⟩,
     ⟨some 15, false, none, .mov (.t 0)⟩,
     ⟨some 16, false, none, .call 11 [(.u 15), (.c (.int .i64 5))]⟩,
     ⟨some 17, false, none, .bin .add (.c (.int .i64 1)) (.u 16)⟩,
     ⟨some 18, false, none, .mov (.t 0)⟩,
     ⟨some 19, false, none, .call 11 [(.u 18), (.c (.int .i64 5))]⟩,
     ⟨some 20, false, none, .bin .add (.c (.int .i64 1)) (.u 19)⟩,
     ⟨some 21, false, none, .mov (.t 0)⟩,
     ⟨some 22, false, none, .call 11 [(.u 21), (.c (.int .i64 5))]⟩,
     ⟨some 23, false, none, .bin .add (.c (.int .i64 1)) (.u 22)⟩,
     ⟨some 24, false, none, .mov (.t 0)⟩,
     ⟨some 25, false, none, .call 11 [(.u 24), (.c (.int .i64 5))]⟩,
     ⟨some 26, false, none, .bin .add (.c (.int .i64 1)) (.u 25)⟩,
     ⟨some 27, false, none, .build [.int .i64 0, .int .i64 0, .int .i64 0, .int .i64 0, .int .i64 0, .int .i64 0] [(0, 1, (.u 9)), (1, 1, (.u 14)), (2, 1, (.u 17)), (3, 1, (.u 20)), (4, 1, (.u 23)), (5, 1, (.u 26))]⟩,
     ⟨some 4, true, none, .zero [.int .i64 0, .int .i64 0, .int .i64 0, .int .i64 0, .int .i64 0, .int .i64 0]⟩,
     ⟨none, true, none, .store 6 (.t 4) (.u 27)⟩])
  (.seq (.seq (.region [⟨some 28, false, none, .mov (.t 0)⟩,
      ⟨some 29, true, none, .call 19 [(.u 28), (.c (.int .i64 2))]⟩])
   (.cond (.t 29)
    (.region [⟨some 30, false, none, .faddr 2 (.t 4)⟩,
      ⟨none, true, none, .store 1 (.u 30) (.c (.int .i64 2))⟩,
      ⟨some 31, false, none, .faddr 3 (.t 4)⟩,
      ⟨none, true, none, .store 1 (.u 31) (.c (.int .i64 1))⟩])
    (.skip)))
  (.seq (.region [⟨some 32, false, none, .mov (.t 0)⟩,
     ⟨some 33, false, none, .call 11 [(.u 32), (.c (.int .i64 4))]⟩,
     ⟨some 34, false, none, .bin .add (.c (.int .i64 1)) (.u 33)⟩,
     ⟨some 35, false, none, .build [.int .i64 0, .int .i64 0] [(0, 1, (.u 34))]⟩,
     ⟨some 5, true, none, .zero [.int .i64 0, .int .i64 0]⟩,
     ⟨none, true, none, .store 2 (.t 5) (.u 35)⟩])
  (.seq (.seq (.region [⟨some 36, false, none, .faddr 0 (.t 5)⟩,
      ⟨some 37, false, none, .load false 1 (.u 36)⟩,
      ⟨some 38, false, none, .bin .eql (.u 37) (.c (.int .i64 2))⟩,
      ⟨some 39, false, none, .mov (.u 38)⟩,
      ⟨some 40, false, some ((.u 39), false), .faddr 0 (.t 5)⟩,
      ⟨some 41, false, some ((.u 39), false), .load false 1 (.u 40)⟩,
      ⟨some 42, false, some ((.u 39), false), .bin .eql (.u 41) (.c (.int .i64 3))⟩,
      ⟨some 43, true, none, .pick (.u 39) (.c (.bool true)) (.u 42)⟩])
   (.cond (.t 43)
    (.region [⟨some 44, false, none, .mov (.t 0)⟩,
      ⟨some 45, false, none, .call 11 [(.u 44), (.c (.int .i64 4))]⟩,
      ⟨some 46, false, none, .bin .add (.c (.int .i64 1)) (.u 45)⟩,
      ⟨some 47, false, none, .faddr 1 (.t 5)⟩,
      ⟨none, true, none, .store 1 (.u 47) (.u 46)⟩])
    (.skip)))
  (.seq (.regionD [⟨0, [0], false, [], ⟨some 48, false, none, .mov (.t 0)⟩⟩,
     ⟨2, [0], false, [], ⟨some 50, false, none, .mov (.t 0)⟩⟩,
     ⟨4, [4], true, [], ⟨some 52, false, none, .load true 6 (.t 4)⟩⟩,
     ⟨5, [5], true, [], ⟨some 53, false, none, .load true 2 (.t 5)⟩⟩,
     ⟨1, [48], false, [5, 4], ⟨some 49, false, none, .call 20 [(.u 48)]⟩⟩,
     ⟨3, [50], false, [5, 4], ⟨some 51, false, none, .call 21 [(.u 50)]⟩⟩,
     ⟨6, [49, 51, 52, 53], false, [], ⟨some 54, false, none, .build [.int .u64 0, .int .u64 0, .int .i64 0, .int .i64 0, .int .i64 0, .int .i64 0, .int .i64 0, .int .i64 0, .int .i64 0, .int .i64 0, .int .i64 0, .int .i64 0, .int .i64 0] [(0, 2, (.u 49)), (2, 3, (.u 51)), (5, 6, (.u 52)), (11, 2, (.u 53))]⟩⟩,
     ⟨7, [2, 54], false, [], ⟨none, true, none, .store 13 (.t 2) (.u 54)⟩⟩])
  (.ret)))))))
def r10 : List LRes := [.cell true 13 2]
theorem t10 : (Try.f10.body.bind (trCode v10 Try.prog Try.f10.ntmps)) = some c10 ∧ trRes v10 Try.prog Try.f10.results.toList = some r10 := ⟨by kernel_rfl, by kernel_rfl⟩

def v11 : Nat → Bool := fun t => [0, 1, 4, 18].contains t
def c11 : LCode :=
  .seq (.region [⟨some 4, true, none, .mov (.c (.int .i64 0))⟩])
  (.seq (.seq (.regionD [⟨0, [1], false, [], ⟨some 5, false, none, .mov (.t 1)⟩⟩,
      ⟨1, [5], false, [], ⟨some 6, false, none, .bin .lss (.u 5) (.c (.int .i64 2))⟩⟩,
      ⟨2, [6], false, [], ⟨some 7, false, none, .mov (.u 6)⟩⟩,
      ⟨3, [0, 7], false, [], ⟨some 8, false, some ((.u 7), false), .mov (.t 0)⟩⟩,
      ⟨4, [8, 7], false, [], ⟨some 9, false, some ((.u 7), false), .nilc (.u 8)⟩⟩,
      ⟨5, [9, 7], false, [], ⟨some 10, false, some ((.u 7), false), .faddr 1 (.u 9)⟩⟩,
      ⟨6, [10, 7], true, [], ⟨some 11, false, some ((.u 7), false), .load false 1 (.u 10)⟩⟩,
      ⟨7, [0, 7], false, [], ⟨some 12, false, some ((.u 7), false), .mov (.t 0)⟩⟩,
      ⟨8, [12, 7], false, [], ⟨some 13, false, some ((.u 7), false), .nilc (.u 12)⟩⟩,
      ⟨9, [13, 7], false, [], ⟨some 14, false, some ((.u 7), false), .faddr 0 (.u 13)⟩⟩,
      ⟨10, [14, 7], true, [], ⟨some 15, false, some ((.u 7), false), .load false 1 (.u 14)⟩⟩,
      ⟨11, [15, 7], false, [], ⟨some 16, false, some ((.u 7), false), .lenL (.u 15)⟩⟩,
      ⟨12, [11, 16, 7], false, [], ⟨some 17, false, some ((.u 7), false), .bin .geq (.u 11) (.u 16)⟩⟩,
      ⟨13, [7, 17], false, [], ⟨some 18, true, none, .pick (.u 7) (.c (.bool true)) (.u 17)⟩⟩])
   (.cond (.t 18)
    (.seq (.region [⟨some 4, true, none, .mov (.c (.int .i64 0))⟩])
    (.ret))
    (.skip)))
  (.seq (.region [⟨some 19, false, none, .mov (.t 0)⟩,
     ⟨some 20, false, none, .nilc (.u 19)⟩,
     ⟨some 21, false, none, .faddr 1 (.u 20)⟩,
     ⟨some 22, false, none, .load false 1 (.u 21)⟩,
     ⟨some 23, false, none, .bin .add (.u 22) (.c (.int .i64 1))⟩,
     ⟨some 24, false, none, .nilc (.u 19)⟩,
     ⟨some 25, false, none, .faddr 1 (.u 24)⟩,
     ⟨none, true, none, .store 1 (.u 25) (.u 23)⟩])
  (.seq (.regionD [⟨0, [0], false, [], ⟨some 26, false, none, .mov (.t 0)⟩⟩,
     ⟨1, [26], false, [], ⟨some 27, false, none, .nilc (.u 26)⟩⟩,
     ⟨2, [27], false, [], ⟨some 28, false, none, .faddr 0 (.u 27)⟩⟩,
     ⟨3, [28], true, [], ⟨some 29, false, none, .load false 1 (.u 28)⟩⟩,
     ⟨4, [0], false, [], ⟨some 30, false, none, .mov (.t 0)⟩⟩,
     ⟨5, [30], false, [], ⟨some 31, false, none, .nilc (.u 30)⟩⟩,
     ⟨6, [31], false, [], ⟨some 32, false, none, .faddr 1 (.u 31)⟩⟩,
     ⟨7, [32], true, [], ⟨some 33, false, none, .load false 1 (.u 32)⟩⟩,
     ⟨8, [33], false, [], ⟨some 34, false, none, .bin .sub (.u 33) (.c (.int .i64 1))⟩⟩,
     ⟨9, [29, 34], false, [], ⟨some 35, false, none, .iaS 1 (.u 29) (.u 34)⟩⟩,
     ⟨10, [35], true, [], ⟨some 36, false, none, .load false 1 (.u 35)⟩⟩,
     ⟨11, [36], false, [], ⟨some 37, false, none, .conv .i64 (.u 36)⟩⟩,
     ⟨12, [1], false, [], ⟨some 38, false, none, .mov (.t 1)⟩⟩,
     ⟨13, [37, 38], false, [], ⟨some 39, false, none, .bin .rem (.u 37) (.u 38)⟩⟩,
     ⟨14, [39], false, [], ⟨some 4, true, none, .mov (.u 39)⟩⟩])
  (.ret))))
def r11 : List LRes := [.slot 4]
theorem t11 : (Try.f11.body.bind (trCode v11 Try.prog Try.f11.ntmps)) = some c11 ∧ trRes v11 Try.prog Try.f11.results.toList = some r11 := ⟨by kernel_rfl, by kernel_rfl⟩

def v12 : Nat → Bool := fun t => [0, 1, 2, 3, 4, 6, 7, 14, 19, 29].contains t
def c12 : LCode :=
  .seq (.region [⟨some 3, true, none, .box (.t 0)⟩,
     ⟨some 4, true, none, .box (.t 1)⟩,
     ⟨some 6, true, none, .zero [.int .i64 0, .int .i64 0]⟩,
     ⟨some 7, true, none, .mov (.c (.bool false))⟩])
  (.seq (.region [⟨some 8, false, none, .faddr 0 (.t 4)⟩,
     ⟨some 9, false, none, .load false 1 (.u 8)⟩,
     ⟨some 10, false, none, .mm true (.u 9) [(.c (.int .i64 0))]⟩,
     ⟨some 11, false, none, .mm false (.u 10) [(.c (.int .i64 1099511627775))]⟩,
     ⟨some 12, false, none, .bin .add (.u 11) (.c (.int .i64 1))⟩,
     ⟨some 13, false, none, .faddr 0 (.t 4)⟩,
     ⟨none, true, none, .store 1 (.u 13) (.u 12)⟩])
  (.seq (.block 0 (.seq (.region [⟨some 15, false, none, .load true 2 (.t 3)⟩,
       ⟨some 16, false, none, .call 16 [(.u 15)]⟩,
       ⟨some 17, false, none, .un .not (.u 16)⟩,
       ⟨some 14, true, none, .mov (.u 17)⟩])
    (.cond (.t 14)
     (.seq (.region [⟨some 18, false, none, .load true 2 (.t 4)⟩,
        ⟨none, true, none, .store 2 (.t 6) (.u 18)⟩,
        ⟨some 7, true, none, .mov (.c (.bool false))⟩])
     (.ret))
     (.seq (.region [⟨some 20, false, none, .faddr 0 (.t 3)⟩,
        ⟨some 21, false, none, .load false 1 (.u 20)⟩,
        ⟨some 22, false, none, .bin .eql (.u 21) (.c (.int .i64 2))⟩,
        ⟨some 19, true, none, .mov (.u 22)⟩])
     (.cond (.t 19)
      (.seq (.regionD [⟨0, [4], true, [], ⟨some 23, false, none, .load true 2 (.t 4)⟩⟩,
         ⟨1, [4], false, [], ⟨some 24, false, none, .faddr 0 (.t 4)⟩⟩,
         ⟨2, [24], true, [], ⟨some 25, false, none, .load false 1 (.u 24)⟩⟩,
         ⟨3, [3], false, [], ⟨some 26, false, none, .faddr 1 (.t 3)⟩⟩,
         ⟨4, [26], true, [], ⟨some 27, false, none, .load false 1 (.u 26)⟩⟩,
         ⟨5, [25, 27], false, [], ⟨some 28, false, none, .bin .geq (.u 25) (.u 27)⟩⟩,
         ⟨6, [6, 23], false, [4, 2], ⟨none, true, none, .store 2 (.t 6) (.u 23)⟩⟩,
         ⟨7, [28], false, [], ⟨some 7, true, none, .mov (.u 28)⟩⟩])
      (.ret))
      (.seq (.region [⟨some 30, false, none, .faddr 0 (.t 3)⟩,
         ⟨some 31, false, none, .load false 1 (.u 30)⟩,
         ⟨some 32, false, none, .bin .eql (.u 31) (.c (.int .i64 3))⟩,
         ⟨some 29, true, none, .mov (.u 32)⟩])
      (.cond (.t 29)
       (.seq (.regionD [⟨0, [4], true, [], ⟨some 33, false, none, .load true 2 (.t 4)⟩⟩,
          ⟨1, [2], false, [], ⟨some 34, false, none, .mov (.t 2)⟩⟩,
          ⟨2, [4], false, [], ⟨some 35, false, none, .faddr 1 (.t 4)⟩⟩,
          ⟨3, [35], true, [], ⟨some 36, false, none, .load false 1 (.u 35)⟩⟩,
          ⟨4, [3], false, [], ⟨some 37, false, none, .faddr 1 (.t 3)⟩⟩,
          ⟨5, [37], true, [], ⟨some 38, false, none, .load false 1 (.u 37)⟩⟩,
          ⟨6, [34, 36, 38], false, [0], ⟨some 39, false, none, .call 22 [(.u 34), (.u 36), (.u 38)]⟩⟩,
          ⟨7, [6, 33], false, [], ⟨none, true, none, .store 2 (.t 6) (.u 33)⟩⟩,
          ⟨8, [39], false, [], ⟨some 7, true, none, .mov (.u 39)⟩⟩])
       (.ret))
       (.skip))))))))
  (.seq (.regionD [⟨0, [4], true, [], ⟨some 40, false, none, .load true 2 (.t 4)⟩⟩,
     ⟨1, [3], false, [], ⟨some 41, false, none, .faddr 0 (.t 3)⟩⟩,
     ⟨2, [41], true, [], ⟨some 42, false, none, .load false 1 (.u 41)⟩⟩,
     ⟨3, [42], false, [], ⟨some 43, false, none, .bin .eql (.u 42) (.c (.int .i64 4))⟩⟩,
     ⟨4, [6, 40], false, [2], ⟨none, true, none, .store 2 (.t 6) (.u 40)⟩⟩,
     ⟨5, [43], false, [], ⟨some 7, true, none, .mov (.u 43)⟩⟩])
  (.ret))))
def r12 : List LRes := [.cell true 2 6, .slot 7]
theorem t12 : (Try.f12.body.bind (trCode v12 Try.prog Try.f12.ntmps)) = some c12 ∧ trRes v12 Try.prog Try.f12.results.toList = some r12 := ⟨by kernel_rfl, by kernel_rfl⟩

def v13 : Nat → Bool := fun t => [0, 1, 2, 3, 4, 6].contains t
def c13 : LCode :=
  .seq (.region [⟨some 3, true, none, .box (.t 0)⟩,
     ⟨some 4, true, none, .box (.t 1)⟩,
     ⟨some 6, true, none, .mov (.c (.bool false))⟩])
  (.seq (.region [⟨some 7, false, none, .load true 2 (.t 3)⟩,
     ⟨some 8, false, none, .call 15 [(.u 7)]⟩,
     ⟨some 9, false, none, .mov (.u 8)⟩,
     ⟨some 10, false, some ((.u 9), true), .faddr 0 (.t 3)⟩,
     ⟨some 11, false, some ((.u 9), true), .load false 1 (.u 10)⟩,
     ⟨some 12, false, some ((.u 9), true), .bin .eql (.u 11) (.c (.int .i64 3))⟩,
     ⟨some 13, false, none, .pick (.u 9) (.u 12) (.c (.bool false))⟩,
     ⟨some 14, false, none, .mov (.u 13)⟩,
     ⟨some 15, false, some ((.u 14), true), .faddr 0 (.t 4)⟩,
     ⟨some 16, false, some ((.u 14), true), .load false 1 (.u 15)⟩,
     ⟨some 17, false, some ((.u 14), true), .bin .gtr (.u 16) (.c (.int .i64 0))⟩,
     ⟨some 18, false, none, .pick (.u 14) (.u 17) (.c (.bool false))⟩,
     ⟨some 19, false, none, .mov (.u 18)⟩,
     ⟨some 20, false, some ((.u 19), true), .mov (.t 2)⟩,
     ⟨some 21, false, some ((.u 19), true), .faddr 1 (.t 4)⟩,
     ⟨some 22, false, some ((.u 19), true), .load false 1 (.u 21)⟩,
     ⟨some 23, false, some ((.u 19), true), .faddr 1 (.t 3)⟩,
     ⟨some 24, false, some ((.u 19), true), .load false 1 (.u 23)⟩,
     ⟨some 25, false, some ((.u 19), true), .call 17 [(.u 20), (.u 22), (.u 24)]⟩,
     ⟨some 26, false, none, .pick (.u 19) (.u 25) (.c (.bool false))⟩,
     ⟨some 6, true, none, .mov (.u 26)⟩])
  (.ret))
def r13 : List LRes := [.slot 6]
theorem t13 : (Try.f13.body.bind (trCode v13 Try.prog Try.f13.ntmps)) = some c13 ∧ trRes v13 Try.prog Try.f13.results.toList = some r13 := ⟨by kernel_rfl, by kernel_rfl⟩

def v14 : Nat → Bool := fun t => [0, 1, 2, 3, 4, 6].contains t
def c14 : LCode :=
  .seq (.region [⟨some 3, true, none, .box (.t 0)⟩,
     ⟨some 4, true, none, .box (.t 1)⟩,
     ⟨some 6, true, none, .mov (.c (.bool false))⟩])
  (.seq (.region [⟨some 7, false, none, .load true 2 (.t 3)⟩,
     ⟨some 8, false, none, .call 16 [(.u 7)]⟩,
     ⟨some 9, false, none, .mov (.u 8)⟩,
     ⟨some 10, false, some ((.u 9), true), .faddr 0 (.t 3)⟩,
     ⟨some 11, false, some ((.u 9), true), .load false 1 (.u 10)⟩,
     ⟨some 12, false, some ((.u 9), true), .bin .eql (.u 11) (.c (.int .i64 3))⟩,
     ⟨some 13, false, none, .pick (.u 9) (.u 12) (.c (.bool false))⟩,
     ⟨some 14, false, none, .mov (.u 13)⟩,
     ⟨some 15, false, some ((.u 14), true), .faddr 0 (.t 4)⟩,
     ⟨some 16, false, some ((.u 14), true), .load false 1 (.u 15)⟩,
     ⟨some 17, false, some ((.u 14), true), .bin .gtr (.u 16) (.c (.int .i64 0))⟩,
     ⟨some 18, false, none, .pick (.u 14) (.u 17) (.c (.bool false))⟩,
     ⟨some 19, false, none, .mov (.u 18)⟩,
     ⟨some 20, false, some ((.u 19), true), .mov (.t 2)⟩,
     ⟨some 21, false, some ((.u 19), true), .faddr 1 (.t 4)⟩,
     ⟨some 22, false, some ((.u 19), true), .load false 1 (.u 21)⟩,
     ⟨some 23, false, some ((.u 19), true), .faddr 1 (.t 3)⟩,
     ⟨some 24, false, some ((.u 19), true), .load false 1 (.u 23)⟩,
     ⟨some 25, false, some ((.u 19), true), .call 22 [(.u 20), (.u 22), (.u 24)]⟩,
     ⟨some 26, false, none, .pick (.u 19) (.u 25) (.c (.bool false))⟩,
     ⟨some 6, true, none, .mov (.u 26)⟩])
  (.ret))
def r14 : List LRes := [.slot 6]
theorem t14 : (Try.f14.body.bind (trCode v14 Try.prog Try.f14.ntmps)) = some c14 ∧ trRes v14 Try.prog Try.f14.results.toList = some r14 := ⟨by kernel_rfl, by kernel_rfl⟩

def v15 : Nat → Bool := fun t => [0, 1, 2, 4, 5, 7, 9, 11].contains t
def c15 : LCode :=
  .seq (.region [⟨some 1, true, none, .box (.t 0)⟩,
     ⟨some 2, true, none, .mov (.c (.bool false))⟩])
  (.seq (.seq (.region [⟨some 3, false, none, .faddr 0 (.t 1)⟩,
      ⟨some 4, true, none, .load false 1 (.u 3)⟩])
   (.block 0 (.seq (.block 4 (.block 3 (.seq (.block 2 (.block 1 (.seq (.seq (.seq (.region [⟨some 6, false, none, .bin .eql (.t 4) (.c (.int .i64 1))⟩,
               ⟨some 5, true, none, .mov (.u 6)⟩])
            (.cond (.t 5)
             (.exit 1)
             (.skip)))
           (.seq (.seq (.region [⟨some 8, false, none, .bin .eql (.t 4) (.c (.int .i64 4))⟩,
               ⟨some 7, true, none, .mov (.u 8)⟩])
            (.cond (.t 7)
             (.exit 2)
             (.skip)))
           (.seq (.seq (.region [⟨some 10, false, none, .bin .eql (.t 4) (.c (.int .i64 2))⟩,
               ⟨some 9, true, none, .mov (.u 10)⟩])
            (.cond (.t 9)
             (.exit 3)
             (.skip)))
           (.seq (.region [⟨some 12, false, none, .bin .eql (.t 4) (.c (.int .i64 3))⟩,
              ⟨some 11, true, none, .mov (.u 12)⟩])
           (.cond (.t 11)
            (.exit 4)
            (.skip))))))
          (.exit 0))))
       (.seq (.seq (.region [⟨some 13, false, none, .faddr 1 (.t 1)⟩,
           ⟨some 14, false, none, .load false 1 (.u 13)⟩,
           ⟨some 15, false, none, .bin .eql (.u 14) (.c (.int .i64 0))⟩,
           ⟨some 2, true, none, .mov (.u 15)⟩])
        (.ret))
       (.exit 0)))))
    (.seq (.seq (.region [⟨some 16, false, none, .faddr 1 (.t 1)⟩,
        ⟨some 17, false, none, .load false 1 (.u 16)⟩,
        ⟨some 18, false, none, .bin .geq (.u 17) (.c (.int .i64 1))⟩,
        ⟨some 19, false, none, .mov (.u 18)⟩,
        ⟨some 20, false, some ((.u 19), true), .faddr 1 (.t 1)⟩,
        ⟨some 21, false, some ((.u 19), true), .load false 1 (.u 20)⟩,
        ⟨some 22, false, some ((.u 19), true), .bin .leq (.u 21) (.c (.int .i64 1099511627776))⟩,
        ⟨some 23, false, none, .pick (.u 19) (.u 22) (.c (.bool false))⟩,
        ⟨some 2, true, none, .mov (.u 23)⟩])
     (.ret))
    (.exit 0)))))
  (.seq (.region [⟨some 2, true, none, .mov (.c (.bool false))⟩])
  (.ret)))
def r15 : List LRes := [.slot 2]
theorem t15 : (Try.f15.body.bind (trCode v15 Try.prog Try.f15.ntmps)) = some c15 ∧ trRes v15 Try.prog Try.f15.results.toList = some r15 := ⟨by kernel_rfl, by kernel_rfl⟩

def v16 : Nat → Bool := fun t => [0, 1, 2, 4, 5, 11].contains t
def c16 : LCode :=
  .seq (.region [⟨some 1, true, none, .box (.t 0)⟩,
     ⟨some 2, true, none, .mov (.c (.bool false))⟩])
  (.seq (.seq (.region [⟨some 3, false, none, .faddr 0 (.t 1)⟩,
      ⟨some 4, true, none, .load false 1 (.u 3)⟩])
   (.block 0 (.seq (.seq (.region [⟨some 6, false, none, .bin .eql (.t 4) (.c (.int .i64 1))⟩,
        ⟨some 5, true, none, .mov (.u 6)⟩])
     (.cond (.t 5)
      (.skip)
      (.region [⟨some 7, false, none, .bin .eql (.t 4) (.c (.int .i64 4))⟩,
        ⟨some 5, true, none, .mov (.u 7)⟩])))
    (.cond (.t 5)
     (.seq (.region [⟨some 8, false, none, .faddr 1 (.t 1)⟩,
        ⟨some 9, false, none, .load false 1 (.u 8)⟩,
        ⟨some 10, false, none, .bin .eql (.u 9) (.c (.int .i64 0))⟩,
        ⟨some 2, true, none, .mov (.u 10)⟩])
     (.ret))
     (.seq (.seq (.region [⟨some 12, false, none, .bin .eql (.t 4) (.c (.int .i64 2))⟩,
         ⟨some 11, true, none, .mov (.u 12)⟩])
      (.cond (.t 11)
       (.skip)
       (.region [⟨some 13, false, none, .bin .eql (.t 4) (.c (.int .i64 3))⟩,
         ⟨some 11, true, none, .mov (.u 13)⟩])))
     (.cond (.t 11)
      (.seq (.region [⟨some 14, false, none, .faddr 1 (.t 1)⟩,
         ⟨some 15, false, none, .load false 1 (.u 14)⟩,
         ⟨some 16, false, none, .bin .geq (.u 15) (.c (.int .i64 1))⟩,
         ⟨some 17, false, none, .mov (.u 16)⟩,
         ⟨some 18, false, some ((.u 17), true), .faddr 1 (.t 1)⟩,
         ⟨some 19, false, some ((.u 17), true), .load false 1 (.u 18)⟩,
         ⟨some 20, false, some ((.u 17), true), .bin .leq (.u 19) (.c (.int .i64 1099511627776))⟩,
         ⟨some 21, false, none, .pick (.u 17) (.u 20) (.c (.bool false))⟩,
         ⟨some 2, true, none, .mov (.u 21)⟩])
      (.ret))
      (.skip)))))))
  (.seq (.region [⟨some 2, true, none, .mov (.c (.bool false))⟩])
  (.ret)))
def r16 : List LRes := [.slot 2]
theorem t16 : (Try.f16.body.bind (trCode v16 Try.prog Try.f16.ntmps)) = some c16 ∧ trRes v16 Try.prog Try.f16.results.toList = some r16 := ⟨by kernel_rfl, by kernel_rfl⟩

def v17 : Nat → Bool := fun t => [0, 1, 2, 6].contains t
def c17 : LCode :=
  .seq (.region [⟨some 6, true, none, .mov (.c (.bool false))⟩])
  (.seq (.region [⟨some 7, false, none, .mov (.t 0)⟩,
     ⟨some 8, false, none, .mov (.t 1)⟩,
     ⟨some 9, false, none, .bin .gtr (.u 7) (.u 8)⟩,
     ⟨some 10, false, none, .mov (.u 9)⟩,
     ⟨some 11, false, some ((.u 10), true), .mov (.t 0)⟩,
     ⟨some 12, false, some ((.u 10), true), .conv .u64 (.u 11)⟩,
     ⟨some 13, false, some ((.u 10), true), .mov (.t 1)⟩,
     ⟨some 14, false, some ((.u 10), true), .conv .u64 (.u 13)⟩,
     ⟨some 15, false, some ((.u 10), true), .bin .sub (.u 12) (.u 14)⟩,
     ⟨some 16, false, some ((.u 10), true), .mov (.t 2)⟩,
     ⟨some 17, false, some ((.u 10), true), .conv .u64 (.u 16)⟩,
     ⟨some 18, false, some ((.u 10), true), .bin .geq (.u 15) (.u 17)⟩,
     ⟨some 19, false, none, .pick (.u 10) (.u 18) (.c (.bool false))⟩,
     ⟨some 6, true, none, .mov (.u 19)⟩])
  (.ret))
def r17 : List LRes := [.slot 6]
theorem t17 : (Try.f17.body.bind (trCode v17 Try.prog Try.f17.ntmps)) = some c17 ∧ trRes v17 Try.prog Try.f17.results.toList = some r17 := ⟨by kernel_rfl, by kernel_rfl⟩

def v18 : Nat → Bool := fun t => [0, 1, 4].contains t
def c18 : LCode :=
  .seq (.region [⟨some 4, true, none, .mov (.c (.int .i64 0))⟩])
  (.seq (.region [⟨some 5, false, none, .mov (.t 1)⟩,
     ⟨some 6, false, none, .mov (.t 0)⟩,
     ⟨some 7, false, none, .mov (.t 1)⟩,
     ⟨some 8, false, none, .lenL (.u 7)⟩,
     ⟨some 9, false, none, .call 11 [(.u 6), (.u 8)]⟩,
     ⟨some 10, false, none, .iaS 1 (.u 5) (.u 9)⟩,
     ⟨some 11, false, none, .load false 1 (.u 10)⟩,
     ⟨some 4, true, none, .mov (.u 11)⟩])
  (.ret))
def r18 : List LRes := [.slot 4]
theorem t18 : (Try.f18.body.bind (trCode v18 Try.prog Try.f18.ntmps)) = some c18 ∧ trRes v18 Try.prog Try.f18.results.toList = some r18 := ⟨by kernel_rfl, by kernel_rfl⟩

def v19 : Nat → Bool := fun t => [0, 1, 4].contains t
def c19 : LCode :=
  .seq (.region [⟨some 4, true, none, .mov (.c (.bool false))⟩])
  (.seq (.region [⟨some 5, false, none, .mov (.t 0)⟩,
     ⟨some 6, false, none, .mov (.t 1)⟩,
     ⟨some 7, false, none, .call 11 [(.u 5), (.u 6)]⟩,
     ⟨some 8, false, none, .mov (.t 1)⟩,
     ⟨some 9, false, none, .bin .sub (.u 8) (.c (.int .i64 1))⟩,
     ⟨some 10, false, none, .bin .eql (.u 7) (.u 9)⟩,
     ⟨some 4, true, none, .mov (.u 10)⟩])
  (.ret))
def r19 : List LRes := [.slot 4]
theorem t19 : (Try.f19.body.bind (trCode v19 Try.prog Try.f19.ntmps)) = some c19 ∧ trRes v19 Try.prog Try.f19.results.toList = some r19 := ⟨by kernel_rfl, by kernel_rfl⟩

def v20 : Nat → Bool := fun t => [0, 2].contains t
def c20 : LCode :=
  .seq (.region [⟨some 2, true, none, .zero [.int .u64 0, .int .u64 0]⟩])
  (.seq (.region [⟨some 3, false, none, .mov (.t 0)⟩,
     ⟨some 4, false, none, .call 11 [(.u 3), (.c (.int .i64 3))]⟩,
     ⟨some 5, false, none, .conv .u64 (.u 4)⟩,
     ⟨some 6, false, none, .mov (.t 0)⟩,
     ⟨some 7, false, none, .call 11 [(.u 6), (.c (.int .i64 5))]⟩,
     ⟨some 8, false, none, .conv .u64 (.u 7)⟩,
     ⟨some 9, false, none, .bin .shl (.u 8) (.c (.int .u64 60))⟩,
     ⟨some 10, false, none, .build [.int .u64 0, .int .u64 0] [(0, 1, (.u 5)), (1, 1, (.u 9))]⟩,
     ⟨none, true, none, .store 2 (.t 2) (.u 10)⟩])
  (.ret))
def r20 : List LRes := [.cell true 2 2]
theorem t20 : (Try.f20.body.bind (trCode v20 Try.prog Try.f20.ntmps)) = some c20 ∧ trRes v20 Try.prog Try.f20.results.toList = some r20 := ⟨by kernel_rfl, by kernel_rfl⟩

def v21 : Nat → Bool := fun t => [0, 2].contains t
def c21 : LCode :=
  .seq (.region [⟨some 2, true, none, .zero [.int .i64 0, .int .i64 0, .int .i64 0]⟩])
  (.seq (.region [⟨some 3, false, none, .mov (.t 0)⟩,
     ⟨some 4, false, none, .mkS 1 6 [.int .i64 0] [(0, 1, (.c (.int .i64 64))), (1, 1, (.c (.int .i64 150))), (2, 1, (.c (.int .i64 300))), (3, 1, (.c (.int .i64 600))), (4, 1, (.c (.int .i64 1500))), (5, 1, (.c (.int .i64 1048576)))]⟩,
     ⟨some 5, false, none, .call 18 [(.u 3), (.u 4)]⟩,
     ⟨some 6, false, none, .mov (.t 0)⟩,
     ⟨some 7, false, none, .call 11 [(.u 6), (.c (.int .i64 4))]⟩,
     ⟨some 8, false, none, .bin .add (.c (.int .i64 2)) (.u 7)⟩,
     ⟨some 9, false, none, .mov (.t 0)⟩,
     ⟨some 10, false, none, .call 11 [(.u 9), (.c (.int .i64 4))]⟩,
     ⟨some 11, false, none, .bin .add (.c (.int .i64 1)) (.u 10)⟩,
     ⟨some 12, false, none, .build [.int .i64 0, .int .i64 0, .int .i64 0] [(0, 1, (.u 5)), (1, 1, (.u 8)), (2, 1, (.u 11))]⟩,
     ⟨none, true, none, .store 3 (.t 2) (.u 12)⟩])
  (.ret))
def r21 : List LRes := [.cell true 3 2]
theorem t21 : (Try.f21.body.bind (trCode v21 Try.prog Try.f21.ntmps)) = some c21 ∧ trRes v21 Try.prog Try.f21.results.toList = some r21 := ⟨by kernel_rfl, by kernel_rfl⟩

def v22 : Nat → Bool := fun t => [0, 1, 2, 6, 9].contains t
def c22 : LCode :=
  .seq (.region [⟨some 6, true, none, .mov (.c (.bool false))⟩])
  (.seq (.seq (.region [⟨some 7, false, none, .mov (.t 0)⟩,
      ⟨some 8, false, none, .mov (.t 1)⟩,
      ⟨some 9, true, none, .bin .leq (.u 7) (.u 8)⟩])
   (.cond (.t 9)
    (.seq (.region [⟨some 6, true, none, .mov (.c (.bool false))⟩])
    (.ret))
    (.skip)))
  (.seq (.region [⟨some 10, false, none, .mov (.t 1)⟩,
     ⟨some 11, false, none, .bin .lss (.u 10) (.c (.int .i64 0))⟩,
     ⟨some 12, false, none, .mov (.u 11)⟩,
     ⟨some 13, false, some ((.u 12), true), .mov (.t 0)⟩,
     ⟨some 14, false, some ((.u 12), true), .mov (.t 1)⟩,
     ⟨some 15, false, some ((.u 12), true), .mov (.t 2)⟩,
     ⟨some 16, false, some ((.u 12), true), .bin .add (.u 14) (.u 15)⟩,
     ⟨some 17, false, some ((.u 12), true), .bin .geq (.u 13) (.u 16)⟩,
     ⟨some 18, false, none, .pick (.u 12) (.u 17) (.c (.bool false))⟩,
     ⟨some 19, false, none, .mov (.u 18)⟩,
     ⟨some 20, false, some ((.u 19), false), .mov (.t 1)⟩,
     ⟨some 21, false, some ((.u 19), false), .bin .geq (.u 20) (.c (.int .i64 0))⟩,
     ⟨some 22, false, some ((.u 19), false), .mov (.u 21)⟩,
     ⟨some 23, false, some ((.u 22), true), .mov (.t 0)⟩,
     ⟨some 24, false, some ((.u 22), true), .mov (.t 1)⟩,
     ⟨some 25, false, some ((.u 22), true), .bin .sub (.u 23) (.u 24)⟩,
     ⟨some 26, false, some ((.u 22), true), .mov (.t 2)⟩,
     ⟨some 27, false, some ((.u 22), true), .bin .geq (.u 25) (.u 26)⟩,
     ⟨some 28, false, some ((.u 19), false), .pick (.u 22) (.u 27) (.c (.bool false))⟩,
     ⟨some 29, false, none, .pick (.u 19) (.c (.bool true)) (.u 28)⟩,
     ⟨some 6, true, none, .mov (.u 29)⟩])
  (.ret)))
def r22 : List LRes := [.slot 6]
theorem t22 : (Try.f22.body.bind (trCode v22 Try.prog Try.f22.ntmps)) = some c22 ∧ trRes v22 Try.prog Try.f22.results.toList = some r22 := ⟨by kernel_rfl, by kernel_rfl⟩


end Go.Proofs.Ytnheammhndnlhaa
