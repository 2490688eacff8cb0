/- The functions' bodies as the engine reads them; written by program out of the translation, checked by the kernel. -/
import Derived.Test.YtcngkeeknlloaaaProg
import Derived.Test.YtcngkeeknlloaaaLxL
import Derived.KernelRfl
namespace Go.Proofs.Ytcngkeeknlloaaa
open Go Go.Lx
set_option maxRecDepth 100000
def v11 : Nat → Bool := fun t => [0, 2].contains t
def c11 : LCode :=
  .seq (.region [⟨some 2, true, none, .mov (.c (.nil))⟩])
  (.seq (.region [⟨some 3, false, none, .mov (.t 0)⟩,
     ⟨some 4, false, none, .build [.fsl 1 0 [], .int .i64 0] [(0, 1, (.u 3))]⟩,
     ⟨some 5, false, none, .box (.u 4)⟩,
     ⟨some 2, true, none, .mov (.u 5)⟩])
  (.ret))
def r11 : List LRes := [.slot 2]
theorem t11 : (Try.f11.body.bind (trCode v11 Try.prog Try.f11.ntmps)) = some c11 ∧ trRes v11 Try.prog Try.f11.results.toList = some r11 := ⟨by kernel_rfl, by kernel_rfl⟩

def v12 : Nat → Bool := fun t => [0, 1, 4, 5, 6, 7, 8, 9, 10, 11, 12, 24, 36, 53, 72, 77, 1000001].contains t
def c12 : LCode :=
  .seq (.region [⟨some 4, true, none, .mov (.c (.fsl 1 0 []))⟩,
     ⟨some 5, true, none, .mov (.c (.fsl 1 0 []))⟩])
  (.seq (.region [⟨some 13, false, none, .build [.int .i64 0, .int .i64 0, .int .i64 0, .str [], .int .i64 0] [(0, 1, (.c (.int .i64 3))), (1, 1, (.c (.int .i64 1)))]⟩,
     ⟨some 14, false, none, .build [.int .i64 0, .int .i64 0, .int .i64 0, .str [], .int .i64 0] [(0, 1, (.c (.int .i64 4))), (1, 1, (.c (.int .i64 1)))]⟩,
     ⟨some 15, false, none, .build [.int .i64 0, .int .i64 0, .int .i64 0, .str [], .int .i64 0] [(0, 1, (.c (.int .i64 15))), (1, 1, (.c (.int .i64 3)))]⟩,
     ⟨some 16, false, none, .build [.int .i64 0, .int .i64 0, .int .i64 0, .str [], .int .i64 0] [(0, 1, (.c (.int .i64 5))), (1, 1, (.c (.int .i64 1))), (2, 1, (.c (.int .i64 5)))]⟩,
     ⟨some 17, false, none, .build [.int .i64 0, .int .i64 0, .int .i64 0, .str [], .int .i64 0] [(0, 1, (.c (.int .i64 16))), (1, 1, (.c (.int .i64 1))), (2, 1, (.c (.int .i64 1)))]⟩,
     ⟨some 18, false, none, .mkS 5 5 [.int .i64 0, .int .i64 0, .int .i64 0, .str [], .int .i64 0] [(0, 5, (.u 13)), (5, 5, (.u 14)), (10, 5, (.u 15)), (15, 5, (.u 16)), (20, 5, (.u 17))]⟩,
     ⟨some 6, true, none, .mov (.u 18)⟩])
  (.seq (.region [⟨some 7, true, none, .mov (.c (.fsl 1 0 []))⟩])
  (.seq (.region [⟨some 8, true, none, .mov (.c (.fsl 1 0 []))⟩])
  (.seq (.seq (.region [⟨some 19, false, none, .mov (.t 0)⟩,
      ⟨some 20, false, none, .mov (.t 1)⟩,
      ⟨some 21, false, none, .bin .add (.u 20) (.c (.int .i64 1))⟩,
      ⟨some 22, false, none, .call 21 [(.u 19), (.u 21)]⟩,
      ⟨some 9, true, none, .mov (.u 22)⟩])
   (.block 0 (.loop (.seq (.seq (.region [⟨some 23, false, none, .mov (.t 9)⟩,
         ⟨some 24, true, none, .bin .gtr (.u 23) (.c (.int .i64 0))⟩])
      (.cond (.t 24)
       (.skip)
       (.exit 0)))
     (.seq (.block 1 (.seq (.region [⟨some 27, false, none, .mov (.t 0)⟩,
          ⟨some 28, false, none, .call 22 [(.u 27), (.c (.int .i64 1)), (.c (.int .i64 2))]⟩,
          ⟨some 29, false, none, .mov (.t 0)⟩,
          ⟨some 30, false, none, .mkS 1 3 [.str []] [(0, 1, (.c (.str []))), (1, 1, (.c (.str [97]))), (2, 1, (.c (.str [98])))]⟩,
          ⟨some 31, false, none, .call 38 [(.u 29), (.u 30)]⟩,
          ⟨some 32, false, none, .build [.int .i64 0, .int .i64 0, .int .u64 0, .fsl 1 0 [], .int .i64 0, .str [], .int .i64 0, .str []] [(0, 1, (.c (.int .i64 3))), (1, 1, (.u 28)), (2, 1, (.c (.int .u64 1))), (7, 1, (.u 31))]⟩,
          ⟨some 10, true, none, .zero [.int .i64 0, .int .i64 0, .int .u64 0, .fsl 1 0 [], .int .i64 0, .str [], .int .i64 0, .str []]⟩,
          ⟨none, true, none, .store 8 (.t 10) (.u 32)⟩])
       (.seq (.seq (.region [⟨some 33, false, none, .mov (.t 0)⟩,
           ⟨some 34, false, none, .call 21 [(.u 33), (.c (.int .i64 4))]⟩,
           ⟨some 11, true, none, .mov (.u 34)⟩])
        (.block 2 (.loop (.seq (.seq (.region [⟨some 35, false, none, .mov (.t 11)⟩,
              ⟨some 36, true, none, .bin .gtr (.u 35) (.c (.int .i64 0))⟩])
           (.cond (.t 36)
            (.skip)
            (.exit 2)))
          (.seq (.block 3 (.regionD [⟨0, [10], false, [], ⟨some 39, false, none, .faddr 3 (.t 10)⟩⟩,
              ⟨1, [39], true, [], ⟨some 40, false, none, .load false 1 (.u 39)⟩⟩,
              ⟨2, [6], false, [], ⟨some 41, false, none, .mov (.t 6)⟩⟩,
              ⟨3, [0], false, [], ⟨some 42, false, none, .mov (.t 0)⟩⟩,
              ⟨4, [6], false, [], ⟨some 43, false, none, .mov (.t 6)⟩⟩,
              ⟨5, [43], false, [], ⟨some 44, false, none, .lenL (.u 43)⟩⟩,
              ⟨6, [42, 44], false, [1], ⟨some 45, false, none, .call 21 [(.u 42), (.u 44)]⟩⟩,
              ⟨7, [41, 45], false, [], ⟨some 46, false, none, .iaS 5 (.u 41) (.u 45)⟩⟩,
              ⟨8, [46], true, [], ⟨some 47, false, none, .load true 5 (.u 46)⟩⟩,
              ⟨9, [47], false, [], ⟨some 48, false, none, .mkS 5 1 [.int .i64 0, .int .i64 0, .int .i64 0, .str [], .int .i64 0] [(0, 5, (.u 47))]⟩⟩,
              ⟨10, [40, 48], false, [], ⟨some 49, false, none, .appF 5 48 (.u 40) (.u 48)⟩⟩,
              ⟨11, [10], false, [], ⟨some 50, false, none, .faddr 3 (.t 10)⟩⟩,
              ⟨12, [50, 49], false, [], ⟨none, true, none, .store 1 (.u 50) (.u 49)⟩⟩]))
          (.region [⟨some 37, false, none, .mov (.t 11)⟩,
            ⟨some 38, false, none, .bin .sub (.u 37) (.c (.int .i64 1))⟩,
            ⟨some 11, true, none, .mov (.u 38)⟩]))))))
       (.seq (.seq (.region [⟨some 51, false, none, .mov (.t 0)⟩,
           ⟨some 52, false, none, .call 21 [(.u 51), (.c (.int .i64 4))]⟩,
           ⟨some 53, true, none, .bin .eql (.u 52) (.c (.int .i64 0))⟩])
        (.cond (.t 53)
         (.region [⟨some 54, false, none, .mov (.t 0)⟩,
           ⟨some 55, false, none, .call 22 [(.u 54), (.c (.int .i64 1)), (.c (.int .i64 2))]⟩,
           ⟨some 56, false, none, .mov (.t 0)⟩,
           ⟨some 57, false, none, .mkS 1 2 [.str []] [(0, 1, (.c (.str [47, 97]))), (1, 1, (.c (.str [47, 98])))]⟩,
           ⟨some 58, false, none, .call 38 [(.u 56), (.u 57)]⟩,
           ⟨some 59, false, none, .mov (.t 0)⟩,
           ⟨some 60, false, none, .mkS 1 2 [.int .i64 0] [(0, 1, (.c (.int .i64 2))), (1, 1, (.c (.int .i64 15)))]⟩,
           ⟨some 61, false, none, .call 39 [(.u 59), (.u 60)]⟩,
           ⟨some 62, false, none, .faddr 4 (.t 10)⟩,
           ⟨none, true, none, .store 1 (.u 62) (.u 55)⟩,
           ⟨some 63, false, none, .faddr 5 (.t 10)⟩,
           ⟨none, true, none, .store 1 (.u 63) (.u 58)⟩,
           ⟨some 64, false, none, .faddr 6 (.t 10)⟩,
           ⟨none, true, none, .store 1 (.u 64) (.u 61)⟩])
         (.skip)))
       (.region [⟨some 65, false, none, .mov (.t 7)⟩,
         ⟨some 66, false, none, .load true 8 (.t 10)⟩,
         ⟨some 67, false, none, .mkS 8 1 [.int .i64 0, .int .i64 0, .int .u64 0, .fsl 1 0 [], .int .i64 0, .str [], .int .i64 0, .str []] [(0, 8, (.u 66))]⟩,
         ⟨some 68, false, none, .appF 8 96 (.u 65) (.u 67)⟩,
         ⟨some 7, true, none, .mov (.u 68)⟩])))))
     (.region [⟨some 25, false, none, .mov (.t 9)⟩,
       ⟨some 26, false, none, .bin .sub (.u 25) (.c (.int .i64 1))⟩,
       ⟨some 9, true, none, .mov (.u 26)⟩]))))))
  (.seq (.seq (.region [⟨some 12, true, none, .mov (.c (.int .i64 0))⟩])
   (.block 4 (.loop (.seq (.seq (.region [⟨some 69, false, none, .mov (.t 12)⟩,
         ⟨some 70, false, none, .mov (.t 7)⟩,
         ⟨some 71, false, none, .lenL (.u 70)⟩,
         ⟨some 72, true, none, .bin .lss (.u 69) (.u 71)⟩])
      (.cond (.t 72)
       (.skip)
       (.exit 4)))
     (.seq (.block 5 (.seq (.region [⟨some 75, false, none, .mov (.t 0)⟩,
          ⟨some 76, false, none, .call 21 [(.u 75), (.c (.int .i64 4))]⟩,
          ⟨some 77, true, none, .bin .gtr (.u 76) (.c (.int .i64 0))⟩])
       (.cond (.t 77)
        (.region [⟨some 78, false, none, .mov (.t 8)⟩,
          ⟨some 79, false, none, .mov (.t 12)⟩,
          ⟨some 80, false, none, .mkS 1 1 [.int .i64 0] [(0, 1, (.u 79))]⟩,
          ⟨some 81, false, none, .appF 1 8 (.u 78) (.u 80)⟩,
          ⟨some 8, true, none, .mov (.u 81)⟩])
        (.skip))))
     (.region [⟨some 73, false, none, .mov (.t 12)⟩,
       ⟨some 74, false, none, .bin .add (.u 73) (.c (.int .i64 1))⟩,
       ⟨some 12, true, none, .mov (.u 74)⟩]))))))
  (.seq (.region [⟨some 82, false, none, .mov (.t 7)⟩,
     ⟨some 83, false, none, .mov (.t 8)⟩,
     ⟨some 4, true, none, .mov (.u 82)⟩,
     ⟨some 5, true, none, .mov (.u 83)⟩])
  (.ret)))))))
def r12 : List LRes := [.slot 4, .slot 5]
theorem t12 : (Try.f12.body.bind (trCode v12 Try.prog Try.f12.ntmps)) = some c12 ∧ trRes v12 Try.prog Try.f12.results.toList = some r12 := ⟨by kernel_rfl, by kernel_rfl⟩

def v13 : Nat → Bool := fun t => [0, 1, 4, 5, 6, 7, 8, 9, 10, 11, 33, 37, 48].contains t
def c13 : LCode :=
  .seq (.region [⟨some 4, true, none, .mov (.c (.bool false))⟩])
  (.seq (.region [⟨some 13, false, none, .mov (.t 0)⟩,
     ⟨some 14, false, none, .mov (.t 1)⟩,
     ⟨some 15, false, none, .call 15 [(.u 13), (.u 14)]⟩,
     ⟨some 12, false, none, .mov (.u 15)⟩,
     ⟨some 16, false, none, .ext (.u 12) 0⟩,
     ⟨some 17, false, none, .ext (.u 12) 1⟩,
     ⟨some 5, true, none, .mov (.u 16)⟩,
     ⟨some 6, true, none, .mov (.u 17)⟩])
  (.seq (.region [⟨some 19, false, none, .mov (.t 0)⟩,
     ⟨some 20, false, none, .mov (.t 1)⟩,
     ⟨some 21, false, none, .call 24 [(.u 19), (.u 20)]⟩,
     ⟨some 18, false, none, .mov (.u 21)⟩,
     ⟨some 22, false, none, .ext (.u 18) 0⟩,
     ⟨some 23, false, none, .ext (.u 18) 1⟩,
     ⟨some 7, true, none, .mov (.u 22)⟩,
     ⟨some 8, true, none, .mov (.u 23)⟩])
  (.seq (.seq (.region [⟨some 24, false, none, .mov (.t 6)⟩,
      ⟨some 25, false, none, .mov (.t 8)⟩,
      ⟨some 26, false, none, .bin .neq (.u 24) (.u 25)⟩,
      ⟨some 27, false, none, .mov (.u 26)⟩,
      ⟨some 28, false, some ((.u 27), false), .mov (.t 5)⟩,
      ⟨some 29, false, some ((.u 27), false), .lenL (.u 28)⟩,
      ⟨some 30, false, some ((.u 27), false), .mov (.t 7)⟩,
      ⟨some 31, false, some ((.u 27), false), .lenL (.u 30)⟩,
      ⟨some 32, false, some ((.u 27), false), .bin .neq (.u 29) (.u 31)⟩,
      ⟨some 33, true, none, .pick (.u 27) (.c (.bool true)) (.u 32)⟩])
   (.cond (.t 33)
    (.seq (.region [⟨some 4, true, none, .mov (.c (.bool false))⟩])
    (.ret))
    (.skip)))
  (.seq (.seq (.region [⟨some 9, true, none, .mov (.c (.int .i64 0))⟩])
   (.block 0 (.loop (.seq (.seq (.region [⟨some 34, false, none, .mov (.t 9)⟩,
         ⟨some 35, false, none, .mov (.t 5)⟩,
         ⟨some 36, false, none, .lenL (.u 35)⟩,
         ⟨some 37, true, none, .bin .lss (.u 34) (.u 36)⟩])
      (.cond (.t 37)
       (.skip)
       (.exit 0)))
     (.seq (.block 1 (.seq (.regionD [⟨0, [5], false, [], ⟨some 40, false, none, .mov (.t 5)⟩⟩,
          ⟨1, [9], false, [], ⟨some 41, false, none, .mov (.t 9)⟩⟩,
          ⟨2, [40, 41], false, [], ⟨some 42, false, none, .iaS 8 (.u 40) (.u 41)⟩⟩,
          ⟨3, [42], true, [], ⟨some 43, false, none, .load true 8 (.u 42)⟩⟩,
          ⟨4, [7], false, [], ⟨some 44, false, none, .mov (.t 7)⟩⟩,
          ⟨5, [9], false, [], ⟨some 45, false, none, .mov (.t 9)⟩⟩,
          ⟨6, [44, 45], false, [], ⟨some 46, false, none, .iaS 8 (.u 44) (.u 45)⟩⟩,
          ⟨7, [46], true, [], ⟨some 47, false, none, .load true 8 (.u 46)⟩⟩,
          ⟨8, [43, 47], false, [], ⟨some 48, true, none, .eqS true 8 [(0, 1), (1, 1), (2, 1), (3, 2), (4, 1), (5, 1), (6, 2), (7, 1)] (.u 43) (.u 47)⟩⟩])
       (.cond (.t 48)
        (.seq (.region [⟨some 4, true, none, .mov (.c (.bool false))⟩])
        (.ret))
        (.skip))))
     (.region [⟨some 38, false, none, .mov (.t 9)⟩,
       ⟨some 39, false, none, .bin .add (.u 38) (.c (.int .i64 1))⟩,
       ⟨some 9, true, none, .mov (.u 39)⟩]))))))
  (.seq (.region [⟨some 50, false, none, .mov (.t 0)⟩,
     ⟨some 51, false, none, .mov (.t 1)⟩,
     ⟨some 52, false, none, .call 16 [(.u 50), (.u 51)]⟩,
     ⟨some 49, false, none, .mov (.u 52)⟩,
     ⟨some 53, false, none, .ext (.u 49) 0⟩,
     ⟨some 54, false, none, .ext (.u 49) 1⟩,
     ⟨some 10, true, none, .zero [.fsl 1 0 [], .fsl 1 0 [], .int .i64 0]⟩,
     ⟨none, true, none, .store 3 (.t 10) (.u 53)⟩,
     ⟨some 6, true, none, .mov (.u 54)⟩])
  (.seq (.region [⟨some 56, false, none, .mov (.t 0)⟩,
     ⟨some 57, false, none, .mov (.t 1)⟩,
     ⟨some 58, false, none, .call 17 [(.u 56), (.u 57)]⟩,
     ⟨some 55, false, none, .mov (.u 58)⟩,
     ⟨some 59, false, none, .ext (.u 55) 0⟩,
     ⟨some 60, false, none, .ext (.u 55) 1⟩,
     ⟨some 11, true, none, .zero [.fsl 1 0 [], .fsl 1 0 [], .int .i64 0]⟩,
     ⟨none, true, none, .store 3 (.t 11) (.u 59)⟩,
     ⟨some 8, true, none, .mov (.u 60)⟩])
  (.seq (.region [⟨some 61, false, none, .mov (.t 6)⟩,
     ⟨some 62, false, none, .mov (.t 8)⟩,
     ⟨some 63, false, none, .bin .eql (.u 61) (.u 62)⟩,
     ⟨some 64, false, none, .mov (.u 63)⟩,
     ⟨some 65, false, some ((.u 64), true), .load true 3 (.t 10)⟩,
     ⟨some 66, false, some ((.u 64), true), .load true 3 (.t 11)⟩,
     ⟨some 67, false, some ((.u 64), true), .call 27 [(.u 65), (.u 66)]⟩,
     ⟨some 68, false, none, .pick (.u 64) (.u 67) (.c (.bool false))⟩,
     ⟨some 69, false, none, .mov (.u 68)⟩,
     ⟨some 70, false, some ((.u 69), true), .faddr 2 (.t 10)⟩,
     ⟨some 71, false, some ((.u 69), true), .load false 1 (.u 70)⟩,
     ⟨some 72, false, some ((.u 69), true), .faddr 2 (.t 11)⟩,
     ⟨some 73, false, some ((.u 69), true), .load false 1 (.u 72)⟩,
     ⟨some 74, false, some ((.u 69), true), .bin .eql (.u 71) (.u 73)⟩,
     ⟨some 75, false, none, .pick (.u 69) (.u 74) (.c (.bool false))⟩,
     ⟨some 4, true, none, .mov (.u 75)⟩])
  (.ret))))))))
def r13 : List LRes := [.slot 4]
theorem t13 : (Try.f13.body.bind (trCode v13 Try.prog Try.f13.ntmps)) = some c13 ∧ trRes v13 Try.prog Try.f13.results.toList = some r13 := ⟨by kernel_rfl, by kernel_rfl⟩

def v14 : Nat → Bool := fun t => [0, 1, 2, 3].contains t
def c14 : LCode :=
  .seq (.region [⟨some 0, true, none, .mov (.c (.bool false))⟩])
  (.seq (.region [⟨some 4, false, none, .build [.int .i64 0, .int .i64 0, .int .i64 0, .str [], .int .i64 0] [(0, 1, (.c (.int .i64 3))), (1, 1, (.c (.int .i64 1)))]⟩,
     ⟨some 5, false, none, .mkS 5 1 [.int .i64 0, .int .i64 0, .int .i64 0, .str [], .int .i64 0] [(0, 5, (.u 4))]⟩,
     ⟨some 6, false, none, .build [.int .i64 0, .int .i64 0, .int .u64 0, .fsl 1 0 [], .int .i64 0, .str [], .int .i64 0, .str []] [(0, 1, (.c (.int .i64 3))), (1, 1, (.c (.int .i64 2))), (2, 1, (.c (.int .u64 1))), (3, 1, (.u 5))]⟩,
     ⟨some 7, false, none, .build [.int .i64 0, .int .i64 0, .int .u64 0, .fsl 1 0 [], .int .i64 0, .str [], .int .i64 0, .str []] [(0, 1, (.c (.int .i64 3))), (1, 1, (.c (.int .i64 1))), (2, 1, (.c (.int .u64 1)))]⟩,
     ⟨some 8, false, none, .mkS 8 2 [.int .i64 0, .int .i64 0, .int .u64 0, .fsl 1 0 [], .int .i64 0, .str [], .int .i64 0, .str []] [(0, 8, (.u 6)), (8, 8, (.u 7))]⟩,
     ⟨some 1, true, none, .mov (.u 8)⟩])
  (.seq (.region [⟨some 10, false, none, .mov (.t 1)⟩,
     ⟨some 11, false, none, .mkS 1 2 [.int .i64 0] [(0, 1, (.c (.int .i64 0))), (1, 1, (.c (.int .i64 1)))]⟩,
     ⟨some 12, false, none, .call 16 [(.u 10), (.u 11)]⟩,
     ⟨some 9, false, none, .mov (.u 12)⟩,
     ⟨some 13, false, none, .ext (.u 9) 0⟩,
     ⟨some 14, false, none, .ext (.u 9) 1⟩,
     ⟨some 2, true, none, .zero [.fsl 1 0 [], .fsl 1 0 [], .int .i64 0]⟩,
     ⟨none, true, none, .store 3 (.t 2) (.u 13)⟩,
     ⟨some 3, true, none, .mov (.u 14)⟩])
  (.seq (.region [⟨some 15, false, none, .mov (.t 3)⟩,
     ⟨some 16, false, none, .bin .eql (.u 15) (.c (.int .i64 0))⟩,
     ⟨some 17, false, none, .mov (.u 16)⟩,
     ⟨some 18, false, some ((.u 17), true), .faddr 1 (.t 2)⟩,
     ⟨some 19, false, some ((.u 17), true), .load false 1 (.u 18)⟩,
     ⟨some 20, false, some ((.u 17), true), .lenL (.u 19)⟩,
     ⟨some 21, false, some ((.u 17), true), .bin .eql (.u 20) (.c (.int .i64 1))⟩,
     ⟨some 22, false, none, .pick (.u 17) (.u 21) (.c (.bool false))⟩,
     ⟨some 23, false, none, .mov (.u 22)⟩,
     ⟨some 24, false, some ((.u 23), true), .load true 3 (.t 2)⟩,
     ⟨some 25, false, some ((.u 23), true), .mkS 1 1 [.bool false] [(0, 1, (.c (.bool true)))]⟩,
     ⟨some 26, false, some ((.u 23), true), .call 19 [(.u 24), (.u 25)]⟩,
     ⟨some 27, false, some ((.u 23), true), .bin .eql (.u 26) (.c (.int .i64 0))⟩,
     ⟨some 28, false, none, .pick (.u 23) (.u 27) (.c (.bool false))⟩,
     ⟨some 29, false, none, .mov (.u 28)⟩,
     ⟨some 30, false, some ((.u 29), true), .load true 3 (.t 2)⟩,
     ⟨some 31, false, some ((.u 29), true), .mkS 1 1 [.bool false] [(0, 1, (.c (.bool false)))]⟩,
     ⟨some 32, false, some ((.u 29), true), .call 19 [(.u 30), (.u 31)]⟩,
     ⟨some 33, false, some ((.u 29), true), .bin .eql (.u 32) (.c (.int .i64 1))⟩,
     ⟨some 34, false, none, .pick (.u 29) (.u 33) (.c (.bool false))⟩,
     ⟨some 0, true, none, .mov (.u 34)⟩])
  (.ret))))
def r14 : List LRes := [.slot 0]
theorem t14 : (Try.f14.body.bind (trCode v14 Try.prog Try.f14.ntmps)) = some c14 ∧ trRes v14 Try.prog Try.f14.results.toList = some r14 := ⟨by kernel_rfl, by kernel_rfl⟩

def v15 : Nat → Bool := fun t => [0, 1, 4, 5, 6, 8, 9, 11, 13, 15, 16, 17, 18, 33, 37, 38, 39, 40, 47, 48, 49, 50, 55, 58].contains t
def c15 : LCode :=
  .seq (.region [⟨some 4, true, none, .mov (.c (.fsl 1 0 []))⟩,
     ⟨some 5, true, none, .mov (.c (.int .i64 0))⟩])
  (.seq (.region [⟨some 14, false, none, .mkMap⟩,
     ⟨some 6, true, none, .mov (.u 14)⟩])
  (.seq (.seq (.region [⟨some 15, true, none, .mov (.t 1)⟩,
      ⟨some 16, true, none, .lenL (.t 15)⟩,
      ⟨some 17, true, none, .mov (.c (.int .i64 0))⟩])
   (.block 0 (.loop (.seq (.region [⟨some 18, true, none, .bin .lss (.t 17) (.t 16)⟩])
     (.seq (.cond (.t 18)
       (.skip)
       (.exit 0))
     (.seq (.block 1 (.seq (.region [⟨some 19, false, none, .iaS 1 (.t 15) (.t 17)⟩,
          ⟨some 20, false, none, .load false 1 (.u 19)⟩,
          ⟨some 8, true, none, .mov (.u 20)⟩])
       (.seq (.seq (.region [⟨some 21, false, none, .mov (.t 8)⟩,
           ⟨some 22, false, none, .bin .lss (.u 21) (.c (.int .i64 0))⟩,
           ⟨some 23, false, none, .mov (.u 22)⟩,
           ⟨some 24, false, some ((.u 23), false), .mov (.t 8)⟩,
           ⟨some 25, false, some ((.u 23), false), .mov (.t 0)⟩,
           ⟨some 26, false, some ((.u 23), false), .lenL (.u 25)⟩,
           ⟨some 27, false, some ((.u 23), false), .bin .geq (.u 24) (.u 26)⟩,
           ⟨some 28, false, none, .pick (.u 23) (.c (.bool true)) (.u 27)⟩,
           ⟨some 29, false, none, .mov (.u 28)⟩,
           ⟨some 30, false, some ((.u 29), false), .mov (.t 6)⟩,
           ⟨some 31, false, some ((.u 29), false), .mov (.t 8)⟩,
           ⟨some 32, false, some ((.u 29), false), .look false 3 (.bool false) (.u 30) (.u 31)⟩,
           ⟨some 33, true, none, .pick (.u 29) (.c (.bool true)) (.u 32)⟩])
        (.cond (.t 33)
         (.seq (.region [⟨some 4, true, none, .mov (.c (.fsl 1 0 []))⟩,
            ⟨some 5, true, none, .mov (.c (.int .i64 160))⟩])
         (.ret))
         (.skip)))
       (.region [⟨some 34, false, none, .mov (.t 6)⟩,
         ⟨some 35, false, none, .mov (.t 8)⟩,
         ⟨none, true, none, .upd 3 (.u 34) (.u 35) (.c (.bool true))⟩]))))
     (.region [⟨some 36, false, none, .bin .add (.t 17) (.c (.int .i64 1))⟩,
       ⟨some 17, true, none, .mov (.u 36)⟩])))))))
  (.seq (.region [⟨some 9, true, none, .mov (.c (.fsl 1 0 []))⟩])
  (.seq (.seq (.region [⟨some 37, true, none, .mov (.t 1)⟩,
      ⟨some 38, true, none, .lenL (.t 37)⟩,
      ⟨some 39, true, none, .mov (.c (.int .i64 0))⟩])
   (.block 2 (.loop (.seq (.region [⟨some 40, true, none, .bin .lss (.t 39) (.t 38)⟩])
     (.seq (.cond (.t 40)
       (.skip)
       (.exit 2))
     (.seq (.block 3 (.seq (.region [⟨some 41, false, none, .iaS 1 (.t 37) (.t 39)⟩,
          ⟨some 42, false, none, .load false 1 (.u 41)⟩,
          ⟨some 11, true, none, .mov (.u 42)⟩])
       (.seq (.region [⟨some 43, false, none, .mov (.t 0)⟩,
          ⟨some 44, false, none, .mov (.t 11)⟩,
          ⟨some 45, false, none, .iaS 8 (.u 43) (.u 44)⟩,
          ⟨some 46, false, none, .load true 8 (.u 45)⟩,
          ⟨some 47, true, none, .call 40 [(.u 46)]⟩,
          ⟨some 48, true, none, .lenL (.t 47)⟩,
          ⟨some 49, true, none, .mov (.c (.int .i64 0))⟩])
       (.block 4 (.loop (.seq (.region [⟨some 50, true, none, .bin .lss (.t 49) (.t 48)⟩])
         (.seq (.cond (.t 50)
           (.skip)
           (.exit 4))
         (.seq (.block 5 (.seq (.region [⟨some 51, false, none, .iaS 8 (.t 47) (.t 49)⟩,
              ⟨some 52, false, none, .load true 8 (.u 51)⟩,
              ⟨some 13, true, none, .zero [.int .i64 0, .int .i64 0, .int .i64 0, .str [], .int .i64 0, .int .i64 0, .str [], .int .i64 0]⟩,
              ⟨none, true, none, .store 8 (.t 13) (.u 52)⟩])
           (.seq (.seq (.region [⟨some 53, false, none, .mov (.t 9)⟩,
               ⟨some 54, false, none, .load true 8 (.t 13)⟩,
               ⟨some 55, true, none, .call 41 [(.u 53), (.u 54)]⟩])
            (.cond (.t 55)
             (.exit 5)
             (.skip)))
           (.seq (.seq (.region [⟨some 56, false, none, .mov (.t 9)⟩,
               ⟨some 57, false, none, .lenL (.u 56)⟩,
               ⟨some 58, true, none, .bin .eql (.u 57) (.c (.int .i64 12))⟩])
            (.cond (.t 58)
             (.seq (.region [⟨some 4, true, none, .mov (.c (.fsl 1 0 []))⟩,
                ⟨some 5, true, none, .mov (.c (.int .i64 161))⟩])
             (.ret))
             (.skip)))
           (.region [⟨some 59, false, none, .mov (.t 9)⟩,
             ⟨some 60, false, none, .load true 8 (.t 13)⟩,
             ⟨some 61, false, none, .mkS 8 1 [.int .i64 0, .int .i64 0, .int .i64 0, .str [], .int .i64 0, .int .i64 0, .str [], .int .i64 0] [(0, 8, (.u 60))]⟩,
             ⟨some 62, false, none, .app 8 80 (.u 59) (.u 61)⟩,
             ⟨some 9, true, none, .mov (.u 62)⟩])))))
         (.region [⟨some 63, false, none, .bin .add (.t 49) (.c (.int .i64 1))⟩,
           ⟨some 49, true, none, .mov (.u 63)⟩])))))))))
     (.region [⟨some 64, false, none, .bin .add (.t 39) (.c (.int .i64 1))⟩,
       ⟨some 39, true, none, .mov (.u 64)⟩])))))))
  (.seq (.region [⟨some 65, false, none, .mov (.t 9)⟩,
     ⟨some 4, true, none, .mov (.u 65)⟩,
     ⟨some 5, true, none, .mov (.c (.int .i64 0))⟩])
  (.ret))))))
def r15 : List LRes := [.slot 4, .slot 5]
theorem t15 : (Try.f15.body.bind (trCode v15 Try.prog Try.f15.ntmps)) = some c15 ∧ trRes v15 Try.prog Try.f15.results.toList = some r15 := ⟨by kernel_rfl, by kernel_rfl⟩

def v16 : Nat → Bool := fun t => [0, 1, 4, 5, 6, 7, 8, 9, 10, 11, 12, 20].contains t
def c16 : LCode :=
  .seq (.region [⟨some 4, true, none, .zero [.fsl 1 0 [], .fsl 1 0 [], .int .i64 0]⟩,
     ⟨some 5, true, none, .mov (.c (.int .i64 0))⟩])
  (.seq (.region [⟨some 14, false, none, .mov (.t 0)⟩,
     ⟨some 15, false, none, .mov (.t 1)⟩,
     ⟨some 16, false, none, .call 15 [(.u 14), (.u 15)]⟩,
     ⟨some 13, false, none, .mov (.u 16)⟩,
     ⟨some 17, false, none, .ext (.u 13) 0⟩,
     ⟨some 18, false, none, .ext (.u 13) 1⟩,
     ⟨some 6, true, none, .zero [.fsl 1 0 []]⟩,
     ⟨none, true, none, .store 1 (.t 6) (.u 17)⟩,
     ⟨some 7, true, none, .mov (.u 18)⟩])
  (.seq (.seq (.region [⟨some 19, false, none, .mov (.t 7)⟩,
      ⟨some 20, true, none, .bin .neq (.u 19) (.c (.int .i64 0))⟩])
   (.cond (.t 20)
    (.seq (.region [⟨some 21, false, none, .build [.fsl 1 0 [], .fsl 1 0 [], .int .i64 0] []⟩,
       ⟨some 22, false, none, .mov (.t 7)⟩,
       ⟨none, true, none, .store 3 (.t 4) (.u 21)⟩,
       ⟨some 5, true, none, .mov (.u 22)⟩])
    (.ret))
    (.skip)))
  (.seq (.region [⟨some 23, false, none, .mov (.t 0)⟩,
     ⟨some 24, false, none, .mov (.t 1)⟩,
     ⟨some 25, false, none, .load false 1 (.t 6)⟩,
     ⟨some 26, false, none, .call 42 [(.u 23), (.u 24), (.u 25)]⟩,
     ⟨some 8, true, none, .zero [.fsl 1 0 []]⟩,
     ⟨none, true, none, .store 1 (.t 8) (.u 26)⟩])
  (.seq (.region [⟨some 9, true, none, .zero [.fsl 1 0 []]⟩])
  (.seq (.region [⟨some 27, false, none, .mkMap⟩,
     ⟨some 10, true, none, .zero [.raw (.map none)]⟩,
     ⟨none, true, none, .store 1 (.t 10) (.u 27)⟩])
  (.seq (.region [⟨some 11, true, none, .zero [.raw .nilFunc]⟩])
  (.seq (.region [⟨some 28, false, none, .mkf 43 [(.t 6), (.t 8), (.t 11), (.t 10), (.t 9)]⟩,
     ⟨none, true, none, .store 1 (.t 11) (.u 28)⟩])
  (.seq (.region [⟨some 29, false, none, .load false 1 (.t 11)⟩,
     ⟨some 30, false, none, .callV (.u 29) [(.c (.int .i64 0)), (.c (.int .i64 0))]⟩,
     ⟨some 12, true, none, .mov (.u 30)⟩])
  (.seq (.region [⟨some 31, false, none, .load false 1 (.t 6)⟩,
     ⟨some 32, false, none, .load false 1 (.t 9)⟩,
     ⟨some 33, false, none, .mov (.t 12)⟩,
     ⟨some 34, false, none, .build [.fsl 1 0 [], .fsl 1 0 [], .int .i64 0] [(0, 1, (.u 31)), (1, 1, (.u 32)), (2, 1, (.u 33))]⟩,
     ⟨none, true, none, .store 3 (.t 4) (.u 34)⟩,
     ⟨some 5, true, none, .mov (.c (.int .i64 0))⟩])
  (.ret))))))))))
def r16 : List LRes := [.cell true 3 4, .slot 5]
theorem t16 : (Try.f16.body.bind (trCode v16 Try.prog Try.f16.ntmps)) = some c16 ∧ trRes v16 Try.prog Try.f16.results.toList = some r16 := ⟨by kernel_rfl, by kernel_rfl⟩

def v17 : Nat → Bool := fun t => [0, 1, 4, 5, 6, 7, 8, 9, 17].contains t
def c17 : LCode :=
  .seq (.region [⟨some 4, true, none, .zero [.fsl 1 0 [], .fsl 1 0 [], .int .i64 0]⟩,
     ⟨some 5, true, none, .mov (.c (.int .i64 0))⟩])
  (.seq (.region [⟨some 11, false, none, .mov (.t 0)⟩,
     ⟨some 12, false, none, .mov (.t 1)⟩,
     ⟨some 13, false, none, .call 24 [(.u 11), (.u 12)]⟩,
     ⟨some 10, false, none, .mov (.u 13)⟩,
     ⟨some 14, false, none, .ext (.u 10) 0⟩,
     ⟨some 15, false, none, .ext (.u 10) 1⟩,
     ⟨some 6, true, none, .mov (.u 14)⟩,
     ⟨some 7, true, none, .mov (.u 15)⟩])
  (.seq (.seq (.region [⟨some 16, false, none, .mov (.t 7)⟩,
      ⟨some 17, true, none, .bin .neq (.u 16) (.c (.int .i64 0))⟩])
   (.cond (.t 17)
    (.seq (.region [⟨some 18, false, none, .build [.fsl 1 0 [], .fsl 1 0 [], .int .i64 0] []⟩,
       ⟨some 19, false, none, .mov (.t 7)⟩,
       ⟨none, true, none, .store 3 (.t 4) (.u 18)⟩,
       ⟨some 5, true, none, .mov (.u 19)⟩])
    (.ret))
    (.skip)))
  (.seq (.region [⟨some 20, false, none, .mov (.t 6)⟩,
     ⟨some 21, false, none, .build [.fsl 1 0 [], .fsl 1 0 [], .int .i64 0] [(0, 1, (.u 20))]⟩,
     ⟨some 8, true, none, .zero [.fsl 1 0 [], .fsl 1 0 [], .int .i64 0]⟩,
     ⟨none, true, none, .store 3 (.t 8) (.u 21)⟩])
  (.seq (.region [⟨some 22, false, none, .mov (.t 0)⟩,
     ⟨some 23, false, none, .mov (.t 1)⟩,
     ⟨some 24, false, none, .call 45 [(.t 8), (.u 22), (.u 23), (.c (.int .i64 0)), (.c (.int .i64 0))]⟩,
     ⟨some 9, true, none, .mov (.u 24)⟩])
  (.seq (.region [⟨some 25, false, none, .load true 3 (.t 8)⟩,
     ⟨some 26, false, none, .mov (.t 9)⟩,
     ⟨some 27, false, none, .call 46 [(.u 25), (.u 26)]⟩,
     ⟨none, true, none, .store 3 (.t 4) (.u 27)⟩,
     ⟨some 5, true, none, .mov (.c (.int .i64 0))⟩])
  (.ret))))))
def r17 : List LRes := [.cell true 3 4, .slot 5]
theorem t17 : (Try.f17.body.bind (trCode v17 Try.prog Try.f17.ntmps)) = some c17 ∧ trRes v17 Try.prog Try.f17.results.toList = some r17 := ⟨by kernel_rfl, by kernel_rfl⟩

def v18 : Nat → Bool := fun t => [0, 1, 2, 3, 4, 5, 9, 13, 23, 26, 27, 28, 29, 55, 77].contains t
def c18 : LCode :=
  .seq (.region [⟨some 1, true, none, .box (.t 0)⟩,
     ⟨some 2, true, none, .mov (.c (.bool false))⟩])
  (.seq (.seq (.region [⟨some 6, false, none, .faddr 0 (.t 1)⟩,
      ⟨some 7, false, none, .load false 1 (.u 6)⟩,
      ⟨some 8, false, none, .lenL (.u 7)⟩,
      ⟨some 9, true, none, .bin .gtr (.u 8) (.c (.int .i64 12))⟩])
   (.cond (.t 9)
    (.seq (.region [⟨some 2, true, none, .mov (.c (.bool false))⟩])
    (.ret))
    (.skip)))
  (.seq (.seq (.region [⟨some 10, false, none, .faddr 1 (.t 1)⟩,
      ⟨some 11, false, none, .load false 1 (.u 10)⟩,
      ⟨some 12, false, none, .lenL (.u 11)⟩,
      ⟨some 13, true, none, .bin .eql (.u 12) (.c (.int .i64 0))⟩])
   (.cond (.t 13)
    (.seq (.region [⟨some 14, false, none, .faddr 2 (.t 1)⟩,
       ⟨some 15, false, none, .load false 1 (.u 14)⟩,
       ⟨some 16, false, none, .bin .lss (.u 15) (.c (.int .i64 0))⟩,
       ⟨some 2, true, none, .mov (.u 16)⟩])
    (.ret))
    (.skip)))
  (.seq (.seq (.region [⟨some 17, false, none, .faddr 2 (.t 1)⟩,
      ⟨some 18, false, none, .load false 1 (.u 17)⟩,
      ⟨some 19, false, none, .faddr 1 (.t 1)⟩,
      ⟨some 20, false, none, .load false 1 (.u 19)⟩,
      ⟨some 21, false, none, .lenL (.u 20)⟩,
      ⟨some 22, false, none, .bin .sub (.u 21) (.c (.int .i64 1))⟩,
      ⟨some 23, true, none, .bin .neq (.u 18) (.u 22)⟩])
   (.cond (.t 23)
    (.seq (.region [⟨some 2, true, none, .mov (.c (.bool false))⟩])
    (.ret))
    (.skip)))
  (.seq (.region [⟨some 24, false, none, .mkMap⟩,
     ⟨some 3, true, none, .mov (.u 24)⟩])
  (.seq (.seq (.region [⟨some 25, false, none, .faddr 1 (.t 1)⟩,
      ⟨some 26, true, none, .load false 1 (.u 25)⟩,
      ⟨some 27, true, none, .lenL (.t 26)⟩,
      ⟨some 28, true, none, .mov (.c (.int .i64 0))⟩])
   (.block 0 (.loop (.seq (.region [⟨some 29, true, none, .bin .lss (.t 28) (.t 27)⟩])
     (.seq (.cond (.t 29)
       (.skip)
       (.exit 0))
     (.seq (.block 1 (.seq (.region [⟨some 30, false, none, .mov (.t 28)⟩,
          ⟨some 31, false, none, .iaS 3 (.t 26) (.t 28)⟩,
          ⟨some 32, false, none, .load true 3 (.u 31)⟩,
          ⟨some 5, true, none, .zero [.int .i64 0, .int .i64 0, .int .i64 0]⟩,
          ⟨some 4, true, none, .mov (.u 30)⟩,
          ⟨none, true, none, .store 3 (.t 5) (.u 32)⟩])
       (.seq (.seq (.region [⟨some 33, false, none, .faddr 0 (.t 5)⟩,
           ⟨some 34, false, none, .load false 1 (.u 33)⟩,
           ⟨some 35, false, none, .bin .lss (.u 34) (.c (.int .i64 0))⟩,
           ⟨some 36, false, none, .mov (.u 35)⟩,
           ⟨some 37, false, some ((.u 36), false), .faddr 0 (.t 5)⟩,
           ⟨some 38, false, some ((.u 36), false), .load false 1 (.u 37)⟩,
           ⟨some 39, false, some ((.u 36), false), .faddr 0 (.t 1)⟩,
           ⟨some 40, false, some ((.u 36), false), .load false 1 (.u 39)⟩,
           ⟨some 41, false, some ((.u 36), false), .lenL (.u 40)⟩,
           ⟨some 42, false, some ((.u 36), false), .bin .geq (.u 38) (.u 41)⟩,
           ⟨some 43, false, none, .pick (.u 36) (.c (.bool true)) (.u 42)⟩,
           ⟨some 44, false, none, .mov (.u 43)⟩,
           ⟨some 45, false, some ((.u 44), false), .faddr 1 (.t 5)⟩,
           ⟨some 46, false, some ((.u 44), false), .load false 1 (.u 45)⟩,
           ⟨some 47, false, some ((.u 44), false), .faddr 2 (.t 5)⟩,
           ⟨some 48, false, some ((.u 44), false), .load false 1 (.u 47)⟩,
           ⟨some 49, false, some ((.u 44), false), .bin .eql (.u 46) (.u 48)⟩,
           ⟨some 50, false, none, .pick (.u 44) (.c (.bool true)) (.u 49)⟩,
           ⟨some 51, false, none, .mov (.u 50)⟩,
           ⟨some 52, false, some ((.u 51), false), .mov (.t 3)⟩,
           ⟨some 53, false, some ((.u 51), false), .load true 3 (.t 5)⟩,
           ⟨some 54, false, some ((.u 51), false), .look false 54 (.bool false) (.u 52) (.u 53)⟩,
           ⟨some 55, true, none, .pick (.u 51) (.c (.bool true)) (.u 54)⟩])
        (.cond (.t 55)
         (.seq (.region [⟨some 2, true, none, .mov (.c (.bool false))⟩])
         (.ret))
         (.skip)))
       (.seq (.seq (.regionD [⟨0, [1], false, [], ⟨some 56, false, none, .faddr 1 (.t 1)⟩⟩,
           ⟨1, [56], true, [], ⟨some 57, false, none, .load false 1 (.u 56)⟩⟩,
           ⟨2, [4], false, [], ⟨some 58, false, none, .mov (.t 4)⟩⟩,
           ⟨3, [57, 58], false, [], ⟨some 59, false, none, .slL 3 (.u 57) none (some (.u 58)) none⟩⟩,
           ⟨4, [5], false, [], ⟨some 60, false, none, .faddr 0 (.t 5)⟩⟩,
           ⟨5, [60], true, [], ⟨some 61, false, none, .load false 1 (.u 60)⟩⟩,
           ⟨6, [5], false, [], ⟨some 62, false, none, .faddr 1 (.t 5)⟩⟩,
           ⟨7, [62], true, [], ⟨some 63, false, none, .load false 1 (.u 62)⟩⟩,
           ⟨8, [59, 61, 63], false, [], ⟨some 64, false, none, .call 47 [(.u 59), (.u 61), (.u 63)]⟩⟩,
           ⟨9, [64], false, [], ⟨some 65, false, none, .un .not (.u 64)⟩⟩,
           ⟨10, [65], false, [], ⟨some 66, false, none, .mov (.u 65)⟩⟩,
           ⟨11, [1, 66], false, [], ⟨some 67, false, some ((.u 66), false), .faddr 1 (.t 1)⟩⟩,
           ⟨12, [67, 66], true, [], ⟨some 68, false, some ((.u 66), false), .load false 1 (.u 67)⟩⟩,
           ⟨13, [4, 66], false, [], ⟨some 69, false, some ((.u 66), false), .mov (.t 4)⟩⟩,
           ⟨14, [68, 69, 66], false, [], ⟨some 70, false, some ((.u 66), false), .slL 3 (.u 68) none (some (.u 69)) none⟩⟩,
           ⟨15, [5, 66], false, [], ⟨some 71, false, some ((.u 66), false), .faddr 0 (.t 5)⟩⟩,
           ⟨16, [71, 66], true, [], ⟨some 72, false, some ((.u 66), false), .load false 1 (.u 71)⟩⟩,
           ⟨17, [5, 66], false, [], ⟨some 73, false, some ((.u 66), false), .faddr 2 (.t 5)⟩⟩,
           ⟨18, [73, 66], true, [], ⟨some 74, false, some ((.u 66), false), .load false 1 (.u 73)⟩⟩,
           ⟨19, [70, 72, 74, 66], false, [], ⟨some 75, false, some ((.u 66), false), .call 47 [(.u 70), (.u 72), (.u 74)]⟩⟩,
           ⟨20, [75, 66], false, [], ⟨some 76, false, some ((.u 66), false), .un .not (.u 75)⟩⟩,
           ⟨21, [66, 76], false, [], ⟨some 77, true, none, .pick (.u 66) (.c (.bool true)) (.u 76)⟩⟩])
        (.cond (.t 77)
         (.seq (.region [⟨some 2, true, none, .mov (.c (.bool false))⟩])
         (.ret))
         (.skip)))
       (.region [⟨some 78, false, none, .mov (.t 3)⟩,
         ⟨some 79, false, none, .load true 3 (.t 5)⟩,
         ⟨none, true, none, .upd 54 (.u 78) (.u 79) (.c (.bool true))⟩])))))
     (.region [⟨some 80, false, none, .bin .add (.t 28) (.c (.int .i64 1))⟩,
       ⟨some 28, true, none, .mov (.u 80)⟩])))))))
  (.seq (.region [⟨some 81, false, none, .load true 3 (.t 1)⟩,
     ⟨some 82, false, none, .call 48 [(.u 81)]⟩,
     ⟨some 2, true, none, .mov (.u 82)⟩])
  (.ret)))))))
def r18 : List LRes := [.slot 2]
theorem t18 : (Try.f18.body.bind (trCode v18 Try.prog Try.f18.ntmps)) = some c18 ∧ trRes v18 Try.prog Try.f18.results.toList = some r18 := ⟨by kernel_rfl, by kernel_rfl⟩

def v19 : Nat → Bool := fun t => [0, 1, 2, 4, 5, 6, 9, 13, 30, 36].contains t
def c19 : LCode :=
  .seq (.region [⟨some 2, true, none, .box (.t 0)⟩,
     ⟨some 4, true, none, .mov (.c (.int .i64 0))⟩])
  (.seq (.seq (.region [⟨some 7, false, none, .load true 3 (.t 2)⟩,
      ⟨some 8, false, none, .call 18 [(.u 7)]⟩,
      ⟨some 9, true, none, .un .not (.u 8)⟩])
   (.cond (.t 9)
    (.seq (.region [⟨some 4, true, none, .mov (.c (.int .i64 (-1)))⟩])
    (.ret))
    (.skip)))
  (.seq (.region [⟨some 10, false, none, .faddr 2 (.t 2)⟩,
     ⟨some 11, false, none, .load false 1 (.u 10)⟩,
     ⟨some 5, true, none, .mov (.u 11)⟩])
  (.seq (.block 0 (.loop (.seq (.seq (.region [⟨some 12, false, none, .mov (.t 5)⟩,
         ⟨some 13, true, none, .bin .geq (.u 12) (.c (.int .i64 0))⟩])
      (.cond (.t 13)
       (.skip)
       (.exit 0)))
     (.block 1 (.seq (.region [⟨some 14, false, none, .faddr 1 (.t 2)⟩,
         ⟨some 15, false, none, .load false 1 (.u 14)⟩,
         ⟨some 16, false, none, .mov (.t 5)⟩,
         ⟨some 17, false, none, .iaS 3 (.u 15) (.u 16)⟩,
         ⟨some 18, false, none, .load true 3 (.u 17)⟩,
         ⟨some 6, true, none, .zero [.int .i64 0, .int .i64 0, .int .i64 0]⟩,
         ⟨none, true, none, .store 3 (.t 6) (.u 18)⟩])
      (.seq (.region [⟨some 19, false, none, .faddr 0 (.t 6)⟩,
         ⟨some 20, false, none, .load false 1 (.u 19)⟩,
         ⟨some 21, false, none, .mov (.t 1)⟩,
         ⟨some 22, false, none, .lenL (.u 21)⟩,
         ⟨some 23, false, none, .bin .lss (.u 20) (.u 22)⟩,
         ⟨some 24, false, none, .mov (.u 23)⟩,
         ⟨some 25, false, some ((.u 24), true), .mov (.t 1)⟩,
         ⟨some 26, false, some ((.u 24), true), .faddr 0 (.t 6)⟩,
         ⟨some 27, false, some ((.u 24), true), .load false 1 (.u 26)⟩,
         ⟨some 28, false, some ((.u 24), true), .iaS 1 (.u 25) (.u 27)⟩,
         ⟨some 29, false, some ((.u 24), true), .load false 1 (.u 28)⟩,
         ⟨some 30, true, none, .pick (.u 24) (.u 29) (.c (.bool false))⟩])
      (.cond (.t 30)
       (.region [⟨some 31, false, none, .faddr 2 (.t 6)⟩,
         ⟨some 32, false, none, .load false 1 (.u 31)⟩,
         ⟨some 5, true, none, .mov (.u 32)⟩])
       (.region [⟨some 33, false, none, .faddr 1 (.t 6)⟩,
         ⟨some 34, false, none, .load false 1 (.u 33)⟩,
         ⟨some 5, true, none, .mov (.u 34)⟩]))))))))
  (.seq (.seq (.region [⟨some 35, false, none, .mov (.t 5)⟩,
      ⟨some 36, true, none, .bin .eql (.u 35) (.c (.int .i64 (-1)))⟩])
   (.cond (.t 36)
    (.seq (.region [⟨some 4, true, none, .mov (.c (.int .i64 (-1)))⟩])
    (.ret))
    (.skip)))
  (.seq (.region [⟨some 37, false, none, .mov (.t 5)⟩,
     ⟨some 38, false, none, .bin .sub (.c (.int .i64 (-2))) (.u 37)⟩,
     ⟨some 4, true, none, .mov (.u 38)⟩])
  (.ret))))))
def r19 : List LRes := [.slot 4]
theorem t19 : (Try.f19.body.bind (trCode v19 Try.prog Try.f19.ntmps)) = some c19 ∧ trRes v19 Try.prog Try.f19.results.toList = some r19 := ⟨by kernel_rfl, by kernel_rfl⟩

def v20 : Nat → Bool := fun t => [0, 1, 2, 4, 5, 6, 9, 13, 30, 36].contains t
def c20 : LCode :=
  .seq (.region [⟨some 2, true, none, .box (.t 0)⟩,
     ⟨some 4, true, none, .mov (.c (.int .i64 0))⟩])
  (.seq (.seq (.region [⟨some 7, false, none, .load true 3 (.t 2)⟩,
      ⟨some 8, false, none, .call 23 [(.u 7)]⟩,
      ⟨some 9, true, none, .un .not (.u 8)⟩])
   (.cond (.t 9)
    (.seq (.region [⟨some 4, true, none, .mov (.c (.int .i64 (-1)))⟩])
    (.ret))
    (.skip)))
  (.seq (.region [⟨some 10, false, none, .faddr 2 (.t 2)⟩,
     ⟨some 11, false, none, .load false 1 (.u 10)⟩,
     ⟨some 5, true, none, .mov (.u 11)⟩])
  (.seq (.block 0 (.loop (.seq (.seq (.region [⟨some 12, false, none, .mov (.t 5)⟩,
         ⟨some 13, true, none, .bin .geq (.u 12) (.c (.int .i64 0))⟩])
      (.cond (.t 13)
       (.skip)
       (.exit 0)))
     (.block 1 (.seq (.region [⟨some 14, false, none, .faddr 1 (.t 2)⟩,
         ⟨some 15, false, none, .load false 1 (.u 14)⟩,
         ⟨some 16, false, none, .mov (.t 5)⟩,
         ⟨some 17, false, none, .iaS 3 (.u 15) (.u 16)⟩,
         ⟨some 18, false, none, .load true 3 (.u 17)⟩,
         ⟨some 6, true, none, .zero [.int .i64 0, .int .i64 0, .int .i64 0]⟩,
         ⟨none, true, none, .store 3 (.t 6) (.u 18)⟩])
      (.seq (.region [⟨some 19, false, none, .faddr 0 (.t 6)⟩,
         ⟨some 20, false, none, .load false 1 (.u 19)⟩,
         ⟨some 21, false, none, .mov (.t 1)⟩,
         ⟨some 22, false, none, .lenL (.u 21)⟩,
         ⟨some 23, false, none, .bin .lss (.u 20) (.u 22)⟩,
         ⟨some 24, false, none, .mov (.u 23)⟩,
         ⟨some 25, false, some ((.u 24), true), .mov (.t 1)⟩,
         ⟨some 26, false, some ((.u 24), true), .faddr 0 (.t 6)⟩,
         ⟨some 27, false, some ((.u 24), true), .load false 1 (.u 26)⟩,
         ⟨some 28, false, some ((.u 24), true), .iaS 1 (.u 25) (.u 27)⟩,
         ⟨some 29, false, some ((.u 24), true), .load false 1 (.u 28)⟩,
         ⟨some 30, true, none, .pick (.u 24) (.u 29) (.c (.bool false))⟩])
      (.cond (.t 30)
       (.region [⟨some 31, false, none, .faddr 2 (.t 6)⟩,
         ⟨some 32, false, none, .load false 1 (.u 31)⟩,
         ⟨some 5, true, none, .mov (.u 32)⟩])
       (.region [⟨some 33, false, none, .faddr 1 (.t 6)⟩,
         ⟨some 34, false, none, .load false 1 (.u 33)⟩,
         ⟨some 5, true, none, .mov (.u 34)⟩]))))))))
  (.seq (.seq (.region [⟨some 35, false, none, .mov (.t 5)⟩,
      ⟨some 36, true, none, .bin .eql (.u 35) (.c (.int .i64 (-1)))⟩])
   (.cond (.t 36)
    (.seq (.region [⟨some 4, true, none, .mov (.c (.int .i64 (-1)))⟩])
    (.ret))
    (.skip)))
  (.seq (.region [⟨some 37, false, none, .mov (.t 5)⟩,
     ⟨some 38, false, none, .bin .sub (.c (.int .i64 (-2))) (.u 37)⟩,
     ⟨some 4, true, none, .mov (.u 38)⟩])
  (.ret))))))
def r20 : List LRes := [.slot 4]
theorem t20 : (Try.f20.body.bind (trCode v20 Try.prog Try.f20.ntmps)) = some c20 ∧ trRes v20 Try.prog Try.f20.results.toList = some r20 := ⟨by kernel_rfl, by kernel_rfl⟩

def v21 : Nat → Bool := fun t => [0, 1, 4, 5, 7, 29, 45].contains t
def c21 : LCode :=
  .seq (.region [⟨some 4, true, none, .mov (.c (.int .i64 0))⟩])
  (.seq (.seq (.region [⟨some 6, false, none, .mov (.t 1)⟩,
      ⟨some 7, true, none, .bin .lss (.u 6) (.c (.int .i64 1))⟩])
   (.cond (.t 7)
    (.seq (.region [⟨some 4, true, none, .mov (.c (.int .i64 0))⟩])
    (.ret))
    (.skip)))
  (.seq (.region [⟨some 8, false, none, .mov (.t 0)⟩,
     ⟨some 9, false, none, .nilc (.u 8)⟩,
     ⟨some 10, false, none, .faddr 1 (.u 9)⟩,
     ⟨some 11, false, none, .load false 1 (.u 10)⟩,
     ⟨some 12, false, none, .bin .add (.u 11) (.c (.int .i64 1))⟩,
     ⟨some 13, false, none, .nilc (.u 8)⟩,
     ⟨some 14, false, none, .faddr 1 (.u 13)⟩,
     ⟨none, true, none, .store 1 (.u 14) (.u 12)⟩])
  (.seq (.region [⟨some 15, false, none, .mov (.t 0)⟩,
     ⟨some 16, false, none, .nilc (.u 15)⟩,
     ⟨some 17, false, none, .faddr 1 (.u 16)⟩,
     ⟨some 18, false, none, .load false 1 (.u 17)⟩,
     ⟨some 19, false, none, .bin .mul (.u 18) (.c (.int .i64 7))⟩,
     ⟨some 5, true, none, .mov (.u 19)⟩])
  (.seq (.seq (.regionD [⟨0, [0], false, [], ⟨some 20, false, none, .mov (.t 0)⟩⟩,
      ⟨1, [20], false, [], ⟨some 21, false, none, .nilc (.u 20)⟩⟩,
      ⟨2, [21], false, [], ⟨some 22, false, none, .faddr 1 (.u 21)⟩⟩,
      ⟨3, [22], true, [], ⟨some 23, false, none, .load false 1 (.u 22)⟩⟩,
      ⟨4, [0], false, [], ⟨some 24, false, none, .mov (.t 0)⟩⟩,
      ⟨5, [24], false, [], ⟨some 25, false, none, .nilc (.u 24)⟩⟩,
      ⟨6, [25], false, [], ⟨some 26, false, none, .faddr 0 (.u 25)⟩⟩,
      ⟨7, [26], true, [], ⟨some 27, false, none, .load false 1 (.u 26)⟩⟩,
      ⟨8, [27], false, [], ⟨some 28, false, none, .lenL (.u 27)⟩⟩,
      ⟨9, [23, 28], false, [], ⟨some 29, true, none, .bin .leq (.u 23) (.u 28)⟩⟩])
   (.cond (.t 29)
    (.regionD [⟨0, [0], false, [], ⟨some 30, false, none, .mov (.t 0)⟩⟩,
      ⟨1, [30], false, [], ⟨some 31, false, none, .nilc (.u 30)⟩⟩,
      ⟨2, [31], false, [], ⟨some 32, false, none, .faddr 0 (.u 31)⟩⟩,
      ⟨3, [32], true, [], ⟨some 33, false, none, .load false 1 (.u 32)⟩⟩,
      ⟨4, [0], false, [], ⟨some 34, false, none, .mov (.t 0)⟩⟩,
      ⟨5, [34], false, [], ⟨some 35, false, none, .nilc (.u 34)⟩⟩,
      ⟨6, [35], false, [], ⟨some 36, false, none, .faddr 1 (.u 35)⟩⟩,
      ⟨7, [36], true, [], ⟨some 37, false, none, .load false 1 (.u 36)⟩⟩,
      ⟨8, [37], false, [], ⟨some 38, false, none, .bin .sub (.u 37) (.c (.int .i64 1))⟩⟩,
      ⟨9, [33, 38], false, [], ⟨some 39, false, none, .iaS 1 (.u 33) (.u 38)⟩⟩,
      ⟨10, [39], true, [], ⟨some 40, false, none, .load false 1 (.u 39)⟩⟩,
      ⟨11, [40], false, [], ⟨some 5, true, none, .mov (.u 40)⟩⟩])
    (.skip)))
  (.seq (.region [⟨some 41, false, none, .mov (.t 5)⟩,
     ⟨some 42, false, none, .mov (.t 1)⟩,
     ⟨some 43, false, none, .bin .rem (.u 41) (.u 42)⟩,
     ⟨some 5, true, none, .mov (.u 43)⟩])
  (.seq (.seq (.region [⟨some 44, false, none, .mov (.t 5)⟩,
      ⟨some 45, true, none, .bin .lss (.u 44) (.c (.int .i64 0))⟩])
   (.cond (.t 45)
    (.region [⟨some 46, false, none, .mov (.t 5)⟩,
      ⟨some 47, false, none, .mov (.t 1)⟩,
      ⟨some 48, false, none, .bin .add (.u 46) (.u 47)⟩,
      ⟨some 5, true, none, .mov (.u 48)⟩])
    (.skip)))
  (.seq (.region [⟨some 49, false, none, .mov (.t 5)⟩,
     ⟨some 4, true, none, .mov (.u 49)⟩])
  (.ret))))))))
def r21 : List LRes := [.slot 4]
theorem t21 : (Try.f21.body.bind (trCode v21 Try.prog Try.f21.ntmps)) = some c21 ∧ trRes v21 Try.prog Try.f21.results.toList = some r21 := ⟨by kernel_rfl, by kernel_rfl⟩

def v22 : Nat → Bool := fun t => [0, 1, 2, 6].contains t
def c22 : LCode :=
  .seq (.region [⟨some 6, true, none, .mov (.c (.int .i64 0))⟩])
  (.seq (.region [⟨some 7, false, none, .mov (.t 1)⟩,
     ⟨some 8, false, none, .mov (.t 0)⟩,
     ⟨some 9, false, none, .mov (.t 2)⟩,
     ⟨some 10, false, none, .mov (.t 1)⟩,
     ⟨some 11, false, none, .bin .sub (.u 9) (.u 10)⟩,
     ⟨some 12, false, none, .bin .add (.u 11) (.c (.int .i64 1))⟩,
     ⟨some 13, false, none, .call 21 [(.u 8), (.u 12)]⟩,
     ⟨some 14, false, none, .bin .add (.u 7) (.u 13)⟩,
     ⟨some 6, true, none, .mov (.u 14)⟩])
  (.ret))
def r22 : List LRes := [.slot 6]
theorem t22 : (Try.f22.body.bind (trCode v22 Try.prog Try.f22.ntmps)) = some c22 ∧ trRes v22 Try.prog Try.f22.results.toList = some r22 := ⟨by kernel_rfl, by kernel_rfl⟩

def v23 : Nat → Bool := fun t => [0, 1, 2, 3, 4, 5, 35, 40, 111, 114, 123].contains t
def c23 : LCode :=
  .seq (.region [⟨some 1, true, none, .box (.t 0)⟩,
     ⟨some 2, true, none, .mov (.c (.bool false))⟩])
  (.seq (.seq (.region [⟨some 6, false, none, .faddr 0 (.t 1)⟩,
      ⟨some 7, false, none, .load false 1 (.u 6)⟩,
      ⟨some 8, false, none, .lenL (.u 7)⟩,
      ⟨some 9, false, none, .bin .gtr (.u 8) (.c (.int .i64 12))⟩,
      ⟨some 10, false, none, .mov (.u 9)⟩,
      ⟨some 11, false, some ((.u 10), false), .faddr 1 (.t 1)⟩,
      ⟨some 12, false, some ((.u 10), false), .load false 1 (.u 11)⟩,
      ⟨some 13, false, some ((.u 10), false), .lenL (.u 12)⟩,
      ⟨some 14, false, some ((.u 10), false), .bin .eql (.u 13) (.c (.int .i64 0))⟩,
      ⟨some 15, false, some ((.u 10), false), .mov (.u 14)⟩,
      ⟨some 16, false, some ((.u 15), true), .faddr 2 (.t 1)⟩,
      ⟨some 17, false, some ((.u 15), true), .load false 1 (.u 16)⟩,
      ⟨some 18, false, some ((.u 15), true), .bin .geq (.u 17) (.c (.int .i64 0))⟩,
      ⟨some 19, false, some ((.u 10), false), .pick (.u 15) (.u 18) (.c (.bool false))⟩,
      ⟨some 20, false, none, .pick (.u 10) (.c (.bool true)) (.u 19)⟩,
      ⟨some 21, false, none, .mov (.u 20)⟩,
      ⟨some 22, false, some ((.u 21), false), .faddr 1 (.t 1)⟩,
      ⟨some 23, false, some ((.u 21), false), .load false 1 (.u 22)⟩,
      ⟨some 24, false, some ((.u 21), false), .lenL (.u 23)⟩,
      ⟨some 25, false, some ((.u 21), false), .bin .gtr (.u 24) (.c (.int .i64 0))⟩,
      ⟨some 26, false, some ((.u 21), false), .mov (.u 25)⟩,
      ⟨some 27, false, some ((.u 26), true), .faddr 2 (.t 1)⟩,
      ⟨some 28, false, some ((.u 26), true), .load false 1 (.u 27)⟩,
      ⟨some 29, false, some ((.u 26), true), .faddr 1 (.t 1)⟩,
      ⟨some 30, false, some ((.u 26), true), .load false 1 (.u 29)⟩,
      ⟨some 31, false, some ((.u 26), true), .lenL (.u 30)⟩,
      ⟨some 32, false, some ((.u 26), true), .bin .sub (.u 31) (.c (.int .i64 1))⟩,
      ⟨some 33, false, some ((.u 26), true), .bin .neq (.u 28) (.u 32)⟩,
      ⟨some 34, false, some ((.u 21), false), .pick (.u 26) (.u 33) (.c (.bool false))⟩,
      ⟨some 35, true, none, .pick (.u 21) (.c (.bool true)) (.u 34)⟩])
   (.cond (.t 35)
    (.seq (.region [⟨some 2, true, none, .mov (.c (.bool false))⟩])
    (.ret))
    (.skip)))
  (.seq (.seq (.region [⟨some 3, true, none, .mov (.c (.int .i64 0))⟩])
   (.block 0 (.loop (.seq (.seq (.region [⟨some 36, false, none, .mov (.t 3)⟩,
         ⟨some 37, false, none, .faddr 1 (.t 1)⟩,
         ⟨some 38, false, none, .load false 1 (.u 37)⟩,
         ⟨some 39, false, none, .lenL (.u 38)⟩,
         ⟨some 40, true, none, .bin .lss (.u 36) (.u 39)⟩])
      (.cond (.t 40)
       (.skip)
       (.exit 0)))
     (.seq (.block 1 (.seq (.region [⟨some 43, false, none, .faddr 1 (.t 1)⟩,
          ⟨some 44, false, none, .load false 1 (.u 43)⟩,
          ⟨some 45, false, none, .mov (.t 3)⟩,
          ⟨some 46, false, none, .iaS 3 (.u 44) (.u 45)⟩,
          ⟨some 47, false, none, .load true 3 (.u 46)⟩,
          ⟨some 4, true, none, .zero [.int .i64 0, .int .i64 0, .int .i64 0]⟩,
          ⟨none, true, none, .store 3 (.t 4) (.u 47)⟩])
       (.seq (.seq (.regionD [⟨0, [4], false, [], ⟨some 48, false, none, .faddr 0 (.t 4)⟩⟩,
           ⟨1, [48], true, [], ⟨some 49, false, none, .load false 1 (.u 48)⟩⟩,
           ⟨2, [49], false, [], ⟨some 50, false, none, .bin .lss (.u 49) (.c (.int .i64 0))⟩⟩,
           ⟨3, [50], false, [], ⟨some 51, false, none, .mov (.u 50)⟩⟩,
           ⟨4, [4, 51], false, [], ⟨some 52, false, some ((.u 51), false), .faddr 0 (.t 4)⟩⟩,
           ⟨5, [52, 51], true, [], ⟨some 53, false, some ((.u 51), false), .load false 1 (.u 52)⟩⟩,
           ⟨6, [1, 51], false, [], ⟨some 54, false, some ((.u 51), false), .faddr 0 (.t 1)⟩⟩,
           ⟨7, [54, 51], true, [], ⟨some 55, false, some ((.u 51), false), .load false 1 (.u 54)⟩⟩,
           ⟨8, [55, 51], false, [], ⟨some 56, false, some ((.u 51), false), .lenL (.u 55)⟩⟩,
           ⟨9, [53, 56, 51], false, [], ⟨some 57, false, some ((.u 51), false), .bin .geq (.u 53) (.u 56)⟩⟩,
           ⟨10, [51, 57], false, [], ⟨some 58, false, none, .pick (.u 51) (.c (.bool true)) (.u 57)⟩⟩,
           ⟨11, [58], false, [], ⟨some 59, false, none, .mov (.u 58)⟩⟩,
           ⟨12, [4, 59], false, [], ⟨some 60, false, some ((.u 59), false), .faddr 1 (.t 4)⟩⟩,
           ⟨13, [60, 59], true, [], ⟨some 61, false, some ((.u 59), false), .load false 1 (.u 60)⟩⟩,
           ⟨14, [3, 59], false, [], ⟨some 62, false, some ((.u 59), false), .mov (.t 3)⟩⟩,
           ⟨15, [61, 62, 59], false, [], ⟨some 63, false, some ((.u 59), false), .bin .geq (.u 61) (.u 62)⟩⟩,
           ⟨16, [59, 63], false, [], ⟨some 64, false, none, .pick (.u 59) (.c (.bool true)) (.u 63)⟩⟩,
           ⟨17, [64], false, [], ⟨some 65, false, none, .mov (.u 64)⟩⟩,
           ⟨18, [4, 65], false, [], ⟨some 66, false, some ((.u 65), false), .faddr 2 (.t 4)⟩⟩,
           ⟨19, [66, 65], true, [], ⟨some 67, false, some ((.u 65), false), .load false 1 (.u 66)⟩⟩,
           ⟨20, [3, 65], false, [], ⟨some 68, false, some ((.u 65), false), .mov (.t 3)⟩⟩,
           ⟨21, [67, 68, 65], false, [], ⟨some 69, false, some ((.u 65), false), .bin .geq (.u 67) (.u 68)⟩⟩,
           ⟨22, [65, 69], false, [], ⟨some 70, false, none, .pick (.u 65) (.c (.bool true)) (.u 69)⟩⟩,
           ⟨23, [70], false, [], ⟨some 71, false, none, .mov (.u 70)⟩⟩,
           ⟨24, [4, 71], false, [], ⟨some 72, false, some ((.u 71), false), .faddr 1 (.t 4)⟩⟩,
           ⟨25, [72, 71], true, [], ⟨some 73, false, some ((.u 71), false), .load false 1 (.u 72)⟩⟩,
           ⟨26, [4, 71], false, [], ⟨some 74, false, some ((.u 71), false), .faddr 2 (.t 4)⟩⟩,
           ⟨27, [74, 71], true, [], ⟨some 75, false, some ((.u 71), false), .load false 1 (.u 74)⟩⟩,
           ⟨28, [73, 75, 71], false, [], ⟨some 76, false, some ((.u 71), false), .bin .eql (.u 73) (.u 75)⟩⟩,
           ⟨29, [71, 76], false, [], ⟨some 77, false, none, .pick (.u 71) (.c (.bool true)) (.u 76)⟩⟩,
           ⟨30, [77], false, [], ⟨some 78, false, none, .mov (.u 77)⟩⟩,
           ⟨31, [4, 78], false, [], ⟨some 79, false, some ((.u 78), false), .faddr 1 (.t 4)⟩⟩,
           ⟨32, [79, 78], true, [], ⟨some 80, false, some ((.u 78), false), .load false 1 (.u 79)⟩⟩,
           ⟨33, [80, 78], false, [], ⟨some 81, false, some ((.u 78), false), .bin .geq (.u 80) (.c (.int .i64 0))⟩⟩,
           ⟨34, [81, 78], false, [], ⟨some 82, false, some ((.u 78), false), .mov (.u 81)⟩⟩,
           ⟨35, [1, 82], false, [], ⟨some 83, false, some ((.u 82), true), .faddr 1 (.t 1)⟩⟩,
           ⟨36, [83, 82], true, [], ⟨some 84, false, some ((.u 82), true), .load false 1 (.u 83)⟩⟩,
           ⟨37, [4, 82], false, [], ⟨some 85, false, some ((.u 82), true), .faddr 1 (.t 4)⟩⟩,
           ⟨38, [85, 82], true, [], ⟨some 86, false, some ((.u 82), true), .load false 1 (.u 85)⟩⟩,
           ⟨39, [84, 86, 82], false, [], ⟨some 87, false, some ((.u 82), true), .iaS 3 (.u 84) (.u 86)⟩⟩,
           ⟨40, [87, 82], false, [], ⟨some 88, false, some ((.u 82), true), .faddr 0 (.u 87)⟩⟩,
           ⟨41, [88, 82], true, [], ⟨some 89, false, some ((.u 82), true), .load false 1 (.u 88)⟩⟩,
           ⟨42, [4, 82], false, [], ⟨some 90, false, some ((.u 82), true), .faddr 0 (.t 4)⟩⟩,
           ⟨43, [90, 82], true, [], ⟨some 91, false, some ((.u 82), true), .load false 1 (.u 90)⟩⟩,
           ⟨44, [89, 91, 82], false, [], ⟨some 92, false, some ((.u 82), true), .bin .leq (.u 89) (.u 91)⟩⟩,
           ⟨45, [82, 92, 78], false, [], ⟨some 93, false, some ((.u 78), false), .pick (.u 82) (.u 92) (.c (.bool false))⟩⟩,
           ⟨46, [78, 93], false, [], ⟨some 94, false, none, .pick (.u 78) (.c (.bool true)) (.u 93)⟩⟩,
           ⟨47, [94], false, [], ⟨some 95, false, none, .mov (.u 94)⟩⟩,
           ⟨48, [4, 95], false, [], ⟨some 96, false, some ((.u 95), false), .faddr 2 (.t 4)⟩⟩,
           ⟨49, [96, 95], true, [], ⟨some 97, false, some ((.u 95), false), .load false 1 (.u 96)⟩⟩,
           ⟨50, [97, 95], false, [], ⟨some 98, false, some ((.u 95), false), .bin .geq (.u 97) (.c (.int .i64 0))⟩⟩,
           ⟨51, [98, 95], false, [], ⟨some 99, false, some ((.u 95), false), .mov (.u 98)⟩⟩,
           ⟨52, [1, 99], false, [], ⟨some 100, false, some ((.u 99), true), .faddr 1 (.t 1)⟩⟩,
           ⟨53, [100, 99], true, [], ⟨some 101, false, some ((.u 99), true), .load false 1 (.u 100)⟩⟩,
           ⟨54, [4, 99], false, [], ⟨some 102, false, some ((.u 99), true), .faddr 2 (.t 4)⟩⟩,
           ⟨55, [102, 99], true, [], ⟨some 103, false, some ((.u 99), true), .load false 1 (.u 102)⟩⟩,
           ⟨56, [101, 103, 99], false, [], ⟨some 104, false, some ((.u 99), true), .iaS 3 (.u 101) (.u 103)⟩⟩,
           ⟨57, [104, 99], false, [], ⟨some 105, false, some ((.u 99), true), .faddr 0 (.u 104)⟩⟩,
           ⟨58, [105, 99], true, [], ⟨some 106, false, some ((.u 99), true), .load false 1 (.u 105)⟩⟩,
           ⟨59, [4, 99], false, [], ⟨some 107, false, some ((.u 99), true), .faddr 0 (.t 4)⟩⟩,
           ⟨60, [107, 99], true, [], ⟨some 108, false, some ((.u 99), true), .load false 1 (.u 107)⟩⟩,
           ⟨61, [106, 108, 99], false, [], ⟨some 109, false, some ((.u 99), true), .bin .leq (.u 106) (.u 108)⟩⟩,
           ⟨62, [99, 109, 95], false, [], ⟨some 110, false, some ((.u 95), false), .pick (.u 99) (.u 109) (.c (.bool false))⟩⟩,
           ⟨63, [95, 110], false, [], ⟨some 111, true, none, .pick (.u 95) (.c (.bool true)) (.u 110)⟩⟩])
        (.cond (.t 111)
         (.seq (.region [⟨some 2, true, none, .mov (.c (.bool false))⟩])
         (.ret))
         (.skip)))
       (.seq (.region [⟨some 5, true, none, .mov (.c (.int .i64 0))⟩])
       (.block 2 (.loop (.seq (.seq (.region [⟨some 112, false, none, .mov (.t 5)⟩,
             ⟨some 113, false, none, .mov (.t 3)⟩,
             ⟨some 114, true, none, .bin .lss (.u 112) (.u 113)⟩])
          (.cond (.t 114)
           (.skip)
           (.exit 2)))
         (.seq (.block 3 (.seq (.regionD [⟨0, [1], false, [], ⟨some 117, false, none, .faddr 1 (.t 1)⟩⟩,
              ⟨1, [117], true, [], ⟨some 118, false, none, .load false 1 (.u 117)⟩⟩,
              ⟨2, [5], false, [], ⟨some 119, false, none, .mov (.t 5)⟩⟩,
              ⟨3, [118, 119], false, [], ⟨some 120, false, none, .iaS 3 (.u 118) (.u 119)⟩⟩,
              ⟨4, [120], true, [], ⟨some 121, false, none, .load true 3 (.u 120)⟩⟩,
              ⟨5, [4], true, [], ⟨some 122, false, none, .load true 3 (.t 4)⟩⟩,
              ⟨6, [121, 122], false, [], ⟨some 123, true, none, .eqS false 3 [(0, 1), (1, 1), (2, 1)] (.u 121) (.u 122)⟩⟩])
           (.cond (.t 123)
            (.seq (.region [⟨some 2, true, none, .mov (.c (.bool false))⟩])
            (.ret))
            (.skip))))
         (.region [⟨some 115, false, none, .mov (.t 5)⟩,
           ⟨some 116, false, none, .bin .add (.u 115) (.c (.int .i64 1))⟩,
           ⟨some 5, true, none, .mov (.u 116)⟩])))))))))
     (.region [⟨some 41, false, none, .mov (.t 3)⟩,
       ⟨some 42, false, none, .bin .add (.u 41) (.c (.int .i64 1))⟩,
       ⟨some 3, true, none, .mov (.u 42)⟩]))))))
  (.seq (.regionD [⟨0, [1], true, [], ⟨some 124, false, none, .load true 3 (.t 1)⟩⟩,
     ⟨1, [1], true, [], ⟨some 125, false, none, .load true 3 (.t 1)⟩⟩,
     ⟨2, [1], false, [], ⟨some 126, false, none, .faddr 2 (.t 1)⟩⟩,
     ⟨3, [126], true, [], ⟨some 127, false, none, .load false 1 (.u 126)⟩⟩,
     ⟨4, [125, 127], false, [0], ⟨some 128, false, none, .call 46 [(.u 125), (.u 127)]⟩⟩,
     ⟨5, [124, 128], false, [], ⟨some 129, false, none, .call 49 [(.u 124), (.u 128)]⟩⟩,
     ⟨6, [129], false, [], ⟨some 2, true, none, .mov (.u 129)⟩⟩])
  (.ret))))
def r23 : List LRes := [.slot 2]
theorem t23 : (Try.f23.body.bind (trCode v23 Try.prog Try.f23.ntmps)) = some c23 ∧ trRes v23 Try.prog Try.f23.results.toList = some r23 := ⟨by kernel_rfl, by kernel_rfl⟩

def v24 : Nat → Bool := fun t => [0, 1, 4, 5, 6, 7, 8, 9, 10, 11, 15, 31, 34, 45, 49, 63, 72, 75].contains t
def c24 : LCode :=
  .seq (.region [⟨some 4, true, none, .mov (.c (.fsl 1 0 []))⟩,
     ⟨some 5, true, none, .mov (.c (.int .i64 0))⟩])
  (.seq (.seq (.region [⟨some 6, true, none, .mov (.c (.int .i64 0))⟩])
   (.block 0 (.loop (.seq (.seq (.region [⟨some 12, false, none, .mov (.t 6)⟩,
         ⟨some 13, false, none, .mov (.t 1)⟩,
         ⟨some 14, false, none, .lenL (.u 13)⟩,
         ⟨some 15, true, none, .bin .lss (.u 12) (.u 14)⟩])
      (.cond (.t 15)
       (.skip)
       (.exit 0)))
     (.seq (.block 1 (.seq (.seq (.region [⟨some 18, false, none, .mov (.t 1)⟩,
           ⟨some 19, false, none, .mov (.t 6)⟩,
           ⟨some 20, false, none, .iaS 1 (.u 18) (.u 19)⟩,
           ⟨some 21, false, none, .load false 1 (.u 20)⟩,
           ⟨some 22, false, none, .bin .lss (.u 21) (.c (.int .i64 0))⟩,
           ⟨some 23, false, none, .mov (.u 22)⟩,
           ⟨some 24, false, some ((.u 23), false), .mov (.t 1)⟩,
           ⟨some 25, false, some ((.u 23), false), .mov (.t 6)⟩,
           ⟨some 26, false, some ((.u 23), false), .iaS 1 (.u 24) (.u 25)⟩,
           ⟨some 27, false, some ((.u 23), false), .load false 1 (.u 26)⟩,
           ⟨some 28, false, some ((.u 23), false), .mov (.t 0)⟩,
           ⟨some 29, false, some ((.u 23), false), .lenL (.u 28)⟩,
           ⟨some 30, false, some ((.u 23), false), .bin .geq (.u 27) (.u 29)⟩,
           ⟨some 31, true, none, .pick (.u 23) (.c (.bool true)) (.u 30)⟩])
        (.cond (.t 31)
         (.seq (.region [⟨some 4, true, none, .mov (.c (.fsl 1 0 []))⟩,
            ⟨some 5, true, none, .mov (.c (.int .i64 160))⟩])
         (.ret))
         (.skip)))
       (.seq (.region [⟨some 7, true, none, .mov (.c (.int .i64 0))⟩])
       (.block 2 (.loop (.seq (.seq (.region [⟨some 32, false, none, .mov (.t 7)⟩,
             ⟨some 33, false, none, .mov (.t 6)⟩,
             ⟨some 34, true, none, .bin .lss (.u 32) (.u 33)⟩])
          (.cond (.t 34)
           (.skip)
           (.exit 2)))
         (.seq (.block 3 (.seq (.regionD [⟨0, [1], false, [], ⟨some 37, false, none, .mov (.t 1)⟩⟩,
              ⟨1, [7], false, [], ⟨some 38, false, none, .mov (.t 7)⟩⟩,
              ⟨2, [37, 38], false, [], ⟨some 39, false, none, .iaS 1 (.u 37) (.u 38)⟩⟩,
              ⟨3, [39], true, [], ⟨some 40, false, none, .load false 1 (.u 39)⟩⟩,
              ⟨4, [1], false, [], ⟨some 41, false, none, .mov (.t 1)⟩⟩,
              ⟨5, [6], false, [], ⟨some 42, false, none, .mov (.t 6)⟩⟩,
              ⟨6, [41, 42], false, [], ⟨some 43, false, none, .iaS 1 (.u 41) (.u 42)⟩⟩,
              ⟨7, [43], true, [], ⟨some 44, false, none, .load false 1 (.u 43)⟩⟩,
              ⟨8, [40, 44], false, [], ⟨some 45, true, none, .bin .eql (.u 40) (.u 44)⟩⟩])
           (.cond (.t 45)
            (.seq (.region [⟨some 4, true, none, .mov (.c (.fsl 1 0 []))⟩,
               ⟨some 5, true, none, .mov (.c (.int .i64 160))⟩])
            (.ret))
            (.skip))))
         (.region [⟨some 35, false, none, .mov (.t 7)⟩,
           ⟨some 36, false, none, .bin .add (.u 35) (.c (.int .i64 1))⟩,
           ⟨some 7, true, none, .mov (.u 36)⟩]))))))))
     (.region [⟨some 16, false, none, .mov (.t 6)⟩,
       ⟨some 17, false, none, .bin .add (.u 16) (.c (.int .i64 1))⟩,
       ⟨some 6, true, none, .mov (.u 17)⟩]))))))
  (.seq (.region [⟨some 8, true, none, .mov (.c (.fsl 1 0 []))⟩])
  (.seq (.seq (.region [⟨some 9, true, none, .mov (.c (.int .i64 0))⟩])
   (.block 4 (.loop (.seq (.seq (.region [⟨some 46, false, none, .mov (.t 9)⟩,
         ⟨some 47, false, none, .mov (.t 1)⟩,
         ⟨some 48, false, none, .lenL (.u 47)⟩,
         ⟨some 49, true, none, .bin .lss (.u 46) (.u 48)⟩])
      (.cond (.t 49)
       (.skip)
       (.exit 4)))
     (.seq (.block 5 (.seq (.region [⟨some 52, false, none, .mov (.t 0)⟩,
          ⟨some 53, false, none, .mov (.t 1)⟩,
          ⟨some 54, false, none, .mov (.t 9)⟩,
          ⟨some 55, false, none, .iaS 1 (.u 53) (.u 54)⟩,
          ⟨some 56, false, none, .load false 1 (.u 55)⟩,
          ⟨some 57, false, none, .iaS 8 (.u 52) (.u 56)⟩,
          ⟨some 58, false, none, .load true 8 (.u 57)⟩,
          ⟨some 59, false, none, .call 50 [(.u 58)]⟩,
          ⟨some 10, true, none, .mov (.u 59)⟩])
       (.seq (.region [⟨some 11, true, none, .mov (.c (.int .i64 0))⟩])
       (.block 6 (.loop (.seq (.seq (.region [⟨some 60, false, none, .mov (.t 11)⟩,
             ⟨some 61, false, none, .mov (.t 10)⟩,
             ⟨some 62, false, none, .lenL (.u 61)⟩,
             ⟨some 63, true, none, .bin .lss (.u 60) (.u 62)⟩])
          (.cond (.t 63)
           (.skip)
           (.exit 6)))
         (.seq (.block 7 (.seq (.region [⟨some 66, false, none, .mov (.t 8)⟩,
              ⟨some 67, false, none, .mov (.t 10)⟩,
              ⟨some 68, false, none, .mov (.t 11)⟩,
              ⟨some 69, false, none, .iaS 8 (.u 67) (.u 68)⟩,
              ⟨some 70, false, none, .load true 8 (.u 69)⟩,
              ⟨some 71, false, none, .call 51 [(.u 66), (.u 70)]⟩,
              ⟨some 72, true, none, .bin .lss (.u 71) (.c (.int .i64 0))⟩])
           (.cond (.t 72)
            (.seq (.seq (.region [⟨some 73, false, none, .mov (.t 8)⟩,
                ⟨some 74, false, none, .lenL (.u 73)⟩,
                ⟨some 75, true, none, .bin .eql (.u 74) (.c (.int .i64 12))⟩])
             (.cond (.t 75)
              (.seq (.region [⟨some 4, true, none, .mov (.c (.fsl 1 0 []))⟩,
                 ⟨some 5, true, none, .mov (.c (.int .i64 161))⟩])
              (.ret))
              (.skip)))
            (.region [⟨some 76, false, none, .mov (.t 8)⟩,
              ⟨some 77, false, none, .mov (.t 10)⟩,
              ⟨some 78, false, none, .mov (.t 11)⟩,
              ⟨some 79, false, none, .iaS 8 (.u 77) (.u 78)⟩,
              ⟨some 80, false, none, .load true 8 (.u 79)⟩,
              ⟨some 81, false, none, .mkS 8 1 [.int .i64 0, .int .i64 0, .int .i64 0, .str [], .int .i64 0, .int .i64 0, .str [], .int .i64 0] [(0, 8, (.u 80))]⟩,
              ⟨some 82, false, none, .app 8 80 (.u 76) (.u 81)⟩,
              ⟨some 8, true, none, .mov (.u 82)⟩]))
            (.skip))))
         (.region [⟨some 64, false, none, .mov (.t 11)⟩,
           ⟨some 65, false, none, .bin .add (.u 64) (.c (.int .i64 1))⟩,
           ⟨some 11, true, none, .mov (.u 65)⟩]))))))))
     (.region [⟨some 50, false, none, .mov (.t 9)⟩,
       ⟨some 51, false, none, .bin .add (.u 50) (.c (.int .i64 1))⟩,
       ⟨some 9, true, none, .mov (.u 51)⟩]))))))
  (.seq (.region [⟨some 83, false, none, .mov (.t 8)⟩,
     ⟨some 4, true, none, .mov (.u 83)⟩,
     ⟨some 5, true, none, .mov (.c (.int .i64 0))⟩])
  (.ret)))))
def r24 : List LRes := [.slot 4, .slot 5]
theorem t24 : (Try.f24.body.bind (trCode v24 Try.prog Try.f24.ntmps)) = some c24 ∧ trRes v24 Try.prog Try.f24.results.toList = some r24 := ⟨by kernel_rfl, by kernel_rfl⟩

def v25 : Nat → Bool := fun t => [0, 1, 2, 3, 8, 9, 10, 11, 12, 16, 30, 47].contains t
def c25 : LCode :=
  .seq (.region [⟨some 8, true, none, .mov (.c (.int .i64 0))⟩])
  (.seq (.seq (.region [⟨some 9, true, none, .mov (.c (.int .i64 0))⟩])
   (.block 0 (.loop (.seq (.seq (.region [⟨some 13, false, none, .mov (.t 9)⟩,
         ⟨some 14, false, none, .mov (.t 1)⟩,
         ⟨some 15, false, none, .lenL (.u 14)⟩,
         ⟨some 16, true, none, .bin .lss (.u 13) (.u 15)⟩])
      (.cond (.t 16)
       (.skip)
       (.exit 0)))
     (.seq (.block 1 (.seq (.region [⟨some 19, false, none, .mov (.t 0)⟩,
          ⟨some 20, false, none, .mov (.t 1)⟩,
          ⟨some 21, false, none, .mov (.t 9)⟩,
          ⟨some 22, false, none, .iaS 1 (.u 20) (.u 21)⟩,
          ⟨some 23, false, none, .load false 1 (.u 22)⟩,
          ⟨some 24, false, none, .iaS 8 (.u 19) (.u 23)⟩,
          ⟨some 25, false, none, .load true 8 (.u 24)⟩,
          ⟨some 26, false, none, .call 50 [(.u 25)]⟩,
          ⟨some 10, true, none, .mov (.u 26)⟩])
       (.seq (.region [⟨some 11, true, none, .mov (.c (.bool true))⟩])
       (.seq (.seq (.region [⟨some 12, true, none, .mov (.c (.int .i64 0))⟩])
        (.block 2 (.loop (.seq (.seq (.region [⟨some 27, false, none, .mov (.t 12)⟩,
              ⟨some 28, false, none, .mov (.t 10)⟩,
              ⟨some 29, false, none, .lenL (.u 28)⟩,
              ⟨some 30, true, none, .bin .lss (.u 27) (.u 29)⟩])
           (.cond (.t 30)
            (.skip)
            (.exit 2)))
          (.seq (.block 3 (.region [⟨some 33, false, none, .mov (.t 11)⟩,
              ⟨some 34, false, none, .mov (.u 33)⟩,
              ⟨some 35, false, some ((.u 34), true), .mov (.t 3)⟩,
              ⟨some 36, false, some ((.u 34), true), .mov (.t 2)⟩,
              ⟨some 37, false, some ((.u 34), true), .mov (.t 10)⟩,
              ⟨some 38, false, some ((.u 34), true), .mov (.t 12)⟩,
              ⟨some 39, false, some ((.u 34), true), .iaS 8 (.u 37) (.u 38)⟩,
              ⟨some 40, false, some ((.u 34), true), .load true 8 (.u 39)⟩,
              ⟨some 41, false, some ((.u 34), true), .call 51 [(.u 36), (.u 40)]⟩,
              ⟨some 42, false, some ((.u 34), true), .conv .u64 (.u 41)⟩,
              ⟨some 43, false, some ((.u 34), true), .bin .shr (.u 35) (.u 42)⟩,
              ⟨some 44, false, some ((.u 34), true), .bin .and (.u 43) (.c (.int .i64 1))⟩,
              ⟨some 45, false, some ((.u 34), true), .bin .eql (.u 44) (.c (.int .i64 1))⟩,
              ⟨some 46, false, none, .pick (.u 34) (.u 45) (.c (.bool false))⟩,
              ⟨some 11, true, none, .mov (.u 46)⟩]))
          (.region [⟨some 31, false, none, .mov (.t 12)⟩,
            ⟨some 32, false, none, .bin .add (.u 31) (.c (.int .i64 1))⟩,
            ⟨some 12, true, none, .mov (.u 32)⟩]))))))
       (.seq (.region [⟨some 47, true, none, .mov (.t 11)⟩])
       (.cond (.t 47)
        (.seq (.region [⟨some 48, false, none, .mov (.t 1)⟩,
           ⟨some 49, false, none, .mov (.t 9)⟩,
           ⟨some 50, false, none, .iaS 1 (.u 48) (.u 49)⟩,
           ⟨some 51, false, none, .load false 1 (.u 50)⟩,
           ⟨some 52, false, none, .bin .sub (.c (.int .i64 (-2))) (.u 51)⟩,
           ⟨some 8, true, none, .mov (.u 52)⟩])
        (.ret))
        (.skip)))))))
     (.region [⟨some 17, false, none, .mov (.t 9)⟩,
       ⟨some 18, false, none, .bin .add (.u 17) (.c (.int .i64 1))⟩,
       ⟨some 9, true, none, .mov (.u 18)⟩]))))))
  (.seq (.region [⟨some 8, true, none, .mov (.c (.int .i64 (-1)))⟩])
  (.ret)))
def r25 : List LRes := [.slot 8]
theorem t25 : (Try.f25.body.bind (trCode v25 Try.prog Try.f25.ntmps)) = some c25 ∧ trRes v25 Try.prog Try.f25.results.toList = some r25 := ⟨by kernel_rfl, by kernel_rfl⟩

def v26 : Nat → Bool := fun t => [0, 1, 4, 5, 6, 9].contains t
def c26 : LCode :=
  .seq (.region [⟨some 4, true, none, .mov (.c (.fsl 1 0 []))⟩])
  (.seq (.region [⟨some 5, true, none, .mov (.c (.fsl 1 0 []))⟩])
  (.seq (.seq (.region [⟨some 6, true, none, .mov (.c (.int .i64 0))⟩])
   (.block 0 (.loop (.seq (.seq (.region [⟨some 7, false, none, .mov (.t 6)⟩,
         ⟨some 8, false, none, .mov (.t 0)⟩,
         ⟨some 9, true, none, .bin .lss (.u 7) (.u 8)⟩])
      (.cond (.t 9)
       (.skip)
       (.exit 0)))
     (.seq (.block 1 (.region [⟨some 12, false, none, .mov (.t 5)⟩,
         ⟨some 13, false, none, .mov (.t 1)⟩,
         ⟨some 14, false, none, .mov (.t 6)⟩,
         ⟨some 15, false, none, .bin .rem (.u 14) (.c (.int .i64 60))⟩,
         ⟨some 16, false, none, .conv .u64 (.u 15)⟩,
         ⟨some 17, false, none, .bin .shr (.u 13) (.u 16)⟩,
         ⟨some 18, false, none, .bin .and (.u 17) (.c (.int .i64 1))⟩,
         ⟨some 19, false, none, .bin .eql (.u 18) (.c (.int .i64 1))⟩,
         ⟨some 20, false, none, .mkS 1 1 [.bool false] [(0, 1, (.u 19))]⟩,
         ⟨some 21, false, none, .app 1 1 (.u 12) (.u 20)⟩,
         ⟨some 5, true, none, .mov (.u 21)⟩]))
     (.region [⟨some 10, false, none, .mov (.t 6)⟩,
       ⟨some 11, false, none, .bin .add (.u 10) (.c (.int .i64 1))⟩,
       ⟨some 6, true, none, .mov (.u 11)⟩]))))))
  (.seq (.region [⟨some 22, false, none, .mov (.t 5)⟩,
     ⟨some 4, true, none, .mov (.u 22)⟩])
  (.ret))))
def r26 : List LRes := [.slot 4]
theorem t26 : (Try.f26.body.bind (trCode v26 Try.prog Try.f26.ntmps)) = some c26 ∧ trRes v26 Try.prog Try.f26.results.toList = some r26 := ⟨by kernel_rfl, by kernel_rfl⟩

def v27 : Nat → Bool := fun t => [0, 1, 2, 3, 4, 5, 12, 17, 31].contains t
def c27 : LCode :=
  .seq (.region [⟨some 2, true, none, .box (.t 0)⟩,
     ⟨some 3, true, none, .box (.t 1)⟩,
     ⟨some 4, true, none, .mov (.c (.bool false))⟩])
  (.seq (.seq (.region [⟨some 6, false, none, .faddr 0 (.t 2)⟩,
      ⟨some 7, false, none, .load false 1 (.u 6)⟩,
      ⟨some 8, false, none, .lenL (.u 7)⟩,
      ⟨some 9, false, none, .faddr 0 (.t 3)⟩,
      ⟨some 10, false, none, .load false 1 (.u 9)⟩,
      ⟨some 11, false, none, .lenL (.u 10)⟩,
      ⟨some 12, true, none, .bin .neq (.u 8) (.u 11)⟩])
   (.cond (.t 12)
    (.seq (.region [⟨some 4, true, none, .mov (.c (.bool false))⟩])
    (.ret))
    (.skip)))
  (.seq (.seq (.region [⟨some 5, true, none, .mov (.c (.int .i64 0))⟩])
   (.block 0 (.loop (.seq (.seq (.region [⟨some 13, false, none, .mov (.t 5)⟩,
         ⟨some 14, false, none, .faddr 0 (.t 2)⟩,
         ⟨some 15, false, none, .load false 1 (.u 14)⟩,
         ⟨some 16, false, none, .lenL (.u 15)⟩,
         ⟨some 17, true, none, .bin .lss (.u 13) (.u 16)⟩])
      (.cond (.t 17)
       (.skip)
       (.exit 0)))
     (.seq (.block 1 (.seq (.regionD [⟨0, [2], false, [], ⟨some 20, false, none, .faddr 0 (.t 2)⟩⟩,
          ⟨1, [20], true, [], ⟨some 21, false, none, .load false 1 (.u 20)⟩⟩,
          ⟨2, [5], false, [], ⟨some 22, false, none, .mov (.t 5)⟩⟩,
          ⟨3, [21, 22], false, [], ⟨some 23, false, none, .iaS 8 (.u 21) (.u 22)⟩⟩,
          ⟨4, [23], true, [], ⟨some 24, false, none, .load true 8 (.u 23)⟩⟩,
          ⟨5, [3], false, [], ⟨some 25, false, none, .faddr 0 (.t 3)⟩⟩,
          ⟨6, [25], true, [], ⟨some 26, false, none, .load false 1 (.u 25)⟩⟩,
          ⟨7, [5], false, [], ⟨some 27, false, none, .mov (.t 5)⟩⟩,
          ⟨8, [26, 27], false, [], ⟨some 28, false, none, .iaS 8 (.u 26) (.u 27)⟩⟩,
          ⟨9, [28], true, [], ⟨some 29, false, none, .load true 8 (.u 28)⟩⟩,
          ⟨10, [24, 29], false, [], ⟨some 30, false, none, .call 52 [(.u 24), (.u 29)]⟩⟩,
          ⟨11, [30], false, [], ⟨some 31, true, none, .un .not (.u 30)⟩⟩])
       (.cond (.t 31)
        (.seq (.region [⟨some 4, true, none, .mov (.c (.bool false))⟩])
        (.ret))
        (.skip))))
     (.region [⟨some 18, false, none, .mov (.t 5)⟩,
       ⟨some 19, false, none, .bin .add (.u 18) (.c (.int .i64 1))⟩,
       ⟨some 5, true, none, .mov (.u 19)⟩]))))))
  (.seq (.region [⟨some 32, false, none, .load true 3 (.t 2)⟩,
     ⟨some 33, false, none, .load true 3 (.t 3)⟩,
     ⟨some 34, false, none, .call 49 [(.u 32), (.u 33)]⟩,
     ⟨some 4, true, none, .mov (.u 34)⟩])
  (.ret))))
def r27 : List LRes := [.slot 4]
theorem t27 : (Try.f27.body.bind (trCode v27 Try.prog Try.f27.ntmps)) = some c27 ∧ trRes v27 Try.prog Try.f27.results.toList = some r27 := ⟨by kernel_rfl, by kernel_rfl⟩

def v38 : Nat → Bool := fun t => [0, 1, 4].contains t
def c38 : LCode :=
  .seq (.region [⟨some 4, true, none, .mov (.c (.str []))⟩])
  (.seq (.region [⟨some 5, false, none, .mov (.t 1)⟩,
     ⟨some 6, false, none, .mov (.t 0)⟩,
     ⟨some 7, false, none, .mov (.t 1)⟩,
     ⟨some 8, false, none, .lenL (.u 7)⟩,
     ⟨some 9, false, none, .call 21 [(.u 6), (.u 8)]⟩,
     ⟨some 10, false, none, .iaS 1 (.u 5) (.u 9)⟩,
     ⟨some 11, false, none, .load false 1 (.u 10)⟩,
     ⟨some 4, true, none, .mov (.u 11)⟩])
  (.ret))
def r38 : List LRes := [.slot 4]
theorem t38 : (Try.f38.body.bind (trCode v38 Try.prog Try.f38.ntmps)) = some c38 ∧ trRes v38 Try.prog Try.f38.results.toList = some r38 := ⟨by kernel_rfl, by kernel_rfl⟩

def v39 : Nat → Bool := fun t => [0, 1, 4].contains t
def c39 : LCode :=
  .seq (.region [⟨some 4, true, none, .mov (.c (.int .i64 0))⟩])
  (.seq (.region [⟨some 5, false, none, .mov (.t 1)⟩,
     ⟨some 6, false, none, .mov (.t 0)⟩,
     ⟨some 7, false, none, .mov (.t 1)⟩,
     ⟨some 8, false, none, .lenL (.u 7)⟩,
     ⟨some 9, false, none, .call 21 [(.u 6), (.u 8)]⟩,
     ⟨some 10, false, none, .iaS 1 (.u 5) (.u 9)⟩,
     ⟨some 11, false, none, .load false 1 (.u 10)⟩,
     ⟨some 4, true, none, .mov (.u 11)⟩])
  (.ret))
def r39 : List LRes := [.slot 4]
theorem t39 : (Try.f39.body.bind (trCode v39 Try.prog Try.f39.ntmps)) = some c39 ∧ trRes v39 Try.prog Try.f39.results.toList = some r39 := ⟨by kernel_rfl, by kernel_rfl⟩

def v40 : Nat → Bool := fun t => [0, 1, 2, 3, 5, 7, 8, 9, 10, 21].contains t
def c40 : LCode :=
  .seq (.region [⟨some 1, true, none, .box (.t 0)⟩,
     ⟨some 2, true, none, .mov (.c (.fsl 1 0 []))⟩])
  (.seq (.region [⟨some 3, true, none, .mov (.c (.fsl 1 0 []))⟩])
  (.seq (.seq (.region [⟨some 6, false, none, .faddr 3 (.t 1)⟩,
      ⟨some 7, true, none, .load false 1 (.u 6)⟩,
      ⟨some 8, true, none, .lenL (.t 7)⟩,
      ⟨some 9, true, none, .mov (.c (.int .i64 0))⟩])
   (.block 0 (.loop (.seq (.region [⟨some 10, true, none, .bin .lss (.t 9) (.t 8)⟩])
     (.seq (.cond (.t 10)
       (.skip)
       (.exit 0))
     (.seq (.block 1 (.seq (.region [⟨some 11, false, none, .iaS 5 (.t 7) (.t 9)⟩,
          ⟨some 12, false, none, .load true 5 (.u 11)⟩,
          ⟨some 5, true, none, .zero [.int .i64 0, .int .i64 0, .int .i64 0, .str [], .int .i64 0]⟩,
          ⟨none, true, none, .store 5 (.t 5) (.u 12)⟩])
       (.region [⟨some 13, false, none, .mov (.t 3)⟩,
         ⟨some 14, false, none, .load true 5 (.t 5)⟩,
         ⟨some 15, false, none, .build [.int .i64 0, .int .i64 0, .int .i64 0, .str [], .int .i64 0, .int .i64 0, .str [], .int .i64 0] [(0, 5, (.u 14))]⟩,
         ⟨some 16, false, none, .mkS 8 1 [.int .i64 0, .int .i64 0, .int .i64 0, .str [], .int .i64 0, .int .i64 0, .str [], .int .i64 0] [(0, 8, (.u 15))]⟩,
         ⟨some 17, false, none, .app 8 80 (.u 13) (.u 16)⟩,
         ⟨some 3, true, none, .mov (.u 17)⟩])))
     (.region [⟨some 18, false, none, .bin .add (.t 9) (.c (.int .i64 1))⟩,
       ⟨some 9, true, none, .mov (.u 18)⟩])))))))
  (.seq (.seq (.region [⟨some 19, false, none, .faddr 4 (.t 1)⟩,
      ⟨some 20, false, none, .load false 1 (.u 19)⟩,
      ⟨some 21, true, none, .bin .neq (.u 20) (.c (.int .i64 0))⟩])
   (.cond (.t 21)
    (.region [⟨some 22, false, none, .mov (.t 3)⟩,
      ⟨some 23, false, none, .faddr 4 (.t 1)⟩,
      ⟨some 24, false, none, .load false 1 (.u 23)⟩,
      ⟨some 25, false, none, .faddr 5 (.t 1)⟩,
      ⟨some 26, false, none, .load false 1 (.u 25)⟩,
      ⟨some 27, false, none, .faddr 6 (.t 1)⟩,
      ⟨some 28, false, none, .load false 1 (.u 27)⟩,
      ⟨some 29, false, none, .build [.int .i64 0, .int .i64 0, .int .i64 0, .str [], .int .i64 0, .int .i64 0, .str [], .int .i64 0] [(5, 1, (.u 24)), (6, 1, (.u 26)), (7, 1, (.u 28))]⟩,
      ⟨some 30, false, none, .mkS 8 1 [.int .i64 0, .int .i64 0, .int .i64 0, .str [], .int .i64 0, .int .i64 0, .str [], .int .i64 0] [(0, 8, (.u 29))]⟩,
      ⟨some 31, false, none, .app 8 80 (.u 22) (.u 30)⟩,
      ⟨some 3, true, none, .mov (.u 31)⟩])
    (.skip)))
  (.seq (.region [⟨some 32, false, none, .mov (.t 3)⟩,
     ⟨some 2, true, none, .mov (.u 32)⟩])
  (.ret)))))
def r40 : List LRes := [.slot 2]
theorem t40 : (Try.f40.body.bind (trCode v40 Try.prog Try.f40.ntmps)) = some c40 ∧ trRes v40 Try.prog Try.f40.results.toList = some r40 := ⟨by kernel_rfl, by kernel_rfl⟩

def v41 : Nat → Bool := fun t => [0, 1, 3, 4].contains t
def c41 : LCode :=
  .seq (.region [⟨some 3, true, none, .box (.t 1)⟩,
     ⟨some 4, true, none, .mov (.c (.bool false))⟩])
  (.seq (.region [⟨some 5, false, none, .mov (.t 0)⟩,
     ⟨some 6, false, none, .load true 8 (.t 3)⟩,
     ⟨some 7, false, none, .call 65 [(.u 5), (.u 6)]⟩,
     ⟨some 8, false, none, .bin .geq (.u 7) (.c (.int .i64 0))⟩,
     ⟨some 4, true, none, .mov (.u 8)⟩])
  (.ret))
def r41 : List LRes := [.slot 4]
theorem t41 : (Try.f41.body.bind (trCode v41 Try.prog Try.f41.ntmps)) = some c41 ∧ trRes v41 Try.prog Try.f41.results.toList = some r41 := ⟨by kernel_rfl, by kernel_rfl⟩

def v42 : Nat → Bool := fun t => [0, 1, 2, 6, 7, 9, 10, 12, 13, 14, 15, 16, 25, 26, 27, 28].contains t
def c42 : LCode :=
  .seq (.region [⟨some 6, true, none, .mov (.c (.fsl 1 0 []))⟩])
  (.seq (.region [⟨some 7, true, none, .mov (.c (.fsl 1 0 []))⟩])
  (.seq (.seq (.region [⟨some 13, true, none, .mov (.t 1)⟩,
      ⟨some 14, true, none, .lenL (.t 13)⟩,
      ⟨some 15, true, none, .mov (.c (.int .i64 0))⟩])
   (.block 0 (.loop (.seq (.region [⟨some 16, true, none, .bin .lss (.t 15) (.t 14)⟩])
     (.seq (.cond (.t 16)
       (.skip)
       (.exit 0))
     (.seq (.block 1 (.seq (.region [⟨some 17, false, none, .iaS 1 (.t 13) (.t 15)⟩,
          ⟨some 18, false, none, .load false 1 (.u 17)⟩,
          ⟨some 9, true, none, .mov (.u 18)⟩])
       (.seq (.region [⟨some 19, false, none, .mov (.t 9)⟩,
          ⟨some 20, false, none, .build [.int .i64 0, .int .i64 0] [(0, 1, (.u 19))]⟩,
          ⟨some 10, true, none, .zero [.int .i64 0, .int .i64 0]⟩,
          ⟨none, true, none, .store 2 (.t 10) (.u 20)⟩])
       (.seq (.seq (.region [⟨some 21, false, none, .mov (.t 0)⟩,
           ⟨some 22, false, none, .mov (.t 9)⟩,
           ⟨some 23, false, none, .iaS 8 (.u 21) (.u 22)⟩,
           ⟨some 24, false, none, .load true 8 (.u 23)⟩,
           ⟨some 25, true, none, .call 40 [(.u 24)]⟩,
           ⟨some 26, true, none, .lenL (.t 25)⟩,
           ⟨some 27, true, none, .mov (.c (.int .i64 0))⟩])
        (.block 2 (.loop (.seq (.region [⟨some 28, true, none, .bin .lss (.t 27) (.t 26)⟩])
          (.seq (.cond (.t 28)
            (.skip)
            (.exit 2))
          (.seq (.block 3 (.seq (.region [⟨some 29, false, none, .iaS 8 (.t 25) (.t 27)⟩,
               ⟨some 30, false, none, .load true 8 (.u 29)⟩,
               ⟨some 12, true, none, .zero [.int .i64 0, .int .i64 0, .int .i64 0, .str [], .int .i64 0, .int .i64 0, .str [], .int .i64 0]⟩,
               ⟨none, true, none, .store 8 (.t 12) (.u 30)⟩])
            (.regionD [⟨0, [10], false, [], ⟨some 31, false, none, .faddr 1 (.t 10)⟩⟩,
              ⟨1, [31], true, [], ⟨some 32, false, none, .load false 1 (.u 31)⟩⟩,
              ⟨2, [2], false, [], ⟨some 33, false, none, .mov (.t 2)⟩⟩,
              ⟨3, [12], true, [], ⟨some 34, false, none, .load true 8 (.t 12)⟩⟩,
              ⟨4, [33, 34], false, [1], ⟨some 35, false, none, .call 65 [(.u 33), (.u 34)]⟩⟩,
              ⟨5, [35], false, [], ⟨some 36, false, none, .bin .shl (.c (.int .i64 1)) (.u 35)⟩⟩,
              ⟨6, [32, 36], false, [], ⟨some 37, false, none, .bin .or (.u 32) (.u 36)⟩⟩,
              ⟨7, [10], false, [], ⟨some 38, false, none, .faddr 1 (.t 10)⟩⟩,
              ⟨8, [38, 37], false, [], ⟨none, true, none, .store 1 (.u 38) (.u 37)⟩⟩])))
          (.region [⟨some 39, false, none, .bin .add (.t 27) (.c (.int .i64 1))⟩,
            ⟨some 27, true, none, .mov (.u 39)⟩])))))))
       (.region [⟨some 40, false, none, .mov (.t 7)⟩,
         ⟨some 41, false, none, .load true 2 (.t 10)⟩,
         ⟨some 42, false, none, .mkS 2 1 [.int .i64 0, .int .i64 0] [(0, 2, (.u 41))]⟩,
         ⟨some 43, false, none, .app 2 16 (.u 40) (.u 42)⟩,
         ⟨some 7, true, none, .mov (.u 43)⟩])))))
     (.region [⟨some 44, false, none, .bin .add (.t 15) (.c (.int .i64 1))⟩,
       ⟨some 15, true, none, .mov (.u 44)⟩])))))))
  (.seq (.region [⟨some 45, false, none, .mov (.t 7)⟩,
     ⟨some 6, true, none, .mov (.u 45)⟩])
  (.ret))))
def r42 : List LRes := [.slot 6]
theorem t42 : (Try.f42.body.bind (trCode v42 Try.prog Try.f42.ntmps)) = some c42 ∧ trRes v42 Try.prog Try.f42.results.toList = some r42 := ⟨by kernel_rfl, by kernel_rfl⟩

def v43 : Nat → Bool := fun t => [0, 1, 2, 3, 4, 5, 6, 9, 10, 11, 12, 13, 14, 18, 37, 50].contains t
def c43 : LCode :=
  .seq (.region [⟨some 9, true, none, .mov (.c (.int .i64 0))⟩])
  (.seq (.seq (.region [⟨some 15, false, none, .mov (.t 0)⟩,
      ⟨some 16, false, none, .load false 1 (.t 2)⟩,
      ⟨some 17, false, none, .lenL (.u 16)⟩,
      ⟨some 18, true, none, .bin .eql (.u 15) (.u 17)⟩])
   (.cond (.t 18)
    (.seq (.region [⟨some 19, false, none, .load false 1 (.t 3)⟩,
       ⟨some 20, false, none, .mov (.t 1)⟩,
       ⟨some 21, false, none, .call 44 [(.u 19), (.u 20)]⟩,
       ⟨some 9, true, none, .mov (.u 21)⟩])
    (.ret))
    (.skip)))
  (.seq (.region [⟨some 22, false, none, .load false 1 (.t 4)⟩,
     ⟨some 23, false, none, .mov (.t 0)⟩,
     ⟨some 24, false, none, .bin .add (.u 23) (.c (.int .i64 1))⟩,
     ⟨some 25, false, none, .mov (.t 1)⟩,
     ⟨some 26, false, none, .callV (.u 22) [(.u 24), (.u 25)]⟩,
     ⟨some 10, true, none, .mov (.u 26)⟩])
  (.seq (.regionD [⟨0, [4], true, [], ⟨some 27, false, none, .load false 1 (.t 4)⟩⟩,
     ⟨1, [0], false, [], ⟨some 28, false, none, .mov (.t 0)⟩⟩,
     ⟨2, [28], false, [], ⟨some 29, false, none, .bin .add (.u 28) (.c (.int .i64 1))⟩⟩,
     ⟨3, [1], false, [], ⟨some 30, false, none, .mov (.t 1)⟩⟩,
     ⟨4, [0], false, [], ⟨some 31, false, none, .mov (.t 0)⟩⟩,
     ⟨5, [31], false, [], ⟨some 32, false, none, .bin .shl (.c (.int .i64 1)) (.u 31)⟩⟩,
     ⟨6, [30, 32], false, [], ⟨some 33, false, none, .bin .or (.u 30) (.u 32)⟩⟩,
     ⟨7, [27, 29, 33], false, [], ⟨some 34, false, none, .callV (.u 27) [(.u 29), (.u 33)]⟩⟩,
     ⟨8, [34], false, [], ⟨some 11, true, none, .mov (.u 34)⟩⟩])
  (.seq (.seq (.region [⟨some 35, false, none, .mov (.t 10)⟩,
      ⟨some 36, false, none, .mov (.t 11)⟩,
      ⟨some 37, true, none, .bin .eql (.u 35) (.u 36)⟩])
   (.cond (.t 37)
    (.seq (.region [⟨some 38, false, none, .mov (.t 10)⟩,
       ⟨some 9, true, none, .mov (.u 38)⟩])
    (.ret))
    (.skip)))
  (.seq (.region [⟨some 39, false, none, .mov (.t 0)⟩,
     ⟨some 40, false, none, .mov (.t 10)⟩,
     ⟨some 41, false, none, .mov (.t 11)⟩,
     ⟨some 42, false, none, .build [.int .i64 0, .int .i64 0, .int .i64 0] [(0, 1, (.u 39)), (1, 1, (.u 40)), (2, 1, (.u 41))]⟩,
     ⟨some 12, true, none, .zero [.int .i64 0, .int .i64 0, .int .i64 0]⟩,
     ⟨none, true, none, .store 3 (.t 12) (.u 42)⟩])
  (.seq (.region [⟨some 44, false, none, .load false 1 (.t 5)⟩,
     ⟨some 45, false, none, .load true 3 (.t 12)⟩,
     ⟨some 46, false, none, .look true 54 (.int .i64 0) (.u 44) (.u 45)⟩,
     ⟨some 43, false, none, .mov (.u 46)⟩,
     ⟨some 47, false, none, .ext (.u 43) 0⟩,
     ⟨some 48, false, none, .ext (.u 43) 1⟩,
     ⟨some 13, true, none, .mov (.u 47)⟩,
     ⟨some 14, true, none, .mov (.u 48)⟩])
  (.seq (.seq (.region [⟨some 49, false, none, .mov (.t 14)⟩,
      ⟨some 50, true, none, .un .not (.u 49)⟩])
   (.cond (.t 50)
    (.seq (.region [⟨some 51, false, none, .load false 1 (.t 6)⟩,
       ⟨some 52, false, none, .lenL (.u 51)⟩,
       ⟨some 13, true, none, .mov (.u 52)⟩])
    (.seq (.region [⟨some 53, false, none, .load false 1 (.t 6)⟩,
       ⟨some 54, false, none, .load true 3 (.t 12)⟩,
       ⟨some 55, false, none, .mkS 3 1 [.int .i64 0, .int .i64 0, .int .i64 0] [(0, 3, (.u 54))]⟩,
       ⟨some 56, false, none, .app 3 24 (.u 53) (.u 55)⟩,
       ⟨none, true, none, .store 1 (.t 6) (.u 56)⟩])
    (.region [⟨some 57, false, none, .load false 1 (.t 5)⟩,
      ⟨some 58, false, none, .load true 3 (.t 12)⟩,
      ⟨some 59, false, none, .mov (.t 13)⟩,
      ⟨none, true, none, .upd 54 (.u 57) (.u 58) (.u 59)⟩])))
    (.skip)))
  (.seq (.region [⟨some 60, false, none, .mov (.t 13)⟩,
     ⟨some 9, true, none, .mov (.u 60)⟩])
  (.ret)))))))))
def r43 : List LRes := [.slot 9]
theorem t43 : (Try.f43.body.bind (trCode v43 Try.prog Try.f43.ntmps)) = some c43 ∧ trRes v43 Try.prog Try.f43.results.toList = some r43 := ⟨by kernel_rfl, by kernel_rfl⟩

def v44 : Nat → Bool := fun t => [0, 1, 4, 6, 7, 8, 9, 10, 17].contains t
def c44 : LCode :=
  .seq (.region [⟨some 4, true, none, .mov (.c (.int .i64 0))⟩])
  (.seq (.seq (.region [⟨some 7, true, none, .mov (.t 0)⟩,
      ⟨some 8, true, none, .lenL (.t 7)⟩,
      ⟨some 9, true, none, .mov (.c (.int .i64 0))⟩])
   (.block 0 (.loop (.seq (.region [⟨some 10, true, none, .bin .lss (.t 9) (.t 8)⟩])
     (.seq (.cond (.t 10)
       (.skip)
       (.exit 0))
     (.seq (.block 1 (.seq (.region [⟨some 11, false, none, .iaS 2 (.t 7) (.t 9)⟩,
          ⟨some 12, false, none, .load true 2 (.u 11)⟩,
          ⟨some 6, true, none, .zero [.int .i64 0, .int .i64 0]⟩,
          ⟨none, true, none, .store 2 (.t 6) (.u 12)⟩])
       (.seq (.region [⟨some 13, false, none, .faddr 1 (.t 6)⟩,
          ⟨some 14, false, none, .load false 1 (.u 13)⟩,
          ⟨some 15, false, none, .mov (.t 1)⟩,
          ⟨some 16, false, none, .bin .andNot (.u 14) (.u 15)⟩,
          ⟨some 17, true, none, .bin .eql (.u 16) (.c (.int .i64 0))⟩])
       (.cond (.t 17)
        (.seq (.region [⟨some 18, false, none, .faddr 0 (.t 6)⟩,
           ⟨some 19, false, none, .load false 1 (.u 18)⟩,
           ⟨some 20, false, none, .bin .sub (.c (.int .i64 (-2))) (.u 19)⟩,
           ⟨some 4, true, none, .mov (.u 20)⟩])
        (.ret))
        (.skip)))))
     (.region [⟨some 21, false, none, .bin .add (.t 9) (.c (.int .i64 1))⟩,
       ⟨some 9, true, none, .mov (.u 21)⟩])))))))
  (.seq (.region [⟨some 4, true, none, .mov (.c (.int .i64 (-1)))⟩])
  (.ret)))
def r44 : List LRes := [.slot 4]
theorem t44 : (Try.f44.body.bind (trCode v44 Try.prog Try.f44.ntmps)) = some c44 ∧ trRes v44 Try.prog Try.f44.results.toList = some r44 := ⟨by kernel_rfl, by kernel_rfl⟩

def v45 : Nat → Bool := fun t => [0, 1, 2, 3, 4, 10, 11, 12, 19].contains t
def c45 : LCode :=
  .seq (.region [⟨some 10, true, none, .mov (.c (.int .i64 0))⟩])
  (.seq (.seq (.region [⟨some 13, false, none, .mov (.t 3)⟩,
      ⟨some 14, false, none, .mov (.t 0)⟩,
      ⟨some 15, false, none, .nilc (.u 14)⟩,
      ⟨some 16, false, none, .faddr 0 (.u 15)⟩,
      ⟨some 17, false, none, .load false 1 (.u 16)⟩,
      ⟨some 18, false, none, .lenL (.u 17)⟩,
      ⟨some 19, true, none, .bin .eql (.u 13) (.u 18)⟩])
   (.cond (.t 19)
    (.seq (.region [⟨some 20, false, none, .mov (.t 1)⟩,
       ⟨some 21, false, none, .mov (.t 2)⟩,
       ⟨some 22, false, none, .mov (.t 0)⟩,
       ⟨some 23, false, none, .nilc (.u 22)⟩,
       ⟨some 24, false, none, .faddr 0 (.u 23)⟩,
       ⟨some 25, false, none, .load false 1 (.u 24)⟩,
       ⟨some 26, false, none, .mov (.t 4)⟩,
       ⟨some 27, false, none, .call 25 [(.u 20), (.u 21), (.u 25), (.u 26)]⟩,
       ⟨some 10, true, none, .mov (.u 27)⟩])
    (.ret))
    (.skip)))
  (.seq (.region [⟨some 28, false, none, .mov (.t 0)⟩,
     ⟨some 29, false, none, .mov (.t 1)⟩,
     ⟨some 30, false, none, .mov (.t 2)⟩,
     ⟨some 31, false, none, .mov (.t 3)⟩,
     ⟨some 32, false, none, .bin .add (.u 31) (.c (.int .i64 1))⟩,
     ⟨some 33, false, none, .mov (.t 4)⟩,
     ⟨some 34, false, none, .call 45 [(.u 28), (.u 29), (.u 30), (.u 32), (.u 33)]⟩,
     ⟨some 11, true, none, .mov (.u 34)⟩])
  (.seq (.region [⟨some 35, false, none, .mov (.t 0)⟩,
     ⟨some 36, false, none, .mov (.t 1)⟩,
     ⟨some 37, false, none, .mov (.t 2)⟩,
     ⟨some 38, false, none, .mov (.t 3)⟩,
     ⟨some 39, false, none, .bin .add (.u 38) (.c (.int .i64 1))⟩,
     ⟨some 40, false, none, .mov (.t 4)⟩,
     ⟨some 41, false, none, .mov (.t 3)⟩,
     ⟨some 42, false, none, .conv .u64 (.u 41)⟩,
     ⟨some 43, false, none, .bin .shl (.c (.int .i64 1)) (.u 42)⟩,
     ⟨some 44, false, none, .bin .or (.u 40) (.u 43)⟩,
     ⟨some 45, false, none, .call 45 [(.u 35), (.u 36), (.u 37), (.u 39), (.u 44)]⟩,
     ⟨some 12, true, none, .mov (.u 45)⟩])
  (.seq (.region [⟨some 46, false, none, .mov (.t 0)⟩,
     ⟨some 47, false, none, .mov (.t 3)⟩,
     ⟨some 48, false, none, .mov (.t 11)⟩,
     ⟨some 49, false, none, .mov (.t 12)⟩,
     ⟨some 50, false, none, .build [.int .i64 0, .int .i64 0, .int .i64 0] [(0, 1, (.u 47)), (1, 1, (.u 48)), (2, 1, (.u 49))]⟩,
     ⟨some 51, false, none, .call 66 [(.u 46), (.u 50)]⟩,
     ⟨some 10, true, none, .mov (.u 51)⟩])
  (.ret)))))
def r45 : List LRes := [.slot 10]
theorem t45 : (Try.f45.body.bind (trCode v45 Try.prog Try.f45.ntmps)) = some c45 ∧ trRes v45 Try.prog Try.f45.results.toList = some r45 := ⟨by kernel_rfl, by kernel_rfl⟩

def v46 : Nat → Bool := fun t => [0, 1, 2, 4, 5, 6, 7, 18].contains t
def c46 : LCode :=
  .seq (.region [⟨some 2, true, none, .box (.t 0)⟩,
     ⟨some 4, true, none, .zero [.fsl 1 0 [], .fsl 1 0 [], .int .i64 0]⟩])
  (.seq (.region [⟨some 8, false, none, .faddr 0 (.t 2)⟩,
     ⟨some 9, false, none, .load false 1 (.u 8)⟩,
     ⟨some 10, false, none, .build [.fsl 1 0 [], .fsl 1 0 [], .int .i64 0] [(0, 1, (.u 9))]⟩,
     ⟨some 5, true, none, .zero [.fsl 1 0 [], .fsl 1 0 [], .int .i64 0]⟩,
     ⟨none, true, none, .store 3 (.t 5) (.u 10)⟩])
  (.seq (.region [⟨some 11, false, none, .faddr 1 (.t 2)⟩,
     ⟨some 12, false, none, .load false 1 (.u 11)⟩,
     ⟨some 13, false, none, .lenL (.u 12)⟩,
     ⟨some 14, false, none, .make 1 8 [.int .i64 0] (.u 13) (.u 13)⟩,
     ⟨some 6, true, none, .mov (.u 14)⟩])
  (.seq (.seq (.region [⟨some 7, true, none, .mov (.c (.int .i64 0))⟩])
   (.block 0 (.loop (.seq (.seq (.region [⟨some 15, false, none, .mov (.t 7)⟩,
         ⟨some 16, false, none, .mov (.t 6)⟩,
         ⟨some 17, false, none, .lenL (.u 16)⟩,
         ⟨some 18, true, none, .bin .lss (.u 15) (.u 17)⟩])
      (.cond (.t 18)
       (.skip)
       (.exit 0)))
     (.seq (.block 1 (.region [⟨some 21, false, none, .mov (.t 6)⟩,
         ⟨some 22, false, none, .mov (.t 7)⟩,
         ⟨some 23, false, none, .iaS 1 (.u 21) (.u 22)⟩,
         ⟨none, true, none, .store 1 (.u 23) (.c (.int .i64 (-1)))⟩]))
     (.region [⟨some 19, false, none, .mov (.t 7)⟩,
       ⟨some 20, false, none, .bin .add (.u 19) (.c (.int .i64 1))⟩,
       ⟨some 7, true, none, .mov (.u 20)⟩]))))))
  (.seq (.region [⟨some 24, false, none, .load true 3 (.t 2)⟩,
     ⟨some 25, false, none, .mov (.t 6)⟩,
     ⟨some 26, false, none, .mov (.t 1)⟩,
     ⟨some 27, false, none, .call 67 [(.u 24), (.t 5), (.u 25), (.u 26)]⟩,
     ⟨some 28, false, none, .faddr 2 (.t 5)⟩,
     ⟨none, true, none, .store 1 (.u 28) (.u 27)⟩])
  (.seq (.region [⟨some 29, false, none, .load true 3 (.t 5)⟩,
     ⟨none, true, none, .store 3 (.t 4) (.u 29)⟩])
  (.ret))))))
def r46 : List LRes := [.cell true 3 4]
theorem t46 : (Try.f46.body.bind (trCode v46 Try.prog Try.f46.ntmps)) = some c46 ∧ trRes v46 Try.prog Try.f46.results.toList = some r46 := ⟨by kernel_rfl, by kernel_rfl⟩

def v47 : Nat → Bool := fun t => [0, 1, 2, 6].contains t
def c47 : LCode :=
  .seq (.region [⟨some 6, true, none, .mov (.c (.bool false))⟩])
  (.seq (.region [⟨some 7, false, none, .mov (.t 2)⟩,
     ⟨some 8, false, none, .bin .lss (.u 7) (.c (.int .i64 0))⟩,
     ⟨some 9, false, none, .mov (.u 8)⟩,
     ⟨some 10, false, some ((.u 9), false), .mov (.t 2)⟩,
     ⟨some 11, false, some ((.u 9), false), .mov (.t 0)⟩,
     ⟨some 12, false, some ((.u 9), false), .lenL (.u 11)⟩,
     ⟨some 13, false, some ((.u 9), false), .bin .lss (.u 10) (.u 12)⟩,
     ⟨some 14, false, some ((.u 9), false), .mov (.u 13)⟩,
     ⟨some 15, false, some ((.u 14), true), .mov (.t 0)⟩,
     ⟨some 16, false, some ((.u 14), true), .mov (.t 2)⟩,
     ⟨some 17, false, some ((.u 14), true), .iaS 3 (.u 15) (.u 16)⟩,
     ⟨some 18, false, some ((.u 14), true), .faddr 0 (.u 17)⟩,
     ⟨some 19, false, some ((.u 14), true), .load false 1 (.u 18)⟩,
     ⟨some 20, false, some ((.u 14), true), .mov (.t 1)⟩,
     ⟨some 21, false, some ((.u 14), true), .bin .gtr (.u 19) (.u 20)⟩,
     ⟨some 22, false, some ((.u 9), false), .pick (.u 14) (.u 21) (.c (.bool false))⟩,
     ⟨some 23, false, none, .pick (.u 9) (.c (.bool true)) (.u 22)⟩,
     ⟨some 6, true, none, .mov (.u 23)⟩])
  (.ret))
def r47 : List LRes := [.slot 6]
theorem t47 : (Try.f47.body.bind (trCode v47 Try.prog Try.f47.ntmps)) = some c47 ∧ trRes v47 Try.prog Try.f47.results.toList = some r47 := ⟨by kernel_rfl, by kernel_rfl⟩

def v48 : Nat → Bool := fun t => [0, 1, 2, 3, 4].contains t
def c48 : LCode :=
  .seq (.region [⟨some 1, true, none, .box (.t 0)⟩,
     ⟨some 2, true, none, .mov (.c (.bool false))⟩])
  (.seq (.region [⟨some 3, true, none, .zero [.int .i64 0]⟩,
     ⟨none, true, none, .store 1 (.t 3) (.c (.int .i64 0))⟩])
  (.seq (.region [⟨some 4, true, none, .zero [.raw .nilFunc]⟩])
  (.seq (.region [⟨some 5, false, none, .mkf 68 [(.t 3), (.t 4), (.t 1)]⟩,
     ⟨none, true, none, .store 1 (.t 4) (.u 5)⟩])
  (.seq (.region [⟨some 6, false, none, .load false 1 (.t 4)⟩,
     ⟨some 7, false, none, .faddr 2 (.t 1)⟩,
     ⟨some 8, false, none, .load false 1 (.u 7)⟩,
     ⟨some 9, false, none, .callV (.u 6) [(.u 8)]⟩,
     ⟨some 2, true, none, .mov (.u 9)⟩])
  (.ret)))))
def r48 : List LRes := [.slot 2]
theorem t48 : (Try.f48.body.bind (trCode v48 Try.prog Try.f48.ntmps)) = some c48 ∧ trRes v48 Try.prog Try.f48.results.toList = some r48 := ⟨by kernel_rfl, by kernel_rfl⟩

def v49 : Nat → Bool := fun t => [0, 1, 2, 3, 4, 5, 19, 24, 37].contains t
def c49 : LCode :=
  .seq (.region [⟨some 2, true, none, .box (.t 0)⟩,
     ⟨some 3, true, none, .box (.t 1)⟩,
     ⟨some 4, true, none, .mov (.c (.bool false))⟩])
  (.seq (.seq (.region [⟨some 6, false, none, .faddr 2 (.t 2)⟩,
      ⟨some 7, false, none, .load false 1 (.u 6)⟩,
      ⟨some 8, false, none, .faddr 2 (.t 3)⟩,
      ⟨some 9, false, none, .load false 1 (.u 8)⟩,
      ⟨some 10, false, none, .bin .neq (.u 7) (.u 9)⟩,
      ⟨some 11, false, none, .mov (.u 10)⟩,
      ⟨some 12, false, some ((.u 11), false), .faddr 1 (.t 2)⟩,
      ⟨some 13, false, some ((.u 11), false), .load false 1 (.u 12)⟩,
      ⟨some 14, false, some ((.u 11), false), .lenL (.u 13)⟩,
      ⟨some 15, false, some ((.u 11), false), .faddr 1 (.t 3)⟩,
      ⟨some 16, false, some ((.u 11), false), .load false 1 (.u 15)⟩,
      ⟨some 17, false, some ((.u 11), false), .lenL (.u 16)⟩,
      ⟨some 18, false, some ((.u 11), false), .bin .neq (.u 14) (.u 17)⟩,
      ⟨some 19, true, none, .pick (.u 11) (.c (.bool true)) (.u 18)⟩])
   (.cond (.t 19)
    (.seq (.region [⟨some 4, true, none, .mov (.c (.bool false))⟩])
    (.ret))
    (.skip)))
  (.seq (.seq (.region [⟨some 5, true, none, .mov (.c (.int .i64 0))⟩])
   (.block 0 (.loop (.seq (.seq (.region [⟨some 20, false, none, .mov (.t 5)⟩,
         ⟨some 21, false, none, .faddr 1 (.t 2)⟩,
         ⟨some 22, false, none, .load false 1 (.u 21)⟩,
         ⟨some 23, false, none, .lenL (.u 22)⟩,
         ⟨some 24, true, none, .bin .lss (.u 20) (.u 23)⟩])
      (.cond (.t 24)
       (.skip)
       (.exit 0)))
     (.seq (.block 1 (.seq (.regionD [⟨0, [2], false, [], ⟨some 27, false, none, .faddr 1 (.t 2)⟩⟩,
          ⟨1, [27], true, [], ⟨some 28, false, none, .load false 1 (.u 27)⟩⟩,
          ⟨2, [5], false, [], ⟨some 29, false, none, .mov (.t 5)⟩⟩,
          ⟨3, [28, 29], false, [], ⟨some 30, false, none, .iaS 3 (.u 28) (.u 29)⟩⟩,
          ⟨4, [30], true, [], ⟨some 31, false, none, .load true 3 (.u 30)⟩⟩,
          ⟨5, [3], false, [], ⟨some 32, false, none, .faddr 1 (.t 3)⟩⟩,
          ⟨6, [32], true, [], ⟨some 33, false, none, .load false 1 (.u 32)⟩⟩,
          ⟨7, [5], false, [], ⟨some 34, false, none, .mov (.t 5)⟩⟩,
          ⟨8, [33, 34], false, [], ⟨some 35, false, none, .iaS 3 (.u 33) (.u 34)⟩⟩,
          ⟨9, [35], true, [], ⟨some 36, false, none, .load true 3 (.u 35)⟩⟩,
          ⟨10, [31, 36], false, [], ⟨some 37, true, none, .eqS true 3 [(0, 1), (1, 1), (2, 1)] (.u 31) (.u 36)⟩⟩])
       (.cond (.t 37)
        (.seq (.region [⟨some 4, true, none, .mov (.c (.bool false))⟩])
        (.ret))
        (.skip))))
     (.region [⟨some 25, false, none, .mov (.t 5)⟩,
       ⟨some 26, false, none, .bin .add (.u 25) (.c (.int .i64 1))⟩,
       ⟨some 5, true, none, .mov (.u 26)⟩]))))))
  (.seq (.region [⟨some 4, true, none, .mov (.c (.bool true))⟩])
  (.ret))))
def r49 : List LRes := [.slot 4]
theorem t49 : (Try.f49.body.bind (trCode v49 Try.prog Try.f49.ntmps)) = some c49 ∧ trRes v49 Try.prog Try.f49.results.toList = some r49 := ⟨by kernel_rfl, by kernel_rfl⟩

def v50 : Nat → Bool := fun t => [0, 1, 2, 3, 4, 9, 23].contains t
def c50 : LCode :=
  .seq (.region [⟨some 1, true, none, .box (.t 0)⟩,
     ⟨some 2, true, none, .mov (.c (.fsl 1 0 []))⟩])
  (.seq (.region [⟨some 3, true, none, .mov (.c (.fsl 1 0 []))⟩])
  (.seq (.seq (.region [⟨some 4, true, none, .mov (.c (.int .i64 0))⟩])
   (.block 0 (.loop (.seq (.seq (.region [⟨some 5, false, none, .mov (.t 4)⟩,
         ⟨some 6, false, none, .faddr 3 (.t 1)⟩,
         ⟨some 7, false, none, .load false 1 (.u 6)⟩,
         ⟨some 8, false, none, .lenL (.u 7)⟩,
         ⟨some 9, true, none, .bin .lss (.u 5) (.u 8)⟩])
      (.cond (.t 9)
       (.skip)
       (.exit 0)))
     (.seq (.block 1 (.region [⟨some 12, false, none, .mov (.t 3)⟩,
         ⟨some 13, false, none, .faddr 3 (.t 1)⟩,
         ⟨some 14, false, none, .load false 1 (.u 13)⟩,
         ⟨some 15, false, none, .mov (.t 4)⟩,
         ⟨some 16, false, none, .iaS 5 (.u 14) (.u 15)⟩,
         ⟨some 17, false, none, .load true 5 (.u 16)⟩,
         ⟨some 18, false, none, .build [.int .i64 0, .int .i64 0, .int .i64 0, .str [], .int .i64 0, .int .i64 0, .str [], .int .i64 0] [(0, 5, (.u 17))]⟩,
         ⟨some 19, false, none, .mkS 8 1 [.int .i64 0, .int .i64 0, .int .i64 0, .str [], .int .i64 0, .int .i64 0, .str [], .int .i64 0] [(0, 8, (.u 18))]⟩,
         ⟨some 20, false, none, .app 8 80 (.u 12) (.u 19)⟩,
         ⟨some 3, true, none, .mov (.u 20)⟩]))
     (.region [⟨some 10, false, none, .mov (.t 4)⟩,
       ⟨some 11, false, none, .bin .add (.u 10) (.c (.int .i64 1))⟩,
       ⟨some 4, true, none, .mov (.u 11)⟩]))))))
  (.seq (.seq (.region [⟨some 21, false, none, .faddr 4 (.t 1)⟩,
      ⟨some 22, false, none, .load false 1 (.u 21)⟩,
      ⟨some 23, true, none, .bin .neq (.u 22) (.c (.int .i64 0))⟩])
   (.cond (.t 23)
    (.region [⟨some 24, false, none, .mov (.t 3)⟩,
      ⟨some 25, false, none, .faddr 4 (.t 1)⟩,
      ⟨some 26, false, none, .load false 1 (.u 25)⟩,
      ⟨some 27, false, none, .faddr 5 (.t 1)⟩,
      ⟨some 28, false, none, .load false 1 (.u 27)⟩,
      ⟨some 29, false, none, .faddr 6 (.t 1)⟩,
      ⟨some 30, false, none, .load false 1 (.u 29)⟩,
      ⟨some 31, false, none, .build [.int .i64 0, .int .i64 0, .int .i64 0, .str [], .int .i64 0, .int .i64 0, .str [], .int .i64 0] [(5, 1, (.u 26)), (6, 1, (.u 28)), (7, 1, (.u 30))]⟩,
      ⟨some 32, false, none, .mkS 8 1 [.int .i64 0, .int .i64 0, .int .i64 0, .str [], .int .i64 0, .int .i64 0, .str [], .int .i64 0] [(0, 8, (.u 31))]⟩,
      ⟨some 33, false, none, .app 8 80 (.u 24) (.u 32)⟩,
      ⟨some 3, true, none, .mov (.u 33)⟩])
    (.skip)))
  (.seq (.region [⟨some 34, false, none, .mov (.t 3)⟩,
     ⟨some 2, true, none, .mov (.u 34)⟩])
  (.ret)))))
def r50 : List LRes := [.slot 2]
theorem t50 : (Try.f50.body.bind (trCode v50 Try.prog Try.f50.ntmps)) = some c50 ∧ trRes v50 Try.prog Try.f50.results.toList = some r50 := ⟨by kernel_rfl, by kernel_rfl⟩

def v51 : Nat → Bool := fun t => [0, 1, 3, 4, 5, 9, 17].contains t
def c51 : LCode :=
  .seq (.region [⟨some 3, true, none, .box (.t 1)⟩,
     ⟨some 4, true, none, .mov (.c (.int .i64 0))⟩])
  (.seq (.seq (.region [⟨some 5, true, none, .mov (.c (.int .i64 0))⟩])
   (.block 0 (.loop (.seq (.seq (.region [⟨some 6, false, none, .mov (.t 5)⟩,
         ⟨some 7, false, none, .mov (.t 0)⟩,
         ⟨some 8, false, none, .lenL (.u 7)⟩,
         ⟨some 9, true, none, .bin .lss (.u 6) (.u 8)⟩])
      (.cond (.t 9)
       (.skip)
       (.exit 0)))
     (.seq (.block 1 (.seq (.regionD [⟨0, [0], false, [], ⟨some 12, false, none, .mov (.t 0)⟩⟩,
          ⟨1, [5], false, [], ⟨some 13, false, none, .mov (.t 5)⟩⟩,
          ⟨2, [12, 13], false, [], ⟨some 14, false, none, .iaS 8 (.u 12) (.u 13)⟩⟩,
          ⟨3, [14], true, [], ⟨some 15, false, none, .load true 8 (.u 14)⟩⟩,
          ⟨4, [3], true, [], ⟨some 16, false, none, .load true 8 (.t 3)⟩⟩,
          ⟨5, [15, 16], false, [], ⟨some 17, true, none, .call 52 [(.u 15), (.u 16)]⟩⟩])
       (.cond (.t 17)
        (.seq (.region [⟨some 18, false, none, .mov (.t 5)⟩,
           ⟨some 4, true, none, .mov (.u 18)⟩])
        (.ret))
        (.skip))))
     (.region [⟨some 10, false, none, .mov (.t 5)⟩,
       ⟨some 11, false, none, .bin .add (.u 10) (.c (.int .i64 1))⟩,
       ⟨some 5, true, none, .mov (.u 11)⟩]))))))
  (.seq (.region [⟨some 4, true, none, .mov (.c (.int .i64 (-1)))⟩])
  (.ret)))
def r51 : List LRes := [.slot 4]
theorem t51 : (Try.f51.body.bind (trCode v51 Try.prog Try.f51.ntmps)) = some c51 ∧ trRes v51 Try.prog Try.f51.results.toList = some r51 := ⟨by kernel_rfl, by kernel_rfl⟩

def v52 : Nat → Bool := fun t => [0, 1, 2, 3, 4].contains t
def c52 : LCode :=
  .seq (.region [⟨some 2, true, none, .box (.t 0)⟩,
     ⟨some 3, true, none, .box (.t 1)⟩,
     ⟨some 4, true, none, .mov (.c (.bool false))⟩])
  (.seq (.region [⟨some 5, false, none, .faddr 0 (.t 2)⟩,
     ⟨some 6, false, none, .load true 5 (.u 5)⟩,
     ⟨some 7, false, none, .faddr 0 (.t 3)⟩,
     ⟨some 8, false, none, .load true 5 (.u 7)⟩,
     ⟨some 9, false, none, .eqS false 5 [(0, 1), (1, 1), (2, 1), (3, 2), (4, 1)] (.u 6) (.u 8)⟩,
     ⟨some 10, false, none, .mov (.u 9)⟩,
     ⟨some 11, false, some ((.u 10), true), .faddr 5 (.t 2)⟩,
     ⟨some 12, false, some ((.u 10), true), .load false 1 (.u 11)⟩,
     ⟨some 13, false, some ((.u 10), true), .faddr 5 (.t 3)⟩,
     ⟨some 14, false, some ((.u 10), true), .load false 1 (.u 13)⟩,
     ⟨some 15, false, some ((.u 10), true), .bin .eql (.u 12) (.u 14)⟩,
     ⟨some 16, false, none, .pick (.u 10) (.u 15) (.c (.bool false))⟩,
     ⟨some 17, false, none, .mov (.u 16)⟩,
     ⟨some 18, false, some ((.u 17), true), .faddr 6 (.t 2)⟩,
     ⟨some 19, false, some ((.u 17), true), .load false 1 (.u 18)⟩,
     ⟨some 20, false, some ((.u 17), true), .faddr 6 (.t 3)⟩,
     ⟨some 21, false, some ((.u 17), true), .load false 1 (.u 20)⟩,
     ⟨some 22, false, some ((.u 17), true), .bin .eql (.u 19) (.u 21)⟩,
     ⟨some 23, false, none, .pick (.u 17) (.u 22) (.c (.bool false))⟩,
     ⟨some 24, false, none, .mov (.u 23)⟩,
     ⟨some 25, false, some ((.u 24), true), .faddr 7 (.t 2)⟩,
     ⟨some 26, false, some ((.u 24), true), .load false 1 (.u 25)⟩,
     ⟨some 27, false, some ((.u 24), true), .faddr 7 (.t 3)⟩,
     ⟨some 28, false, some ((.u 24), true), .load false 1 (.u 27)⟩,
     ⟨some 29, false, some ((.u 24), true), .bin .eql (.u 26) (.u 28)⟩,
     ⟨some 30, false, none, .pick (.u 24) (.u 29) (.c (.bool false))⟩,
     ⟨some 4, true, none, .mov (.u 30)⟩])
  (.ret))
def r52 : List LRes := [.slot 4]
theorem t52 : (Try.f52.body.bind (trCode v52 Try.prog Try.f52.ntmps)) = some c52 ∧ trRes v52 Try.prog Try.f52.results.toList = some r52 := ⟨by kernel_rfl, by kernel_rfl⟩

def v65 : Nat → Bool := fun t => [0, 1, 3, 4, 5, 7, 8, 9, 16].contains t
def c65 : LCode :=
  .seq (.region [⟨some 3, true, none, .box (.t 1)⟩,
     ⟨some 4, true, none, .mov (.c (.int .i64 0))⟩])
  (.seq (.seq (.region [⟨some 6, false, none, .mov (.t 0)⟩,
      ⟨some 7, true, none, .lenL (.u 6)⟩,
      ⟨some 8, true, none, .mov (.c (.int .i64 0))⟩])
   (.block 0 (.loop (.seq (.region [⟨some 9, true, none, .bin .lss (.t 8) (.t 7)⟩])
     (.seq (.cond (.t 9)
       (.skip)
       (.exit 0))
     (.seq (.block 1 (.seq (.region [⟨some 10, false, none, .mov (.t 8)⟩,
          ⟨some 5, true, none, .mov (.u 10)⟩])
       (.seq (.regionD [⟨0, [3], true, [], ⟨some 11, false, none, .load true 8 (.t 3)⟩⟩,
          ⟨1, [0], false, [], ⟨some 12, false, none, .mov (.t 0)⟩⟩,
          ⟨2, [5], false, [], ⟨some 13, false, none, .mov (.t 5)⟩⟩,
          ⟨3, [12, 13], false, [], ⟨some 14, false, none, .iaS 8 (.u 12) (.u 13)⟩⟩,
          ⟨4, [14], true, [], ⟨some 15, false, none, .load true 8 (.u 14)⟩⟩,
          ⟨5, [11, 15], false, [], ⟨some 16, true, none, .eqS false 8 [(0, 1), (1, 1), (2, 1), (3, 2), (4, 1), (5, 1), (6, 2), (7, 1)] (.u 11) (.u 15)⟩⟩])
       (.cond (.t 16)
        (.seq (.region [⟨some 17, false, none, .mov (.t 5)⟩,
           ⟨some 4, true, none, .mov (.u 17)⟩])
        (.ret))
        (.skip)))))
     (.region [⟨some 18, false, none, .bin .add (.t 8) (.c (.int .i64 1))⟩,
       ⟨some 8, true, none, .mov (.u 18)⟩])))))))
  (.seq (.region [⟨some 4, true, none, .mov (.c (.int .i64 (-1)))⟩])
  (.ret)))
def r65 : List LRes := [.slot 4]
theorem t65 : (Try.f65.body.bind (trCode v65 Try.prog Try.f65.ntmps)) = some c65 ∧ trRes v65 Try.prog Try.f65.results.toList = some r65 := ⟨by kernel_rfl, by kernel_rfl⟩

def v66 : Nat → Bool := fun t => [0, 1, 3, 4, 5, 10, 19, 30].contains t
def c66 : LCode :=
  .seq (.region [⟨some 3, true, none, .box (.t 1)⟩,
     ⟨some 4, true, none, .mov (.c (.int .i64 0))⟩])
  (.seq (.seq (.region [⟨some 6, false, none, .faddr 1 (.t 3)⟩,
      ⟨some 7, false, none, .load false 1 (.u 6)⟩,
      ⟨some 8, false, none, .faddr 2 (.t 3)⟩,
      ⟨some 9, false, none, .load false 1 (.u 8)⟩,
      ⟨some 10, true, none, .bin .eql (.u 7) (.u 9)⟩])
   (.cond (.t 10)
    (.seq (.region [⟨some 11, false, none, .faddr 1 (.t 3)⟩,
       ⟨some 12, false, none, .load false 1 (.u 11)⟩,
       ⟨some 4, true, none, .mov (.u 12)⟩])
    (.ret))
    (.skip)))
  (.seq (.seq (.region [⟨some 5, true, none, .mov (.c (.int .i64 0))⟩])
   (.block 0 (.loop (.seq (.seq (.region [⟨some 13, false, none, .mov (.t 5)⟩,
         ⟨some 14, false, none, .mov (.t 0)⟩,
         ⟨some 15, false, none, .nilc (.u 14)⟩,
         ⟨some 16, false, none, .faddr 1 (.u 15)⟩,
         ⟨some 17, false, none, .load false 1 (.u 16)⟩,
         ⟨some 18, false, none, .lenL (.u 17)⟩,
         ⟨some 19, true, none, .bin .lss (.u 13) (.u 18)⟩])
      (.cond (.t 19)
       (.skip)
       (.exit 0)))
     (.seq (.block 1 (.seq (.regionD [⟨0, [0], false, [], ⟨some 22, false, none, .mov (.t 0)⟩⟩,
          ⟨1, [22], false, [], ⟨some 23, false, none, .nilc (.u 22)⟩⟩,
          ⟨2, [23], false, [], ⟨some 24, false, none, .faddr 1 (.u 23)⟩⟩,
          ⟨3, [24], true, [], ⟨some 25, false, none, .load false 1 (.u 24)⟩⟩,
          ⟨4, [5], false, [], ⟨some 26, false, none, .mov (.t 5)⟩⟩,
          ⟨5, [25, 26], false, [], ⟨some 27, false, none, .iaS 3 (.u 25) (.u 26)⟩⟩,
          ⟨6, [27], true, [], ⟨some 28, false, none, .load true 3 (.u 27)⟩⟩,
          ⟨7, [3], true, [], ⟨some 29, false, none, .load true 3 (.t 3)⟩⟩,
          ⟨8, [28, 29], false, [], ⟨some 30, true, none, .eqS false 3 [(0, 1), (1, 1), (2, 1)] (.u 28) (.u 29)⟩⟩])
       (.cond (.t 30)
        (.seq (.region [⟨some 31, false, none, .mov (.t 5)⟩,
           ⟨some 4, true, none, .mov (.u 31)⟩])
        (.ret))
        (.skip))))
     (.region [⟨some 20, false, none, .mov (.t 5)⟩,
       ⟨some 21, false, none, .bin .add (.u 20) (.c (.int .i64 1))⟩,
       ⟨some 5, true, none, .mov (.u 21)⟩]))))))
  (.seq (.regionD [⟨0, [0], false, [], ⟨some 32, false, none, .mov (.t 0)⟩⟩,
     ⟨1, [0], false, [], ⟨some 33, false, none, .mov (.t 0)⟩⟩,
     ⟨2, [33], false, [], ⟨some 34, false, none, .nilc (.u 33)⟩⟩,
     ⟨3, [34], false, [], ⟨some 35, false, none, .faddr 1 (.u 34)⟩⟩,
     ⟨4, [35], true, [], ⟨some 36, false, none, .load false 1 (.u 35)⟩⟩,
     ⟨5, [3], true, [], ⟨some 37, false, none, .load true 3 (.t 3)⟩⟩,
     ⟨6, [37], false, [], ⟨some 38, false, none, .mkS 3 1 [.int .i64 0, .int .i64 0, .int .i64 0] [(0, 3, (.u 37))]⟩⟩,
     ⟨7, [36, 38], false, [], ⟨some 39, false, none, .app 3 24 (.u 36) (.u 38)⟩⟩,
     ⟨8, [32], false, [], ⟨some 40, false, none, .nilc (.u 32)⟩⟩,
     ⟨9, [40], false, [], ⟨some 41, false, none, .faddr 1 (.u 40)⟩⟩,
     ⟨10, [41, 39], false, [], ⟨none, true, none, .store 1 (.u 41) (.u 39)⟩⟩])
  (.seq (.region [⟨some 42, false, none, .mov (.t 0)⟩,
     ⟨some 43, false, none, .nilc (.u 42)⟩,
     ⟨some 44, false, none, .faddr 1 (.u 43)⟩,
     ⟨some 45, false, none, .load false 1 (.u 44)⟩,
     ⟨some 46, false, none, .lenL (.u 45)⟩,
     ⟨some 47, false, none, .bin .sub (.u 46) (.c (.int .i64 1))⟩,
     ⟨some 4, true, none, .mov (.u 47)⟩])
  (.ret)))))
def r66 : List LRes := [.slot 4]
theorem t66 : (Try.f66.body.bind (trCode v66 Try.prog Try.f66.ntmps)) = some c66 ∧ trRes v66 Try.prog Try.f66.results.toList = some r66 := ⟨by kernel_rfl, by kernel_rfl⟩

def v67 : Nat → Bool := fun t => [0, 1, 2, 3, 4, 8, 9, 11, 17, 1000001].contains t
def c67 : LCode :=
  .seq (.region [⟨some 4, true, none, .box (.t 0)⟩,
     ⟨some 8, true, none, .mov (.c (.int .i64 0))⟩])
  (.seq (.seq (.region [⟨some 10, false, none, .mov (.t 3)⟩,
      ⟨some 11, true, none, .bin .lss (.u 10) (.c (.int .i64 0))⟩])
   (.cond (.t 11)
    (.seq (.region [⟨some 12, false, none, .mov (.t 3)⟩,
       ⟨some 8, true, none, .mov (.u 12)⟩])
    (.ret))
    (.skip)))
  (.seq (.seq (.region [⟨some 13, false, none, .mov (.t 2)⟩,
      ⟨some 14, false, none, .mov (.t 3)⟩,
      ⟨some 15, false, none, .iaS 1 (.u 13) (.u 14)⟩,
      ⟨some 16, false, none, .load false 1 (.u 15)⟩,
      ⟨some 17, true, none, .bin .geq (.u 16) (.c (.int .i64 0))⟩])
   (.cond (.t 17)
    (.seq (.region [⟨some 18, false, none, .mov (.t 2)⟩,
       ⟨some 19, false, none, .mov (.t 3)⟩,
       ⟨some 20, false, none, .iaS 1 (.u 18) (.u 19)⟩,
       ⟨some 21, false, none, .load false 1 (.u 20)⟩,
       ⟨some 8, true, none, .mov (.u 21)⟩])
    (.ret))
    (.skip)))
  (.seq (.region [⟨some 22, false, none, .faddr 1 (.t 4)⟩,
     ⟨some 23, false, none, .load false 1 (.u 22)⟩,
     ⟨some 24, false, none, .mov (.t 3)⟩,
     ⟨some 25, false, none, .iaS 3 (.u 23) (.u 24)⟩,
     ⟨some 26, false, none, .load true 3 (.u 25)⟩,
     ⟨some 9, true, none, .zero [.int .i64 0, .int .i64 0, .int .i64 0]⟩,
     ⟨none, true, none, .store 3 (.t 9) (.u 26)⟩])
  (.seq (.region [⟨some 27, false, none, .load true 3 (.t 4)⟩,
     ⟨some 28, false, none, .mov (.t 1)⟩,
     ⟨some 29, false, none, .mov (.t 2)⟩,
     ⟨some 30, false, none, .faddr 1 (.t 9)⟩,
     ⟨some 31, false, none, .load false 1 (.u 30)⟩,
     ⟨some 32, false, none, .call 67 [(.u 27), (.u 28), (.u 29), (.u 31)]⟩,
     ⟨some 33, false, none, .faddr 1 (.t 9)⟩,
     ⟨none, true, none, .store 1 (.u 33) (.u 32)⟩])
  (.seq (.region [⟨some 34, false, none, .load true 3 (.t 4)⟩,
     ⟨some 35, false, none, .mov (.t 1)⟩,
     ⟨some 36, false, none, .mov (.t 2)⟩,
     ⟨some 37, false, none, .faddr 2 (.t 9)⟩,
     ⟨some 38, false, none, .load false 1 (.u 37)⟩,
     ⟨some 39, false, none, .call 67 [(.u 34), (.u 35), (.u 36), (.u 38)]⟩,
     ⟨some 40, false, none, .faddr 2 (.t 9)⟩,
     ⟨none, true, none, .store 1 (.u 40) (.u 39)⟩])
  (.seq (.regionD [⟨0, [1], false, [], ⟨some 41, false, none, .mov (.t 1)⟩⟩,
     ⟨1, [1], false, [], ⟨some 42, false, none, .mov (.t 1)⟩⟩,
     ⟨2, [42], false, [], ⟨some 43, false, none, .nilc (.u 42)⟩⟩,
     ⟨3, [43], false, [], ⟨some 44, false, none, .faddr 1 (.u 43)⟩⟩,
     ⟨4, [44], true, [], ⟨some 45, false, none, .load false 1 (.u 44)⟩⟩,
     ⟨5, [9], true, [], ⟨some 46, false, none, .load true 3 (.t 9)⟩⟩,
     ⟨6, [46], false, [], ⟨some 47, false, none, .mkS 3 1 [.int .i64 0, .int .i64 0, .int .i64 0] [(0, 3, (.u 46))]⟩⟩,
     ⟨7, [45, 47], false, [], ⟨some 48, false, none, .appF 3 24 (.u 45) (.u 47)⟩⟩,
     ⟨8, [41], false, [], ⟨some 49, false, none, .nilc (.u 41)⟩⟩,
     ⟨9, [49], false, [], ⟨some 50, false, none, .faddr 1 (.u 49)⟩⟩,
     ⟨10, [50, 48], false, [], ⟨none, true, none, .store 1 (.u 50) (.u 48)⟩⟩])
  (.seq (.region [⟨some 51, false, none, .mov (.t 2)⟩,
     ⟨some 52, false, none, .mov (.t 3)⟩,
     ⟨some 53, false, none, .mov (.t 1)⟩,
     ⟨some 54, false, none, .nilc (.u 53)⟩,
     ⟨some 55, false, none, .faddr 1 (.u 54)⟩,
     ⟨some 56, false, none, .load false 1 (.u 55)⟩,
     ⟨some 57, false, none, .lenL (.u 56)⟩,
     ⟨some 58, false, none, .bin .sub (.u 57) (.c (.int .i64 1))⟩,
     ⟨some 59, false, none, .iaS 1 (.u 51) (.u 52)⟩,
     ⟨none, true, none, .store 1 (.u 59) (.u 58)⟩])
  (.seq (.region [⟨some 60, false, none, .mov (.t 2)⟩,
     ⟨some 61, false, none, .mov (.t 3)⟩,
     ⟨some 62, false, none, .iaS 1 (.u 60) (.u 61)⟩,
     ⟨some 63, false, none, .load false 1 (.u 62)⟩,
     ⟨some 8, true, none, .mov (.u 63)⟩])
  (.ret)))))))))
def r67 : List LRes := [.slot 8]
theorem t67 : (Try.f67.body.bind (trCode v67 Try.prog Try.f67.ntmps)) = some c67 ∧ trRes v67 Try.prog Try.f67.results.toList = some r67 := ⟨by kernel_rfl, by kernel_rfl⟩

def v68 : Nat → Bool := fun t => [0, 1, 2, 3, 5, 8, 33].contains t
def c68 : LCode :=
  .seq (.region [⟨some 5, true, none, .mov (.c (.bool false))⟩])
  (.seq (.seq (.region [⟨some 6, false, none, .mov (.t 0)⟩,
      ⟨some 7, false, none, .load false 1 (.t 1)⟩,
      ⟨some 8, true, none, .bin .lss (.u 6) (.u 7)⟩])
   (.cond (.t 8)
    (.seq (.region [⟨some 5, true, none, .mov (.c (.bool true))⟩])
    (.ret))
    (.skip)))
  (.seq (.seq (.regionD [⟨0, [2], true, [], ⟨some 9, false, none, .load false 1 (.t 2)⟩⟩,
      ⟨1, [3], false, [], ⟨some 10, false, none, .faddr 1 (.t 3)⟩⟩,
      ⟨2, [10], true, [], ⟨some 11, false, none, .load false 1 (.u 10)⟩⟩,
      ⟨3, [0], false, [], ⟨some 12, false, none, .mov (.t 0)⟩⟩,
      ⟨4, [11, 12], false, [], ⟨some 13, false, none, .iaS 3 (.u 11) (.u 12)⟩⟩,
      ⟨5, [13], false, [], ⟨some 14, false, none, .faddr 1 (.u 13)⟩⟩,
      ⟨6, [14], true, [], ⟨some 15, false, none, .load false 1 (.u 14)⟩⟩,
      ⟨7, [9, 15], false, [], ⟨some 16, false, none, .callV (.u 9) [(.u 15)]⟩⟩,
      ⟨8, [16], false, [], ⟨some 17, false, none, .un .not (.u 16)⟩⟩,
      ⟨9, [17], false, [], ⟨some 18, false, none, .mov (.u 17)⟩⟩,
      ⟨10, [2, 18], true, [], ⟨some 19, false, some ((.u 18), false), .load false 1 (.t 2)⟩⟩,
      ⟨11, [3, 18], false, [], ⟨some 20, false, some ((.u 18), false), .faddr 1 (.t 3)⟩⟩,
      ⟨12, [20, 18], true, [], ⟨some 21, false, some ((.u 18), false), .load false 1 (.u 20)⟩⟩,
      ⟨13, [0, 18], false, [], ⟨some 22, false, some ((.u 18), false), .mov (.t 0)⟩⟩,
      ⟨14, [21, 22, 18], false, [], ⟨some 23, false, some ((.u 18), false), .iaS 3 (.u 21) (.u 22)⟩⟩,
      ⟨15, [23, 18], false, [], ⟨some 24, false, some ((.u 18), false), .faddr 2 (.u 23)⟩⟩,
      ⟨16, [24, 18], true, [], ⟨some 25, false, some ((.u 18), false), .load false 1 (.u 24)⟩⟩,
      ⟨17, [19, 25, 18], false, [], ⟨some 26, false, some ((.u 18), false), .callV (.u 19) [(.u 25)]⟩⟩,
      ⟨18, [26, 18], false, [], ⟨some 27, false, some ((.u 18), false), .un .not (.u 26)⟩⟩,
      ⟨19, [18, 27], false, [], ⟨some 28, false, none, .pick (.u 18) (.c (.bool true)) (.u 27)⟩⟩,
      ⟨20, [28], false, [], ⟨some 29, false, none, .mov (.u 28)⟩⟩,
      ⟨21, [0, 29], false, [], ⟨some 30, false, some ((.u 29), false), .mov (.t 0)⟩⟩,
      ⟨22, [1, 29], true, [], ⟨some 31, false, some ((.u 29), false), .load false 1 (.t 1)⟩⟩,
      ⟨23, [30, 31, 29], false, [], ⟨some 32, false, some ((.u 29), false), .bin .neq (.u 30) (.u 31)⟩⟩,
      ⟨24, [29, 32], false, [], ⟨some 33, true, none, .pick (.u 29) (.c (.bool true)) (.u 32)⟩⟩])
   (.cond (.t 33)
    (.seq (.region [⟨some 5, true, none, .mov (.c (.bool false))⟩])
    (.ret))
    (.skip)))
  (.seq (.region [⟨some 34, false, none, .load false 1 (.t 1)⟩,
     ⟨some 35, false, none, .bin .add (.u 34) (.c (.int .i64 1))⟩,
     ⟨none, true, none, .store 1 (.t 1) (.u 35)⟩])
  (.seq (.region [⟨some 5, true, none, .mov (.c (.bool true))⟩])
  (.ret)))))
def r68 : List LRes := [.slot 5]
theorem t68 : (Try.f68.body.bind (trCode v68 Try.prog Try.f68.ntmps)) = some c68 ∧ trRes v68 Try.prog Try.f68.results.toList = some r68 := ⟨by kernel_rfl, by kernel_rfl⟩


end Go.Proofs.Ytcngkeeknlloaaa
