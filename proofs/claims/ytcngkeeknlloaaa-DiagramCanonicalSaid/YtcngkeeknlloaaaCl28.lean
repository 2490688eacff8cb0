/- The functions' bodies as the engine reads them; written by program out of the translation, checked by the kernel. -/
import Derived.Test.YtcngkeeknlloaaaProg
import Derived.Test.YtcngkeeknlloaaaLxL
import Derived.KernelRfl
namespace Go.Proofs.Ytcngkeeknlloaaa
open Go Go.Lx
set_option maxRecDepth 100000
def v28 : Nat → Bool := fun t => [0, 1, 2, 3, 4, 5, 61, 66, 79].contains t
def c28 : LCode :=
  .seq (.region [⟨some 2, true, none, .box (.t 0)⟩,
     ⟨some 3, true, none, .box (.t 1)⟩,
     ⟨some 4, true, none, .mov (.c (.bool false))⟩])
  (.seq (.seq (.region [⟨some 6, false, none, .faddr 0 (.t 2)⟩,
      ⟨some 7, false, none, .load false 1 (.u 6)⟩,
      ⟨some 8, false, none, .faddr 0 (.t 3)⟩,
      ⟨some 9, false, none, .load false 1 (.u 8)⟩,
      ⟨some 10, false, none, .bin .neq (.u 7) (.u 9)⟩,
      ⟨some 11, false, none, .mov (.u 10)⟩,
      ⟨some 12, false, some ((.u 11), false), .faddr 1 (.t 2)⟩,
      ⟨some 13, false, some ((.u 11), false), .load false 1 (.u 12)⟩,
      ⟨some 14, false, some ((.u 11), false), .faddr 1 (.t 3)⟩,
      ⟨some 15, false, some ((.u 11), false), .load false 1 (.u 14)⟩,
      ⟨some 16, false, some ((.u 11), false), .bin .neq (.u 13) (.u 15)⟩,
      ⟨some 17, false, none, .pick (.u 11) (.c (.bool true)) (.u 16)⟩,
      ⟨some 18, false, none, .mov (.u 17)⟩,
      ⟨some 19, false, some ((.u 18), false), .faddr 2 (.t 2)⟩,
      ⟨some 20, false, some ((.u 18), false), .load false 1 (.u 19)⟩,
      ⟨some 21, false, some ((.u 18), false), .faddr 2 (.t 3)⟩,
      ⟨some 22, false, some ((.u 18), false), .load false 1 (.u 21)⟩,
      ⟨some 23, false, some ((.u 18), false), .bin .neq (.u 20) (.u 22)⟩,
      ⟨some 24, false, none, .pick (.u 18) (.c (.bool true)) (.u 23)⟩,
      ⟨some 25, false, none, .mov (.u 24)⟩,
      ⟨some 26, false, some ((.u 25), false), .faddr 4 (.t 2)⟩,
      ⟨some 27, false, some ((.u 25), false), .load false 1 (.u 26)⟩,
      ⟨some 28, false, some ((.u 25), false), .faddr 4 (.t 3)⟩,
      ⟨some 29, false, some ((.u 25), false), .load false 1 (.u 28)⟩,
      ⟨some 30, false, some ((.u 25), false), .bin .neq (.u 27) (.u 29)⟩,
      ⟨some 31, false, none, .pick (.u 25) (.c (.bool true)) (.u 30)⟩,
      ⟨some 32, false, none, .mov (.u 31)⟩,
      ⟨some 33, false, some ((.u 32), false), .faddr 5 (.t 2)⟩,
      ⟨some 34, false, some ((.u 32), false), .load false 1 (.u 33)⟩,
      ⟨some 35, false, some ((.u 32), false), .faddr 5 (.t 3)⟩,
      ⟨some 36, false, some ((.u 32), false), .load false 1 (.u 35)⟩,
      ⟨some 37, false, some ((.u 32), false), .bin .neq (.u 34) (.u 36)⟩,
      ⟨some 38, false, none, .pick (.u 32) (.c (.bool true)) (.u 37)⟩,
      ⟨some 39, false, none, .mov (.u 38)⟩,
      ⟨some 40, false, some ((.u 39), false), .faddr 6 (.t 2)⟩,
      ⟨some 41, false, some ((.u 39), false), .load false 1 (.u 40)⟩,
      ⟨some 42, false, some ((.u 39), false), .faddr 6 (.t 3)⟩,
      ⟨some 43, false, some ((.u 39), false), .load false 1 (.u 42)⟩,
      ⟨some 44, false, some ((.u 39), false), .bin .neq (.u 41) (.u 43)⟩,
      ⟨some 45, false, none, .pick (.u 39) (.c (.bool true)) (.u 44)⟩,
      ⟨some 46, false, none, .mov (.u 45)⟩,
      ⟨some 47, false, some ((.u 46), false), .faddr 7 (.t 2)⟩,
      ⟨some 48, false, some ((.u 46), false), .load false 1 (.u 47)⟩,
      ⟨some 49, false, some ((.u 46), false), .faddr 7 (.t 3)⟩,
      ⟨some 50, false, some ((.u 46), false), .load false 1 (.u 49)⟩,
      ⟨some 51, false, some ((.u 46), false), .bin .neq (.u 48) (.u 50)⟩,
      ⟨some 52, false, none, .pick (.u 46) (.c (.bool true)) (.u 51)⟩,
      ⟨some 53, false, none, .mov (.u 52)⟩,
      ⟨some 54, false, some ((.u 53), false), .faddr 3 (.t 2)⟩,
      ⟨some 55, false, some ((.u 53), false), .load false 1 (.u 54)⟩,
      ⟨some 56, false, some ((.u 53), false), .lenL (.u 55)⟩,
      ⟨some 57, false, some ((.u 53), false), .faddr 3 (.t 3)⟩,
      ⟨some 58, false, some ((.u 53), false), .load false 1 (.u 57)⟩,
      ⟨some 59, false, some ((.u 53), false), .lenL (.u 58)⟩,
      ⟨some 60, false, some ((.u 53), false), .bin .neq (.u 56) (.u 59)⟩,
      ⟨some 61, true, none, .pick (.u 53) (.c (.bool true)) (.u 60)⟩])
   (.cond (.t 61)
    (.seq (.region [⟨some 4, true, none, .mov (.c (.bool false))⟩])
    (.ret))
    (.skip)))
  (.seq (.seq (.region [⟨some 5, true, none, .mov (.c (.int .i64 0))⟩])
   (.block 0 (.loop (.seq (.seq (.region [⟨some 62, false, none, .mov (.t 5)⟩,
         ⟨some 63, false, none, .faddr 3 (.t 2)⟩,
         ⟨some 64, false, none, .load false 1 (.u 63)⟩,
         ⟨some 65, false, none, .lenL (.u 64)⟩,
         ⟨some 66, true, none, .bin .lss (.u 62) (.u 65)⟩])
      (.cond (.t 66)
       (.skip)
       (.exit 0)))
     (.seq (.block 1 (.seq (.regionD [⟨0, [2], false, [], ⟨some 69, false, none, .faddr 3 (.t 2)⟩⟩,
          ⟨1, [69], true, [], ⟨some 70, false, none, .load false 1 (.u 69)⟩⟩,
          ⟨2, [5], false, [], ⟨some 71, false, none, .mov (.t 5)⟩⟩,
          ⟨3, [70, 71], false, [], ⟨some 72, false, none, .iaS 5 (.u 70) (.u 71)⟩⟩,
          ⟨4, [72], true, [], ⟨some 73, false, none, .load true 5 (.u 72)⟩⟩,
          ⟨5, [3], false, [], ⟨some 74, false, none, .faddr 3 (.t 3)⟩⟩,
          ⟨6, [74], true, [], ⟨some 75, false, none, .load false 1 (.u 74)⟩⟩,
          ⟨7, [5], false, [], ⟨some 76, false, none, .mov (.t 5)⟩⟩,
          ⟨8, [75, 76], false, [], ⟨some 77, false, none, .iaS 5 (.u 75) (.u 76)⟩⟩,
          ⟨9, [77], true, [], ⟨some 78, false, none, .load true 5 (.u 77)⟩⟩,
          ⟨10, [73, 78], false, [], ⟨some 79, true, none, .eqS true 5 [(0, 1), (1, 1), (2, 1), (3, 2), (4, 1)] (.u 73) (.u 78)⟩⟩])
       (.cond (.t 79)
        (.seq (.region [⟨some 4, true, none, .mov (.c (.bool false))⟩])
        (.ret))
        (.skip))))
     (.region [⟨some 67, false, none, .mov (.t 5)⟩,
       ⟨some 68, false, none, .bin .add (.u 67) (.c (.int .i64 1))⟩,
       ⟨some 5, true, none, .mov (.u 68)⟩]))))))
  (.seq (.region [⟨some 4, true, none, .mov (.c (.bool true))⟩])
  (.ret))))
def r28 : List LRes := [.slot 4]
theorem t28 : (Try.f28.body.bind (trCode v28 Try.prog Try.f28.ntmps)) = some c28 ∧ trRes v28 Try.prog Try.f28.results.toList = some r28 := ⟨by kernel_rfl, by kernel_rfl⟩


end Go.Proofs.Ytcngkeeknlloaaa
