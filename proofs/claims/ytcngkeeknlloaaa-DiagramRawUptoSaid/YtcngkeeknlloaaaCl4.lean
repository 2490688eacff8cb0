/- The functions' bodies as the engine reads them; written by program out of the translation, checked by the kernel. -/
import Derived.Test.YtcngkeeknlloaaaProg
import Derived.Test.YtcngkeeknlloaaaLxL
import Derived.KernelRfl
namespace Go.Proofs.Ytcngkeeknlloaaa
open Go Go.Lx
set_option maxRecDepth 100000
def v4 : Nat → Bool := fun t => [0, 1, 4, 5, 6, 7, 8, 12, 30, 35].contains t
def c4 : LCode :=
  .seq (.region [⟨some 4, true, none, .mov (.c (.bool false))⟩])
  (.seq (.region [⟨some 5, true, none, .mov (.c (.int .i64 0))⟩])
  (.seq (.seq (.region [⟨some 6, true, none, .mov (.c (.int .i64 0))⟩])
   (.block 0 (.loop (.seq (.seq (.region [⟨some 9, false, none, .mov (.t 6)⟩,
         ⟨some 10, false, none, .mov (.t 0)⟩,
         ⟨some 11, false, none, .lenL (.u 10)⟩,
         ⟨some 12, true, none, .bin .lss (.u 9) (.u 11)⟩])
      (.cond (.t 12)
       (.skip)
       (.exit 0)))
     (.seq (.block 1 (.region [⟨some 15, false, none, .mov (.t 5)⟩,
         ⟨some 16, false, none, .mov (.t 0)⟩,
         ⟨some 17, false, none, .mov (.t 6)⟩,
         ⟨some 18, false, none, .iaS 8 (.u 16) (.u 17)⟩,
         ⟨some 19, false, none, .faddr 3 (.u 18)⟩,
         ⟨some 20, false, none, .load false 1 (.u 19)⟩,
         ⟨some 21, false, none, .lenL (.u 20)⟩,
         ⟨some 22, false, none, .bin .add (.u 21) (.c (.int .i64 1))⟩,
         ⟨some 23, false, none, .bin .add (.u 15) (.u 22)⟩,
         ⟨some 5, true, none, .mov (.u 23)⟩]))
     (.region [⟨some 13, false, none, .mov (.t 6)⟩,
       ⟨some 14, false, none, .bin .add (.u 13) (.c (.int .i64 1))⟩,
       ⟨some 6, true, none, .mov (.u 14)⟩]))))))
  (.seq (.seq (.region [⟨some 24, false, none, .mov (.t 5)⟩,
      ⟨some 25, false, none, .bin .gtr (.u 24) (.c (.int .i64 7))⟩,
      ⟨some 26, false, none, .mov (.u 25)⟩,
      ⟨some 27, false, some ((.u 26), false), .mov (.t 1)⟩,
      ⟨some 28, false, some ((.u 26), false), .lenL (.u 27)⟩,
      ⟨some 29, false, some ((.u 26), false), .bin .gtr (.u 28) (.c (.int .i64 6))⟩,
      ⟨some 30, true, none, .pick (.u 26) (.c (.bool true)) (.u 29)⟩])
   (.cond (.t 30)
    (.seq (.region [⟨some 31, false, none, .call 14 []⟩,
       ⟨some 4, true, none, .mov (.u 31)⟩])
    (.ret))
    (.skip)))
  (.seq (.region [⟨some 7, true, none, .mov (.c (.fsl 1 0 []))⟩])
  (.seq (.seq (.region [⟨some 8, true, none, .mov (.c (.int .i64 0))⟩])
   (.block 2 (.loop (.seq (.seq (.region [⟨some 32, false, none, .mov (.t 8)⟩,
         ⟨some 33, false, none, .mov (.t 0)⟩,
         ⟨some 34, false, none, .lenL (.u 33)⟩,
         ⟨some 35, true, none, .bin .lss (.u 32) (.u 34)⟩])
      (.cond (.t 35)
       (.skip)
       (.exit 2)))
     (.seq (.block 3 (.region [⟨some 38, false, none, .mov (.t 7)⟩,
         ⟨some 39, false, none, .mov (.t 8)⟩,
         ⟨some 40, false, none, .mkS 1 1 [.int .i64 0] [(0, 1, (.u 39))]⟩,
         ⟨some 41, false, none, .app 1 8 (.u 38) (.u 40)⟩,
         ⟨some 7, true, none, .mov (.u 41)⟩]))
     (.region [⟨some 36, false, none, .mov (.t 8)⟩,
       ⟨some 37, false, none, .bin .add (.u 36) (.c (.int .i64 1))⟩,
       ⟨some 8, true, none, .mov (.u 37)⟩]))))))
  (.seq (.region [⟨some 42, false, none, .mov (.t 0)⟩,
     ⟨some 43, false, none, .mov (.t 1)⟩,
     ⟨some 44, false, none, .call 13 [(.u 42), (.u 43)]⟩,
     ⟨some 45, false, none, .mov (.u 44)⟩,
     ⟨some 46, false, some ((.u 45), true), .mov (.t 0)⟩,
     ⟨some 47, false, some ((.u 45), true), .mov (.t 7)⟩,
     ⟨some 48, false, some ((.u 45), true), .call 13 [(.u 46), (.u 47)]⟩,
     ⟨some 49, false, none, .pick (.u 45) (.u 48) (.c (.bool false))⟩,
     ⟨some 50, false, none, .mov (.u 49)⟩,
     ⟨some 51, false, some ((.u 50), true), .call 14 []⟩,
     ⟨some 52, false, none, .pick (.u 50) (.u 51) (.c (.bool false))⟩,
     ⟨some 4, true, none, .mov (.u 52)⟩])
  (.ret)))))))
def r4 : List LRes := [.slot 4]
theorem t4 : (Try.f4.body.bind (trCode v4 Try.prog Try.f4.ntmps)) = some c4 ∧ trRes v4 Try.prog Try.f4.results.toList = some r4 := ⟨by kernel_rfl, by kernel_rfl⟩


end Go.Proofs.Ytcngkeeknlloaaa
