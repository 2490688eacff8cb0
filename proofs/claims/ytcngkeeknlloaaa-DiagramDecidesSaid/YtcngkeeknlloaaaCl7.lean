/- The functions' bodies as the engine reads them; written by program out of the translation, checked by the kernel. -/
import Derived.Test.YtcngkeeknlloaaaProg
import Derived.Test.YtcngkeeknlloaaaLxL
import Derived.KernelRfl
namespace Go.Proofs.Ytcngkeeknlloaaa
open Go Go.Lx
set_option maxRecDepth 100000
def v7 : Nat → Bool := fun t => [0, 2, 3, 4, 5, 6, 7, 8, 9, 10, 11, 45, 61, 70, 80].contains t
def c7 : LCode :=
  .seq (.region [⟨some 2, true, none, .mov (.c (.bool false))⟩])
  (.seq (.region [⟨some 12, false, none, .mov (.t 0)⟩,
     ⟨some 13, false, none, .call 11 [(.u 12)]⟩,
     ⟨some 3, true, none, .mov (.u 13)⟩])
  (.seq (.region [⟨some 15, false, none, .mov (.t 3)⟩,
     ⟨some 16, false, none, .call 12 [(.u 15), (.c (.int .i64 5))]⟩,
     ⟨some 14, false, none, .mov (.u 16)⟩,
     ⟨some 17, false, none, .ext (.u 14) 0⟩,
     ⟨some 18, false, none, .ext (.u 14) 1⟩,
     ⟨some 4, true, none, .mov (.u 17)⟩,
     ⟨some 5, true, none, .mov (.u 18)⟩])
  (.seq (.region [⟨some 20, false, none, .mov (.t 4)⟩,
     ⟨some 21, false, none, .mov (.t 5)⟩,
     ⟨some 22, false, none, .call 16 [(.u 20), (.u 21)]⟩,
     ⟨some 19, false, none, .mov (.u 22)⟩,
     ⟨some 23, false, none, .ext (.u 19) 0⟩,
     ⟨some 24, false, none, .ext (.u 19) 1⟩,
     ⟨some 6, true, none, .zero [.fsl 1 0 [], .fsl 1 0 [], .int .i64 0]⟩,
     ⟨none, true, none, .store 3 (.t 6) (.u 23)⟩,
     ⟨some 7, true, none, .mov (.u 24)⟩])
  (.seq (.region [⟨some 26, false, none, .mov (.t 4)⟩,
     ⟨some 27, false, none, .mov (.t 5)⟩,
     ⟨some 28, false, none, .call 24 [(.u 26), (.u 27)]⟩,
     ⟨some 25, false, none, .mov (.u 28)⟩,
     ⟨some 29, false, none, .ext (.u 25) 0⟩,
     ⟨some 30, false, none, .ext (.u 25) 1⟩,
     ⟨some 8, true, none, .mov (.u 29)⟩,
     ⟨some 9, true, none, .mov (.u 30)⟩])
  (.seq (.seq (.region [⟨some 31, false, none, .mov (.t 7)⟩,
      ⟨some 32, false, none, .mov (.t 9)⟩,
      ⟨some 33, false, none, .bin .neq (.u 31) (.u 32)⟩,
      ⟨some 34, false, none, .mov (.u 33)⟩,
      ⟨some 35, false, some ((.u 34), false), .mov (.t 7)⟩,
      ⟨some 36, false, some ((.u 34), false), .bin .neq (.u 35) (.c (.int .i64 0))⟩,
      ⟨some 37, false, none, .pick (.u 34) (.c (.bool true)) (.u 36)⟩,
      ⟨some 38, false, none, .mov (.u 37)⟩,
      ⟨some 39, false, some ((.u 38), false), .faddr 0 (.t 6)⟩,
      ⟨some 40, false, some ((.u 38), false), .load false 1 (.u 39)⟩,
      ⟨some 41, false, some ((.u 38), false), .lenL (.u 40)⟩,
      ⟨some 42, false, some ((.u 38), false), .mov (.t 8)⟩,
      ⟨some 43, false, some ((.u 38), false), .lenL (.u 42)⟩,
      ⟨some 44, false, some ((.u 38), false), .bin .neq (.u 41) (.u 43)⟩,
      ⟨some 45, true, none, .pick (.u 38) (.c (.bool true)) (.u 44)⟩])
   (.cond (.t 45)
    (.seq (.region [⟨some 46, false, none, .mov (.t 7)⟩,
       ⟨some 47, false, none, .bin .neq (.u 46) (.c (.int .i64 0))⟩,
       ⟨some 48, false, none, .mov (.u 47)⟩,
       ⟨some 49, false, some ((.u 48), true), .mov (.t 7)⟩,
       ⟨some 50, false, some ((.u 48), true), .mov (.t 9)⟩,
       ⟨some 51, false, some ((.u 48), true), .bin .eql (.u 49) (.u 50)⟩,
       ⟨some 52, false, none, .pick (.u 48) (.u 51) (.c (.bool false))⟩,
       ⟨some 53, false, none, .mov (.u 52)⟩,
       ⟨some 54, false, some ((.u 53), true), .call 14 []⟩,
       ⟨some 55, false, none, .pick (.u 53) (.u 54) (.c (.bool false))⟩,
       ⟨some 2, true, none, .mov (.u 55)⟩])
    (.ret))
    (.skip)))
  (.seq (.seq (.region [⟨some 10, true, none, .mov (.c (.int .i64 0))⟩])
   (.block 0 (.loop (.seq (.seq (.region [⟨some 56, false, none, .mov (.t 10)⟩,
         ⟨some 57, false, none, .mov (.t 8)⟩,
         ⟨some 58, false, none, .lenL (.u 57)⟩,
         ⟨some 59, false, none, .conv .u64 (.u 58)⟩,
         ⟨some 60, false, none, .bin .shl (.c (.int .i64 1)) (.u 59)⟩,
         ⟨some 61, true, none, .bin .lss (.u 56) (.u 60)⟩])
      (.cond (.t 61)
       (.skip)
       (.exit 0)))
     (.seq (.block 1 (.seq (.region [⟨some 64, false, none, .mov (.t 4)⟩,
          ⟨some 65, false, none, .mov (.t 5)⟩,
          ⟨some 66, false, none, .mov (.t 8)⟩,
          ⟨some 67, false, none, .mov (.t 10)⟩,
          ⟨some 68, false, none, .call 25 [(.u 64), (.u 65), (.u 66), (.u 67)]⟩,
          ⟨some 11, true, none, .mov (.u 68)⟩])
       (.seq (.seq (.region [⟨some 69, false, none, .mov (.t 11)⟩,
           ⟨some 70, true, none, .bin .lss (.u 69) (.c (.int .i64 (-1)))⟩])
        (.cond (.t 70)
         (.region [⟨some 71, false, none, .mov (.t 11)⟩,
           ⟨some 72, false, none, .bin .sub (.c (.int .i64 (-2))) (.u 71)⟩,
           ⟨some 11, true, none, .mov (.u 72)⟩])
         (.skip)))
       (.seq (.regionD [⟨0, [6], true, [], ⟨some 73, false, none, .load true 3 (.t 6)⟩⟩,
          ⟨1, [8], false, [], ⟨some 74, false, none, .mov (.t 8)⟩⟩,
          ⟨2, [74], false, [], ⟨some 75, false, none, .lenL (.u 74)⟩⟩,
          ⟨3, [10], false, [], ⟨some 76, false, none, .mov (.t 10)⟩⟩,
          ⟨6, [11], false, [], ⟨some 79, false, none, .mov (.t 11)⟩⟩,
          ⟨4, [75, 76], false, [0], ⟨some 77, false, none, .call 26 [(.u 75), (.u 76)]⟩⟩,
          ⟨5, [73, 77], false, [], ⟨some 78, false, none, .call 19 [(.u 73), (.u 77)]⟩⟩,
          ⟨7, [78, 79], false, [], ⟨some 80, true, none, .bin .neq (.u 78) (.u 79)⟩⟩])
       (.cond (.t 80)
        (.seq (.region [⟨some 2, true, none, .mov (.c (.bool false))⟩])
        (.ret))
        (.skip))))))
     (.region [⟨some 62, false, none, .mov (.t 10)⟩,
       ⟨some 63, false, none, .bin .add (.u 62) (.c (.int .i64 1))⟩,
       ⟨some 10, true, none, .mov (.u 63)⟩]))))))
  (.seq (.region [⟨some 81, false, none, .call 14 []⟩,
     ⟨some 2, true, none, .mov (.u 81)⟩])
  (.ret))))))))
def r7 : List LRes := [.slot 2]
theorem t7 : (Try.f7.body.bind (trCode v7 Try.prog Try.f7.ntmps)) = some c7 ∧ trRes v7 Try.prog Try.f7.results.toList = some r7 := ⟨by kernel_rfl, by kernel_rfl⟩


end Go.Proofs.Ytcngkeeknlloaaa
