/- The functions' bodies as the engine reads them; written by program out of the translation, checked by the kernel. -/
import Derived.Test.YtcngkeeknlloaaaProg
import Derived.Test.YtcngkeeknlloaaaLxL
import Derived.KernelRfl
namespace Go.Proofs.Ytcngkeeknlloaaa
open Go Go.Lx
set_option maxRecDepth 100000
def v5 : Nat → Bool := fun t => [0, 1, 4, 5, 6, 7, 8, 9, 10, 12, 19, 35, 54, 66].contains t
def c5 : LCode :=
  .seq (.region [⟨some 4, true, none, .mov (.c (.bool false))⟩])
  (.seq (.region [⟨some 5, true, none, .mov (.c (.fsl 1 0 []))⟩])
  (.seq (.region [⟨some 6, true, none, .mov (.c (.fsl 1 0 []))⟩])
  (.seq (.region [⟨some 13, false, none, .mov (.t 0)⟩,
     ⟨some 14, false, none, .bin .rem (.u 13) (.c (.int .u8 6))⟩,
     ⟨some 15, false, none, .conv .i64 (.u 14)⟩,
     ⟨some 16, false, none, .bin .add (.c (.int .i64 9)) (.u 15)⟩,
     ⟨some 7, true, none, .mov (.u 16)⟩])
  (.seq (.seq (.region [⟨some 8, true, none, .mov (.c (.int .i64 0))⟩])
   (.block 0 (.loop (.seq (.seq (.region [⟨some 17, false, none, .mov (.t 8)⟩,
         ⟨some 18, false, none, .mov (.t 7)⟩,
         ⟨some 19, true, none, .bin .lss (.u 17) (.u 18)⟩])
      (.cond (.t 19)
       (.skip)
       (.exit 0)))
     (.seq (.block 1 (.seq (.region [⟨some 22, false, none, .mov (.t 5)⟩,
          ⟨some 23, false, none, .mov (.t 8)⟩,
          ⟨some 24, false, none, .build [.int .i64 0, .int .i64 0, .int .i64 0, .str [], .int .i64 0] [(0, 1, (.c (.int .i64 3))), (1, 1, (.c (.int .i64 1))), (2, 1, (.u 23))]⟩,
          ⟨some 25, false, none, .mkS 5 1 [.int .i64 0, .int .i64 0, .int .i64 0, .str [], .int .i64 0] [(0, 5, (.u 24))]⟩,
          ⟨some 26, false, none, .build [.int .i64 0, .int .i64 0, .int .u64 0, .fsl 1 0 [], .int .i64 0, .str [], .int .i64 0, .str []] [(0, 1, (.c (.int .i64 3))), (1, 1, (.c (.int .i64 1))), (2, 1, (.c (.int .u64 1))), (3, 1, (.u 25))]⟩,
          ⟨some 27, false, none, .mkS 8 1 [.int .i64 0, .int .i64 0, .int .u64 0, .fsl 1 0 [], .int .i64 0, .str [], .int .i64 0, .str []] [(0, 8, (.u 26))]⟩,
          ⟨some 28, false, none, .app 8 96 (.u 22) (.u 27)⟩,
          ⟨some 5, true, none, .mov (.u 28)⟩])
       (.region [⟨some 29, false, none, .mov (.t 6)⟩,
         ⟨some 30, false, none, .mov (.t 8)⟩,
         ⟨some 31, false, none, .mkS 1 1 [.int .i64 0] [(0, 1, (.u 30))]⟩,
         ⟨some 32, false, none, .app 1 8 (.u 29) (.u 31)⟩,
         ⟨some 6, true, none, .mov (.u 32)⟩])))
     (.region [⟨some 20, false, none, .mov (.t 8)⟩,
       ⟨some 21, false, none, .bin .add (.u 20) (.c (.int .i64 1))⟩,
       ⟨some 8, true, none, .mov (.u 21)⟩]))))))
  (.seq (.seq (.region [⟨some 33, false, none, .mov (.t 1)⟩,
      ⟨some 34, false, none, .bin .rem (.u 33) (.c (.int .u8 4))⟩,
      ⟨some 35, true, none, .bin .eql (.u 34) (.c (.int .u8 0))⟩])
   (.cond (.t 35)
    (.region [⟨some 36, false, none, .mov (.t 6)⟩,
      ⟨some 37, false, none, .mov (.t 7)⟩,
      ⟨some 38, false, none, .mkS 1 3 [.int .i64 0] [(0, 1, (.c (.int .i64 0))), (1, 1, (.u 37)), (2, 1, (.c (.int .i64 (-1))))]⟩,
      ⟨some 39, false, none, .mov (.t 1)⟩,
      ⟨some 40, false, none, .bin .quo (.u 39) (.c (.int .u8 4))⟩,
      ⟨some 41, false, none, .bin .rem (.u 40) (.c (.int .u8 3))⟩,
      ⟨some 42, false, none, .iaS 1 (.u 38) (.u 41)⟩,
      ⟨some 43, false, none, .load false 1 (.u 42)⟩,
      ⟨some 44, false, none, .mkS 1 1 [.int .i64 0] [(0, 1, (.u 43))]⟩,
      ⟨some 45, false, none, .app 1 8 (.u 36) (.u 44)⟩,
      ⟨some 6, true, none, .mov (.u 45)⟩])
    (.skip)))
  (.seq (.region [⟨some 47, false, none, .mov (.t 5)⟩,
     ⟨some 48, false, none, .mov (.t 6)⟩,
     ⟨some 49, false, none, .call 15 [(.u 47), (.u 48)]⟩,
     ⟨some 46, false, none, .mov (.u 49)⟩,
     ⟨some 50, false, none, .ext (.u 46) 0⟩,
     ⟨some 51, false, none, .ext (.u 46) 1⟩,
     ⟨some 9, true, none, .mov (.u 50)⟩,
     ⟨some 10, true, none, .mov (.u 51)⟩])
  (.seq (.seq (.region [⟨some 52, false, none, .mov (.t 1)⟩,
      ⟨some 53, false, none, .bin .rem (.u 52) (.c (.int .u8 4))⟩,
      ⟨some 54, true, none, .bin .eql (.u 53) (.c (.int .u8 0))⟩])
   (.cond (.t 54)
    (.seq (.region [⟨some 55, false, none, .mov (.t 10)⟩,
       ⟨some 56, false, none, .bin .eql (.u 55) (.c (.int .i64 160))⟩,
       ⟨some 57, false, none, .mov (.u 56)⟩,
       ⟨some 58, false, some ((.u 57), true), .mov (.t 9)⟩,
       ⟨some 59, false, some ((.u 57), true), .lenL (.u 58)⟩,
       ⟨some 60, false, some ((.u 57), true), .bin .eql (.u 59) (.c (.int .i64 0))⟩,
       ⟨some 61, false, none, .pick (.u 57) (.u 60) (.c (.bool false))⟩,
       ⟨some 62, false, none, .mov (.u 61)⟩,
       ⟨some 63, false, some ((.u 62), true), .call 14 []⟩,
       ⟨some 64, false, none, .pick (.u 62) (.u 63) (.c (.bool false))⟩,
       ⟨some 4, true, none, .mov (.u 64)⟩])
    (.ret))
    (.skip)))
  (.seq (.seq (.region [⟨some 65, false, none, .mov (.t 7)⟩,
      ⟨some 66, true, none, .bin .gtr (.u 65) (.c (.int .i64 12))⟩])
   (.cond (.t 66)
    (.seq (.region [⟨some 68, false, none, .mov (.t 5)⟩,
       ⟨some 69, false, none, .mov (.t 6)⟩,
       ⟨some 70, false, none, .call 16 [(.u 68), (.u 69)]⟩,
       ⟨some 67, false, none, .mov (.u 70)⟩,
       ⟨some 71, false, none, .ext (.u 67) 0⟩,
       ⟨some 72, false, none, .ext (.u 67) 1⟩,
       ⟨some 11, false, none, .zero [.fsl 1 0 [], .fsl 1 0 [], .int .i64 0]⟩,
       ⟨none, true, none, .store 3 (.u 11) (.u 71)⟩,
       ⟨some 12, true, none, .mov (.u 72)⟩])
    (.seq (.region [⟨some 73, false, none, .mov (.t 10)⟩,
       ⟨some 74, false, none, .bin .eql (.u 73) (.c (.int .i64 161))⟩,
       ⟨some 75, false, none, .mov (.u 74)⟩,
       ⟨some 76, false, some ((.u 75), true), .mov (.t 12)⟩,
       ⟨some 77, false, some ((.u 75), true), .bin .eql (.u 76) (.c (.int .i64 161))⟩,
       ⟨some 78, false, none, .pick (.u 75) (.u 77) (.c (.bool false))⟩,
       ⟨some 79, false, none, .mov (.u 78)⟩,
       ⟨some 80, false, some ((.u 79), true), .mov (.t 9)⟩,
       ⟨some 81, false, some ((.u 79), true), .lenL (.u 80)⟩,
       ⟨some 82, false, some ((.u 79), true), .bin .eql (.u 81) (.c (.int .i64 0))⟩,
       ⟨some 83, false, none, .pick (.u 79) (.u 82) (.c (.bool false))⟩,
       ⟨some 84, false, none, .mov (.u 83)⟩,
       ⟨some 85, false, some ((.u 84), true), .call 14 []⟩,
       ⟨some 86, false, none, .pick (.u 84) (.u 85) (.c (.bool false))⟩,
       ⟨some 4, true, none, .mov (.u 86)⟩])
    (.ret)))
    (.skip)))
  (.seq (.region [⟨some 87, false, none, .mov (.t 10)⟩,
     ⟨some 88, false, none, .bin .eql (.u 87) (.c (.int .i64 0))⟩,
     ⟨some 89, false, none, .mov (.u 88)⟩,
     ⟨some 90, false, some ((.u 89), true), .mov (.t 9)⟩,
     ⟨some 91, false, some ((.u 89), true), .lenL (.u 90)⟩,
     ⟨some 92, false, some ((.u 89), true), .mov (.t 7)⟩,
     ⟨some 93, false, some ((.u 89), true), .bin .eql (.u 91) (.u 92)⟩,
     ⟨some 94, false, none, .pick (.u 89) (.u 93) (.c (.bool false))⟩,
     ⟨some 95, false, none, .mov (.u 94)⟩,
     ⟨some 96, false, some ((.u 95), true), .call 14 []⟩,
     ⟨some 97, false, none, .pick (.u 95) (.u 96) (.c (.bool false))⟩,
     ⟨some 4, true, none, .mov (.u 97)⟩])
  (.ret))))))))))
def r5 : List LRes := [.slot 4]
theorem t5 : (Try.f5.body.bind (trCode v5 Try.prog Try.f5.ntmps)) = some c5 ∧ trRes v5 Try.prog Try.f5.results.toList = some r5 := ⟨by kernel_rfl, by kernel_rfl⟩


end Go.Proofs.Ytcngkeeknlloaaa
