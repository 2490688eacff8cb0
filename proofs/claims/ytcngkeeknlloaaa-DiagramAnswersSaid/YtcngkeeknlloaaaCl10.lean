/- The functions' bodies as the engine reads them; written by program out of the translation, checked by the kernel. -/
import Derived.Test.YtcngkeeknlloaaaProg
import Derived.Test.YtcngkeeknlloaaaLxL
import Derived.KernelRfl
namespace Go.Proofs.Ytcngkeeknlloaaa
open Go Go.Lx
set_option maxRecDepth 100000
def v10 : Nat → Bool := fun t => [0, 1, 4, 5, 6, 7, 8, 9, 10, 11, 12, 13, 16, 34, 61, 65, 76, 98].contains t
def c10 : LCode :=
  .seq (.region [⟨some 4, true, none, .mov (.c (.bool false))⟩])
  (.seq (.seq (.region [⟨some 14, false, none, .mov (.t 1)⟩,
      ⟨some 15, false, none, .lenL (.u 14)⟩,
      ⟨some 16, true, none, .bin .gtr (.u 15) (.c (.int .i64 30))⟩])
   (.cond (.t 16)
    (.seq (.region [⟨some 17, false, none, .call 14 []⟩,
       ⟨some 4, true, none, .mov (.u 17)⟩])
    (.ret))
    (.skip)))
  (.seq (.region [⟨some 18, false, none, .mov (.t 0)⟩,
     ⟨some 19, false, none, .call 11 [(.u 18)]⟩,
     ⟨some 5, true, none, .mov (.u 19)⟩])
  (.seq (.region [⟨some 21, false, none, .mov (.t 5)⟩,
     ⟨some 22, false, none, .call 12 [(.u 21), (.c (.int .i64 5))]⟩,
     ⟨some 20, false, none, .mov (.u 22)⟩,
     ⟨some 23, false, none, .ext (.u 20) 0⟩,
     ⟨some 24, false, none, .ext (.u 20) 1⟩,
     ⟨some 6, true, none, .mov (.u 23)⟩,
     ⟨some 7, true, none, .mov (.u 24)⟩])
  (.seq (.region [⟨some 25, false, none, .mov (.t 5)⟩,
     ⟨some 26, false, none, .call 30 [(.u 25)]⟩,
     ⟨some 8, true, none, .zero [.int .i64 0, .int .i64 0, .int .i64 0, .int .i64 0, .int .i64 0, .int .i64 0, .int .i64 0, .int .i64 0, .int .i64 0, .int .i64 0, .int .i64 0, .str [], .str [], .fsl 1 0 [], .bool false, .int .i64 0, .int .i64 0, .int .i64 0, .int .i64 0, .int .i64 0, .fsl 1 0 [], .fsl 1 0 [], .int .i64 0, .fsl 1 0 [], .int .i64 0]⟩,
     ⟨none, true, none, .store 25 (.t 8) (.u 26)⟩])
  (.seq (.region [⟨some 28, false, none, .mov (.t 6)⟩,
     ⟨some 29, false, none, .mov (.t 7)⟩,
     ⟨some 30, false, none, .call 17 [(.u 28), (.u 29)]⟩,
     ⟨some 27, false, none, .mov (.u 30)⟩,
     ⟨some 31, false, none, .ext (.u 27) 0⟩,
     ⟨some 32, false, none, .ext (.u 27) 1⟩,
     ⟨some 9, true, none, .zero [.fsl 1 0 [], .fsl 1 0 [], .int .i64 0]⟩,
     ⟨none, true, none, .store 3 (.t 9) (.u 31)⟩,
     ⟨some 10, true, none, .mov (.u 32)⟩])
  (.seq (.seq (.region [⟨some 33, false, none, .mov (.t 10)⟩,
      ⟨some 34, true, none, .bin .neq (.u 33) (.c (.int .i64 0))⟩])
   (.cond (.t 34)
    (.seq (.region [⟨some 35, false, none, .call 14 []⟩,
       ⟨some 4, true, none, .mov (.u 35)⟩])
    (.ret))
    (.skip)))
  (.seq (.regionD [⟨0, [9], false, [], ⟨some 36, false, none, .faddr 0 (.t 9)⟩⟩,
     ⟨1, [36], true, [], ⟨some 37, false, none, .load false 1 (.u 36)⟩⟩,
     ⟨2, [5], false, [], ⟨some 38, false, none, .mov (.t 5)⟩⟩,
     ⟨5, [5], false, [], ⟨some 41, false, none, .mov (.t 5)⟩⟩,
     ⟨3, [38], false, [1], ⟨some 39, false, none, .call 35 [(.u 38), (.c (.int .i64 3))]⟩⟩,
     ⟨4, [39], false, [], ⟨some 40, false, none, .build [.int .i64 0, .int .i64 0, .int .i64 0, .str [], .int .i64 0, .int .i64 0, .str [], .int .i64 0] [(0, 5, (.u 39))]⟩⟩,
     ⟨6, [41], false, [1], ⟨some 42, false, none, .call 22 [(.u 41), (.c (.int .i64 0)), (.c (.int .i64 3))]⟩⟩,
     ⟨7, [42], false, [], ⟨some 43, false, none, .build [.int .i64 0, .int .i64 0, .int .i64 0, .str [], .int .i64 0, .int .i64 0, .str [], .int .i64 0] [(5, 1, (.u 42)), (6, 1, (.c (.str [47, 97]))), (7, 1, (.c (.int .i64 2)))]⟩⟩,
     ⟨8, [40, 43], false, [], ⟨some 44, false, none, .mkS 8 2 [.int .i64 0, .int .i64 0, .int .i64 0, .str [], .int .i64 0, .int .i64 0, .str [], .int .i64 0] [(0, 8, (.u 40)), (8, 8, (.u 43))]⟩⟩,
     ⟨9, [37, 44], false, [], ⟨some 45, false, none, .app 8 80 (.u 37) (.u 44)⟩⟩,
     ⟨10, [9], false, [], ⟨some 46, false, none, .faddr 0 (.t 9)⟩⟩,
     ⟨11, [46, 45], false, [], ⟨none, true, none, .store 1 (.u 46) (.u 45)⟩⟩])
  (.seq (.regionD [⟨0, [9], true, [], ⟨some 47, false, none, .load true 3 (.t 9)⟩⟩,
     ⟨1, [6], false, [], ⟨some 48, false, none, .mov (.t 6)⟩⟩,
     ⟨2, [1], false, [], ⟨some 49, false, none, .mov (.t 1)⟩⟩,
     ⟨3, [8], true, [], ⟨some 50, false, none, .load true 25 (.t 8)⟩⟩,
     ⟨5, [9], true, [], ⟨some 52, false, none, .load true 3 (.t 9)⟩⟩,
     ⟨6, [6], false, [], ⟨some 53, false, none, .mov (.t 6)⟩⟩,
     ⟨7, [1], false, [], ⟨some 54, false, none, .mov (.t 1)⟩⟩,
     ⟨8, [8], true, [], ⟨some 55, false, none, .load true 25 (.t 8)⟩⟩,
     ⟨4, [47, 48, 49, 50], false, [8, 5], ⟨some 51, false, none, .call 33 [(.u 47), (.u 48), (.u 49), (.u 50)]⟩⟩,
     ⟨9, [52, 53, 54, 55], false, [], ⟨some 56, false, none, .call 36 [(.u 52), (.u 53), (.u 54), (.u 55)]⟩⟩,
     ⟨10, [51], false, [], ⟨some 11, true, none, .mov (.u 51)⟩⟩,
     ⟨11, [56], false, [], ⟨some 12, true, none, .mov (.u 56)⟩⟩])
  (.seq (.seq (.region [⟨some 57, false, none, .mov (.t 11)⟩,
      ⟨some 58, false, none, .lenL (.u 57)⟩,
      ⟨some 59, false, none, .mov (.t 12)⟩,
      ⟨some 60, false, none, .lenL (.u 59)⟩,
      ⟨some 61, true, none, .bin .neq (.u 58) (.u 60)⟩])
   (.cond (.t 61)
    (.seq (.region [⟨some 4, true, none, .mov (.c (.bool false))⟩])
    (.ret))
    (.skip)))
  (.seq (.seq (.region [⟨some 13, true, none, .mov (.c (.int .i64 0))⟩])
   (.block 0 (.loop (.seq (.seq (.region [⟨some 62, false, none, .mov (.t 13)⟩,
         ⟨some 63, false, none, .mov (.t 11)⟩,
         ⟨some 64, false, none, .lenL (.u 63)⟩,
         ⟨some 65, true, none, .bin .lss (.u 62) (.u 64)⟩])
      (.cond (.t 65)
       (.skip)
       (.exit 0)))
     (.seq (.block 1 (.seq (.seq (.regionD [⟨0, [11], false, [], ⟨some 68, false, none, .mov (.t 11)⟩⟩,
           ⟨1, [13], false, [], ⟨some 69, false, none, .mov (.t 13)⟩⟩,
           ⟨2, [68, 69], false, [], ⟨some 70, false, none, .iaS 1 (.u 68) (.u 69)⟩⟩,
           ⟨3, [70], true, [], ⟨some 71, false, none, .load false 1 (.u 70)⟩⟩,
           ⟨4, [12], false, [], ⟨some 72, false, none, .mov (.t 12)⟩⟩,
           ⟨5, [13], false, [], ⟨some 73, false, none, .mov (.t 13)⟩⟩,
           ⟨6, [72, 73], false, [], ⟨some 74, false, none, .iaS 1 (.u 72) (.u 73)⟩⟩,
           ⟨7, [74], true, [], ⟨some 75, false, none, .load false 1 (.u 74)⟩⟩,
           ⟨8, [71, 75], false, [], ⟨some 76, true, none, .eqB true (.u 71) (.u 75)⟩⟩])
        (.cond (.t 76)
         (.seq (.region [⟨some 4, true, none, .mov (.c (.bool false))⟩])
         (.ret))
         (.skip)))
       (.seq (.regionD [⟨0, [9], false, [], ⟨some 77, false, none, .faddr 0 (.t 9)⟩⟩,
          ⟨1, [77], true, [], ⟨some 78, false, none, .load false 1 (.u 77)⟩⟩,
          ⟨2, [13], false, [], ⟨some 79, false, none, .mov (.t 13)⟩⟩,
          ⟨3, [78, 79], false, [], ⟨some 80, false, none, .iaS 8 (.u 78) (.u 79)⟩⟩,
          ⟨4, [80], false, [], ⟨some 81, false, none, .faddr 5 (.u 80)⟩⟩,
          ⟨5, [81], true, [], ⟨some 82, false, none, .load false 1 (.u 81)⟩⟩,
          ⟨6, [82], false, [], ⟨some 83, false, none, .bin .eql (.u 82) (.c (.int .i64 0))⟩⟩,
          ⟨7, [83], false, [], ⟨some 84, false, none, .mov (.u 83)⟩⟩,
          ⟨8, [11, 84], false, [], ⟨some 85, false, some ((.u 84), true), .mov (.t 11)⟩⟩,
          ⟨9, [13, 84], false, [], ⟨some 86, false, some ((.u 84), true), .mov (.t 13)⟩⟩,
          ⟨10, [85, 86, 84], false, [], ⟨some 87, false, some ((.u 84), true), .iaS 1 (.u 85) (.u 86)⟩⟩,
          ⟨11, [87, 84], true, [], ⟨some 88, false, some ((.u 84), true), .load false 1 (.u 87)⟩⟩,
          ⟨12, [9, 84], false, [], ⟨some 89, false, some ((.u 84), true), .faddr 0 (.t 9)⟩⟩,
          ⟨13, [89, 84], true, [], ⟨some 90, false, some ((.u 84), true), .load false 1 (.u 89)⟩⟩,
          ⟨14, [13, 84], false, [], ⟨some 91, false, some ((.u 84), true), .mov (.t 13)⟩⟩,
          ⟨15, [90, 91, 84], false, [], ⟨some 92, false, some ((.u 84), true), .iaS 8 (.u 90) (.u 91)⟩⟩,
          ⟨16, [92, 84], false, [], ⟨some 93, false, some ((.u 84), true), .faddr 0 (.u 92)⟩⟩,
          ⟨17, [93, 84], true, [], ⟨some 94, false, some ((.u 84), true), .load true 5 (.u 93)⟩⟩,
          ⟨18, [8, 84], true, [], ⟨some 95, false, some ((.u 84), true), .load true 25 (.t 8)⟩⟩,
          ⟨19, [94, 95, 84], false, [11], ⟨some 96, false, some ((.u 84), true), .call 37 [(.u 94), (.u 95)]⟩⟩,
          ⟨20, [88, 96, 84], false, [], ⟨some 97, false, some ((.u 84), true), .eqB true (.u 88) (.u 96)⟩⟩,
          ⟨21, [84, 97], false, [], ⟨some 98, true, none, .pick (.u 84) (.u 97) (.c (.bool false))⟩⟩])
       (.cond (.t 98)
        (.seq (.region [⟨some 4, true, none, .mov (.c (.bool false))⟩])
        (.ret))
        (.skip)))))
     (.region [⟨some 66, false, none, .mov (.t 13)⟩,
       ⟨some 67, false, none, .bin .add (.u 66) (.c (.int .i64 1))⟩,
       ⟨some 13, true, none, .mov (.u 67)⟩]))))))
  (.seq (.region [⟨some 99, false, none, .call 14 []⟩,
     ⟨some 4, true, none, .mov (.u 99)⟩])
  (.ret))))))))))))
def r10 : List LRes := [.slot 4]
theorem t10 : (Try.f10.body.bind (trCode v10 Try.prog Try.f10.ntmps)) = some c10 ∧ trRes v10 Try.prog Try.f10.results.toList = some r10 := ⟨by kernel_rfl, by kernel_rfl⟩


end Go.Proofs.Ytcngkeeknlloaaa
