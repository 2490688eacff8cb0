/- The functions' bodies as the engine reads them; written by program out of the translation, checked by the kernel. -/
import Derived.Test.YtofpepjehiohcaaProg
import Derived.Test.YtofpepjehiohcaaLxL
import Derived.KernelRfl
namespace Go.Proofs.Ytofpepjehiohcaa
open Go Go.Lx
set_option maxRecDepth 100000
def v6 : Nat → Bool := fun t => [0, 2, 3, 4, 5, 6, 7, 18, 24, 53, 70, 90].contains t
def c6 : LCode :=
  .seq (.region [⟨some 2, true, none, .mov (.c (.bool false))⟩])
  (.seq (.region [⟨some 8, false, none, .mov (.t 0)⟩,
     ⟨some 9, false, none, .call 10 [(.u 8)]⟩,
     ⟨some 3, true, none, .mov (.u 9)⟩])
  (.seq (.region [⟨some 10, false, none, .mov (.t 3)⟩,
     ⟨some 11, false, none, .call 20 [(.u 10)]⟩,
     ⟨some 4, true, none, .mov (.u 11)⟩])
  (.seq (.region [⟨some 12, false, none, .mov (.t 4)⟩,
     ⟨some 13, false, none, .nilc (.u 12)⟩,
     ⟨some 14, false, none, .faddr 17 (.u 13)⟩,
     ⟨some 15, false, none, .faddr 0 (.u 14)⟩,
     ⟨some 16, false, none, .load false 1 (.u 15)⟩,
     ⟨some 5, true, none, .mov (.u 16)⟩])
  (.seq (.seq (.region [⟨some 6, true, none, .mov (.c (.int .i64 0))⟩])
   (.block 0 (.loop (.seq (.seq (.region [⟨some 17, false, none, .mov (.t 6)⟩,
         ⟨some 18, true, none, .bin .lss (.u 17) (.c (.int .i64 60))⟩])
      (.cond (.t 18)
       (.skip)
       (.exit 0)))
     (.seq (.block 1 (.seq (.seq (.region [⟨some 21, false, none, .mov (.t 4)⟩,
           ⟨some 22, false, none, .mov (.t 3)⟩,
           ⟨some 23, false, none, .call 21 [(.u 21), (.u 22)]⟩,
           ⟨some 24, true, none, .un .not (.u 23)⟩])
        (.cond (.t 24)
         (.seq (.region [⟨some 2, true, none, .mov (.c (.bool false))⟩])
         (.ret))
         (.skip)))
       (.seq (.region [⟨some 25, false, none, .mov (.t 5)⟩,
          ⟨some 26, false, none, .mov (.t 4)⟩,
          ⟨some 27, false, none, .nilc (.u 26)⟩,
          ⟨some 28, false, none, .faddr 0 (.u 27)⟩,
          ⟨some 29, false, none, .faddr 0 (.u 28)⟩,
          ⟨some 30, false, none, .load false 1 (.u 29)⟩,
          ⟨some 31, false, none, .mm true (.u 25) [(.u 30)]⟩,
          ⟨some 5, true, none, .mov (.u 31)⟩])
       (.seq (.seq (.regionD [⟨0, [4], false, [], ⟨some 32, false, none, .mov (.t 4)⟩⟩,
           ⟨1, [32], false, [], ⟨some 33, false, none, .nilc (.u 32)⟩⟩,
           ⟨2, [33], false, [], ⟨some 34, false, none, .faddr 0 (.u 33)⟩⟩,
           ⟨3, [34], false, [], ⟨some 35, false, none, .faddr 6 (.u 34)⟩⟩,
           ⟨4, [35], true, [], ⟨some 36, false, none, .load false 1 (.u 35)⟩⟩,
           ⟨5, [36], false, [], ⟨some 37, false, none, .lenL (.u 36)⟩⟩,
           ⟨6, [4], false, [], ⟨some 38, false, none, .mov (.t 4)⟩⟩,
           ⟨7, [38], false, [], ⟨some 39, false, none, .nilc (.u 38)⟩⟩,
           ⟨8, [39], false, [], ⟨some 40, false, none, .faddr 0 (.u 39)⟩⟩,
           ⟨9, [40], false, [], ⟨some 41, false, none, .faddr 4 (.u 40)⟩⟩,
           ⟨10, [41], true, [], ⟨some 42, false, none, .load false 1 (.u 41)⟩⟩,
           ⟨11, [37, 42], false, [], ⟨some 43, false, none, .bin .add (.u 37) (.u 42)⟩⟩,
           ⟨12, [5], false, [], ⟨some 44, false, none, .mov (.t 5)⟩⟩,
           ⟨13, [43, 44], false, [], ⟨some 45, false, none, .bin .gtr (.u 43) (.u 44)⟩⟩,
           ⟨14, [45], false, [], ⟨some 46, false, none, .mov (.u 45)⟩⟩,
           ⟨15, [4, 46], false, [], ⟨some 47, false, some ((.u 46), false), .mov (.t 4)⟩⟩,
           ⟨16, [47, 46], false, [], ⟨some 48, false, some ((.u 46), false), .nilc (.u 47)⟩⟩,
           ⟨17, [48, 46], false, [], ⟨some 49, false, some ((.u 46), false), .faddr 0 (.u 48)⟩⟩,
           ⟨18, [49, 46], false, [], ⟨some 50, false, some ((.u 46), false), .faddr 4 (.u 49)⟩⟩,
           ⟨19, [50, 46], true, [], ⟨some 51, false, some ((.u 46), false), .load false 1 (.u 50)⟩⟩,
           ⟨20, [51, 46], false, [], ⟨some 52, false, some ((.u 46), false), .bin .lss (.u 51) (.c (.int .i64 0))⟩⟩,
           ⟨21, [46, 52], false, [], ⟨some 53, true, none, .pick (.u 46) (.c (.bool true)) (.u 52)⟩⟩])
        (.cond (.t 53)
         (.seq (.region [⟨some 2, true, none, .mov (.c (.bool false))⟩])
         (.ret))
         (.skip)))
       (.seq (.region [⟨some 7, true, none, .mov (.c (.int .i64 0))⟩])
       (.block 2 (.loop (.seq (.seq (.region [⟨some 54, false, none, .mov (.t 7)⟩,
             ⟨some 55, false, none, .mov (.t 4)⟩,
             ⟨some 56, false, none, .nilc (.u 55)⟩,
             ⟨some 57, false, none, .faddr 0 (.u 56)⟩,
             ⟨some 58, false, none, .faddr 6 (.u 57)⟩,
             ⟨some 59, false, none, .load false 1 (.u 58)⟩,
             ⟨some 60, false, none, .lenL (.u 59)⟩,
             ⟨some 61, false, none, .bin .lss (.u 54) (.u 60)⟩,
             ⟨some 62, false, none, .mov (.u 61)⟩,
             ⟨some 63, false, some ((.u 62), true), .mov (.t 4)⟩,
             ⟨some 64, false, some ((.u 62), true), .nilc (.u 63)⟩,
             ⟨some 65, false, some ((.u 62), true), .faddr 0 (.u 64)⟩,
             ⟨some 66, false, some ((.u 62), true), .faddr 5 (.u 65)⟩,
             ⟨some 67, false, some ((.u 62), true), .load false 1 (.u 66)⟩,
             ⟨some 68, false, some ((.u 62), true), .lenL (.u 67)⟩,
             ⟨some 69, false, some ((.u 62), true), .bin .gtr (.u 68) (.c (.int .i64 0))⟩,
             ⟨some 70, true, none, .pick (.u 62) (.u 69) (.c (.bool false))⟩])
          (.cond (.t 70)
           (.skip)
           (.exit 2)))
         (.seq (.block 3 (.seq (.regionD [⟨0, [4], false, [], ⟨some 73, false, none, .mov (.t 4)⟩⟩,
              ⟨1, [73], false, [], ⟨some 74, false, none, .nilc (.u 73)⟩⟩,
              ⟨2, [74], false, [], ⟨some 75, false, none, .faddr 0 (.u 74)⟩⟩,
              ⟨3, [75], false, [], ⟨some 76, false, none, .faddr 6 (.u 75)⟩⟩,
              ⟨4, [76], true, [], ⟨some 77, false, none, .load false 1 (.u 76)⟩⟩,
              ⟨5, [7], false, [], ⟨some 78, false, none, .mov (.t 7)⟩⟩,
              ⟨6, [77, 78], false, [], ⟨some 79, false, none, .iaS 4 (.u 77) (.u 78)⟩⟩,
              ⟨7, [79], false, [], ⟨some 80, false, none, .faddr 2 (.u 79)⟩⟩,
              ⟨8, [80], true, [], ⟨some 81, false, none, .load false 1 (.u 80)⟩⟩,
              ⟨9, [4], false, [], ⟨some 82, false, none, .mov (.t 4)⟩⟩,
              ⟨10, [82], false, [], ⟨some 83, false, none, .nilc (.u 82)⟩⟩,
              ⟨11, [83], false, [], ⟨some 84, false, none, .faddr 0 (.u 83)⟩⟩,
              ⟨12, [84], false, [], ⟨some 85, false, none, .faddr 5 (.u 84)⟩⟩,
              ⟨13, [85], true, [], ⟨some 86, false, none, .load false 1 (.u 85)⟩⟩,
              ⟨14, [86], false, [], ⟨some 87, false, none, .iaS 1 (.u 86) (.c (.int .i64 0))⟩⟩,
              ⟨15, [87], true, [], ⟨some 88, false, none, .load false 1 (.u 87)⟩⟩,
              ⟨16, [88], false, [], ⟨some 89, false, none, .bin .add (.u 88) (.c (.int .i64 64))⟩⟩,
              ⟨17, [81, 89], false, [], ⟨some 90, true, none, .bin .geq (.u 81) (.u 89)⟩⟩])
           (.cond (.t 90)
            (.seq (.region [⟨some 2, true, none, .mov (.c (.bool false))⟩])
            (.ret))
            (.skip))))
         (.region [⟨some 71, false, none, .mov (.t 7)⟩,
           ⟨some 72, false, none, .bin .add (.u 71) (.c (.int .i64 1))⟩,
           ⟨some 7, true, none, .mov (.u 72)⟩]))))))))))
     (.region [⟨some 19, false, none, .mov (.t 6)⟩,
       ⟨some 20, false, none, .bin .add (.u 19) (.c (.int .i64 1))⟩,
       ⟨some 6, true, none, .mov (.u 20)⟩]))))))
  (.seq (.region [⟨some 91, false, none, .call 19 []⟩,
     ⟨some 2, true, none, .mov (.u 91)⟩])
  (.ret))))))
def r6 : List LRes := [.slot 2]
theorem t6 : (Try.f6.body.bind (trCode v6 Try.prog Try.f6.ntmps)) = some c6 ∧ trRes v6 Try.prog Try.f6.results.toList = some r6 := ⟨by kernel_rfl, by kernel_rfl⟩


end Go.Proofs.Ytofpepjehiohcaa
