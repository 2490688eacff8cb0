/- The functions' bodies as the engine reads them; written by program out of the translation, checked by the kernel. -/
import Derived.Test.YtofpepjehiohcaaProg
import Derived.Test.YtofpepjehiohcaaLxL
import Derived.KernelRfl
namespace Go.Proofs.Ytofpepjehiohcaa
open Go Go.Lx
set_option maxRecDepth 100000
def v9 : Nat → Bool := fun t => [0, 2, 3, 4, 5, 6, 7, 8, 9, 11, 63, 72, 80, 149, 151].contains t
def c9 : LCode :=
  .seq (.region [⟨some 2, true, none, .mov (.c (.bool false))⟩])
  (.seq (.region [⟨some 3, true, none, .zero [.int .i64 0, .int .i64 0, .int .i64 0, .int .i64 0, .int .i64 0, .fsl 1 0 [], .fsl 1 0 [], .int .i64 0, .int .i64 0, .int .i64 0, .int .i64 0, .int .i64 0, .int .i64 0, .int .i64 0, .int .i64 0, .bool false, .fsl 1 0 [], .int .i64 0, .int .i64 0, .int .i64 0, .int .i64 0, .int .i64 0, .fsl 1 0 [], .fsl 1 0 [], .int .i64 0, .int .i64 0, .int .i64 0, .int .i64 0, .int .i64 0, .int .i64 0, .int .i64 0, .int .i64 0, .bool false, .fsl 1 0 [], .int .i64 0, .int .i64 0, .int .i64 0, .int .i64 0, .int .i64 0, .fsl 1 0 [], .fsl 1 0 [], .int .i64 0, .int .i64 0, .int .i64 0, .int .i64 0, .int .i64 0, .int .i64 0, .int .i64 0, .int .i64 0, .bool false, .fsl 1 0 []]⟩])
  (.seq (.seq (.region [⟨some 4, true, none, .mov (.c (.int .i64 1))⟩])
   (.block 0 (.loop (.seq (.seq (.region [⟨some 10, false, none, .mov (.t 4)⟩,
         ⟨some 11, true, none, .bin .leq (.u 10) (.c (.int .i64 3))⟩])
      (.cond (.t 11)
       (.skip)
       (.exit 0)))
     (.seq (.block 1 (.seq (.region [⟨some 14, false, none, .mov (.t 0)⟩,
          ⟨some 15, false, none, .call 10 [(.u 14)]⟩,
          ⟨some 5, true, none, .mov (.u 15)⟩])
       (.seq (.region [⟨some 16, false, none, .mov (.t 5)⟩,
          ⟨some 17, false, none, .call 20 [(.u 16)]⟩,
          ⟨some 6, true, none, .mov (.u 17)⟩])
       (.seq (.regionD [⟨0, [6], false, [], ⟨some 19, false, none, .mov (.t 6)⟩⟩,
          ⟨1, [6], false, [], ⟨some 20, false, none, .mov (.t 6)⟩⟩,
          ⟨2, [20], false, [], ⟨some 21, false, none, .nilc (.u 20)⟩⟩,
          ⟨3, [21], false, [], ⟨some 22, false, none, .faddr 0 (.u 21)⟩⟩,
          ⟨4, [22], true, [], ⟨some 23, false, none, .load true 17 (.u 22)⟩⟩,
          ⟨5, [6], false, [], ⟨some 24, false, none, .mov (.t 6)⟩⟩,
          ⟨6, [24], false, [], ⟨some 25, false, none, .nilc (.u 24)⟩⟩,
          ⟨7, [25], false, [], ⟨some 26, false, none, .faddr 17 (.u 25)⟩⟩,
          ⟨8, [26], false, [], ⟨some 27, false, none, .faddr 0 (.u 26)⟩⟩,
          ⟨9, [27], true, [], ⟨some 28, false, none, .load false 1 (.u 27)⟩⟩,
          ⟨10, [6], false, [], ⟨some 29, false, none, .mov (.t 6)⟩⟩,
          ⟨11, [29], false, [], ⟨some 30, false, none, .nilc (.u 29)⟩⟩,
          ⟨12, [30], false, [], ⟨some 31, false, none, .faddr 17 (.u 30)⟩⟩,
          ⟨13, [31], false, [], ⟨some 32, false, none, .faddr 1 (.u 31)⟩⟩,
          ⟨14, [32], true, [], ⟨some 33, false, none, .load false 1 (.u 32)⟩⟩,
          ⟨15, [4], false, [], ⟨some 34, false, none, .mov (.t 4)⟩⟩,
          ⟨16, [23, 28, 33, 34], false, [], ⟨some 35, false, none, .call 16 [(.u 23), (.u 28), (.u 33), (.u 34)]⟩⟩,
          ⟨17, [35], false, [], ⟨some 18, false, none, .mov (.u 35)⟩⟩,
          ⟨18, [18], false, [], ⟨some 36, false, none, .ext (.u 18) 0⟩⟩,
          ⟨19, [18], false, [], ⟨some 37, false, none, .ext (.u 18) 1⟩⟩,
          ⟨20, [19], false, [], ⟨some 38, false, none, .nilc (.u 19)⟩⟩,
          ⟨21, [38], false, [], ⟨some 39, false, none, .faddr 0 (.u 38)⟩⟩,
          ⟨22, [39, 36], false, [], ⟨none, true, none, .store 17 (.u 39) (.u 36)⟩⟩])
       (.seq (.regionD [⟨0, [6], false, [], ⟨some 41, false, none, .mov (.t 6)⟩⟩,
          ⟨1, [6], false, [], ⟨some 42, false, none, .mov (.t 6)⟩⟩,
          ⟨2, [42], false, [], ⟨some 43, false, none, .nilc (.u 42)⟩⟩,
          ⟨3, [43], false, [], ⟨some 44, false, none, .faddr 17 (.u 43)⟩⟩,
          ⟨4, [44], true, [], ⟨some 45, false, none, .load true 17 (.u 44)⟩⟩,
          ⟨5, [6], false, [], ⟨some 46, false, none, .mov (.t 6)⟩⟩,
          ⟨6, [46], false, [], ⟨some 47, false, none, .nilc (.u 46)⟩⟩,
          ⟨7, [47], false, [], ⟨some 48, false, none, .faddr 17 (.u 47)⟩⟩,
          ⟨8, [48], false, [], ⟨some 49, false, none, .faddr 0 (.u 48)⟩⟩,
          ⟨9, [49], true, [], ⟨some 50, false, none, .load false 1 (.u 49)⟩⟩,
          ⟨10, [6], false, [], ⟨some 51, false, none, .mov (.t 6)⟩⟩,
          ⟨11, [51], false, [], ⟨some 52, false, none, .nilc (.u 51)⟩⟩,
          ⟨12, [52], false, [], ⟨some 53, false, none, .faddr 17 (.u 52)⟩⟩,
          ⟨13, [53], false, [], ⟨some 54, false, none, .faddr 1 (.u 53)⟩⟩,
          ⟨14, [54], true, [], ⟨some 55, false, none, .load false 1 (.u 54)⟩⟩,
          ⟨15, [4], false, [], ⟨some 56, false, none, .mov (.t 4)⟩⟩,
          ⟨16, [45, 50, 55, 56], false, [], ⟨some 57, false, none, .call 17 [(.u 45), (.u 50), (.u 55), (.u 56)]⟩⟩,
          ⟨17, [57], false, [], ⟨some 40, false, none, .mov (.u 57)⟩⟩,
          ⟨18, [40], false, [], ⟨some 58, false, none, .ext (.u 40) 0⟩⟩,
          ⟨19, [40], false, [], ⟨some 59, false, none, .ext (.u 40) 1⟩⟩,
          ⟨20, [41], false, [], ⟨some 60, false, none, .nilc (.u 41)⟩⟩,
          ⟨21, [60], false, [], ⟨some 61, false, none, .faddr 17 (.u 60)⟩⟩,
          ⟨22, [61, 58], false, [], ⟨none, true, none, .store 17 (.u 61) (.u 58)⟩⟩])
       (.seq (.seq (.region [⟨some 7, true, none, .mov (.c (.int .i64 0))⟩])
        (.block 2 (.loop (.seq (.seq (.region [⟨some 62, false, none, .mov (.t 7)⟩,
              ⟨some 63, true, none, .bin .lss (.u 62) (.c (.int .i64 20))⟩])
           (.cond (.t 63)
            (.skip)
            (.exit 2)))
          (.seq (.block 3 (.seq (.region [⟨some 66, false, none, .mov (.t 5)⟩,
               ⟨some 67, false, none, .call 30 [(.u 66), (.c (.int .i64 6))]⟩,
               ⟨some 8, true, none, .mov (.u 67)⟩])
            (.block 4 (.seq (.region [⟨some 73, false, none, .mov (.t 8)⟩,
                ⟨some 74, false, none, .bin .lss (.u 73) (.c (.int .i64 3))⟩,
                ⟨some 72, true, none, .mov (.u 74)⟩])
             (.cond (.t 72)
              (.region [⟨some 75, false, none, .mov (.t 6)⟩,
                ⟨some 76, false, none, .mov (.t 5)⟩,
                ⟨some 77, false, none, .mkS 1 3 [.int .i64 0] [(0, 1, (.c (.int .i64 1))), (1, 1, (.c (.int .i64 2))), (2, 1, (.c (.int .i64 5)))]⟩,
                ⟨some 78, false, none, .call 12 [(.u 76), (.u 77)]⟩,
                ⟨some 79, false, none, .call 31 [(.u 75), (.u 78)]⟩])
              (.seq (.region [⟨some 81, false, none, .mov (.t 8)⟩,
                 ⟨some 82, false, none, .bin .lss (.u 81) (.c (.int .i64 5))⟩,
                 ⟨some 83, false, none, .mov (.u 82)⟩,
                 ⟨some 84, false, some ((.u 83), true), .mov (.t 6)⟩,
                 ⟨some 85, false, some ((.u 83), true), .nilc (.u 84)⟩,
                 ⟨some 86, false, some ((.u 83), true), .faddr 34 (.u 85)⟩,
                 ⟨some 87, false, some ((.u 83), true), .load false 1 (.u 86)⟩,
                 ⟨some 88, false, some ((.u 83), true), .lenL (.u 87)⟩,
                 ⟨some 89, false, some ((.u 83), true), .bin .gtr (.u 88) (.c (.int .i64 0))⟩,
                 ⟨some 90, false, none, .pick (.u 83) (.u 89) (.c (.bool false))⟩,
                 ⟨some 80, true, none, .mov (.u 90)⟩])
              (.cond (.t 80)
               (.region [⟨some 91, false, none, .mov (.t 6)⟩,
                 ⟨some 92, false, none, .mov (.t 5)⟩,
                 ⟨some 93, false, none, .mov (.t 6)⟩,
                 ⟨some 94, false, none, .nilc (.u 93)⟩,
                 ⟨some 95, false, none, .faddr 34 (.u 94)⟩,
                 ⟨some 96, false, none, .load false 1 (.u 95)⟩,
                 ⟨some 97, false, none, .lenL (.u 96)⟩,
                 ⟨some 98, false, none, .call 30 [(.u 92), (.u 97)]⟩,
                 ⟨some 99, false, none, .call 32 [(.u 91), (.u 98)]⟩])
               (.region [⟨some 68, false, none, .mov (.t 6)⟩,
                 ⟨some 69, false, none, .mov (.t 5)⟩,
                 ⟨some 70, false, none, .call 30 [(.u 69), (.c (.int .i64 4))]⟩,
                 ⟨some 71, false, none, .call 33 [(.u 68), (.u 70)]⟩]))))))))
          (.region [⟨some 64, false, none, .mov (.t 7)⟩,
            ⟨some 65, false, none, .bin .add (.u 64) (.c (.int .i64 1))⟩,
            ⟨some 7, true, none, .mov (.u 65)⟩]))))))
       (.region [⟨some 100, false, none, .mov (.t 4)⟩,
         ⟨some 101, false, none, .bin .sub (.u 100) (.c (.int .i64 1))⟩,
         ⟨some 102, false, none, .mov (.t 6)⟩,
         ⟨some 103, false, none, .nilc (.u 102)⟩,
         ⟨some 104, false, none, .faddr 0 (.u 103)⟩,
         ⟨some 105, false, none, .load true 17 (.u 104)⟩,
         ⟨some 106, false, none, .iaA 3 17 (.t 3) (.u 101)⟩,
         ⟨none, true, none, .store 17 (.u 106) (.u 105)⟩])))))))
     (.region [⟨some 12, false, none, .mov (.t 4)⟩,
       ⟨some 13, false, none, .bin .add (.u 12) (.c (.int .i64 1))⟩,
       ⟨some 4, true, none, .mov (.u 13)⟩]))))))
  (.seq (.seq (.region [⟨some 107, false, none, .iaA 3 17 (.t 3) (.c (.int .i64 0))⟩,
      ⟨some 108, false, none, .faddr 15 (.u 107)⟩,
      ⟨some 109, false, none, .load false 1 (.u 108)⟩,
      ⟨some 110, false, none, .mov (.u 109)⟩,
      ⟨some 111, false, some ((.u 110), false), .iaA 3 17 (.t 3) (.c (.int .i64 1))⟩,
      ⟨some 112, false, some ((.u 110), false), .faddr 15 (.u 111)⟩,
      ⟨some 113, false, some ((.u 110), false), .load false 1 (.u 112)⟩,
      ⟨some 114, false, none, .pick (.u 110) (.c (.bool true)) (.u 113)⟩,
      ⟨some 115, false, none, .mov (.u 114)⟩,
      ⟨some 116, false, some ((.u 115), false), .iaA 3 17 (.t 3) (.c (.int .i64 2))⟩,
      ⟨some 117, false, some ((.u 115), false), .faddr 15 (.u 116)⟩,
      ⟨some 118, false, some ((.u 115), false), .load false 1 (.u 117)⟩,
      ⟨some 119, false, some ((.u 115), false), .iaA 3 17 (.t 3) (.c (.int .i64 2))⟩,
      ⟨some 120, false, some ((.u 115), false), .faddr 14 (.u 119)⟩,
      ⟨some 121, false, some ((.u 115), false), .load false 1 (.u 120)⟩,
      ⟨some 122, false, some ((.u 115), false), .bin .gtr (.u 121) (.c (.int .i64 0))⟩,
      ⟨some 123, false, some ((.u 115), false), .eqB true (.u 118) (.u 122)⟩,
      ⟨some 124, false, none, .pick (.u 115) (.c (.bool true)) (.u 123)⟩,
      ⟨some 125, false, none, .mov (.u 124)⟩,
      ⟨some 126, false, some ((.u 125), false), .iaA 3 17 (.t 3) (.c (.int .i64 0))⟩,
      ⟨some 127, false, some ((.u 125), false), .faddr 16 (.u 126)⟩,
      ⟨some 128, false, some ((.u 125), false), .load false 1 (.u 127)⟩,
      ⟨some 129, false, some ((.u 125), false), .lenL (.u 128)⟩,
      ⟨some 130, false, some ((.u 125), false), .bin .gtr (.u 129) (.c (.int .i64 0))⟩,
      ⟨some 131, false, none, .pick (.u 125) (.c (.bool true)) (.u 130)⟩,
      ⟨some 132, false, none, .mov (.u 131)⟩,
      ⟨some 133, false, some ((.u 132), false), .iaA 3 17 (.t 3) (.c (.int .i64 2))⟩,
      ⟨some 134, false, some ((.u 132), false), .faddr 16 (.u 133)⟩,
      ⟨some 135, false, some ((.u 132), false), .load false 1 (.u 134)⟩,
      ⟨some 136, false, some ((.u 132), false), .lenL (.u 135)⟩,
      ⟨some 137, false, some ((.u 132), false), .bin .gtr (.u 136) (.c (.int .i64 0))⟩,
      ⟨some 138, false, none, .pick (.u 132) (.c (.bool true)) (.u 137)⟩,
      ⟨some 139, false, none, .mov (.u 138)⟩,
      ⟨some 140, false, some ((.u 139), false), .iaA 3 17 (.t 3) (.c (.int .i64 1))⟩,
      ⟨some 141, false, some ((.u 139), false), .faddr 16 (.u 140)⟩,
      ⟨some 142, false, some ((.u 139), false), .load false 1 (.u 141)⟩,
      ⟨some 143, false, some ((.u 139), false), .lenL (.u 142)⟩,
      ⟨some 144, false, some ((.u 139), false), .iaA 3 17 (.t 3) (.c (.int .i64 1))⟩,
      ⟨some 145, false, some ((.u 139), false), .faddr 14 (.u 144)⟩,
      ⟨some 146, false, some ((.u 139), false), .load false 1 (.u 145)⟩,
      ⟨some 147, false, some ((.u 139), false), .mm false (.c (.int .i64 16)) [(.u 146)]⟩,
      ⟨some 148, false, some ((.u 139), false), .bin .neq (.u 143) (.u 147)⟩,
      ⟨some 149, true, none, .pick (.u 139) (.c (.bool true)) (.u 148)⟩])
   (.cond (.t 149)
    (.seq (.region [⟨some 2, true, none, .mov (.c (.bool false))⟩])
    (.ret))
    (.skip)))
  (.seq (.seq (.region [⟨some 9, true, none, .mov (.c (.int .i64 0))⟩])
   (.block 5 (.loop (.seq (.seq (.region [⟨some 150, false, none, .mov (.t 9)⟩,
         ⟨some 151, true, none, .bin .lss (.u 150) (.c (.int .i64 3))⟩])
      (.cond (.t 151)
       (.skip)
       (.exit 5)))
     (.seq (.block 6 (.region [⟨some 154, false, none, .mov (.t 9)⟩,
         ⟨some 155, false, none, .mov (.t 9)⟩,
         ⟨some 156, false, none, .mov (.t 9)⟩,
         ⟨some 157, false, none, .iaA 3 17 (.t 3) (.u 154)⟩,
         ⟨some 158, false, none, .faddr 2 (.u 157)⟩,
         ⟨none, true, none, .store 1 (.u 158) (.c (.int .i64 0))⟩,
         ⟨some 159, false, none, .iaA 3 17 (.t 3) (.u 155)⟩,
         ⟨some 160, false, none, .faddr 16 (.u 159)⟩,
         ⟨none, true, none, .store 1 (.u 160) (.c (.fsl 1 0 []))⟩,
         ⟨some 161, false, none, .iaA 3 17 (.t 3) (.u 156)⟩,
         ⟨some 162, false, none, .faddr 15 (.u 161)⟩,
         ⟨none, true, none, .store 1 (.u 162) (.c (.bool false))⟩]))
     (.region [⟨some 152, false, none, .mov (.t 9)⟩,
       ⟨some 153, false, none, .bin .add (.u 152) (.c (.int .i64 1))⟩,
       ⟨some 9, true, none, .mov (.u 153)⟩]))))))
  (.seq (.region [⟨some 163, false, none, .iaA 3 17 (.t 3) (.c (.int .i64 0))⟩,
     ⟨some 164, false, none, .load true 17 (.u 163)⟩,
     ⟨some 165, false, none, .iaA 3 17 (.t 3) (.c (.int .i64 1))⟩,
     ⟨some 166, false, none, .load true 17 (.u 165)⟩,
     ⟨some 167, false, none, .call 18 [(.u 164), (.u 166)]⟩,
     ⟨some 168, false, none, .mov (.u 167)⟩,
     ⟨some 169, false, some ((.u 168), true), .iaA 3 17 (.t 3) (.c (.int .i64 1))⟩,
     ⟨some 170, false, some ((.u 168), true), .load true 17 (.u 169)⟩,
     ⟨some 171, false, some ((.u 168), true), .iaA 3 17 (.t 3) (.c (.int .i64 2))⟩,
     ⟨some 172, false, some ((.u 168), true), .load true 17 (.u 171)⟩,
     ⟨some 173, false, some ((.u 168), true), .call 18 [(.u 170), (.u 172)]⟩,
     ⟨some 174, false, none, .pick (.u 168) (.u 173) (.c (.bool false))⟩,
     ⟨some 175, false, none, .mov (.u 174)⟩,
     ⟨some 176, false, some ((.u 175), true), .call 19 []⟩,
     ⟨some 177, false, none, .pick (.u 175) (.u 176) (.c (.bool false))⟩,
     ⟨some 2, true, none, .mov (.u 177)⟩])
  (.ret))))))
def r9 : List LRes := [.slot 2]
theorem t9 : (Try.f9.body.bind (trCode v9 Try.prog Try.f9.ntmps)) = some c9 ∧ trRes v9 Try.prog Try.f9.results.toList = some r9 := ⟨by kernel_rfl, by kernel_rfl⟩


end Go.Proofs.Ytofpepjehiohcaa
