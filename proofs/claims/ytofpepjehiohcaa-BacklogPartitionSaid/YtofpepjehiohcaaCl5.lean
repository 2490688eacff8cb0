/- The functions' bodies as the engine reads them; written by program out of the translation, checked by the kernel. -/
import Derived.Test.YtofpepjehiohcaaProg
import Derived.Test.YtofpepjehiohcaaLxL
import Derived.KernelRfl
namespace Go.Proofs.Ytofpepjehiohcaa
open Go Go.Lx
set_option maxRecDepth 100000
def v5 : Nat → Bool := fun t => [0, 2, 3, 4, 5, 6, 7, 8, 9, 10, 11, 12, 14, 16, 17, 18, 19, 25, 31, 43, 61, 72, 93, 105, 120, 146, 161, 173, 180].contains t
def c5 : LCode :=
  .seq (.region [⟨some 2, true, none, .mov (.c (.bool false))⟩])
  (.seq (.region [⟨some 20, false, none, .mov (.t 0)⟩,
     ⟨some 21, false, none, .call 10 [(.u 20)]⟩,
     ⟨some 3, true, none, .mov (.u 21)⟩])
  (.seq (.region [⟨some 22, false, none, .mov (.t 3)⟩,
     ⟨some 23, false, none, .call 20 [(.u 22)]⟩,
     ⟨some 4, true, none, .mov (.u 23)⟩])
  (.seq (.seq (.region [⟨some 5, true, none, .mov (.c (.int .i64 0))⟩])
   (.block 0 (.loop (.seq (.seq (.region [⟨some 24, false, none, .mov (.t 5)⟩,
         ⟨some 25, true, none, .bin .lss (.u 24) (.c (.int .i64 40))⟩])
      (.cond (.t 25)
       (.skip)
       (.exit 0)))
     (.seq (.block 1 (.seq (.region [⟨some 28, false, none, .mov (.t 4)⟩,
          ⟨some 29, false, none, .mov (.t 3)⟩,
          ⟨some 30, false, none, .call 21 [(.u 28), (.u 29)]⟩,
          ⟨some 31, true, none, .un .not (.u 30)⟩])
       (.cond (.t 31)
        (.seq (.region [⟨some 2, true, none, .mov (.c (.bool false))⟩])
        (.ret))
        (.skip))))
     (.region [⟨some 26, false, none, .mov (.t 5)⟩,
       ⟨some 27, false, none, .bin .add (.u 26) (.c (.int .i64 1))⟩,
       ⟨some 5, true, none, .mov (.u 27)⟩]))))))
  (.seq (.region [⟨some 32, false, none, .mov (.t 4)⟩,
     ⟨some 33, false, none, .call 22 [(.u 32)]⟩])
  (.seq (.seq (.regionD [⟨0, [4], false, [], ⟨some 34, false, none, .mov (.t 4)⟩⟩,
      ⟨1, [34], false, [], ⟨some 35, false, none, .nilc (.u 34)⟩⟩,
      ⟨2, [35], false, [], ⟨some 36, false, none, .faddr 0 (.u 35)⟩⟩,
      ⟨3, [36], true, [], ⟨some 37, false, none, .load true 17 (.u 36)⟩⟩,
      ⟨4, [4], false, [], ⟨some 38, false, none, .mov (.t 4)⟩⟩,
      ⟨5, [38], false, [], ⟨some 39, false, none, .nilc (.u 38)⟩⟩,
      ⟨6, [39], false, [], ⟨some 40, false, none, .faddr 17 (.u 39)⟩⟩,
      ⟨7, [40], true, [], ⟨some 41, false, none, .load true 17 (.u 40)⟩⟩,
      ⟨8, [37, 41], false, [], ⟨some 42, false, none, .call 18 [(.u 37), (.u 41)]⟩⟩,
      ⟨9, [42], false, [], ⟨some 43, true, none, .un .not (.u 42)⟩⟩])
   (.cond (.t 43)
    (.seq (.region [⟨some 2, true, none, .mov (.c (.bool false))⟩])
    (.ret))
    (.skip)))
  (.seq (.region [⟨some 44, false, none, .mov (.t 4)⟩,
     ⟨some 45, false, none, .nilc (.u 44)⟩,
     ⟨some 46, false, none, .faddr 0 (.u 45)⟩,
     ⟨some 47, false, none, .load true 17 (.u 46)⟩,
     ⟨some 6, true, none, .zero [.int .i64 0, .int .i64 0, .int .i64 0, .int .i64 0, .int .i64 0, .fsl 1 0 [], .fsl 1 0 [], .int .i64 0, .int .i64 0, .int .i64 0, .int .i64 0, .int .i64 0, .int .i64 0, .int .i64 0, .int .i64 0, .bool false, .fsl 1 0 []]⟩,
     ⟨none, true, none, .store 17 (.t 6) (.u 47)⟩])
  (.seq (.seq (.region [⟨some 48, false, none, .faddr 7 (.t 6)⟩,
      ⟨some 49, false, none, .load true 5 (.u 48)⟩,
      ⟨some 50, false, none, .build [.int .i64 0, .int .i64 0, .int .i64 0, .int .i64 0, .int .i64 0] []⟩,
      ⟨some 51, false, none, .eqS true 5 [(0, 1), (1, 1), (2, 1), (3, 1), (4, 1)] (.u 49) (.u 50)⟩,
      ⟨some 52, false, none, .mov (.u 51)⟩,
      ⟨some 53, false, some ((.u 52), false), .faddr 3 (.t 6)⟩,
      ⟨some 54, false, some ((.u 52), false), .load false 1 (.u 53)⟩,
      ⟨some 55, false, some ((.u 52), false), .bin .lss (.u 54) (.c (.int .i64 0))⟩,
      ⟨some 56, false, none, .pick (.u 52) (.c (.bool true)) (.u 55)⟩,
      ⟨some 57, false, none, .mov (.u 56)⟩,
      ⟨some 58, false, some ((.u 57), false), .faddr 3 (.t 6)⟩,
      ⟨some 59, false, some ((.u 57), false), .load false 1 (.u 58)⟩,
      ⟨some 60, false, some ((.u 57), false), .bin .gtr (.u 59) (.c (.int .i64 200))⟩,
      ⟨some 61, true, none, .pick (.u 57) (.c (.bool true)) (.u 60)⟩])
   (.cond (.t 61)
    (.seq (.region [⟨some 2, true, none, .mov (.c (.bool false))⟩])
    (.ret))
    (.skip)))
  (.seq (.region [⟨some 62, false, none, .faddr 3 (.t 6)⟩,
     ⟨some 63, false, none, .load false 1 (.u 62)⟩,
     ⟨some 64, false, none, .bin .add (.u 63) (.c (.int .i64 1))⟩,
     ⟨some 65, false, none, .make 1 8 [.int .i64 0] (.u 64) (.u 64)⟩,
     ⟨some 7, true, none, .mov (.u 65)⟩])
  (.seq (.seq (.region [⟨some 8, true, none, .mov (.c (.int .i64 0))⟩])
   (.block 2 (.loop (.seq (.seq (.region [⟨some 66, false, none, .mov (.t 8)⟩,
         ⟨some 67, false, none, .mov (.t 4)⟩,
         ⟨some 68, false, none, .nilc (.u 67)⟩,
         ⟨some 69, false, none, .faddr 37 (.u 68)⟩,
         ⟨some 70, false, none, .load false 1 (.u 69)⟩,
         ⟨some 71, false, none, .lenL (.u 70)⟩,
         ⟨some 72, true, none, .bin .lss (.u 66) (.u 71)⟩])
      (.cond (.t 72)
       (.skip)
       (.exit 2)))
     (.seq (.block 3 (.region [⟨some 75, false, none, .mov (.t 7)⟩,
         ⟨some 76, false, none, .mov (.t 4)⟩,
         ⟨some 77, false, none, .nilc (.u 76)⟩,
         ⟨some 78, false, none, .faddr 37 (.u 77)⟩,
         ⟨some 79, false, none, .load false 1 (.u 78)⟩,
         ⟨some 80, false, none, .mov (.t 8)⟩,
         ⟨some 81, false, none, .iaS 1 (.u 79) (.u 80)⟩,
         ⟨some 82, false, none, .load false 1 (.u 81)⟩,
         ⟨some 83, false, none, .iaS 1 (.u 75) (.u 82)⟩,
         ⟨some 84, false, none, .load false 1 (.u 83)⟩,
         ⟨some 85, false, none, .bin .add (.u 84) (.c (.int .i64 1))⟩,
         ⟨some 86, false, none, .iaS 1 (.u 75) (.u 82)⟩,
         ⟨none, true, none, .store 1 (.u 86) (.u 85)⟩]))
     (.region [⟨some 73, false, none, .mov (.t 8)⟩,
       ⟨some 74, false, none, .bin .add (.u 73) (.c (.int .i64 1))⟩,
       ⟨some 8, true, none, .mov (.u 74)⟩]))))))
  (.seq (.region [⟨some 9, true, none, .mov (.c (.int .i64 0))⟩])
  (.seq (.seq (.region [⟨some 10, true, none, .mov (.c (.int .i64 0))⟩])
   (.block 4 (.loop (.seq (.seq (.region [⟨some 87, false, none, .mov (.t 10)⟩,
         ⟨some 88, false, none, .mov (.t 4)⟩,
         ⟨some 89, false, none, .nilc (.u 88)⟩,
         ⟨some 90, false, none, .faddr 36 (.u 89)⟩,
         ⟨some 91, false, none, .load false 1 (.u 90)⟩,
         ⟨some 92, false, none, .lenL (.u 91)⟩,
         ⟨some 93, true, none, .bin .lss (.u 87) (.u 92)⟩])
      (.cond (.t 93)
       (.skip)
       (.exit 4)))
     (.seq (.block 5 (.seq (.region [⟨some 96, false, none, .mov (.t 4)⟩,
          ⟨some 97, false, none, .nilc (.u 96)⟩,
          ⟨some 98, false, none, .faddr 36 (.u 97)⟩,
          ⟨some 99, false, none, .load false 1 (.u 98)⟩,
          ⟨some 100, false, none, .mov (.t 10)⟩,
          ⟨some 101, false, none, .iaS 4 (.u 99) (.u 100)⟩,
          ⟨some 102, false, none, .load true 4 (.u 101)⟩,
          ⟨some 11, true, none, .zero [.int .i64 0, .int .i64 0, .int .i64 0, .fsl 1 0 []]⟩,
          ⟨none, true, none, .store 4 (.t 11) (.u 102)⟩])
       (.seq (.seq (.region [⟨some 103, false, none, .faddr 0 (.t 11)⟩,
           ⟨some 104, false, none, .load false 1 (.u 103)⟩,
           ⟨some 105, true, none, .bin .neq (.u 104) (.c (.int .i64 1331))⟩])
        (.cond (.t 105)
         (.exit 5)
         (.skip)))
       (.seq (.region [⟨some 107, false, none, .load true 4 (.t 11)⟩,
          ⟨some 108, false, none, .call 23 [(.u 107), (.c (.str [102, 105, 114, 115, 116]))]⟩,
          ⟨some 106, false, none, .mov (.u 108)⟩,
          ⟨some 109, false, none, .ext (.u 106) 0⟩,
          ⟨some 110, false, none, .ext (.u 106) 1⟩,
          ⟨some 12, true, none, .zero [.str [], .int .i64 0, .int .i64 0, .str []]⟩,
          ⟨none, true, none, .store 4 (.t 12) (.u 109)⟩,
          ⟨some 13, false, none, .mov (.u 110)⟩])
       (.seq (.region [⟨some 112, false, none, .load true 4 (.t 11)⟩,
          ⟨some 113, false, none, .call 23 [(.u 112), (.c (.str [108, 97, 115, 116]))]⟩,
          ⟨some 111, false, none, .mov (.u 113)⟩,
          ⟨some 114, false, none, .ext (.u 111) 0⟩,
          ⟨some 115, false, none, .ext (.u 111) 1⟩,
          ⟨some 14, true, none, .zero [.str [], .int .i64 0, .int .i64 0, .str []]⟩,
          ⟨none, true, none, .store 4 (.t 14) (.u 114)⟩,
          ⟨some 15, false, none, .mov (.u 115)⟩])
       (.seq (.region [⟨some 16, true, none, .mov (.c (.int .i64 0))⟩])
       (.seq (.seq (.region [⟨some 17, true, none, .mov (.c (.int .i64 2))⟩])
        (.block 6 (.loop (.seq (.seq (.region [⟨some 116, false, none, .mov (.t 17)⟩,
              ⟨some 117, false, none, .faddr 3 (.t 11)⟩,
              ⟨some 118, false, none, .load false 1 (.u 117)⟩,
              ⟨some 119, false, none, .lenL (.u 118)⟩,
              ⟨some 120, true, none, .bin .lss (.u 116) (.u 119)⟩])
           (.cond (.t 120)
            (.skip)
            (.exit 6)))
          (.seq (.block 7 (.region [⟨some 123, false, none, .mov (.t 16)⟩,
              ⟨some 124, false, none, .faddr 3 (.t 11)⟩,
              ⟨some 125, false, none, .load false 1 (.u 124)⟩,
              ⟨some 126, false, none, .mov (.t 17)⟩,
              ⟨some 127, false, none, .iaS 4 (.u 125) (.u 126)⟩,
              ⟨some 128, false, none, .faddr 2 (.u 127)⟩,
              ⟨some 129, false, none, .load false 1 (.u 128)⟩,
              ⟨some 130, false, none, .bin .add (.u 123) (.u 129)⟩,
              ⟨some 16, true, none, .mov (.u 130)⟩]))
          (.region [⟨some 121, false, none, .mov (.t 17)⟩,
            ⟨some 122, false, none, .bin .add (.u 121) (.c (.int .i64 1))⟩,
            ⟨some 17, true, none, .mov (.u 122)⟩]))))))
       (.seq (.seq (.region [⟨some 131, false, none, .faddr 2 (.t 14)⟩,
           ⟨some 132, false, none, .load false 1 (.u 131)⟩,
           ⟨some 133, false, none, .faddr 2 (.t 11)⟩,
           ⟨some 134, false, none, .load false 1 (.u 133)⟩,
           ⟨some 135, false, none, .bin .sub (.u 134) (.c (.int .i64 1))⟩,
           ⟨some 136, false, none, .bin .neq (.u 132) (.u 135)⟩,
           ⟨some 137, false, none, .mov (.u 136)⟩,
           ⟨some 138, false, some ((.u 137), false), .mov (.t 16)⟩,
           ⟨some 139, false, some ((.u 137), false), .faddr 2 (.t 14)⟩,
           ⟨some 140, false, some ((.u 137), false), .load false 1 (.u 139)⟩,
           ⟨some 141, false, some ((.u 137), false), .faddr 2 (.t 12)⟩,
           ⟨some 142, false, some ((.u 137), false), .load false 1 (.u 141)⟩,
           ⟨some 143, false, some ((.u 137), false), .bin .sub (.u 140) (.u 142)⟩,
           ⟨some 144, false, some ((.u 137), false), .bin .add (.u 143) (.c (.int .i64 1))⟩,
           ⟨some 145, false, some ((.u 137), false), .bin .neq (.u 138) (.u 144)⟩,
           ⟨some 146, true, none, .pick (.u 137) (.c (.bool true)) (.u 145)⟩])
        (.cond (.t 146)
         (.seq (.region [⟨some 2, true, none, .mov (.c (.bool false))⟩])
         (.ret))
         (.skip)))
       (.seq (.region [⟨some 147, false, none, .mov (.t 9)⟩,
          ⟨some 148, false, none, .mov (.t 16)⟩,
          ⟨some 149, false, none, .bin .add (.u 147) (.u 148)⟩,
          ⟨some 9, true, none, .mov (.u 149)⟩])
       (.seq (.region [⟨some 150, false, none, .faddr 2 (.t 12)⟩,
          ⟨some 151, false, none, .load false 1 (.u 150)⟩,
          ⟨some 18, true, none, .mov (.u 151)⟩])
       (.block 8 (.loop (.seq (.seq (.region [⟨some 152, false, none, .mov (.t 18)⟩,
             ⟨some 153, false, none, .faddr 2 (.t 11)⟩,
             ⟨some 154, false, none, .load false 1 (.u 153)⟩,
             ⟨some 155, false, none, .bin .leq (.u 152) (.u 154)⟩,
             ⟨some 156, false, none, .mov (.u 155)⟩,
             ⟨some 157, false, some ((.u 156), true), .mov (.t 18)⟩,
             ⟨some 158, false, some ((.u 156), true), .mov (.t 7)⟩,
             ⟨some 159, false, some ((.u 156), true), .lenL (.u 158)⟩,
             ⟨some 160, false, some ((.u 156), true), .bin .lss (.u 157) (.u 159)⟩,
             ⟨some 161, true, none, .pick (.u 156) (.u 160) (.c (.bool false))⟩])
          (.cond (.t 161)
           (.skip)
           (.exit 8)))
         (.seq (.block 9 (.region [⟨some 164, false, none, .mov (.t 7)⟩,
             ⟨some 165, false, none, .mov (.t 18)⟩,
             ⟨some 166, false, none, .iaS 1 (.u 164) (.u 165)⟩,
             ⟨some 167, false, none, .load false 1 (.u 166)⟩,
             ⟨some 168, false, none, .bin .add (.u 167) (.c (.int .i64 1))⟩,
             ⟨some 169, false, none, .iaS 1 (.u 164) (.u 165)⟩,
             ⟨none, true, none, .store 1 (.u 169) (.u 168)⟩]))
         (.region [⟨some 162, false, none, .mov (.t 18)⟩,
           ⟨some 163, false, none, .bin .add (.u 162) (.c (.int .i64 1))⟩,
           ⟨some 18, true, none, .mov (.u 163)⟩])))))))))))))))
     (.region [⟨some 94, false, none, .mov (.t 10)⟩,
       ⟨some 95, false, none, .bin .add (.u 94) (.c (.int .i64 1))⟩,
       ⟨some 10, true, none, .mov (.u 95)⟩]))))))
  (.seq (.seq (.region [⟨some 19, true, none, .mov (.c (.int .i64 1))⟩])
   (.block 10 (.loop (.seq (.seq (.region [⟨some 170, false, none, .mov (.t 19)⟩,
         ⟨some 171, false, none, .faddr 3 (.t 6)⟩,
         ⟨some 172, false, none, .load false 1 (.u 171)⟩,
         ⟨some 173, true, none, .bin .leq (.u 170) (.u 172)⟩])
      (.cond (.t 173)
       (.skip)
       (.exit 10)))
     (.seq (.block 11 (.seq (.region [⟨some 176, false, none, .mov (.t 7)⟩,
          ⟨some 177, false, none, .mov (.t 19)⟩,
          ⟨some 178, false, none, .iaS 1 (.u 176) (.u 177)⟩,
          ⟨some 179, false, none, .load false 1 (.u 178)⟩,
          ⟨some 180, true, none, .bin .neq (.u 179) (.c (.int .i64 1))⟩])
       (.cond (.t 180)
        (.seq (.region [⟨some 2, true, none, .mov (.c (.bool false))⟩])
        (.ret))
        (.skip))))
     (.region [⟨some 174, false, none, .mov (.t 19)⟩,
       ⟨some 175, false, none, .bin .add (.u 174) (.c (.int .i64 1))⟩,
       ⟨some 19, true, none, .mov (.u 175)⟩]))))))
  (.seq (.region [⟨some 181, false, none, .mov (.t 9)⟩,
     ⟨some 182, false, none, .faddr 14 (.t 6)⟩,
     ⟨some 183, false, none, .load false 1 (.u 182)⟩,
     ⟨some 184, false, none, .bin .eql (.u 181) (.u 183)⟩,
     ⟨some 185, false, none, .mov (.u 184)⟩,
     ⟨some 186, false, some ((.u 185), true), .call 19 []⟩,
     ⟨some 187, false, none, .pick (.u 185) (.u 186) (.c (.bool false))⟩,
     ⟨some 2, true, none, .mov (.u 187)⟩])
  (.ret))))))))))))))
def r5 : List LRes := [.slot 2]
theorem t5 : (Try.f5.body.bind (trCode v5 Try.prog Try.f5.ntmps)) = some c5 ∧ trRes v5 Try.prog Try.f5.results.toList = some r5 := ⟨by kernel_rfl, by kernel_rfl⟩


end Go.Proofs.Ytofpepjehiohcaa
