/- The functions' bodies as the engine reads them; written by program out of the translation, checked by the kernel. -/
import Derived.Test.YtcngkeeknlloaaaProg
import Derived.Test.YtcngkeeknlloaaaLxL
import Derived.KernelRfl
namespace Go.Proofs.Ytcngkeeknlloaaa
open Go Go.Lx
set_option maxRecDepth 100000
def v8 : Nat → Bool := fun t => [0, 2, 3, 4, 6, 7, 8, 9, 10, 11, 12, 13, 14, 15, 16, 17, 18, 19, 20, 21, 35, 70, 96, 130, 147, 1000001].contains t
def c8 : LCode :=
  .seq (.region [⟨some 2, true, none, .mov (.c (.bool false))⟩])
  (.seq (.region [⟨some 22, false, none, .mov (.t 0)⟩,
     ⟨some 23, false, none, .call 11 [(.u 22)]⟩,
     ⟨some 3, true, none, .mov (.u 23)⟩])
  (.seq (.region [⟨some 25, false, none, .mov (.t 3)⟩,
     ⟨some 26, false, none, .call 12 [(.u 25), (.c (.int .i64 4))]⟩,
     ⟨some 24, false, none, .mov (.u 26)⟩,
     ⟨some 27, false, none, .ext (.u 24) 0⟩,
     ⟨some 28, false, none, .ext (.u 24) 1⟩,
     ⟨some 4, true, none, .mov (.u 27)⟩,
     ⟨some 5, false, none, .mov (.u 28)⟩])
  (.seq (.region [⟨some 29, false, none, .build [.int .i64 0, .int .i64 0, .int .i64 0, .str [], .int .i64 0] [(0, 1, (.c (.int .i64 1))), (1, 1, (.c (.int .i64 1))), (2, 1, (.c (.int .i64 (-1))))]⟩,
     ⟨some 30, false, none, .mkS 5 1 [.int .i64 0, .int .i64 0, .int .i64 0, .str [], .int .i64 0] [(0, 5, (.u 29))]⟩,
     ⟨some 31, false, none, .build [.int .i64 0, .int .i64 0, .int .u64 0, .fsl 1 0 [], .int .i64 0, .str [], .int .i64 0, .str []] [(0, 1, (.c (.int .i64 3))), (1, 1, (.c (.int .i64 1))), (2, 1, (.c (.int .u64 1))), (3, 1, (.u 30))]⟩,
     ⟨some 6, true, none, .zero [.int .i64 0, .int .i64 0, .int .u64 0, .fsl 1 0 [], .int .i64 0, .str [], .int .i64 0, .str []]⟩,
     ⟨none, true, none, .store 8 (.t 6) (.u 31)⟩])
  (.seq (.region [⟨some 7, true, none, .mov (.c (.fsl 1 0 []))⟩])
  (.seq (.seq (.region [⟨some 8, true, none, .mov (.c (.int .i64 0))⟩])
   (.block 0 (.loop (.seq (.seq (.region [⟨some 32, false, none, .mov (.t 8)⟩,
         ⟨some 33, false, none, .mov (.t 4)⟩,
         ⟨some 34, false, none, .lenL (.u 33)⟩,
         ⟨some 35, true, none, .bin .lss (.u 32) (.u 34)⟩])
      (.cond (.t 35)
       (.skip)
       (.exit 0)))
     (.seq (.block 1 (.seq (.region [⟨some 38, false, none, .mov (.t 4)⟩,
          ⟨some 39, false, none, .mov (.t 8)⟩,
          ⟨some 40, false, none, .mov (.t 4)⟩,
          ⟨some 41, false, none, .mov (.t 8)⟩,
          ⟨some 42, false, none, .mov (.t 4)⟩,
          ⟨some 43, false, none, .mov (.t 8)⟩,
          ⟨some 44, false, none, .iaS 8 (.u 38) (.u 39)⟩,
          ⟨some 45, false, none, .faddr 4 (.u 44)⟩,
          ⟨none, true, none, .store 1 (.u 45) (.c (.int .i64 0))⟩,
          ⟨some 46, false, none, .iaS 8 (.u 40) (.u 41)⟩,
          ⟨some 47, false, none, .faddr 5 (.u 46)⟩,
          ⟨none, true, none, .store 1 (.u 47) (.c (.str []))⟩,
          ⟨some 48, false, none, .iaS 8 (.u 42) (.u 43)⟩,
          ⟨some 49, false, none, .faddr 6 (.u 48)⟩,
          ⟨none, true, none, .store 1 (.u 49) (.c (.int .i64 0))⟩])
       (.region [⟨some 50, false, none, .mov (.t 7)⟩,
         ⟨some 51, false, none, .mov (.t 4)⟩,
         ⟨some 52, false, none, .mov (.t 8)⟩,
         ⟨some 53, false, none, .iaS 8 (.u 51) (.u 52)⟩,
         ⟨some 54, false, none, .faddr 3 (.u 53)⟩,
         ⟨some 55, false, none, .load false 1 (.u 54)⟩,
         ⟨some 56, false, none, .appF 5 48 (.u 50) (.u 55)⟩,
         ⟨some 7, true, none, .mov (.u 56)⟩])))
     (.region [⟨some 36, false, none, .mov (.t 8)⟩,
       ⟨some 37, false, none, .bin .add (.u 36) (.c (.int .i64 1))⟩,
       ⟨some 8, true, none, .mov (.u 37)⟩]))))))
  (.seq (.region [⟨some 57, false, none, .faddr 3 (.t 6)⟩,
     ⟨some 58, false, none, .load false 1 (.u 57)⟩,
     ⟨some 59, false, none, .mov (.t 7)⟩,
     ⟨some 60, false, none, .appF 5 48 (.u 58) (.u 59)⟩,
     ⟨some 61, false, none, .faddr 3 (.t 6)⟩,
     ⟨none, true, none, .store 1 (.u 61) (.u 60)⟩])
  (.seq (.region [⟨some 62, false, none, .load true 8 (.t 6)⟩,
     ⟨some 63, false, none, .mkS 8 1 [.int .i64 0, .int .i64 0, .int .u64 0, .fsl 1 0 [], .int .i64 0, .str [], .int .i64 0, .str []] [(0, 8, (.u 62))]⟩,
     ⟨some 64, false, none, .mov (.t 4)⟩,
     ⟨some 65, false, none, .appF 8 96 (.u 63) (.u 64)⟩,
     ⟨some 9, true, none, .mov (.u 65)⟩])
  (.seq (.region [⟨some 66, false, none, .mov (.t 9)⟩,
     ⟨some 67, false, none, .appF 8 96 (.c (.fsl 1 0 [])) (.u 66)⟩,
     ⟨some 10, true, none, .mov (.u 67)⟩])
  (.seq (.seq (.region [⟨some 68, false, none, .mov (.t 10)⟩,
      ⟨some 69, false, none, .lenL (.u 68)⟩,
      ⟨some 70, true, none, .bin .gtr (.u 69) (.c (.int .i64 2))⟩])
   (.cond (.t 70)
    (.seq (.region [⟨some 71, false, none, .mov (.t 3)⟩,
       ⟨some 72, false, none, .mov (.t 10)⟩,
       ⟨some 73, false, none, .lenL (.u 72)⟩,
       ⟨some 74, false, none, .bin .sub (.u 73) (.c (.int .i64 1))⟩,
       ⟨some 75, false, none, .call 21 [(.u 71), (.u 74)]⟩,
       ⟨some 76, false, none, .bin .add (.c (.int .i64 1)) (.u 75)⟩,
       ⟨some 11, true, none, .mov (.u 76)⟩])
    (.regionD [⟨0, [10], false, [], ⟨some 77, false, none, .mov (.t 10)⟩⟩,
      ⟨1, [11], false, [], ⟨some 78, false, none, .mov (.t 11)⟩⟩,
      ⟨2, [10], false, [], ⟨some 79, false, none, .mov (.t 10)⟩⟩,
      ⟨3, [11], false, [], ⟨some 80, false, none, .mov (.t 11)⟩⟩,
      ⟨4, [79, 80], false, [], ⟨some 81, false, none, .iaS 8 (.u 79) (.u 80)⟩⟩,
      ⟨5, [81], false, [], ⟨some 82, false, none, .faddr 3 (.u 81)⟩⟩,
      ⟨6, [82], true, [], ⟨some 83, false, none, .load false 1 (.u 82)⟩⟩,
      ⟨8, [7], false, [], ⟨some 85, false, none, .mov (.t 7)⟩⟩,
      ⟨9, [7], false, [], ⟨some 86, false, none, .mov (.t 7)⟩⟩,
      ⟨10, [86], false, [], ⟨some 87, false, none, .lenL (.u 86)⟩⟩,
      ⟨11, [87], false, [], ⟨some 88, false, none, .mm false (.c (.int .i64 1)) [(.u 87)]⟩⟩,
      ⟨12, [85, 88], false, [], ⟨some 89, false, none, .slL 5 (.u 85) none (some (.u 88)) none⟩⟩,
      ⟨7, [83], false, [], ⟨some 84, false, none, .appF 5 48 (.c (.fsl 1 0 [])) (.u 83)⟩⟩,
      ⟨13, [84, 89], false, [], ⟨some 90, false, none, .appF 5 48 (.u 84) (.u 89)⟩⟩,
      ⟨14, [77, 78], false, [], ⟨some 91, false, none, .iaS 8 (.u 77) (.u 78)⟩⟩,
      ⟨15, [91], false, [], ⟨some 92, false, none, .faddr 3 (.u 91)⟩⟩,
      ⟨16, [92, 90], false, [], ⟨none, true, none, .store 1 (.u 92) (.u 90)⟩⟩]))
    (.skip)))
  (.seq (.region [⟨some 12, true, none, .mov (.c (.fsl 1 0 []))⟩])
  (.seq (.seq (.region [⟨some 13, true, none, .mov (.c (.int .i64 0))⟩])
   (.block 2 (.loop (.seq (.seq (.region [⟨some 93, false, none, .mov (.t 13)⟩,
         ⟨some 94, false, none, .mov (.t 9)⟩,
         ⟨some 95, false, none, .lenL (.u 94)⟩,
         ⟨some 96, true, none, .bin .lss (.u 93) (.u 95)⟩])
      (.cond (.t 96)
       (.skip)
       (.exit 2)))
     (.seq (.block 3 (.region [⟨some 99, false, none, .mov (.t 12)⟩,
         ⟨some 100, false, none, .mov (.t 13)⟩,
         ⟨some 101, false, none, .mkS 1 1 [.int .i64 0] [(0, 1, (.u 100))]⟩,
         ⟨some 102, false, none, .appF 1 8 (.u 99) (.u 101)⟩,
         ⟨some 12, true, none, .mov (.u 102)⟩]))
     (.region [⟨some 97, false, none, .mov (.t 13)⟩,
       ⟨some 98, false, none, .bin .add (.u 97) (.c (.int .i64 1))⟩,
       ⟨some 13, true, none, .mov (.u 98)⟩]))))))
  (.seq (.region [⟨some 104, false, none, .mov (.t 9)⟩,
     ⟨some 105, false, none, .mov (.t 12)⟩,
     ⟨some 106, false, none, .call 16 [(.u 104), (.u 105)]⟩,
     ⟨some 103, false, none, .mov (.u 106)⟩,
     ⟨some 107, false, none, .ext (.u 103) 0⟩,
     ⟨some 108, false, none, .ext (.u 103) 1⟩,
     ⟨some 14, true, none, .zero [.fsl 1 0 [], .fsl 1 0 [], .int .i64 0]⟩,
     ⟨none, true, none, .store 3 (.t 14) (.u 107)⟩,
     ⟨some 15, true, none, .mov (.u 108)⟩])
  (.seq (.region [⟨some 110, false, none, .mov (.t 10)⟩,
     ⟨some 111, false, none, .mov (.t 12)⟩,
     ⟨some 112, false, none, .call 16 [(.u 110), (.u 111)]⟩,
     ⟨some 109, false, none, .mov (.u 112)⟩,
     ⟨some 113, false, none, .ext (.u 109) 0⟩,
     ⟨some 114, false, none, .ext (.u 109) 1⟩,
     ⟨some 16, true, none, .zero [.fsl 1 0 [], .fsl 1 0 [], .int .i64 0]⟩,
     ⟨none, true, none, .store 3 (.t 16) (.u 113)⟩,
     ⟨some 17, true, none, .mov (.u 114)⟩])
  (.seq (.region [⟨some 116, false, none, .mov (.t 9)⟩,
     ⟨some 117, false, none, .mov (.t 12)⟩,
     ⟨some 118, false, none, .call 24 [(.u 116), (.u 117)]⟩,
     ⟨some 115, false, none, .mov (.u 118)⟩,
     ⟨some 119, false, none, .ext (.u 115) 0⟩,
     ⟨some 120, false, none, .ext (.u 115) 1⟩,
     ⟨some 18, true, none, .mov (.u 119)⟩,
     ⟨some 19, true, none, .mov (.u 120)⟩])
  (.seq (.seq (.region [⟨some 121, false, none, .mov (.t 15)⟩,
      ⟨some 122, false, none, .bin .neq (.u 121) (.c (.int .i64 0))⟩,
      ⟨some 123, false, none, .mov (.u 122)⟩,
      ⟨some 124, false, some ((.u 123), false), .mov (.t 17)⟩,
      ⟨some 125, false, some ((.u 123), false), .bin .neq (.u 124) (.c (.int .i64 0))⟩,
      ⟨some 126, false, none, .pick (.u 123) (.c (.bool true)) (.u 125)⟩,
      ⟨some 127, false, none, .mov (.u 126)⟩,
      ⟨some 128, false, some ((.u 127), false), .mov (.t 19)⟩,
      ⟨some 129, false, some ((.u 127), false), .bin .neq (.u 128) (.c (.int .i64 0))⟩,
      ⟨some 130, true, none, .pick (.u 127) (.c (.bool true)) (.u 129)⟩])
   (.cond (.t 130)
    (.seq (.region [⟨some 131, false, none, .mov (.t 15)⟩,
       ⟨some 132, false, none, .mov (.t 17)⟩,
       ⟨some 133, false, none, .bin .eql (.u 131) (.u 132)⟩,
       ⟨some 134, false, none, .mov (.u 133)⟩,
       ⟨some 135, false, some ((.u 134), true), .mov (.t 15)⟩,
       ⟨some 136, false, some ((.u 134), true), .mov (.t 19)⟩,
       ⟨some 137, false, some ((.u 134), true), .bin .eql (.u 135) (.u 136)⟩,
       ⟨some 138, false, none, .pick (.u 134) (.u 137) (.c (.bool false))⟩,
       ⟨some 139, false, none, .mov (.u 138)⟩,
       ⟨some 140, false, some ((.u 139), true), .call 14 []⟩,
       ⟨some 141, false, none, .pick (.u 139) (.u 140) (.c (.bool false))⟩,
       ⟨some 2, true, none, .mov (.u 141)⟩])
    (.ret))
    (.skip)))
  (.seq (.region [⟨some 20, true, none, .mov (.c (.bool true))⟩])
  (.seq (.seq (.region [⟨some 21, true, none, .mov (.c (.int .i64 0))⟩])
   (.block 4 (.loop (.seq (.seq (.region [⟨some 142, false, none, .mov (.t 21)⟩,
         ⟨some 143, false, none, .mov (.t 18)⟩,
         ⟨some 144, false, none, .lenL (.u 143)⟩,
         ⟨some 145, false, none, .conv .u64 (.u 144)⟩,
         ⟨some 146, false, none, .bin .shl (.c (.int .i64 1)) (.u 145)⟩,
         ⟨some 147, true, none, .bin .lss (.u 142) (.u 146)⟩])
      (.cond (.t 147)
       (.skip)
       (.exit 4)))
     (.seq (.block 5 (.region [⟨some 150, false, none, .mov (.t 20)⟩,
         ⟨some 151, false, none, .mov (.u 150)⟩,
         ⟨some 152, false, some ((.u 151), true), .mov (.t 9)⟩,
         ⟨some 153, false, some ((.u 151), true), .mov (.t 12)⟩,
         ⟨some 154, false, some ((.u 151), true), .mov (.t 18)⟩,
         ⟨some 155, false, some ((.u 151), true), .mov (.t 21)⟩,
         ⟨some 156, false, some ((.u 151), true), .call 25 [(.u 152), (.u 153), (.u 154), (.u 155)]⟩,
         ⟨some 157, false, some ((.u 151), true), .mov (.t 10)⟩,
         ⟨some 158, false, some ((.u 151), true), .mov (.t 12)⟩,
         ⟨some 159, false, some ((.u 151), true), .mov (.t 18)⟩,
         ⟨some 160, false, some ((.u 151), true), .mov (.t 21)⟩,
         ⟨some 161, false, some ((.u 151), true), .call 25 [(.u 157), (.u 158), (.u 159), (.u 160)]⟩,
         ⟨some 162, false, some ((.u 151), true), .bin .eql (.u 156) (.u 161)⟩,
         ⟨some 163, false, none, .pick (.u 151) (.u 162) (.c (.bool false))⟩,
         ⟨some 20, true, none, .mov (.u 163)⟩]))
     (.region [⟨some 148, false, none, .mov (.t 21)⟩,
       ⟨some 149, false, none, .bin .add (.u 148) (.c (.int .i64 1))⟩,
       ⟨some 21, true, none, .mov (.u 149)⟩]))))))
  (.seq (.regionD [⟨0, [14], true, [], ⟨some 164, false, none, .load true 3 (.t 14)⟩⟩,
     ⟨1, [16], true, [], ⟨some 165, false, none, .load true 3 (.t 16)⟩⟩,
     ⟨3, [20], false, [], ⟨some 167, false, none, .mov (.t 20)⟩⟩,
     ⟨2, [164, 165], false, [], ⟨some 166, false, none, .call 27 [(.u 164), (.u 165)]⟩⟩,
     ⟨4, [166, 167], false, [], ⟨some 168, false, none, .eqB false (.u 166) (.u 167)⟩⟩,
     ⟨5, [168], false, [], ⟨some 169, false, none, .mov (.u 168)⟩⟩,
     ⟨6, [9, 169], false, [], ⟨some 170, false, some ((.u 169), true), .mov (.t 9)⟩⟩,
     ⟨7, [170, 169], false, [], ⟨some 171, false, some ((.u 169), true), .iaS 8 (.u 170) (.c (.int .i64 0))⟩⟩,
     ⟨8, [171, 169], true, [], ⟨some 172, false, some ((.u 169), true), .load true 8 (.u 171)⟩⟩,
     ⟨9, [10, 169], false, [], ⟨some 173, false, some ((.u 169), true), .mov (.t 10)⟩⟩,
     ⟨10, [173, 169], false, [], ⟨some 174, false, some ((.u 169), true), .iaS 8 (.u 173) (.c (.int .i64 0))⟩⟩,
     ⟨11, [174, 169], true, [], ⟨some 175, false, some ((.u 169), true), .load true 8 (.u 174)⟩⟩,
     ⟨12, [172, 175, 169], false, [], ⟨some 176, false, some ((.u 169), true), .call 28 [(.u 172), (.u 175)]⟩⟩,
     ⟨13, [169, 176], false, [], ⟨some 177, false, none, .pick (.u 169) (.u 176) (.c (.bool false))⟩⟩,
     ⟨14, [177], false, [], ⟨some 178, false, none, .mov (.u 177)⟩⟩,
     ⟨15, [178], false, [], ⟨some 179, false, some ((.u 178), true), .call 14 []⟩⟩,
     ⟨16, [178, 179], false, [], ⟨some 180, false, none, .pick (.u 178) (.u 179) (.c (.bool false))⟩⟩,
     ⟨17, [180], false, [], ⟨some 2, true, none, .mov (.u 180)⟩⟩])
  (.ret)))))))))))))))))))
def r8 : List LRes := [.slot 2]
theorem t8 : (Try.f8.body.bind (trCode v8 Try.prog Try.f8.ntmps)) = some c8 ∧ trRes v8 Try.prog Try.f8.results.toList = some r8 := ⟨by kernel_rfl, by kernel_rfl⟩


end Go.Proofs.Ytcngkeeknlloaaa
