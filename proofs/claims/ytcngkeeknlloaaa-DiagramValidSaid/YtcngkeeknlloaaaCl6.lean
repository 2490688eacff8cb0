/- The functions' bodies as the engine reads them; written by program out of the translation, checked by the kernel. -/
import Derived.Test.YtcngkeeknlloaaaProg
import Derived.Test.YtcngkeeknlloaaaLxL
import Derived.KernelRfl
namespace Go.Proofs.Ytcngkeeknlloaaa
open Go Go.Lx
set_option maxRecDepth 100000
def v6 : Nat → Bool := fun t => [0, 1, 2, 3, 6, 7, 8, 9, 10, 11, 12, 13, 23, 39, 52, 57, 62, 63, 73, 83, 95, 101, 113].contains t
def c6 : LCode :=
  .seq (.region [⟨some 3, true, none, .box (.t 0)⟩,
     ⟨some 6, true, none, .mov (.c (.bool false))⟩])
  (.seq (.seq (.region [⟨some 14, false, none, .faddr 1 (.t 3)⟩,
      ⟨some 15, false, none, .load false 1 (.u 14)⟩,
      ⟨some 16, false, none, .lenL (.u 15)⟩,
      ⟨some 17, false, none, .bin .gtr (.u 16) (.c (.int .i64 8))⟩,
      ⟨some 18, false, none, .mov (.u 17)⟩,
      ⟨some 19, false, some ((.u 18), false), .faddr 0 (.t 3)⟩,
      ⟨some 20, false, some ((.u 18), false), .load false 1 (.u 19)⟩,
      ⟨some 21, false, some ((.u 18), false), .lenL (.u 20)⟩,
      ⟨some 22, false, some ((.u 18), false), .bin .gtr (.u 21) (.c (.int .i64 14))⟩,
      ⟨some 23, true, none, .pick (.u 18) (.c (.bool true)) (.u 22)⟩])
   (.cond (.t 23)
    (.seq (.region [⟨some 24, false, none, .call 14 []⟩,
       ⟨some 6, true, none, .mov (.u 24)⟩])
    (.ret))
    (.skip)))
  (.seq (.region [⟨some 25, false, none, .mov (.t 1)⟩,
     ⟨some 26, false, none, .call 11 [(.u 25)]⟩,
     ⟨some 7, true, none, .mov (.u 26)⟩])
  (.seq (.region [⟨some 28, false, none, .mov (.t 7)⟩,
     ⟨some 29, false, none, .call 12 [(.u 28), (.c (.int .i64 5))]⟩,
     ⟨some 27, false, none, .mov (.u 29)⟩,
     ⟨some 30, false, none, .ext (.u 27) 0⟩,
     ⟨some 31, false, none, .ext (.u 27) 1⟩,
     ⟨some 8, true, none, .mov (.u 30)⟩,
     ⟨some 9, true, none, .mov (.u 31)⟩])
  (.seq (.region [⟨some 33, false, none, .mov (.t 8)⟩,
     ⟨some 34, false, none, .mov (.t 9)⟩,
     ⟨some 35, false, none, .call 17 [(.u 33), (.u 34)]⟩,
     ⟨some 32, false, none, .mov (.u 35)⟩,
     ⟨some 36, false, none, .ext (.u 32) 0⟩,
     ⟨some 37, false, none, .ext (.u 32) 1⟩,
     ⟨some 10, true, none, .zero [.fsl 1 0 [], .fsl 1 0 [], .int .i64 0]⟩,
     ⟨none, true, none, .store 3 (.t 10) (.u 36)⟩,
     ⟨some 11, true, none, .mov (.u 37)⟩])
  (.seq (.seq (.region [⟨some 38, false, none, .mov (.t 11)⟩,
      ⟨some 39, true, none, .bin .neq (.u 38) (.c (.int .i64 0))⟩])
   (.cond (.t 39)
    (.seq (.region [⟨some 40, false, none, .call 14 []⟩,
       ⟨some 6, true, none, .mov (.u 40)⟩])
    (.ret))
    (.skip)))
  (.seq (.seq (.regionD [⟨0, [10], true, [], ⟨some 41, false, none, .load true 3 (.t 10)⟩⟩,
      ⟨1, [41], false, [], ⟨some 42, false, none, .call 18 [(.u 41)]⟩⟩,
      ⟨2, [42], false, [], ⟨some 43, false, none, .un .not (.u 42)⟩⟩,
      ⟨3, [43], false, [], ⟨some 44, false, none, .mov (.u 43)⟩⟩,
      ⟨4, [10, 44], true, [], ⟨some 45, false, some ((.u 44), false), .load true 3 (.t 10)⟩⟩,
      ⟨5, [2, 44], false, [], ⟨some 46, false, some ((.u 44), false), .mov (.t 2)⟩⟩,
      ⟨7, [10, 44], true, [], ⟨some 48, false, some ((.u 44), false), .load true 3 (.t 10)⟩⟩,
      ⟨8, [2, 44], false, [], ⟨some 49, false, some ((.u 44), false), .mov (.t 2)⟩⟩,
      ⟨6, [45, 46, 44], false, [7], ⟨some 47, false, some ((.u 44), false), .call 19 [(.u 45), (.u 46)]⟩⟩,
      ⟨9, [48, 49, 44], false, [], ⟨some 50, false, some ((.u 44), false), .call 20 [(.u 48), (.u 49)]⟩⟩,
      ⟨10, [47, 50, 44], false, [], ⟨some 51, false, some ((.u 44), false), .bin .neq (.u 47) (.u 50)⟩⟩,
      ⟨11, [44, 51], false, [], ⟨some 52, true, none, .pick (.u 44) (.c (.bool true)) (.u 51)⟩⟩])
   (.cond (.t 52)
    (.seq (.region [⟨some 6, true, none, .mov (.c (.bool false))⟩])
    (.ret))
    (.skip)))
  (.seq (.seq (.region [⟨some 53, false, none, .faddr 1 (.t 10)⟩,
      ⟨some 54, false, none, .load false 1 (.u 53)⟩,
      ⟨some 55, false, none, .lenL (.u 54)⟩,
      ⟨some 12, true, none, .mov (.u 55)⟩])
   (.seq (.region [⟨some 56, false, none, .mov (.t 12)⟩,
      ⟨some 57, true, none, .bin .gtr (.u 56) (.c (.int .i64 0))⟩])
   (.cond (.t 57)
    (.seq (.region [⟨some 58, false, none, .mov (.t 7)⟩,
       ⟨some 59, false, none, .mov (.t 12)⟩,
       ⟨some 60, false, none, .call 21 [(.u 58), (.u 59)]⟩,
       ⟨some 13, true, none, .mov (.u 60)⟩])
    (.seq (.region [⟨some 61, false, none, .mov (.t 7)⟩,
       ⟨some 62, true, none, .call 21 [(.u 61), (.c (.int .i64 6))]⟩])
    (.block 0 (.seq (.region [⟨some 64, false, none, .bin .eql (.t 62) (.c (.int .i64 0))⟩,
        ⟨some 63, true, none, .mov (.u 64)⟩])
     (.cond (.t 63)
      (.regionD [⟨0, [10], false, [], ⟨some 65, false, none, .faddr 1 (.t 10)⟩⟩,
        ⟨1, [65], true, [], ⟨some 66, false, none, .load false 1 (.u 65)⟩⟩,
        ⟨2, [13], false, [], ⟨some 67, false, none, .mov (.t 13)⟩⟩,
        ⟨3, [7], false, [], ⟨some 68, false, none, .mov (.t 7)⟩⟩,
        ⟨4, [12], false, [], ⟨some 69, false, none, .mov (.t 12)⟩⟩,
        ⟨5, [68, 69], false, [1], ⟨some 70, false, none, .call 22 [(.u 68), (.c (.int .i64 (-3))), (.u 69)]⟩⟩,
        ⟨6, [66, 67], false, [], ⟨some 71, false, none, .iaS 3 (.u 66) (.u 67)⟩⟩,
        ⟨7, [71], false, [], ⟨some 72, false, none, .faddr 1 (.u 71)⟩⟩,
        ⟨8, [72, 70], false, [], ⟨none, true, none, .store 1 (.u 72) (.u 70)⟩⟩])
      (.seq (.region [⟨some 74, false, none, .bin .eql (.t 62) (.c (.int .i64 1))⟩,
         ⟨some 73, true, none, .mov (.u 74)⟩])
      (.cond (.t 73)
       (.regionD [⟨0, [10], false, [], ⟨some 75, false, none, .faddr 1 (.t 10)⟩⟩,
         ⟨1, [75], true, [], ⟨some 76, false, none, .load false 1 (.u 75)⟩⟩,
         ⟨2, [13], false, [], ⟨some 77, false, none, .mov (.t 13)⟩⟩,
         ⟨3, [7], false, [], ⟨some 78, false, none, .mov (.t 7)⟩⟩,
         ⟨4, [12], false, [], ⟨some 79, false, none, .mov (.t 12)⟩⟩,
         ⟨5, [78, 79], false, [1], ⟨some 80, false, none, .call 22 [(.u 78), (.c (.int .i64 (-3))), (.u 79)]⟩⟩,
         ⟨6, [76, 77], false, [], ⟨some 81, false, none, .iaS 3 (.u 76) (.u 77)⟩⟩,
         ⟨7, [81], false, [], ⟨some 82, false, none, .faddr 2 (.u 81)⟩⟩,
         ⟨8, [82, 80], false, [], ⟨none, true, none, .store 1 (.u 82) (.u 80)⟩⟩])
       (.seq (.region [⟨some 84, false, none, .bin .eql (.t 62) (.c (.int .i64 2))⟩,
          ⟨some 83, true, none, .mov (.u 84)⟩])
       (.cond (.t 83)
        (.regionD [⟨0, [10], false, [], ⟨some 85, false, none, .faddr 1 (.t 10)⟩⟩,
          ⟨1, [85], true, [], ⟨some 86, false, none, .load false 1 (.u 85)⟩⟩,
          ⟨2, [13], false, [], ⟨some 87, false, none, .mov (.t 13)⟩⟩,
          ⟨3, [7], false, [], ⟨some 88, false, none, .mov (.t 7)⟩⟩,
          ⟨4, [10], false, [], ⟨some 89, false, none, .faddr 0 (.t 10)⟩⟩,
          ⟨5, [89], true, [], ⟨some 90, false, none, .load false 1 (.u 89)⟩⟩,
          ⟨6, [90], false, [], ⟨some 91, false, none, .lenL (.u 90)⟩⟩,
          ⟨7, [88, 91], false, [1], ⟨some 92, false, none, .call 22 [(.u 88), (.c (.int .i64 (-1))), (.u 91)]⟩⟩,
          ⟨8, [86, 87], false, [], ⟨some 93, false, none, .iaS 3 (.u 86) (.u 87)⟩⟩,
          ⟨9, [93], false, [], ⟨some 94, false, none, .faddr 0 (.u 93)⟩⟩,
          ⟨10, [94, 92], false, [], ⟨none, true, none, .store 1 (.u 94) (.u 92)⟩⟩])
        (.seq (.region [⟨some 96, false, none, .bin .eql (.t 62) (.c (.int .i64 3))⟩,
           ⟨some 95, true, none, .mov (.u 96)⟩])
        (.cond (.t 95)
         (.region [⟨some 97, false, none, .mov (.t 7)⟩,
           ⟨some 98, false, none, .mov (.t 12)⟩,
           ⟨some 99, false, none, .call 22 [(.u 97), (.c (.int .i64 (-2))), (.u 98)]⟩,
           ⟨some 100, false, none, .faddr 2 (.t 10)⟩,
           ⟨none, true, none, .store 1 (.u 100) (.u 99)⟩])
         (.seq (.region [⟨some 102, false, none, .bin .eql (.t 62) (.c (.int .i64 4))⟩,
            ⟨some 101, true, none, .mov (.u 102)⟩])
         (.cond (.t 101)
          (.regionD [⟨0, [10], false, [], ⟨some 103, false, none, .faddr 1 (.t 10)⟩⟩,
            ⟨1, [103], true, [], ⟨some 104, false, none, .load false 1 (.u 103)⟩⟩,
            ⟨2, [10], false, [], ⟨some 105, false, none, .faddr 1 (.t 10)⟩⟩,
            ⟨3, [105], true, [], ⟨some 106, false, none, .load false 1 (.u 105)⟩⟩,
            ⟨4, [13], false, [], ⟨some 107, false, none, .mov (.t 13)⟩⟩,
            ⟨5, [106, 107], false, [], ⟨some 108, false, none, .iaS 3 (.u 106) (.u 107)⟩⟩,
            ⟨6, [108], true, [], ⟨some 109, false, none, .load true 3 (.u 108)⟩⟩,
            ⟨7, [109], false, [], ⟨some 110, false, none, .mkS 3 1 [.int .i64 0, .int .i64 0, .int .i64 0] [(0, 3, (.u 109))]⟩⟩,
            ⟨8, [104, 110], false, [], ⟨some 111, false, none, .app 3 24 (.u 104) (.u 110)⟩⟩,
            ⟨9, [10], false, [], ⟨some 112, false, none, .faddr 1 (.t 10)⟩⟩,
            ⟨10, [112, 111], false, [], ⟨none, true, none, .store 1 (.u 112) (.u 111)⟩⟩])
          (.seq (.region [⟨some 114, false, none, .bin .eql (.t 62) (.c (.int .i64 5))⟩,
             ⟨some 113, true, none, .mov (.u 114)⟩])
          (.cond (.t 113)
           (.regionD [⟨0, [10], false, [], ⟨some 115, false, none, .faddr 1 (.t 10)⟩⟩,
             ⟨1, [115], true, [], ⟨some 116, false, none, .load false 1 (.u 115)⟩⟩,
             ⟨2, [10], false, [], ⟨some 117, false, none, .faddr 1 (.t 10)⟩⟩,
             ⟨3, [117], true, [], ⟨some 118, false, none, .load false 1 (.u 117)⟩⟩,
             ⟨4, [13], false, [], ⟨some 119, false, none, .mov (.t 13)⟩⟩,
             ⟨5, [10], false, [], ⟨some 120, false, none, .faddr 1 (.t 10)⟩⟩,
             ⟨6, [120], true, [], ⟨some 121, false, none, .load false 1 (.u 120)⟩⟩,
             ⟨7, [13], false, [], ⟨some 122, false, none, .mov (.t 13)⟩⟩,
             ⟨8, [121, 122], false, [], ⟨some 123, false, none, .iaS 3 (.u 121) (.u 122)⟩⟩,
             ⟨9, [123], true, [], ⟨some 124, false, none, .load true 3 (.u 123)⟩⟩,
             ⟨10, [10], false, [], ⟨some 125, false, none, .faddr 1 (.t 10)⟩⟩,
             ⟨11, [125], true, [], ⟨some 126, false, none, .load false 1 (.u 125)⟩⟩,
             ⟨12, [126], false, [], ⟨some 127, false, none, .iaS 3 (.u 126) (.c (.int .i64 0))⟩⟩,
             ⟨13, [127], true, [], ⟨some 128, false, none, .load true 3 (.u 127)⟩⟩,
             ⟨14, [116], false, [], ⟨some 129, false, none, .iaS 3 (.u 116) (.c (.int .i64 0))⟩⟩,
             ⟨15, [129, 124], false, [3], ⟨none, true, none, .store 3 (.u 129) (.u 124)⟩⟩,
             ⟨16, [118, 119], false, [], ⟨some 130, false, none, .iaS 3 (.u 118) (.u 119)⟩⟩,
             ⟨17, [130, 128], false, [], ⟨none, true, none, .store 3 (.u 130) (.u 128)⟩⟩])
           (.skip))))))))))))))))
    (.skip))))
  (.seq (.regionD [⟨0, [10], true, [], ⟨some 131, false, none, .load true 3 (.t 10)⟩⟩,
     ⟨2, [10], true, [], ⟨some 133, false, none, .load true 3 (.t 10)⟩⟩,
     ⟨1, [131], false, [2], ⟨some 132, false, none, .call 18 [(.u 131)]⟩⟩,
     ⟨3, [133], false, [], ⟨some 134, false, none, .call 23 [(.u 133)]⟩⟩,
     ⟨4, [132, 134], false, [], ⟨some 135, false, none, .eqB false (.u 132) (.u 134)⟩⟩,
     ⟨5, [135], false, [], ⟨some 136, false, none, .mov (.u 135)⟩⟩,
     ⟨6, [10, 136], true, [], ⟨some 137, false, some ((.u 136), true), .load true 3 (.t 10)⟩⟩,
     ⟨7, [2, 136], false, [], ⟨some 138, false, some ((.u 136), true), .mov (.t 2)⟩⟩,
     ⟨9, [10, 136], true, [], ⟨some 140, false, some ((.u 136), true), .load true 3 (.t 10)⟩⟩,
     ⟨10, [2, 136], false, [], ⟨some 141, false, some ((.u 136), true), .mov (.t 2)⟩⟩,
     ⟨8, [137, 138, 136], false, [9], ⟨some 139, false, some ((.u 136), true), .call 19 [(.u 137), (.u 138)]⟩⟩,
     ⟨11, [140, 141, 136], false, [], ⟨some 142, false, some ((.u 136), true), .call 20 [(.u 140), (.u 141)]⟩⟩,
     ⟨12, [139, 142, 136], false, [], ⟨some 143, false, some ((.u 136), true), .bin .eql (.u 139) (.u 142)⟩⟩,
     ⟨13, [136, 143], false, [], ⟨some 144, false, none, .pick (.u 136) (.u 143) (.c (.bool false))⟩⟩,
     ⟨14, [144], false, [], ⟨some 145, false, none, .mov (.u 144)⟩⟩,
     ⟨15, [3, 145], true, [], ⟨some 146, false, some ((.u 145), true), .load true 3 (.t 3)⟩⟩,
     ⟨17, [3, 145], true, [], ⟨some 148, false, some ((.u 145), true), .load true 3 (.t 3)⟩⟩,
     ⟨16, [146, 145], false, [17], ⟨some 147, false, some ((.u 145), true), .call 18 [(.u 146)]⟩⟩,
     ⟨18, [148, 145], false, [], ⟨some 149, false, some ((.u 145), true), .call 23 [(.u 148)]⟩⟩,
     ⟨19, [147, 149, 145], false, [], ⟨some 150, false, some ((.u 145), true), .eqB false (.u 147) (.u 149)⟩⟩,
     ⟨20, [145, 150], false, [], ⟨some 151, false, none, .pick (.u 145) (.u 150) (.c (.bool false))⟩⟩,
     ⟨21, [151], false, [], ⟨some 152, false, none, .mov (.u 151)⟩⟩,
     ⟨22, [3, 152], true, [], ⟨some 153, false, some ((.u 152), true), .load true 3 (.t 3)⟩⟩,
     ⟨23, [2, 152], false, [], ⟨some 154, false, some ((.u 152), true), .mov (.t 2)⟩⟩,
     ⟨25, [3, 152], true, [], ⟨some 156, false, some ((.u 152), true), .load true 3 (.t 3)⟩⟩,
     ⟨26, [2, 152], false, [], ⟨some 157, false, some ((.u 152), true), .mov (.t 2)⟩⟩,
     ⟨24, [153, 154, 152], false, [25], ⟨some 155, false, some ((.u 152), true), .call 19 [(.u 153), (.u 154)]⟩⟩,
     ⟨27, [156, 157, 152], false, [], ⟨some 158, false, some ((.u 152), true), .call 20 [(.u 156), (.u 157)]⟩⟩,
     ⟨28, [155, 158, 152], false, [], ⟨some 159, false, some ((.u 152), true), .bin .eql (.u 155) (.u 158)⟩⟩,
     ⟨29, [152, 159], false, [], ⟨some 160, false, none, .pick (.u 152) (.u 159) (.c (.bool false))⟩⟩,
     ⟨30, [160], false, [], ⟨some 161, false, none, .mov (.u 160)⟩⟩,
     ⟨31, [161], false, [], ⟨some 162, false, some ((.u 161), true), .call 14 []⟩⟩,
     ⟨32, [161, 162], false, [], ⟨some 163, false, none, .pick (.u 161) (.u 162) (.c (.bool false))⟩⟩,
     ⟨33, [163], false, [], ⟨some 6, true, none, .mov (.u 163)⟩⟩])
  (.ret)))))))))
def r6 : List LRes := [.slot 6]
theorem t6 : (Try.f6.body.bind (trCode v6 Try.prog Try.f6.ntmps)) = some c6 ∧ trRes v6 Try.prog Try.f6.results.toList = some r6 := ⟨by kernel_rfl, by kernel_rfl⟩


end Go.Proofs.Ytcngkeeknlloaaa
