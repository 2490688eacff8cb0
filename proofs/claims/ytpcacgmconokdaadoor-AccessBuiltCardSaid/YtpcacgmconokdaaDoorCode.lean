/- The functions' bodies as the engine reads them; written by program out of the translation, checked by the kernel. -/
import Derived.Test.YtpcacgmconokdaaDoorProg
import Derived.Test.YtpcacgmconokdaaDoorLxL
import Derived.KernelRfl
namespace Go.Proofs.YtpcacgmconokdaaDoor
open Go Go.Lx
set_option maxRecDepth 100000
def v3 : Nat → Bool := fun t => [0, 1, 2, 3, 4, 8, 9, 10, 11, 26, 28, 49, 78].contains t
def c3 : LCode :=
  .seq (.region [⟨some 4, true, none, .box (.t 0)⟩,
     ⟨some 8, true, none, .mov (.c (.bool false))⟩])
  (.seq (.region [⟨some 12, false, none, .faddr 2 (.t 4)⟩,
     ⟨some 13, false, none, .load false 1 (.u 12)⟩,
     ⟨some 14, false, none, .bin .and (.u 13) (.c (.int .i64 511))⟩,
     ⟨some 15, false, none, .faddr 2 (.t 4)⟩,
     ⟨none, true, none, .store 1 (.u 15) (.u 14)⟩])
  (.seq (.seq (.regionD [([4], ⟨some 16, false, none, .load true 8 (.t 4)⟩),
      ([1], ⟨some 17, false, none, .mov (.t 1)⟩),
      ([2], ⟨some 18, false, none, .mov (.t 2)⟩),
      ([3], ⟨some 19, false, none, .mov (.t 3)⟩),
      ([16, 17, 18, 19], ⟨some 20, false, none, .call 9 [(.u 16), (.u 17), (.u 18), (.u 19)]⟩),
      ([4], ⟨some 21, false, none, .load true 8 (.t 4)⟩),
      ([1], ⟨some 22, false, none, .mov (.t 1)⟩),
      ([2], ⟨some 23, false, none, .mov (.t 2)⟩),
      ([3], ⟨some 24, false, none, .mov (.t 3)⟩),
      ([21, 22, 23, 24], ⟨some 25, false, none, .call 10 [(.u 21), (.u 22), (.u 23), (.u 24)]⟩),
      ([20, 25], ⟨some 26, true, none, .eqB true (.u 20) (.u 25)⟩)])
   (.cond (.t 26)
    (.seq (.region [⟨some 8, true, none, .mov (.c (.bool false))⟩])
    (.ret))
    (.skip)))
  (.seq (.seq (.region [⟨some 9, true, none, .mov (.c (.int .i64 (-1)))⟩])
   (.block 0 (.loop (.seq (.seq (.region [⟨some 27, false, none, .mov (.t 9)⟩,
         ⟨some 28, true, none, .bin .leq (.u 27) (.c (.int .i64 8))⟩])
      (.cond (.t 28)
       (.skip)
       (.exit 0)))
     (.seq (.block 1 (.seq (.region [⟨some 31, false, none, .mov (.t 1)⟩,
          ⟨some 32, false, none, .mov (.t 2)⟩,
          ⟨some 33, false, none, .build [.int .i64 0, .int .i64 0] [(0, 1, (.u 31)), (1, 1, (.u 32))]⟩,
          ⟨some 34, false, none, .faddr 3 (.t 4)⟩,
          ⟨some 35, false, none, .load false 1 (.u 34)⟩,
          ⟨some 36, false, none, .mov (.t 2)⟩,
          ⟨some 37, false, none, .build [.int .i64 0, .int .i64 0] [(0, 1, (.u 35)), (1, 1, (.u 36))]⟩,
          ⟨some 38, false, none, .mov (.t 1)⟩,
          ⟨some 39, false, none, .faddr 4 (.t 4)⟩,
          ⟨some 40, false, none, .load false 1 (.u 39)⟩,
          ⟨some 41, false, none, .build [.int .i64 0, .int .i64 0] [(0, 1, (.u 38)), (1, 1, (.u 40))]⟩,
          ⟨some 42, false, none, .mov (.t 2)⟩,
          ⟨some 43, false, none, .build [.int .i64 0, .int .i64 0] [(0, 1, (.c (.int .i64 0))), (1, 1, (.u 42))]⟩,
          ⟨some 44, false, none, .build [.int .i64 0, .int .i64 0] [(0, 1, (.c (.int .i64 1))), (1, 1, (.c (.int .i64 1)))]⟩,
          ⟨some 45, false, none, .mkS 2 5 [.int .i64 0, .int .i64 0] [(0, 2, (.u 33)), (2, 2, (.u 37)), (4, 2, (.u 41)), (6, 2, (.u 43)), (8, 2, (.u 44))]⟩,
          ⟨some 10, true, none, .mov (.u 45)⟩])
       (.seq (.region [⟨some 11, true, none, .mov (.c (.int .i64 0))⟩])
       (.block 2 (.loop (.seq (.seq (.region [⟨some 46, false, none, .mov (.t 11)⟩,
             ⟨some 47, false, none, .mov (.t 10)⟩,
             ⟨some 48, false, none, .lenL (.u 47)⟩,
             ⟨some 49, true, none, .bin .lss (.u 46) (.u 48)⟩])
          (.cond (.t 49)
           (.skip)
           (.exit 2)))
         (.seq (.block 3 (.seq (.regionD [([4], ⟨some 52, false, none, .load true 8 (.t 4)⟩),
              ([10], ⟨some 53, false, none, .mov (.t 10)⟩),
              ([11], ⟨some 54, false, none, .mov (.t 11)⟩),
              ([53, 54], ⟨some 55, false, none, .iaS 2 (.u 53) (.u 54)⟩),
              ([55], ⟨some 56, false, none, .iaA 2 1 (.u 55) (.c (.int .i64 0))⟩),
              ([56], ⟨some 57, false, none, .load false 1 (.u 56)⟩),
              ([10], ⟨some 58, false, none, .mov (.t 10)⟩),
              ([11], ⟨some 59, false, none, .mov (.t 11)⟩),
              ([58, 59], ⟨some 60, false, none, .iaS 2 (.u 58) (.u 59)⟩),
              ([60], ⟨some 61, false, none, .iaA 2 1 (.u 60) (.c (.int .i64 1))⟩),
              ([61], ⟨some 62, false, none, .load false 1 (.u 61)⟩),
              ([9], ⟨some 63, false, none, .mov (.t 9)⟩),
              ([52, 57, 62, 63], ⟨some 64, false, none, .call 9 [(.u 52), (.u 57), (.u 62), (.u 63)]⟩),
              ([4], ⟨some 65, false, none, .load true 8 (.t 4)⟩),
              ([10], ⟨some 66, false, none, .mov (.t 10)⟩),
              ([11], ⟨some 67, false, none, .mov (.t 11)⟩),
              ([66, 67], ⟨some 68, false, none, .iaS 2 (.u 66) (.u 67)⟩),
              ([68], ⟨some 69, false, none, .iaA 2 1 (.u 68) (.c (.int .i64 0))⟩),
              ([69], ⟨some 70, false, none, .load false 1 (.u 69)⟩),
              ([10], ⟨some 71, false, none, .mov (.t 10)⟩),
              ([11], ⟨some 72, false, none, .mov (.t 11)⟩),
              ([71, 72], ⟨some 73, false, none, .iaS 2 (.u 71) (.u 72)⟩),
              ([73], ⟨some 74, false, none, .iaA 2 1 (.u 73) (.c (.int .i64 1))⟩),
              ([74], ⟨some 75, false, none, .load false 1 (.u 74)⟩),
              ([9], ⟨some 76, false, none, .mov (.t 9)⟩),
              ([65, 70, 75, 76], ⟨some 77, false, none, .call 10 [(.u 65), (.u 70), (.u 75), (.u 76)]⟩),
              ([64, 77], ⟨some 78, true, none, .eqB true (.u 64) (.u 77)⟩)])
           (.cond (.t 78)
            (.seq (.region [⟨some 8, true, none, .mov (.c (.bool false))⟩])
            (.ret))
            (.skip))))
         (.region [⟨some 50, false, none, .mov (.t 11)⟩,
           ⟨some 51, false, none, .bin .add (.u 50) (.c (.int .i64 1))⟩,
           ⟨some 11, true, none, .mov (.u 51)⟩]))))))))
     (.region [⟨some 29, false, none, .mov (.t 9)⟩,
       ⟨some 30, false, none, .bin .add (.u 29) (.c (.int .i64 1))⟩,
       ⟨some 9, true, none, .mov (.u 30)⟩]))))))
  (.seq (.region [⟨some 79, false, none, .call 11 []⟩,
     ⟨some 8, true, none, .mov (.u 79)⟩])
  (.ret)))))
def r3 : List LRes := [.slot 8]
theorem t3 : (Tryd.f3.body.bind (trCode v3 Tryd.prog Tryd.f3.ntmps)) = some c3 ∧ trRes v3 Tryd.prog Tryd.f3.results.toList = some r3 := ⟨by kernel_rfl, by kernel_rfl⟩

def v4 : Nat → Bool := fun t => [0, 1, 2, 3, 4, 5, 10, 11, 12].contains t
def c4 : LCode :=
  .seq (.region [⟨some 5, true, none, .box (.t 0)⟩,
     ⟨some 10, true, none, .mov (.c (.bool false))⟩])
  (.seq (.region [⟨some 13, false, none, .mov (.t 3)⟩,
     ⟨some 14, false, none, .bin .rem (.u 13) (.c (.int .u8 8))⟩,
     ⟨some 15, false, none, .conv .i64 (.u 14)⟩,
     ⟨some 16, false, none, .mov (.t 4)⟩,
     ⟨some 17, false, none, .bin .rem (.u 16) (.c (.int .u8 8))⟩,
     ⟨some 18, false, none, .conv .i64 (.u 17)⟩,
     ⟨some 11, true, none, .mov (.u 15)⟩,
     ⟨some 12, true, none, .mov (.u 18)⟩])
  (.seq (.region [⟨some 19, false, none, .faddr 2 (.t 5)⟩,
     ⟨some 20, false, none, .load false 1 (.u 19)⟩,
     ⟨some 21, false, none, .bin .and (.u 20) (.c (.int .i64 511))⟩,
     ⟨some 22, false, none, .faddr 2 (.t 5)⟩,
     ⟨none, true, none, .store 1 (.u 22) (.u 21)⟩])
  (.seq (.regionD [([5], ⟨some 23, false, none, .load true 8 (.t 5)⟩),
     ([1], ⟨some 24, false, none, .mov (.t 1)⟩),
     ([2], ⟨some 25, false, none, .mov (.t 2)⟩),
     ([11], ⟨some 26, false, none, .mov (.t 11)⟩),
     ([12], ⟨some 27, false, none, .mov (.t 12)⟩),
     ([26, 27], ⟨some 28, false, none, .bin .or (.u 26) (.u 27)⟩),
     ([23, 24, 25, 28], ⟨some 29, false, none, .call 9 [(.u 23), (.u 24), (.u 25), (.u 28)]⟩),
     ([5], ⟨some 30, false, none, .load true 8 (.t 5)⟩),
     ([1], ⟨some 31, false, none, .mov (.t 1)⟩),
     ([2], ⟨some 32, false, none, .mov (.t 2)⟩),
     ([11], ⟨some 33, false, none, .mov (.t 11)⟩),
     ([30, 31, 32, 33], ⟨some 34, false, none, .call 9 [(.u 30), (.u 31), (.u 32), (.u 33)]⟩),
     ([34], ⟨some 35, false, none, .mov (.u 34)⟩),
     ([5, 35], ⟨some 36, false, some ((.u 35), true), .load true 8 (.t 5)⟩),
     ([1, 35], ⟨some 37, false, some ((.u 35), true), .mov (.t 1)⟩),
     ([2, 35], ⟨some 38, false, some ((.u 35), true), .mov (.t 2)⟩),
     ([12, 35], ⟨some 39, false, some ((.u 35), true), .mov (.t 12)⟩),
     ([36, 37, 38, 39, 35], ⟨some 40, false, some ((.u 35), true), .call 9 [(.u 36), (.u 37), (.u 38), (.u 39)]⟩),
     ([35, 40], ⟨some 41, false, none, .pick (.u 35) (.u 40) (.c (.bool false))⟩),
     ([29, 41], ⟨some 42, false, none, .eqB false (.u 29) (.u 41)⟩),
     ([42], ⟨some 43, false, none, .mov (.u 42)⟩),
     ([5, 43], ⟨some 44, false, some ((.u 43), true), .load true 8 (.t 5)⟩),
     ([1, 43], ⟨some 45, false, some ((.u 43), true), .mov (.t 1)⟩),
     ([2, 43], ⟨some 46, false, some ((.u 43), true), .mov (.t 2)⟩),
     ([44, 45, 46, 43], ⟨some 47, false, some ((.u 43), true), .call 9 [(.u 44), (.u 45), (.u 46), (.c (.int .i64 0))]⟩),
     ([43, 47], ⟨some 48, false, none, .pick (.u 43) (.u 47) (.c (.bool false))⟩),
     ([48], ⟨some 49, false, none, .mov (.u 48)⟩),
     ([49], ⟨some 50, false, some ((.u 49), true), .call 11 []⟩),
     ([49, 50], ⟨some 51, false, none, .pick (.u 49) (.u 50) (.c (.bool false))⟩),
     ([51], ⟨some 10, true, none, .mov (.u 51)⟩)])
  (.ret))))
def r4 : List LRes := [.slot 10]
theorem t4 : (Tryd.f4.body.bind (trCode v4 Tryd.prog Tryd.f4.ntmps)) = some c4 ∧ trRes v4 Tryd.prog Tryd.f4.results.toList = some r4 := ⟨by kernel_rfl, by kernel_rfl⟩

def v5 : Nat → Bool := fun t => [0, 1, 2, 3, 4, 5, 10, 11, 12, 18, 51, 63].contains t
def c5 : LCode :=
  .seq (.region [⟨some 5, true, none, .box (.t 0)⟩,
     ⟨some 10, true, none, .mov (.c (.bool false))⟩])
  (.seq (.region [⟨some 13, false, none, .faddr 2 (.t 5)⟩,
     ⟨some 14, false, none, .load false 1 (.u 13)⟩,
     ⟨some 15, false, none, .bin .and (.u 14) (.c (.int .i64 511))⟩,
     ⟨some 16, false, none, .faddr 2 (.t 5)⟩,
     ⟨none, true, none, .store 1 (.u 16) (.u 15)⟩])
  (.seq (.seq (.region [⟨some 17, false, none, .mov (.t 1)⟩,
      ⟨some 18, true, none, .bin .eql (.u 17) (.c (.int .i64 0))⟩])
   (.cond (.t 18)
    (.seq (.regionD [([5], ⟨some 19, false, none, .load true 8 (.t 5)⟩),
       ([2], ⟨some 20, false, none, .mov (.t 2)⟩),
       ([19, 20], ⟨some 21, false, none, .call 9 [(.u 19), (.c (.int .i64 0)), (.u 20), (.c (.int .i64 6))]⟩),
       ([21], ⟨some 22, false, none, .mov (.u 21)⟩),
       ([5, 22], ⟨some 23, false, some ((.u 22), true), .load true 8 (.t 5)⟩),
       ([2, 22], ⟨some 24, false, some ((.u 22), true), .mov (.t 2)⟩),
       ([4, 22], ⟨some 25, false, some ((.u 22), true), .mov (.t 4)⟩),
       ([25, 22], ⟨some 26, false, some ((.u 22), true), .bin .rem (.u 25) (.c (.int .u8 8))⟩),
       ([26, 22], ⟨some 27, false, some ((.u 22), true), .conv .i64 (.u 26)⟩),
       ([23, 24, 27, 22], ⟨some 28, false, some ((.u 22), true), .call 9 [(.u 23), (.c (.int .i64 0)), (.u 24), (.u 27)]⟩),
       ([5, 22], ⟨some 29, false, some ((.u 22), true), .load true 8 (.t 5)⟩),
       ([3, 22], ⟨some 30, false, some ((.u 22), true), .mov (.t 3)⟩),
       ([4, 22], ⟨some 31, false, some ((.u 22), true), .mov (.t 4)⟩),
       ([31, 22], ⟨some 32, false, some ((.u 22), true), .bin .rem (.u 31) (.c (.int .u8 8))⟩),
       ([32, 22], ⟨some 33, false, some ((.u 22), true), .conv .i64 (.u 32)⟩),
       ([29, 30, 33, 22], ⟨some 34, false, some ((.u 22), true), .call 9 [(.u 29), (.c (.int .i64 0)), (.u 30), (.u 33)]⟩),
       ([28, 34, 22], ⟨some 35, false, some ((.u 22), true), .eqB false (.u 28) (.u 34)⟩),
       ([22, 35], ⟨some 36, false, none, .pick (.u 22) (.u 35) (.c (.bool false))⟩),
       ([36], ⟨some 37, false, none, .mov (.u 36)⟩),
       ([37], ⟨some 38, false, some ((.u 37), true), .call 11 []⟩),
       ([37, 38], ⟨some 39, false, none, .pick (.u 37) (.u 38) (.c (.bool false))⟩),
       ([39], ⟨some 10, true, none, .mov (.u 39)⟩)])
    (.ret))
    (.skip)))
  (.seq (.region [⟨some 40, false, none, .mov (.t 4)⟩,
     ⟨some 41, false, none, .bin .rem (.u 40) (.c (.int .u8 8))⟩,
     ⟨some 42, false, none, .conv .i64 (.u 41)⟩,
     ⟨some 11, true, none, .mov (.u 42)⟩])
  (.seq (.region [⟨some 43, false, none, .load true 8 (.t 5)⟩,
     ⟨some 12, true, none, .zero [.int .i64 0, .int .i64 0, .int .i64 0, .int .i64 0, .int .i64 0, .int .i64 0, .str [], .fsl 1 0 []]⟩,
     ⟨none, true, none, .store 8 (.t 12) (.u 43)⟩])
  (.seq (.block 0 (.seq (.region [⟨some 52, false, none, .mov (.t 1)⟩,
       ⟨some 53, false, none, .faddr 3 (.t 5)⟩,
       ⟨some 54, false, none, .load false 1 (.u 53)⟩,
       ⟨some 55, false, none, .bin .eql (.u 52) (.u 54)⟩,
       ⟨some 51, true, none, .mov (.u 55)⟩])
    (.cond (.t 51)
     (.region [⟨some 56, false, none, .faddr 2 (.t 5)⟩,
       ⟨some 57, false, none, .load false 1 (.u 56)⟩,
       ⟨some 58, false, none, .bin .and (.u 57) (.c (.int .i64 448))⟩,
       ⟨some 59, false, none, .mov (.t 3)⟩,
       ⟨some 60, false, none, .bin .and (.u 59) (.c (.int .i64 63))⟩,
       ⟨some 61, false, none, .bin .or (.u 58) (.u 60)⟩,
       ⟨some 62, false, none, .faddr 2 (.t 12)⟩,
       ⟨none, true, none, .store 1 (.u 62) (.u 61)⟩])
     (.seq (.region [⟨some 64, false, none, .mov (.t 2)⟩,
        ⟨some 65, false, none, .faddr 4 (.t 5)⟩,
        ⟨some 66, false, none, .load false 1 (.u 65)⟩,
        ⟨some 67, false, none, .bin .eql (.u 64) (.u 66)⟩,
        ⟨some 63, true, none, .mov (.u 67)⟩])
     (.cond (.t 63)
      (.region [⟨some 68, false, none, .faddr 2 (.t 5)⟩,
        ⟨some 69, false, none, .load false 1 (.u 68)⟩,
        ⟨some 70, false, none, .bin .and (.u 69) (.c (.int .i64 56))⟩,
        ⟨some 71, false, none, .mov (.t 3)⟩,
        ⟨some 72, false, none, .bin .and (.u 71) (.c (.int .i64 455))⟩,
        ⟨some 73, false, none, .bin .or (.u 70) (.u 72)⟩,
        ⟨some 74, false, none, .faddr 2 (.t 12)⟩,
        ⟨none, true, none, .store 1 (.u 74) (.u 73)⟩])
      (.region [⟨some 44, false, none, .faddr 2 (.t 5)⟩,
        ⟨some 45, false, none, .load false 1 (.u 44)⟩,
        ⟨some 46, false, none, .bin .and (.u 45) (.c (.int .i64 7))⟩,
        ⟨some 47, false, none, .mov (.t 3)⟩,
        ⟨some 48, false, none, .bin .and (.u 47) (.c (.int .i64 504))⟩,
        ⟨some 49, false, none, .bin .or (.u 46) (.u 48)⟩,
        ⟨some 50, false, none, .faddr 2 (.t 12)⟩,
        ⟨none, true, none, .store 1 (.u 50) (.u 49)⟩]))))))
  (.seq (.regionD [([5], ⟨some 75, false, none, .load true 8 (.t 5)⟩),
     ([1], ⟨some 76, false, none, .mov (.t 1)⟩),
     ([2], ⟨some 77, false, none, .mov (.t 2)⟩),
     ([11], ⟨some 78, false, none, .mov (.t 11)⟩),
     ([75, 76, 77, 78], ⟨some 79, false, none, .call 9 [(.u 75), (.u 76), (.u 77), (.u 78)]⟩),
     ([12], ⟨some 80, false, none, .load true 8 (.t 12)⟩),
     ([1], ⟨some 81, false, none, .mov (.t 1)⟩),
     ([2], ⟨some 82, false, none, .mov (.t 2)⟩),
     ([11], ⟨some 83, false, none, .mov (.t 11)⟩),
     ([80, 81, 82, 83], ⟨some 84, false, none, .call 9 [(.u 80), (.u 81), (.u 82), (.u 83)]⟩),
     ([79, 84], ⟨some 85, false, none, .eqB false (.u 79) (.u 84)⟩),
     ([85], ⟨some 86, false, none, .mov (.u 85)⟩),
     ([1, 86], ⟨some 87, false, some ((.u 86), true), .mov (.t 1)⟩),
     ([5, 86], ⟨some 88, false, some ((.u 86), true), .faddr 3 (.t 5)⟩),
     ([88, 86], ⟨some 89, false, some ((.u 86), true), .load false 1 (.u 88)⟩),
     ([87, 89, 86], ⟨some 90, false, some ((.u 86), true), .bin .neq (.u 87) (.u 89)⟩),
     ([90, 86], ⟨some 91, false, some ((.u 86), true), .mov (.u 90)⟩),
     ([5, 91], ⟨some 92, false, some ((.u 91), false), .load true 8 (.t 5)⟩),
     ([1, 91], ⟨some 93, false, some ((.u 91), false), .mov (.t 1)⟩),
     ([2, 91], ⟨some 94, false, some ((.u 91), false), .mov (.t 2)⟩),
     ([11, 91], ⟨some 95, false, some ((.u 91), false), .mov (.t 11)⟩),
     ([92, 93, 94, 95, 91], ⟨some 96, false, some ((.u 91), false), .call 9 [(.u 92), (.u 93), (.u 94), (.u 95)]⟩),
     ([5, 91], ⟨some 97, false, some ((.u 91), false), .load true 8 (.t 5)⟩),
     ([1, 91], ⟨some 98, false, some ((.u 91), false), .mov (.t 1)⟩),
     ([3, 91], ⟨some 99, false, some ((.u 91), false), .mov (.t 3)⟩),
     ([11, 91], ⟨some 100, false, some ((.u 91), false), .mov (.t 11)⟩),
     ([97, 98, 99, 100, 91], ⟨some 101, false, some ((.u 91), false), .call 9 [(.u 97), (.u 98), (.u 99), (.u 100)]⟩),
     ([96, 101, 91], ⟨some 102, false, some ((.u 91), false), .eqB false (.u 96) (.u 101)⟩),
     ([91, 102, 86], ⟨some 103, false, some ((.u 86), true), .pick (.u 91) (.c (.bool true)) (.u 102)⟩),
     ([86, 103], ⟨some 104, false, none, .pick (.u 86) (.u 103) (.c (.bool false))⟩),
     ([104], ⟨some 105, false, none, .mov (.u 104)⟩),
     ([105], ⟨some 106, false, some ((.u 105), true), .call 11 []⟩),
     ([105, 106], ⟨some 107, false, none, .pick (.u 105) (.u 106) (.c (.bool false))⟩),
     ([107], ⟨some 10, true, none, .mov (.u 107)⟩)])
  (.ret)))))))
def r5 : List LRes := [.slot 10]
theorem t5 : (Tryd.f5.body.bind (trCode v5 Tryd.prog Tryd.f5.ntmps)) = some c5 ∧ trRes v5 Tryd.prog Tryd.f5.results.toList = some r5 := ⟨by kernel_rfl, by kernel_rfl⟩

def v6 : Nat → Bool := fun t => [0, 1, 4, 5, 6, 7, 8, 9, 10, 28, 41].contains t
def c6 : LCode :=
  .seq (.region [⟨some 4, true, none, .mov (.c (.bool false))⟩])
  (.seq (.region [⟨some 12, false, none, .mov (.t 1)⟩,
     ⟨some 13, false, none, .call 12 [(.u 12)]⟩,
     ⟨some 11, false, none, .mov (.u 13)⟩,
     ⟨some 14, false, none, .ext (.u 11) 0⟩,
     ⟨some 15, false, none, .ext (.u 11) 1⟩,
     ⟨some 5, true, none, .mov (.u 14)⟩,
     ⟨some 6, true, none, .mov (.u 15)⟩])
  (.seq (.region [⟨some 17, false, none, .mov (.t 1)⟩,
     ⟨some 18, false, none, .call 13 [(.u 17)]⟩,
     ⟨some 16, false, none, .mov (.u 18)⟩,
     ⟨some 19, false, none, .ext (.u 16) 0⟩,
     ⟨some 20, false, none, .ext (.u 16) 1⟩,
     ⟨some 7, true, none, .mov (.u 19)⟩,
     ⟨some 8, true, none, .mov (.u 20)⟩])
  (.seq (.region [⟨some 21, false, none, .mov (.t 0)⟩,
     ⟨some 22, false, none, .mov (.t 0)⟩,
     ⟨some 23, false, none, .bin .and (.u 22) (.c (.int .i64 511))⟩,
     ⟨some 24, false, none, .mkS 1 6 [.int .i64 0] [(0, 1, (.u 21)), (1, 1, (.u 23)), (2, 1, (.c (.int .i64 511))), (3, 1, (.c (.int .i64 512))), (4, 1, (.c (.int .i64 (-1)))), (5, 1, (.c (.int .i64 0)))]⟩,
     ⟨some 9, true, none, .mov (.u 24)⟩])
  (.seq (.seq (.region [⟨some 10, true, none, .mov (.c (.int .i64 0))⟩])
   (.block 0 (.loop (.seq (.seq (.region [⟨some 25, false, none, .mov (.t 10)⟩,
         ⟨some 26, false, none, .mov (.t 9)⟩,
         ⟨some 27, false, none, .lenL (.u 26)⟩,
         ⟨some 28, true, none, .bin .lss (.u 25) (.u 27)⟩])
      (.cond (.t 28)
       (.skip)
       (.exit 0)))
     (.seq (.block 1 (.seq (.regionD [([9], ⟨some 31, false, none, .mov (.t 9)⟩),
          ([10], ⟨some 32, false, none, .mov (.t 10)⟩),
          ([31, 32], ⟨some 33, false, none, .iaS 1 (.u 31) (.u 32)⟩),
          ([33], ⟨some 34, false, none, .load false 1 (.u 33)⟩),
          ([34], ⟨some 35, false, none, .call 14 [(.u 34)]⟩),
          ([9], ⟨some 36, false, none, .mov (.t 9)⟩),
          ([10], ⟨some 37, false, none, .mov (.t 10)⟩),
          ([36, 37], ⟨some 38, false, none, .iaS 1 (.u 36) (.u 37)⟩),
          ([38], ⟨some 39, false, none, .load false 1 (.u 38)⟩),
          ([39], ⟨some 40, false, none, .call 15 [(.u 39)]⟩),
          ([35, 40], ⟨some 41, true, none, .bin .neq (.u 35) (.u 40)⟩)])
       (.cond (.t 41)
        (.seq (.region [⟨some 4, true, none, .mov (.c (.bool false))⟩])
        (.ret))
        (.skip))))
     (.region [⟨some 29, false, none, .mov (.t 10)⟩,
       ⟨some 30, false, none, .bin .add (.u 29) (.c (.int .i64 1))⟩,
       ⟨some 10, true, none, .mov (.u 30)⟩]))))))
  (.seq (.region [⟨some 42, false, none, .mov (.t 6)⟩,
     ⟨some 43, false, none, .mov (.t 8)⟩,
     ⟨some 44, false, none, .bin .eql (.u 42) (.u 43)⟩,
     ⟨some 45, false, none, .mov (.u 44)⟩,
     ⟨some 46, false, some ((.u 45), true), .mov (.t 5)⟩,
     ⟨some 47, false, some ((.u 45), true), .mov (.t 7)⟩,
     ⟨some 48, false, some ((.u 45), true), .bin .eql (.u 46) (.u 47)⟩,
     ⟨some 49, false, none, .pick (.u 45) (.u 48) (.c (.bool false))⟩,
     ⟨some 50, false, none, .mov (.u 49)⟩,
     ⟨some 51, false, some ((.u 50), true), .call 11 []⟩,
     ⟨some 52, false, none, .pick (.u 50) (.u 51) (.c (.bool false))⟩,
     ⟨some 4, true, none, .mov (.u 52)⟩])
  (.ret))))))
def r6 : List LRes := [.slot 4]
theorem t6 : (Tryd.f6.body.bind (trCode v6 Tryd.prog Tryd.f6.ntmps)) = some c6 ∧ trRes v6 Tryd.prog Tryd.f6.results.toList = some r6 := ⟨by kernel_rfl, by kernel_rfl⟩

def v7 : Nat → Bool := fun t => [0, 1, 2, 6, 7, 8, 9, 10, 11].contains t
def c7 : LCode :=
  .seq (.region [⟨some 6, true, none, .mov (.c (.bool false))⟩])
  (.seq (.region [⟨some 12, false, none, .mov (.t 0)⟩,
     ⟨some 13, false, none, .bin .and (.u 12) (.c (.int .i64 511))⟩,
     ⟨some 14, false, none, .call 15 [(.u 13)]⟩,
     ⟨some 15, false, none, .s2b (.u 14)⟩,
     ⟨some 7, true, none, .mov (.u 15)⟩])
  (.seq (.region [⟨some 16, false, none, .mov (.t 7)⟩,
     ⟨some 17, false, none, .mov (.t 1)⟩,
     ⟨some 18, false, none, .conv .i64 (.u 17)⟩,
     ⟨some 19, false, none, .bin .rem (.u 18) (.c (.int .i64 9))⟩,
     ⟨some 20, false, none, .mov (.t 2)⟩,
     ⟨some 21, false, none, .mkS 1 5 [.int .u8 0] [(0, 1, (.c (.int .u8 114))), (1, 1, (.c (.int .u8 119))), (2, 1, (.c (.int .u8 120))), (3, 1, (.c (.int .u8 45))), (4, 1, (.u 20))]⟩,
     ⟨some 22, false, none, .mov (.t 1)⟩,
     ⟨some 23, false, none, .bin .rem (.u 22) (.c (.int .u8 5))⟩,
     ⟨some 24, false, none, .iaS 1 (.u 21) (.u 23)⟩,
     ⟨some 25, false, none, .load false 1 (.u 24)⟩,
     ⟨some 26, false, none, .iaS 1 (.u 16) (.u 19)⟩,
     ⟨none, true, none, .store 1 (.u 26) (.u 25)⟩])
  (.seq (.region [⟨some 28, false, none, .mov (.t 7)⟩,
     ⟨some 29, false, none, .b2s (.u 28)⟩,
     ⟨some 30, false, none, .call 12 [(.u 29)]⟩,
     ⟨some 27, false, none, .mov (.u 30)⟩,
     ⟨some 31, false, none, .ext (.u 27) 0⟩,
     ⟨some 32, false, none, .ext (.u 27) 1⟩,
     ⟨some 8, true, none, .mov (.u 31)⟩,
     ⟨some 9, true, none, .mov (.u 32)⟩])
  (.seq (.region [⟨some 34, false, none, .mov (.t 7)⟩,
     ⟨some 35, false, none, .b2s (.u 34)⟩,
     ⟨some 36, false, none, .call 13 [(.u 35)]⟩,
     ⟨some 33, false, none, .mov (.u 36)⟩,
     ⟨some 37, false, none, .ext (.u 33) 0⟩,
     ⟨some 38, false, none, .ext (.u 33) 1⟩,
     ⟨some 10, true, none, .mov (.u 37)⟩,
     ⟨some 11, true, none, .mov (.u 38)⟩])
  (.seq (.region [⟨some 39, false, none, .mov (.t 9)⟩,
     ⟨some 40, false, none, .mov (.t 11)⟩,
     ⟨some 41, false, none, .bin .eql (.u 39) (.u 40)⟩,
     ⟨some 42, false, none, .mov (.u 41)⟩,
     ⟨some 43, false, some ((.u 42), true), .mov (.t 8)⟩,
     ⟨some 44, false, some ((.u 42), true), .mov (.t 10)⟩,
     ⟨some 45, false, some ((.u 42), true), .bin .eql (.u 43) (.u 44)⟩,
     ⟨some 46, false, none, .pick (.u 42) (.u 45) (.c (.bool false))⟩,
     ⟨some 47, false, none, .mov (.u 46)⟩,
     ⟨some 48, false, some ((.u 47), true), .call 11 []⟩,
     ⟨some 49, false, none, .pick (.u 47) (.u 48) (.c (.bool false))⟩,
     ⟨some 6, true, none, .mov (.u 49)⟩])
  (.ret))))))
def r7 : List LRes := [.slot 6]
theorem t7 : (Tryd.f7.body.bind (trCode v7 Tryd.prog Tryd.f7.ntmps)) = some c7 ∧ trRes v7 Tryd.prog Tryd.f7.results.toList = some r7 := ⟨by kernel_rfl, by kernel_rfl⟩

def v8 : Nat → Bool := fun t => [0, 2, 3, 4, 5].contains t
def c8 : LCode :=
  .seq (.region [⟨some 2, true, none, .mov (.c (.bool false))⟩])
  (.seq (.region [⟨some 6, false, none, .mov (.t 0)⟩,
     ⟨some 7, false, none, .bin .and (.u 6) (.c (.int .i64 511))⟩,
     ⟨some 8, false, none, .call 14 [(.u 7)]⟩,
     ⟨some 3, true, none, .mov (.u 8)⟩])
  (.seq (.region [⟨some 10, false, none, .mov (.t 3)⟩,
     ⟨some 11, false, none, .call 12 [(.u 10)]⟩,
     ⟨some 9, false, none, .mov (.u 11)⟩,
     ⟨some 12, false, none, .ext (.u 9) 0⟩,
     ⟨some 13, false, none, .ext (.u 9) 1⟩,
     ⟨some 4, true, none, .mov (.u 12)⟩,
     ⟨some 5, true, none, .mov (.u 13)⟩])
  (.seq (.region [⟨some 14, false, none, .mov (.t 3)⟩,
     ⟨some 15, false, none, .len (.u 14)⟩,
     ⟨some 16, false, none, .bin .eql (.u 15) (.c (.int .i64 9))⟩,
     ⟨some 17, false, none, .mov (.u 16)⟩,
     ⟨some 18, false, some ((.u 17), true), .mov (.t 5)⟩,
     ⟨some 19, false, some ((.u 17), true), .bin .eql (.u 18) (.c (.int .i64 0))⟩,
     ⟨some 20, false, none, .pick (.u 17) (.u 19) (.c (.bool false))⟩,
     ⟨some 21, false, none, .mov (.u 20)⟩,
     ⟨some 22, false, some ((.u 21), true), .mov (.t 4)⟩,
     ⟨some 23, false, some ((.u 21), true), .mov (.t 0)⟩,
     ⟨some 24, false, some ((.u 21), true), .bin .and (.u 23) (.c (.int .i64 511))⟩,
     ⟨some 25, false, some ((.u 21), true), .bin .eql (.u 22) (.u 24)⟩,
     ⟨some 26, false, none, .pick (.u 21) (.u 25) (.c (.bool false))⟩,
     ⟨some 27, false, none, .mov (.u 26)⟩,
     ⟨some 28, false, some ((.u 27), true), .call 11 []⟩,
     ⟨some 29, false, none, .pick (.u 27) (.u 28) (.c (.bool false))⟩,
     ⟨some 2, true, none, .mov (.u 29)⟩])
  (.ret))))
def r8 : List LRes := [.slot 2]
theorem t8 : (Tryd.f8.body.bind (trCode v8 Tryd.prog Tryd.f8.ntmps)) = some c8 ∧ trRes v8 Tryd.prog Tryd.f8.results.toList = some r8 := ⟨by kernel_rfl, by kernel_rfl⟩

def v9 : Nat → Bool := fun t => [0, 1, 2, 3, 4, 8, 9, 15, 17, 32, 37].contains t
def c9 : LCode :=
  .seq (.region [⟨some 4, true, none, .box (.t 0)⟩,
     ⟨some 8, true, none, .mov (.c (.bool false))⟩])
  (.seq (.seq (.region [⟨some 10, false, none, .mov (.t 3)⟩,
      ⟨some 11, false, none, .bin .lss (.u 10) (.c (.int .i64 0))⟩,
      ⟨some 12, false, none, .mov (.u 11)⟩,
      ⟨some 13, false, some ((.u 12), false), .mov (.t 3)⟩,
      ⟨some 14, false, some ((.u 12), false), .bin .gtr (.u 13) (.c (.int .i64 7))⟩,
      ⟨some 15, true, none, .pick (.u 12) (.c (.bool true)) (.u 14)⟩])
   (.cond (.t 15)
    (.seq (.region [⟨some 8, true, none, .mov (.c (.bool false))⟩])
    (.ret))
    (.skip)))
  (.seq (.seq (.region [⟨some 16, false, none, .mov (.t 1)⟩,
      ⟨some 17, true, none, .bin .eql (.u 16) (.c (.int .i64 0))⟩])
   (.cond (.t 17)
    (.seq (.region [⟨some 18, false, none, .mov (.t 3)⟩,
       ⟨some 19, false, none, .bin .and (.u 18) (.c (.int .i64 1))⟩,
       ⟨some 20, false, none, .bin .eql (.u 19) (.c (.int .i64 0))⟩,
       ⟨some 21, false, none, .mov (.u 20)⟩,
       ⟨some 22, false, some ((.u 21), false), .faddr 1 (.t 4)⟩,
       ⟨some 23, false, some ((.u 21), false), .load false 1 (.u 22)⟩,
       ⟨some 24, false, some ((.u 21), false), .bin .eql (.u 23) (.c (.int .i64 2))⟩,
       ⟨some 25, false, none, .pick (.u 21) (.c (.bool true)) (.u 24)⟩,
       ⟨some 26, false, none, .mov (.u 25)⟩,
       ⟨some 27, false, some ((.u 26), false), .faddr 2 (.t 4)⟩,
       ⟨some 28, false, some ((.u 26), false), .load false 1 (.u 27)⟩,
       ⟨some 29, false, some ((.u 26), false), .bin .and (.u 28) (.c (.int .i64 73))⟩,
       ⟨some 30, false, some ((.u 26), false), .bin .neq (.u 29) (.c (.int .i64 0))⟩,
       ⟨some 31, false, none, .pick (.u 26) (.c (.bool true)) (.u 30)⟩,
       ⟨some 8, true, none, .mov (.u 31)⟩])
    (.ret))
    (.skip)))
  (.seq (.region [⟨some 9, true, none, .mov (.c (.int .i64 2))⟩])
  (.seq (.block 0 (.seq (.region [⟨some 33, false, none, .mov (.t 1)⟩,
       ⟨some 34, false, none, .faddr 3 (.t 4)⟩,
       ⟨some 35, false, none, .load false 1 (.u 34)⟩,
       ⟨some 36, false, none, .bin .eql (.u 33) (.u 35)⟩,
       ⟨some 32, true, none, .mov (.u 36)⟩])
    (.cond (.t 32)
     (.region [⟨some 9, true, none, .mov (.c (.int .i64 0))⟩])
     (.seq (.region [⟨some 38, false, none, .mov (.t 2)⟩,
        ⟨some 39, false, none, .faddr 4 (.t 4)⟩,
        ⟨some 40, false, none, .load false 1 (.u 39)⟩,
        ⟨some 41, false, none, .bin .eql (.u 38) (.u 40)⟩,
        ⟨some 37, true, none, .mov (.u 41)⟩])
     (.cond (.t 37)
      (.region [⟨some 9, true, none, .mov (.c (.int .i64 1))⟩])
      (.skip))))))
  (.seq (.region [⟨some 42, false, none, .faddr 2 (.t 4)⟩,
     ⟨some 43, false, none, .load false 1 (.u 42)⟩,
     ⟨some 44, false, none, .mov (.t 9)⟩,
     ⟨some 45, false, none, .bin .mul (.c (.int .i64 3)) (.u 44)⟩,
     ⟨some 46, false, none, .bin .sub (.c (.int .i64 6)) (.u 45)⟩,
     ⟨some 47, false, none, .bin .shr (.u 43) (.u 46)⟩,
     ⟨some 48, false, none, .mov (.t 3)⟩,
     ⟨some 49, false, none, .bin .and (.u 47) (.u 48)⟩,
     ⟨some 50, false, none, .mov (.t 3)⟩,
     ⟨some 51, false, none, .bin .eql (.u 49) (.u 50)⟩,
     ⟨some 8, true, none, .mov (.u 51)⟩])
  (.ret))))))
def r9 : List LRes := [.slot 8]
theorem t9 : (Tryd.f9.body.bind (trCode v9 Tryd.prog Tryd.f9.ntmps)) = some c9 ∧ trRes v9 Tryd.prog Tryd.f9.results.toList = some r9 := ⟨by kernel_rfl, by kernel_rfl⟩

def v10 : Nat → Bool := fun t => [0, 1, 2, 3, 4, 8, 9, 15, 17, 38, 46].contains t
def c10 : LCode :=
  .seq (.region [⟨some 4, true, none, .box (.t 0)⟩,
     ⟨some 8, true, none, .mov (.c (.bool false))⟩])
  (.seq (.seq (.region [⟨some 10, false, none, .mov (.t 3)⟩,
      ⟨some 11, false, none, .bin .lss (.u 10) (.c (.int .i64 0))⟩,
      ⟨some 12, false, none, .mov (.u 11)⟩,
      ⟨some 13, false, some ((.u 12), false), .mov (.t 3)⟩,
      ⟨some 14, false, some ((.u 12), false), .bin .gtr (.u 13) (.c (.int .i64 7))⟩,
      ⟨some 15, true, none, .pick (.u 12) (.c (.bool true)) (.u 14)⟩])
   (.cond (.t 15)
    (.seq (.region [⟨some 8, true, none, .mov (.c (.bool false))⟩])
    (.ret))
    (.skip)))
  (.seq (.seq (.region [⟨some 16, false, none, .mov (.t 1)⟩,
      ⟨some 17, true, none, .bin .eql (.u 16) (.c (.int .i64 0))⟩])
   (.cond (.t 17)
    (.seq (.region [⟨some 18, false, none, .mov (.t 3)⟩,
       ⟨some 19, false, none, .bin .and (.u 18) (.c (.int .i64 1))⟩,
       ⟨some 20, false, none, .bin .eql (.u 19) (.c (.int .i64 0))⟩,
       ⟨some 21, false, none, .mov (.u 20)⟩,
       ⟨some 22, false, some ((.u 21), false), .faddr 1 (.t 4)⟩,
       ⟨some 23, false, some ((.u 21), false), .load false 1 (.u 22)⟩,
       ⟨some 24, false, some ((.u 21), false), .bin .eql (.u 23) (.c (.int .i64 2))⟩,
       ⟨some 25, false, none, .pick (.u 21) (.c (.bool true)) (.u 24)⟩,
       ⟨some 26, false, none, .mov (.u 25)⟩,
       ⟨some 27, false, some ((.u 26), false), .faddr 2 (.t 4)⟩,
       ⟨some 28, false, some ((.u 26), false), .load false 1 (.u 27)⟩,
       ⟨some 29, false, some ((.u 26), false), .bin .and (.u 28) (.c (.int .i64 73))⟩,
       ⟨some 30, false, some ((.u 26), false), .bin .neq (.u 29) (.c (.int .i64 0))⟩,
       ⟨some 31, false, none, .pick (.u 26) (.c (.bool true)) (.u 30)⟩,
       ⟨some 8, true, none, .mov (.u 31)⟩])
    (.ret))
    (.skip)))
  (.seq (.region [⟨some 32, false, none, .faddr 2 (.t 4)⟩,
     ⟨some 33, false, none, .load false 1 (.u 32)⟩,
     ⟨some 34, false, none, .bin .and (.u 33) (.c (.int .i64 7))⟩,
     ⟨some 9, true, none, .mov (.u 34)⟩])
  (.seq (.seq (.region [⟨some 35, false, none, .mov (.t 1)⟩,
      ⟨some 36, false, none, .faddr 3 (.t 4)⟩,
      ⟨some 37, false, none, .load false 1 (.u 36)⟩,
      ⟨some 38, true, none, .bin .eql (.u 35) (.u 37)⟩])
   (.cond (.t 38)
    (.region [⟨some 39, false, none, .faddr 2 (.t 4)⟩,
      ⟨some 40, false, none, .load false 1 (.u 39)⟩,
      ⟨some 41, false, none, .bin .shr (.u 40) (.c (.int .u64 6))⟩,
      ⟨some 42, false, none, .bin .and (.u 41) (.c (.int .i64 7))⟩,
      ⟨some 9, true, none, .mov (.u 42)⟩])
    (.seq (.region [⟨some 43, false, none, .mov (.t 2)⟩,
       ⟨some 44, false, none, .faddr 4 (.t 4)⟩,
       ⟨some 45, false, none, .load false 1 (.u 44)⟩,
       ⟨some 46, true, none, .bin .eql (.u 43) (.u 45)⟩])
    (.cond (.t 46)
     (.region [⟨some 47, false, none, .faddr 2 (.t 4)⟩,
       ⟨some 48, false, none, .load false 1 (.u 47)⟩,
       ⟨some 49, false, none, .bin .shr (.u 48) (.c (.int .u64 3))⟩,
       ⟨some 50, false, none, .bin .and (.u 49) (.c (.int .i64 7))⟩,
       ⟨some 9, true, none, .mov (.u 50)⟩])
     (.skip)))))
  (.seq (.region [⟨some 51, false, none, .mov (.t 9)⟩,
     ⟨some 52, false, none, .mov (.t 3)⟩,
     ⟨some 53, false, none, .bin .and (.u 51) (.u 52)⟩,
     ⟨some 54, false, none, .mov (.t 3)⟩,
     ⟨some 55, false, none, .bin .eql (.u 53) (.u 54)⟩,
     ⟨some 8, true, none, .mov (.u 55)⟩])
  (.ret))))))
def r10 : List LRes := [.slot 8]
theorem t10 : (Tryd.f10.body.bind (trCode v10 Tryd.prog Tryd.f10.ntmps)) = some c10 ∧ trRes v10 Tryd.prog Tryd.f10.results.toList = some r10 := ⟨by kernel_rfl, by kernel_rfl⟩

def v11 : Nat → Bool := fun t => [0, 1].contains t
def c11 : LCode :=
  .seq (.region [⟨some 0, true, none, .mov (.c (.bool false))⟩])
  (.seq (.region [⟨some 2, false, none, .build [.int .i64 0, .int .i64 0, .int .i64 0, .int .i64 0, .int .i64 0, .int .i64 0, .str [], .fsl 1 0 []] [(1, 1, (.c (.int .i64 1))), (2, 1, (.c (.int .i64 416))), (3, 1, (.c (.int .i64 5))), (4, 1, (.c (.int .i64 6)))]⟩,
     ⟨some 1, true, none, .zero [.int .i64 0, .int .i64 0, .int .i64 0, .int .i64 0, .int .i64 0, .int .i64 0, .str [], .fsl 1 0 []]⟩,
     ⟨none, true, none, .store 8 (.t 1) (.u 2)⟩])
  (.seq (.region [⟨some 3, false, none, .call 14 [(.c (.int .i64 416))]⟩,
     ⟨some 4, false, none, .bin .eql (.u 3) (.c (.str [114, 119, 45, 114, 45, 45, 45, 45, 45]))⟩,
     ⟨some 5, false, none, .mov (.u 4)⟩,
     ⟨some 6, false, some ((.u 5), true), .load true 8 (.t 1)⟩,
     ⟨some 7, false, some ((.u 5), true), .call 9 [(.u 6), (.c (.int .i64 5)), (.c (.int .i64 0)), (.c (.int .i64 6))]⟩,
     ⟨some 8, false, none, .pick (.u 5) (.u 7) (.c (.bool false))⟩,
     ⟨some 9, false, none, .mov (.u 8)⟩,
     ⟨some 10, false, some ((.u 9), true), .load true 8 (.t 1)⟩,
     ⟨some 11, false, some ((.u 9), true), .call 9 [(.u 10), (.c (.int .i64 7)), (.c (.int .i64 6)), (.c (.int .i64 4))]⟩,
     ⟨some 12, false, none, .pick (.u 9) (.u 11) (.c (.bool false))⟩,
     ⟨some 13, false, none, .mov (.u 12)⟩,
     ⟨some 14, false, some ((.u 13), true), .load true 8 (.t 1)⟩,
     ⟨some 15, false, some ((.u 13), true), .call 9 [(.u 14), (.c (.int .i64 7)), (.c (.int .i64 6)), (.c (.int .i64 2))]⟩,
     ⟨some 16, false, some ((.u 13), true), .un .not (.u 15)⟩,
     ⟨some 17, false, none, .pick (.u 13) (.u 16) (.c (.bool false))⟩,
     ⟨some 18, false, none, .mov (.u 17)⟩,
     ⟨some 19, false, some ((.u 18), true), .load true 8 (.t 1)⟩,
     ⟨some 20, false, some ((.u 18), true), .call 9 [(.u 19), (.c (.int .i64 7)), (.c (.int .i64 7)), (.c (.int .i64 4))]⟩,
     ⟨some 21, false, some ((.u 18), true), .un .not (.u 20)⟩,
     ⟨some 22, false, none, .pick (.u 18) (.u 21) (.c (.bool false))⟩,
     ⟨some 0, true, none, .mov (.u 22)⟩])
  (.ret)))
def r11 : List LRes := [.slot 0]
theorem t11 : (Tryd.f11.body.bind (trCode v11 Tryd.prog Tryd.f11.ntmps)) = some c11 ∧ trRes v11 Tryd.prog Tryd.f11.results.toList = some r11 := ⟨by kernel_rfl, by kernel_rfl⟩

def v12 : Nat → Bool := fun t => [0, 2, 3, 4, 5, 6, 9, 10, 11, 12, 17, 18, 26].contains t
def c12 : LCode :=
  .seq (.region [⟨some 2, true, none, .mov (.c (.int .i64 0))⟩,
     ⟨some 3, true, none, .mov (.c (.int .i64 0))⟩])
  (.seq (.seq (.region [⟨some 7, false, none, .mov (.t 0)⟩,
      ⟨some 8, false, none, .len (.u 7)⟩,
      ⟨some 9, true, none, .bin .neq (.u 8) (.c (.int .i64 9))⟩])
   (.cond (.t 9)
    (.seq (.region [⟨some 2, true, none, .mov (.c (.int .i64 0))⟩,
       ⟨some 3, true, none, .mov (.c (.int .i64 80))⟩])
    (.ret))
    (.skip)))
  (.seq (.region [⟨some 4, true, none, .mov (.c (.int .i64 0))⟩])
  (.seq (.seq (.region [⟨some 10, true, none, .load true 9 (.g 0)⟩,
      ⟨some 11, true, none, .mov (.c (.int .i64 0))⟩])
   (.block 0 (.loop (.seq (.region [⟨some 12, true, none, .bin .lss (.t 11) (.c (.int .i64 9))⟩])
     (.seq (.cond (.t 12)
       (.skip)
       (.exit 0))
     (.seq (.block 1 (.seq (.region [⟨some 13, false, none, .mov (.t 11)⟩,
          ⟨some 14, false, none, .ixA false 9 1 (.t 10) (.t 11)⟩,
          ⟨some 5, true, none, .mov (.u 13)⟩,
          ⟨some 6, true, none, .mov (.u 14)⟩])
       (.seq (.region [⟨some 15, false, none, .mov (.t 0)⟩,
          ⟨some 16, false, none, .mov (.t 5)⟩,
          ⟨some 17, true, none, .ixS (.u 15) (.u 16)⟩])
       (.block 2 (.seq (.region [⟨some 19, false, none, .mov (.t 6)⟩,
           ⟨some 20, false, none, .bin .eql (.t 17) (.u 19)⟩,
           ⟨some 18, true, none, .mov (.u 20)⟩])
        (.cond (.t 18)
         (.region [⟨some 21, false, none, .mov (.t 4)⟩,
           ⟨some 22, false, none, .mov (.t 5)⟩,
           ⟨some 23, false, none, .bin .sub (.c (.int .i64 8)) (.u 22)⟩,
           ⟨some 24, false, none, .bin .shl (.c (.int .i64 1)) (.u 23)⟩,
           ⟨some 25, false, none, .bin .or (.u 21) (.u 24)⟩,
           ⟨some 4, true, none, .mov (.u 25)⟩])
         (.seq (.region [⟨some 27, false, none, .bin .eql (.t 17) (.c (.int .u8 45))⟩,
            ⟨some 26, true, none, .mov (.u 27)⟩])
         (.cond (.t 26)
          (.skip)
          (.seq (.region [⟨some 2, true, none, .mov (.c (.int .i64 0))⟩,
             ⟨some 3, true, none, .mov (.c (.int .i64 80))⟩])
          (.ret))))))))))
     (.region [⟨some 28, false, none, .bin .add (.t 11) (.c (.int .i64 1))⟩,
       ⟨some 11, true, none, .mov (.u 28)⟩])))))))
  (.seq (.region [⟨some 29, false, none, .mov (.t 4)⟩,
     ⟨some 2, true, none, .mov (.u 29)⟩,
     ⟨some 3, true, none, .mov (.c (.int .i64 0))⟩])
  (.ret)))))
def r12 : List LRes := [.slot 2, .slot 3]
theorem t12 : (Tryd.f12.body.bind (trCode v12 Tryd.prog Tryd.f12.ntmps)) = some c12 ∧ trRes v12 Tryd.prog Tryd.f12.results.toList = some r12 := ⟨by kernel_rfl, by kernel_rfl⟩

def v13 : Nat → Bool := fun t => [0, 2, 3, 4, 6, 12].contains t
def c13 : LCode :=
  .seq (.region [⟨some 2, true, none, .mov (.c (.int .i64 0))⟩,
     ⟨some 3, true, none, .mov (.c (.int .i64 0))⟩])
  (.seq (.seq (.region [⟨some 4, true, none, .mov (.c (.int .i64 0))⟩])
   (.block 0 (.loop (.seq (.seq (.region [⟨some 5, false, none, .mov (.t 4)⟩,
         ⟨some 6, true, none, .bin .lss (.u 5) (.c (.int .i64 512))⟩])
      (.cond (.t 6)
       (.skip)
       (.exit 0)))
     (.seq (.block 1 (.seq (.region [⟨some 9, false, none, .mov (.t 4)⟩,
          ⟨some 10, false, none, .call 15 [(.u 9)]⟩,
          ⟨some 11, false, none, .mov (.t 0)⟩,
          ⟨some 12, true, none, .bin .eql (.u 10) (.u 11)⟩])
       (.cond (.t 12)
        (.seq (.region [⟨some 13, false, none, .mov (.t 4)⟩,
           ⟨some 2, true, none, .mov (.u 13)⟩,
           ⟨some 3, true, none, .mov (.c (.int .i64 0))⟩])
        (.ret))
        (.skip))))
     (.region [⟨some 7, false, none, .mov (.t 4)⟩,
       ⟨some 8, false, none, .bin .add (.u 7) (.c (.int .i64 1))⟩,
       ⟨some 4, true, none, .mov (.u 8)⟩]))))))
  (.seq (.region [⟨some 2, true, none, .mov (.c (.int .i64 0))⟩,
     ⟨some 3, true, none, .mov (.c (.int .i64 80))⟩])
  (.ret)))
def r13 : List LRes := [.slot 2, .slot 3]
theorem t13 : (Tryd.f13.body.bind (trCode v13 Tryd.prog Tryd.f13.ntmps)) = some c13 ∧ trRes v13 Tryd.prog Tryd.f13.results.toList = some r13 := ⟨by kernel_rfl, by kernel_rfl⟩

def v14 : Nat → Bool := fun t => [0, 2, 3, 4, 10, 12, 13, 20].contains t
def c14 : LCode :=
  .seq (.region [⟨some 2, true, none, .mov (.c (.str []))⟩])
  (.seq (.seq (.region [⟨some 5, false, none, .mov (.t 0)⟩,
      ⟨some 6, false, none, .bin .lss (.u 5) (.c (.int .i64 0))⟩,
      ⟨some 7, false, none, .mov (.u 6)⟩,
      ⟨some 8, false, some ((.u 7), false), .mov (.t 0)⟩,
      ⟨some 9, false, some ((.u 7), false), .bin .gtr (.u 8) (.c (.int .i64 511))⟩,
      ⟨some 10, true, none, .pick (.u 7) (.c (.bool true)) (.u 9)⟩])
   (.cond (.t 10)
    (.seq (.region [⟨some 2, true, none, .mov (.c (.str []))⟩])
    (.ret))
    (.skip)))
  (.seq (.region [⟨some 11, false, none, .load true 9 (.g 0)⟩,
     ⟨some 3, true, none, .zero [.int .u8 0, .int .u8 0, .int .u8 0, .int .u8 0, .int .u8 0, .int .u8 0, .int .u8 0, .int .u8 0, .int .u8 0]⟩,
     ⟨none, true, none, .store 9 (.t 3) (.u 11)⟩])
  (.seq (.seq (.region [⟨some 12, true, none, .mov (.c (.int .i64 0))⟩])
   (.block 0 (.loop (.seq (.region [⟨some 13, true, none, .bin .lss (.t 12) (.c (.int .i64 9))⟩])
     (.seq (.cond (.t 13)
       (.skip)
       (.exit 0))
     (.seq (.block 1 (.seq (.region [⟨some 14, false, none, .mov (.t 12)⟩,
          ⟨some 4, true, none, .mov (.u 14)⟩])
       (.seq (.region [⟨some 15, false, none, .mov (.t 0)⟩,
          ⟨some 16, false, none, .mov (.t 4)⟩,
          ⟨some 17, false, none, .bin .sub (.c (.int .i64 8)) (.u 16)⟩,
          ⟨some 18, false, none, .bin .shr (.u 15) (.u 17)⟩,
          ⟨some 19, false, none, .bin .and (.u 18) (.c (.int .i64 1))⟩,
          ⟨some 20, true, none, .bin .eql (.u 19) (.c (.int .i64 0))⟩])
       (.cond (.t 20)
        (.region [⟨some 21, false, none, .mov (.t 4)⟩,
          ⟨some 22, false, none, .iaA 9 1 (.t 3) (.u 21)⟩,
          ⟨none, true, none, .store 1 (.u 22) (.c (.int .u8 45))⟩])
        (.skip)))))
     (.region [⟨some 23, false, none, .bin .add (.t 12) (.c (.int .i64 1))⟩,
       ⟨some 12, true, none, .mov (.u 23)⟩])))))))
  (.seq (.region [⟨some 24, false, none, .slA 9 1 (.t 3) none none none⟩,
     ⟨some 25, false, none, .b2s (.u 24)⟩,
     ⟨some 2, true, none, .mov (.u 25)⟩])
  (.ret)))))
def r14 : List LRes := [.slot 2]
theorem t14 : (Tryd.f14.body.bind (trCode v14 Tryd.prog Tryd.f14.ntmps)) = some c14 ∧ trRes v14 Tryd.prog Tryd.f14.results.toList = some r14 := ⟨by kernel_rfl, by kernel_rfl⟩

def v15 : Nat → Bool := fun t => [0, 2, 3, 4, 10, 12, 21].contains t
def c15 : LCode :=
  .seq (.region [⟨some 2, true, none, .mov (.c (.str []))⟩])
  (.seq (.seq (.region [⟨some 5, false, none, .mov (.t 0)⟩,
      ⟨some 6, false, none, .bin .lss (.u 5) (.c (.int .i64 0))⟩,
      ⟨some 7, false, none, .mov (.u 6)⟩,
      ⟨some 8, false, some ((.u 7), false), .mov (.t 0)⟩,
      ⟨some 9, false, some ((.u 7), false), .bin .gtr (.u 8) (.c (.int .i64 511))⟩,
      ⟨some 10, true, none, .pick (.u 7) (.c (.bool true)) (.u 9)⟩])
   (.cond (.t 10)
    (.seq (.region [⟨some 2, true, none, .mov (.c (.str []))⟩])
    (.ret))
    (.skip)))
  (.seq (.region [⟨some 3, true, none, .mov (.c (.str []))⟩])
  (.seq (.seq (.region [⟨some 4, true, none, .mov (.c (.int .i64 0))⟩])
   (.block 0 (.loop (.seq (.seq (.region [⟨some 11, false, none, .mov (.t 4)⟩,
         ⟨some 12, true, none, .bin .lss (.u 11) (.c (.int .i64 9))⟩])
      (.cond (.t 12)
       (.skip)
       (.exit 0)))
     (.seq (.block 1 (.seq (.region [⟨some 15, false, none, .mov (.t 0)⟩,
          ⟨some 16, false, none, .mov (.t 4)⟩,
          ⟨some 17, false, none, .bin .sub (.c (.int .i64 8)) (.u 16)⟩,
          ⟨some 18, false, none, .conv .u64 (.u 17)⟩,
          ⟨some 19, false, none, .bin .shr (.u 15) (.u 18)⟩,
          ⟨some 20, false, none, .bin .and (.u 19) (.c (.int .i64 1))⟩,
          ⟨some 21, true, none, .bin .eql (.u 20) (.c (.int .i64 1))⟩])
       (.cond (.t 21)
        (.region [⟨some 22, false, none, .mov (.t 3)⟩,
          ⟨some 23, false, none, .mov (.t 4)⟩,
          ⟨some 24, false, none, .mov (.t 4)⟩,
          ⟨some 25, false, none, .bin .add (.u 24) (.c (.int .i64 1))⟩,
          ⟨some 26, false, none, .slS (.c (.str [114, 119, 120, 114, 119, 120, 114, 119, 120])) (some (.u 23)) (some (.u 25))⟩,
          ⟨some 27, false, none, .bin .add (.u 22) (.u 26)⟩,
          ⟨some 3, true, none, .mov (.u 27)⟩])
        (.region [⟨some 28, false, none, .mov (.t 3)⟩,
          ⟨some 29, false, none, .bin .add (.u 28) (.c (.str [45]))⟩,
          ⟨some 3, true, none, .mov (.u 29)⟩]))))
     (.region [⟨some 13, false, none, .mov (.t 4)⟩,
       ⟨some 14, false, none, .bin .add (.u 13) (.c (.int .i64 1))⟩,
       ⟨some 4, true, none, .mov (.u 14)⟩]))))))
  (.seq (.region [⟨some 30, false, none, .mov (.t 3)⟩,
     ⟨some 2, true, none, .mov (.u 30)⟩])
  (.ret)))))
def r15 : List LRes := [.slot 2]
theorem t15 : (Tryd.f15.body.bind (trCode v15 Tryd.prog Tryd.f15.ntmps)) = some c15 ∧ trRes v15 Tryd.prog Tryd.f15.results.toList = some r15 := ⟨by kernel_rfl, by kernel_rfl⟩


end Go.Proofs.YtpcacgmconokdaaDoor
