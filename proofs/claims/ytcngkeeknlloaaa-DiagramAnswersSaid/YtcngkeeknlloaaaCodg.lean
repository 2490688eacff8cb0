/- The functions' bodies as the engine reads them; written by program out of the translation, checked by the kernel. -/
import Derived.Test.YtcngkeeknlloaaaProg
import Derived.Test.YtcngkeeknlloaaaLxL
import Derived.KernelRfl
namespace Go.Proofs.Ytcngkeeknlloaaa
open Go Go.Lx
set_option maxRecDepth 100000
def v30 : Nat → Bool := fun t => [0, 2, 3, 4, 14, 18, 26, 38].contains t
def c30 : LCode :=
  .seq (.region [⟨some 2, true, none, .zero [.int .i64 0, .int .i64 0, .int .i64 0, .int .i64 0, .int .i64 0, .int .i64 0, .int .i64 0, .int .i64 0, .int .i64 0, .int .i64 0, .int .i64 0, .str [], .str [], .fsl 1 0 [], .bool false, .int .i64 0, .int .i64 0, .int .i64 0, .int .i64 0, .int .i64 0, .fsl 1 0 [], .fsl 1 0 [], .int .i64 0, .fsl 1 0 [], .int .i64 0]⟩])
  (.seq (.region [⟨some 5, false, none, .mov (.t 0)⟩,
     ⟨some 6, false, none, .call 22 [(.u 5), (.c (.int .i64 1)), (.c (.int .i64 2))]⟩,
     ⟨some 7, false, none, .mov (.t 0)⟩,
     ⟨some 8, false, none, .call 55 [(.u 7)]⟩,
     ⟨some 9, false, none, .mov (.t 0)⟩,
     ⟨some 10, false, none, .call 56 [(.u 9)]⟩,
     ⟨some 11, false, none, .build [.int .i64 0, .int .i64 0, .int .i64 0, .int .i64 0, .int .i64 0, .int .i64 0, .int .i64 0, .int .i64 0, .int .i64 0, .int .i64 0, .int .i64 0, .str [], .str [], .fsl 1 0 [], .bool false, .int .i64 0, .int .i64 0, .int .i64 0, .int .i64 0, .int .i64 0, .fsl 1 0 [], .fsl 1 0 [], .int .i64 0, .fsl 1 0 [], .int .i64 0] [(0, 1, (.u 6)), (1, 14, (.u 8)), (15, 7, (.u 10))]⟩,
     ⟨some 3, true, none, .zero [.int .i64 0, .int .i64 0, .int .i64 0, .int .i64 0, .int .i64 0, .int .i64 0, .int .i64 0, .int .i64 0, .int .i64 0, .int .i64 0, .int .i64 0, .str [], .str [], .fsl 1 0 [], .bool false, .int .i64 0, .int .i64 0, .int .i64 0, .int .i64 0, .int .i64 0, .fsl 1 0 [], .fsl 1 0 [], .int .i64 0, .fsl 1 0 [], .int .i64 0]⟩,
     ⟨none, true, none, .store 25 (.t 3) (.u 11)⟩])
  (.seq (.seq (.region [⟨some 12, false, none, .mov (.t 0)⟩,
      ⟨some 13, false, none, .call 21 [(.u 12), (.c (.int .i64 4))]⟩,
      ⟨some 14, true, none, .bin .gtr (.u 13) (.c (.int .i64 0))⟩])
   (.cond (.t 14)
    (.region [⟨some 15, false, none, .faddr 0 (.t 3)⟩,
      ⟨none, true, none, .store 1 (.u 15) (.c (.int .i64 2))⟩])
    (.skip)))
  (.seq (.seq (.region [⟨some 16, false, none, .faddr 0 (.t 3)⟩,
      ⟨some 17, false, none, .load false 1 (.u 16)⟩,
      ⟨some 18, true, none, .bin .eql (.u 17) (.c (.int .i64 2))⟩])
   (.cond (.t 18)
    (.seq (.region [⟨some 19, false, none, .mov (.t 0)⟩,
       ⟨some 20, false, none, .mkS 1 6 [.int .i64 0] [(0, 1, (.c (.int .i64 0))), (1, 1, (.c (.int .i64 0))), (2, 1, (.c (.int .i64 3))), (3, 1, (.c (.int .i64 (-1)))), (4, 1, (.c (.int .i64 (-2)))), (5, 1, (.c (.int .i64 (-13))))]⟩,
       ⟨some 21, false, none, .call 39 [(.u 19), (.u 20)]⟩,
       ⟨some 22, false, none, .faddr 22 (.t 3)⟩,
       ⟨none, true, none, .store 1 (.u 22) (.u 21)⟩])
    (.seq (.region [⟨some 23, false, none, .mov (.t 0)⟩,
       ⟨some 24, false, none, .call 21 [(.u 23), (.c (.int .i64 3))]⟩,
       ⟨some 4, true, none, .mov (.u 24)⟩])
    (.block 0 (.loop (.seq (.seq (.region [⟨some 25, false, none, .mov (.t 4)⟩,
          ⟨some 26, true, none, .bin .gtr (.u 25) (.c (.int .i64 0))⟩])
       (.cond (.t 26)
        (.skip)
        (.exit 0)))
      (.seq (.block 1 (.regionD [⟨0, [3], false, [], ⟨some 29, false, none, .faddr 23 (.t 3)⟩⟩,
          ⟨1, [29], true, [], ⟨some 30, false, none, .load false 1 (.u 29)⟩⟩,
          ⟨2, [0], false, [], ⟨some 31, false, none, .mov (.t 0)⟩⟩,
          ⟨3, [31], false, [1], ⟨some 32, false, none, .call 57 [(.u 31)]⟩⟩,
          ⟨4, [32], false, [], ⟨some 33, false, none, .mkS 13 1 [.str [], .str [], .int .i64 0, .int .i64 0, .str [], .int .i64 0, .int .i64 0, .int .i64 0, .int .i64 0, .int .i64 0, .int .i64 0, .int .i64 0, .int .i64 0] [(0, 13, (.u 32))]⟩⟩,
          ⟨5, [30, 33], false, [], ⟨some 34, false, none, .app 13 128 (.u 30) (.u 33)⟩⟩,
          ⟨6, [3], false, [], ⟨some 35, false, none, .faddr 23 (.t 3)⟩⟩,
          ⟨7, [35, 34], false, [], ⟨none, true, none, .store 1 (.u 35) (.u 34)⟩⟩]))
      (.region [⟨some 27, false, none, .mov (.t 4)⟩,
        ⟨some 28, false, none, .bin .sub (.u 27) (.c (.int .i64 1))⟩,
        ⟨some 4, true, none, .mov (.u 28)⟩])))))))
    (.skip)))
  (.seq (.seq (.region [⟨some 36, false, none, .mov (.t 0)⟩,
      ⟨some 37, false, none, .call 21 [(.u 36), (.c (.int .i64 6))]⟩,
      ⟨some 38, true, none, .bin .eql (.u 37) (.c (.int .i64 5))⟩])
   (.cond (.t 38)
    (.region [⟨some 39, false, none, .mov (.t 0)⟩,
      ⟨some 40, false, none, .mkS 1 4 [.int .i64 0] [(0, 1, (.c (.int .i64 1300))), (1, 1, (.c (.int .i64 1302))), (2, 1, (.c (.int .i64 1307))), (3, 1, (.c (.int .i64 1005)))]⟩,
      ⟨some 41, false, none, .call 39 [(.u 39), (.u 40)]⟩,
      ⟨some 42, false, none, .faddr 24 (.t 3)⟩,
      ⟨none, true, none, .store 1 (.u 42) (.u 41)⟩])
    (.skip)))
  (.seq (.region [⟨some 43, false, none, .load true 25 (.t 3)⟩,
     ⟨none, true, none, .store 25 (.t 2) (.u 43)⟩])
  (.ret))))))
def r30 : List LRes := [.cell true 25 2]
theorem t30 : (Try.f30.body.bind (trCode v30 Try.prog Try.f30.ntmps)) = some c30 ∧ trRes v30 Try.prog Try.f30.results.toList = some r30 := ⟨by kernel_rfl, by kernel_rfl⟩

def v33 : Nat → Bool := fun t => [0, 1, 2, 3, 4, 7, 8, 9, 10, 11, 12, 13, 19, 20, 21, 22, 28, 36, 37, 38, 39, 73].contains t
def c33 : LCode :=
  .seq (.region [⟨some 4, true, none, .box (.t 0)⟩,
     ⟨some 7, true, none, .box (.t 3)⟩,
     ⟨some 8, true, none, .mov (.c (.fsl 1 0 []))⟩])
  (.seq (.region [⟨some 14, false, none, .faddr 0 (.t 4)⟩,
     ⟨some 15, false, none, .load false 1 (.u 14)⟩,
     ⟨some 16, false, none, .lenL (.u 15)⟩,
     ⟨some 17, false, none, .make 1 1 [.bool false] (.u 16) (.u 16)⟩,
     ⟨some 9, true, none, .mov (.u 17)⟩])
  (.seq (.seq (.region [⟨some 18, false, none, .faddr 0 (.t 4)⟩,
      ⟨some 19, true, none, .load false 1 (.u 18)⟩,
      ⟨some 20, true, none, .lenL (.t 19)⟩,
      ⟨some 21, true, none, .mov (.c (.int .i64 0))⟩])
   (.block 0 (.loop (.seq (.region [⟨some 22, true, none, .bin .lss (.t 21) (.t 20)⟩])
     (.seq (.cond (.t 22)
       (.skip)
       (.exit 0))
     (.seq (.block 1 (.seq (.region [⟨some 23, false, none, .mov (.t 21)⟩,
          ⟨some 24, false, none, .iaS 8 (.t 19) (.t 21)⟩,
          ⟨some 25, false, none, .load true 8 (.u 24)⟩,
          ⟨some 11, true, none, .zero [.int .i64 0, .int .i64 0, .int .i64 0, .str [], .int .i64 0, .int .i64 0, .str [], .int .i64 0]⟩,
          ⟨some 10, true, none, .mov (.u 23)⟩,
          ⟨none, true, none, .store 8 (.t 11) (.u 25)⟩])
       (.seq (.seq (.region [⟨some 26, false, none, .faddr 5 (.t 11)⟩,
           ⟨some 27, false, none, .load false 1 (.u 26)⟩,
           ⟨some 28, true, none, .bin .eql (.u 27) (.c (.int .i64 0))⟩])
        (.cond (.t 28)
         (.seq (.region [⟨some 29, false, none, .mov (.t 9)⟩,
            ⟨some 30, false, none, .mov (.t 10)⟩,
            ⟨some 31, false, none, .faddr 0 (.t 11)⟩,
            ⟨some 32, false, none, .load true 5 (.u 31)⟩,
            ⟨some 33, false, none, .load true 25 (.t 7)⟩,
            ⟨some 34, false, none, .call 59 [(.u 32), (.u 33)]⟩,
            ⟨some 35, false, none, .iaS 1 (.u 29) (.u 30)⟩,
            ⟨none, true, none, .store 1 (.u 35) (.u 34)⟩])
         (.exit 1))
         (.skip)))
       (.seq (.region [⟨some 36, true, none, .mov (.t 1)⟩,
          ⟨some 37, true, none, .lenL (.t 36)⟩,
          ⟨some 38, true, none, .mov (.c (.int .i64 0))⟩])
       (.block 2 (.loop (.seq (.region [⟨some 39, true, none, .bin .lss (.t 38) (.t 37)⟩])
         (.seq (.cond (.t 39)
           (.skip)
           (.exit 2))
         (.seq (.block 3 (.seq (.region [⟨some 40, false, none, .mov (.t 38)⟩,
              ⟨some 41, false, none, .iaS 8 (.t 36) (.t 38)⟩,
              ⟨some 42, false, none, .load true 8 (.u 41)⟩,
              ⟨some 13, true, none, .zero [.int .i64 0, .int .i64 0, .int .u64 0, .fsl 1 0 [], .int .i64 0, .str [], .int .i64 0, .str []]⟩,
              ⟨some 12, true, none, .mov (.u 40)⟩,
              ⟨none, true, none, .store 8 (.t 13) (.u 42)⟩])
           (.seq (.region [⟨some 43, false, none, .mov (.t 12)⟩,
              ⟨some 44, false, none, .mov (.t 2)⟩,
              ⟨some 45, false, none, .lenL (.u 44)⟩,
              ⟨some 46, false, none, .bin .lss (.u 43) (.u 45)⟩,
              ⟨some 47, false, none, .mov (.u 46)⟩,
              ⟨some 48, false, some ((.u 47), true), .mov (.t 2)⟩,
              ⟨some 49, false, some ((.u 47), true), .mov (.t 12)⟩,
              ⟨some 50, false, some ((.u 47), true), .iaS 1 (.u 48) (.u 49)⟩,
              ⟨some 51, false, some ((.u 47), true), .load false 1 (.u 50)⟩,
              ⟨some 52, false, none, .pick (.u 47) (.u 51) (.c (.bool false))⟩,
              ⟨some 53, false, none, .mov (.u 52)⟩,
              ⟨some 54, false, some ((.u 53), true), .faddr 4 (.t 13)⟩,
              ⟨some 55, false, some ((.u 53), true), .load false 1 (.u 54)⟩,
              ⟨some 56, false, some ((.u 53), true), .faddr 5 (.t 11)⟩,
              ⟨some 57, false, some ((.u 53), true), .load false 1 (.u 56)⟩,
              ⟨some 58, false, some ((.u 53), true), .bin .eql (.u 55) (.u 57)⟩,
              ⟨some 59, false, none, .pick (.u 53) (.u 58) (.c (.bool false))⟩,
              ⟨some 60, false, none, .mov (.u 59)⟩,
              ⟨some 61, false, some ((.u 60), true), .faddr 5 (.t 13)⟩,
              ⟨some 62, false, some ((.u 60), true), .load false 1 (.u 61)⟩,
              ⟨some 63, false, some ((.u 60), true), .faddr 6 (.t 11)⟩,
              ⟨some 64, false, some ((.u 60), true), .load false 1 (.u 63)⟩,
              ⟨some 65, false, some ((.u 60), true), .bin .eql (.u 62) (.u 64)⟩,
              ⟨some 66, false, none, .pick (.u 60) (.u 65) (.c (.bool false))⟩,
              ⟨some 67, false, none, .mov (.u 66)⟩,
              ⟨some 68, false, some ((.u 67), true), .faddr 6 (.t 13)⟩,
              ⟨some 69, false, some ((.u 67), true), .load false 1 (.u 68)⟩,
              ⟨some 70, false, some ((.u 67), true), .faddr 7 (.t 11)⟩,
              ⟨some 71, false, some ((.u 67), true), .load false 1 (.u 70)⟩,
              ⟨some 72, false, some ((.u 67), true), .bin .eql (.u 69) (.u 71)⟩,
              ⟨some 73, true, none, .pick (.u 67) (.u 72) (.c (.bool false))⟩])
           (.cond (.t 73)
            (.region [⟨some 74, false, none, .mov (.t 9)⟩,
              ⟨some 75, false, none, .mov (.t 10)⟩,
              ⟨some 76, false, none, .iaS 1 (.u 74) (.u 75)⟩,
              ⟨none, true, none, .store 1 (.u 76) (.c (.bool true))⟩])
            (.skip)))))
         (.region [⟨some 77, false, none, .bin .add (.t 38) (.c (.int .i64 1))⟩,
           ⟨some 38, true, none, .mov (.u 77)⟩]))))))))))
     (.region [⟨some 78, false, none, .bin .add (.t 21) (.c (.int .i64 1))⟩,
       ⟨some 21, true, none, .mov (.u 78)⟩])))))))
  (.seq (.region [⟨some 79, false, none, .mov (.t 9)⟩,
     ⟨some 8, true, none, .mov (.u 79)⟩])
  (.ret))))
def r33 : List LRes := [.slot 8]
theorem t33 : (Try.f33.body.bind (trCode v33 Try.prog Try.f33.ntmps)) = some c33 ∧ trRes v33 Try.prog Try.f33.results.toList = some r33 := ⟨by kernel_rfl, by kernel_rfl⟩

def v35 : Nat → Bool := fun t => [0, 1, 4, 5, 6, 17, 28, 38, 53, 67, 77, 92].contains t
def c35 : LCode :=
  .seq (.region [⟨some 4, true, none, .zero [.int .i64 0, .int .i64 0, .int .i64 0, .str [], .int .i64 0]⟩])
  (.seq (.region [⟨some 7, false, none, .mov (.t 0)⟩,
     ⟨some 8, false, none, .call 22 [(.u 7), (.c (.int .i64 1)), (.c (.int .i64 8))]⟩,
     ⟨some 9, false, none, .mov (.t 0)⟩,
     ⟨some 10, false, none, .call 22 [(.u 9), (.c (.int .i64 1)), (.c (.int .i64 8))]⟩,
     ⟨some 11, false, none, .mov (.t 0)⟩,
     ⟨some 12, false, none, .mkS 1 9 [.int .i64 0] [(0, 1, (.c (.int .i64 0))), (1, 1, (.c (.int .i64 0))), (2, 1, (.c (.int .i64 1))), (3, 1, (.c (.int .i64 2))), (4, 1, (.c (.int .i64 5))), (5, 1, (.c (.int .i64 7))), (6, 1, (.c (.int .i64 1000))), (7, 1, (.c (.int .i64 4294967295))), (8, 1, (.c (.int .i64 (-1))))]⟩,
     ⟨some 13, false, none, .call 39 [(.u 11), (.u 12)]⟩,
     ⟨some 14, false, none, .build [.int .i64 0, .int .i64 0, .int .i64 0, .str [], .int .i64 0] [(0, 1, (.u 8)), (1, 1, (.u 10)), (2, 1, (.u 13))]⟩,
     ⟨some 5, true, none, .zero [.int .i64 0, .int .i64 0, .int .i64 0, .str [], .int .i64 0]⟩,
     ⟨none, true, none, .store 5 (.t 5) (.u 14)⟩])
  (.seq (.region [⟨some 15, false, none, .mov (.t 0)⟩,
     ⟨some 16, false, none, .call 21 [(.u 15), (.c (.int .i64 8))]⟩,
     ⟨some 6, true, none, .mov (.u 16)⟩])
  (.seq (.block 0 (.seq (.region [⟨some 18, false, none, .mov (.t 6)⟩,
       ⟨some 19, false, none, .bin .eql (.u 18) (.c (.int .i64 0))⟩,
       ⟨some 17, true, none, .mov (.u 19)⟩])
    (.cond (.t 17)
     (.region [⟨some 20, false, none, .mov (.t 0)⟩,
       ⟨some 21, false, none, .call 22 [(.u 20), (.c (.int .i64 13)), (.c (.int .i64 14))]⟩,
       ⟨some 22, false, none, .mov (.t 0)⟩,
       ⟨some 23, false, none, .call 22 [(.u 22), (.c (.int .i64 1)), (.c (.int .i64 2))]⟩,
       ⟨some 24, false, none, .mov (.t 0)⟩,
       ⟨some 25, false, none, .mkS 1 5 [.str []] [(0, 1, (.c (.str [47, 97]))), (1, 1, (.c (.str [47, 105, 110, 105, 116]))), (2, 1, (.c (.str [97]))), (3, 1, (.c (.str [105, 110, 105, 116]))), (4, 1, (.c (.str [120, 32, 121])))]⟩,
       ⟨some 26, false, none, .call 38 [(.u 24), (.u 25)]⟩,
       ⟨some 27, false, none, .build [.int .i64 0, .int .i64 0, .int .i64 0, .str [], .int .i64 0] [(0, 1, (.u 21)), (1, 1, (.u 23)), (3, 1, (.u 26))]⟩,
       ⟨none, true, none, .store 5 (.t 5) (.u 27)⟩])
     (.seq (.region [⟨some 29, false, none, .mov (.t 6)⟩,
        ⟨some 30, false, none, .bin .eql (.u 29) (.c (.int .i64 1))⟩,
        ⟨some 28, true, none, .mov (.u 30)⟩])
     (.cond (.t 28)
      (.region [⟨some 31, false, none, .mov (.t 0)⟩,
        ⟨some 32, false, none, .call 22 [(.u 31), (.c (.int .i64 3)), (.c (.int .i64 7))]⟩,
        ⟨some 33, false, none, .mov (.t 0)⟩,
        ⟨some 34, false, none, .call 22 [(.u 33), (.c (.int .i64 1)), (.c (.int .i64 2))]⟩,
        ⟨some 35, false, none, .mov (.t 0)⟩,
        ⟨some 36, false, none, .call 22 [(.u 35), (.c (.int .i64 3)), (.c (.int .i64 7))]⟩,
        ⟨some 37, false, none, .build [.int .i64 0, .int .i64 0, .int .i64 0, .str [], .int .i64 0] [(0, 1, (.u 32)), (1, 1, (.u 34)), (4, 1, (.u 36))]⟩,
        ⟨none, true, none, .store 5 (.t 5) (.u 37)⟩])
      (.seq (.region [⟨some 39, false, none, .mov (.t 6)⟩,
         ⟨some 40, false, none, .bin .eql (.u 39) (.c (.int .i64 2))⟩,
         ⟨some 41, false, none, .mov (.u 40)⟩,
         ⟨some 42, false, some ((.u 41), true), .mov (.t 1)⟩,
         ⟨some 43, false, some ((.u 41), true), .bin .eql (.u 42) (.c (.int .i64 3))⟩,
         ⟨some 44, false, none, .pick (.u 41) (.u 43) (.c (.bool false))⟩,
         ⟨some 38, true, none, .mov (.u 44)⟩])
      (.cond (.t 38)
       (.region [⟨some 45, false, none, .mov (.t 0)⟩,
         ⟨some 46, false, none, .call 22 [(.u 45), (.c (.int .i64 19)), (.c (.int .i64 20))]⟩,
         ⟨some 47, false, none, .mov (.t 0)⟩,
         ⟨some 48, false, none, .call 22 [(.u 47), (.c (.int .i64 1)), (.c (.int .i64 2))]⟩,
         ⟨some 49, false, none, .mov (.t 0)⟩,
         ⟨some 50, false, none, .mkS 1 5 [.int .i64 0] [(0, 1, (.c (.int .i64 3))), (1, 1, (.c (.int .i64 4))), (2, 1, (.c (.int .i64 5))), (3, 1, (.c (.int .i64 19))), (4, 1, (.c (.int .i64 20)))]⟩,
         ⟨some 51, false, none, .call 39 [(.u 49), (.u 50)]⟩,
         ⟨some 52, false, none, .build [.int .i64 0, .int .i64 0, .int .i64 0, .str [], .int .i64 0] [(0, 1, (.u 46)), (1, 1, (.u 48)), (4, 1, (.u 51))]⟩,
         ⟨none, true, none, .store 5 (.t 5) (.u 52)⟩])
       (.seq (.region [⟨some 54, false, none, .mov (.t 6)⟩,
          ⟨some 55, false, none, .bin .lss (.u 54) (.c (.int .i64 5))⟩,
          ⟨some 56, false, none, .mov (.u 55)⟩,
          ⟨some 57, false, some ((.u 56), true), .mov (.t 1)⟩,
          ⟨some 58, false, some ((.u 56), true), .bin .eql (.u 57) (.c (.int .i64 3))⟩,
          ⟨some 59, false, none, .pick (.u 56) (.u 58) (.c (.bool false))⟩,
          ⟨some 53, true, none, .mov (.u 59)⟩])
       (.cond (.t 53)
        (.region [⟨some 60, false, none, .mov (.t 0)⟩,
          ⟨some 61, false, none, .call 22 [(.u 60), (.c (.int .i64 15)), (.c (.int .i64 21))]⟩,
          ⟨some 62, false, none, .mov (.t 0)⟩,
          ⟨some 63, false, none, .mkS 1 8 [.int .i64 0] [(0, 1, (.c (.int .i64 0))), (1, 1, (.c (.int .i64 0))), (2, 1, (.c (.int .i64 1))), (3, 1, (.c (.int .i64 1))), (4, 1, (.c (.int .i64 2))), (5, 1, (.c (.int .i64 5))), (6, 1, (.c (.int .i64 (-2)))), (7, 1, (.c (.int .i64 (-13))))]⟩,
          ⟨some 64, false, none, .call 39 [(.u 62), (.u 63)]⟩,
          ⟨some 65, false, none, .faddr 0 (.t 5)⟩,
          ⟨none, true, none, .store 1 (.u 65) (.u 61)⟩,
          ⟨some 66, false, none, .faddr 2 (.t 5)⟩,
          ⟨none, true, none, .store 1 (.u 66) (.u 64)⟩])
        (.seq (.region [⟨some 68, false, none, .mov (.t 6)⟩,
           ⟨some 69, false, none, .bin .lss (.u 68) (.c (.int .i64 5))⟩,
           ⟨some 70, false, none, .mov (.u 69)⟩,
           ⟨some 71, false, some ((.u 70), true), .mov (.t 1)⟩,
           ⟨some 72, false, some ((.u 70), true), .bin .eql (.u 71) (.c (.int .i64 2))⟩,
           ⟨some 73, false, none, .pick (.u 70) (.u 72) (.c (.bool false))⟩,
           ⟨some 67, true, none, .mov (.u 73)⟩])
        (.cond (.t 67)
         (.region [⟨some 74, false, none, .mov (.t 0)⟩,
           ⟨some 75, false, none, .call 22 [(.u 74), (.c (.int .i64 9)), (.c (.int .i64 12))]⟩,
           ⟨some 76, false, none, .faddr 0 (.t 5)⟩,
           ⟨none, true, none, .store 1 (.u 76) (.u 75)⟩])
         (.seq (.region [⟨some 78, false, none, .mov (.t 6)⟩,
            ⟨some 79, false, none, .bin .lss (.u 78) (.c (.int .i64 6))⟩,
            ⟨some 80, false, none, .mov (.u 79)⟩,
            ⟨some 81, false, some ((.u 80), true), .mov (.t 1)⟩,
            ⟨some 82, false, some ((.u 80), true), .bin .eql (.u 81) (.c (.int .i64 5))⟩,
            ⟨some 83, false, none, .pick (.u 80) (.u 82) (.c (.bool false))⟩,
            ⟨some 77, true, none, .mov (.u 83)⟩])
         (.cond (.t 77)
          (.region [⟨some 84, false, none, .mov (.t 0)⟩,
            ⟨some 85, false, none, .call 22 [(.u 84), (.c (.int .i64 1)), (.c (.int .i64 6))]⟩,
            ⟨some 86, false, none, .mov (.t 0)⟩,
            ⟨some 87, false, none, .mkS 1 7 [.int .i64 0] [(0, 1, (.c (.int .i64 1300))), (1, 1, (.c (.int .i64 1302))), (2, 1, (.c (.int .i64 1307))), (3, 1, (.c (.int .i64 1309))), (4, 1, (.c (.int .i64 1005))), (5, 1, (.c (.int .i64 1320))), (6, 1, (.c (.int .i64 1306)))]⟩,
            ⟨some 88, false, none, .call 39 [(.u 86), (.u 87)]⟩,
            ⟨some 89, false, none, .build [.int .i64 0, .int .i64 0, .int .i64 0, .str [], .int .i64 0] [(0, 1, (.c (.int .i64 22))), (1, 1, (.u 85)), (2, 1, (.u 88))]⟩,
            ⟨none, true, none, .store 5 (.t 5) (.u 89)⟩])
          (.skip))))))))))))))
  (.seq (.seq (.region [⟨some 90, false, none, .mov (.t 0)⟩,
      ⟨some 91, false, none, .call 21 [(.u 90), (.c (.int .i64 24))]⟩,
      ⟨some 92, true, none, .bin .eql (.u 91) (.c (.int .i64 23))⟩])
   (.cond (.t 92)
    (.region [⟨some 93, false, none, .mov (.t 0)⟩,
      ⟨some 94, false, none, .call 22 [(.u 93), (.c (.int .i64 0)), (.c (.int .i64 24))]⟩,
      ⟨some 95, false, none, .mov (.t 0)⟩,
      ⟨some 96, false, none, .call 22 [(.u 95), (.c (.int .i64 0)), (.c (.int .i64 9))]⟩,
      ⟨some 97, false, none, .faddr 0 (.t 5)⟩,
      ⟨none, true, none, .store 1 (.u 97) (.u 94)⟩,
      ⟨some 98, false, none, .faddr 1 (.t 5)⟩,
      ⟨none, true, none, .store 1 (.u 98) (.u 96)⟩])
    (.skip)))
  (.seq (.region [⟨some 99, false, none, .load true 5 (.t 5)⟩,
     ⟨none, true, none, .store 5 (.t 4) (.u 99)⟩])
  (.ret))))))
def r35 : List LRes := [.cell true 5 4]
theorem t35 : (Try.f35.body.bind (trCode v35 Try.prog Try.f35.ntmps)) = some c35 ∧ trRes v35 Try.prog Try.f35.results.toList = some r35 := ⟨by kernel_rfl, by kernel_rfl⟩

def v36 : Nat → Bool := fun t => [0, 1, 2, 3, 4, 7, 8, 9, 10, 11, 12, 13, 18, 28, 41].contains t
def c36 : LCode :=
  .seq (.region [⟨some 4, true, none, .box (.t 0)⟩,
     ⟨some 7, true, none, .box (.t 3)⟩,
     ⟨some 8, true, none, .mov (.c (.fsl 1 0 []))⟩])
  (.seq (.region [⟨some 9, true, none, .mov (.c (.fsl 1 0 []))⟩])
  (.seq (.seq (.region [⟨some 10, true, none, .mov (.c (.int .i64 0))⟩])
   (.block 0 (.loop (.seq (.seq (.region [⟨some 14, false, none, .mov (.t 10)⟩,
         ⟨some 15, false, none, .faddr 0 (.t 4)⟩,
         ⟨some 16, false, none, .load false 1 (.u 15)⟩,
         ⟨some 17, false, none, .lenL (.u 16)⟩,
         ⟨some 18, true, none, .bin .lss (.u 14) (.u 17)⟩])
      (.cond (.t 18)
       (.skip)
       (.exit 0)))
     (.seq (.block 1 (.seq (.region [⟨some 21, false, none, .faddr 0 (.t 4)⟩,
          ⟨some 22, false, none, .load false 1 (.u 21)⟩,
          ⟨some 23, false, none, .mov (.t 10)⟩,
          ⟨some 24, false, none, .iaS 8 (.u 22) (.u 23)⟩,
          ⟨some 25, false, none, .load true 8 (.u 24)⟩,
          ⟨some 11, true, none, .zero [.int .i64 0, .int .i64 0, .int .i64 0, .str [], .int .i64 0, .int .i64 0, .str [], .int .i64 0]⟩,
          ⟨none, true, none, .store 8 (.t 11) (.u 25)⟩])
       (.seq (.region [⟨some 12, true, none, .mov (.c (.bool false))⟩])
       (.seq (.seq (.region [⟨some 26, false, none, .faddr 5 (.t 11)⟩,
           ⟨some 27, false, none, .load false 1 (.u 26)⟩,
           ⟨some 28, true, none, .bin .eql (.u 27) (.c (.int .i64 0))⟩])
        (.cond (.t 28)
         (.region [⟨some 29, false, none, .faddr 0 (.t 11)⟩,
           ⟨some 30, false, none, .load true 5 (.u 29)⟩,
           ⟨some 31, false, none, .load true 25 (.t 7)⟩,
           ⟨some 32, false, none, .call 37 [(.u 30), (.u 31)]⟩,
           ⟨some 12, true, none, .mov (.u 32)⟩])
         (.skip)))
       (.seq (.seq (.region [⟨some 13, true, none, .mov (.c (.int .i64 0))⟩])
        (.block 2 (.loop (.seq (.seq (.region [⟨some 33, false, none, .mov (.t 13)⟩,
              ⟨some 34, false, none, .mov (.t 1)⟩,
              ⟨some 35, false, none, .lenL (.u 34)⟩,
              ⟨some 36, false, none, .bin .lss (.u 33) (.u 35)⟩,
              ⟨some 37, false, none, .mov (.u 36)⟩,
              ⟨some 38, false, some ((.u 37), true), .faddr 5 (.t 11)⟩,
              ⟨some 39, false, some ((.u 37), true), .load false 1 (.u 38)⟩,
              ⟨some 40, false, some ((.u 37), true), .bin .neq (.u 39) (.c (.int .i64 0))⟩,
              ⟨some 41, true, none, .pick (.u 37) (.u 40) (.c (.bool false))⟩])
           (.cond (.t 41)
            (.skip)
            (.exit 2)))
          (.seq (.block 3 (.regionD [⟨0, [12], false, [], ⟨some 44, false, none, .mov (.t 12)⟩⟩,
              ⟨1, [44], false, [], ⟨some 45, false, none, .mov (.u 44)⟩⟩,
              ⟨2, [13, 45], false, [], ⟨some 46, false, some ((.u 45), false), .mov (.t 13)⟩⟩,
              ⟨3, [2, 45], false, [], ⟨some 47, false, some ((.u 45), false), .mov (.t 2)⟩⟩,
              ⟨4, [47, 45], false, [], ⟨some 48, false, some ((.u 45), false), .lenL (.u 47)⟩⟩,
              ⟨5, [46, 48, 45], false, [], ⟨some 49, false, some ((.u 45), false), .bin .lss (.u 46) (.u 48)⟩⟩,
              ⟨6, [49, 45], false, [], ⟨some 50, false, some ((.u 45), false), .mov (.u 49)⟩⟩,
              ⟨7, [2, 50], false, [], ⟨some 51, false, some ((.u 50), true), .mov (.t 2)⟩⟩,
              ⟨8, [13, 50], false, [], ⟨some 52, false, some ((.u 50), true), .mov (.t 13)⟩⟩,
              ⟨9, [51, 52, 50], false, [], ⟨some 53, false, some ((.u 50), true), .iaS 1 (.u 51) (.u 52)⟩⟩,
              ⟨10, [53, 50], true, [], ⟨some 54, false, some ((.u 50), true), .load false 1 (.u 53)⟩⟩,
              ⟨11, [50, 54, 45], false, [], ⟨some 55, false, some ((.u 45), false), .pick (.u 50) (.u 54) (.c (.bool false))⟩⟩,
              ⟨12, [55, 45], false, [], ⟨some 56, false, some ((.u 45), false), .mov (.u 55)⟩⟩,
              ⟨13, [1, 56], false, [], ⟨some 57, false, some ((.u 56), true), .mov (.t 1)⟩⟩,
              ⟨14, [13, 56], false, [], ⟨some 58, false, some ((.u 56), true), .mov (.t 13)⟩⟩,
              ⟨15, [57, 58, 56], false, [], ⟨some 59, false, some ((.u 56), true), .iaS 8 (.u 57) (.u 58)⟩⟩,
              ⟨16, [59, 56], false, [], ⟨some 60, false, some ((.u 56), true), .faddr 4 (.u 59)⟩⟩,
              ⟨17, [60, 56], true, [], ⟨some 61, false, some ((.u 56), true), .load false 1 (.u 60)⟩⟩,
              ⟨18, [11, 56], false, [], ⟨some 62, false, some ((.u 56), true), .faddr 5 (.t 11)⟩⟩,
              ⟨19, [62, 56], true, [], ⟨some 63, false, some ((.u 56), true), .load false 1 (.u 62)⟩⟩,
              ⟨20, [61, 63, 56], false, [], ⟨some 64, false, some ((.u 56), true), .bin .eql (.u 61) (.u 63)⟩⟩,
              ⟨21, [56, 64, 45], false, [], ⟨some 65, false, some ((.u 45), false), .pick (.u 56) (.u 64) (.c (.bool false))⟩⟩,
              ⟨22, [65, 45], false, [], ⟨some 66, false, some ((.u 45), false), .mov (.u 65)⟩⟩,
              ⟨23, [1, 66], false, [], ⟨some 67, false, some ((.u 66), true), .mov (.t 1)⟩⟩,
              ⟨24, [13, 66], false, [], ⟨some 68, false, some ((.u 66), true), .mov (.t 13)⟩⟩,
              ⟨25, [67, 68, 66], false, [], ⟨some 69, false, some ((.u 66), true), .iaS 8 (.u 67) (.u 68)⟩⟩,
              ⟨26, [69, 66], false, [], ⟨some 70, false, some ((.u 66), true), .faddr 5 (.u 69)⟩⟩,
              ⟨27, [70, 66], true, [], ⟨some 71, false, some ((.u 66), true), .load false 1 (.u 70)⟩⟩,
              ⟨28, [11, 66], false, [], ⟨some 72, false, some ((.u 66), true), .faddr 6 (.t 11)⟩⟩,
              ⟨29, [72, 66], true, [], ⟨some 73, false, some ((.u 66), true), .load false 1 (.u 72)⟩⟩,
              ⟨30, [71, 73, 66], false, [], ⟨some 74, false, some ((.u 66), true), .bin .eql (.u 71) (.u 73)⟩⟩,
              ⟨31, [66, 74, 45], false, [], ⟨some 75, false, some ((.u 45), false), .pick (.u 66) (.u 74) (.c (.bool false))⟩⟩,
              ⟨32, [75, 45], false, [], ⟨some 76, false, some ((.u 45), false), .mov (.u 75)⟩⟩,
              ⟨33, [1, 76], false, [], ⟨some 77, false, some ((.u 76), true), .mov (.t 1)⟩⟩,
              ⟨34, [13, 76], false, [], ⟨some 78, false, some ((.u 76), true), .mov (.t 13)⟩⟩,
              ⟨35, [77, 78, 76], false, [], ⟨some 79, false, some ((.u 76), true), .iaS 8 (.u 77) (.u 78)⟩⟩,
              ⟨36, [79, 76], false, [], ⟨some 80, false, some ((.u 76), true), .faddr 6 (.u 79)⟩⟩,
              ⟨37, [80, 76], true, [], ⟨some 81, false, some ((.u 76), true), .load false 1 (.u 80)⟩⟩,
              ⟨38, [11, 76], false, [], ⟨some 82, false, some ((.u 76), true), .faddr 7 (.t 11)⟩⟩,
              ⟨39, [82, 76], true, [], ⟨some 83, false, some ((.u 76), true), .load false 1 (.u 82)⟩⟩,
              ⟨40, [81, 83, 76], false, [], ⟨some 84, false, some ((.u 76), true), .bin .eql (.u 81) (.u 83)⟩⟩,
              ⟨41, [76, 84, 45], false, [], ⟨some 85, false, some ((.u 45), false), .pick (.u 76) (.u 84) (.c (.bool false))⟩⟩,
              ⟨42, [45, 85], false, [], ⟨some 86, false, none, .pick (.u 45) (.c (.bool true)) (.u 85)⟩⟩,
              ⟨43, [86], false, [], ⟨some 12, true, none, .mov (.u 86)⟩⟩]))
          (.region [⟨some 42, false, none, .mov (.t 13)⟩,
            ⟨some 43, false, none, .bin .add (.u 42) (.c (.int .i64 1))⟩,
            ⟨some 13, true, none, .mov (.u 43)⟩]))))))
       (.region [⟨some 87, false, none, .mov (.t 9)⟩,
         ⟨some 88, false, none, .mov (.t 12)⟩,
         ⟨some 89, false, none, .mkS 1 1 [.bool false] [(0, 1, (.u 88))]⟩,
         ⟨some 90, false, none, .app 1 1 (.u 87) (.u 89)⟩,
         ⟨some 9, true, none, .mov (.u 90)⟩]))))))
     (.region [⟨some 19, false, none, .mov (.t 10)⟩,
       ⟨some 20, false, none, .bin .add (.u 19) (.c (.int .i64 1))⟩,
       ⟨some 10, true, none, .mov (.u 20)⟩]))))))
  (.seq (.region [⟨some 91, false, none, .mov (.t 9)⟩,
     ⟨some 8, true, none, .mov (.u 91)⟩])
  (.ret))))
def r36 : List LRes := [.slot 8]
theorem t36 : (Try.f36.body.bind (trCode v36 Try.prog Try.f36.ntmps)) = some c36 ∧ trRes v36 Try.prog Try.f36.results.toList = some r36 := ⟨by kernel_rfl, by kernel_rfl⟩

def v37 : Nat → Bool := fun t => [0, 1, 2, 3, 4, 5, 27, 37, 46, 66].contains t
def c37 : LCode :=
  .seq (.region [⟨some 2, true, none, .box (.t 0)⟩,
     ⟨some 3, true, none, .box (.t 1)⟩,
     ⟨some 4, true, none, .mov (.c (.bool false))⟩])
  (.seq (.seq (.region [⟨some 6, false, none, .load true 5 (.t 2)⟩,
      ⟨some 7, false, none, .call 61 [(.u 6)]⟩,
      ⟨some 8, false, none, .un .not (.u 7)⟩,
      ⟨some 9, false, none, .mov (.u 8)⟩,
      ⟨some 10, false, some ((.u 9), false), .faddr 0 (.t 2)⟩,
      ⟨some 11, false, some ((.u 9), false), .load false 1 (.u 10)⟩,
      ⟨some 12, false, some ((.u 9), false), .load true 25 (.t 3)⟩,
      ⟨some 13, false, some ((.u 9), false), .call 62 [(.u 11), (.u 12)]⟩,
      ⟨some 14, false, some ((.u 9), false), .un .not (.u 13)⟩,
      ⟨some 15, false, none, .pick (.u 9) (.c (.bool true)) (.u 14)⟩,
      ⟨some 16, false, none, .mov (.u 15)⟩,
      ⟨some 17, false, some ((.u 16), false), .faddr 4 (.t 2)⟩,
      ⟨some 18, false, some ((.u 16), false), .load false 1 (.u 17)⟩,
      ⟨some 19, false, some ((.u 16), false), .bin .neq (.u 18) (.c (.int .i64 0))⟩,
      ⟨some 20, false, some ((.u 16), false), .mov (.u 19)⟩,
      ⟨some 21, false, some ((.u 20), true), .faddr 4 (.t 2)⟩,
      ⟨some 22, false, some ((.u 20), true), .load false 1 (.u 21)⟩,
      ⟨some 23, false, some ((.u 20), true), .load true 25 (.t 3)⟩,
      ⟨some 24, false, some ((.u 20), true), .call 62 [(.u 22), (.u 23)]⟩,
      ⟨some 25, false, some ((.u 20), true), .un .not (.u 24)⟩,
      ⟨some 26, false, some ((.u 16), false), .pick (.u 20) (.u 25) (.c (.bool false))⟩,
      ⟨some 27, true, none, .pick (.u 16) (.c (.bool true)) (.u 26)⟩])
   (.cond (.t 27)
    (.seq (.region [⟨some 4, true, none, .mov (.c (.bool false))⟩])
    (.ret))
    (.skip)))
  (.seq (.seq (.region [⟨some 28, false, none, .faddr 0 (.t 2)⟩,
      ⟨some 29, false, none, .load false 1 (.u 28)⟩,
      ⟨some 30, false, none, .call 63 [(.u 29)]⟩,
      ⟨some 31, false, none, .un .not (.u 30)⟩,
      ⟨some 32, false, none, .mov (.u 31)⟩,
      ⟨some 33, false, some ((.u 32), true), .faddr 4 (.t 2)⟩,
      ⟨some 34, false, some ((.u 32), true), .load false 1 (.u 33)⟩,
      ⟨some 35, false, some ((.u 32), true), .call 63 [(.u 34)]⟩,
      ⟨some 36, false, some ((.u 32), true), .un .not (.u 35)⟩,
      ⟨some 37, true, none, .pick (.u 32) (.u 36) (.c (.bool false))⟩])
   (.cond (.t 37)
    (.seq (.region [⟨some 38, false, none, .load true 5 (.t 2)⟩,
       ⟨some 39, false, none, .load true 25 (.t 3)⟩,
       ⟨some 40, false, none, .build [.str [], .str [], .int .i64 0, .int .i64 0, .str [], .int .i64 0, .int .i64 0, .int .i64 0, .int .i64 0, .int .i64 0, .int .i64 0, .int .i64 0, .int .i64 0] []⟩,
       ⟨some 41, false, none, .call 64 [(.u 38), (.u 39), (.u 40)]⟩,
       ⟨some 4, true, none, .mov (.u 41)⟩])
    (.ret))
    (.skip)))
  (.seq (.seq (.region [⟨some 5, true, none, .mov (.c (.int .i64 0))⟩])
   (.block 0 (.loop (.seq (.seq (.region [⟨some 42, false, none, .mov (.t 5)⟩,
         ⟨some 43, false, none, .faddr 23 (.t 3)⟩,
         ⟨some 44, false, none, .load false 1 (.u 43)⟩,
         ⟨some 45, false, none, .lenL (.u 44)⟩,
         ⟨some 46, true, none, .bin .lss (.u 42) (.u 45)⟩])
      (.cond (.t 46)
       (.skip)
       (.exit 0)))
     (.seq (.block 1 (.seq (.regionD [⟨0, [3], false, [], ⟨some 49, false, none, .faddr 23 (.t 3)⟩⟩,
          ⟨1, [49], true, [], ⟨some 50, false, none, .load false 1 (.u 49)⟩⟩,
          ⟨2, [5], false, [], ⟨some 51, false, none, .mov (.t 5)⟩⟩,
          ⟨3, [50, 51], false, [], ⟨some 52, false, none, .iaS 13 (.u 50) (.u 51)⟩⟩,
          ⟨4, [52], false, [], ⟨some 53, false, none, .faddr 5 (.u 52)⟩⟩,
          ⟨5, [53], true, [], ⟨some 54, false, none, .load true 2 (.u 53)⟩⟩,
          ⟨6, [], false, [], ⟨some 55, false, none, .build [.int .i64 0, .int .i64 0] []⟩⟩,
          ⟨7, [54, 55], false, [], ⟨some 56, false, none, .eqS true 2 [(0, 1), (1, 1)] (.u 54) (.u 55)⟩⟩,
          ⟨8, [56], false, [], ⟨some 57, false, none, .mov (.u 56)⟩⟩,
          ⟨9, [2, 57], true, [], ⟨some 58, false, some ((.u 57), true), .load true 5 (.t 2)⟩⟩,
          ⟨10, [3, 57], true, [], ⟨some 59, false, some ((.u 57), true), .load true 25 (.t 3)⟩⟩,
          ⟨11, [3, 57], false, [], ⟨some 60, false, some ((.u 57), true), .faddr 23 (.t 3)⟩⟩,
          ⟨12, [60, 57], true, [], ⟨some 61, false, some ((.u 57), true), .load false 1 (.u 60)⟩⟩,
          ⟨13, [5, 57], false, [], ⟨some 62, false, some ((.u 57), true), .mov (.t 5)⟩⟩,
          ⟨14, [61, 62, 57], false, [], ⟨some 63, false, some ((.u 57), true), .iaS 13 (.u 61) (.u 62)⟩⟩,
          ⟨15, [63, 57], true, [], ⟨some 64, false, some ((.u 57), true), .load true 13 (.u 63)⟩⟩,
          ⟨16, [58, 59, 64, 57], false, [], ⟨some 65, false, some ((.u 57), true), .call 64 [(.u 58), (.u 59), (.u 64)]⟩⟩,
          ⟨17, [57, 65], false, [], ⟨some 66, true, none, .pick (.u 57) (.u 65) (.c (.bool false))⟩⟩])
       (.cond (.t 66)
        (.seq (.region [⟨some 4, true, none, .mov (.c (.bool true))⟩])
        (.ret))
        (.skip))))
     (.region [⟨some 47, false, none, .mov (.t 5)⟩,
       ⟨some 48, false, none, .bin .add (.u 47) (.c (.int .i64 1))⟩,
       ⟨some 5, true, none, .mov (.u 48)⟩]))))))
  (.seq (.region [⟨some 4, true, none, .mov (.c (.bool false))⟩])
  (.ret)))))
def r37 : List LRes := [.slot 4]
theorem t37 : (Try.f37.body.bind (trCode v37 Try.prog Try.f37.ntmps)) = some c37 ∧ trRes v37 Try.prog Try.f37.results.toList = some r37 := ⟨by kernel_rfl, by kernel_rfl⟩

def v55 : Nat → Bool := fun t => [0, 2, 3].contains t
def c55 : LCode :=
  .seq (.region [⟨some 2, true, none, .zero [.int .i64 0, .int .i64 0, .int .i64 0, .int .i64 0, .int .i64 0, .int .i64 0, .int .i64 0, .int .i64 0, .int .i64 0, .int .i64 0, .str [], .str [], .fsl 1 0 [], .bool false]⟩])
  (.seq (.region [⟨some 4, false, none, .mkS 1 6 [.int .i64 0] [(0, 1, (.c (.int .i64 0))), (1, 1, (.c (.int .i64 0))), (2, 1, (.c (.int .i64 5))), (3, 1, (.c (.int .i64 7))), (4, 1, (.c (.int .i64 1000))), (5, 1, (.c (.int .i64 4294967295)))]⟩,
     ⟨some 3, true, none, .mov (.u 4)⟩])
  (.seq (.region [⟨some 5, false, none, .mov (.t 0)⟩,
     ⟨some 6, false, none, .call 22 [(.u 5), (.c (.int .i64 1)), (.c (.int .i64 4))]⟩,
     ⟨some 7, false, none, .mov (.t 0)⟩,
     ⟨some 8, false, none, .call 21 [(.u 7), (.c (.int .i64 3))]⟩,
     ⟨some 9, false, none, .mov (.t 0)⟩,
     ⟨some 10, false, none, .mov (.t 3)⟩,
     ⟨some 11, false, none, .call 39 [(.u 9), (.u 10)]⟩,
     ⟨some 12, false, none, .mov (.t 0)⟩,
     ⟨some 13, false, none, .mov (.t 3)⟩,
     ⟨some 14, false, none, .call 39 [(.u 12), (.u 13)]⟩,
     ⟨some 15, false, none, .mov (.t 0)⟩,
     ⟨some 16, false, none, .mov (.t 3)⟩,
     ⟨some 17, false, none, .call 39 [(.u 15), (.u 16)]⟩,
     ⟨some 18, false, none, .mov (.t 0)⟩,
     ⟨some 19, false, none, .mov (.t 3)⟩,
     ⟨some 20, false, none, .call 39 [(.u 18), (.u 19)]⟩,
     ⟨some 21, false, none, .mov (.t 0)⟩,
     ⟨some 22, false, none, .mov (.t 3)⟩,
     ⟨some 23, false, none, .call 39 [(.u 21), (.u 22)]⟩,
     ⟨some 24, false, none, .mov (.t 0)⟩,
     ⟨some 25, false, none, .mov (.t 3)⟩,
     ⟨some 26, false, none, .call 39 [(.u 24), (.u 25)]⟩,
     ⟨some 27, false, none, .mov (.t 0)⟩,
     ⟨some 28, false, none, .mkS 1 3 [.str []] [(0, 1, (.c (.str [105, 110, 105, 116]))), (1, 1, (.c (.str [97]))), (2, 1, (.c (.str [98])))]⟩,
     ⟨some 29, false, none, .call 38 [(.u 27), (.u 28)]⟩,
     ⟨some 30, false, none, .mov (.t 0)⟩,
     ⟨some 31, false, none, .mkS 1 3 [.str []] [(0, 1, (.c (.str [47, 105, 110, 105, 116]))), (1, 1, (.c (.str [47, 97]))), (2, 1, (.c (.str [])))]⟩,
     ⟨some 32, false, none, .call 38 [(.u 30), (.u 31)]⟩,
     ⟨some 33, false, none, .mov (.t 0)⟩,
     ⟨some 34, false, none, .call 21 [(.u 33), (.c (.int .i64 8))]⟩,
     ⟨some 35, false, none, .bin .gtr (.u 34) (.c (.int .i64 0))⟩,
     ⟨some 36, false, none, .build [.int .i64 0, .int .i64 0, .int .i64 0, .int .i64 0, .int .i64 0, .int .i64 0, .int .i64 0, .int .i64 0, .int .i64 0, .int .i64 0, .str [], .str [], .fsl 1 0 [], .bool false] [(0, 1, (.u 6)), (1, 1, (.u 8)), (2, 1, (.u 11)), (3, 1, (.u 14)), (4, 1, (.u 17)), (5, 1, (.u 20)), (6, 1, (.u 23)), (7, 1, (.u 26)), (10, 1, (.u 29)), (11, 1, (.u 32)), (13, 1, (.u 35))]⟩,
     ⟨none, true, none, .store 14 (.t 2) (.u 36)⟩])
  (.ret)))
def r55 : List LRes := [.cell true 14 2]
theorem t55 : (Try.f55.body.bind (trCode v55 Try.prog Try.f55.ntmps)) = some c55 ∧ trRes v55 Try.prog Try.f55.results.toList = some r55 := ⟨by kernel_rfl, by kernel_rfl⟩

def v56 : Nat → Bool := fun t => [0, 2, 3, 4, 5, 6, 7, 8, 9, 10, 25, 35, 36, 46, 53, 60, 71, 86, 99].contains t
def c56 : LCode :=
  .seq (.region [⟨some 2, true, none, .zero [.int .i64 0, .int .i64 0, .int .i64 0, .int .i64 0, .int .i64 0, .fsl 1 0 [], .fsl 1 0 []]⟩])
  (.seq (.region [⟨some 11, false, none, .mov (.t 0)⟩,
     ⟨some 12, false, none, .mkS 1 26 [.int .i64 0] [(0, 1, (.c (.int .i64 0))), (1, 1, (.c (.int .i64 1))), (2, 1, (.c (.int .i64 2))), (3, 1, (.c (.int .i64 3))), (4, 1, (.c (.int .i64 4))), (5, 1, (.c (.int .i64 5))), (6, 1, (.c (.int .i64 6))), (7, 1, (.c (.int .i64 6))), (8, 1, (.c (.int .i64 6))), (9, 1, (.c (.int .i64 7))), (10, 1, (.c (.int .i64 8))), (11, 1, (.c (.int .i64 9))), (12, 1, (.c (.int .i64 10))), (13, 1, (.c (.int .i64 11))), (14, 1, (.c (.int .i64 11))), (15, 1, (.c (.int .i64 12))), (16, 1, (.c (.int .i64 13))), (17, 1, (.c (.int .i64 13))), (18, 1, (.c (.int .i64 14))), (19, 1, (.c (.int .i64 15))), (20, 1, (.c (.int .i64 16))), (21, 1, (.c (.int .i64 17))), (22, 1, (.c (.int .i64 18))), (23, 1, (.c (.int .i64 19))), (24, 1, (.c (.int .i64 20))), (25, 1, (.c (.int .i64 21)))]⟩,
     ⟨some 13, false, none, .call 39 [(.u 11), (.u 12)]⟩,
     ⟨some 14, false, none, .build [.int .i64 0, .int .i64 0, .int .i64 0, .int .i64 0, .int .i64 0, .fsl 1 0 [], .fsl 1 0 []] [(0, 1, (.u 13))]⟩,
     ⟨some 3, true, none, .zero [.int .i64 0, .int .i64 0, .int .i64 0, .int .i64 0, .int .i64 0, .fsl 1 0 [], .fsl 1 0 []]⟩,
     ⟨none, true, none, .store 7 (.t 3) (.u 14)⟩])
  (.seq (.region [⟨some 16, false, none, .faddr 0 (.t 3)⟩,
     ⟨some 17, false, none, .load false 1 (.u 16)⟩,
     ⟨some 18, false, none, .call 75 [(.u 17)]⟩,
     ⟨some 15, false, none, .mov (.u 18)⟩,
     ⟨some 19, false, none, .ext (.u 15) 0⟩,
     ⟨some 20, false, none, .ext (.u 15) 1⟩,
     ⟨some 21, false, none, .ext (.u 15) 2⟩,
     ⟨some 22, false, none, .ext (.u 15) 3⟩,
     ⟨some 4, true, none, .mov (.u 19)⟩,
     ⟨some 5, true, none, .mov (.u 20)⟩,
     ⟨some 6, true, none, .mov (.u 21)⟩,
     ⟨some 7, true, none, .mov (.u 22)⟩])
  (.seq (.seq (.region [⟨some 8, true, none, .mov (.c (.int .i64 0))⟩])
   (.block 0 (.loop (.seq (.seq (.region [⟨some 23, false, none, .mov (.t 8)⟩,
         ⟨some 24, false, none, .mov (.t 4)⟩,
         ⟨some 25, true, none, .bin .lss (.u 23) (.u 24)⟩])
      (.cond (.t 25)
       (.skip)
       (.exit 0)))
     (.seq (.block 1 (.region [⟨some 28, false, none, .mov (.t 8)⟩,
         ⟨some 29, false, none, .mov (.t 0)⟩,
         ⟨some 30, false, none, .mkS 1 8 [.int .i64 0] [(0, 1, (.c (.int .i64 0))), (1, 1, (.c (.int .i64 1))), (2, 1, (.c (.int .i64 2))), (3, 1, (.c (.int .i64 3))), (4, 1, (.c (.int .i64 5))), (5, 1, (.c (.int .i64 7))), (6, 1, (.c (.int .i64 420))), (7, 1, (.c (.int .i64 493)))]⟩,
         ⟨some 31, false, none, .call 39 [(.u 29), (.u 30)]⟩,
         ⟨some 32, false, none, .faddr 1 (.t 3)⟩,
         ⟨some 33, false, none, .iaA 4 1 (.u 32) (.u 28)⟩,
         ⟨none, true, none, .store 1 (.u 33) (.u 31)⟩]))
     (.region [⟨some 26, false, none, .mov (.t 8)⟩,
       ⟨some 27, false, none, .bin .add (.u 26) (.c (.int .i64 1))⟩,
       ⟨some 8, true, none, .mov (.u 27)⟩]))))))
  (.seq (.seq (.region [⟨some 34, false, none, .faddr 0 (.t 3)⟩,
      ⟨some 35, true, none, .load false 1 (.u 34)⟩])
   (.block 2 (.seq (.region [⟨some 37, false, none, .bin .eql (.t 35) (.c (.int .i64 6))⟩,
       ⟨some 36, true, none, .mov (.u 37)⟩])
    (.cond (.t 36)
     (.region [⟨some 38, false, none, .mov (.t 0)⟩,
       ⟨some 39, false, none, .mkS 1 12 [.int .i64 0] [(0, 1, (.c (.int .i64 1))), (1, 1, (.c (.int .i64 2))), (2, 1, (.c (.int .i64 3))), (3, 1, (.c (.int .i64 6))), (4, 1, (.c (.int .i64 6))), (5, 1, (.c (.int .i64 7))), (6, 1, (.c (.int .i64 14))), (7, 1, (.c (.int .i64 22))), (8, 1, (.c (.int .i64 33))), (9, 1, (.c (.int .i64 38))), (10, 1, (.c (.int .i64 0))), (11, 1, (.c (.int .i64 64)))]⟩,
       ⟨some 40, false, none, .call 39 [(.u 38), (.u 39)]⟩,
       ⟨some 41, false, none, .mov (.t 0)⟩,
       ⟨some 42, false, none, .mkS 1 5 [.int .i64 0] [(0, 1, (.c (.int .i64 420))), (1, 1, (.c (.int .i64 384))), (2, 1, (.c (.int .i64 0))), (3, 1, (.c (.int .i64 511))), (4, 1, (.c (.int .i64 512)))]⟩,
       ⟨some 43, false, none, .call 39 [(.u 41), (.u 42)]⟩,
       ⟨some 44, false, none, .build [.int .i64 0, .int .i64 0, .int .i64 0, .int .i64 0] [(0, 1, (.u 40)), (1, 1, (.u 43))]⟩,
       ⟨some 45, false, none, .faddr 1 (.t 3)⟩,
       ⟨none, true, none, .store 4 (.u 45) (.u 44)⟩])
     (.seq (.region [⟨some 47, false, none, .bin .eql (.t 35) (.c (.int .i64 11))⟩,
        ⟨some 46, true, none, .mov (.u 47)⟩])
     (.cond (.t 46)
      (.region [⟨some 48, false, none, .mov (.t 0)⟩,
        ⟨some 49, false, none, .mkS 1 4 [.int .i64 0] [(0, 1, (.c (.int .i64 493))), (1, 1, (.c (.int .i64 511))), (2, 1, (.c (.int .i64 448))), (3, 1, (.c (.int .i64 512)))]⟩,
        ⟨some 50, false, none, .call 39 [(.u 48), (.u 49)]⟩,
        ⟨some 51, false, none, .faddr 1 (.t 3)⟩,
        ⟨some 52, false, none, .iaA 4 1 (.u 51) (.c (.int .i64 0))⟩,
        ⟨none, true, none, .store 1 (.u 52) (.u 50)⟩])
      (.seq (.seq (.region [⟨some 54, false, none, .bin .eql (.t 35) (.c (.int .i64 2))⟩,
          ⟨some 53, true, none, .mov (.u 54)⟩])
       (.cond (.t 53)
        (.skip)
        (.region [⟨some 55, false, none, .bin .eql (.t 35) (.c (.int .i64 7))⟩,
          ⟨some 53, true, none, .mov (.u 55)⟩])))
      (.cond (.t 53)
       (.region [⟨some 56, false, none, .mov (.t 0)⟩,
         ⟨some 57, false, none, .call 21 [(.u 56), (.c (.int .i64 3))]⟩,
         ⟨some 58, false, none, .faddr 1 (.t 3)⟩,
         ⟨some 59, false, none, .iaA 4 1 (.u 58) (.c (.int .i64 0))⟩,
         ⟨none, true, none, .store 1 (.u 59) (.u 57)⟩])
       (.seq (.region [⟨some 61, false, none, .bin .eql (.t 35) (.c (.int .i64 20))⟩,
          ⟨some 60, true, none, .mov (.u 61)⟩])
       (.cond (.t 60)
        (.region [⟨some 62, false, none, .mov (.t 0)⟩,
          ⟨some 63, false, none, .call 22 [(.u 62), (.c (.int .i64 1)), (.c (.int .i64 4))]⟩,
          ⟨some 64, false, none, .mov (.t 0)⟩,
          ⟨some 65, false, none, .mkS 1 5 [.int .i64 0] [(0, 1, (.c (.int .i64 9))), (1, 1, (.c (.int .i64 0))), (2, 1, (.c (.int .i64 64))), (3, 1, (.c (.int .i64 65))), (4, 1, (.c (.int .i64 9)))]⟩,
          ⟨some 66, false, none, .call 39 [(.u 64), (.u 65)]⟩,
          ⟨some 67, false, none, .build [.int .i64 0, .int .i64 0, .int .i64 0, .int .i64 0] [(0, 1, (.u 63)), (1, 1, (.u 66))]⟩,
          ⟨some 68, false, none, .faddr 1 (.t 3)⟩,
          ⟨none, true, none, .store 4 (.u 68) (.u 67)⟩])
        (.skip)))))))))))
  (.seq (.seq (.region [⟨some 9, true, none, .mov (.c (.int .i64 0))⟩])
   (.block 3 (.loop (.seq (.seq (.region [⟨some 69, false, none, .mov (.t 9)⟩,
         ⟨some 70, false, none, .mov (.t 5)⟩,
         ⟨some 71, true, none, .bin .lss (.u 69) (.u 70)⟩])
      (.cond (.t 71)
       (.skip)
       (.exit 3)))
     (.seq (.block 4 (.regionD [⟨0, [3], false, [], ⟨some 74, false, none, .faddr 5 (.t 3)⟩⟩,
         ⟨1, [74], true, [], ⟨some 75, false, none, .load false 1 (.u 74)⟩⟩,
         ⟨2, [0], false, [], ⟨some 76, false, none, .mov (.t 0)⟩⟩,
         ⟨3, [76], false, [1], ⟨some 77, false, none, .call 76 [(.u 76)]⟩⟩,
         ⟨4, [77], false, [], ⟨some 78, false, none, .mkS 1 1 [.str []] [(0, 1, (.u 77))]⟩⟩,
         ⟨5, [75, 78], false, [], ⟨some 79, false, none, .app 1 16 (.u 75) (.u 78)⟩⟩,
         ⟨6, [3], false, [], ⟨some 80, false, none, .faddr 5 (.t 3)⟩⟩,
         ⟨7, [80, 79], false, [], ⟨none, true, none, .store 1 (.u 80) (.u 79)⟩⟩]))
     (.region [⟨some 72, false, none, .mov (.t 9)⟩,
       ⟨some 73, false, none, .bin .add (.u 72) (.c (.int .i64 1))⟩,
       ⟨some 9, true, none, .mov (.u 73)⟩]))))))
  (.seq (.seq (.region [⟨some 81, false, none, .mov (.t 0)⟩,
      ⟨some 82, false, none, .mov (.t 6)⟩,
      ⟨some 83, false, none, .mov (.t 7)⟩,
      ⟨some 84, false, none, .call 22 [(.u 81), (.u 82), (.u 83)]⟩,
      ⟨some 10, true, none, .mov (.u 84)⟩])
   (.block 5 (.loop (.seq (.seq (.region [⟨some 85, false, none, .mov (.t 10)⟩,
         ⟨some 86, true, none, .bin .gtr (.u 85) (.c (.int .i64 0))⟩])
      (.cond (.t 86)
       (.skip)
       (.exit 5)))
     (.seq (.block 6 (.regionD [⟨0, [3], false, [], ⟨some 89, false, none, .faddr 6 (.t 3)⟩⟩,
         ⟨1, [89], true, [], ⟨some 90, false, none, .load false 1 (.u 89)⟩⟩,
         ⟨2, [0], false, [], ⟨some 91, false, none, .mov (.t 0)⟩⟩,
         ⟨3, [], false, [], ⟨some 92, false, none, .mkS 1 8 [.str []] [(0, 1, (.c (.str [97]))), (1, 1, (.c (.str [47, 97]))), (2, 1, (.c (.str [98, 47, 99]))), (3, 1, (.c (.str [104, 111, 115, 116]))), (4, 1, (.c (.str []))), (5, 1, (.c (.str [46, 46, 47, 98]))), (6, 1, (.c (.str [47]))), (7, 1, (.c (.str [120, 32, 121])))]⟩⟩,
         ⟨4, [91, 92], false, [1], ⟨some 93, false, none, .call 38 [(.u 91), (.u 92)]⟩⟩,
         ⟨5, [93], false, [], ⟨some 94, false, none, .mkS 1 1 [.str []] [(0, 1, (.u 93))]⟩⟩,
         ⟨6, [90, 94], false, [], ⟨some 95, false, none, .app 1 16 (.u 90) (.u 94)⟩⟩,
         ⟨7, [3], false, [], ⟨some 96, false, none, .faddr 6 (.t 3)⟩⟩,
         ⟨8, [96, 95], false, [], ⟨none, true, none, .store 1 (.u 96) (.u 95)⟩⟩]))
     (.region [⟨some 87, false, none, .mov (.t 10)⟩,
       ⟨some 88, false, none, .bin .sub (.u 87) (.c (.int .i64 1))⟩,
       ⟨some 10, true, none, .mov (.u 88)⟩]))))))
  (.seq (.seq (.region [⟨some 97, false, none, .mov (.t 0)⟩,
      ⟨some 98, false, none, .call 21 [(.u 97), (.c (.int .i64 40))]⟩,
      ⟨some 99, true, none, .bin .eql (.u 98) (.c (.int .i64 39))⟩])
   (.cond (.t 99)
    (.region [⟨some 100, false, none, .mov (.t 0)⟩,
      ⟨some 101, false, none, .call 21 [(.u 100), (.c (.int .i64 2))]⟩,
      ⟨some 102, false, none, .mov (.t 0)⟩,
      ⟨some 103, false, none, .call 22 [(.u 102), (.c (.int .i64 (-1))), (.c (.int .i64 33))]⟩,
      ⟨some 104, false, none, .faddr 1 (.t 3)⟩,
      ⟨some 105, false, none, .iaA 4 1 (.u 104) (.c (.int .i64 3))⟩,
      ⟨none, true, none, .store 1 (.u 105) (.u 101)⟩,
      ⟨some 106, false, none, .faddr 0 (.t 3)⟩,
      ⟨none, true, none, .store 1 (.u 106) (.u 103)⟩])
    (.skip)))
  (.seq (.region [⟨some 107, false, none, .load true 7 (.t 3)⟩,
     ⟨none, true, none, .store 7 (.t 2) (.u 107)⟩])
  (.ret)))))))))
def r56 : List LRes := [.cell true 7 2]
theorem t56 : (Try.f56.body.bind (trCode v56 Try.prog Try.f56.ntmps)) = some c56 ∧ trRes v56 Try.prog Try.f56.results.toList = some r56 := ⟨by kernel_rfl, by kernel_rfl⟩

def v57 : Nat → Bool := fun t => [0, 2, 3, 13].contains t
def c57 : LCode :=
  .seq (.region [⟨some 2, true, none, .zero [.str [], .str [], .int .i64 0, .int .i64 0, .str [], .int .i64 0, .int .i64 0, .int .i64 0, .int .i64 0, .int .i64 0, .int .i64 0, .int .i64 0, .int .i64 0]⟩])
  (.seq (.region [⟨some 4, false, none, .mov (.t 0)⟩,
     ⟨some 5, false, none, .call 76 [(.u 4)]⟩,
     ⟨some 6, false, none, .mov (.t 0)⟩,
     ⟨some 7, false, none, .call 22 [(.u 6), (.c (.int .i64 1)), (.c (.int .i64 3))]⟩,
     ⟨some 8, false, none, .mov (.t 0)⟩,
     ⟨some 9, false, none, .call 21 [(.u 8), (.c (.int .i64 16))]⟩,
     ⟨some 10, false, none, .build [.str [], .str [], .int .i64 0, .int .i64 0, .str [], .int .i64 0, .int .i64 0, .int .i64 0, .int .i64 0, .int .i64 0, .int .i64 0, .int .i64 0, .int .i64 0] [(0, 1, (.u 5)), (7, 1, (.u 7)), (12, 1, (.u 9))]⟩,
     ⟨some 3, true, none, .zero [.str [], .str [], .int .i64 0, .int .i64 0, .str [], .int .i64 0, .int .i64 0, .int .i64 0, .int .i64 0, .int .i64 0, .int .i64 0, .int .i64 0, .int .i64 0]⟩,
     ⟨none, true, none, .store 13 (.t 3) (.u 10)⟩])
  (.seq (.seq (.region [⟨some 11, false, none, .mov (.t 0)⟩,
      ⟨some 12, false, none, .call 21 [(.u 11), (.c (.int .i64 4))]⟩,
      ⟨some 13, true, none, .bin .gtr (.u 12) (.c (.int .i64 0))⟩])
   (.cond (.t 13)
    (.seq (.region [⟨some 14, false, none, .mov (.t 0)⟩,
       ⟨some 15, false, none, .call 77 [(.u 14)]⟩,
       ⟨some 16, false, none, .mov (.t 0)⟩,
       ⟨some 17, false, none, .call 22 [(.u 16), (.c (.int .i64 1)), (.c (.int .i64 4))]⟩,
       ⟨some 18, false, none, .build [.int .i64 0, .int .i64 0] [(1, 1, (.u 17))]⟩,
       ⟨some 19, false, none, .mov (.t 0)⟩,
       ⟨some 20, false, none, .call 78 [(.u 19)]⟩,
       ⟨some 21, false, none, .faddr 1 (.t 3)⟩,
       ⟨none, true, none, .store 1 (.u 21) (.u 15)⟩,
       ⟨some 22, false, none, .faddr 2 (.t 3)⟩,
       ⟨none, true, none, .store 2 (.u 22) (.u 18)⟩,
       ⟨some 23, false, none, .faddr 4 (.t 3)⟩,
       ⟨none, true, none, .store 1 (.u 23) (.u 20)⟩])
    (.region [⟨some 24, false, none, .mov (.t 0)⟩,
      ⟨some 25, false, none, .call 21 [(.u 24), (.c (.int .i64 2))]⟩,
      ⟨some 26, false, none, .mov (.t 0)⟩,
      ⟨some 27, false, none, .call 21 [(.u 26), (.c (.int .i64 5))]⟩,
      ⟨some 28, false, none, .build [.int .i64 0, .int .i64 0] [(0, 1, (.u 25)), (1, 1, (.u 27))]⟩,
      ⟨some 29, false, none, .mov (.t 0)⟩,
      ⟨some 30, false, none, .call 21 [(.u 29), (.c (.int .i64 4))]⟩,
      ⟨some 31, false, none, .mov (.t 0)⟩,
      ⟨some 32, false, none, .mkS 1 3 [.int .i64 0] [(0, 1, (.c (.int .i64 0))), (1, 1, (.c (.int .i64 5))), (2, 1, (.c (.int .i64 7)))]⟩,
      ⟨some 33, false, none, .call 39 [(.u 31), (.u 32)]⟩,
      ⟨some 34, false, none, .mov (.t 0)⟩,
      ⟨some 35, false, none, .mkS 1 3 [.int .i64 0] [(0, 1, (.c (.int .i64 0))), (1, 1, (.c (.int .i64 5))), (2, 1, (.c (.int .i64 7)))]⟩,
      ⟨some 36, false, none, .call 39 [(.u 34), (.u 35)]⟩,
      ⟨some 37, false, none, .faddr 5 (.t 3)⟩,
      ⟨none, true, none, .store 2 (.u 37) (.u 28)⟩,
      ⟨some 38, false, none, .faddr 8 (.t 3)⟩,
      ⟨none, true, none, .store 1 (.u 38) (.u 30)⟩,
      ⟨some 39, false, none, .faddr 9 (.t 3)⟩,
      ⟨none, true, none, .store 1 (.u 39) (.c (.int .i64 420))⟩,
      ⟨some 40, false, none, .faddr 10 (.t 3)⟩,
      ⟨none, true, none, .store 1 (.u 40) (.u 33)⟩,
      ⟨some 41, false, none, .faddr 11 (.t 3)⟩,
      ⟨none, true, none, .store 1 (.u 41) (.u 36)⟩]))
    (.skip)))
  (.seq (.region [⟨some 42, false, none, .load true 13 (.t 3)⟩,
     ⟨none, true, none, .store 13 (.t 2) (.u 42)⟩])
  (.ret))))
def r57 : List LRes := [.cell true 13 2]
theorem t57 : (Try.f57.body.bind (trCode v57 Try.prog Try.f57.ntmps)) = some c57 ∧ trRes v57 Try.prog Try.f57.results.toList = some r57 := ⟨by kernel_rfl, by kernel_rfl⟩

def v59 : Nat → Bool := fun t => [0, 1, 2, 3, 4, 5, 6, 8, 10, 21, 31, 37, 38, 39, 40, 52].contains t
def c59 : LCode :=
  .seq (.region [⟨some 2, true, none, .box (.t 0)⟩,
     ⟨some 3, true, none, .box (.t 1)⟩,
     ⟨some 4, true, none, .mov (.c (.bool false))⟩])
  (.seq (.region [⟨some 5, true, none, .mov (.c (.bool false))⟩])
  (.seq (.seq (.region [⟨some 6, true, none, .mov (.c (.int .i64 1))⟩])
   (.block 0 (.loop (.seq (.seq (.region [⟨some 9, false, none, .mov (.t 6)⟩,
         ⟨some 10, true, none, .bin .leq (.u 9) (.c (.int .i64 5))⟩])
      (.cond (.t 10)
       (.skip)
       (.exit 0)))
     (.seq (.block 1 (.region [⟨some 13, false, none, .mov (.t 5)⟩,
         ⟨some 14, false, none, .mov (.u 13)⟩,
         ⟨some 15, false, some ((.u 14), false), .load true 5 (.t 2)⟩,
         ⟨some 16, false, some ((.u 14), false), .mov (.t 6)⟩,
         ⟨some 17, false, some ((.u 14), false), .call 79 [(.u 15), (.u 16)]⟩,
         ⟨some 18, false, some ((.u 14), false), .bin .eql (.u 17) (.c (.int .i64 0))⟩,
         ⟨some 19, false, none, .pick (.u 14) (.c (.bool true)) (.u 18)⟩,
         ⟨some 5, true, none, .mov (.u 19)⟩]))
     (.region [⟨some 11, false, none, .mov (.t 6)⟩,
       ⟨some 12, false, none, .bin .add (.u 11) (.c (.int .i64 1))⟩,
       ⟨some 6, true, none, .mov (.u 12)⟩]))))))
  (.seq (.seq (.region [⟨some 20, false, none, .mov (.t 5)⟩,
      ⟨some 21, true, none, .un .not (.u 20)⟩])
   (.cond (.t 21)
    (.seq (.region [⟨some 4, true, none, .mov (.c (.bool false))⟩])
    (.ret))
    (.skip)))
  (.seq (.seq (.region [⟨some 22, false, none, .faddr 0 (.t 2)⟩,
      ⟨some 23, false, none, .load false 1 (.u 22)⟩,
      ⟨some 24, false, none, .call 80 [(.u 23)]⟩,
      ⟨some 25, false, none, .un .not (.u 24)⟩,
      ⟨some 26, false, none, .mov (.u 25)⟩,
      ⟨some 27, false, some ((.u 26), true), .faddr 4 (.t 2)⟩,
      ⟨some 28, false, some ((.u 26), true), .load false 1 (.u 27)⟩,
      ⟨some 29, false, some ((.u 26), true), .call 80 [(.u 28)]⟩,
      ⟨some 30, false, some ((.u 26), true), .un .not (.u 29)⟩,
      ⟨some 31, true, none, .pick (.u 26) (.u 30) (.c (.bool false))⟩])
   (.cond (.t 31)
    (.seq (.region [⟨some 32, false, none, .load true 5 (.t 2)⟩,
       ⟨some 33, false, none, .load true 25 (.t 3)⟩,
       ⟨some 34, false, none, .build [.str [], .str [], .int .i64 0, .int .i64 0, .str [], .int .i64 0, .int .i64 0, .int .i64 0, .int .i64 0, .int .i64 0, .int .i64 0, .int .i64 0, .int .i64 0] []⟩,
       ⟨some 35, false, none, .call 81 [(.u 32), (.u 33), (.u 34)]⟩,
       ⟨some 4, true, none, .mov (.u 35)⟩])
    (.ret))
    (.skip)))
  (.seq (.seq (.region [⟨some 36, false, none, .faddr 23 (.t 3)⟩,
      ⟨some 37, true, none, .load false 1 (.u 36)⟩,
      ⟨some 38, true, none, .lenL (.t 37)⟩,
      ⟨some 39, true, none, .mov (.c (.int .i64 0))⟩])
   (.block 2 (.loop (.seq (.region [⟨some 40, true, none, .bin .lss (.t 39) (.t 38)⟩])
     (.seq (.cond (.t 40)
       (.skip)
       (.exit 2))
     (.seq (.block 3 (.seq (.region [⟨some 41, false, none, .iaS 13 (.t 37) (.t 39)⟩,
          ⟨some 42, false, none, .load true 13 (.u 41)⟩,
          ⟨some 8, true, none, .zero [.str [], .str [], .int .i64 0, .int .i64 0, .str [], .int .i64 0, .int .i64 0, .int .i64 0, .int .i64 0, .int .i64 0, .int .i64 0, .int .i64 0, .int .i64 0]⟩,
          ⟨none, true, none, .store 13 (.t 8) (.u 42)⟩])
       (.seq (.region [⟨some 43, false, none, .faddr 5 (.t 8)⟩,
          ⟨some 44, false, none, .load true 2 (.u 43)⟩,
          ⟨some 45, false, none, .build [.int .i64 0, .int .i64 0] []⟩,
          ⟨some 46, false, none, .eqS true 2 [(0, 1), (1, 1)] (.u 44) (.u 45)⟩,
          ⟨some 47, false, none, .mov (.u 46)⟩,
          ⟨some 48, false, some ((.u 47), true), .load true 5 (.t 2)⟩,
          ⟨some 49, false, some ((.u 47), true), .load true 25 (.t 3)⟩,
          ⟨some 50, false, some ((.u 47), true), .load true 13 (.t 8)⟩,
          ⟨some 51, false, some ((.u 47), true), .call 81 [(.u 48), (.u 49), (.u 50)]⟩,
          ⟨some 52, true, none, .pick (.u 47) (.u 51) (.c (.bool false))⟩])
       (.cond (.t 52)
        (.seq (.region [⟨some 4, true, none, .mov (.c (.bool true))⟩])
        (.ret))
        (.skip)))))
     (.region [⟨some 53, false, none, .bin .add (.t 39) (.c (.int .i64 1))⟩,
       ⟨some 39, true, none, .mov (.u 53)⟩])))))))
  (.seq (.region [⟨some 4, true, none, .mov (.c (.bool false))⟩])
  (.ret)))))))
def r59 : List LRes := [.slot 4]
theorem t59 : (Try.f59.body.bind (trCode v59 Try.prog Try.f59.ntmps)) = some c59 ∧ trRes v59 Try.prog Try.f59.results.toList = some r59 := ⟨by kernel_rfl, by kernel_rfl⟩

def v61 : Nat → Bool := fun t => [0, 1, 2, 3, 5, 11].contains t
def c61 : LCode :=
  .seq (.region [⟨some 1, true, none, .box (.t 0)⟩,
     ⟨some 2, true, none, .mov (.c (.bool false))⟩])
  (.seq (.seq (.region [⟨some 3, true, none, .mov (.c (.int .i64 1))⟩])
   (.block 0 (.loop (.seq (.seq (.region [⟨some 4, false, none, .mov (.t 3)⟩,
         ⟨some 5, true, none, .bin .leq (.u 4) (.c (.int .i64 5))⟩])
      (.cond (.t 5)
       (.skip)
       (.exit 0)))
     (.seq (.block 1 (.seq (.region [⟨some 8, false, none, .load true 5 (.t 1)⟩,
          ⟨some 9, false, none, .mov (.t 3)⟩,
          ⟨some 10, false, none, .call 82 [(.u 8), (.u 9)]⟩,
          ⟨some 11, true, none, .bin .eql (.u 10) (.c (.int .i64 0))⟩])
       (.cond (.t 11)
        (.seq (.region [⟨some 2, true, none, .mov (.c (.bool true))⟩])
        (.ret))
        (.skip))))
     (.region [⟨some 6, false, none, .mov (.t 3)⟩,
       ⟨some 7, false, none, .bin .add (.u 6) (.c (.int .i64 1))⟩,
       ⟨some 3, true, none, .mov (.u 7)⟩]))))))
  (.seq (.region [⟨some 2, true, none, .mov (.c (.bool false))⟩])
  (.ret)))
def r61 : List LRes := [.slot 2]
theorem t61 : (Try.f61.body.bind (trCode v61 Try.prog Try.f61.ntmps)) = some c61 ∧ trRes v61 Try.prog Try.f61.results.toList = some r61 := ⟨by kernel_rfl, by kernel_rfl⟩

def v62 : Nat → Bool := fun t => [0, 1, 3, 4, 10].contains t
def c62 : LCode :=
  .seq (.region [⟨some 3, true, none, .box (.t 1)⟩,
     ⟨some 4, true, none, .mov (.c (.bool false))⟩])
  (.seq (.seq (.region [⟨some 5, false, none, .mov (.t 0)⟩,
      ⟨some 6, false, none, .bin .geq (.u 5) (.c (.int .i64 15))⟩,
      ⟨some 7, false, none, .mov (.u 6)⟩,
      ⟨some 8, false, some ((.u 7), true), .mov (.t 0)⟩,
      ⟨some 9, false, some ((.u 7), true), .bin .leq (.u 8) (.c (.int .i64 21))⟩,
      ⟨some 10, true, none, .pick (.u 7) (.u 9) (.c (.bool false))⟩])
   (.cond (.t 10)
    (.seq (.region [⟨some 11, false, none, .faddr 0 (.t 3)⟩,
       ⟨some 12, false, none, .load false 1 (.u 11)⟩,
       ⟨some 13, false, none, .bin .eql (.u 12) (.c (.int .i64 2))⟩,
       ⟨some 4, true, none, .mov (.u 13)⟩])
    (.ret))
    (.skip)))
  (.seq (.region [⟨some 14, false, none, .mov (.t 0)⟩,
     ⟨some 15, false, none, .bin .neq (.u 14) (.c (.int .i64 22))⟩,
     ⟨some 16, false, none, .mov (.u 15)⟩,
     ⟨some 17, false, some ((.u 16), false), .faddr 24 (.t 3)⟩,
     ⟨some 18, false, some ((.u 16), false), .load false 1 (.u 17)⟩,
     ⟨some 19, false, some ((.u 16), false), .bin .neq (.u 18) (.c (.int .i64 0))⟩,
     ⟨some 20, false, none, .pick (.u 16) (.c (.bool true)) (.u 19)⟩,
     ⟨some 4, true, none, .mov (.u 20)⟩])
  (.ret)))
def r62 : List LRes := [.slot 4]
theorem t62 : (Try.f62.body.bind (trCode v62 Try.prog Try.f62.ntmps)) = some c62 ∧ trRes v62 Try.prog Try.f62.results.toList = some r62 := ⟨by kernel_rfl, by kernel_rfl⟩

def v63 : Nat → Bool := fun t => [0, 2].contains t
def c63 : LCode :=
  .seq (.region [⟨some 2, true, none, .mov (.c (.bool false))⟩])
  (.seq (.region [⟨some 3, false, none, .mov (.t 0)⟩,
     ⟨some 4, false, none, .bin .geq (.u 3) (.c (.int .i64 17))⟩,
     ⟨some 5, false, none, .mov (.u 4)⟩,
     ⟨some 6, false, some ((.u 5), true), .mov (.t 0)⟩,
     ⟨some 7, false, some ((.u 5), true), .bin .leq (.u 6) (.c (.int .i64 21))⟩,
     ⟨some 8, false, none, .pick (.u 5) (.u 7) (.c (.bool false))⟩,
     ⟨some 2, true, none, .mov (.u 8)⟩])
  (.ret))
def r63 : List LRes := [.slot 2]
theorem t63 : (Try.f63.body.bind (trCode v63 Try.prog Try.f63.ntmps)) = some c63 ∧ trRes v63 Try.prog Try.f63.results.toList = some r63 := ⟨by kernel_rfl, by kernel_rfl⟩

def v64 : Nat → Bool := fun t => [0, 1, 2, 3, 4, 5, 6, 7, 8, 11, 17, 33].contains t
def c64 : LCode :=
  .seq (.region [⟨some 3, true, none, .box (.t 0)⟩,
     ⟨some 4, true, none, .box (.t 1)⟩,
     ⟨some 5, true, none, .box (.t 2)⟩,
     ⟨some 6, true, none, .mov (.c (.bool false))⟩])
  (.seq (.seq (.region [⟨some 9, false, none, .faddr 0 (.t 3)⟩,
      ⟨some 10, false, none, .load false 1 (.u 9)⟩,
      ⟨some 11, true, none, .call 83 [(.u 10)]⟩])
   (.cond (.t 11)
    (.seq (.region [⟨some 12, false, none, .faddr 1 (.t 4)⟩,
       ⟨some 13, false, none, .faddr 11 (.u 12)⟩,
       ⟨some 14, false, none, .load false 1 (.u 13)⟩,
       ⟨some 7, true, none, .mov (.u 14)⟩])
    (.seq (.seq (.region [⟨some 15, false, none, .faddr 0 (.t 3)⟩,
        ⟨some 16, false, none, .load false 1 (.u 15)⟩,
        ⟨some 17, true, none, .bin .eql (.u 16) (.c (.int .i64 14))⟩])
     (.cond (.t 17)
      (.region [⟨some 18, false, none, .faddr 1 (.t 4)⟩,
        ⟨some 19, false, none, .faddr 10 (.u 18)⟩,
        ⟨some 20, false, none, .load false 1 (.u 19)⟩,
        ⟨some 7, true, none, .mov (.u 20)⟩])
      (.skip)))
    (.seq (.region [⟨some 21, false, none, .mov (.t 7)⟩,
       ⟨some 22, false, none, .faddr 3 (.t 3)⟩,
       ⟨some 23, false, none, .load false 1 (.u 22)⟩,
       ⟨some 24, false, none, .bin .eql (.u 21) (.u 23)⟩,
       ⟨some 25, false, none, .faddr 1 (.t 3)⟩,
       ⟨some 26, false, none, .load false 1 (.u 25)⟩,
       ⟨some 27, false, none, .bin .eql (.u 26) (.c (.int .i64 1))⟩,
       ⟨some 28, false, none, .eqB false (.u 24) (.u 27)⟩,
       ⟨some 6, true, none, .mov (.u 28)⟩])
    (.ret))))
    (.skip)))
  (.seq (.region [⟨some 29, false, none, .faddr 2 (.t 3)⟩,
     ⟨some 30, false, none, .load false 1 (.u 29)⟩,
     ⟨some 8, true, none, .mov (.u 30)⟩])
  (.seq (.seq (.region [⟨some 31, false, none, .faddr 4 (.t 3)⟩,
      ⟨some 32, false, none, .load false 1 (.u 31)⟩,
      ⟨some 33, true, none, .bin .neq (.u 32) (.c (.int .i64 0))⟩])
   (.cond (.t 33)
    (.region [⟨some 34, false, none, .faddr 4 (.t 3)⟩,
      ⟨some 35, false, none, .load false 1 (.u 34)⟩,
      ⟨some 36, false, none, .load true 25 (.t 4)⟩,
      ⟨some 37, false, none, .load true 13 (.t 5)⟩,
      ⟨some 38, false, none, .call 84 [(.u 35), (.u 36), (.u 37)]⟩,
      ⟨some 8, true, none, .mov (.u 38)⟩])
    (.skip)))
  (.seq (.regionD [⟨0, [3], false, [], ⟨some 39, false, none, .faddr 1 (.t 3)⟩⟩,
     ⟨1, [39], true, [], ⟨some 40, false, none, .load false 1 (.u 39)⟩⟩,
     ⟨2, [3], false, [], ⟨some 41, false, none, .faddr 0 (.t 3)⟩⟩,
     ⟨3, [41], true, [], ⟨some 42, false, none, .load false 1 (.u 41)⟩⟩,
     ⟨4, [4], true, [], ⟨some 43, false, none, .load true 25 (.t 4)⟩⟩,
     ⟨5, [5], true, [], ⟨some 44, false, none, .load true 13 (.t 5)⟩⟩,
     ⟨7, [8], false, [], ⟨some 46, false, none, .mov (.t 8)⟩⟩,
     ⟨6, [42, 43, 44], false, [1], ⟨some 45, false, none, .call 84 [(.u 42), (.u 43), (.u 44)]⟩⟩,
     ⟨8, [40, 45, 46], false, [], ⟨some 47, false, none, .call 85 [(.u 40), (.u 45), (.u 46)]⟩⟩,
     ⟨9, [47], false, [], ⟨some 6, true, none, .mov (.u 47)⟩⟩])
  (.ret)))))
def r64 : List LRes := [.slot 6]
theorem t64 : (Try.f64.body.bind (trCode v64 Try.prog Try.f64.ntmps)) = some c64 ∧ trRes v64 Try.prog Try.f64.results.toList = some r64 := ⟨by kernel_rfl, by kernel_rfl⟩

def v75 : Nat → Bool := fun t => [0, 2, 3, 4, 5, 6].contains t
def c75 : LCode :=
  .seq (.region [⟨some 2, true, none, .mov (.c (.int .i64 0))⟩,
     ⟨some 3, true, none, .mov (.c (.int .i64 0))⟩,
     ⟨some 4, true, none, .mov (.c (.int .i64 0))⟩,
     ⟨some 5, true, none, .mov (.c (.int .i64 0))⟩])
  (.seq (.region [⟨some 7, false, none, .mov (.t 0)⟩,
     ⟨some 8, false, none, .call 89 [(.u 7)]⟩,
     ⟨some 6, true, none, .zero [.str [], .int .i64 0, .int .i64 0, .int .i64 0, .int .i64 0]⟩,
     ⟨none, true, none, .store 5 (.t 6) (.u 8)⟩])
  (.seq (.regionD [⟨0, [6], false, [], ⟨some 9, false, none, .faddr 1 (.t 6)⟩⟩,
     ⟨1, [9], true, [], ⟨some 10, false, none, .load false 1 (.u 9)⟩⟩,
     ⟨2, [6], false, [], ⟨some 11, false, none, .faddr 2 (.t 6)⟩⟩,
     ⟨3, [11], true, [], ⟨some 12, false, none, .load false 1 (.u 11)⟩⟩,
     ⟨4, [6], false, [], ⟨some 13, false, none, .faddr 3 (.t 6)⟩⟩,
     ⟨5, [13], true, [], ⟨some 14, false, none, .load false 1 (.u 13)⟩⟩,
     ⟨6, [6], false, [], ⟨some 15, false, none, .faddr 4 (.t 6)⟩⟩,
     ⟨7, [15], true, [], ⟨some 16, false, none, .load false 1 (.u 15)⟩⟩,
     ⟨8, [10], false, [], ⟨some 2, true, none, .mov (.u 10)⟩⟩,
     ⟨9, [12], false, [], ⟨some 3, true, none, .mov (.u 12)⟩⟩,
     ⟨10, [14], false, [], ⟨some 4, true, none, .mov (.u 14)⟩⟩,
     ⟨11, [16], false, [], ⟨some 5, true, none, .mov (.u 16)⟩⟩])
  (.ret)))
def r75 : List LRes := [.slot 2, .slot 3, .slot 4, .slot 5]
theorem t75 : (Try.f75.body.bind (trCode v75 Try.prog Try.f75.ntmps)) = some c75 ∧ trRes v75 Try.prog Try.f75.results.toList = some r75 := ⟨by kernel_rfl, by kernel_rfl⟩

def v76 : Nat → Bool := fun t => [0, 2, 3, 4, 5, 8, 14, 18, 23, 35].contains t
def c76 : LCode :=
  .seq (.region [⟨some 2, true, none, .mov (.c (.str []))⟩])
  (.seq (.region [⟨some 3, true, none, .mov (.c (.str []))⟩])
  (.seq (.seq (.region [⟨some 6, false, none, .mov (.t 0)⟩,
      ⟨some 7, false, none, .call 21 [(.u 6), (.c (.int .i64 6))]⟩,
      ⟨some 8, true, none, .bin .gtr (.u 7) (.c (.int .i64 0))⟩])
   (.cond (.t 8)
    (.region [⟨some 3, true, none, .mov (.c (.str [47]))⟩])
    (.skip)))
  (.seq (.region [⟨some 9, false, none, .mov (.t 0)⟩,
     ⟨some 10, false, none, .mkS 1 7 [.int .i64 0] [(0, 1, (.c (.int .i64 1))), (1, 1, (.c (.int .i64 1))), (2, 1, (.c (.int .i64 2))), (3, 1, (.c (.int .i64 2))), (4, 1, (.c (.int .i64 3))), (5, 1, (.c (.int .i64 0))), (6, 1, (.c (.int .i64 4)))]⟩,
     ⟨some 11, false, none, .call 39 [(.u 9), (.u 10)]⟩,
     ⟨some 4, true, none, .mov (.u 11)⟩])
  (.seq (.seq (.region [⟨some 5, true, none, .mov (.c (.int .i64 0))⟩])
   (.block 0 (.loop (.seq (.seq (.region [⟨some 12, false, none, .mov (.t 5)⟩,
         ⟨some 13, false, none, .mov (.t 4)⟩,
         ⟨some 14, true, none, .bin .lss (.u 12) (.u 13)⟩])
      (.cond (.t 14)
       (.skip)
       (.exit 0)))
     (.seq (.block 1 (.seq (.seq (.region [⟨some 17, false, none, .mov (.t 5)⟩,
           ⟨some 18, true, none, .bin .gtr (.u 17) (.c (.int .i64 0))⟩])
        (.cond (.t 18)
         (.region [⟨some 19, false, none, .mov (.t 3)⟩,
           ⟨some 20, false, none, .bin .add (.u 19) (.c (.str [47]))⟩,
           ⟨some 3, true, none, .mov (.u 20)⟩])
         (.skip)))
       (.seq (.region [⟨some 21, false, none, .mov (.t 0)⟩,
          ⟨some 22, false, none, .call 21 [(.u 21), (.c (.int .i64 8))]⟩,
          ⟨some 23, true, none, .bin .eql (.u 22) (.c (.int .i64 7))⟩])
       (.cond (.t 23)
        (.region [⟨some 24, false, none, .mov (.t 3)⟩,
          ⟨some 25, false, none, .mov (.t 0)⟩,
          ⟨some 26, false, none, .mkS 1 4 [.str []] [(0, 1, (.c (.str [46]))), (1, 1, (.c (.str [46, 46]))), (2, 1, (.c (.str []))), (3, 1, (.c (.str [97, 47, 47, 98])))]⟩,
          ⟨some 27, false, none, .call 38 [(.u 25), (.u 26)]⟩,
          ⟨some 28, false, none, .bin .add (.u 24) (.u 27)⟩,
          ⟨some 3, true, none, .mov (.u 28)⟩])
        (.region [⟨some 29, false, none, .mov (.t 3)⟩,
          ⟨some 30, false, none, .mov (.t 0)⟩,
          ⟨some 31, false, none, .call 78 [(.u 30)]⟩,
          ⟨some 32, false, none, .bin .add (.u 29) (.u 31)⟩,
          ⟨some 3, true, none, .mov (.u 32)⟩])))))
     (.region [⟨some 15, false, none, .mov (.t 5)⟩,
       ⟨some 16, false, none, .bin .add (.u 15) (.c (.int .i64 1))⟩,
       ⟨some 5, true, none, .mov (.u 16)⟩]))))))
  (.seq (.seq (.region [⟨some 33, false, none, .mov (.t 0)⟩,
      ⟨some 34, false, none, .call 21 [(.u 33), (.c (.int .i64 8))]⟩,
      ⟨some 35, true, none, .bin .eql (.u 34) (.c (.int .i64 7))⟩])
   (.cond (.t 35)
    (.region [⟨some 36, false, none, .mov (.t 3)⟩,
      ⟨some 37, false, none, .bin .add (.u 36) (.c (.str [47]))⟩,
      ⟨some 3, true, none, .mov (.u 37)⟩])
    (.skip)))
  (.seq (.region [⟨some 38, false, none, .mov (.t 3)⟩,
     ⟨some 2, true, none, .mov (.u 38)⟩])
  (.ret)))))))
def r76 : List LRes := [.slot 2]
theorem t76 : (Try.f76.body.bind (trCode v76 Try.prog Try.f76.ntmps)) = some c76 ∧ trRes v76 Try.prog Try.f76.results.toList = some r76 := ⟨by kernel_rfl, by kernel_rfl⟩

def v77 : Nat → Bool := fun t => [0, 2, 3, 4, 9].contains t
def c77 : LCode :=
  .seq (.region [⟨some 2, true, none, .mov (.c (.str []))⟩])
  (.seq (.region [⟨some 3, true, none, .mov (.c (.str []))⟩])
  (.seq (.seq (.region [⟨some 5, false, none, .mov (.t 0)⟩,
      ⟨some 6, false, none, .mkS 1 5 [.int .i64 0] [(0, 1, (.c (.int .i64 1))), (1, 1, (.c (.int .i64 1))), (2, 1, (.c (.int .i64 2))), (3, 1, (.c (.int .i64 2))), (4, 1, (.c (.int .i64 3)))]⟩,
      ⟨some 7, false, none, .call 39 [(.u 5), (.u 6)]⟩,
      ⟨some 4, true, none, .mov (.u 7)⟩])
   (.block 0 (.loop (.seq (.seq (.region [⟨some 8, false, none, .mov (.t 4)⟩,
         ⟨some 9, true, none, .bin .gtr (.u 8) (.c (.int .i64 0))⟩])
      (.cond (.t 9)
       (.skip)
       (.exit 0)))
     (.seq (.block 1 (.region [⟨some 12, false, none, .mov (.t 3)⟩,
         ⟨some 13, false, none, .mov (.t 0)⟩,
         ⟨some 14, false, none, .mkS 1 5 [.str []] [(0, 1, (.c (.str [97]))), (1, 1, (.c (.str [98]))), (2, 1, (.c (.str [99]))), (3, 1, (.c (.str [108]))), (4, 1, (.c (.str [109])))]⟩,
         ⟨some 15, false, none, .call 38 [(.u 13), (.u 14)]⟩,
         ⟨some 16, false, none, .bin .add (.c (.str [47])) (.u 15)⟩,
         ⟨some 17, false, none, .bin .add (.u 12) (.u 16)⟩,
         ⟨some 3, true, none, .mov (.u 17)⟩]))
     (.region [⟨some 10, false, none, .mov (.t 4)⟩,
       ⟨some 11, false, none, .bin .sub (.u 10) (.c (.int .i64 1))⟩,
       ⟨some 4, true, none, .mov (.u 11)⟩]))))))
  (.seq (.region [⟨some 18, false, none, .mov (.t 3)⟩,
     ⟨some 2, true, none, .mov (.u 18)⟩])
  (.ret))))
def r77 : List LRes := [.slot 2]
theorem t77 : (Try.f77.body.bind (trCode v77 Try.prog Try.f77.ntmps)) = some c77 ∧ trRes v77 Try.prog Try.f77.results.toList = some r77 := ⟨by kernel_rfl, by kernel_rfl⟩

def v78 : Nat → Bool := fun t => [0, 2, 5].contains t
def c78 : LCode :=
  .seq (.region [⟨some 2, true, none, .mov (.c (.str []))⟩])
  (.seq (.seq (.region [⟨some 3, false, none, .mov (.t 0)⟩,
      ⟨some 4, false, none, .call 21 [(.u 3), (.c (.int .i64 20))]⟩,
      ⟨some 5, true, none, .bin .eql (.u 4) (.c (.int .i64 19))⟩])
   (.cond (.t 5)
    (.seq (.region [⟨some 6, false, none, .mov (.t 0)⟩,
       ⟨some 7, false, none, .mkS 1 8 [.str []] [(0, 1, (.c (.str []))), (1, 1, (.c (.str [46]))), (2, 1, (.c (.str [46, 46]))), (3, 1, (.c (.str [97, 47, 98]))), (4, 1, (.c (.str [97, 98, 99, 100, 101, 102, 103, 104, 105, 106, 107, 108]))), (5, 1, (.c (.str [97, 98, 99, 100, 101, 102, 103, 104, 105, 106, 107, 108, 109]))), (6, 1, (.c (.str [97, 0]))), (7, 1, (.c (.str [126])))]⟩,
       ⟨some 8, false, none, .call 38 [(.u 6), (.u 7)]⟩,
       ⟨some 2, true, none, .mov (.u 8)⟩])
    (.ret))
    (.skip)))
  (.seq (.region [⟨some 9, false, none, .mov (.t 0)⟩,
     ⟨some 10, false, none, .mkS 1 6 [.str []] [(0, 1, (.c (.str [97]))), (1, 1, (.c (.str [98]))), (2, 1, (.c (.str [99]))), (3, 1, (.c (.str [100]))), (4, 1, (.c (.str [108]))), (5, 1, (.c (.str [109])))]⟩,
     ⟨some 11, false, none, .call 38 [(.u 9), (.u 10)]⟩,
     ⟨some 2, true, none, .mov (.u 11)⟩])
  (.ret)))
def r78 : List LRes := [.slot 2]
theorem t78 : (Try.f78.body.bind (trCode v78 Try.prog Try.f78.ntmps)) = some c78 ∧ trRes v78 Try.prog Try.f78.results.toList = some r78 := ⟨by kernel_rfl, by kernel_rfl⟩

def v79 : Nat → Bool := fun t => [0, 1, 2, 4, 9, 31, 39, 57, 58, 72, 92].contains t
def c79 : LCode :=
  .seq (.region [⟨some 2, true, none, .box (.t 0)⟩,
     ⟨some 4, true, none, .mov (.c (.int .i64 0))⟩])
  (.seq (.seq (.region [⟨some 5, false, none, .mov (.t 1)⟩,
      ⟨some 6, false, none, .faddr 0 (.t 2)⟩,
      ⟨some 7, false, none, .load false 1 (.u 6)⟩,
      ⟨some 8, false, none, .call 90 [(.u 5), (.u 7)]⟩,
      ⟨some 9, true, none, .un .not (.u 8)⟩])
   (.cond (.t 9)
    (.seq (.region [⟨some 4, true, none, .mov (.c (.int .i64 120))⟩])
    (.ret))
    (.skip)))
  (.seq (.seq (.region [⟨some 10, false, none, .faddr 4 (.t 2)⟩,
      ⟨some 11, false, none, .load false 1 (.u 10)⟩,
      ⟨some 12, false, none, .bin .neq (.u 11) (.c (.int .i64 0))⟩,
      ⟨some 13, false, none, .mov (.u 12)⟩,
      ⟨some 14, false, some ((.u 13), true), .mov (.t 1)⟩,
      ⟨some 15, false, some ((.u 13), true), .faddr 4 (.t 2)⟩,
      ⟨some 16, false, some ((.u 13), true), .load false 1 (.u 15)⟩,
      ⟨some 17, false, some ((.u 13), true), .call 90 [(.u 14), (.u 16)]⟩,
      ⟨some 18, false, some ((.u 13), true), .un .not (.u 17)⟩,
      ⟨some 19, false, some ((.u 13), true), .mov (.u 18)⟩,
      ⟨some 20, false, some ((.u 19), false), .faddr 0 (.t 2)⟩,
      ⟨some 21, false, some ((.u 19), false), .load false 1 (.u 20)⟩,
      ⟨some 22, false, some ((.u 19), false), .call 91 [(.u 21)]⟩,
      ⟨some 23, false, some ((.u 19), false), .un .not (.u 22)⟩,
      ⟨some 24, false, some ((.u 13), true), .pick (.u 19) (.c (.bool true)) (.u 23)⟩,
      ⟨some 25, false, some ((.u 13), true), .mov (.u 24)⟩,
      ⟨some 26, false, some ((.u 25), false), .faddr 4 (.t 2)⟩,
      ⟨some 27, false, some ((.u 25), false), .load false 1 (.u 26)⟩,
      ⟨some 28, false, some ((.u 25), false), .call 91 [(.u 27)]⟩,
      ⟨some 29, false, some ((.u 25), false), .un .not (.u 28)⟩,
      ⟨some 30, false, some ((.u 13), true), .pick (.u 25) (.c (.bool true)) (.u 29)⟩,
      ⟨some 31, true, none, .pick (.u 13) (.u 30) (.c (.bool false))⟩])
   (.cond (.t 31)
    (.seq (.region [⟨some 4, true, none, .mov (.c (.int .i64 120))⟩])
    (.ret))
    (.skip)))
  (.seq (.seq (.region [⟨some 32, false, none, .faddr 1 (.t 2)⟩,
      ⟨some 33, false, none, .load false 1 (.u 32)⟩,
      ⟨some 34, false, none, .bin .lss (.u 33) (.c (.int .i64 1))⟩,
      ⟨some 35, false, none, .mov (.u 34)⟩,
      ⟨some 36, false, some ((.u 35), false), .faddr 1 (.t 2)⟩,
      ⟨some 37, false, some ((.u 35), false), .load false 1 (.u 36)⟩,
      ⟨some 38, false, some ((.u 35), false), .bin .gtr (.u 37) (.c (.int .i64 8))⟩,
      ⟨some 39, true, none, .pick (.u 35) (.c (.bool true)) (.u 38)⟩])
   (.cond (.t 39)
    (.seq (.region [⟨some 4, true, none, .mov (.c (.int .i64 121))⟩])
    (.ret))
    (.skip)))
  (.seq (.seq (.region [⟨some 40, false, none, .faddr 1 (.t 2)⟩,
      ⟨some 41, false, none, .load false 1 (.u 40)⟩,
      ⟨some 42, false, none, .bin .neq (.u 41) (.c (.int .i64 1))⟩,
      ⟨some 43, false, none, .mov (.u 42)⟩,
      ⟨some 44, false, some ((.u 43), true), .faddr 1 (.t 2)⟩,
      ⟨some 45, false, some ((.u 43), true), .load false 1 (.u 44)⟩,
      ⟨some 46, false, some ((.u 43), true), .bin .neq (.u 45) (.c (.int .i64 2))⟩,
      ⟨some 47, false, none, .pick (.u 43) (.u 46) (.c (.bool false))⟩,
      ⟨some 48, false, none, .mov (.u 47)⟩,
      ⟨some 49, false, some ((.u 48), true), .faddr 0 (.t 2)⟩,
      ⟨some 50, false, some ((.u 48), true), .load false 1 (.u 49)⟩,
      ⟨some 51, false, some ((.u 48), true), .call 92 [(.u 50)]⟩,
      ⟨some 52, false, some ((.u 48), true), .mov (.u 51)⟩,
      ⟨some 53, false, some ((.u 52), false), .faddr 4 (.t 2)⟩,
      ⟨some 54, false, some ((.u 52), false), .load false 1 (.u 53)⟩,
      ⟨some 55, false, some ((.u 52), false), .bin .neq (.u 54) (.c (.int .i64 0))⟩,
      ⟨some 56, false, some ((.u 48), true), .pick (.u 52) (.c (.bool true)) (.u 55)⟩,
      ⟨some 57, true, none, .pick (.u 48) (.u 56) (.c (.bool false))⟩])
   (.cond (.t 57)
    (.seq (.region [⟨some 4, true, none, .mov (.c (.int .i64 121))⟩])
    (.ret))
    (.skip)))
  (.seq (.block 0 (.seq (.region [⟨some 59, false, none, .faddr 4 (.t 2)⟩,
       ⟨some 60, false, none, .load false 1 (.u 59)⟩,
       ⟨some 61, false, none, .bin .neq (.u 60) (.c (.int .i64 0))⟩,
       ⟨some 62, false, none, .mov (.u 61)⟩,
       ⟨some 63, false, some ((.u 62), true), .faddr 2 (.t 2)⟩,
       ⟨some 64, false, some ((.u 62), true), .load false 1 (.u 63)⟩,
       ⟨some 65, false, some ((.u 62), true), .bin .neq (.u 64) (.c (.int .i64 0))⟩,
       ⟨some 66, false, some ((.u 62), true), .mov (.u 65)⟩,
       ⟨some 67, false, some ((.u 66), false), .faddr 3 (.t 2)⟩,
       ⟨some 68, false, some ((.u 66), false), .load false 1 (.u 67)⟩,
       ⟨some 69, false, some ((.u 66), false), .bin .neq (.u 68) (.c (.str []))⟩,
       ⟨some 70, false, some ((.u 62), true), .pick (.u 66) (.c (.bool true)) (.u 69)⟩,
       ⟨some 71, false, none, .pick (.u 62) (.u 70) (.c (.bool false))⟩,
       ⟨some 58, true, none, .mov (.u 71)⟩])
    (.cond (.t 58)
     (.seq (.region [⟨some 4, true, none, .mov (.c (.int .i64 122))⟩])
     (.ret))
     (.seq (.region [⟨some 73, false, none, .faddr 0 (.t 2)⟩,
        ⟨some 74, false, none, .load false 1 (.u 73)⟩,
        ⟨some 75, false, none, .call 92 [(.u 74)]⟩,
        ⟨some 76, false, none, .mov (.u 75)⟩,
        ⟨some 77, false, some ((.u 76), true), .faddr 2 (.t 2)⟩,
        ⟨some 78, false, some ((.u 76), true), .load false 1 (.u 77)⟩,
        ⟨some 79, false, some ((.u 76), true), .bin .neq (.u 78) (.c (.int .i64 0))⟩,
        ⟨some 80, false, some ((.u 76), true), .mov (.u 79)⟩,
        ⟨some 81, false, some ((.u 80), false), .faddr 3 (.t 2)⟩,
        ⟨some 82, false, some ((.u 80), false), .load false 1 (.u 81)⟩,
        ⟨some 83, false, some ((.u 80), false), .bin .eql (.u 82) (.c (.str []))⟩,
        ⟨some 84, false, some ((.u 76), true), .pick (.u 80) (.c (.bool true)) (.u 83)⟩,
        ⟨some 85, false, some ((.u 76), true), .mov (.u 84)⟩,
        ⟨some 86, false, some ((.u 85), false), .faddr 3 (.t 2)⟩,
        ⟨some 87, false, some ((.u 85), false), .load false 1 (.u 86)⟩,
        ⟨some 88, false, some ((.u 85), false), .len (.u 87)⟩,
        ⟨some 89, false, some ((.u 85), false), .bin .gtr (.u 88) (.c (.int .i64 640))⟩,
        ⟨some 90, false, some ((.u 76), true), .pick (.u 85) (.c (.bool true)) (.u 89)⟩,
        ⟨some 91, false, none, .pick (.u 76) (.u 90) (.c (.bool false))⟩,
        ⟨some 72, true, none, .mov (.u 91)⟩])
     (.cond (.t 72)
      (.seq (.region [⟨some 4, true, none, .mov (.c (.int .i64 122))⟩])
      (.ret))
      (.seq (.region [⟨some 93, false, none, .faddr 0 (.t 2)⟩,
         ⟨some 94, false, none, .load false 1 (.u 93)⟩,
         ⟨some 95, false, none, .call 92 [(.u 94)]⟩,
         ⟨some 96, false, none, .un .not (.u 95)⟩,
         ⟨some 97, false, none, .mov (.u 96)⟩,
         ⟨some 98, false, some ((.u 97), true), .faddr 3 (.t 2)⟩,
         ⟨some 99, false, some ((.u 97), true), .load false 1 (.u 98)⟩,
         ⟨some 100, false, some ((.u 97), true), .bin .neq (.u 99) (.c (.str []))⟩,
         ⟨some 101, false, none, .pick (.u 97) (.u 100) (.c (.bool false))⟩,
         ⟨some 92, true, none, .mov (.u 101)⟩])
      (.cond (.t 92)
       (.seq (.region [⟨some 4, true, none, .mov (.c (.int .i64 122))⟩])
       (.ret))
       (.skip))))))))
  (.seq (.region [⟨some 4, true, none, .mov (.c (.int .i64 0))⟩])
  (.ret)))))))
def r79 : List LRes := [.slot 4]
theorem t79 : (Try.f79.body.bind (trCode v79 Try.prog Try.f79.ntmps)) = some c79 ∧ trRes v79 Try.prog Try.f79.results.toList = some r79 := ⟨by kernel_rfl, by kernel_rfl⟩

def v80 : Nat → Bool := fun t => [0, 2].contains t
def c80 : LCode :=
  .seq (.region [⟨some 2, true, none, .mov (.c (.bool false))⟩])
  (.seq (.region [⟨some 3, false, none, .mov (.t 0)⟩,
     ⟨some 4, false, none, .bin .geq (.u 3) (.c (.int .i64 17))⟩,
     ⟨some 5, false, none, .mov (.u 4)⟩,
     ⟨some 6, false, some ((.u 5), true), .mov (.t 0)⟩,
     ⟨some 7, false, some ((.u 5), true), .bin .leq (.u 6) (.c (.int .i64 21))⟩,
     ⟨some 8, false, none, .pick (.u 5) (.u 7) (.c (.bool false))⟩,
     ⟨some 2, true, none, .mov (.u 8)⟩])
  (.ret))
def r80 : List LRes := [.slot 2]
theorem t80 : (Try.f80.body.bind (trCode v80 Try.prog Try.f80.ntmps)) = some c80 ∧ trRes v80 Try.prog Try.f80.results.toList = some r80 := ⟨by kernel_rfl, by kernel_rfl⟩

def v81 : Nat → Bool := fun t => [0, 1, 2, 3, 4, 5, 6, 7, 8, 9, 10, 13, 19, 40, 45, 55].contains t
def c81 : LCode :=
  .seq (.region [⟨some 3, true, none, .box (.t 0)⟩,
     ⟨some 4, true, none, .box (.t 1)⟩,
     ⟨some 5, true, none, .box (.t 2)⟩,
     ⟨some 6, true, none, .mov (.c (.bool false))⟩])
  (.seq (.seq (.region [⟨some 11, false, none, .faddr 0 (.t 3)⟩,
      ⟨some 12, false, none, .load false 1 (.u 11)⟩,
      ⟨some 13, true, none, .call 92 [(.u 12)]⟩])
   (.cond (.t 13)
    (.seq (.region [⟨some 14, false, none, .faddr 1 (.t 4)⟩,
       ⟨some 15, false, none, .faddr 11 (.u 14)⟩,
       ⟨some 16, false, none, .load false 1 (.u 15)⟩,
       ⟨some 7, true, none, .mov (.u 16)⟩])
    (.seq (.seq (.region [⟨some 17, false, none, .faddr 0 (.t 3)⟩,
        ⟨some 18, false, none, .load false 1 (.u 17)⟩,
        ⟨some 19, true, none, .bin .eql (.u 18) (.c (.int .i64 14))⟩])
     (.cond (.t 19)
      (.region [⟨some 20, false, none, .faddr 1 (.t 4)⟩,
        ⟨some 21, false, none, .faddr 10 (.u 20)⟩,
        ⟨some 22, false, none, .load false 1 (.u 21)⟩,
        ⟨some 7, true, none, .mov (.u 22)⟩])
      (.skip)))
    (.seq (.region [⟨some 23, false, none, .mov (.t 7)⟩,
       ⟨some 24, false, none, .faddr 3 (.t 3)⟩,
       ⟨some 25, false, none, .load false 1 (.u 24)⟩,
       ⟨some 26, false, none, .bin .eql (.u 23) (.u 25)⟩,
       ⟨some 27, false, none, .faddr 1 (.t 3)⟩,
       ⟨some 28, false, none, .load false 1 (.u 27)⟩,
       ⟨some 29, false, none, .bin .eql (.u 28) (.c (.int .i64 1))⟩,
       ⟨some 30, false, none, .eqB false (.u 26) (.u 29)⟩,
       ⟨some 6, true, none, .mov (.u 30)⟩])
    (.ret))))
    (.skip)))
  (.seq (.region [⟨some 32, false, none, .faddr 0 (.t 3)⟩,
     ⟨some 33, false, none, .load false 1 (.u 32)⟩,
     ⟨some 34, false, none, .load true 25 (.t 4)⟩,
     ⟨some 35, false, none, .load true 13 (.t 5)⟩,
     ⟨some 36, false, none, .call 93 [(.u 33), (.u 34), (.u 35)]⟩,
     ⟨some 31, false, none, .mov (.u 36)⟩,
     ⟨some 37, false, none, .ext (.u 31) 0⟩,
     ⟨some 38, false, none, .ext (.u 31) 1⟩,
     ⟨some 8, true, none, .mov (.u 37)⟩,
     ⟨some 9, true, none, .mov (.u 38)⟩])
  (.seq (.seq (.region [⟨some 39, false, none, .mov (.t 9)⟩,
      ⟨some 40, true, none, .un .not (.u 39)⟩])
   (.cond (.t 40)
    (.seq (.region [⟨some 6, true, none, .mov (.c (.bool false))⟩])
    (.ret))
    (.skip)))
  (.seq (.region [⟨some 41, false, none, .faddr 2 (.t 3)⟩,
     ⟨some 42, false, none, .load false 1 (.u 41)⟩,
     ⟨some 10, true, none, .mov (.u 42)⟩])
  (.seq (.seq (.region [⟨some 43, false, none, .faddr 4 (.t 3)⟩,
      ⟨some 44, false, none, .load false 1 (.u 43)⟩,
      ⟨some 45, true, none, .bin .neq (.u 44) (.c (.int .i64 0))⟩])
   (.cond (.t 45)
    (.seq (.region [⟨some 47, false, none, .faddr 4 (.t 3)⟩,
       ⟨some 48, false, none, .load false 1 (.u 47)⟩,
       ⟨some 49, false, none, .load true 25 (.t 4)⟩,
       ⟨some 50, false, none, .load true 13 (.t 5)⟩,
       ⟨some 51, false, none, .call 93 [(.u 48), (.u 49), (.u 50)]⟩,
       ⟨some 46, false, none, .mov (.u 51)⟩,
       ⟨some 52, false, none, .ext (.u 46) 0⟩,
       ⟨some 53, false, none, .ext (.u 46) 1⟩,
       ⟨some 10, true, none, .mov (.u 52)⟩,
       ⟨some 9, true, none, .mov (.u 53)⟩])
    (.seq (.region [⟨some 54, false, none, .mov (.t 9)⟩,
       ⟨some 55, true, none, .un .not (.u 54)⟩])
    (.cond (.t 55)
     (.seq (.region [⟨some 6, true, none, .mov (.c (.bool false))⟩])
     (.ret))
     (.skip))))
    (.skip)))
  (.seq (.region [⟨some 56, false, none, .faddr 1 (.t 3)⟩,
     ⟨some 57, false, none, .load false 1 (.u 56)⟩,
     ⟨some 58, false, none, .mov (.t 8)⟩,
     ⟨some 59, false, none, .mov (.t 10)⟩,
     ⟨some 60, false, none, .call 94 [(.u 57), (.u 58), (.u 59)]⟩,
     ⟨some 6, true, none, .mov (.u 60)⟩])
  (.ret)))))))
def r81 : List LRes := [.slot 6]
theorem t81 : (Try.f81.body.bind (trCode v81 Try.prog Try.f81.ntmps)) = some c81 ∧ trRes v81 Try.prog Try.f81.results.toList = some r81 := ⟨by kernel_rfl, by kernel_rfl⟩

def v82 : Nat → Bool := fun t => [0, 1, 2, 4, 33, 56, 69, 104].contains t
def c82 : LCode :=
  .seq (.region [⟨some 2, true, none, .box (.t 0)⟩,
     ⟨some 4, true, none, .mov (.c (.int .i64 0))⟩])
  (.seq (.seq (.region [⟨some 5, false, none, .mov (.t 1)⟩,
      ⟨some 6, false, none, .faddr 0 (.t 2)⟩,
      ⟨some 7, false, none, .load false 1 (.u 6)⟩,
      ⟨some 8, false, none, .call 95 [(.u 5), (.u 7)]⟩,
      ⟨some 9, false, none, .un .not (.u 8)⟩,
      ⟨some 10, false, none, .mov (.u 9)⟩,
      ⟨some 11, false, some ((.u 10), false), .faddr 4 (.t 2)⟩,
      ⟨some 12, false, some ((.u 10), false), .load false 1 (.u 11)⟩,
      ⟨some 13, false, some ((.u 10), false), .bin .neq (.u 12) (.c (.int .i64 0))⟩,
      ⟨some 14, false, some ((.u 10), false), .mov (.u 13)⟩,
      ⟨some 15, false, some ((.u 14), true), .mov (.t 1)⟩,
      ⟨some 16, false, some ((.u 14), true), .faddr 4 (.t 2)⟩,
      ⟨some 17, false, some ((.u 14), true), .load false 1 (.u 16)⟩,
      ⟨some 18, false, some ((.u 14), true), .call 95 [(.u 15), (.u 17)]⟩,
      ⟨some 19, false, some ((.u 14), true), .un .not (.u 18)⟩,
      ⟨some 20, false, some ((.u 14), true), .mov (.u 19)⟩,
      ⟨some 21, false, some ((.u 20), false), .faddr 0 (.t 2)⟩,
      ⟨some 22, false, some ((.u 20), false), .load false 1 (.u 21)⟩,
      ⟨some 23, false, some ((.u 20), false), .call 96 [(.u 22)]⟩,
      ⟨some 24, false, some ((.u 20), false), .un .not (.u 23)⟩,
      ⟨some 25, false, some ((.u 14), true), .pick (.u 20) (.c (.bool true)) (.u 24)⟩,
      ⟨some 26, false, some ((.u 14), true), .mov (.u 25)⟩,
      ⟨some 27, false, some ((.u 26), false), .faddr 4 (.t 2)⟩,
      ⟨some 28, false, some ((.u 26), false), .load false 1 (.u 27)⟩,
      ⟨some 29, false, some ((.u 26), false), .call 96 [(.u 28)]⟩,
      ⟨some 30, false, some ((.u 26), false), .un .not (.u 29)⟩,
      ⟨some 31, false, some ((.u 14), true), .pick (.u 26) (.c (.bool true)) (.u 30)⟩,
      ⟨some 32, false, some ((.u 10), false), .pick (.u 14) (.u 31) (.c (.bool false))⟩,
      ⟨some 33, true, none, .pick (.u 10) (.c (.bool true)) (.u 32)⟩])
   (.cond (.t 33)
    (.seq (.region [⟨some 4, true, none, .mov (.c (.int .i64 120))⟩])
    (.ret))
    (.skip)))
  (.seq (.seq (.region [⟨some 34, false, none, .faddr 1 (.t 2)⟩,
      ⟨some 35, false, none, .load false 1 (.u 34)⟩,
      ⟨some 36, false, none, .bin .lss (.u 35) (.c (.int .i64 1))⟩,
      ⟨some 37, false, none, .mov (.u 36)⟩,
      ⟨some 38, false, some ((.u 37), false), .faddr 1 (.t 2)⟩,
      ⟨some 39, false, some ((.u 37), false), .load false 1 (.u 38)⟩,
      ⟨some 40, false, some ((.u 37), false), .bin .gtr (.u 39) (.c (.int .i64 8))⟩,
      ⟨some 41, false, none, .pick (.u 37) (.c (.bool true)) (.u 40)⟩,
      ⟨some 42, false, none, .mov (.u 41)⟩,
      ⟨some 43, false, some ((.u 42), false), .faddr 1 (.t 2)⟩,
      ⟨some 44, false, some ((.u 42), false), .load false 1 (.u 43)⟩,
      ⟨some 45, false, some ((.u 42), false), .bin .gtr (.u 44) (.c (.int .i64 2))⟩,
      ⟨some 46, false, some ((.u 42), false), .mov (.u 45)⟩,
      ⟨some 47, false, some ((.u 46), true), .faddr 0 (.t 2)⟩,
      ⟨some 48, false, some ((.u 46), true), .load false 1 (.u 47)⟩,
      ⟨some 49, false, some ((.u 46), true), .call 83 [(.u 48)]⟩,
      ⟨some 50, false, some ((.u 46), true), .mov (.u 49)⟩,
      ⟨some 51, false, some ((.u 50), false), .faddr 4 (.t 2)⟩,
      ⟨some 52, false, some ((.u 50), false), .load false 1 (.u 51)⟩,
      ⟨some 53, false, some ((.u 50), false), .bin .neq (.u 52) (.c (.int .i64 0))⟩,
      ⟨some 54, false, some ((.u 46), true), .pick (.u 50) (.c (.bool true)) (.u 53)⟩,
      ⟨some 55, false, some ((.u 42), false), .pick (.u 46) (.u 54) (.c (.bool false))⟩,
      ⟨some 56, true, none, .pick (.u 42) (.c (.bool true)) (.u 55)⟩])
   (.cond (.t 56)
    (.seq (.region [⟨some 4, true, none, .mov (.c (.int .i64 121))⟩])
    (.ret))
    (.skip)))
  (.seq (.seq (.region [⟨some 57, false, none, .faddr 4 (.t 2)⟩,
      ⟨some 58, false, none, .load false 1 (.u 57)⟩,
      ⟨some 59, false, none, .bin .neq (.u 58) (.c (.int .i64 0))⟩,
      ⟨some 60, false, none, .mov (.u 59)⟩,
      ⟨some 61, false, some ((.u 60), true), .faddr 2 (.t 2)⟩,
      ⟨some 62, false, some ((.u 60), true), .load false 1 (.u 61)⟩,
      ⟨some 63, false, some ((.u 60), true), .bin .neq (.u 62) (.c (.int .i64 0))⟩,
      ⟨some 64, false, some ((.u 60), true), .mov (.u 63)⟩,
      ⟨some 65, false, some ((.u 64), false), .faddr 3 (.t 2)⟩,
      ⟨some 66, false, some ((.u 64), false), .load false 1 (.u 65)⟩,
      ⟨some 67, false, some ((.u 64), false), .bin .neq (.u 66) (.c (.str []))⟩,
      ⟨some 68, false, some ((.u 60), true), .pick (.u 64) (.c (.bool true)) (.u 67)⟩,
      ⟨some 69, true, none, .pick (.u 60) (.u 68) (.c (.bool false))⟩])
   (.cond (.t 69)
    (.seq (.region [⟨some 4, true, none, .mov (.c (.int .i64 122))⟩])
    (.ret))
    (.skip)))
  (.seq (.seq (.region [⟨some 70, false, none, .faddr 4 (.t 2)⟩,
      ⟨some 71, false, none, .load false 1 (.u 70)⟩,
      ⟨some 72, false, none, .bin .eql (.u 71) (.c (.int .i64 0))⟩,
      ⟨some 73, false, none, .mov (.u 72)⟩,
      ⟨some 74, false, some ((.u 73), true), .faddr 0 (.t 2)⟩,
      ⟨some 75, false, some ((.u 73), true), .load false 1 (.u 74)⟩,
      ⟨some 76, false, some ((.u 73), true), .call 83 [(.u 75)]⟩,
      ⟨some 77, false, none, .pick (.u 73) (.u 76) (.c (.bool false))⟩,
      ⟨some 78, false, none, .mov (.u 77)⟩,
      ⟨some 79, false, some ((.u 78), true), .faddr 2 (.t 2)⟩,
      ⟨some 80, false, some ((.u 78), true), .load false 1 (.u 79)⟩,
      ⟨some 81, false, some ((.u 78), true), .bin .neq (.u 80) (.c (.int .i64 0))⟩,
      ⟨some 82, false, some ((.u 78), true), .mov (.u 81)⟩,
      ⟨some 83, false, some ((.u 82), false), .faddr 3 (.t 2)⟩,
      ⟨some 84, false, some ((.u 82), false), .load false 1 (.u 83)⟩,
      ⟨some 85, false, some ((.u 82), false), .bin .eql (.u 84) (.c (.str []))⟩,
      ⟨some 86, false, some ((.u 78), true), .pick (.u 82) (.c (.bool true)) (.u 85)⟩,
      ⟨some 87, false, some ((.u 78), true), .mov (.u 86)⟩,
      ⟨some 88, false, some ((.u 87), false), .faddr 3 (.t 2)⟩,
      ⟨some 89, false, some ((.u 87), false), .load false 1 (.u 88)⟩,
      ⟨some 90, false, some ((.u 87), false), .len (.u 89)⟩,
      ⟨some 91, false, some ((.u 87), false), .bin .gtr (.u 90) (.c (.int .i64 640))⟩,
      ⟨some 92, false, some ((.u 78), true), .pick (.u 87) (.c (.bool true)) (.u 91)⟩,
      ⟨some 93, false, none, .pick (.u 78) (.u 92) (.c (.bool false))⟩,
      ⟨some 94, false, none, .mov (.u 93)⟩,
      ⟨some 95, false, some ((.u 94), false), .faddr 0 (.t 2)⟩,
      ⟨some 96, false, some ((.u 94), false), .load false 1 (.u 95)⟩,
      ⟨some 97, false, some ((.u 94), false), .call 83 [(.u 96)]⟩,
      ⟨some 98, false, some ((.u 94), false), .un .not (.u 97)⟩,
      ⟨some 99, false, some ((.u 94), false), .mov (.u 98)⟩,
      ⟨some 100, false, some ((.u 99), true), .faddr 3 (.t 2)⟩,
      ⟨some 101, false, some ((.u 99), true), .load false 1 (.u 100)⟩,
      ⟨some 102, false, some ((.u 99), true), .bin .neq (.u 101) (.c (.str []))⟩,
      ⟨some 103, false, some ((.u 94), false), .pick (.u 99) (.u 102) (.c (.bool false))⟩,
      ⟨some 104, true, none, .pick (.u 94) (.c (.bool true)) (.u 103)⟩])
   (.cond (.t 104)
    (.seq (.region [⟨some 4, true, none, .mov (.c (.int .i64 122))⟩])
    (.ret))
    (.skip)))
  (.seq (.region [⟨some 4, true, none, .mov (.c (.int .i64 0))⟩])
  (.ret))))))
def r82 : List LRes := [.slot 4]
theorem t82 : (Try.f82.body.bind (trCode v82 Try.prog Try.f82.ntmps)) = some c82 ∧ trRes v82 Try.prog Try.f82.results.toList = some r82 := ⟨by kernel_rfl, by kernel_rfl⟩

def v83 : Nat → Bool := fun t => [0, 2].contains t
def c83 : LCode :=
  .seq (.region [⟨some 2, true, none, .mov (.c (.bool false))⟩])
  (.seq (.region [⟨some 3, false, none, .mov (.t 0)⟩,
     ⟨some 4, false, none, .bin .eql (.u 3) (.c (.int .i64 13))⟩,
     ⟨some 5, false, none, .mov (.u 4)⟩,
     ⟨some 6, false, some ((.u 5), false), .mov (.t 0)⟩,
     ⟨some 7, false, some ((.u 5), false), .bin .eql (.u 6) (.c (.int .i64 14))⟩,
     ⟨some 8, false, none, .pick (.u 5) (.c (.bool true)) (.u 7)⟩,
     ⟨some 2, true, none, .mov (.u 8)⟩])
  (.ret))
def r83 : List LRes := [.slot 2]
theorem t83 : (Try.f83.body.bind (trCode v83 Try.prog Try.f83.ntmps)) = some c83 ∧ trRes v83 Try.prog Try.f83.results.toList = some r83 := ⟨by kernel_rfl, by kernel_rfl⟩

def v84 : Nat → Bool := fun t => [0, 1, 2, 4, 5, 6, 7, 10, 11, 15, 19, 23, 27, 31, 35, 39, 43, 54, 58, 62, 63, 68, 73, 77, 81].contains t
def c84 : LCode :=
  .seq (.region [⟨some 4, true, none, .box (.t 1)⟩,
     ⟨some 5, true, none, .box (.t 2)⟩,
     ⟨some 6, true, none, .mov (.c (.int .i64 0))⟩])
  (.seq (.region [⟨some 8, false, none, .faddr 1 (.t 4)⟩,
     ⟨some 9, false, none, .load true 14 (.u 8)⟩,
     ⟨some 7, true, none, .zero [.int .i64 0, .int .i64 0, .int .i64 0, .int .i64 0, .int .i64 0, .int .i64 0, .int .i64 0, .int .i64 0, .int .i64 0, .int .i64 0, .str [], .str [], .fsl 1 0 [], .bool false]⟩,
     ⟨none, true, none, .store 14 (.t 7) (.u 9)⟩])
  (.seq (.seq (.region [⟨some 10, true, none, .mov (.t 0)⟩])
   (.block 0 (.seq (.region [⟨some 12, false, none, .bin .eql (.t 10) (.c (.int .i64 1))⟩,
       ⟨some 11, true, none, .mov (.u 12)⟩])
    (.cond (.t 11)
     (.seq (.region [⟨some 13, false, none, .faddr 0 (.t 7)⟩,
        ⟨some 14, false, none, .load false 1 (.u 13)⟩,
        ⟨some 6, true, none, .mov (.u 14)⟩])
     (.ret))
     (.seq (.region [⟨some 16, false, none, .bin .eql (.t 10) (.c (.int .i64 2))⟩,
        ⟨some 15, true, none, .mov (.u 16)⟩])
     (.cond (.t 15)
      (.seq (.region [⟨some 17, false, none, .faddr 1 (.t 7)⟩,
         ⟨some 18, false, none, .load false 1 (.u 17)⟩,
         ⟨some 6, true, none, .mov (.u 18)⟩])
      (.ret))
      (.seq (.region [⟨some 20, false, none, .bin .eql (.t 10) (.c (.int .i64 3))⟩,
         ⟨some 19, true, none, .mov (.u 20)⟩])
      (.cond (.t 19)
       (.seq (.region [⟨some 21, false, none, .faddr 2 (.t 7)⟩,
          ⟨some 22, false, none, .load false 1 (.u 21)⟩,
          ⟨some 6, true, none, .mov (.u 22)⟩])
       (.ret))
       (.seq (.region [⟨some 24, false, none, .bin .eql (.t 10) (.c (.int .i64 4))⟩,
          ⟨some 23, true, none, .mov (.u 24)⟩])
       (.cond (.t 23)
        (.seq (.region [⟨some 25, false, none, .faddr 3 (.t 7)⟩,
           ⟨some 26, false, none, .load false 1 (.u 25)⟩,
           ⟨some 6, true, none, .mov (.u 26)⟩])
        (.ret))
        (.seq (.region [⟨some 28, false, none, .bin .eql (.t 10) (.c (.int .i64 5))⟩,
           ⟨some 27, true, none, .mov (.u 28)⟩])
        (.cond (.t 27)
         (.seq (.region [⟨some 29, false, none, .faddr 4 (.t 7)⟩,
            ⟨some 30, false, none, .load false 1 (.u 29)⟩,
            ⟨some 6, true, none, .mov (.u 30)⟩])
         (.ret))
         (.seq (.region [⟨some 32, false, none, .bin .eql (.t 10) (.c (.int .i64 6))⟩,
            ⟨some 31, true, none, .mov (.u 32)⟩])
         (.cond (.t 31)
          (.seq (.region [⟨some 33, false, none, .faddr 5 (.t 7)⟩,
             ⟨some 34, false, none, .load false 1 (.u 33)⟩,
             ⟨some 6, true, none, .mov (.u 34)⟩])
          (.ret))
          (.seq (.region [⟨some 36, false, none, .bin .eql (.t 10) (.c (.int .i64 7))⟩,
             ⟨some 35, true, none, .mov (.u 36)⟩])
          (.cond (.t 35)
           (.seq (.region [⟨some 37, false, none, .faddr 6 (.t 7)⟩,
              ⟨some 38, false, none, .load false 1 (.u 37)⟩,
              ⟨some 6, true, none, .mov (.u 38)⟩])
           (.ret))
           (.seq (.region [⟨some 40, false, none, .bin .eql (.t 10) (.c (.int .i64 8))⟩,
              ⟨some 39, true, none, .mov (.u 40)⟩])
           (.cond (.t 39)
            (.seq (.region [⟨some 41, false, none, .faddr 7 (.t 7)⟩,
               ⟨some 42, false, none, .load false 1 (.u 41)⟩,
               ⟨some 6, true, none, .mov (.u 42)⟩])
            (.ret))
            (.seq (.seq (.region [⟨some 44, false, none, .bin .eql (.t 10) (.c (.int .i64 9))⟩,
                ⟨some 43, true, none, .mov (.u 44)⟩])
             (.cond (.t 43)
              (.skip)
              (.seq (.region [⟨some 45, false, none, .bin .eql (.t 10) (.c (.int .i64 10))⟩,
                 ⟨some 43, true, none, .mov (.u 45)⟩])
              (.cond (.t 43)
               (.skip)
               (.seq (.region [⟨some 46, false, none, .bin .eql (.t 10) (.c (.int .i64 11))⟩,
                  ⟨some 43, true, none, .mov (.u 46)⟩])
               (.cond (.t 43)
                (.skip)
                (.region [⟨some 47, false, none, .bin .eql (.t 10) (.c (.int .i64 12))⟩,
                  ⟨some 43, true, none, .mov (.u 47)⟩])))))))
            (.cond (.t 43)
             (.seq (.region [⟨some 48, false, none, .mov (.t 0)⟩,
                ⟨some 49, false, none, .bin .sub (.u 48) (.c (.int .i64 9))⟩,
                ⟨some 50, false, none, .faddr 15 (.t 4)⟩,
                ⟨some 51, false, none, .faddr 1 (.u 50)⟩,
                ⟨some 52, false, none, .iaA 4 1 (.u 51) (.u 49)⟩,
                ⟨some 53, false, none, .load false 1 (.u 52)⟩,
                ⟨some 6, true, none, .mov (.u 53)⟩])
             (.ret))
             (.seq (.region [⟨some 55, false, none, .bin .eql (.t 10) (.c (.int .i64 15))⟩,
                ⟨some 54, true, none, .mov (.u 55)⟩])
             (.cond (.t 54)
              (.seq (.region [⟨some 56, false, none, .faddr 22 (.t 4)⟩,
                 ⟨some 57, false, none, .load false 1 (.u 56)⟩,
                 ⟨some 6, true, none, .mov (.u 57)⟩])
              (.ret))
              (.seq (.region [⟨some 59, false, none, .bin .eql (.t 10) (.c (.int .i64 16))⟩,
                 ⟨some 58, true, none, .mov (.u 59)⟩])
              (.cond (.t 58)
               (.seq (.seq (.region [⟨some 60, false, none, .faddr 22 (.t 4)⟩,
                   ⟨some 61, false, none, .load false 1 (.u 60)⟩,
                   ⟨some 62, true, none, .bin .geq (.u 61) (.c (.int .i64 0))⟩])
                (.cond (.t 62)
                 (.seq (.region [⟨some 6, true, none, .mov (.c (.int .i64 1))⟩])
                 (.ret))
                 (.skip)))
               (.seq (.region [⟨some 6, true, none, .mov (.c (.int .i64 0))⟩])
               (.ret)))
               (.seq (.region [⟨some 64, false, none, .bin .eql (.t 10) (.c (.int .i64 17))⟩,
                  ⟨some 63, true, none, .mov (.u 64)⟩])
               (.cond (.t 63)
                (.seq (.region [⟨some 65, false, none, .faddr 5 (.t 5)⟩,
                   ⟨some 66, false, none, .faddr 1 (.u 65)⟩,
                   ⟨some 67, false, none, .load false 1 (.u 66)⟩,
                   ⟨some 6, true, none, .mov (.u 67)⟩])
                (.ret))
                (.seq (.region [⟨some 69, false, none, .bin .eql (.t 10) (.c (.int .i64 18))⟩,
                   ⟨some 68, true, none, .mov (.u 69)⟩])
                (.cond (.t 68)
                 (.seq (.region [⟨some 70, false, none, .faddr 5 (.t 5)⟩,
                    ⟨some 71, false, none, .faddr 0 (.u 70)⟩,
                    ⟨some 72, false, none, .load false 1 (.u 71)⟩,
                    ⟨some 6, true, none, .mov (.u 72)⟩])
                 (.ret))
                 (.seq (.region [⟨some 74, false, none, .bin .eql (.t 10) (.c (.int .i64 19))⟩,
                    ⟨some 73, true, none, .mov (.u 74)⟩])
                 (.cond (.t 73)
                  (.seq (.region [⟨some 75, false, none, .faddr 10 (.t 5)⟩,
                     ⟨some 76, false, none, .load false 1 (.u 75)⟩,
                     ⟨some 6, true, none, .mov (.u 76)⟩])
                  (.ret))
                  (.seq (.region [⟨some 78, false, none, .bin .eql (.t 10) (.c (.int .i64 20))⟩,
                     ⟨some 77, true, none, .mov (.u 78)⟩])
                  (.cond (.t 77)
                   (.seq (.region [⟨some 79, false, none, .faddr 11 (.t 5)⟩,
                      ⟨some 80, false, none, .load false 1 (.u 79)⟩,
                      ⟨some 6, true, none, .mov (.u 80)⟩])
                   (.ret))
                   (.seq (.region [⟨some 82, false, none, .bin .eql (.t 10) (.c (.int .i64 21))⟩,
                      ⟨some 81, true, none, .mov (.u 82)⟩])
                   (.cond (.t 81)
                    (.seq (.region [⟨some 83, false, none, .faddr 8 (.t 5)⟩,
                       ⟨some 84, false, none, .load false 1 (.u 83)⟩,
                       ⟨some 6, true, none, .mov (.u 84)⟩])
                    (.ret))
                    (.skip)))))))))))))))))))))))))))))))))))
  (.seq (.region [⟨some 85, false, none, .faddr 24 (.t 4)⟩,
     ⟨some 86, false, none, .load false 1 (.u 85)⟩,
     ⟨some 6, true, none, .mov (.u 86)⟩])
  (.ret))))
def r84 : List LRes := [.slot 6]
theorem t84 : (Try.f84.body.bind (trCode v84 Try.prog Try.f84.ntmps)) = some c84 ∧ trRes v84 Try.prog Try.f84.results.toList = some r84 := ⟨by kernel_rfl, by kernel_rfl⟩

def v85 : Nat → Bool := fun t => [0, 1, 2, 6, 7, 8, 13, 18, 23, 28, 33, 38].contains t
def c85 : LCode :=
  .seq (.region [⟨some 6, true, none, .mov (.c (.bool false))⟩])
  (.seq (.seq (.region [⟨some 7, true, none, .mov (.t 0)⟩])
   (.block 0 (.seq (.region [⟨some 9, false, none, .bin .eql (.t 7) (.c (.int .i64 1))⟩,
       ⟨some 8, true, none, .mov (.u 9)⟩])
    (.cond (.t 8)
     (.seq (.region [⟨some 10, false, none, .mov (.t 1)⟩,
        ⟨some 11, false, none, .mov (.t 2)⟩,
        ⟨some 12, false, none, .bin .eql (.u 10) (.u 11)⟩,
        ⟨some 6, true, none, .mov (.u 12)⟩])
     (.ret))
     (.seq (.region [⟨some 14, false, none, .bin .eql (.t 7) (.c (.int .i64 2))⟩,
        ⟨some 13, true, none, .mov (.u 14)⟩])
     (.cond (.t 13)
      (.seq (.region [⟨some 15, false, none, .mov (.t 1)⟩,
         ⟨some 16, false, none, .mov (.t 2)⟩,
         ⟨some 17, false, none, .bin .neq (.u 15) (.u 16)⟩,
         ⟨some 6, true, none, .mov (.u 17)⟩])
      (.ret))
      (.seq (.region [⟨some 19, false, none, .bin .eql (.t 7) (.c (.int .i64 3))⟩,
         ⟨some 18, true, none, .mov (.u 19)⟩])
      (.cond (.t 18)
       (.seq (.region [⟨some 20, false, none, .mov (.t 1)⟩,
          ⟨some 21, false, none, .mov (.t 2)⟩,
          ⟨some 22, false, none, .bin .lss (.u 20) (.u 21)⟩,
          ⟨some 6, true, none, .mov (.u 22)⟩])
       (.ret))
       (.seq (.region [⟨some 24, false, none, .bin .eql (.t 7) (.c (.int .i64 4))⟩,
          ⟨some 23, true, none, .mov (.u 24)⟩])
       (.cond (.t 23)
        (.seq (.region [⟨some 25, false, none, .mov (.t 1)⟩,
           ⟨some 26, false, none, .mov (.t 2)⟩,
           ⟨some 27, false, none, .bin .leq (.u 25) (.u 26)⟩,
           ⟨some 6, true, none, .mov (.u 27)⟩])
        (.ret))
        (.seq (.region [⟨some 29, false, none, .bin .eql (.t 7) (.c (.int .i64 5))⟩,
           ⟨some 28, true, none, .mov (.u 29)⟩])
        (.cond (.t 28)
         (.seq (.region [⟨some 30, false, none, .mov (.t 1)⟩,
            ⟨some 31, false, none, .mov (.t 2)⟩,
            ⟨some 32, false, none, .bin .gtr (.u 30) (.u 31)⟩,
            ⟨some 6, true, none, .mov (.u 32)⟩])
         (.ret))
         (.seq (.region [⟨some 34, false, none, .bin .eql (.t 7) (.c (.int .i64 6))⟩,
            ⟨some 33, true, none, .mov (.u 34)⟩])
         (.cond (.t 33)
          (.seq (.region [⟨some 35, false, none, .mov (.t 1)⟩,
             ⟨some 36, false, none, .mov (.t 2)⟩,
             ⟨some 37, false, none, .bin .geq (.u 35) (.u 36)⟩,
             ⟨some 6, true, none, .mov (.u 37)⟩])
          (.ret))
          (.seq (.region [⟨some 39, false, none, .bin .eql (.t 7) (.c (.int .i64 7))⟩,
             ⟨some 38, true, none, .mov (.u 39)⟩])
          (.cond (.t 38)
           (.seq (.region [⟨some 40, false, none, .mov (.t 1)⟩,
              ⟨some 41, false, none, .mov (.t 2)⟩,
              ⟨some 42, false, none, .bin .and (.u 40) (.u 41)⟩,
              ⟨some 43, false, none, .bin .neq (.u 42) (.c (.int .i64 0))⟩,
              ⟨some 6, true, none, .mov (.u 43)⟩])
           (.ret))
           (.skip)))))))))))))))))
  (.seq (.region [⟨some 44, false, none, .mov (.t 1)⟩,
     ⟨some 45, false, none, .mov (.t 2)⟩,
     ⟨some 46, false, none, .bin .and (.u 44) (.u 45)⟩,
     ⟨some 47, false, none, .mov (.t 2)⟩,
     ⟨some 48, false, none, .bin .eql (.u 46) (.u 47)⟩,
     ⟨some 6, true, none, .mov (.u 48)⟩])
  (.ret)))
def r85 : List LRes := [.slot 6]
theorem t85 : (Try.f85.body.bind (trCode v85 Try.prog Try.f85.ntmps)) = some c85 ∧ trRes v85 Try.prog Try.f85.results.toList = some r85 := ⟨by kernel_rfl, by kernel_rfl⟩

def v89 : Nat → Bool := fun t => [0, 2, 9].contains t
def c89 : LCode :=
  .seq (.region [⟨some 2, true, none, .zero [.str [], .int .i64 0, .int .i64 0, .int .i64 0, .int .i64 0]⟩])
  (.seq (.seq (.region [⟨some 3, false, none, .mov (.t 0)⟩,
      ⟨some 4, false, none, .bin .lss (.u 3) (.c (.int .i64 0))⟩,
      ⟨some 5, false, none, .mov (.u 4)⟩,
      ⟨some 6, false, some ((.u 5), false), .mov (.t 0)⟩,
      ⟨some 7, false, some ((.u 5), false), .call 99 []⟩,
      ⟨some 8, false, some ((.u 5), false), .bin .geq (.u 6) (.u 7)⟩,
      ⟨some 9, true, none, .pick (.u 5) (.c (.bool true)) (.u 8)⟩])
   (.cond (.t 9)
    (.seq (.region [⟨some 10, false, none, .build [.str [], .int .i64 0, .int .i64 0, .int .i64 0, .int .i64 0] []⟩,
       ⟨none, true, none, .store 5 (.t 2) (.u 10)⟩])
    (.ret))
    (.skip)))
  (.seq (.region [⟨some 11, false, none, .call 100 []⟩,
     ⟨some 12, false, none, .mov (.t 0)⟩,
     ⟨some 13, false, none, .iaS 5 (.u 11) (.u 12)⟩,
     ⟨some 14, false, none, .load true 5 (.u 13)⟩,
     ⟨none, true, none, .store 5 (.t 2) (.u 14)⟩])
  (.ret)))
def r89 : List LRes := [.cell true 5 2]
theorem t89 : (Try.f89.body.bind (trCode v89 Try.prog Try.f89.ntmps)) = some c89 ∧ trRes v89 Try.prog Try.f89.results.toList = some r89 := ⟨by kernel_rfl, by kernel_rfl⟩

def v90 : Nat → Bool := fun t => [0, 1, 4, 5, 20, 21, 25, 33, 41].contains t
def c90 : LCode :=
  .seq (.region [⟨some 4, true, none, .mov (.c (.bool false))⟩])
  (.seq (.region [⟨some 6, false, none, .mov (.t 1)⟩,
     ⟨some 7, false, none, .bin .geq (.u 6) (.c (.int .i64 1))⟩,
     ⟨some 8, false, none, .mov (.u 7)⟩,
     ⟨some 9, false, some ((.u 8), true), .mov (.t 1)⟩,
     ⟨some 10, false, some ((.u 8), true), .bin .leq (.u 9) (.c (.int .i64 8))⟩,
     ⟨some 11, false, none, .pick (.u 8) (.u 10) (.c (.bool false))⟩,
     ⟨some 12, false, none, .mov (.u 11)⟩,
     ⟨some 13, false, some ((.u 12), false), .mov (.t 1)⟩,
     ⟨some 14, false, some ((.u 12), false), .bin .eql (.u 13) (.c (.int .i64 13))⟩,
     ⟨some 15, false, none, .pick (.u 12) (.c (.bool true)) (.u 14)⟩,
     ⟨some 16, false, none, .mov (.u 15)⟩,
     ⟨some 17, false, some ((.u 16), false), .mov (.t 1)⟩,
     ⟨some 18, false, some ((.u 16), false), .bin .eql (.u 17) (.c (.int .i64 14))⟩,
     ⟨some 19, false, none, .pick (.u 16) (.c (.bool true)) (.u 18)⟩,
     ⟨some 5, true, none, .mov (.u 19)⟩])
  (.seq (.seq (.region [⟨some 20, true, none, .mov (.t 0)⟩])
   (.block 0 (.seq (.seq (.region [⟨some 22, false, none, .bin .eql (.t 20) (.c (.int .i64 1))⟩,
        ⟨some 21, true, none, .mov (.u 22)⟩])
     (.cond (.t 21)
      (.skip)
      (.region [⟨some 23, false, none, .bin .eql (.t 20) (.c (.int .i64 4))⟩,
        ⟨some 21, true, none, .mov (.u 23)⟩])))
    (.cond (.t 21)
     (.seq (.region [⟨some 24, false, none, .mov (.t 5)⟩,
        ⟨some 4, true, none, .mov (.u 24)⟩])
     (.ret))
     (.seq (.region [⟨some 26, false, none, .bin .eql (.t 20) (.c (.int .i64 2))⟩,
        ⟨some 25, true, none, .mov (.u 26)⟩])
     (.cond (.t 25)
      (.seq (.region [⟨some 27, false, none, .mov (.t 1)⟩,
         ⟨some 28, false, none, .bin .geq (.u 27) (.c (.int .i64 1))⟩,
         ⟨some 29, false, none, .mov (.u 28)⟩,
         ⟨some 30, false, some ((.u 29), true), .mov (.t 1)⟩,
         ⟨some 31, false, some ((.u 29), true), .bin .leq (.u 30) (.c (.int .i64 14))⟩,
         ⟨some 32, false, none, .pick (.u 29) (.u 31) (.c (.bool false))⟩,
         ⟨some 4, true, none, .mov (.u 32)⟩])
      (.ret))
      (.seq (.region [⟨some 34, false, none, .bin .eql (.t 20) (.c (.int .i64 3))⟩,
         ⟨some 33, true, none, .mov (.u 34)⟩])
      (.cond (.t 33)
       (.seq (.region [⟨some 35, false, none, .mov (.t 1)⟩,
          ⟨some 36, false, none, .bin .geq (.u 35) (.c (.int .i64 1))⟩,
          ⟨some 37, false, none, .mov (.u 36)⟩,
          ⟨some 38, false, some ((.u 37), true), .mov (.t 1)⟩,
          ⟨some 39, false, some ((.u 37), true), .bin .leq (.u 38) (.c (.int .i64 21))⟩,
          ⟨some 40, false, none, .pick (.u 37) (.u 39) (.c (.bool false))⟩,
          ⟨some 4, true, none, .mov (.u 40)⟩])
       (.ret))
       (.seq (.region [⟨some 42, false, none, .bin .eql (.t 20) (.c (.int .i64 5))⟩,
          ⟨some 41, true, none, .mov (.u 42)⟩])
       (.cond (.t 41)
        (.seq (.region [⟨some 43, false, none, .mov (.t 5)⟩,
           ⟨some 44, false, none, .mov (.u 43)⟩,
           ⟨some 45, false, some ((.u 44), false), .mov (.t 1)⟩,
           ⟨some 46, false, some ((.u 44), false), .bin .eql (.u 45) (.c (.int .i64 22))⟩,
           ⟨some 47, false, none, .pick (.u 44) (.c (.bool true)) (.u 46)⟩,
           ⟨some 4, true, none, .mov (.u 47)⟩])
        (.ret))
        (.skip)))))))))))
  (.seq (.region [⟨some 4, true, none, .mov (.c (.bool false))⟩])
  (.ret))))
def r90 : List LRes := [.slot 4]
theorem t90 : (Try.f90.body.bind (trCode v90 Try.prog Try.f90.ntmps)) = some c90 ∧ trRes v90 Try.prog Try.f90.results.toList = some r90 := ⟨by kernel_rfl, by kernel_rfl⟩

def v91 : Nat → Bool := fun t => [0, 2, 3, 4].contains t
def c91 : LCode :=
  .seq (.region [⟨some 2, true, none, .mov (.c (.bool false))⟩])
  (.seq (.seq (.region [⟨some 3, true, none, .mov (.t 0)⟩])
   (.block 0 (.seq (.seq (.region [⟨some 5, false, none, .bin .eql (.t 3) (.c (.int .i64 3))⟩,
        ⟨some 4, true, none, .mov (.u 5)⟩])
     (.cond (.t 4)
      (.skip)
      (.seq (.region [⟨some 6, false, none, .bin .eql (.t 3) (.c (.int .i64 4))⟩,
         ⟨some 4, true, none, .mov (.u 6)⟩])
      (.cond (.t 4)
       (.skip)
       (.seq (.region [⟨some 7, false, none, .bin .eql (.t 3) (.c (.int .i64 5))⟩,
          ⟨some 4, true, none, .mov (.u 7)⟩])
       (.cond (.t 4)
        (.skip)
        (.seq (.region [⟨some 8, false, none, .bin .eql (.t 3) (.c (.int .i64 6))⟩,
           ⟨some 4, true, none, .mov (.u 8)⟩])
        (.cond (.t 4)
         (.skip)
         (.seq (.region [⟨some 9, false, none, .bin .eql (.t 3) (.c (.int .i64 7))⟩,
            ⟨some 4, true, none, .mov (.u 9)⟩])
         (.cond (.t 4)
          (.skip)
          (.seq (.region [⟨some 10, false, none, .bin .eql (.t 3) (.c (.int .i64 19))⟩,
             ⟨some 4, true, none, .mov (.u 10)⟩])
          (.cond (.t 4)
           (.skip)
           (.region [⟨some 11, false, none, .bin .eql (.t 3) (.c (.int .i64 20))⟩,
             ⟨some 4, true, none, .mov (.u 11)⟩])))))))))))))
    (.cond (.t 4)
     (.seq (.region [⟨some 2, true, none, .mov (.c (.bool true))⟩])
     (.ret))
     (.skip)))))
  (.seq (.region [⟨some 2, true, none, .mov (.c (.bool false))⟩])
  (.ret)))
def r91 : List LRes := [.slot 2]
theorem t91 : (Try.f91.body.bind (trCode v91 Try.prog Try.f91.ntmps)) = some c91 ∧ trRes v91 Try.prog Try.f91.results.toList = some r91 := ⟨by kernel_rfl, by kernel_rfl⟩

def v92 : Nat → Bool := fun t => [0, 2].contains t
def c92 : LCode :=
  .seq (.region [⟨some 2, true, none, .mov (.c (.bool false))⟩])
  (.seq (.region [⟨some 3, false, none, .mov (.t 0)⟩,
     ⟨some 4, false, none, .bin .eql (.u 3) (.c (.int .i64 13))⟩,
     ⟨some 5, false, none, .mov (.u 4)⟩,
     ⟨some 6, false, some ((.u 5), false), .mov (.t 0)⟩,
     ⟨some 7, false, some ((.u 5), false), .bin .eql (.u 6) (.c (.int .i64 14))⟩,
     ⟨some 8, false, none, .pick (.u 5) (.c (.bool true)) (.u 7)⟩,
     ⟨some 2, true, none, .mov (.u 8)⟩])
  (.ret))
def r92 : List LRes := [.slot 2]
theorem t92 : (Try.f92.body.bind (trCode v92 Try.prog Try.f92.ntmps)) = some c92 ∧ trRes v92 Try.prog Try.f92.results.toList = some r92 := ⟨by kernel_rfl, by kernel_rfl⟩

def v93 : Nat → Bool := fun t => [0, 1, 2, 4, 5, 6, 7, 8, 9, 14, 19, 24, 29, 34, 39, 44, 49, 60, 69].contains t
def c93 : LCode :=
  .seq (.region [⟨some 4, true, none, .box (.t 1)⟩,
     ⟨some 5, true, none, .box (.t 2)⟩,
     ⟨some 6, true, none, .mov (.c (.int .i64 0))⟩,
     ⟨some 7, true, none, .mov (.c (.bool false))⟩])
  (.seq (.seq (.region [⟨some 8, true, none, .mov (.t 0)⟩])
   (.block 0 (.seq (.region [⟨some 10, false, none, .bin .eql (.t 8) (.c (.int .i64 1))⟩,
       ⟨some 9, true, none, .mov (.u 10)⟩])
    (.cond (.t 9)
     (.seq (.region [⟨some 11, false, none, .faddr 1 (.t 4)⟩,
        ⟨some 12, false, none, .faddr 0 (.u 11)⟩,
        ⟨some 13, false, none, .load false 1 (.u 12)⟩,
        ⟨some 6, true, none, .mov (.u 13)⟩,
        ⟨some 7, true, none, .mov (.c (.bool true))⟩])
     (.ret))
     (.seq (.region [⟨some 15, false, none, .bin .eql (.t 8) (.c (.int .i64 2))⟩,
        ⟨some 14, true, none, .mov (.u 15)⟩])
     (.cond (.t 14)
      (.seq (.region [⟨some 16, false, none, .faddr 1 (.t 4)⟩,
         ⟨some 17, false, none, .faddr 1 (.u 16)⟩,
         ⟨some 18, false, none, .load false 1 (.u 17)⟩,
         ⟨some 6, true, none, .mov (.u 18)⟩,
         ⟨some 7, true, none, .mov (.c (.bool true))⟩])
      (.ret))
      (.seq (.region [⟨some 20, false, none, .bin .eql (.t 8) (.c (.int .i64 3))⟩,
         ⟨some 19, true, none, .mov (.u 20)⟩])
      (.cond (.t 19)
       (.seq (.region [⟨some 21, false, none, .faddr 1 (.t 4)⟩,
          ⟨some 22, false, none, .faddr 2 (.u 21)⟩,
          ⟨some 23, false, none, .load false 1 (.u 22)⟩,
          ⟨some 6, true, none, .mov (.u 23)⟩,
          ⟨some 7, true, none, .mov (.c (.bool true))⟩])
       (.ret))
       (.seq (.region [⟨some 25, false, none, .bin .eql (.t 8) (.c (.int .i64 4))⟩,
          ⟨some 24, true, none, .mov (.u 25)⟩])
       (.cond (.t 24)
        (.seq (.region [⟨some 26, false, none, .faddr 1 (.t 4)⟩,
           ⟨some 27, false, none, .faddr 3 (.u 26)⟩,
           ⟨some 28, false, none, .load false 1 (.u 27)⟩,
           ⟨some 6, true, none, .mov (.u 28)⟩,
           ⟨some 7, true, none, .mov (.c (.bool true))⟩])
        (.ret))
        (.seq (.region [⟨some 30, false, none, .bin .eql (.t 8) (.c (.int .i64 5))⟩,
           ⟨some 29, true, none, .mov (.u 30)⟩])
        (.cond (.t 29)
         (.seq (.region [⟨some 31, false, none, .faddr 1 (.t 4)⟩,
            ⟨some 32, false, none, .faddr 4 (.u 31)⟩,
            ⟨some 33, false, none, .load false 1 (.u 32)⟩,
            ⟨some 6, true, none, .mov (.u 33)⟩,
            ⟨some 7, true, none, .mov (.c (.bool true))⟩])
         (.ret))
         (.seq (.region [⟨some 35, false, none, .bin .eql (.t 8) (.c (.int .i64 6))⟩,
            ⟨some 34, true, none, .mov (.u 35)⟩])
         (.cond (.t 34)
          (.seq (.region [⟨some 36, false, none, .faddr 1 (.t 4)⟩,
             ⟨some 37, false, none, .faddr 5 (.u 36)⟩,
             ⟨some 38, false, none, .load false 1 (.u 37)⟩,
             ⟨some 6, true, none, .mov (.u 38)⟩,
             ⟨some 7, true, none, .mov (.c (.bool true))⟩])
          (.ret))
          (.seq (.region [⟨some 40, false, none, .bin .eql (.t 8) (.c (.int .i64 7))⟩,
             ⟨some 39, true, none, .mov (.u 40)⟩])
          (.cond (.t 39)
           (.seq (.region [⟨some 41, false, none, .faddr 1 (.t 4)⟩,
              ⟨some 42, false, none, .faddr 6 (.u 41)⟩,
              ⟨some 43, false, none, .load false 1 (.u 42)⟩,
              ⟨some 6, true, none, .mov (.u 43)⟩,
              ⟨some 7, true, none, .mov (.c (.bool true))⟩])
           (.ret))
           (.seq (.region [⟨some 45, false, none, .bin .eql (.t 8) (.c (.int .i64 8))⟩,
              ⟨some 44, true, none, .mov (.u 45)⟩])
           (.cond (.t 44)
            (.seq (.region [⟨some 46, false, none, .faddr 1 (.t 4)⟩,
               ⟨some 47, false, none, .faddr 7 (.u 46)⟩,
               ⟨some 48, false, none, .load false 1 (.u 47)⟩,
               ⟨some 6, true, none, .mov (.u 48)⟩,
               ⟨some 7, true, none, .mov (.c (.bool true))⟩])
            (.ret))
            (.seq (.seq (.region [⟨some 50, false, none, .bin .eql (.t 8) (.c (.int .i64 9))⟩,
                ⟨some 49, true, none, .mov (.u 50)⟩])
             (.cond (.t 49)
              (.skip)
              (.seq (.region [⟨some 51, false, none, .bin .eql (.t 8) (.c (.int .i64 10))⟩,
                 ⟨some 49, true, none, .mov (.u 51)⟩])
              (.cond (.t 49)
               (.skip)
               (.seq (.region [⟨some 52, false, none, .bin .eql (.t 8) (.c (.int .i64 11))⟩,
                  ⟨some 49, true, none, .mov (.u 52)⟩])
               (.cond (.t 49)
                (.skip)
                (.region [⟨some 53, false, none, .bin .eql (.t 8) (.c (.int .i64 12))⟩,
                  ⟨some 49, true, none, .mov (.u 53)⟩])))))))
            (.cond (.t 49)
             (.seq (.region [⟨some 54, false, none, .mov (.t 0)⟩,
                ⟨some 55, false, none, .bin .sub (.u 54) (.c (.int .i64 9))⟩,
                ⟨some 56, false, none, .faddr 15 (.t 4)⟩,
                ⟨some 57, false, none, .faddr 1 (.u 56)⟩,
                ⟨some 58, false, none, .iaA 4 1 (.u 57) (.u 55)⟩,
                ⟨some 59, false, none, .load false 1 (.u 58)⟩,
                ⟨some 6, true, none, .mov (.u 59)⟩,
                ⟨some 7, true, none, .mov (.c (.bool true))⟩])
             (.ret))
             (.seq (.region [⟨some 61, false, none, .bin .eql (.t 8) (.c (.int .i64 22))⟩,
                ⟨some 60, true, none, .mov (.u 61)⟩])
             (.cond (.t 60)
              (.seq (.regionD [⟨0, [4], false, [], ⟨some 62, false, none, .faddr 24 (.t 4)⟩⟩,
                 ⟨1, [62], true, [], ⟨some 63, false, none, .load false 1 (.u 62)⟩⟩,
                 ⟨2, [4], false, [], ⟨some 64, false, none, .faddr 24 (.t 4)⟩⟩,
                 ⟨3, [64], true, [], ⟨some 65, false, none, .load false 1 (.u 64)⟩⟩,
                 ⟨4, [65], false, [], ⟨some 66, false, none, .bin .neq (.u 65) (.c (.int .i64 0))⟩⟩,
                 ⟨5, [63], false, [], ⟨some 6, true, none, .mov (.u 63)⟩⟩,
                 ⟨6, [66], false, [], ⟨some 7, true, none, .mov (.u 66)⟩⟩])
              (.ret))
              (.skip)))))))))))))))))))))))
  (.seq (.seq (.region [⟨some 67, false, none, .faddr 0 (.t 4)⟩,
      ⟨some 68, false, none, .load false 1 (.u 67)⟩,
      ⟨some 69, true, none, .bin .neq (.u 68) (.c (.int .i64 2))⟩])
   (.cond (.t 69)
    (.seq (.region [⟨some 6, true, none, .mov (.c (.int .i64 0))⟩,
       ⟨some 7, true, none, .mov (.c (.bool false))⟩])
    (.ret))
    (.skip)))
  (.seq (.region [⟨some 70, false, none, .mov (.t 0)⟩,
     ⟨some 71, false, none, .load true 25 (.t 4)⟩,
     ⟨some 72, false, none, .load true 13 (.t 5)⟩,
     ⟨some 73, false, none, .call 101 [(.u 70), (.u 71), (.u 72)]⟩,
     ⟨some 74, false, none, .ext (.u 73) 0⟩,
     ⟨some 75, false, none, .ext (.u 73) 1⟩,
     ⟨some 6, true, none, .mov (.u 74)⟩,
     ⟨some 7, true, none, .mov (.u 75)⟩])
  (.ret))))
def r93 : List LRes := [.slot 6, .slot 7]
theorem t93 : (Try.f93.body.bind (trCode v93 Try.prog Try.f93.ntmps)) = some c93 ∧ trRes v93 Try.prog Try.f93.results.toList = some r93 := ⟨by kernel_rfl, by kernel_rfl⟩

def v94 : Nat → Bool := fun t => [0, 1, 2, 6, 7, 8, 13, 18, 23, 28, 33, 38, 44].contains t
def c94 : LCode :=
  .seq (.region [⟨some 6, true, none, .mov (.c (.bool false))⟩])
  (.seq (.seq (.region [⟨some 7, true, none, .mov (.t 0)⟩])
   (.block 0 (.seq (.region [⟨some 9, false, none, .bin .eql (.t 7) (.c (.int .i64 1))⟩,
       ⟨some 8, true, none, .mov (.u 9)⟩])
    (.cond (.t 8)
     (.seq (.region [⟨some 10, false, none, .mov (.t 1)⟩,
        ⟨some 11, false, none, .mov (.t 2)⟩,
        ⟨some 12, false, none, .bin .eql (.u 10) (.u 11)⟩,
        ⟨some 6, true, none, .mov (.u 12)⟩])
     (.ret))
     (.seq (.region [⟨some 14, false, none, .bin .eql (.t 7) (.c (.int .i64 2))⟩,
        ⟨some 13, true, none, .mov (.u 14)⟩])
     (.cond (.t 13)
      (.seq (.region [⟨some 15, false, none, .mov (.t 1)⟩,
         ⟨some 16, false, none, .mov (.t 2)⟩,
         ⟨some 17, false, none, .bin .neq (.u 15) (.u 16)⟩,
         ⟨some 6, true, none, .mov (.u 17)⟩])
      (.ret))
      (.seq (.region [⟨some 19, false, none, .bin .eql (.t 7) (.c (.int .i64 3))⟩,
         ⟨some 18, true, none, .mov (.u 19)⟩])
      (.cond (.t 18)
       (.seq (.region [⟨some 20, false, none, .mov (.t 1)⟩,
          ⟨some 21, false, none, .mov (.t 2)⟩,
          ⟨some 22, false, none, .bin .lss (.u 20) (.u 21)⟩,
          ⟨some 6, true, none, .mov (.u 22)⟩])
       (.ret))
       (.seq (.region [⟨some 24, false, none, .bin .eql (.t 7) (.c (.int .i64 4))⟩,
          ⟨some 23, true, none, .mov (.u 24)⟩])
       (.cond (.t 23)
        (.seq (.region [⟨some 25, false, none, .mov (.t 1)⟩,
           ⟨some 26, false, none, .mov (.t 2)⟩,
           ⟨some 27, false, none, .bin .leq (.u 25) (.u 26)⟩,
           ⟨some 6, true, none, .mov (.u 27)⟩])
        (.ret))
        (.seq (.region [⟨some 29, false, none, .bin .eql (.t 7) (.c (.int .i64 5))⟩,
           ⟨some 28, true, none, .mov (.u 29)⟩])
        (.cond (.t 28)
         (.seq (.region [⟨some 30, false, none, .mov (.t 1)⟩,
            ⟨some 31, false, none, .mov (.t 2)⟩,
            ⟨some 32, false, none, .bin .gtr (.u 30) (.u 31)⟩,
            ⟨some 6, true, none, .mov (.u 32)⟩])
         (.ret))
         (.seq (.region [⟨some 34, false, none, .bin .eql (.t 7) (.c (.int .i64 6))⟩,
            ⟨some 33, true, none, .mov (.u 34)⟩])
         (.cond (.t 33)
          (.seq (.region [⟨some 35, false, none, .mov (.t 1)⟩,
             ⟨some 36, false, none, .mov (.t 2)⟩,
             ⟨some 37, false, none, .bin .geq (.u 35) (.u 36)⟩,
             ⟨some 6, true, none, .mov (.u 37)⟩])
          (.ret))
          (.seq (.region [⟨some 39, false, none, .bin .eql (.t 7) (.c (.int .i64 7))⟩,
             ⟨some 38, true, none, .mov (.u 39)⟩])
          (.cond (.t 38)
           (.seq (.region [⟨some 40, false, none, .mov (.t 1)⟩,
              ⟨some 41, false, none, .mov (.t 2)⟩,
              ⟨some 42, false, none, .bin .and (.u 40) (.u 41)⟩,
              ⟨some 43, false, none, .bin .neq (.u 42) (.c (.int .i64 0))⟩,
              ⟨some 6, true, none, .mov (.u 43)⟩])
           (.ret))
           (.seq (.region [⟨some 45, false, none, .bin .eql (.t 7) (.c (.int .i64 8))⟩,
              ⟨some 44, true, none, .mov (.u 45)⟩])
           (.cond (.t 44)
            (.seq (.region [⟨some 46, false, none, .mov (.t 1)⟩,
               ⟨some 47, false, none, .mov (.t 2)⟩,
               ⟨some 48, false, none, .bin .and (.u 46) (.u 47)⟩,
               ⟨some 49, false, none, .mov (.t 2)⟩,
               ⟨some 50, false, none, .bin .eql (.u 48) (.u 49)⟩,
               ⟨some 6, true, none, .mov (.u 50)⟩])
            (.ret))
            (.skip)))))))))))))))))))
  (.seq (.region [⟨some 6, true, none, .mov (.c (.bool false))⟩])
  (.ret)))
def r94 : List LRes := [.slot 6]
theorem t94 : (Try.f94.body.bind (trCode v94 Try.prog Try.f94.ntmps)) = some c94 ∧ trRes v94 Try.prog Try.f94.results.toList = some r94 := ⟨by kernel_rfl, by kernel_rfl⟩

def v95 : Nat → Bool := fun t => [0, 1, 4, 5, 11, 22, 23, 27, 31, 35].contains t
def c95 : LCode :=
  .seq (.region [⟨some 4, true, none, .mov (.c (.bool false))⟩])
  (.seq (.seq (.region [⟨some 6, false, none, .mov (.t 1)⟩,
      ⟨some 7, false, none, .bin .lss (.u 6) (.c (.int .i64 1))⟩,
      ⟨some 8, false, none, .mov (.u 7)⟩,
      ⟨some 9, false, some ((.u 8), false), .mov (.t 1)⟩,
      ⟨some 10, false, some ((.u 8), false), .bin .gtr (.u 9) (.c (.int .i64 22))⟩,
      ⟨some 11, true, none, .pick (.u 8) (.c (.bool true)) (.u 10)⟩])
   (.cond (.t 11)
    (.seq (.region [⟨some 4, true, none, .mov (.c (.bool false))⟩])
    (.ret))
    (.skip)))
  (.seq (.region [⟨some 12, false, none, .mov (.t 1)⟩,
     ⟨some 13, false, none, .bin .leq (.u 12) (.c (.int .i64 8))⟩,
     ⟨some 14, false, none, .mov (.u 13)⟩,
     ⟨some 15, false, some ((.u 14), false), .mov (.t 1)⟩,
     ⟨some 16, false, some ((.u 14), false), .bin .eql (.u 15) (.c (.int .i64 13))⟩,
     ⟨some 17, false, none, .pick (.u 14) (.c (.bool true)) (.u 16)⟩,
     ⟨some 18, false, none, .mov (.u 17)⟩,
     ⟨some 19, false, some ((.u 18), false), .mov (.t 1)⟩,
     ⟨some 20, false, some ((.u 18), false), .bin .eql (.u 19) (.c (.int .i64 14))⟩,
     ⟨some 21, false, none, .pick (.u 18) (.c (.bool true)) (.u 20)⟩,
     ⟨some 5, true, none, .mov (.u 21)⟩])
  (.seq (.seq (.region [⟨some 22, true, none, .mov (.t 0)⟩])
   (.block 0 (.seq (.seq (.region [⟨some 24, false, none, .bin .eql (.t 22) (.c (.int .i64 1))⟩,
        ⟨some 23, true, none, .mov (.u 24)⟩])
     (.cond (.t 23)
      (.skip)
      (.region [⟨some 25, false, none, .bin .eql (.t 22) (.c (.int .i64 4))⟩,
        ⟨some 23, true, none, .mov (.u 25)⟩])))
    (.cond (.t 23)
     (.seq (.region [⟨some 26, false, none, .mov (.t 5)⟩,
        ⟨some 4, true, none, .mov (.u 26)⟩])
     (.ret))
     (.seq (.region [⟨some 28, false, none, .bin .eql (.t 22) (.c (.int .i64 2))⟩,
        ⟨some 27, true, none, .mov (.u 28)⟩])
     (.cond (.t 27)
      (.seq (.region [⟨some 29, false, none, .mov (.t 1)⟩,
         ⟨some 30, false, none, .bin .leq (.u 29) (.c (.int .i64 14))⟩,
         ⟨some 4, true, none, .mov (.u 30)⟩])
      (.ret))
      (.seq (.region [⟨some 32, false, none, .bin .eql (.t 22) (.c (.int .i64 3))⟩,
         ⟨some 31, true, none, .mov (.u 32)⟩])
      (.cond (.t 31)
       (.seq (.region [⟨some 33, false, none, .mov (.t 1)⟩,
          ⟨some 34, false, none, .bin .lss (.u 33) (.c (.int .i64 22))⟩,
          ⟨some 4, true, none, .mov (.u 34)⟩])
       (.ret))
       (.seq (.region [⟨some 36, false, none, .bin .eql (.t 22) (.c (.int .i64 5))⟩,
          ⟨some 35, true, none, .mov (.u 36)⟩])
       (.cond (.t 35)
        (.seq (.region [⟨some 37, false, none, .mov (.t 5)⟩,
           ⟨some 38, false, none, .mov (.u 37)⟩,
           ⟨some 39, false, some ((.u 38), false), .mov (.t 1)⟩,
           ⟨some 40, false, some ((.u 38), false), .bin .eql (.u 39) (.c (.int .i64 22))⟩,
           ⟨some 41, false, none, .pick (.u 38) (.c (.bool true)) (.u 40)⟩,
           ⟨some 4, true, none, .mov (.u 41)⟩])
        (.ret))
        (.skip)))))))))))
  (.seq (.region [⟨some 4, true, none, .mov (.c (.bool false))⟩])
  (.ret)))))
def r95 : List LRes := [.slot 4]
theorem t95 : (Try.f95.body.bind (trCode v95 Try.prog Try.f95.ntmps)) = some c95 ∧ trRes v95 Try.prog Try.f95.results.toList = some r95 := ⟨by kernel_rfl, by kernel_rfl⟩

def v96 : Nat → Bool := fun t => [0, 2, 3, 4].contains t
def c96 : LCode :=
  .seq (.region [⟨some 2, true, none, .mov (.c (.bool false))⟩])
  (.seq (.seq (.region [⟨some 3, true, none, .mov (.t 0)⟩])
   (.block 0 (.seq (.seq (.region [⟨some 5, false, none, .bin .eql (.t 3) (.c (.int .i64 3))⟩,
        ⟨some 4, true, none, .mov (.u 5)⟩])
     (.cond (.t 4)
      (.skip)
      (.seq (.region [⟨some 6, false, none, .bin .eql (.t 3) (.c (.int .i64 4))⟩,
         ⟨some 4, true, none, .mov (.u 6)⟩])
      (.cond (.t 4)
       (.skip)
       (.seq (.region [⟨some 7, false, none, .bin .eql (.t 3) (.c (.int .i64 5))⟩,
          ⟨some 4, true, none, .mov (.u 7)⟩])
       (.cond (.t 4)
        (.skip)
        (.seq (.region [⟨some 8, false, none, .bin .eql (.t 3) (.c (.int .i64 6))⟩,
           ⟨some 4, true, none, .mov (.u 8)⟩])
        (.cond (.t 4)
         (.skip)
         (.seq (.region [⟨some 9, false, none, .bin .eql (.t 3) (.c (.int .i64 7))⟩,
            ⟨some 4, true, none, .mov (.u 9)⟩])
         (.cond (.t 4)
          (.skip)
          (.seq (.region [⟨some 10, false, none, .bin .eql (.t 3) (.c (.int .i64 19))⟩,
             ⟨some 4, true, none, .mov (.u 10)⟩])
          (.cond (.t 4)
           (.skip)
           (.region [⟨some 11, false, none, .bin .eql (.t 3) (.c (.int .i64 20))⟩,
             ⟨some 4, true, none, .mov (.u 11)⟩])))))))))))))
    (.cond (.t 4)
     (.seq (.region [⟨some 2, true, none, .mov (.c (.bool true))⟩])
     (.ret))
     (.skip)))))
  (.seq (.region [⟨some 2, true, none, .mov (.c (.bool false))⟩])
  (.ret)))
def r96 : List LRes := [.slot 2]
theorem t96 : (Try.f96.body.bind (trCode v96 Try.prog Try.f96.ntmps)) = some c96 ∧ trRes v96 Try.prog Try.f96.results.toList = some r96 := ⟨by kernel_rfl, by kernel_rfl⟩

def v99 : Nat → Bool := fun t => [0].contains t
def c99 : LCode :=
  .seq (.region [⟨some 0, true, none, .mov (.c (.int .i64 0))⟩])
  (.seq (.region [⟨some 1, false, none, .call 100 []⟩,
     ⟨some 2, false, none, .lenL (.u 1)⟩,
     ⟨some 0, true, none, .mov (.u 2)⟩])
  (.ret))
def r99 : List LRes := [.slot 0]
theorem t99 : (Try.f99.body.bind (trCode v99 Try.prog Try.f99.ntmps)) = some c99 ∧ trRes v99 Try.prog Try.f99.results.toList = some r99 := ⟨by kernel_rfl, by kernel_rfl⟩

def v100 : Nat → Bool := fun t => [0].contains t
def c100 : LCode :=
  .seq (.region [⟨some 0, true, none, .mov (.c (.fsl 1 0 []))⟩])
  (.seq (.region [⟨some 1, false, none, .build [.str [], .int .i64 0, .int .i64 0, .int .i64 0, .int .i64 0] [(0, 1, (.c (.str [102, 111, 114, 107]))), (1, 1, (.c (.int .i64 0))), (2, 1, (.c (.int .i64 0))), (3, 1, (.c (.int .i64 0))), (4, 1, (.c (.int .i64 0)))]⟩,
     ⟨some 2, false, none, .build [.str [], .int .i64 0, .int .i64 0, .int .i64 0, .int .i64 0] [(0, 1, (.c (.str [101, 120, 101, 99, 118, 101]))), (1, 1, (.c (.int .i64 0))), (2, 1, (.c (.int .i64 1))), (3, 1, (.c (.int .i64 0))), (4, 1, (.c (.int .i64 4)))]⟩,
     ⟨some 3, false, none, .build [.str [], .int .i64 0, .int .i64 0, .int .i64 0, .int .i64 0] [(0, 1, (.c (.str [101, 120, 105, 116]))), (1, 1, (.c (.int .i64 1))), (2, 1, (.c (.int .i64 0))), (3, 1, (.c (.int .i64 0))), (4, 1, (.c (.int .i64 0)))]⟩,
     ⟨some 4, false, none, .build [.str [], .int .i64 0, .int .i64 0, .int .i64 0, .int .i64 0] [(0, 1, (.c (.str [115, 101, 116, 117, 105, 100]))), (1, 1, (.c (.int .i64 1))), (2, 1, (.c (.int .i64 0))), (3, 1, (.c (.int .i64 0))), (4, 1, (.c (.int .i64 0)))]⟩,
     ⟨some 5, false, none, .build [.str [], .int .i64 0, .int .i64 0, .int .i64 0, .int .i64 0] [(0, 1, (.c (.str [115, 101, 116, 103, 105, 100]))), (1, 1, (.c (.int .i64 1))), (2, 1, (.c (.int .i64 0))), (3, 1, (.c (.int .i64 0))), (4, 1, (.c (.int .i64 0)))]⟩,
     ⟨some 6, false, none, .build [.str [], .int .i64 0, .int .i64 0, .int .i64 0, .int .i64 0] [(0, 1, (.c (.str [108, 111, 103, 105, 110]))), (1, 1, (.c (.int .i64 1))), (2, 1, (.c (.int .i64 0))), (3, 1, (.c (.int .i64 0))), (4, 1, (.c (.int .i64 0)))]⟩,
     ⟨some 7, false, none, .build [.str [], .int .i64 0, .int .i64 0, .int .i64 0, .int .i64 0] [(0, 1, (.c (.str [111, 112, 101, 110]))), (1, 1, (.c (.int .i64 2))), (2, 1, (.c (.int .i64 1))), (3, 1, (.c (.int .i64 0))), (4, 1, (.c (.int .i64 0)))]⟩,
     ⟨some 8, false, none, .build [.str [], .int .i64 0, .int .i64 0, .int .i64 0, .int .i64 0] [(0, 1, (.c (.str [99, 108, 111, 115, 101]))), (1, 1, (.c (.int .i64 1))), (2, 1, (.c (.int .i64 0))), (3, 1, (.c (.int .i64 0))), (4, 1, (.c (.int .i64 0)))]⟩,
     ⟨some 9, false, none, .build [.str [], .int .i64 0, .int .i64 0, .int .i64 0, .int .i64 0] [(0, 1, (.c (.str [108, 105, 110, 107]))), (1, 1, (.c (.int .i64 0))), (2, 1, (.c (.int .i64 2))), (3, 1, (.c (.int .i64 0))), (4, 1, (.c (.int .i64 0)))]⟩,
     ⟨some 10, false, none, .build [.str [], .int .i64 0, .int .i64 0, .int .i64 0, .int .i64 0] [(0, 1, (.c (.str [115, 121, 109, 108, 105, 110, 107]))), (1, 1, (.c (.int .i64 0))), (2, 1, (.c (.int .i64 1))), (3, 1, (.c (.int .i64 1))), (4, 1, (.c (.int .i64 1)))]⟩,
     ⟨some 11, false, none, .build [.str [], .int .i64 0, .int .i64 0, .int .i64 0, .int .i64 0] [(0, 1, (.c (.str [117, 110, 108, 105, 110, 107]))), (1, 1, (.c (.int .i64 0))), (2, 1, (.c (.int .i64 1))), (3, 1, (.c (.int .i64 0))), (4, 1, (.c (.int .i64 0)))]⟩,
     ⟨some 12, false, none, .build [.str [], .int .i64 0, .int .i64 0, .int .i64 0, .int .i64 0] [(0, 1, (.c (.str [109, 107, 100, 105, 114]))), (1, 1, (.c (.int .i64 1))), (2, 1, (.c (.int .i64 1))), (3, 1, (.c (.int .i64 0))), (4, 1, (.c (.int .i64 0)))]⟩,
     ⟨some 13, false, none, .build [.str [], .int .i64 0, .int .i64 0, .int .i64 0, .int .i64 0] [(0, 1, (.c (.str [114, 109, 100, 105, 114]))), (1, 1, (.c (.int .i64 0))), (2, 1, (.c (.int .i64 1))), (3, 1, (.c (.int .i64 0))), (4, 1, (.c (.int .i64 0)))]⟩,
     ⟨some 14, false, none, .build [.str [], .int .i64 0, .int .i64 0, .int .i64 0, .int .i64 0] [(0, 1, (.c (.str [114, 101, 110, 97, 109, 101]))), (1, 1, (.c (.int .i64 0))), (2, 1, (.c (.int .i64 2))), (3, 1, (.c (.int .i64 0))), (4, 1, (.c (.int .i64 0)))]⟩,
     ⟨some 15, false, none, .build [.str [], .int .i64 0, .int .i64 0, .int .i64 0, .int .i64 0] [(0, 1, (.c (.str [99, 104, 109, 111, 100]))), (1, 1, (.c (.int .i64 1))), (2, 1, (.c (.int .i64 1))), (3, 1, (.c (.int .i64 0))), (4, 1, (.c (.int .i64 0)))]⟩,
     ⟨some 16, false, none, .build [.str [], .int .i64 0, .int .i64 0, .int .i64 0, .int .i64 0] [(0, 1, (.c (.str [99, 104, 111, 119, 110]))), (1, 1, (.c (.int .i64 2))), (2, 1, (.c (.int .i64 1))), (3, 1, (.c (.int .i64 0))), (4, 1, (.c (.int .i64 0)))]⟩,
     ⟨some 17, false, none, .build [.str [], .int .i64 0, .int .i64 0, .int .i64 0, .int .i64 0] [(0, 1, (.c (.str [99, 104, 100, 105, 114]))), (1, 1, (.c (.int .i64 0))), (2, 1, (.c (.int .i64 1))), (3, 1, (.c (.int .i64 0))), (4, 1, (.c (.int .i64 0)))]⟩,
     ⟨some 18, false, none, .build [.str [], .int .i64 0, .int .i64 0, .int .i64 0, .int .i64 0] [(0, 1, (.c (.str [109, 111, 117, 110, 116]))), (1, 1, (.c (.int .i64 1))), (2, 1, (.c (.int .i64 1))), (3, 1, (.c (.int .i64 0))), (4, 1, (.c (.int .i64 0)))]⟩,
     ⟨some 19, false, none, .build [.str [], .int .i64 0, .int .i64 0, .int .i64 0, .int .i64 0] [(0, 1, (.c (.str [117, 109, 111, 117, 110, 116]))), (1, 1, (.c (.int .i64 1))), (2, 1, (.c (.int .i64 0))), (3, 1, (.c (.int .i64 0))), (4, 1, (.c (.int .i64 0)))]⟩,
     ⟨some 20, false, none, .build [.str [], .int .i64 0, .int .i64 0, .int .i64 0, .int .i64 0] [(0, 1, (.c (.str [99, 111, 110, 110, 101, 99, 116]))), (1, 1, (.c (.int .i64 1))), (2, 1, (.c (.int .i64 0))), (3, 1, (.c (.int .i64 1))), (4, 1, (.c (.int .i64 1)))]⟩,
     ⟨some 21, false, none, .build [.str [], .int .i64 0, .int .i64 0, .int .i64 0, .int .i64 0] [(0, 1, (.c (.str [107, 105, 108, 108]))), (1, 1, (.c (.int .i64 2))), (2, 1, (.c (.int .i64 0))), (3, 1, (.c (.int .i64 0))), (4, 1, (.c (.int .i64 0)))]⟩,
     ⟨some 22, false, none, .build [.str [], .int .i64 0, .int .i64 0, .int .i64 0, .int .i64 0] [(0, 1, (.c (.str [116, 114, 117, 110, 99, 97, 116, 101]))), (1, 1, (.c (.int .i64 1))), (2, 1, (.c (.int .i64 1))), (3, 1, (.c (.int .i64 0))), (4, 1, (.c (.int .i64 0)))]⟩,
     ⟨some 23, false, none, .mkS 5 22 [.str [], .int .i64 0, .int .i64 0, .int .i64 0, .int .i64 0] [(0, 5, (.u 1)), (5, 5, (.u 2)), (10, 5, (.u 3)), (15, 5, (.u 4)), (20, 5, (.u 5)), (25, 5, (.u 6)), (30, 5, (.u 7)), (35, 5, (.u 8)), (40, 5, (.u 9)), (45, 5, (.u 10)), (50, 5, (.u 11)), (55, 5, (.u 12)), (60, 5, (.u 13)), (65, 5, (.u 14)), (70, 5, (.u 15)), (75, 5, (.u 16)), (80, 5, (.u 17)), (85, 5, (.u 18)), (90, 5, (.u 19)), (95, 5, (.u 20)), (100, 5, (.u 21)), (105, 5, (.u 22))]⟩,
     ⟨some 0, true, none, .mov (.u 23)⟩])
  (.ret))
def r100 : List LRes := [.slot 0]
theorem t100 : (Try.f100.body.bind (trCode v100 Try.prog Try.f100.ntmps)) = some c100 ∧ trRes v100 Try.prog Try.f100.results.toList = some r100 := ⟨by kernel_rfl, by kernel_rfl⟩

def v101 : Nat → Bool := fun t => [0, 1, 2, 4, 5, 6, 7, 8, 9, 13, 17, 18, 23, 28, 32, 36].contains t
def c101 : LCode :=
  .seq (.region [⟨some 4, true, none, .box (.t 1)⟩,
     ⟨some 5, true, none, .box (.t 2)⟩,
     ⟨some 6, true, none, .mov (.c (.int .i64 0))⟩,
     ⟨some 7, true, none, .mov (.c (.bool false))⟩])
  (.seq (.seq (.region [⟨some 8, true, none, .mov (.t 0)⟩])
   (.block 0 (.seq (.region [⟨some 10, false, none, .bin .eql (.t 8) (.c (.int .i64 15))⟩,
       ⟨some 9, true, none, .mov (.u 10)⟩])
    (.cond (.t 9)
     (.seq (.region [⟨some 11, false, none, .faddr 22 (.t 4)⟩,
        ⟨some 12, false, none, .load false 1 (.u 11)⟩,
        ⟨some 6, true, none, .mov (.u 12)⟩,
        ⟨some 7, true, none, .mov (.c (.bool true))⟩])
     (.ret))
     (.seq (.region [⟨some 14, false, none, .bin .eql (.t 8) (.c (.int .i64 16))⟩,
        ⟨some 13, true, none, .mov (.u 14)⟩])
     (.cond (.t 13)
      (.seq (.seq (.region [⟨some 15, false, none, .faddr 22 (.t 4)⟩,
          ⟨some 16, false, none, .load false 1 (.u 15)⟩,
          ⟨some 17, true, none, .bin .geq (.u 16) (.c (.int .i64 0))⟩])
       (.cond (.t 17)
        (.seq (.region [⟨some 6, true, none, .mov (.c (.int .i64 1))⟩,
           ⟨some 7, true, none, .mov (.c (.bool true))⟩])
        (.ret))
        (.skip)))
      (.seq (.region [⟨some 6, true, none, .mov (.c (.int .i64 0))⟩,
         ⟨some 7, true, none, .mov (.c (.bool true))⟩])
      (.ret)))
      (.seq (.region [⟨some 19, false, none, .bin .eql (.t 8) (.c (.int .i64 17))⟩,
         ⟨some 18, true, none, .mov (.u 19)⟩])
      (.cond (.t 18)
       (.seq (.region [⟨some 20, false, none, .faddr 5 (.t 5)⟩,
          ⟨some 21, false, none, .faddr 1 (.u 20)⟩,
          ⟨some 22, false, none, .load false 1 (.u 21)⟩,
          ⟨some 6, true, none, .mov (.u 22)⟩,
          ⟨some 7, true, none, .mov (.c (.bool true))⟩])
       (.ret))
       (.seq (.region [⟨some 24, false, none, .bin .eql (.t 8) (.c (.int .i64 18))⟩,
          ⟨some 23, true, none, .mov (.u 24)⟩])
       (.cond (.t 23)
        (.seq (.region [⟨some 25, false, none, .faddr 5 (.t 5)⟩,
           ⟨some 26, false, none, .faddr 0 (.u 25)⟩,
           ⟨some 27, false, none, .load false 1 (.u 26)⟩,
           ⟨some 6, true, none, .mov (.u 27)⟩,
           ⟨some 7, true, none, .mov (.c (.bool true))⟩])
        (.ret))
        (.seq (.region [⟨some 29, false, none, .bin .eql (.t 8) (.c (.int .i64 19))⟩,
           ⟨some 28, true, none, .mov (.u 29)⟩])
        (.cond (.t 28)
         (.seq (.region [⟨some 30, false, none, .faddr 10 (.t 5)⟩,
            ⟨some 31, false, none, .load false 1 (.u 30)⟩,
            ⟨some 6, true, none, .mov (.u 31)⟩,
            ⟨some 7, true, none, .mov (.c (.bool true))⟩])
         (.ret))
         (.seq (.region [⟨some 33, false, none, .bin .eql (.t 8) (.c (.int .i64 20))⟩,
            ⟨some 32, true, none, .mov (.u 33)⟩])
         (.cond (.t 32)
          (.seq (.region [⟨some 34, false, none, .faddr 11 (.t 5)⟩,
             ⟨some 35, false, none, .load false 1 (.u 34)⟩,
             ⟨some 6, true, none, .mov (.u 35)⟩,
             ⟨some 7, true, none, .mov (.c (.bool true))⟩])
          (.ret))
          (.seq (.region [⟨some 37, false, none, .bin .eql (.t 8) (.c (.int .i64 21))⟩,
             ⟨some 36, true, none, .mov (.u 37)⟩])
          (.cond (.t 36)
           (.seq (.region [⟨some 38, false, none, .faddr 8 (.t 5)⟩,
              ⟨some 39, false, none, .load false 1 (.u 38)⟩,
              ⟨some 6, true, none, .mov (.u 39)⟩,
              ⟨some 7, true, none, .mov (.c (.bool true))⟩])
           (.ret))
           (.skip)))))))))))))))))
  (.seq (.region [⟨some 6, true, none, .mov (.c (.int .i64 0))⟩,
     ⟨some 7, true, none, .mov (.c (.bool false))⟩])
  (.ret)))
def r101 : List LRes := [.slot 6, .slot 7]
theorem t101 : (Try.f101.body.bind (trCode v101 Try.prog Try.f101.ntmps)) = some c101 ∧ trRes v101 Try.prog Try.f101.results.toList = some r101 := ⟨by kernel_rfl, by kernel_rfl⟩


end Go.Proofs.Ytcngkeeknlloaaa
