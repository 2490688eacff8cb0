/- The functions' bodies as the engine reads them; written by program out of the translation, checked by the kernel. -/
import Derived.Test.YtmggjfbcjmenlaaProg
import Derived.Test.YtmggjfbcjmenlaaLxL
import Derived.KernelRfl
namespace Go.Proofs.Ytmggjfbcjmenlaa
open Go Go.Lx
set_option maxRecDepth 100000
def v3 : Nat → Bool := fun t => [0, 1, 4, 5, 8, 11, 21].contains t
def c3 : LCode :=
  .seq (.region [⟨some 4, true, none, .mov (.c (.bool false))⟩])
  (.seq (.seq (.region [⟨some 6, false, none, .mov (.t 0)⟩,
      ⟨some 7, false, none, .lenL (.u 6)⟩,
      ⟨some 8, true, none, .bin .gtr (.u 7) (.c (.int .i64 12))⟩])
   (.cond (.t 8)
    (.seq (.region [⟨some 9, false, none, .call 9 []⟩,
       ⟨some 4, true, none, .mov (.u 9)⟩])
    (.ret))
    (.skip)))
  (.seq (.seq (.region [⟨some 5, true, none, .mov (.c (.int .i64 0))⟩])
   (.block 0 (.loop (.seq (.seq (.region [⟨some 10, false, none, .mov (.t 5)⟩,
         ⟨some 11, true, none, .bin .leq (.u 10) (.c (.int .i64 6))⟩])
      (.cond (.t 11)
       (.skip)
       (.exit 0)))
     (.seq (.block 1 (.seq (.region [⟨some 14, false, none, .mov (.t 0)⟩,
          ⟨some 15, false, none, .mov (.t 5)⟩,
          ⟨some 16, false, none, .call 11 [(.u 14), (.u 15)]⟩,
          ⟨some 17, false, none, .mov (.t 0)⟩,
          ⟨some 18, false, none, .mov (.t 5)⟩,
          ⟨some 19, false, none, .call 12 [(.u 17), (.u 18)]⟩,
          ⟨some 20, false, none, .call 10 [(.u 16), (.u 19)]⟩,
          ⟨some 21, true, none, .un .not (.u 20)⟩])
       (.cond (.t 21)
        (.seq (.region [⟨some 4, true, none, .mov (.c (.bool false))⟩])
        (.ret))
        (.skip))))
     (.region [⟨some 12, false, none, .mov (.t 5)⟩,
       ⟨some 13, false, none, .bin .add (.u 12) (.c (.int .i64 1))⟩,
       ⟨some 5, true, none, .mov (.u 13)⟩]))))))
  (.seq (.region [⟨some 22, false, none, .mov (.t 0)⟩,
     ⟨some 23, false, none, .mov (.t 1)⟩,
     ⟨some 24, false, none, .call 11 [(.u 22), (.u 23)]⟩,
     ⟨some 25, false, none, .mov (.t 0)⟩,
     ⟨some 26, false, none, .mov (.t 1)⟩,
     ⟨some 27, false, none, .call 12 [(.u 25), (.u 26)]⟩,
     ⟨some 28, false, none, .call 10 [(.u 24), (.u 27)]⟩,
     ⟨some 29, false, none, .mov (.u 28)⟩,
     ⟨some 30, false, some ((.u 29), true), .call 9 []⟩,
     ⟨some 31, false, none, .pick (.u 29) (.u 30) (.c (.bool false))⟩,
     ⟨some 4, true, none, .mov (.u 31)⟩])
  (.ret))))
def r3 : List LRes := [.slot 4]
theorem t3 : (Try.f3.body.bind (trCode v3 Try.prog Try.f3.ntmps)) = some c3 ∧ trRes v3 Try.prog Try.f3.results.toList = some r3 := ⟨by kernel_rfl, by kernel_rfl⟩

def v4 : Nat → Bool := fun t => [0, 2, 3, 4, 5, 11, 21].contains t
def c4 : LCode :=
  .seq (.region [⟨some 2, true, none, .mov (.c (.bool false))⟩])
  (.seq (.region [⟨some 6, false, none, .mov (.t 0)⟩,
     ⟨some 7, false, none, .call 13 [(.u 6)]⟩,
     ⟨some 3, true, none, .mov (.u 7)⟩])
  (.seq (.region [⟨some 8, false, none, .mov (.t 3)⟩,
     ⟨some 9, false, none, .call 14 [(.u 8), (.c (.int .i64 14))]⟩,
     ⟨some 4, true, none, .mov (.u 9)⟩])
  (.seq (.seq (.region [⟨some 5, true, none, .mov (.c (.int .i64 1))⟩])
   (.block 0 (.loop (.seq (.seq (.region [⟨some 10, false, none, .mov (.t 5)⟩,
         ⟨some 11, true, none, .bin .leq (.u 10) (.c (.int .i64 5))⟩])
      (.cond (.t 11)
       (.skip)
       (.exit 0)))
     (.seq (.block 1 (.seq (.region [⟨some 14, false, none, .mov (.t 4)⟩,
          ⟨some 15, false, none, .mov (.t 5)⟩,
          ⟨some 16, false, none, .call 11 [(.u 14), (.u 15)]⟩,
          ⟨some 17, false, none, .mov (.t 4)⟩,
          ⟨some 18, false, none, .mov (.t 5)⟩,
          ⟨some 19, false, none, .call 12 [(.u 17), (.u 18)]⟩,
          ⟨some 20, false, none, .call 10 [(.u 16), (.u 19)]⟩,
          ⟨some 21, true, none, .un .not (.u 20)⟩])
       (.cond (.t 21)
        (.seq (.region [⟨some 2, true, none, .mov (.c (.bool false))⟩])
        (.ret))
        (.skip))))
     (.region [⟨some 12, false, none, .mov (.t 5)⟩,
       ⟨some 13, false, none, .bin .add (.u 12) (.c (.int .i64 1))⟩,
       ⟨some 5, true, none, .mov (.u 13)⟩]))))))
  (.seq (.region [⟨some 22, false, none, .call 9 []⟩,
     ⟨some 2, true, none, .mov (.u 22)⟩])
  (.ret)))))
def r4 : List LRes := [.slot 2]
theorem t4 : (Try.f4.body.bind (trCode v4 Try.prog Try.f4.ntmps)) = some c4 ∧ trRes v4 Try.prog Try.f4.results.toList = some r4 := ⟨by kernel_rfl, by kernel_rfl⟩

def v5 : Nat → Bool := fun t => [0, 1, 2, 4, 5, 9, 12, 22].contains t
def c5 : LCode :=
  .seq (.region [⟨some 2, true, none, .box (.t 0)⟩,
     ⟨some 4, true, none, .mov (.c (.bool false))⟩])
  (.seq (.seq (.region [⟨some 6, false, none, .faddr 1 (.t 2)⟩,
      ⟨some 7, false, none, .load false 1 (.u 6)⟩,
      ⟨some 8, false, none, .lenL (.u 7)⟩,
      ⟨some 9, true, none, .bin .gtr (.u 8) (.c (.int .i64 40))⟩])
   (.cond (.t 9)
    (.seq (.region [⟨some 10, false, none, .call 9 []⟩,
       ⟨some 4, true, none, .mov (.u 10)⟩])
    (.ret))
    (.skip)))
  (.seq (.seq (.region [⟨some 5, true, none, .mov (.c (.int .i64 (-1)))⟩])
   (.block 0 (.loop (.seq (.seq (.region [⟨some 11, false, none, .mov (.t 5)⟩,
         ⟨some 12, true, none, .bin .leq (.u 11) (.c (.int .i64 34))⟩])
      (.cond (.t 12)
       (.skip)
       (.exit 0)))
     (.seq (.block 1 (.seq (.regionD [⟨0, [2], true, [], ⟨some 15, false, none, .load true 2 (.t 2)⟩⟩,
          ⟨1, [5], false, [], ⟨some 16, false, none, .mov (.t 5)⟩⟩,
          ⟨3, [2], true, [], ⟨some 18, false, none, .load true 2 (.t 2)⟩⟩,
          ⟨4, [5], false, [], ⟨some 19, false, none, .mov (.t 5)⟩⟩,
          ⟨2, [15, 16], false, [3], ⟨some 17, false, none, .call 16 [(.u 15), (.u 16)]⟩⟩,
          ⟨5, [18, 19], false, [], ⟨some 20, false, none, .call 17 [(.u 18), (.u 19)]⟩⟩,
          ⟨6, [17, 20], false, [], ⟨some 21, false, none, .call 15 [(.u 17), (.u 20)]⟩⟩,
          ⟨7, [21], false, [], ⟨some 22, true, none, .un .not (.u 21)⟩⟩])
       (.cond (.t 22)
        (.seq (.region [⟨some 4, true, none, .mov (.c (.bool false))⟩])
        (.ret))
        (.skip))))
     (.region [⟨some 13, false, none, .mov (.t 5)⟩,
       ⟨some 14, false, none, .bin .add (.u 13) (.c (.int .i64 1))⟩,
       ⟨some 5, true, none, .mov (.u 14)⟩]))))))
  (.seq (.regionD [⟨0, [2], true, [], ⟨some 23, false, none, .load true 2 (.t 2)⟩⟩,
     ⟨1, [1], false, [], ⟨some 24, false, none, .mov (.t 1)⟩⟩,
     ⟨3, [2], true, [], ⟨some 26, false, none, .load true 2 (.t 2)⟩⟩,
     ⟨4, [1], false, [], ⟨some 27, false, none, .mov (.t 1)⟩⟩,
     ⟨2, [23, 24], false, [3], ⟨some 25, false, none, .call 16 [(.u 23), (.u 24)]⟩⟩,
     ⟨5, [26, 27], false, [], ⟨some 28, false, none, .call 17 [(.u 26), (.u 27)]⟩⟩,
     ⟨6, [25, 28], false, [], ⟨some 29, false, none, .call 15 [(.u 25), (.u 28)]⟩⟩,
     ⟨7, [29], false, [], ⟨some 30, false, none, .mov (.u 29)⟩⟩,
     ⟨8, [30], false, [], ⟨some 31, false, some ((.u 30), true), .call 9 []⟩⟩,
     ⟨9, [30, 31], false, [], ⟨some 32, false, none, .pick (.u 30) (.u 31) (.c (.bool false))⟩⟩,
     ⟨10, [32], false, [], ⟨some 4, true, none, .mov (.u 32)⟩⟩])
  (.ret))))
def r5 : List LRes := [.slot 4]
theorem t5 : (Try.f5.body.bind (trCode v5 Try.prog Try.f5.ntmps)) = some c5 ∧ trRes v5 Try.prog Try.f5.results.toList = some r5 := ⟨by kernel_rfl, by kernel_rfl⟩

def v6 : Nat → Bool := fun t => [0, 1, 4, 5, 6, 7, 8, 9, 10, 11, 12, 13, 26, 35, 44, 55, 57, 75].contains t
def c6 : LCode :=
  .seq (.region [⟨some 4, true, none, .mov (.c (.bool false))⟩])
  (.seq (.region [⟨some 14, false, none, .mov (.t 0)⟩,
     ⟨some 15, false, none, .call 13 [(.u 14)]⟩,
     ⟨some 5, true, none, .mov (.u 15)⟩])
  (.seq (.region [⟨some 16, false, none, .mov (.t 5)⟩,
     ⟨some 17, false, none, .call 14 [(.u 16), (.c (.int .i64 12))]⟩,
     ⟨some 18, false, none, .mov (.t 5)⟩,
     ⟨some 19, false, none, .call 18 [(.u 18)]⟩,
     ⟨some 7, true, none, .zero [.int .i64 0, .int .i64 0, .int .i64 0, .int .i64 0, .int .i64 0, .int .i64 0, .int .i64 0, .int .i64 0, .int .i64 0, .int .i64 0, .int .i64 0, .str [], .str [], .fsl 1 0 [], .bool false, .int .i64 0, .int .i64 0, .int .i64 0, .int .i64 0, .int .i64 0, .fsl 1 0 [], .fsl 1 0 [], .int .i64 0, .fsl 1 0 [], .int .i64 0]⟩,
     ⟨some 6, true, none, .mov (.u 17)⟩,
     ⟨none, true, none, .store 25 (.t 7) (.u 19)⟩])
  (.seq (.region [⟨some 20, false, none, .mov (.t 6)⟩,
     ⟨some 21, false, none, .lenL (.u 20)⟩,
     ⟨some 22, false, none, .mov (.t 1)⟩,
     ⟨some 23, false, none, .bin .or (.u 22) (.c (.int .i64 4095))⟩,
     ⟨some 24, false, none, .call 19 [(.u 21), (.u 23)]⟩,
     ⟨some 8, true, none, .mov (.u 24)⟩])
  (.seq (.seq (.region [⟨some 9, true, none, .mov (.c (.int .i64 2))⟩])
   (.block 0 (.loop (.seq (.seq (.region [⟨some 25, false, none, .mov (.t 9)⟩,
         ⟨some 26, true, none, .bin .leq (.u 25) (.c (.int .i64 3))⟩])
      (.cond (.t 26)
       (.skip)
       (.exit 0)))
     (.seq (.block 1 (.seq (.region [⟨some 29, false, none, .mov (.t 6)⟩,
          ⟨some 30, false, none, .mov (.t 9)⟩,
          ⟨some 31, false, none, .call 11 [(.u 29), (.u 30)]⟩,
          ⟨some 10, true, none, .zero [.int .u64 0, .fsl 1 0 []]⟩,
          ⟨none, true, none, .store 2 (.t 10) (.u 31)⟩])
       (.seq (.region [⟨some 11, true, none, .mov (.c (.int .u64 0))⟩])
       (.seq (.seq (.region [⟨some 12, true, none, .mov (.c (.int .i64 0))⟩])
        (.block 2 (.loop (.seq (.seq (.region [⟨some 32, false, none, .mov (.t 12)⟩,
              ⟨some 33, false, none, .mov (.t 6)⟩,
              ⟨some 34, false, none, .lenL (.u 33)⟩,
              ⟨some 35, true, none, .bin .lss (.u 32) (.u 34)⟩])
           (.cond (.t 35)
            (.skip)
            (.exit 2)))
          (.seq (.block 3 (.seq (.region [⟨some 38, false, none, .mov (.t 6)⟩,
               ⟨some 39, false, none, .mov (.t 12)⟩,
               ⟨some 40, false, none, .iaS 8 (.u 38) (.u 39)⟩,
               ⟨some 41, false, none, .faddr 0 (.u 40)⟩,
               ⟨some 42, false, none, .load false 1 (.u 41)⟩,
               ⟨some 43, false, none, .mov (.t 9)⟩,
               ⟨some 44, true, none, .bin .eql (.u 42) (.u 43)⟩])
            (.cond (.t 44)
             (.region [⟨some 45, false, none, .mov (.t 11)⟩,
               ⟨some 46, false, none, .mov (.t 6)⟩,
               ⟨some 47, false, none, .mov (.t 12)⟩,
               ⟨some 48, false, none, .iaS 8 (.u 46) (.u 47)⟩,
               ⟨some 49, false, none, .faddr 2 (.u 48)⟩,
               ⟨some 50, false, none, .load false 1 (.u 49)⟩,
               ⟨some 51, false, none, .bin .or (.u 45) (.u 50)⟩,
               ⟨some 11, true, none, .mov (.u 51)⟩])
             (.skip))))
          (.region [⟨some 36, false, none, .mov (.t 12)⟩,
            ⟨some 37, false, none, .bin .add (.u 36) (.c (.int .i64 1))⟩,
            ⟨some 12, true, none, .mov (.u 37)⟩]))))))
       (.seq (.seq (.region [⟨some 52, false, none, .faddr 0 (.t 10)⟩,
           ⟨some 53, false, none, .load false 1 (.u 52)⟩,
           ⟨some 54, false, none, .mov (.t 11)⟩,
           ⟨some 55, true, none, .bin .neq (.u 53) (.u 54)⟩])
        (.cond (.t 55)
         (.seq (.region [⟨some 4, true, none, .mov (.c (.bool false))⟩])
         (.ret))
         (.skip)))
       (.seq (.region [⟨some 13, true, none, .mov (.c (.int .i64 0))⟩])
       (.block 4 (.loop (.seq (.seq (.region [⟨some 56, false, none, .mov (.t 13)⟩,
             ⟨some 57, true, none, .bin .lss (.u 56) (.c (.int .i64 32))⟩])
          (.cond (.t 57)
           (.skip)
           (.exit 4)))
         (.seq (.block 5 (.seq (.region [⟨some 60, false, none, .mov (.t 13)⟩,
              ⟨some 61, false, none, .faddr 15 (.t 7)⟩,
              ⟨some 62, false, none, .faddr 0 (.u 61)⟩,
              ⟨none, true, none, .store 1 (.u 62) (.u 60)⟩])
           (.seq (.region [⟨some 63, false, none, .faddr 0 (.t 10)⟩,
              ⟨some 64, false, none, .load false 1 (.u 63)⟩,
              ⟨some 65, false, none, .mov (.t 13)⟩,
              ⟨some 66, false, none, .call 20 [(.u 64), (.u 65)]⟩,
              ⟨some 67, false, none, .un .not (.u 66)⟩,
              ⟨some 68, false, none, .mov (.u 67)⟩,
              ⟨some 69, false, some ((.u 68), true), .mov (.t 6)⟩,
              ⟨some 70, false, some ((.u 68), true), .mov (.t 9)⟩,
              ⟨some 71, false, some ((.u 68), true), .mov (.t 8)⟩,
              ⟨some 72, false, some ((.u 68), true), .load true 25 (.t 7)⟩,
              ⟨some 73, false, some ((.u 68), true), .call 21 [(.u 69), (.u 70), (.u 71), (.u 72)]⟩,
              ⟨some 74, false, some ((.u 68), true), .bin .neq (.u 73) (.c (.int .i64 (-1)))⟩,
              ⟨some 75, true, none, .pick (.u 68) (.u 74) (.c (.bool false))⟩])
           (.cond (.t 75)
            (.seq (.region [⟨some 4, true, none, .mov (.c (.bool false))⟩])
            (.ret))
            (.skip)))))
         (.region [⟨some 58, false, none, .mov (.t 13)⟩,
           ⟨some 59, false, none, .bin .add (.u 58) (.c (.int .i64 1))⟩,
           ⟨some 13, true, none, .mov (.u 59)⟩])))))))))))
     (.region [⟨some 27, false, none, .mov (.t 9)⟩,
       ⟨some 28, false, none, .bin .add (.u 27) (.c (.int .i64 1))⟩,
       ⟨some 9, true, none, .mov (.u 28)⟩]))))))
  (.seq (.region [⟨some 76, false, none, .call 9 []⟩,
     ⟨some 4, true, none, .mov (.u 76)⟩])
  (.ret))))))
def r6 : List LRes := [.slot 4]
theorem t6 : (Try.f6.body.bind (trCode v6 Try.prog Try.f6.ntmps)) = some c6 ∧ trRes v6 Try.prog Try.f6.results.toList = some r6 := ⟨by kernel_rfl, by kernel_rfl⟩

def v7 : Nat → Bool := fun t => [0, 1, 2, 3, 6, 7, 8, 9, 10, 11, 12, 16].contains t
def c7 : LCode :=
  .seq (.region [⟨some 3, true, none, .box (.t 0)⟩,
     ⟨some 6, true, none, .mov (.c (.bool false))⟩])
  (.seq (.seq (.region [⟨some 13, false, none, .faddr 1 (.t 3)⟩,
      ⟨some 14, false, none, .load false 1 (.u 13)⟩,
      ⟨some 15, false, none, .lenL (.u 14)⟩,
      ⟨some 16, true, none, .bin .gtr (.u 15) (.c (.int .i64 40))⟩])
   (.cond (.t 16)
    (.seq (.region [⟨some 17, false, none, .call 9 []⟩,
       ⟨some 6, true, none, .mov (.u 17)⟩])
    (.ret))
    (.skip)))
  (.seq (.region [⟨some 18, false, none, .mov (.t 1)⟩,
     ⟨some 19, false, none, .call 13 [(.u 18)]⟩,
     ⟨some 7, true, none, .mov (.u 19)⟩])
  (.seq (.region [⟨some 20, false, none, .mov (.t 7)⟩,
     ⟨some 21, false, none, .call 14 [(.u 20), (.c (.int .i64 8))]⟩,
     ⟨some 22, false, none, .mov (.t 7)⟩,
     ⟨some 23, false, none, .call 18 [(.u 22)]⟩,
     ⟨some 9, true, none, .zero [.int .i64 0, .int .i64 0, .int .i64 0, .int .i64 0, .int .i64 0, .int .i64 0, .int .i64 0, .int .i64 0, .int .i64 0, .int .i64 0, .int .i64 0, .str [], .str [], .fsl 1 0 [], .bool false, .int .i64 0, .int .i64 0, .int .i64 0, .int .i64 0, .int .i64 0, .fsl 1 0 [], .fsl 1 0 [], .int .i64 0, .fsl 1 0 [], .int .i64 0]⟩,
     ⟨some 8, true, none, .mov (.u 21)⟩,
     ⟨none, true, none, .store 25 (.t 9) (.u 23)⟩])
  (.seq (.region [⟨some 24, false, none, .mov (.t 8)⟩,
     ⟨some 25, false, none, .lenL (.u 24)⟩,
     ⟨some 26, false, none, .mov (.t 2)⟩,
     ⟨some 27, false, none, .call 19 [(.u 25), (.u 26)]⟩,
     ⟨some 10, true, none, .mov (.u 27)⟩])
  (.seq (.region [⟨some 28, false, none, .mov (.t 8)⟩,
     ⟨some 29, false, none, .mov (.t 7)⟩,
     ⟨some 30, false, none, .call 22 [(.u 29), (.c (.int .i64 1)), (.c (.int .i64 5))]⟩,
     ⟨some 31, false, none, .call 12 [(.u 28), (.u 30)]⟩,
     ⟨some 11, true, none, .zero [.int .u64 0, .fsl 1 0 []]⟩,
     ⟨none, true, none, .store 2 (.t 11) (.u 31)⟩])
  (.seq (.region [⟨some 32, false, none, .mov (.t 7)⟩,
     ⟨some 33, false, none, .call 22 [(.u 32), (.c (.int .i64 (-1))), (.c (.int .i64 9))]⟩,
     ⟨some 34, false, none, .mov (.t 7)⟩,
     ⟨some 35, false, none, .call 22 [(.u 34), (.c (.int .i64 0)), (.c (.int .i64 3))]⟩,
     ⟨some 36, false, none, .mov (.t 7)⟩,
     ⟨some 37, false, none, .call 22 [(.u 36), (.c (.int .i64 0)), (.c (.int .i64 9))]⟩,
     ⟨some 38, false, none, .mkS 1 3 [.int .i64 0] [(0, 1, (.u 33)), (1, 1, (.u 35)), (2, 1, (.u 37))]⟩,
     ⟨some 39, false, none, .mkS 1 1 [.fsl 1 0 []] [(0, 1, (.u 38))]⟩,
     ⟨some 40, false, none, .build [.int .u64 0, .fsl 1 0 []] [(1, 1, (.u 39))]⟩,
     ⟨some 12, true, none, .zero [.int .u64 0, .fsl 1 0 []]⟩,
     ⟨none, true, none, .store 2 (.t 12) (.u 40)⟩])
  (.seq (.regionD [⟨0, [3], true, [], ⟨some 41, false, none, .load true 2 (.t 3)⟩⟩,
     ⟨1, [8], false, [], ⟨some 42, false, none, .mov (.t 8)⟩⟩,
     ⟨2, [10], false, [], ⟨some 43, false, none, .mov (.t 10)⟩⟩,
     ⟨3, [9], true, [], ⟨some 44, false, none, .load true 25 (.t 9)⟩⟩,
     ⟨5, [3], true, [], ⟨some 46, false, none, .load true 2 (.t 3)⟩⟩,
     ⟨6, [8], false, [], ⟨some 47, false, none, .mov (.t 8)⟩⟩,
     ⟨7, [10], false, [], ⟨some 48, false, none, .mov (.t 10)⟩⟩,
     ⟨8, [9], true, [], ⟨some 49, false, none, .load true 25 (.t 9)⟩⟩,
     ⟨4, [41, 42, 43, 44], false, [8, 5], ⟨some 45, false, none, .call 23 [(.u 41), (.u 42), (.u 43), (.u 44)]⟩⟩,
     ⟨9, [46, 47, 48, 49], false, [], ⟨some 50, false, none, .call 24 [(.u 46), (.u 47), (.u 48), (.u 49)]⟩⟩,
     ⟨10, [45, 50], false, [], ⟨some 51, false, none, .bin .eql (.u 45) (.u 50)⟩⟩,
     ⟨11, [51], false, [], ⟨some 52, false, none, .mov (.u 51)⟩⟩,
     ⟨12, [11, 52], true, [], ⟨some 53, false, some ((.u 52), true), .load true 2 (.t 11)⟩⟩,
     ⟨13, [8, 52], false, [], ⟨some 54, false, some ((.u 52), true), .mov (.t 8)⟩⟩,
     ⟨14, [10, 52], false, [], ⟨some 55, false, some ((.u 52), true), .mov (.t 10)⟩⟩,
     ⟨15, [9, 52], true, [], ⟨some 56, false, some ((.u 52), true), .load true 25 (.t 9)⟩⟩,
     ⟨17, [11, 52], true, [], ⟨some 58, false, some ((.u 52), true), .load true 2 (.t 11)⟩⟩,
     ⟨18, [8, 52], false, [], ⟨some 59, false, some ((.u 52), true), .mov (.t 8)⟩⟩,
     ⟨19, [10, 52], false, [], ⟨some 60, false, some ((.u 52), true), .mov (.t 10)⟩⟩,
     ⟨20, [9, 52], true, [], ⟨some 61, false, some ((.u 52), true), .load true 25 (.t 9)⟩⟩,
     ⟨16, [53, 54, 55, 56, 52], false, [20, 17], ⟨some 57, false, some ((.u 52), true), .call 23 [(.u 53), (.u 54), (.u 55), (.u 56)]⟩⟩,
     ⟨21, [58, 59, 60, 61, 52], false, [], ⟨some 62, false, some ((.u 52), true), .call 24 [(.u 58), (.u 59), (.u 60), (.u 61)]⟩⟩,
     ⟨22, [57, 62, 52], false, [], ⟨some 63, false, some ((.u 52), true), .bin .eql (.u 57) (.u 62)⟩⟩,
     ⟨23, [52, 63], false, [], ⟨some 64, false, none, .pick (.u 52) (.u 63) (.c (.bool false))⟩⟩,
     ⟨24, [64], false, [], ⟨some 65, false, none, .mov (.u 64)⟩⟩,
     ⟨25, [12, 65], true, [], ⟨some 66, false, some ((.u 65), true), .load true 2 (.t 12)⟩⟩,
     ⟨26, [8, 65], false, [], ⟨some 67, false, some ((.u 65), true), .mov (.t 8)⟩⟩,
     ⟨27, [10, 65], false, [], ⟨some 68, false, some ((.u 65), true), .mov (.t 10)⟩⟩,
     ⟨28, [9, 65], true, [], ⟨some 69, false, some ((.u 65), true), .load true 25 (.t 9)⟩⟩,
     ⟨30, [12, 65], true, [], ⟨some 71, false, some ((.u 65), true), .load true 2 (.t 12)⟩⟩,
     ⟨31, [8, 65], false, [], ⟨some 72, false, some ((.u 65), true), .mov (.t 8)⟩⟩,
     ⟨32, [10, 65], false, [], ⟨some 73, false, some ((.u 65), true), .mov (.t 10)⟩⟩,
     ⟨33, [9, 65], true, [], ⟨some 74, false, some ((.u 65), true), .load true 25 (.t 9)⟩⟩,
     ⟨29, [66, 67, 68, 69, 65], false, [33, 30], ⟨some 70, false, some ((.u 65), true), .call 23 [(.u 66), (.u 67), (.u 68), (.u 69)]⟩⟩,
     ⟨34, [71, 72, 73, 74, 65], false, [], ⟨some 75, false, some ((.u 65), true), .call 24 [(.u 71), (.u 72), (.u 73), (.u 74)]⟩⟩,
     ⟨35, [70, 75, 65], false, [], ⟨some 76, false, some ((.u 65), true), .bin .eql (.u 70) (.u 75)⟩⟩,
     ⟨36, [65, 76], false, [], ⟨some 77, false, none, .pick (.u 65) (.u 76) (.c (.bool false))⟩⟩,
     ⟨37, [77], false, [], ⟨some 78, false, none, .mov (.u 77)⟩⟩,
     ⟨38, [78], false, [], ⟨some 79, false, some ((.u 78), true), .call 9 []⟩⟩,
     ⟨39, [78, 79], false, [], ⟨some 80, false, none, .pick (.u 78) (.u 79) (.c (.bool false))⟩⟩,
     ⟨40, [80], false, [], ⟨some 6, true, none, .mov (.u 80)⟩⟩])
  (.ret))))))))
def r7 : List LRes := [.slot 6]
theorem t7 : (Try.f7.body.bind (trCode v7 Try.prog Try.f7.ntmps)) = some c7 ∧ trRes v7 Try.prog Try.f7.results.toList = some r7 := ⟨by kernel_rfl, by kernel_rfl⟩

def v8 : Nat → Bool := fun t => [0, 1, 4, 5, 6, 7, 8, 9, 10, 22, 29, 44].contains t
def c8 : LCode :=
  .seq (.region [⟨some 4, true, none, .mov (.c (.bool false))⟩])
  (.seq (.region [⟨some 11, false, none, .mov (.t 0)⟩,
     ⟨some 12, false, none, .call 13 [(.u 11)]⟩,
     ⟨some 5, true, none, .mov (.u 12)⟩])
  (.seq (.region [⟨some 13, false, none, .mov (.t 5)⟩,
     ⟨some 14, false, none, .call 14 [(.u 13), (.c (.int .i64 14))]⟩,
     ⟨some 15, false, none, .mov (.t 5)⟩,
     ⟨some 16, false, none, .call 18 [(.u 15)]⟩,
     ⟨some 7, true, none, .zero [.int .i64 0, .int .i64 0, .int .i64 0, .int .i64 0, .int .i64 0, .int .i64 0, .int .i64 0, .int .i64 0, .int .i64 0, .int .i64 0, .int .i64 0, .str [], .str [], .fsl 1 0 [], .bool false, .int .i64 0, .int .i64 0, .int .i64 0, .int .i64 0, .int .i64 0, .fsl 1 0 [], .fsl 1 0 [], .int .i64 0, .fsl 1 0 [], .int .i64 0]⟩,
     ⟨some 6, true, none, .mov (.u 14)⟩,
     ⟨none, true, none, .store 25 (.t 7) (.u 16)⟩])
  (.seq (.region [⟨some 17, false, none, .mov (.t 6)⟩,
     ⟨some 18, false, none, .lenL (.u 17)⟩,
     ⟨some 19, false, none, .mov (.t 1)⟩,
     ⟨some 20, false, none, .call 19 [(.u 18), (.u 19)]⟩,
     ⟨some 8, true, none, .mov (.u 20)⟩])
  (.seq (.seq (.region [⟨some 9, true, none, .mov (.c (.int .i64 0))⟩])
   (.block 0 (.loop (.seq (.seq (.region [⟨some 21, false, none, .mov (.t 9)⟩,
         ⟨some 22, true, none, .bin .lss (.u 21) (.c (.int .i64 32))⟩])
      (.cond (.t 22)
       (.skip)
       (.exit 0)))
     (.seq (.block 1 (.seq (.region [⟨some 25, false, none, .mov (.t 9)⟩,
          ⟨some 26, false, none, .faddr 15 (.t 7)⟩,
          ⟨some 27, false, none, .faddr 0 (.u 26)⟩,
          ⟨none, true, none, .store 1 (.u 27) (.u 25)⟩])
       (.seq (.region [⟨some 10, true, none, .mov (.c (.int .i64 1))⟩])
       (.block 2 (.loop (.seq (.seq (.region [⟨some 28, false, none, .mov (.t 10)⟩,
             ⟨some 29, true, none, .bin .leq (.u 28) (.c (.int .i64 5))⟩])
          (.cond (.t 29)
           (.skip)
           (.exit 2)))
         (.seq (.block 3 (.seq (.regionD [⟨0, [6], false, [], ⟨some 32, false, none, .mov (.t 6)⟩⟩,
              ⟨1, [10], false, [], ⟨some 33, false, none, .mov (.t 10)⟩⟩,
              ⟨3, [6], false, [], ⟨some 35, false, none, .mov (.t 6)⟩⟩,
              ⟨4, [8], false, [], ⟨some 36, false, none, .mov (.t 8)⟩⟩,
              ⟨5, [7], true, [], ⟨some 37, false, none, .load true 25 (.t 7)⟩⟩,
              ⟨7, [6], false, [], ⟨some 39, false, none, .mov (.t 6)⟩⟩,
              ⟨8, [10], false, [], ⟨some 40, false, none, .mov (.t 10)⟩⟩,
              ⟨9, [8], false, [], ⟨some 41, false, none, .mov (.t 8)⟩⟩,
              ⟨10, [7], true, [], ⟨some 42, false, none, .load true 25 (.t 7)⟩⟩,
              ⟨2, [32, 33], false, [10, 5], ⟨some 34, false, none, .call 11 [(.u 32), (.u 33)]⟩⟩,
              ⟨6, [34, 35, 36, 37], false, [10], ⟨some 38, false, none, .call 23 [(.u 34), (.u 35), (.u 36), (.u 37)]⟩⟩,
              ⟨11, [39, 40, 41, 42], false, [], ⟨some 43, false, none, .call 21 [(.u 39), (.u 40), (.u 41), (.u 42)]⟩⟩,
              ⟨12, [38, 43], false, [], ⟨some 44, true, none, .bin .neq (.u 38) (.u 43)⟩⟩])
           (.cond (.t 44)
            (.seq (.region [⟨some 4, true, none, .mov (.c (.bool false))⟩])
            (.ret))
            (.skip))))
         (.region [⟨some 30, false, none, .mov (.t 10)⟩,
           ⟨some 31, false, none, .bin .add (.u 30) (.c (.int .i64 1))⟩,
           ⟨some 10, true, none, .mov (.u 31)⟩]))))))))
     (.region [⟨some 23, false, none, .mov (.t 9)⟩,
       ⟨some 24, false, none, .bin .add (.u 23) (.c (.int .i64 1))⟩,
       ⟨some 9, true, none, .mov (.u 24)⟩]))))))
  (.seq (.region [⟨some 45, false, none, .call 9 []⟩,
     ⟨some 4, true, none, .mov (.u 45)⟩])
  (.ret))))))
def r8 : List LRes := [.slot 4]
theorem t8 : (Try.f8.body.bind (trCode v8 Try.prog Try.f8.ntmps)) = some c8 ∧ trRes v8 Try.prog Try.f8.results.toList = some r8 := ⟨by kernel_rfl, by kernel_rfl⟩

def v9 : Nat → Bool := fun t => [0, 1, 2].contains t
def c9 : LCode :=
  .seq (.region [⟨some 0, true, none, .mov (.c (.bool false))⟩])
  (.seq (.region [⟨some 3, false, none, .build [.int .i64 0, .int .i64 0, .int .u64 0, .fsl 1 0 [], .int .i64 0, .str [], .int .i64 0, .str []] [(0, 1, (.c (.int .i64 3))), (1, 1, (.c (.int .i64 1))), (2, 1, (.c (.int .u64 7)))]⟩,
     ⟨some 4, false, none, .build [.int .i64 0, .int .i64 0, .int .u64 0, .fsl 1 0 [], .int .i64 0, .str [], .int .i64 0, .str []] [(0, 1, (.c (.int .i64 3))), (1, 1, (.c (.int .i64 2))), (2, 1, (.c (.int .u64 4)))]⟩,
     ⟨some 5, false, none, .mkS 8 2 [.int .i64 0, .int .i64 0, .int .u64 0, .fsl 1 0 [], .int .i64 0, .str [], .int .i64 0, .str []] [(0, 8, (.u 3)), (8, 8, (.u 4))]⟩,
     ⟨some 1, true, none, .mov (.u 5)⟩])
  (.seq (.region [⟨some 6, false, none, .mov (.t 1)⟩,
     ⟨some 7, false, none, .call 11 [(.u 6), (.c (.int .i64 3))]⟩,
     ⟨some 2, true, none, .zero [.int .u64 0, .fsl 1 0 []]⟩,
     ⟨none, true, none, .store 2 (.t 2) (.u 7)⟩])
  (.seq (.region [⟨some 8, false, none, .faddr 0 (.t 2)⟩,
     ⟨some 9, false, none, .load false 1 (.u 8)⟩,
     ⟨some 10, false, none, .bin .eql (.u 9) (.c (.int .u64 7))⟩,
     ⟨some 11, false, none, .mov (.u 10)⟩,
     ⟨some 12, false, some ((.u 11), true), .load true 2 (.t 2)⟩,
     ⟨some 13, false, some ((.u 11), true), .call 16 [(.u 12), (.c (.int .i64 2))]⟩,
     ⟨some 14, false, some ((.u 11), true), .lenL (.u 13)⟩,
     ⟨some 15, false, some ((.u 11), true), .bin .eql (.u 14) (.c (.int .i64 2))⟩,
     ⟨some 16, false, none, .pick (.u 11) (.u 15) (.c (.bool false))⟩,
     ⟨some 17, false, none, .mov (.u 16)⟩,
     ⟨some 18, false, some ((.u 17), true), .load true 2 (.t 2)⟩,
     ⟨some 19, false, some ((.u 17), true), .call 16 [(.u 18), (.c (.int .i64 0))]⟩,
     ⟨some 20, false, some ((.u 17), true), .lenL (.u 19)⟩,
     ⟨some 21, false, some ((.u 17), true), .bin .eql (.u 20) (.c (.int .i64 1))⟩,
     ⟨some 22, false, none, .pick (.u 17) (.u 21) (.c (.bool false))⟩,
     ⟨some 23, false, none, .mov (.u 22)⟩,
     ⟨some 24, false, some ((.u 23), true), .load true 2 (.t 2)⟩,
     ⟨some 25, false, some ((.u 23), true), .call 16 [(.u 24), (.c (.int .i64 3))]⟩,
     ⟨some 26, false, some ((.u 23), true), .lenL (.u 25)⟩,
     ⟨some 27, false, some ((.u 23), true), .bin .eql (.u 26) (.c (.int .i64 0))⟩,
     ⟨some 28, false, none, .pick (.u 23) (.u 27) (.c (.bool false))⟩,
     ⟨some 0, true, none, .mov (.u 28)⟩])
  (.ret))))
def r9 : List LRes := [.slot 0]
theorem t9 : (Try.f9.body.bind (trCode v9 Try.prog Try.f9.ntmps)) = some c9 ∧ trRes v9 Try.prog Try.f9.results.toList = some r9 := ⟨by kernel_rfl, by kernel_rfl⟩

def v10 : Nat → Bool := fun t => [0, 1, 2, 3, 4, 5, 19, 24, 38].contains t
def c10 : LCode :=
  .seq (.region [⟨some 2, true, none, .box (.t 0)⟩,
     ⟨some 3, true, none, .box (.t 1)⟩,
     ⟨some 4, true, none, .mov (.c (.bool false))⟩])
  (.seq (.seq (.region [⟨some 6, false, none, .faddr 0 (.t 2)⟩,
      ⟨some 7, false, none, .load false 1 (.u 6)⟩,
      ⟨some 8, false, none, .faddr 0 (.t 3)⟩,
      ⟨some 9, false, none, .load false 1 (.u 8)⟩,
      ⟨some 10, false, none, .bin .neq (.u 7) (.u 9)⟩,
      ⟨some 11, false, none, .mov (.u 10)⟩,
      ⟨some 12, false, some ((.u 11), false), .faddr 1 (.t 2)⟩,
      ⟨some 13, false, some ((.u 11), false), .load false 1 (.u 12)⟩,
      ⟨some 14, false, some ((.u 11), false), .lenL (.u 13)⟩,
      ⟨some 15, false, some ((.u 11), false), .faddr 1 (.t 3)⟩,
      ⟨some 16, false, some ((.u 11), false), .load false 1 (.u 15)⟩,
      ⟨some 17, false, some ((.u 11), false), .lenL (.u 16)⟩,
      ⟨some 18, false, some ((.u 11), false), .bin .neq (.u 14) (.u 17)⟩,
      ⟨some 19, true, none, .pick (.u 11) (.c (.bool true)) (.u 18)⟩])
   (.cond (.t 19)
    (.seq (.region [⟨some 4, true, none, .mov (.c (.bool false))⟩])
    (.ret))
    (.skip)))
  (.seq (.seq (.region [⟨some 5, true, none, .mov (.c (.int .i64 0))⟩])
   (.block 0 (.loop (.seq (.seq (.region [⟨some 20, false, none, .mov (.t 5)⟩,
         ⟨some 21, false, none, .faddr 1 (.t 2)⟩,
         ⟨some 22, false, none, .load false 1 (.u 21)⟩,
         ⟨some 23, false, none, .lenL (.u 22)⟩,
         ⟨some 24, true, none, .bin .lss (.u 20) (.u 23)⟩])
      (.cond (.t 24)
       (.skip)
       (.exit 0)))
     (.seq (.block 1 (.seq (.regionD [⟨0, [2], false, [], ⟨some 27, false, none, .faddr 1 (.t 2)⟩⟩,
          ⟨1, [27], true, [], ⟨some 28, false, none, .load false 1 (.u 27)⟩⟩,
          ⟨2, [5], false, [], ⟨some 29, false, none, .mov (.t 5)⟩⟩,
          ⟨3, [28, 29], false, [], ⟨some 30, false, none, .iaS 1 (.u 28) (.u 29)⟩⟩,
          ⟨4, [30], true, [], ⟨some 31, false, none, .load false 1 (.u 30)⟩⟩,
          ⟨5, [3], false, [], ⟨some 32, false, none, .faddr 1 (.t 3)⟩⟩,
          ⟨6, [32], true, [], ⟨some 33, false, none, .load false 1 (.u 32)⟩⟩,
          ⟨7, [5], false, [], ⟨some 34, false, none, .mov (.t 5)⟩⟩,
          ⟨8, [33, 34], false, [], ⟨some 35, false, none, .iaS 1 (.u 33) (.u 34)⟩⟩,
          ⟨9, [35], true, [], ⟨some 36, false, none, .load false 1 (.u 35)⟩⟩,
          ⟨10, [31, 36], false, [], ⟨some 37, false, none, .call 15 [(.u 31), (.u 36)]⟩⟩,
          ⟨11, [37], false, [], ⟨some 38, true, none, .un .not (.u 37)⟩⟩])
       (.cond (.t 38)
        (.seq (.region [⟨some 4, true, none, .mov (.c (.bool false))⟩])
        (.ret))
        (.skip))))
     (.region [⟨some 25, false, none, .mov (.t 5)⟩,
       ⟨some 26, false, none, .bin .add (.u 25) (.c (.int .i64 1))⟩,
       ⟨some 5, true, none, .mov (.u 26)⟩]))))))
  (.seq (.region [⟨some 4, true, none, .mov (.c (.bool true))⟩])
  (.ret))))
def r10 : List LRes := [.slot 4]
theorem t10 : (Try.f10.body.bind (trCode v10 Try.prog Try.f10.ntmps)) = some c10 ∧ trRes v10 Try.prog Try.f10.results.toList = some r10 := ⟨by kernel_rfl, by kernel_rfl⟩

def v11 : Nat → Bool := fun t => [0, 1, 4, 5, 6, 7, 8, 14, 19, 20, 21, 29].contains t
def c11 : LCode :=
  .seq (.region [⟨some 4, true, none, .zero [.int .u64 0, .fsl 1 0 []]⟩])
  (.seq (.seq (.region [⟨some 7, true, none, .mov (.t 1)⟩])
   (.block 0 (.seq (.seq (.region [⟨some 9, false, none, .bin .eql (.t 7) (.c (.int .i64 2))⟩,
        ⟨some 8, true, none, .mov (.u 9)⟩])
     (.cond (.t 8)
      (.skip)
      (.region [⟨some 10, false, none, .bin .eql (.t 7) (.c (.int .i64 3))⟩,
        ⟨some 8, true, none, .mov (.u 10)⟩])))
    (.cond (.t 8)
     (.seq (.region [⟨some 11, false, none, .mov (.t 0)⟩,
        ⟨some 12, false, none, .mov (.t 1)⟩,
        ⟨some 13, false, none, .call 25 [(.u 11), (.u 12)]⟩,
        ⟨none, true, none, .store 2 (.t 4) (.u 13)⟩])
     (.ret))
     (.seq (.seq (.region [⟨some 15, false, none, .bin .eql (.t 7) (.c (.int .i64 1))⟩,
         ⟨some 14, true, none, .mov (.u 15)⟩])
      (.cond (.t 14)
       (.skip)
       (.seq (.region [⟨some 16, false, none, .bin .eql (.t 7) (.c (.int .i64 4))⟩,
          ⟨some 14, true, none, .mov (.u 16)⟩])
       (.cond (.t 14)
        (.skip)
        (.region [⟨some 17, false, none, .bin .eql (.t 7) (.c (.int .i64 5))⟩,
          ⟨some 14, true, none, .mov (.u 17)⟩])))))
     (.cond (.t 14)
      (.seq (.region [⟨some 5, true, none, .mov (.c (.fsl 1 0 []))⟩])
      (.seq (.seq (.region [⟨some 18, false, none, .mov (.t 0)⟩,
          ⟨some 19, true, none, .lenL (.u 18)⟩,
          ⟨some 20, true, none, .mov (.c (.int .i64 0))⟩])
       (.block 1 (.loop (.seq (.region [⟨some 21, true, none, .bin .lss (.t 20) (.t 19)⟩])
         (.seq (.cond (.t 21)
           (.skip)
           (.exit 1))
         (.seq (.block 2 (.seq (.region [⟨some 22, false, none, .mov (.t 20)⟩,
              ⟨some 6, true, none, .mov (.u 22)⟩])
           (.seq (.region [⟨some 23, false, none, .mov (.t 0)⟩,
              ⟨some 24, false, none, .mov (.t 6)⟩,
              ⟨some 25, false, none, .iaS 8 (.u 23) (.u 24)⟩,
              ⟨some 26, false, none, .faddr 0 (.u 25)⟩,
              ⟨some 27, false, none, .load false 1 (.u 26)⟩,
              ⟨some 28, false, none, .mov (.t 1)⟩,
              ⟨some 29, true, none, .bin .eql (.u 27) (.u 28)⟩])
           (.cond (.t 29)
            (.region [⟨some 30, false, none, .mov (.t 5)⟩,
              ⟨some 31, false, none, .mov (.t 6)⟩,
              ⟨some 32, false, none, .mkS 1 1 [.int .i64 0] [(0, 1, (.u 31))]⟩,
              ⟨some 33, false, none, .app 1 8 (.u 30) (.u 32)⟩,
              ⟨some 5, true, none, .mov (.u 33)⟩])
            (.skip)))))
         (.region [⟨some 34, false, none, .bin .add (.t 20) (.c (.int .i64 1))⟩,
           ⟨some 20, true, none, .mov (.u 34)⟩])))))))
      (.seq (.region [⟨some 35, false, none, .mov (.t 5)⟩,
         ⟨some 36, false, none, .mkS 1 1 [.fsl 1 0 []] [(0, 1, (.u 35))]⟩,
         ⟨some 37, false, none, .build [.int .u64 0, .fsl 1 0 []] [(1, 1, (.u 36))]⟩,
         ⟨none, true, none, .store 2 (.t 4) (.u 37)⟩])
      (.ret))))
      (.skip)))))))
  (.seq (.region [⟨some 38, false, none, .build [.int .u64 0, .fsl 1 0 []] []⟩,
     ⟨none, true, none, .store 2 (.t 4) (.u 38)⟩])
  (.ret)))
def r11 : List LRes := [.cell true 2 4]
theorem t11 : (Try.f11.body.bind (trCode v11 Try.prog Try.f11.ntmps)) = some c11 ∧ trRes v11 Try.prog Try.f11.results.toList = some r11 := ⟨by kernel_rfl, by kernel_rfl⟩

def v12 : Nat → Bool := fun t => [0, 1, 4, 5, 6, 7, 8, 9, 10, 11, 12, 16, 22, 40, 53, 61, 68, 77].contains t
def c12 : LCode :=
  .seq (.region [⟨some 4, true, none, .zero [.int .u64 0, .fsl 1 0 []]⟩])
  (.seq (.region [⟨some 5, true, none, .zero [.int .u64 0, .fsl 1 0 []]⟩])
  (.seq (.seq (.region [⟨some 11, true, none, .mov (.t 1)⟩])
   (.block 0 (.seq (.seq (.region [⟨some 13, false, none, .bin .eql (.t 11) (.c (.int .i64 2))⟩,
        ⟨some 12, true, none, .mov (.u 13)⟩])
     (.cond (.t 12)
      (.skip)
      (.region [⟨some 14, false, none, .bin .eql (.t 11) (.c (.int .i64 3))⟩,
        ⟨some 12, true, none, .mov (.u 14)⟩])))
    (.cond (.t 12)
     (.seq (.region [⟨some 6, true, none, .mov (.c (.int .i64 0))⟩])
     (.block 1 (.loop (.seq (.seq (.region [⟨some 15, false, none, .mov (.t 6)⟩,
           ⟨some 16, true, none, .bin .lss (.u 15) (.c (.int .i64 32))⟩])
        (.cond (.t 16)
         (.skip)
         (.exit 1)))
       (.seq (.block 2 (.seq (.region [⟨some 7, true, none, .mov (.c (.fsl 1 0 []))⟩])
         (.seq (.seq (.region [⟨some 8, true, none, .mov (.c (.int .i64 0))⟩])
          (.block 3 (.loop (.seq (.seq (.region [⟨some 19, false, none, .mov (.t 8)⟩,
                ⟨some 20, false, none, .mov (.t 0)⟩,
                ⟨some 21, false, none, .lenL (.u 20)⟩,
                ⟨some 22, true, none, .bin .lss (.u 19) (.u 21)⟩])
             (.cond (.t 22)
              (.skip)
              (.exit 3)))
            (.seq (.block 4 (.seq (.region [⟨some 25, false, none, .mov (.t 0)⟩,
                 ⟨some 26, false, none, .mov (.t 8)⟩,
                 ⟨some 27, false, none, .iaS 8 (.u 25) (.u 26)⟩,
                 ⟨some 28, false, none, .faddr 0 (.u 27)⟩,
                 ⟨some 29, false, none, .load false 1 (.u 28)⟩,
                 ⟨some 30, false, none, .mov (.t 1)⟩,
                 ⟨some 31, false, none, .bin .eql (.u 29) (.u 30)⟩,
                 ⟨some 32, false, none, .mov (.u 31)⟩,
                 ⟨some 33, false, some ((.u 32), true), .mov (.t 0)⟩,
                 ⟨some 34, false, some ((.u 32), true), .mov (.t 8)⟩,
                 ⟨some 35, false, some ((.u 32), true), .iaS 8 (.u 33) (.u 34)⟩,
                 ⟨some 36, false, some ((.u 32), true), .faddr 2 (.u 35)⟩,
                 ⟨some 37, false, some ((.u 32), true), .load false 1 (.u 36)⟩,
                 ⟨some 38, false, some ((.u 32), true), .mov (.t 6)⟩,
                 ⟨some 39, false, some ((.u 32), true), .call 20 [(.u 37), (.u 38)]⟩,
                 ⟨some 40, true, none, .pick (.u 32) (.u 39) (.c (.bool false))⟩])
              (.cond (.t 40)
               (.region [⟨some 41, false, none, .mov (.t 7)⟩,
                 ⟨some 42, false, none, .mov (.t 8)⟩,
                 ⟨some 43, false, none, .mkS 1 1 [.int .i64 0] [(0, 1, (.u 42))]⟩,
                 ⟨some 44, false, none, .app 1 8 (.u 41) (.u 43)⟩,
                 ⟨some 7, true, none, .mov (.u 44)⟩])
               (.skip))))
            (.region [⟨some 23, false, none, .mov (.t 8)⟩,
              ⟨some 24, false, none, .bin .add (.u 23) (.c (.int .i64 1))⟩,
              ⟨some 8, true, none, .mov (.u 24)⟩]))))))
         (.seq (.region [⟨some 45, false, none, .faddr 1 (.t 5)⟩,
            ⟨some 46, false, none, .load false 1 (.u 45)⟩,
            ⟨some 47, false, none, .mov (.t 7)⟩,
            ⟨some 48, false, none, .mkS 1 1 [.fsl 1 0 []] [(0, 1, (.u 47))]⟩,
            ⟨some 49, false, none, .app 1 24 (.u 46) (.u 48)⟩,
            ⟨some 50, false, none, .faddr 1 (.t 5)⟩,
            ⟨none, true, none, .store 1 (.u 50) (.u 49)⟩])
         (.seq (.region [⟨some 51, false, none, .mov (.t 7)⟩,
            ⟨some 52, false, none, .lenL (.u 51)⟩,
            ⟨some 53, true, none, .bin .gtr (.u 52) (.c (.int .i64 0))⟩])
         (.cond (.t 53)
          (.region [⟨some 54, false, none, .faddr 0 (.t 5)⟩,
            ⟨some 55, false, none, .load false 1 (.u 54)⟩,
            ⟨some 56, false, none, .mov (.t 6)⟩,
            ⟨some 57, false, none, .conv .u64 (.u 56)⟩,
            ⟨some 58, false, none, .bin .shl (.c (.int .u64 1)) (.u 57)⟩,
            ⟨some 59, false, none, .bin .or (.u 55) (.u 58)⟩,
            ⟨some 60, false, none, .faddr 0 (.t 5)⟩,
            ⟨none, true, none, .store 1 (.u 60) (.u 59)⟩])
          (.skip)))))))
       (.region [⟨some 17, false, none, .mov (.t 6)⟩,
         ⟨some 18, false, none, .bin .add (.u 17) (.c (.int .i64 1))⟩,
         ⟨some 6, true, none, .mov (.u 18)⟩]))))))
     (.seq (.seq (.region [⟨some 62, false, none, .bin .eql (.t 11) (.c (.int .i64 1))⟩,
         ⟨some 61, true, none, .mov (.u 62)⟩])
      (.cond (.t 61)
       (.skip)
       (.seq (.region [⟨some 63, false, none, .bin .eql (.t 11) (.c (.int .i64 4))⟩,
          ⟨some 61, true, none, .mov (.u 63)⟩])
       (.cond (.t 61)
        (.skip)
        (.region [⟨some 64, false, none, .bin .eql (.t 11) (.c (.int .i64 5))⟩,
          ⟨some 61, true, none, .mov (.u 64)⟩])))))
     (.cond (.t 61)
      (.seq (.region [⟨some 9, true, none, .mov (.c (.fsl 1 0 []))⟩])
      (.seq (.seq (.region [⟨some 10, true, none, .mov (.c (.int .i64 0))⟩])
       (.block 5 (.loop (.seq (.seq (.region [⟨some 65, false, none, .mov (.t 10)⟩,
             ⟨some 66, false, none, .mov (.t 0)⟩,
             ⟨some 67, false, none, .lenL (.u 66)⟩,
             ⟨some 68, true, none, .bin .lss (.u 65) (.u 67)⟩])
          (.cond (.t 68)
           (.skip)
           (.exit 5)))
         (.seq (.block 6 (.seq (.region [⟨some 71, false, none, .mov (.t 0)⟩,
              ⟨some 72, false, none, .mov (.t 10)⟩,
              ⟨some 73, false, none, .iaS 8 (.u 71) (.u 72)⟩,
              ⟨some 74, false, none, .faddr 0 (.u 73)⟩,
              ⟨some 75, false, none, .load false 1 (.u 74)⟩,
              ⟨some 76, false, none, .mov (.t 1)⟩,
              ⟨some 77, true, none, .bin .eql (.u 75) (.u 76)⟩])
           (.cond (.t 77)
            (.region [⟨some 78, false, none, .mov (.t 9)⟩,
              ⟨some 79, false, none, .mov (.t 10)⟩,
              ⟨some 80, false, none, .mkS 1 1 [.int .i64 0] [(0, 1, (.u 79))]⟩,
              ⟨some 81, false, none, .app 1 8 (.u 78) (.u 80)⟩,
              ⟨some 9, true, none, .mov (.u 81)⟩])
            (.skip))))
         (.region [⟨some 69, false, none, .mov (.t 10)⟩,
           ⟨some 70, false, none, .bin .add (.u 69) (.c (.int .i64 1))⟩,
           ⟨some 10, true, none, .mov (.u 70)⟩]))))))
      (.region [⟨some 82, false, none, .faddr 1 (.t 5)⟩,
        ⟨some 83, false, none, .load false 1 (.u 82)⟩,
        ⟨some 84, false, none, .mov (.t 9)⟩,
        ⟨some 85, false, none, .mkS 1 1 [.fsl 1 0 []] [(0, 1, (.u 84))]⟩,
        ⟨some 86, false, none, .app 1 24 (.u 83) (.u 85)⟩,
        ⟨some 87, false, none, .faddr 1 (.t 5)⟩,
        ⟨none, true, none, .store 1 (.u 87) (.u 86)⟩])))
      (.skip)))))))
  (.seq (.region [⟨some 88, false, none, .load true 2 (.t 5)⟩,
     ⟨none, true, none, .store 2 (.t 4) (.u 88)⟩])
  (.ret))))
def r12 : List LRes := [.cell true 2 4]
theorem t12 : (Try.f12.body.bind (trCode v12 Try.prog Try.f12.ntmps)) = some c12 ∧ trRes v12 Try.prog Try.f12.results.toList = some r12 := ⟨by kernel_rfl, by kernel_rfl⟩

def v13 : Nat → Bool := fun t => [0, 2].contains t
def c13 : LCode :=
  .seq (.region [⟨some 2, true, none, .mov (.c (.nil))⟩])
  (.seq (.region [⟨some 3, false, none, .mov (.t 0)⟩,
     ⟨some 4, false, none, .build [.fsl 1 0 [], .int .i64 0] [(0, 1, (.u 3))]⟩,
     ⟨some 5, false, none, .box (.u 4)⟩,
     ⟨some 2, true, none, .mov (.u 5)⟩])
  (.ret))
def r13 : List LRes := [.slot 2]
theorem t13 : (Try.f13.body.bind (trCode v13 Try.prog Try.f13.ntmps)) = some c13 ∧ trRes v13 Try.prog Try.f13.results.toList = some r13 := ⟨by kernel_rfl, by kernel_rfl⟩

def v14 : Nat → Bool := fun t => [0, 1, 4, 5, 6, 7, 8, 14, 28].contains t
def c14 : LCode :=
  .seq (.region [⟨some 4, true, none, .mov (.c (.fsl 1 0 []))⟩])
  (.seq (.region [⟨some 5, true, none, .mov (.c (.fsl 1 0 []))⟩])
  (.seq (.seq (.region [⟨some 9, false, none, .mov (.t 0)⟩,
      ⟨some 10, false, none, .mov (.t 1)⟩,
      ⟨some 11, false, none, .bin .add (.u 10) (.c (.int .i64 1))⟩,
      ⟨some 12, false, none, .call 26 [(.u 9), (.u 11)]⟩,
      ⟨some 6, true, none, .mov (.u 12)⟩])
   (.block 0 (.loop (.seq (.seq (.region [⟨some 13, false, none, .mov (.t 6)⟩,
         ⟨some 14, true, none, .bin .gtr (.u 13) (.c (.int .i64 0))⟩])
      (.cond (.t 14)
       (.skip)
       (.exit 0)))
     (.seq (.block 1 (.seq (.region [⟨some 18, false, none, .mov (.t 5)⟩,
          ⟨some 19, false, none, .mov (.t 0)⟩,
          ⟨some 20, false, none, .call 28 [(.u 19)]⟩,
          ⟨some 21, false, none, .mov (.t 0)⟩,
          ⟨some 22, false, none, .call 26 [(.u 21), (.c (.int .i64 4))]⟩,
          ⟨some 23, false, none, .bin .eql (.u 22) (.c (.int .i64 0))⟩,
          ⟨some 24, false, none, .call 27 [(.u 18), (.u 20), (.u 23)]⟩,
          ⟨some 17, false, none, .mov (.u 24)⟩,
          ⟨some 25, false, none, .ext (.u 17) 0⟩,
          ⟨some 26, false, none, .ext (.u 17) 1⟩,
          ⟨some 7, true, none, .mov (.u 25)⟩,
          ⟨some 8, true, none, .mov (.u 26)⟩])
       (.seq (.region [⟨some 27, false, none, .mov (.t 8)⟩,
          ⟨some 28, true, none, .bin .eql (.u 27) (.c (.int .i64 0))⟩])
       (.cond (.t 28)
        (.region [⟨some 29, false, none, .mov (.t 7)⟩,
          ⟨some 5, true, none, .mov (.u 29)⟩])
        (.skip)))))
     (.region [⟨some 15, false, none, .mov (.t 6)⟩,
       ⟨some 16, false, none, .bin .sub (.u 15) (.c (.int .i64 1))⟩,
       ⟨some 6, true, none, .mov (.u 16)⟩]))))))
  (.seq (.region [⟨some 30, false, none, .mov (.t 5)⟩,
     ⟨some 4, true, none, .mov (.u 30)⟩])
  (.ret))))
def r14 : List LRes := [.slot 4]
theorem t14 : (Try.f14.body.bind (trCode v14 Try.prog Try.f14.ntmps)) = some c14 ∧ trRes v14 Try.prog Try.f14.results.toList = some r14 := ⟨by kernel_rfl, by kernel_rfl⟩

def v15 : Nat → Bool := fun t => [0, 1, 4, 5, 10, 14, 25].contains t
def c15 : LCode :=
  .seq (.region [⟨some 4, true, none, .mov (.c (.bool false))⟩])
  (.seq (.seq (.region [⟨some 6, false, none, .mov (.t 0)⟩,
      ⟨some 7, false, none, .lenL (.u 6)⟩,
      ⟨some 8, false, none, .mov (.t 1)⟩,
      ⟨some 9, false, none, .lenL (.u 8)⟩,
      ⟨some 10, true, none, .bin .neq (.u 7) (.u 9)⟩])
   (.cond (.t 10)
    (.seq (.region [⟨some 4, true, none, .mov (.c (.bool false))⟩])
    (.ret))
    (.skip)))
  (.seq (.seq (.region [⟨some 5, true, none, .mov (.c (.int .i64 0))⟩])
   (.block 0 (.loop (.seq (.seq (.region [⟨some 11, false, none, .mov (.t 5)⟩,
         ⟨some 12, false, none, .mov (.t 0)⟩,
         ⟨some 13, false, none, .lenL (.u 12)⟩,
         ⟨some 14, true, none, .bin .lss (.u 11) (.u 13)⟩])
      (.cond (.t 14)
       (.skip)
       (.exit 0)))
     (.seq (.block 1 (.seq (.regionD [⟨0, [0], false, [], ⟨some 17, false, none, .mov (.t 0)⟩⟩,
          ⟨1, [5], false, [], ⟨some 18, false, none, .mov (.t 5)⟩⟩,
          ⟨2, [17, 18], false, [], ⟨some 19, false, none, .iaS 1 (.u 17) (.u 18)⟩⟩,
          ⟨3, [19], true, [], ⟨some 20, false, none, .load false 1 (.u 19)⟩⟩,
          ⟨4, [1], false, [], ⟨some 21, false, none, .mov (.t 1)⟩⟩,
          ⟨5, [5], false, [], ⟨some 22, false, none, .mov (.t 5)⟩⟩,
          ⟨6, [21, 22], false, [], ⟨some 23, false, none, .iaS 1 (.u 21) (.u 22)⟩⟩,
          ⟨7, [23], true, [], ⟨some 24, false, none, .load false 1 (.u 23)⟩⟩,
          ⟨8, [20, 24], false, [], ⟨some 25, true, none, .bin .neq (.u 20) (.u 24)⟩⟩])
       (.cond (.t 25)
        (.seq (.region [⟨some 4, true, none, .mov (.c (.bool false))⟩])
        (.ret))
        (.skip))))
     (.region [⟨some 15, false, none, .mov (.t 5)⟩,
       ⟨some 16, false, none, .bin .add (.u 15) (.c (.int .i64 1))⟩,
       ⟨some 5, true, none, .mov (.u 16)⟩]))))))
  (.seq (.region [⟨some 4, true, none, .mov (.c (.bool true))⟩])
  (.ret))))
def r15 : List LRes := [.slot 4]
theorem t15 : (Try.f15.body.bind (trCode v15 Try.prog Try.f15.ntmps)) = some c15 ∧ trRes v15 Try.prog Try.f15.results.toList = some r15 := ⟨by kernel_rfl, by kernel_rfl⟩

def v16 : Nat → Bool := fun t => [0, 1, 2, 4, 8, 22].contains t
def c16 : LCode :=
  .seq (.region [⟨some 2, true, none, .box (.t 0)⟩,
     ⟨some 4, true, none, .mov (.c (.fsl 1 0 []))⟩])
  (.seq (.seq (.region [⟨some 5, false, none, .faddr 1 (.t 2)⟩,
      ⟨some 6, false, none, .load false 1 (.u 5)⟩,
      ⟨some 7, false, none, .lenL (.u 6)⟩,
      ⟨some 8, true, none, .bin .eql (.u 7) (.c (.int .i64 1))⟩])
   (.cond (.t 8)
    (.seq (.region [⟨some 9, false, none, .faddr 1 (.t 2)⟩,
       ⟨some 10, false, none, .load false 1 (.u 9)⟩,
       ⟨some 11, false, none, .iaS 1 (.u 10) (.c (.int .i64 0))⟩,
       ⟨some 12, false, none, .load false 1 (.u 11)⟩,
       ⟨some 13, false, none, .call 29 [(.u 12)]⟩,
       ⟨some 4, true, none, .mov (.u 13)⟩])
    (.ret))
    (.skip)))
  (.seq (.seq (.region [⟨some 14, false, none, .mov (.t 1)⟩,
      ⟨some 15, false, none, .bin .lss (.u 14) (.c (.int .i64 0))⟩,
      ⟨some 16, false, none, .mov (.u 15)⟩,
      ⟨some 17, false, some ((.u 16), false), .mov (.t 1)⟩,
      ⟨some 18, false, some ((.u 16), false), .faddr 1 (.t 2)⟩,
      ⟨some 19, false, some ((.u 16), false), .load false 1 (.u 18)⟩,
      ⟨some 20, false, some ((.u 16), false), .lenL (.u 19)⟩,
      ⟨some 21, false, some ((.u 16), false), .bin .geq (.u 17) (.u 20)⟩,
      ⟨some 22, true, none, .pick (.u 16) (.c (.bool true)) (.u 21)⟩])
   (.cond (.t 22)
    (.seq (.region [⟨some 4, true, none, .mov (.c (.fsl 1 0 []))⟩])
    (.ret))
    (.skip)))
  (.seq (.region [⟨some 23, false, none, .faddr 1 (.t 2)⟩,
     ⟨some 24, false, none, .load false 1 (.u 23)⟩,
     ⟨some 25, false, none, .mov (.t 1)⟩,
     ⟨some 26, false, none, .iaS 1 (.u 24) (.u 25)⟩,
     ⟨some 27, false, none, .load false 1 (.u 26)⟩,
     ⟨some 28, false, none, .call 29 [(.u 27)]⟩,
     ⟨some 4, true, none, .mov (.u 28)⟩])
  (.ret))))
def r16 : List LRes := [.slot 4]
theorem t16 : (Try.f16.body.bind (trCode v16 Try.prog Try.f16.ntmps)) = some c16 ∧ trRes v16 Try.prog Try.f16.results.toList = some r16 := ⟨by kernel_rfl, by kernel_rfl⟩

def v17 : Nat → Bool := fun t => [0, 1, 2, 4, 8, 17].contains t
def c17 : LCode :=
  .seq (.region [⟨some 2, true, none, .box (.t 0)⟩,
     ⟨some 4, true, none, .mov (.c (.fsl 1 0 []))⟩])
  (.seq (.seq (.region [⟨some 5, false, none, .faddr 1 (.t 2)⟩,
      ⟨some 6, false, none, .load false 1 (.u 5)⟩,
      ⟨some 7, false, none, .lenL (.u 6)⟩,
      ⟨some 8, true, none, .bin .eql (.u 7) (.c (.int .i64 1))⟩])
   (.cond (.t 8)
    (.region [⟨some 1, true, none, .mov (.c (.int .i64 0))⟩])
    (.skip)))
  (.seq (.seq (.region [⟨some 9, false, none, .mov (.t 1)⟩,
      ⟨some 10, false, none, .bin .lss (.u 9) (.c (.int .i64 0))⟩,
      ⟨some 11, false, none, .mov (.u 10)⟩,
      ⟨some 12, false, some ((.u 11), false), .mov (.t 1)⟩,
      ⟨some 13, false, some ((.u 11), false), .faddr 1 (.t 2)⟩,
      ⟨some 14, false, some ((.u 11), false), .load false 1 (.u 13)⟩,
      ⟨some 15, false, some ((.u 11), false), .lenL (.u 14)⟩,
      ⟨some 16, false, some ((.u 11), false), .bin .geq (.u 12) (.u 15)⟩,
      ⟨some 17, true, none, .pick (.u 11) (.c (.bool true)) (.u 16)⟩])
   (.cond (.t 17)
    (.seq (.region [⟨some 4, true, none, .mov (.c (.fsl 1 0 []))⟩])
    (.ret))
    (.skip)))
  (.seq (.region [⟨some 18, false, none, .faddr 1 (.t 2)⟩,
     ⟨some 19, false, none, .load false 1 (.u 18)⟩,
     ⟨some 20, false, none, .mov (.t 1)⟩,
     ⟨some 21, false, none, .iaS 1 (.u 19) (.u 20)⟩,
     ⟨some 22, false, none, .load false 1 (.u 21)⟩,
     ⟨some 23, false, none, .app 1 8 (.c (.fsl 1 0 [])) (.u 22)⟩,
     ⟨some 4, true, none, .mov (.u 23)⟩])
  (.ret))))
def r17 : List LRes := [.slot 4]
theorem t17 : (Try.f17.body.bind (trCode v17 Try.prog Try.f17.ntmps)) = some c17 ∧ trRes v17 Try.prog Try.f17.results.toList = some r17 := ⟨by kernel_rfl, by kernel_rfl⟩

def v18 : Nat → Bool := fun t => [0, 2, 3, 4, 14, 18, 26, 38].contains t
def c18 : LCode :=
  .seq (.region [⟨some 2, true, none, .zero [.int .i64 0, .int .i64 0, .int .i64 0, .int .i64 0, .int .i64 0, .int .i64 0, .int .i64 0, .int .i64 0, .int .i64 0, .int .i64 0, .int .i64 0, .str [], .str [], .fsl 1 0 [], .bool false, .int .i64 0, .int .i64 0, .int .i64 0, .int .i64 0, .int .i64 0, .fsl 1 0 [], .fsl 1 0 [], .int .i64 0, .fsl 1 0 [], .int .i64 0]⟩])
  (.seq (.region [⟨some 5, false, none, .mov (.t 0)⟩,
     ⟨some 6, false, none, .call 22 [(.u 5), (.c (.int .i64 1)), (.c (.int .i64 2))]⟩,
     ⟨some 7, false, none, .mov (.t 0)⟩,
     ⟨some 8, false, none, .call 30 [(.u 7)]⟩,
     ⟨some 9, false, none, .mov (.t 0)⟩,
     ⟨some 10, false, none, .call 31 [(.u 9)]⟩,
     ⟨some 11, false, none, .build [.int .i64 0, .int .i64 0, .int .i64 0, .int .i64 0, .int .i64 0, .int .i64 0, .int .i64 0, .int .i64 0, .int .i64 0, .int .i64 0, .int .i64 0, .str [], .str [], .fsl 1 0 [], .bool false, .int .i64 0, .int .i64 0, .int .i64 0, .int .i64 0, .int .i64 0, .fsl 1 0 [], .fsl 1 0 [], .int .i64 0, .fsl 1 0 [], .int .i64 0] [(0, 1, (.u 6)), (1, 14, (.u 8)), (15, 7, (.u 10))]⟩,
     ⟨some 3, true, none, .zero [.int .i64 0, .int .i64 0, .int .i64 0, .int .i64 0, .int .i64 0, .int .i64 0, .int .i64 0, .int .i64 0, .int .i64 0, .int .i64 0, .int .i64 0, .str [], .str [], .fsl 1 0 [], .bool false, .int .i64 0, .int .i64 0, .int .i64 0, .int .i64 0, .int .i64 0, .fsl 1 0 [], .fsl 1 0 [], .int .i64 0, .fsl 1 0 [], .int .i64 0]⟩,
     ⟨none, true, none, .store 25 (.t 3) (.u 11)⟩])
  (.seq (.seq (.region [⟨some 12, false, none, .mov (.t 0)⟩,
      ⟨some 13, false, none, .call 26 [(.u 12), (.c (.int .i64 4))]⟩,
      ⟨some 14, true, none, .bin .gtr (.u 13) (.c (.int .i64 0))⟩])
   (.cond (.t 14)
    (.region [⟨some 15, false, none, .faddr 0 (.t 3)⟩,
      ⟨none, true, none, .store 1 (.u 15) (.c (.int .i64 2))⟩])
    (.skip)))
  (.seq (.seq (.region [⟨some 16, false, none, .faddr 0 (.t 3)⟩,
      ⟨some 17, false, none, .load false 1 (.u 16)⟩,
      ⟨some 18, true, none, .bin .eql (.u 17) (.c (.int .i64 2))⟩])
   (.cond (.t 18)
    (.seq (.region [⟨some 19, false, none, .mov (.t 0)⟩,
       ⟨some 20, false, none, .mkS 1 6 [.int .i64 0] [(0, 1, (.c (.int .i64 0))), (1, 1, (.c (.int .i64 0))), (2, 1, (.c (.int .i64 3))), (3, 1, (.c (.int .i64 (-1)))), (4, 1, (.c (.int .i64 (-2)))), (5, 1, (.c (.int .i64 (-13))))]⟩,
       ⟨some 21, false, none, .call 32 [(.u 19), (.u 20)]⟩,
       ⟨some 22, false, none, .faddr 22 (.t 3)⟩,
       ⟨none, true, none, .store 1 (.u 22) (.u 21)⟩])
    (.seq (.region [⟨some 23, false, none, .mov (.t 0)⟩,
       ⟨some 24, false, none, .call 26 [(.u 23), (.c (.int .i64 3))]⟩,
       ⟨some 4, true, none, .mov (.u 24)⟩])
    (.block 0 (.loop (.seq (.seq (.region [⟨some 25, false, none, .mov (.t 4)⟩,
          ⟨some 26, true, none, .bin .gtr (.u 25) (.c (.int .i64 0))⟩])
       (.cond (.t 26)
        (.skip)
        (.exit 0)))
      (.seq (.block 1 (.regionD [⟨0, [3], false, [], ⟨some 29, false, none, .faddr 23 (.t 3)⟩⟩,
          ⟨1, [29], true, [], ⟨some 30, false, none, .load false 1 (.u 29)⟩⟩,
          ⟨2, [0], false, [], ⟨some 31, false, none, .mov (.t 0)⟩⟩,
          ⟨3, [31], false, [1], ⟨some 32, false, none, .call 33 [(.u 31)]⟩⟩,
          ⟨4, [32], false, [], ⟨some 33, false, none, .mkS 13 1 [.str [], .str [], .int .i64 0, .int .i64 0, .str [], .int .i64 0, .int .i64 0, .int .i64 0, .int .i64 0, .int .i64 0, .int .i64 0, .int .i64 0, .int .i64 0] [(0, 13, (.u 32))]⟩⟩,
          ⟨5, [30, 33], false, [], ⟨some 34, false, none, .app 13 128 (.u 30) (.u 33)⟩⟩,
          ⟨6, [3], false, [], ⟨some 35, false, none, .faddr 23 (.t 3)⟩⟩,
          ⟨7, [35, 34], false, [], ⟨none, true, none, .store 1 (.u 35) (.u 34)⟩⟩]))
      (.region [⟨some 27, false, none, .mov (.t 4)⟩,
        ⟨some 28, false, none, .bin .sub (.u 27) (.c (.int .i64 1))⟩,
        ⟨some 4, true, none, .mov (.u 28)⟩])))))))
    (.skip)))
  (.seq (.seq (.region [⟨some 36, false, none, .mov (.t 0)⟩,
      ⟨some 37, false, none, .call 26 [(.u 36), (.c (.int .i64 6))]⟩,
      ⟨some 38, true, none, .bin .eql (.u 37) (.c (.int .i64 5))⟩])
   (.cond (.t 38)
    (.region [⟨some 39, false, none, .mov (.t 0)⟩,
      ⟨some 40, false, none, .mkS 1 4 [.int .i64 0] [(0, 1, (.c (.int .i64 1300))), (1, 1, (.c (.int .i64 1302))), (2, 1, (.c (.int .i64 1307))), (3, 1, (.c (.int .i64 1005)))]⟩,
      ⟨some 41, false, none, .call 32 [(.u 39), (.u 40)]⟩,
      ⟨some 42, false, none, .faddr 24 (.t 3)⟩,
      ⟨none, true, none, .store 1 (.u 42) (.u 41)⟩])
    (.skip)))
  (.seq (.region [⟨some 43, false, none, .load true 25 (.t 3)⟩,
     ⟨none, true, none, .store 25 (.t 2) (.u 43)⟩])
  (.ret))))))
def r18 : List LRes := [.cell true 25 2]
theorem t18 : (Try.f18.body.bind (trCode v18 Try.prog Try.f18.ntmps)) = some c18 ∧ trRes v18 Try.prog Try.f18.results.toList = some r18 := ⟨by kernel_rfl, by kernel_rfl⟩

def v19 : Nat → Bool := fun t => [0, 1, 4, 5, 6, 9].contains t
def c19 : LCode :=
  .seq (.region [⟨some 4, true, none, .mov (.c (.fsl 1 0 []))⟩])
  (.seq (.region [⟨some 5, true, none, .mov (.c (.fsl 1 0 []))⟩])
  (.seq (.seq (.region [⟨some 6, true, none, .mov (.c (.int .i64 0))⟩])
   (.block 0 (.loop (.seq (.seq (.region [⟨some 7, false, none, .mov (.t 6)⟩,
         ⟨some 8, false, none, .mov (.t 0)⟩,
         ⟨some 9, true, none, .bin .lss (.u 7) (.u 8)⟩])
      (.cond (.t 9)
       (.skip)
       (.exit 0)))
     (.seq (.block 1 (.region [⟨some 12, false, none, .mov (.t 5)⟩,
         ⟨some 13, false, none, .mov (.t 1)⟩,
         ⟨some 14, false, none, .mov (.t 6)⟩,
         ⟨some 15, false, none, .bin .rem (.u 14) (.c (.int .i64 60))⟩,
         ⟨some 16, false, none, .conv .u64 (.u 15)⟩,
         ⟨some 17, false, none, .bin .shr (.u 13) (.u 16)⟩,
         ⟨some 18, false, none, .bin .and (.u 17) (.c (.int .i64 1))⟩,
         ⟨some 19, false, none, .bin .eql (.u 18) (.c (.int .i64 1))⟩,
         ⟨some 20, false, none, .mkS 1 1 [.bool false] [(0, 1, (.u 19))]⟩,
         ⟨some 21, false, none, .app 1 1 (.u 12) (.u 20)⟩,
         ⟨some 5, true, none, .mov (.u 21)⟩]))
     (.region [⟨some 10, false, none, .mov (.t 6)⟩,
       ⟨some 11, false, none, .bin .add (.u 10) (.c (.int .i64 1))⟩,
       ⟨some 6, true, none, .mov (.u 11)⟩]))))))
  (.seq (.region [⟨some 22, false, none, .mov (.t 5)⟩,
     ⟨some 4, true, none, .mov (.u 22)⟩])
  (.ret))))
def r19 : List LRes := [.slot 4]
theorem t19 : (Try.f19.body.bind (trCode v19 Try.prog Try.f19.ntmps)) = some c19 ∧ trRes v19 Try.prog Try.f19.results.toList = some r19 := ⟨by kernel_rfl, by kernel_rfl⟩

def v20 : Nat → Bool := fun t => [0, 1, 4].contains t
def c20 : LCode :=
  .seq (.region [⟨some 4, true, none, .mov (.c (.bool false))⟩])
  (.seq (.region [⟨some 5, false, none, .mov (.t 1)⟩,
     ⟨some 6, false, none, .bin .geq (.u 5) (.c (.int .i64 0))⟩,
     ⟨some 7, false, none, .mov (.u 6)⟩,
     ⟨some 8, false, some ((.u 7), true), .mov (.t 1)⟩,
     ⟨some 9, false, some ((.u 7), true), .bin .lss (.u 8) (.c (.int .i64 32))⟩,
     ⟨some 10, false, none, .pick (.u 7) (.u 9) (.c (.bool false))⟩,
     ⟨some 11, false, none, .mov (.u 10)⟩,
     ⟨some 12, false, some ((.u 11), true), .mov (.t 0)⟩,
     ⟨some 13, false, some ((.u 11), true), .mov (.t 1)⟩,
     ⟨some 14, false, some ((.u 11), true), .conv .u64 (.u 13)⟩,
     ⟨some 15, false, some ((.u 11), true), .bin .shr (.u 12) (.u 14)⟩,
     ⟨some 16, false, some ((.u 11), true), .bin .and (.u 15) (.c (.int .u64 1))⟩,
     ⟨some 17, false, some ((.u 11), true), .bin .eql (.u 16) (.c (.int .u64 1))⟩,
     ⟨some 18, false, none, .pick (.u 11) (.u 17) (.c (.bool false))⟩,
     ⟨some 4, true, none, .mov (.u 18)⟩])
  (.ret))
def r20 : List LRes := [.slot 4]
theorem t20 : (Try.f20.body.bind (trCode v20 Try.prog Try.f20.ntmps)) = some c20 ∧ trRes v20 Try.prog Try.f20.results.toList = some r20 := ⟨by kernel_rfl, by kernel_rfl⟩

def v21 : Nat → Bool := fun t => [0, 1, 2, 3, 7, 8, 9, 13, 40].contains t
def c21 : LCode :=
  .seq (.region [⟨some 7, true, none, .box (.t 3)⟩,
     ⟨some 8, true, none, .mov (.c (.int .i64 0))⟩])
  (.seq (.seq (.region [⟨some 9, true, none, .mov (.c (.int .i64 0))⟩])
   (.block 0 (.loop (.seq (.seq (.region [⟨some 10, false, none, .mov (.t 9)⟩,
         ⟨some 11, false, none, .mov (.t 0)⟩,
         ⟨some 12, false, none, .lenL (.u 11)⟩,
         ⟨some 13, true, none, .bin .lss (.u 10) (.u 12)⟩])
      (.cond (.t 13)
       (.skip)
       (.exit 0)))
     (.seq (.block 1 (.seq (.regionD [⟨0, [0], false, [], ⟨some 16, false, none, .mov (.t 0)⟩⟩,
          ⟨1, [9], false, [], ⟨some 17, false, none, .mov (.t 9)⟩⟩,
          ⟨2, [16, 17], false, [], ⟨some 18, false, none, .iaS 8 (.u 16) (.u 17)⟩⟩,
          ⟨3, [18], false, [], ⟨some 19, false, none, .faddr 0 (.u 18)⟩⟩,
          ⟨4, [19], true, [], ⟨some 20, false, none, .load false 1 (.u 19)⟩⟩,
          ⟨5, [1], false, [], ⟨some 21, false, none, .mov (.t 1)⟩⟩,
          ⟨6, [20, 21], false, [], ⟨some 22, false, none, .bin .eql (.u 20) (.u 21)⟩⟩,
          ⟨7, [22], false, [], ⟨some 23, false, none, .mov (.u 22)⟩⟩,
          ⟨8, [0, 23], false, [], ⟨some 24, false, some ((.u 23), true), .mov (.t 0)⟩⟩,
          ⟨9, [9, 23], false, [], ⟨some 25, false, some ((.u 23), true), .mov (.t 9)⟩⟩,
          ⟨10, [24, 25, 23], false, [], ⟨some 26, false, some ((.u 23), true), .iaS 8 (.u 24) (.u 25)⟩⟩,
          ⟨11, [26, 23], true, [], ⟨some 27, false, some ((.u 23), true), .load true 8 (.u 26)⟩⟩,
          ⟨12, [9, 23], false, [], ⟨some 28, false, some ((.u 23), true), .mov (.t 9)⟩⟩,
          ⟨13, [2, 23], false, [], ⟨some 29, false, some ((.u 23), true), .mov (.t 2)⟩⟩,
          ⟨14, [29, 23], false, [], ⟨some 30, false, some ((.u 23), true), .lenL (.u 29)⟩⟩,
          ⟨15, [28, 30, 23], false, [], ⟨some 31, false, some ((.u 23), true), .bin .lss (.u 28) (.u 30)⟩⟩,
          ⟨16, [31, 23], false, [], ⟨some 32, false, some ((.u 23), true), .mov (.u 31)⟩⟩,
          ⟨17, [2, 32], false, [], ⟨some 33, false, some ((.u 32), true), .mov (.t 2)⟩⟩,
          ⟨18, [9, 32], false, [], ⟨some 34, false, some ((.u 32), true), .mov (.t 9)⟩⟩,
          ⟨19, [33, 34, 32], false, [], ⟨some 35, false, some ((.u 32), true), .iaS 1 (.u 33) (.u 34)⟩⟩,
          ⟨20, [35, 32], true, [], ⟨some 36, false, some ((.u 32), true), .load false 1 (.u 35)⟩⟩,
          ⟨21, [32, 36, 23], false, [], ⟨some 37, false, some ((.u 23), true), .pick (.u 32) (.u 36) (.c (.bool false))⟩⟩,
          ⟨22, [7, 23], true, [], ⟨some 38, false, some ((.u 23), true), .load true 25 (.t 7)⟩⟩,
          ⟨23, [27, 37, 38, 23], false, [], ⟨some 39, false, some ((.u 23), true), .call 34 [(.u 27), (.u 37), (.u 38)]⟩⟩,
          ⟨24, [23, 39], false, [], ⟨some 40, true, none, .pick (.u 23) (.u 39) (.c (.bool false))⟩⟩])
       (.cond (.t 40)
        (.seq (.region [⟨some 41, false, none, .mov (.t 9)⟩,
           ⟨some 8, true, none, .mov (.u 41)⟩])
        (.ret))
        (.skip))))
     (.region [⟨some 14, false, none, .mov (.t 9)⟩,
       ⟨some 15, false, none, .bin .add (.u 14) (.c (.int .i64 1))⟩,
       ⟨some 9, true, none, .mov (.u 15)⟩]))))))
  (.seq (.region [⟨some 8, true, none, .mov (.c (.int .i64 (-1)))⟩])
  (.ret)))
def r21 : List LRes := [.slot 8]
theorem t21 : (Try.f21.body.bind (trCode v21 Try.prog Try.f21.ntmps)) = some c21 ∧ trRes v21 Try.prog Try.f21.results.toList = some r21 := ⟨by kernel_rfl, by kernel_rfl⟩

def v22 : Nat → Bool := fun t => [0, 1, 2, 6].contains t
def c22 : LCode :=
  .seq (.region [⟨some 6, true, none, .mov (.c (.int .i64 0))⟩])
  (.seq (.region [⟨some 7, false, none, .mov (.t 1)⟩,
     ⟨some 8, false, none, .mov (.t 0)⟩,
     ⟨some 9, false, none, .mov (.t 2)⟩,
     ⟨some 10, false, none, .mov (.t 1)⟩,
     ⟨some 11, false, none, .bin .sub (.u 9) (.u 10)⟩,
     ⟨some 12, false, none, .bin .add (.u 11) (.c (.int .i64 1))⟩,
     ⟨some 13, false, none, .call 26 [(.u 8), (.u 12)]⟩,
     ⟨some 14, false, none, .bin .add (.u 7) (.u 13)⟩,
     ⟨some 6, true, none, .mov (.u 14)⟩])
  (.ret))
def r22 : List LRes := [.slot 6]
theorem t22 : (Try.f22.body.bind (trCode v22 Try.prog Try.f22.ntmps)) = some c22 ∧ trRes v22 Try.prog Try.f22.results.toList = some r22 := ⟨by kernel_rfl, by kernel_rfl⟩

def v23 : Nat → Bool := fun t => [0, 1, 2, 3, 4, 7, 8, 10, 15, 16, 17, 18, 28, 44].contains t
def c23 : LCode :=
  .seq (.region [⟨some 4, true, none, .box (.t 0)⟩,
     ⟨some 7, true, none, .box (.t 3)⟩,
     ⟨some 8, true, none, .mov (.c (.int .i64 0))⟩])
  (.seq (.seq (.region [⟨some 11, false, none, .load true 2 (.t 4)⟩,
      ⟨some 12, false, none, .faddr 15 (.t 7)⟩,
      ⟨some 13, false, none, .faddr 0 (.u 12)⟩,
      ⟨some 14, false, none, .load false 1 (.u 13)⟩,
      ⟨some 15, true, none, .call 16 [(.u 11), (.u 14)]⟩,
      ⟨some 16, true, none, .lenL (.t 15)⟩,
      ⟨some 17, true, none, .mov (.c (.int .i64 0))⟩])
   (.block 0 (.loop (.seq (.region [⟨some 18, true, none, .bin .lss (.t 17) (.t 16)⟩])
     (.seq (.cond (.t 18)
       (.skip)
       (.exit 0))
     (.seq (.block 1 (.seq (.region [⟨some 19, false, none, .iaS 1 (.t 15) (.t 17)⟩,
          ⟨some 20, false, none, .load false 1 (.u 19)⟩,
          ⟨some 10, true, none, .mov (.u 20)⟩])
       (.seq (.seq (.region [⟨some 21, false, none, .mov (.t 10)⟩,
           ⟨some 22, false, none, .bin .lss (.u 21) (.c (.int .i64 0))⟩,
           ⟨some 23, false, none, .mov (.u 22)⟩,
           ⟨some 24, false, some ((.u 23), false), .mov (.t 10)⟩,
           ⟨some 25, false, some ((.u 23), false), .mov (.t 1)⟩,
           ⟨some 26, false, some ((.u 23), false), .lenL (.u 25)⟩,
           ⟨some 27, false, some ((.u 23), false), .bin .geq (.u 24) (.u 26)⟩,
           ⟨some 28, true, none, .pick (.u 23) (.c (.bool true)) (.u 27)⟩])
        (.cond (.t 28)
         (.seq (.region [⟨some 8, true, none, .mov (.c (.int .i64 (-1)))⟩])
         (.ret))
         (.skip)))
       (.seq (.regionD [⟨0, [1], false, [], ⟨some 29, false, none, .mov (.t 1)⟩⟩,
          ⟨1, [10], false, [], ⟨some 30, false, none, .mov (.t 10)⟩⟩,
          ⟨2, [29, 30], false, [], ⟨some 31, false, none, .iaS 8 (.u 29) (.u 30)⟩⟩,
          ⟨3, [31], true, [], ⟨some 32, false, none, .load true 8 (.u 31)⟩⟩,
          ⟨4, [10], false, [], ⟨some 33, false, none, .mov (.t 10)⟩⟩,
          ⟨5, [2], false, [], ⟨some 34, false, none, .mov (.t 2)⟩⟩,
          ⟨6, [34], false, [], ⟨some 35, false, none, .lenL (.u 34)⟩⟩,
          ⟨7, [33, 35], false, [], ⟨some 36, false, none, .bin .lss (.u 33) (.u 35)⟩⟩,
          ⟨8, [36], false, [], ⟨some 37, false, none, .mov (.u 36)⟩⟩,
          ⟨9, [2, 37], false, [], ⟨some 38, false, some ((.u 37), true), .mov (.t 2)⟩⟩,
          ⟨10, [10, 37], false, [], ⟨some 39, false, some ((.u 37), true), .mov (.t 10)⟩⟩,
          ⟨11, [38, 39, 37], false, [], ⟨some 40, false, some ((.u 37), true), .iaS 1 (.u 38) (.u 39)⟩⟩,
          ⟨12, [40, 37], true, [], ⟨some 41, false, some ((.u 37), true), .load false 1 (.u 40)⟩⟩,
          ⟨13, [37, 41], false, [], ⟨some 42, false, none, .pick (.u 37) (.u 41) (.c (.bool false))⟩⟩,
          ⟨14, [7], true, [], ⟨some 43, false, none, .load true 25 (.t 7)⟩⟩,
          ⟨15, [32, 42, 43], false, [], ⟨some 44, true, none, .call 35 [(.u 32), (.u 42), (.u 43)]⟩⟩])
       (.cond (.t 44)
        (.seq (.region [⟨some 45, false, none, .mov (.t 10)⟩,
           ⟨some 8, true, none, .mov (.u 45)⟩])
        (.ret))
        (.skip))))))
     (.region [⟨some 46, false, none, .bin .add (.t 17) (.c (.int .i64 1))⟩,
       ⟨some 17, true, none, .mov (.u 46)⟩])))))))
  (.seq (.region [⟨some 8, true, none, .mov (.c (.int .i64 (-1)))⟩])
  (.ret)))
def r23 : List LRes := [.slot 8]
theorem t23 : (Try.f23.body.bind (trCode v23 Try.prog Try.f23.ntmps)) = some c23 ∧ trRes v23 Try.prog Try.f23.results.toList = some r23 := ⟨by kernel_rfl, by kernel_rfl⟩

def v24 : Nat → Bool := fun t => [0, 1, 2, 3, 4, 7, 8, 9, 10, 11, 20, 34, 50].contains t
def c24 : LCode :=
  .seq (.region [⟨some 4, true, none, .box (.t 0)⟩,
     ⟨some 7, true, none, .box (.t 3)⟩,
     ⟨some 8, true, none, .mov (.c (.int .i64 0))⟩])
  (.seq (.region [⟨some 12, false, none, .load true 2 (.t 4)⟩,
     ⟨some 13, false, none, .faddr 15 (.t 7)⟩,
     ⟨some 14, false, none, .faddr 0 (.u 13)⟩,
     ⟨some 15, false, none, .load false 1 (.u 14)⟩,
     ⟨some 16, false, none, .call 17 [(.u 12), (.u 15)]⟩,
     ⟨some 9, true, none, .mov (.u 16)⟩])
  (.seq (.seq (.region [⟨some 10, true, none, .mov (.c (.int .i64 0))⟩])
   (.block 0 (.loop (.seq (.seq (.region [⟨some 17, false, none, .mov (.t 10)⟩,
         ⟨some 18, false, none, .mov (.t 9)⟩,
         ⟨some 19, false, none, .lenL (.u 18)⟩,
         ⟨some 20, true, none, .bin .lss (.u 17) (.u 19)⟩])
      (.cond (.t 20)
       (.skip)
       (.exit 0)))
     (.seq (.block 1 (.seq (.region [⟨some 23, false, none, .mov (.t 9)⟩,
          ⟨some 24, false, none, .mov (.t 10)⟩,
          ⟨some 25, false, none, .iaS 1 (.u 23) (.u 24)⟩,
          ⟨some 26, false, none, .load false 1 (.u 25)⟩,
          ⟨some 11, true, none, .mov (.u 26)⟩])
       (.seq (.seq (.region [⟨some 27, false, none, .mov (.t 11)⟩,
           ⟨some 28, false, none, .bin .lss (.u 27) (.c (.int .i64 0))⟩,
           ⟨some 29, false, none, .mov (.u 28)⟩,
           ⟨some 30, false, some ((.u 29), false), .mov (.t 11)⟩,
           ⟨some 31, false, some ((.u 29), false), .mov (.t 1)⟩,
           ⟨some 32, false, some ((.u 29), false), .lenL (.u 31)⟩,
           ⟨some 33, false, some ((.u 29), false), .bin .geq (.u 30) (.u 32)⟩,
           ⟨some 34, true, none, .pick (.u 29) (.c (.bool true)) (.u 33)⟩])
        (.cond (.t 34)
         (.seq (.region [⟨some 8, true, none, .mov (.c (.int .i64 (-1)))⟩])
         (.ret))
         (.skip)))
       (.seq (.regionD [⟨0, [1], false, [], ⟨some 35, false, none, .mov (.t 1)⟩⟩,
          ⟨1, [11], false, [], ⟨some 36, false, none, .mov (.t 11)⟩⟩,
          ⟨2, [35, 36], false, [], ⟨some 37, false, none, .iaS 8 (.u 35) (.u 36)⟩⟩,
          ⟨3, [37], true, [], ⟨some 38, false, none, .load true 8 (.u 37)⟩⟩,
          ⟨4, [11], false, [], ⟨some 39, false, none, .mov (.t 11)⟩⟩,
          ⟨5, [2], false, [], ⟨some 40, false, none, .mov (.t 2)⟩⟩,
          ⟨6, [40], false, [], ⟨some 41, false, none, .lenL (.u 40)⟩⟩,
          ⟨7, [39, 41], false, [], ⟨some 42, false, none, .bin .lss (.u 39) (.u 41)⟩⟩,
          ⟨8, [42], false, [], ⟨some 43, false, none, .mov (.u 42)⟩⟩,
          ⟨9, [2, 43], false, [], ⟨some 44, false, some ((.u 43), true), .mov (.t 2)⟩⟩,
          ⟨10, [11, 43], false, [], ⟨some 45, false, some ((.u 43), true), .mov (.t 11)⟩⟩,
          ⟨11, [44, 45, 43], false, [], ⟨some 46, false, some ((.u 43), true), .iaS 1 (.u 44) (.u 45)⟩⟩,
          ⟨12, [46, 43], true, [], ⟨some 47, false, some ((.u 43), true), .load false 1 (.u 46)⟩⟩,
          ⟨13, [43, 47], false, [], ⟨some 48, false, none, .pick (.u 43) (.u 47) (.c (.bool false))⟩⟩,
          ⟨14, [7], true, [], ⟨some 49, false, none, .load true 25 (.t 7)⟩⟩,
          ⟨15, [38, 48, 49], false, [], ⟨some 50, true, none, .call 34 [(.u 38), (.u 48), (.u 49)]⟩⟩])
       (.cond (.t 50)
        (.seq (.region [⟨some 51, false, none, .mov (.t 11)⟩,
           ⟨some 8, true, none, .mov (.u 51)⟩])
        (.ret))
        (.skip))))))
     (.region [⟨some 21, false, none, .mov (.t 10)⟩,
       ⟨some 22, false, none, .bin .add (.u 21) (.c (.int .i64 1))⟩,
       ⟨some 10, true, none, .mov (.u 22)⟩]))))))
  (.seq (.region [⟨some 8, true, none, .mov (.c (.int .i64 (-1)))⟩])
  (.ret))))
def r24 : List LRes := [.slot 8]
theorem t24 : (Try.f24.body.bind (trCode v24 Try.prog Try.f24.ntmps)) = some c24 ∧ trRes v24 Try.prog Try.f24.results.toList = some r24 := ⟨by kernel_rfl, by kernel_rfl⟩

def v25 : Nat → Bool := fun t => [0, 1, 4, 5, 6, 7, 8, 10, 11, 12, 20, 21, 22, 30].contains t
def c25 : LCode :=
  .seq (.region [⟨some 4, true, none, .zero [.int .u64 0, .fsl 1 0 []]⟩])
  (.seq (.region [⟨some 5, true, none, .zero [.fsl 1 0 [], .fsl 1 0 [], .fsl 1 0 [], .fsl 1 0 [], .fsl 1 0 [], .fsl 1 0 [], .fsl 1 0 [], .fsl 1 0 [], .fsl 1 0 [], .fsl 1 0 [], .fsl 1 0 [], .fsl 1 0 [], .fsl 1 0 [], .fsl 1 0 [], .fsl 1 0 [], .fsl 1 0 [], .fsl 1 0 [], .fsl 1 0 [], .fsl 1 0 [], .fsl 1 0 [], .fsl 1 0 [], .fsl 1 0 [], .fsl 1 0 [], .fsl 1 0 [], .fsl 1 0 [], .fsl 1 0 [], .fsl 1 0 [], .fsl 1 0 [], .fsl 1 0 [], .fsl 1 0 [], .fsl 1 0 [], .fsl 1 0 []]⟩])
  (.seq (.region [⟨some 6, true, none, .mov (.c (.int .u64 0))⟩])
  (.seq (.seq (.region [⟨some 9, false, none, .mov (.t 0)⟩,
      ⟨some 10, true, none, .lenL (.u 9)⟩,
      ⟨some 11, true, none, .mov (.c (.int .i64 0))⟩])
   (.block 0 (.loop (.seq (.region [⟨some 12, true, none, .bin .lss (.t 11) (.t 10)⟩])
     (.seq (.cond (.t 12)
       (.skip)
       (.exit 0))
     (.seq (.block 1 (.seq (.region [⟨some 13, false, none, .mov (.t 11)⟩,
          ⟨some 7, true, none, .mov (.u 13)⟩])
       (.seq (.seq (.region [⟨some 14, false, none, .mov (.t 0)⟩,
           ⟨some 15, false, none, .mov (.t 7)⟩,
           ⟨some 16, false, none, .iaS 8 (.u 14) (.u 15)⟩,
           ⟨some 17, false, none, .faddr 0 (.u 16)⟩,
           ⟨some 18, false, none, .load false 1 (.u 17)⟩,
           ⟨some 19, false, none, .mov (.t 1)⟩,
           ⟨some 20, true, none, .bin .neq (.u 18) (.u 19)⟩])
        (.cond (.t 20)
         (.exit 1)
         (.skip)))
       (.seq (.region [⟨some 21, true, none, .mov (.c (.int .i64 0))⟩])
       (.block 2 (.loop (.seq (.region [⟨some 22, true, none, .bin .lss (.t 21) (.c (.int .i64 32))⟩])
         (.seq (.cond (.t 22)
           (.skip)
           (.exit 2))
         (.seq (.block 3 (.seq (.region [⟨some 23, false, none, .mov (.t 21)⟩,
              ⟨some 8, true, none, .mov (.u 23)⟩])
           (.seq (.region [⟨some 24, false, none, .mov (.t 0)⟩,
              ⟨some 25, false, none, .mov (.t 7)⟩,
              ⟨some 26, false, none, .iaS 8 (.u 24) (.u 25)⟩,
              ⟨some 27, false, none, .faddr 2 (.u 26)⟩,
              ⟨some 28, false, none, .load false 1 (.u 27)⟩,
              ⟨some 29, false, none, .mov (.t 8)⟩,
              ⟨some 30, true, none, .call 36 [(.u 28), (.u 29)]⟩])
           (.cond (.t 30)
            (.seq (.region [⟨some 31, false, none, .mov (.t 8)⟩,
               ⟨some 32, false, none, .mov (.t 8)⟩,
               ⟨some 33, false, none, .iaA 32 1 (.t 5) (.u 32)⟩,
               ⟨some 34, false, none, .load false 1 (.u 33)⟩,
               ⟨some 35, false, none, .mov (.t 7)⟩,
               ⟨some 36, false, none, .mkS 1 1 [.int .i64 0] [(0, 1, (.u 35))]⟩,
               ⟨some 37, false, none, .app 1 8 (.u 34) (.u 36)⟩,
               ⟨some 38, false, none, .iaA 32 1 (.t 5) (.u 31)⟩,
               ⟨none, true, none, .store 1 (.u 38) (.u 37)⟩])
            (.region [⟨some 39, false, none, .mov (.t 6)⟩,
              ⟨some 40, false, none, .mov (.t 8)⟩,
              ⟨some 41, false, none, .bin .shl (.c (.int .u64 1)) (.u 40)⟩,
              ⟨some 42, false, none, .bin .or (.u 39) (.u 41)⟩,
              ⟨some 6, true, none, .mov (.u 42)⟩]))
            (.skip)))))
         (.region [⟨some 43, false, none, .bin .add (.t 21) (.c (.int .i64 1))⟩,
           ⟨some 21, true, none, .mov (.u 43)⟩]))))))))))
     (.region [⟨some 44, false, none, .bin .add (.t 11) (.c (.int .i64 1))⟩,
       ⟨some 11, true, none, .mov (.u 44)⟩])))))))
  (.seq (.region [⟨some 45, false, none, .mov (.t 6)⟩,
     ⟨some 46, false, none, .slA 32 1 (.t 5) none none none⟩,
     ⟨some 47, false, none, .call 37 [(.u 46)]⟩,
     ⟨some 48, false, none, .build [.int .u64 0, .fsl 1 0 []] [(0, 1, (.u 45)), (1, 1, (.u 47))]⟩,
     ⟨none, true, none, .store 2 (.t 4) (.u 48)⟩])
  (.ret)))))
def r25 : List LRes := [.cell true 2 4]
theorem t25 : (Try.f25.body.bind (trCode v25 Try.prog Try.f25.ntmps)) = some c25 ∧ trRes v25 Try.prog Try.f25.results.toList = some r25 := ⟨by kernel_rfl, by kernel_rfl⟩

def v26 : Nat → Bool := fun t => [0, 1, 4, 5, 7, 29, 45].contains t
def c26 : LCode :=
  .seq (.region [⟨some 4, true, none, .mov (.c (.int .i64 0))⟩])
  (.seq (.seq (.region [⟨some 6, false, none, .mov (.t 1)⟩,
      ⟨some 7, true, none, .bin .lss (.u 6) (.c (.int .i64 1))⟩])
   (.cond (.t 7)
    (.seq (.region [⟨some 4, true, none, .mov (.c (.int .i64 0))⟩])
    (.ret))
    (.skip)))
  (.seq (.region [⟨some 8, false, none, .mov (.t 0)⟩,
     ⟨some 9, false, none, .nilc (.u 8)⟩,
     ⟨some 10, false, none, .faddr 1 (.u 9)⟩,
     ⟨some 11, false, none, .load false 1 (.u 10)⟩,
     ⟨some 12, false, none, .bin .add (.u 11) (.c (.int .i64 1))⟩,
     ⟨some 13, false, none, .nilc (.u 8)⟩,
     ⟨some 14, false, none, .faddr 1 (.u 13)⟩,
     ⟨none, true, none, .store 1 (.u 14) (.u 12)⟩])
  (.seq (.region [⟨some 15, false, none, .mov (.t 0)⟩,
     ⟨some 16, false, none, .nilc (.u 15)⟩,
     ⟨some 17, false, none, .faddr 1 (.u 16)⟩,
     ⟨some 18, false, none, .load false 1 (.u 17)⟩,
     ⟨some 19, false, none, .bin .mul (.u 18) (.c (.int .i64 7))⟩,
     ⟨some 5, true, none, .mov (.u 19)⟩])
  (.seq (.seq (.regionD [⟨0, [0], false, [], ⟨some 20, false, none, .mov (.t 0)⟩⟩,
      ⟨1, [20], false, [], ⟨some 21, false, none, .nilc (.u 20)⟩⟩,
      ⟨2, [21], false, [], ⟨some 22, false, none, .faddr 1 (.u 21)⟩⟩,
      ⟨3, [22], true, [], ⟨some 23, false, none, .load false 1 (.u 22)⟩⟩,
      ⟨4, [0], false, [], ⟨some 24, false, none, .mov (.t 0)⟩⟩,
      ⟨5, [24], false, [], ⟨some 25, false, none, .nilc (.u 24)⟩⟩,
      ⟨6, [25], false, [], ⟨some 26, false, none, .faddr 0 (.u 25)⟩⟩,
      ⟨7, [26], true, [], ⟨some 27, false, none, .load false 1 (.u 26)⟩⟩,
      ⟨8, [27], false, [], ⟨some 28, false, none, .lenL (.u 27)⟩⟩,
      ⟨9, [23, 28], false, [], ⟨some 29, true, none, .bin .leq (.u 23) (.u 28)⟩⟩])
   (.cond (.t 29)
    (.regionD [⟨0, [0], false, [], ⟨some 30, false, none, .mov (.t 0)⟩⟩,
      ⟨1, [30], false, [], ⟨some 31, false, none, .nilc (.u 30)⟩⟩,
      ⟨2, [31], false, [], ⟨some 32, false, none, .faddr 0 (.u 31)⟩⟩,
      ⟨3, [32], true, [], ⟨some 33, false, none, .load false 1 (.u 32)⟩⟩,
      ⟨4, [0], false, [], ⟨some 34, false, none, .mov (.t 0)⟩⟩,
      ⟨5, [34], false, [], ⟨some 35, false, none, .nilc (.u 34)⟩⟩,
      ⟨6, [35], false, [], ⟨some 36, false, none, .faddr 1 (.u 35)⟩⟩,
      ⟨7, [36], true, [], ⟨some 37, false, none, .load false 1 (.u 36)⟩⟩,
      ⟨8, [37], false, [], ⟨some 38, false, none, .bin .sub (.u 37) (.c (.int .i64 1))⟩⟩,
      ⟨9, [33, 38], false, [], ⟨some 39, false, none, .iaS 1 (.u 33) (.u 38)⟩⟩,
      ⟨10, [39], true, [], ⟨some 40, false, none, .load false 1 (.u 39)⟩⟩,
      ⟨11, [40], false, [], ⟨some 5, true, none, .mov (.u 40)⟩⟩])
    (.skip)))
  (.seq (.region [⟨some 41, false, none, .mov (.t 5)⟩,
     ⟨some 42, false, none, .mov (.t 1)⟩,
     ⟨some 43, false, none, .bin .rem (.u 41) (.u 42)⟩,
     ⟨some 5, true, none, .mov (.u 43)⟩])
  (.seq (.seq (.region [⟨some 44, false, none, .mov (.t 5)⟩,
      ⟨some 45, true, none, .bin .lss (.u 44) (.c (.int .i64 0))⟩])
   (.cond (.t 45)
    (.region [⟨some 46, false, none, .mov (.t 5)⟩,
      ⟨some 47, false, none, .mov (.t 1)⟩,
      ⟨some 48, false, none, .bin .add (.u 46) (.u 47)⟩,
      ⟨some 5, true, none, .mov (.u 48)⟩])
    (.skip)))
  (.seq (.region [⟨some 49, false, none, .mov (.t 5)⟩,
     ⟨some 4, true, none, .mov (.u 49)⟩])
  (.ret))))))))
def r26 : List LRes := [.slot 4]
theorem t26 : (Try.f26.body.bind (trCode v26 Try.prog Try.f26.ntmps)) = some c26 ∧ trRes v26 Try.prog Try.f26.results.toList = some r26 := ⟨by kernel_rfl, by kernel_rfl⟩

def v27 : Nat → Bool := fun t => [0, 1, 2, 4, 6, 7, 8, 9, 13, 18, 23, 26, 27].contains t
def c27 : LCode :=
  .seq (.region [⟨some 4, true, none, .box (.t 1)⟩,
     ⟨some 6, true, none, .mov (.c (.fsl 1 0 []))⟩,
     ⟨some 7, true, none, .mov (.c (.int .i64 0))⟩])
  (.seq (.seq (.region [⟨some 10, false, none, .mov (.t 0)⟩,
      ⟨some 11, false, none, .call 38 [(.u 10)]⟩,
      ⟨some 8, true, none, .mov (.u 11)⟩])
   (.seq (.region [⟨some 12, false, none, .mov (.t 8)⟩,
      ⟨some 13, true, none, .bin .neq (.u 12) (.c (.int .i64 0))⟩])
   (.cond (.t 13)
    (.seq (.region [⟨some 14, false, none, .mov (.t 8)⟩,
       ⟨some 6, true, none, .mov (.c (.fsl 1 0 []))⟩,
       ⟨some 7, true, none, .mov (.u 14)⟩])
    (.ret))
    (.skip))))
  (.seq (.seq (.region [⟨some 15, false, none, .load true 8 (.t 4)⟩,
      ⟨some 16, false, none, .call 39 [(.u 15)]⟩,
      ⟨some 9, true, none, .mov (.u 16)⟩])
   (.seq (.region [⟨some 17, false, none, .mov (.t 9)⟩,
      ⟨some 18, true, none, .bin .neq (.u 17) (.c (.int .i64 0))⟩])
   (.cond (.t 18)
    (.seq (.region [⟨some 19, false, none, .mov (.t 9)⟩,
       ⟨some 6, true, none, .mov (.c (.fsl 1 0 []))⟩,
       ⟨some 7, true, none, .mov (.u 19)⟩])
    (.ret))
    (.skip))))
  (.seq (.seq (.region [⟨some 20, false, none, .mov (.t 0)⟩,
      ⟨some 21, false, none, .load true 8 (.t 4)⟩,
      ⟨some 22, false, none, .call 40 [(.u 20), (.u 21)]⟩,
      ⟨some 23, true, none, .bin .geq (.u 22) (.c (.int .i64 0))⟩])
   (.cond (.t 23)
    (.seq (.region [⟨some 6, true, none, .mov (.c (.fsl 1 0 []))⟩,
       ⟨some 7, true, none, .mov (.c (.int .i64 141))⟩])
    (.ret))
    (.skip)))
  (.seq (.seq (.region [⟨some 24, false, none, .mov (.t 0)⟩,
      ⟨some 25, false, none, .lenL (.u 24)⟩,
      ⟨some 26, true, none, .bin .eql (.u 25) (.c (.int .i64 24))⟩])
   (.cond (.t 26)
    (.seq (.region [⟨some 6, true, none, .mov (.c (.fsl 1 0 []))⟩,
       ⟨some 7, true, none, .mov (.c (.int .i64 140))⟩])
    (.ret))
    (.skip)))
  (.seq (.seq (.region [⟨some 27, true, none, .mov (.t 2)⟩])
   (.cond (.t 27)
    (.seq (.region [⟨some 28, false, none, .load true 8 (.t 4)⟩,
       ⟨some 29, false, none, .call 41 [(.u 28)]⟩,
       ⟨some 30, false, none, .mkS 8 1 [.int .i64 0, .int .i64 0, .int .u64 0, .fsl 1 0 [], .int .i64 0, .str [], .int .i64 0, .str []] [(0, 8, (.u 29))]⟩,
       ⟨some 31, false, none, .mov (.t 0)⟩,
       ⟨some 32, false, none, .call 42 [(.u 31)]⟩,
       ⟨some 33, false, none, .app 8 96 (.u 30) (.u 32)⟩,
       ⟨some 6, true, none, .mov (.u 33)⟩,
       ⟨some 7, true, none, .mov (.c (.int .i64 0))⟩])
    (.ret))
    (.skip)))
  (.seq (.regionD [⟨0, [0], false, [], ⟨some 34, false, none, .mov (.t 0)⟩⟩,
     ⟨2, [4], true, [], ⟨some 36, false, none, .load true 8 (.t 4)⟩⟩,
     ⟨1, [34], false, [2], ⟨some 35, false, none, .call 42 [(.u 34)]⟩⟩,
     ⟨3, [36], false, [], ⟨some 37, false, none, .call 41 [(.u 36)]⟩⟩,
     ⟨4, [37], false, [], ⟨some 38, false, none, .mkS 8 1 [.int .i64 0, .int .i64 0, .int .u64 0, .fsl 1 0 [], .int .i64 0, .str [], .int .i64 0, .str []] [(0, 8, (.u 37))]⟩⟩,
     ⟨5, [35, 38], false, [], ⟨some 39, false, none, .app 8 96 (.u 35) (.u 38)⟩⟩,
     ⟨6, [39], false, [], ⟨some 6, true, none, .mov (.u 39)⟩⟩,
     ⟨7, [], false, [], ⟨some 7, true, none, .mov (.c (.int .i64 0))⟩⟩])
  (.ret)))))))
def r27 : List LRes := [.slot 6, .slot 7]
theorem t27 : (Try.f27.body.bind (trCode v27 Try.prog Try.f27.ntmps)) = some c27 ∧ trRes v27 Try.prog Try.f27.results.toList = some r27 := ⟨by kernel_rfl, by kernel_rfl⟩

def v28 : Nat → Bool := fun t => [0, 2, 3, 4, 6, 13].contains t
def c28 : LCode :=
  .seq (.region [⟨some 2, true, none, .zero [.int .i64 0, .int .i64 0, .int .u64 0, .fsl 1 0 [], .int .i64 0, .str [], .int .i64 0, .str []]⟩])
  (.seq (.seq (.region [⟨some 3, true, none, .mov (.c (.int .i64 0))⟩])
   (.block 0 (.loop (.seq (.seq (.region [⟨some 5, false, none, .mov (.t 3)⟩,
         ⟨some 6, true, none, .bin .lss (.u 5) (.c (.int .i64 8))⟩])
      (.cond (.t 6)
       (.skip)
       (.exit 0)))
     (.seq (.block 1 (.seq (.region [⟨some 9, false, none, .mov (.t 0)⟩,
          ⟨some 10, false, none, .call 43 [(.u 9)]⟩,
          ⟨some 4, true, none, .zero [.int .i64 0, .int .i64 0, .int .u64 0, .fsl 1 0 [], .int .i64 0, .str [], .int .i64 0, .str []]⟩,
          ⟨none, true, none, .store 8 (.t 4) (.u 10)⟩])
       (.seq (.region [⟨some 11, false, none, .load true 8 (.t 4)⟩,
          ⟨some 12, false, none, .call 39 [(.u 11)]⟩,
          ⟨some 13, true, none, .bin .eql (.u 12) (.c (.int .i64 0))⟩])
       (.cond (.t 13)
        (.seq (.region [⟨some 14, false, none, .load true 8 (.t 4)⟩,
           ⟨none, true, none, .store 8 (.t 2) (.u 14)⟩])
        (.ret))
        (.skip)))))
     (.region [⟨some 7, false, none, .mov (.t 3)⟩,
       ⟨some 8, false, none, .bin .add (.u 7) (.c (.int .i64 1))⟩,
       ⟨some 3, true, none, .mov (.u 8)⟩]))))))
  (.seq (.region [⟨some 15, false, none, .build [.int .i64 0, .int .i64 0, .int .u64 0, .fsl 1 0 [], .int .i64 0, .str [], .int .i64 0, .str []] [(0, 1, (.c (.int .i64 3))), (1, 1, (.c (.int .i64 1))), (2, 1, (.c (.int .u64 4294967295)))]⟩,
     ⟨none, true, none, .store 8 (.t 2) (.u 15)⟩])
  (.ret)))
def r28 : List LRes := [.cell true 8 2]
theorem t28 : (Try.f28.body.bind (trCode v28 Try.prog Try.f28.ntmps)) = some c28 ∧ trRes v28 Try.prog Try.f28.results.toList = some r28 := ⟨by kernel_rfl, by kernel_rfl⟩

def v29 : Nat → Bool := fun t => [0, 2, 4].contains t
def c29 : LCode :=
  .seq (.region [⟨some 2, true, none, .mov (.c (.fsl 1 0 []))⟩])
  (.seq (.seq (.region [⟨some 3, false, none, .mov (.t 0)⟩,
      ⟨some 4, true, none, .isNil false (.u 3)⟩])
   (.cond (.t 4)
    (.seq (.region [⟨some 2, true, none, .mov (.c (.fsl 1 0 []))⟩])
    (.ret))
    (.skip)))
  (.seq (.region [⟨some 5, false, none, .mkS 1 0 [.int .i64 0] []⟩,
     ⟨some 6, false, none, .mov (.t 0)⟩,
     ⟨some 7, false, none, .app 1 8 (.u 5) (.u 6)⟩,
     ⟨some 2, true, none, .mov (.u 7)⟩])
  (.ret)))
def r29 : List LRes := [.slot 2]
theorem t29 : (Try.f29.body.bind (trCode v29 Try.prog Try.f29.ntmps)) = some c29 ∧ trRes v29 Try.prog Try.f29.results.toList = some r29 := ⟨by kernel_rfl, by kernel_rfl⟩

def v30 : Nat → Bool := fun t => [0, 2, 3].contains t
def c30 : LCode :=
  .seq (.region [⟨some 2, true, none, .zero [.int .i64 0, .int .i64 0, .int .i64 0, .int .i64 0, .int .i64 0, .int .i64 0, .int .i64 0, .int .i64 0, .int .i64 0, .int .i64 0, .str [], .str [], .fsl 1 0 [], .bool false]⟩])
  (.seq (.region [⟨some 4, false, none, .mkS 1 6 [.int .i64 0] [(0, 1, (.c (.int .i64 0))), (1, 1, (.c (.int .i64 0))), (2, 1, (.c (.int .i64 5))), (3, 1, (.c (.int .i64 7))), (4, 1, (.c (.int .i64 1000))), (5, 1, (.c (.int .i64 4294967295)))]⟩,
     ⟨some 3, true, none, .mov (.u 4)⟩])
  (.seq (.region [⟨some 5, false, none, .mov (.t 0)⟩,
     ⟨some 6, false, none, .call 22 [(.u 5), (.c (.int .i64 1)), (.c (.int .i64 4))]⟩,
     ⟨some 7, false, none, .mov (.t 0)⟩,
     ⟨some 8, false, none, .call 26 [(.u 7), (.c (.int .i64 3))]⟩,
     ⟨some 9, false, none, .mov (.t 0)⟩,
     ⟨some 10, false, none, .mov (.t 3)⟩,
     ⟨some 11, false, none, .call 32 [(.u 9), (.u 10)]⟩,
     ⟨some 12, false, none, .mov (.t 0)⟩,
     ⟨some 13, false, none, .mov (.t 3)⟩,
     ⟨some 14, false, none, .call 32 [(.u 12), (.u 13)]⟩,
     ⟨some 15, false, none, .mov (.t 0)⟩,
     ⟨some 16, false, none, .mov (.t 3)⟩,
     ⟨some 17, false, none, .call 32 [(.u 15), (.u 16)]⟩,
     ⟨some 18, false, none, .mov (.t 0)⟩,
     ⟨some 19, false, none, .mov (.t 3)⟩,
     ⟨some 20, false, none, .call 32 [(.u 18), (.u 19)]⟩,
     ⟨some 21, false, none, .mov (.t 0)⟩,
     ⟨some 22, false, none, .mov (.t 3)⟩,
     ⟨some 23, false, none, .call 32 [(.u 21), (.u 22)]⟩,
     ⟨some 24, false, none, .mov (.t 0)⟩,
     ⟨some 25, false, none, .mov (.t 3)⟩,
     ⟨some 26, false, none, .call 32 [(.u 24), (.u 25)]⟩,
     ⟨some 27, false, none, .mov (.t 0)⟩,
     ⟨some 28, false, none, .mkS 1 3 [.str []] [(0, 1, (.c (.str [105, 110, 105, 116]))), (1, 1, (.c (.str [97]))), (2, 1, (.c (.str [98])))]⟩,
     ⟨some 29, false, none, .call 44 [(.u 27), (.u 28)]⟩,
     ⟨some 30, false, none, .mov (.t 0)⟩,
     ⟨some 31, false, none, .mkS 1 3 [.str []] [(0, 1, (.c (.str [47, 105, 110, 105, 116]))), (1, 1, (.c (.str [47, 97]))), (2, 1, (.c (.str [])))]⟩,
     ⟨some 32, false, none, .call 44 [(.u 30), (.u 31)]⟩,
     ⟨some 33, false, none, .mov (.t 0)⟩,
     ⟨some 34, false, none, .call 26 [(.u 33), (.c (.int .i64 8))]⟩,
     ⟨some 35, false, none, .bin .gtr (.u 34) (.c (.int .i64 0))⟩,
     ⟨some 36, false, none, .build [.int .i64 0, .int .i64 0, .int .i64 0, .int .i64 0, .int .i64 0, .int .i64 0, .int .i64 0, .int .i64 0, .int .i64 0, .int .i64 0, .str [], .str [], .fsl 1 0 [], .bool false] [(0, 1, (.u 6)), (1, 1, (.u 8)), (2, 1, (.u 11)), (3, 1, (.u 14)), (4, 1, (.u 17)), (5, 1, (.u 20)), (6, 1, (.u 23)), (7, 1, (.u 26)), (10, 1, (.u 29)), (11, 1, (.u 32)), (13, 1, (.u 35))]⟩,
     ⟨none, true, none, .store 14 (.t 2) (.u 36)⟩])
  (.ret)))
def r30 : List LRes := [.cell true 14 2]
theorem t30 : (Try.f30.body.bind (trCode v30 Try.prog Try.f30.ntmps)) = some c30 ∧ trRes v30 Try.prog Try.f30.results.toList = some r30 := ⟨by kernel_rfl, by kernel_rfl⟩

def v31 : Nat → Bool := fun t => [0, 2, 3, 4, 5, 6, 7, 8, 9, 10, 25, 35, 36, 46, 53, 60, 71, 86, 99].contains t
def c31 : LCode :=
  .seq (.region [⟨some 2, true, none, .zero [.int .i64 0, .int .i64 0, .int .i64 0, .int .i64 0, .int .i64 0, .fsl 1 0 [], .fsl 1 0 []]⟩])
  (.seq (.region [⟨some 11, false, none, .mov (.t 0)⟩,
     ⟨some 12, false, none, .mkS 1 26 [.int .i64 0] [(0, 1, (.c (.int .i64 0))), (1, 1, (.c (.int .i64 1))), (2, 1, (.c (.int .i64 2))), (3, 1, (.c (.int .i64 3))), (4, 1, (.c (.int .i64 4))), (5, 1, (.c (.int .i64 5))), (6, 1, (.c (.int .i64 6))), (7, 1, (.c (.int .i64 6))), (8, 1, (.c (.int .i64 6))), (9, 1, (.c (.int .i64 7))), (10, 1, (.c (.int .i64 8))), (11, 1, (.c (.int .i64 9))), (12, 1, (.c (.int .i64 10))), (13, 1, (.c (.int .i64 11))), (14, 1, (.c (.int .i64 11))), (15, 1, (.c (.int .i64 12))), (16, 1, (.c (.int .i64 13))), (17, 1, (.c (.int .i64 13))), (18, 1, (.c (.int .i64 14))), (19, 1, (.c (.int .i64 15))), (20, 1, (.c (.int .i64 16))), (21, 1, (.c (.int .i64 17))), (22, 1, (.c (.int .i64 18))), (23, 1, (.c (.int .i64 19))), (24, 1, (.c (.int .i64 20))), (25, 1, (.c (.int .i64 21)))]⟩,
     ⟨some 13, false, none, .call 32 [(.u 11), (.u 12)]⟩,
     ⟨some 14, false, none, .build [.int .i64 0, .int .i64 0, .int .i64 0, .int .i64 0, .int .i64 0, .fsl 1 0 [], .fsl 1 0 []] [(0, 1, (.u 13))]⟩,
     ⟨some 3, true, none, .zero [.int .i64 0, .int .i64 0, .int .i64 0, .int .i64 0, .int .i64 0, .fsl 1 0 [], .fsl 1 0 []]⟩,
     ⟨none, true, none, .store 7 (.t 3) (.u 14)⟩])
  (.seq (.region [⟨some 16, false, none, .faddr 0 (.t 3)⟩,
     ⟨some 17, false, none, .load false 1 (.u 16)⟩,
     ⟨some 18, false, none, .call 45 [(.u 17)]⟩,
     ⟨some 15, false, none, .mov (.u 18)⟩,
     ⟨some 19, false, none, .ext (.u 15) 0⟩,
     ⟨some 20, false, none, .ext (.u 15) 1⟩,
     ⟨some 21, false, none, .ext (.u 15) 2⟩,
     ⟨some 22, false, none, .ext (.u 15) 3⟩,
     ⟨some 4, true, none, .mov (.u 19)⟩,
     ⟨some 5, true, none, .mov (.u 20)⟩,
     ⟨some 6, true, none, .mov (.u 21)⟩,
     ⟨some 7, true, none, .mov (.u 22)⟩])
  (.seq (.seq (.region [⟨some 8, true, none, .mov (.c (.int .i64 0))⟩])
   (.block 0 (.loop (.seq (.seq (.region [⟨some 23, false, none, .mov (.t 8)⟩,
         ⟨some 24, false, none, .mov (.t 4)⟩,
         ⟨some 25, true, none, .bin .lss (.u 23) (.u 24)⟩])
      (.cond (.t 25)
       (.skip)
       (.exit 0)))
     (.seq (.block 1 (.region [⟨some 28, false, none, .mov (.t 8)⟩,
         ⟨some 29, false, none, .mov (.t 0)⟩,
         ⟨some 30, false, none, .mkS 1 8 [.int .i64 0] [(0, 1, (.c (.int .i64 0))), (1, 1, (.c (.int .i64 1))), (2, 1, (.c (.int .i64 2))), (3, 1, (.c (.int .i64 3))), (4, 1, (.c (.int .i64 5))), (5, 1, (.c (.int .i64 7))), (6, 1, (.c (.int .i64 420))), (7, 1, (.c (.int .i64 493)))]⟩,
         ⟨some 31, false, none, .call 32 [(.u 29), (.u 30)]⟩,
         ⟨some 32, false, none, .faddr 1 (.t 3)⟩,
         ⟨some 33, false, none, .iaA 4 1 (.u 32) (.u 28)⟩,
         ⟨none, true, none, .store 1 (.u 33) (.u 31)⟩]))
     (.region [⟨some 26, false, none, .mov (.t 8)⟩,
       ⟨some 27, false, none, .bin .add (.u 26) (.c (.int .i64 1))⟩,
       ⟨some 8, true, none, .mov (.u 27)⟩]))))))
  (.seq (.seq (.region [⟨some 34, false, none, .faddr 0 (.t 3)⟩,
      ⟨some 35, true, none, .load false 1 (.u 34)⟩])
   (.block 2 (.seq (.region [⟨some 37, false, none, .bin .eql (.t 35) (.c (.int .i64 6))⟩,
       ⟨some 36, true, none, .mov (.u 37)⟩])
    (.cond (.t 36)
     (.region [⟨some 38, false, none, .mov (.t 0)⟩,
       ⟨some 39, false, none, .mkS 1 12 [.int .i64 0] [(0, 1, (.c (.int .i64 1))), (1, 1, (.c (.int .i64 2))), (2, 1, (.c (.int .i64 3))), (3, 1, (.c (.int .i64 6))), (4, 1, (.c (.int .i64 6))), (5, 1, (.c (.int .i64 7))), (6, 1, (.c (.int .i64 14))), (7, 1, (.c (.int .i64 22))), (8, 1, (.c (.int .i64 33))), (9, 1, (.c (.int .i64 38))), (10, 1, (.c (.int .i64 0))), (11, 1, (.c (.int .i64 64)))]⟩,
       ⟨some 40, false, none, .call 32 [(.u 38), (.u 39)]⟩,
       ⟨some 41, false, none, .mov (.t 0)⟩,
       ⟨some 42, false, none, .mkS 1 5 [.int .i64 0] [(0, 1, (.c (.int .i64 420))), (1, 1, (.c (.int .i64 384))), (2, 1, (.c (.int .i64 0))), (3, 1, (.c (.int .i64 511))), (4, 1, (.c (.int .i64 512)))]⟩,
       ⟨some 43, false, none, .call 32 [(.u 41), (.u 42)]⟩,
       ⟨some 44, false, none, .build [.int .i64 0, .int .i64 0, .int .i64 0, .int .i64 0] [(0, 1, (.u 40)), (1, 1, (.u 43))]⟩,
       ⟨some 45, false, none, .faddr 1 (.t 3)⟩,
       ⟨none, true, none, .store 4 (.u 45) (.u 44)⟩])
     (.seq (.region [⟨some 47, false, none, .bin .eql (.t 35) (.c (.int .i64 11))⟩,
        ⟨some 46, true, none, .mov (.u 47)⟩])
     (.cond (.t 46)
      (.region [⟨some 48, false, none, .mov (.t 0)⟩,
        ⟨some 49, false, none, .mkS 1 4 [.int .i64 0] [(0, 1, (.c (.int .i64 493))), (1, 1, (.c (.int .i64 511))), (2, 1, (.c (.int .i64 448))), (3, 1, (.c (.int .i64 512)))]⟩,
        ⟨some 50, false, none, .call 32 [(.u 48), (.u 49)]⟩,
        ⟨some 51, false, none, .faddr 1 (.t 3)⟩,
        ⟨some 52, false, none, .iaA 4 1 (.u 51) (.c (.int .i64 0))⟩,
        ⟨none, true, none, .store 1 (.u 52) (.u 50)⟩])
      (.seq (.seq (.region [⟨some 54, false, none, .bin .eql (.t 35) (.c (.int .i64 2))⟩,
          ⟨some 53, true, none, .mov (.u 54)⟩])
       (.cond (.t 53)
        (.skip)
        (.region [⟨some 55, false, none, .bin .eql (.t 35) (.c (.int .i64 7))⟩,
          ⟨some 53, true, none, .mov (.u 55)⟩])))
      (.cond (.t 53)
       (.region [⟨some 56, false, none, .mov (.t 0)⟩,
         ⟨some 57, false, none, .call 26 [(.u 56), (.c (.int .i64 3))]⟩,
         ⟨some 58, false, none, .faddr 1 (.t 3)⟩,
         ⟨some 59, false, none, .iaA 4 1 (.u 58) (.c (.int .i64 0))⟩,
         ⟨none, true, none, .store 1 (.u 59) (.u 57)⟩])
       (.seq (.region [⟨some 61, false, none, .bin .eql (.t 35) (.c (.int .i64 20))⟩,
          ⟨some 60, true, none, .mov (.u 61)⟩])
       (.cond (.t 60)
        (.region [⟨some 62, false, none, .mov (.t 0)⟩,
          ⟨some 63, false, none, .call 22 [(.u 62), (.c (.int .i64 1)), (.c (.int .i64 4))]⟩,
          ⟨some 64, false, none, .mov (.t 0)⟩,
          ⟨some 65, false, none, .mkS 1 5 [.int .i64 0] [(0, 1, (.c (.int .i64 9))), (1, 1, (.c (.int .i64 0))), (2, 1, (.c (.int .i64 64))), (3, 1, (.c (.int .i64 65))), (4, 1, (.c (.int .i64 9)))]⟩,
          ⟨some 66, false, none, .call 32 [(.u 64), (.u 65)]⟩,
          ⟨some 67, false, none, .build [.int .i64 0, .int .i64 0, .int .i64 0, .int .i64 0] [(0, 1, (.u 63)), (1, 1, (.u 66))]⟩,
          ⟨some 68, false, none, .faddr 1 (.t 3)⟩,
          ⟨none, true, none, .store 4 (.u 68) (.u 67)⟩])
        (.skip)))))))))))
  (.seq (.seq (.region [⟨some 9, true, none, .mov (.c (.int .i64 0))⟩])
   (.block 3 (.loop (.seq (.seq (.region [⟨some 69, false, none, .mov (.t 9)⟩,
         ⟨some 70, false, none, .mov (.t 5)⟩,
         ⟨some 71, true, none, .bin .lss (.u 69) (.u 70)⟩])
      (.cond (.t 71)
       (.skip)
       (.exit 3)))
     (.seq (.block 4 (.regionD [⟨0, [3], false, [], ⟨some 74, false, none, .faddr 5 (.t 3)⟩⟩,
         ⟨1, [74], true, [], ⟨some 75, false, none, .load false 1 (.u 74)⟩⟩,
         ⟨2, [0], false, [], ⟨some 76, false, none, .mov (.t 0)⟩⟩,
         ⟨3, [76], false, [1], ⟨some 77, false, none, .call 46 [(.u 76)]⟩⟩,
         ⟨4, [77], false, [], ⟨some 78, false, none, .mkS 1 1 [.str []] [(0, 1, (.u 77))]⟩⟩,
         ⟨5, [75, 78], false, [], ⟨some 79, false, none, .app 1 16 (.u 75) (.u 78)⟩⟩,
         ⟨6, [3], false, [], ⟨some 80, false, none, .faddr 5 (.t 3)⟩⟩,
         ⟨7, [80, 79], false, [], ⟨none, true, none, .store 1 (.u 80) (.u 79)⟩⟩]))
     (.region [⟨some 72, false, none, .mov (.t 9)⟩,
       ⟨some 73, false, none, .bin .add (.u 72) (.c (.int .i64 1))⟩,
       ⟨some 9, true, none, .mov (.u 73)⟩]))))))
  (.seq (.seq (.region [⟨some 81, false, none, .mov (.t 0)⟩,
      ⟨some 82, false, none, .mov (.t 6)⟩,
      ⟨some 83, false, none, .mov (.t 7)⟩,
      ⟨some 84, false, none, .call 22 [(.u 81), (.u 82), (.u 83)]⟩,
      ⟨some 10, true, none, .mov (.u 84)⟩])
   (.block 5 (.loop (.seq (.seq (.region [⟨some 85, false, none, .mov (.t 10)⟩,
         ⟨some 86, true, none, .bin .gtr (.u 85) (.c (.int .i64 0))⟩])
      (.cond (.t 86)
       (.skip)
       (.exit 5)))
     (.seq (.block 6 (.regionD [⟨0, [3], false, [], ⟨some 89, false, none, .faddr 6 (.t 3)⟩⟩,
         ⟨1, [89], true, [], ⟨some 90, false, none, .load false 1 (.u 89)⟩⟩,
         ⟨2, [0], false, [], ⟨some 91, false, none, .mov (.t 0)⟩⟩,
         ⟨3, [], false, [], ⟨some 92, false, none, .mkS 1 8 [.str []] [(0, 1, (.c (.str [97]))), (1, 1, (.c (.str [47, 97]))), (2, 1, (.c (.str [98, 47, 99]))), (3, 1, (.c (.str [104, 111, 115, 116]))), (4, 1, (.c (.str []))), (5, 1, (.c (.str [46, 46, 47, 98]))), (6, 1, (.c (.str [47]))), (7, 1, (.c (.str [120, 32, 121])))]⟩⟩,
         ⟨4, [91, 92], false, [1], ⟨some 93, false, none, .call 44 [(.u 91), (.u 92)]⟩⟩,
         ⟨5, [93], false, [], ⟨some 94, false, none, .mkS 1 1 [.str []] [(0, 1, (.u 93))]⟩⟩,
         ⟨6, [90, 94], false, [], ⟨some 95, false, none, .app 1 16 (.u 90) (.u 94)⟩⟩,
         ⟨7, [3], false, [], ⟨some 96, false, none, .faddr 6 (.t 3)⟩⟩,
         ⟨8, [96, 95], false, [], ⟨none, true, none, .store 1 (.u 96) (.u 95)⟩⟩]))
     (.region [⟨some 87, false, none, .mov (.t 10)⟩,
       ⟨some 88, false, none, .bin .sub (.u 87) (.c (.int .i64 1))⟩,
       ⟨some 10, true, none, .mov (.u 88)⟩]))))))
  (.seq (.seq (.region [⟨some 97, false, none, .mov (.t 0)⟩,
      ⟨some 98, false, none, .call 26 [(.u 97), (.c (.int .i64 40))]⟩,
      ⟨some 99, true, none, .bin .eql (.u 98) (.c (.int .i64 39))⟩])
   (.cond (.t 99)
    (.region [⟨some 100, false, none, .mov (.t 0)⟩,
      ⟨some 101, false, none, .call 26 [(.u 100), (.c (.int .i64 2))]⟩,
      ⟨some 102, false, none, .mov (.t 0)⟩,
      ⟨some 103, false, none, .call 22 [(.u 102), (.c (.int .i64 (-1))), (.c (.int .i64 33))]⟩,
      ⟨some 104, false, none, .faddr 1 (.t 3)⟩,
      ⟨some 105, false, none, .iaA 4 1 (.u 104) (.c (.int .i64 3))⟩,
      ⟨none, true, none, .store 1 (.u 105) (.u 101)⟩,
      ⟨some 106, false, none, .faddr 0 (.t 3)⟩,
      ⟨none, true, none, .store 1 (.u 106) (.u 103)⟩])
    (.skip)))
  (.seq (.region [⟨some 107, false, none, .load true 7 (.t 3)⟩,
     ⟨none, true, none, .store 7 (.t 2) (.u 107)⟩])
  (.ret)))))))))
def r31 : List LRes := [.cell true 7 2]
theorem t31 : (Try.f31.body.bind (trCode v31 Try.prog Try.f31.ntmps)) = some c31 ∧ trRes v31 Try.prog Try.f31.results.toList = some r31 := ⟨by kernel_rfl, by kernel_rfl⟩

def v32 : Nat → Bool := fun t => [0, 1, 4].contains t
def c32 : LCode :=
  .seq (.region [⟨some 4, true, none, .mov (.c (.int .i64 0))⟩])
  (.seq (.region [⟨some 5, false, none, .mov (.t 1)⟩,
     ⟨some 6, false, none, .mov (.t 0)⟩,
     ⟨some 7, false, none, .mov (.t 1)⟩,
     ⟨some 8, false, none, .lenL (.u 7)⟩,
     ⟨some 9, false, none, .call 26 [(.u 6), (.u 8)]⟩,
     ⟨some 10, false, none, .iaS 1 (.u 5) (.u 9)⟩,
     ⟨some 11, false, none, .load false 1 (.u 10)⟩,
     ⟨some 4, true, none, .mov (.u 11)⟩])
  (.ret))
def r32 : List LRes := [.slot 4]
theorem t32 : (Try.f32.body.bind (trCode v32 Try.prog Try.f32.ntmps)) = some c32 ∧ trRes v32 Try.prog Try.f32.results.toList = some r32 := ⟨by kernel_rfl, by kernel_rfl⟩

def v33 : Nat → Bool := fun t => [0, 2, 3, 13].contains t
def c33 : LCode :=
  .seq (.region [⟨some 2, true, none, .zero [.str [], .str [], .int .i64 0, .int .i64 0, .str [], .int .i64 0, .int .i64 0, .int .i64 0, .int .i64 0, .int .i64 0, .int .i64 0, .int .i64 0, .int .i64 0]⟩])
  (.seq (.region [⟨some 4, false, none, .mov (.t 0)⟩,
     ⟨some 5, false, none, .call 46 [(.u 4)]⟩,
     ⟨some 6, false, none, .mov (.t 0)⟩,
     ⟨some 7, false, none, .call 22 [(.u 6), (.c (.int .i64 1)), (.c (.int .i64 3))]⟩,
     ⟨some 8, false, none, .mov (.t 0)⟩,
     ⟨some 9, false, none, .call 26 [(.u 8), (.c (.int .i64 16))]⟩,
     ⟨some 10, false, none, .build [.str [], .str [], .int .i64 0, .int .i64 0, .str [], .int .i64 0, .int .i64 0, .int .i64 0, .int .i64 0, .int .i64 0, .int .i64 0, .int .i64 0, .int .i64 0] [(0, 1, (.u 5)), (7, 1, (.u 7)), (12, 1, (.u 9))]⟩,
     ⟨some 3, true, none, .zero [.str [], .str [], .int .i64 0, .int .i64 0, .str [], .int .i64 0, .int .i64 0, .int .i64 0, .int .i64 0, .int .i64 0, .int .i64 0, .int .i64 0, .int .i64 0]⟩,
     ⟨none, true, none, .store 13 (.t 3) (.u 10)⟩])
  (.seq (.seq (.region [⟨some 11, false, none, .mov (.t 0)⟩,
      ⟨some 12, false, none, .call 26 [(.u 11), (.c (.int .i64 4))]⟩,
      ⟨some 13, true, none, .bin .gtr (.u 12) (.c (.int .i64 0))⟩])
   (.cond (.t 13)
    (.seq (.region [⟨some 14, false, none, .mov (.t 0)⟩,
       ⟨some 15, false, none, .call 47 [(.u 14)]⟩,
       ⟨some 16, false, none, .mov (.t 0)⟩,
       ⟨some 17, false, none, .call 22 [(.u 16), (.c (.int .i64 1)), (.c (.int .i64 4))]⟩,
       ⟨some 18, false, none, .build [.int .i64 0, .int .i64 0] [(1, 1, (.u 17))]⟩,
       ⟨some 19, false, none, .mov (.t 0)⟩,
       ⟨some 20, false, none, .call 48 [(.u 19)]⟩,
       ⟨some 21, false, none, .faddr 1 (.t 3)⟩,
       ⟨none, true, none, .store 1 (.u 21) (.u 15)⟩,
       ⟨some 22, false, none, .faddr 2 (.t 3)⟩,
       ⟨none, true, none, .store 2 (.u 22) (.u 18)⟩,
       ⟨some 23, false, none, .faddr 4 (.t 3)⟩,
       ⟨none, true, none, .store 1 (.u 23) (.u 20)⟩])
    (.region [⟨some 24, false, none, .mov (.t 0)⟩,
      ⟨some 25, false, none, .call 26 [(.u 24), (.c (.int .i64 2))]⟩,
      ⟨some 26, false, none, .mov (.t 0)⟩,
      ⟨some 27, false, none, .call 26 [(.u 26), (.c (.int .i64 5))]⟩,
      ⟨some 28, false, none, .build [.int .i64 0, .int .i64 0] [(0, 1, (.u 25)), (1, 1, (.u 27))]⟩,
      ⟨some 29, false, none, .mov (.t 0)⟩,
      ⟨some 30, false, none, .call 26 [(.u 29), (.c (.int .i64 4))]⟩,
      ⟨some 31, false, none, .mov (.t 0)⟩,
      ⟨some 32, false, none, .mkS 1 3 [.int .i64 0] [(0, 1, (.c (.int .i64 0))), (1, 1, (.c (.int .i64 5))), (2, 1, (.c (.int .i64 7)))]⟩,
      ⟨some 33, false, none, .call 32 [(.u 31), (.u 32)]⟩,
      ⟨some 34, false, none, .mov (.t 0)⟩,
      ⟨some 35, false, none, .mkS 1 3 [.int .i64 0] [(0, 1, (.c (.int .i64 0))), (1, 1, (.c (.int .i64 5))), (2, 1, (.c (.int .i64 7)))]⟩,
      ⟨some 36, false, none, .call 32 [(.u 34), (.u 35)]⟩,
      ⟨some 37, false, none, .faddr 5 (.t 3)⟩,
      ⟨none, true, none, .store 2 (.u 37) (.u 28)⟩,
      ⟨some 38, false, none, .faddr 8 (.t 3)⟩,
      ⟨none, true, none, .store 1 (.u 38) (.u 30)⟩,
      ⟨some 39, false, none, .faddr 9 (.t 3)⟩,
      ⟨none, true, none, .store 1 (.u 39) (.c (.int .i64 420))⟩,
      ⟨some 40, false, none, .faddr 10 (.t 3)⟩,
      ⟨none, true, none, .store 1 (.u 40) (.u 33)⟩,
      ⟨some 41, false, none, .faddr 11 (.t 3)⟩,
      ⟨none, true, none, .store 1 (.u 41) (.u 36)⟩]))
    (.skip)))
  (.seq (.region [⟨some 42, false, none, .load true 13 (.t 3)⟩,
     ⟨none, true, none, .store 13 (.t 2) (.u 42)⟩])
  (.ret))))
def r33 : List LRes := [.cell true 13 2]
theorem t33 : (Try.f33.body.bind (trCode v33 Try.prog Try.f33.ntmps)) = some c33 ∧ trRes v33 Try.prog Try.f33.results.toList = some r33 := ⟨by kernel_rfl, by kernel_rfl⟩

def v34 : Nat → Bool := fun t => [0, 1, 2, 3, 5, 6, 7, 28, 33, 43].contains t
def c34 : LCode :=
  .seq (.region [⟨some 3, true, none, .box (.t 0)⟩,
     ⟨some 5, true, none, .box (.t 2)⟩,
     ⟨some 6, true, none, .mov (.c (.bool false))⟩])
  (.seq (.seq (.region [⟨some 8, false, none, .faddr 2 (.t 3)⟩,
      ⟨some 9, false, none, .load false 1 (.u 8)⟩,
      ⟨some 10, false, none, .bin .neq (.u 9) (.c (.int .u64 0))⟩,
      ⟨some 11, false, none, .mov (.u 10)⟩,
      ⟨some 12, false, some ((.u 11), true), .faddr 2 (.t 3)⟩,
      ⟨some 13, false, some ((.u 11), true), .load false 1 (.u 12)⟩,
      ⟨some 14, false, some ((.u 11), true), .faddr 15 (.t 5)⟩,
      ⟨some 15, false, some ((.u 11), true), .faddr 0 (.u 14)⟩,
      ⟨some 16, false, some ((.u 11), true), .load false 1 (.u 15)⟩,
      ⟨some 17, false, some ((.u 11), true), .call 20 [(.u 13), (.u 16)]⟩,
      ⟨some 18, false, some ((.u 11), true), .un .not (.u 17)⟩,
      ⟨some 19, false, none, .pick (.u 11) (.u 18) (.c (.bool false))⟩,
      ⟨some 20, false, none, .mov (.u 19)⟩,
      ⟨some 21, false, some ((.u 20), false), .faddr 4 (.t 3)⟩,
      ⟨some 22, false, some ((.u 20), false), .load false 1 (.u 21)⟩,
      ⟨some 23, false, some ((.u 20), false), .bin .neq (.u 22) (.c (.int .i64 0))⟩,
      ⟨some 24, false, some ((.u 20), false), .mov (.u 23)⟩,
      ⟨some 25, false, some ((.u 24), true), .mov (.t 1)⟩,
      ⟨some 26, false, some ((.u 24), true), .un .not (.u 25)⟩,
      ⟨some 27, false, some ((.u 20), false), .pick (.u 24) (.u 26) (.c (.bool false))⟩,
      ⟨some 28, true, none, .pick (.u 20) (.c (.bool true)) (.u 27)⟩])
   (.cond (.t 28)
    (.seq (.region [⟨some 6, true, none, .mov (.c (.bool false))⟩])
    (.ret))
    (.skip)))
  (.seq (.seq (.region [⟨some 7, true, none, .mov (.c (.int .i64 0))⟩])
   (.block 0 (.loop (.seq (.seq (.region [⟨some 29, false, none, .mov (.t 7)⟩,
         ⟨some 30, false, none, .faddr 3 (.t 3)⟩,
         ⟨some 31, false, none, .load false 1 (.u 30)⟩,
         ⟨some 32, false, none, .lenL (.u 31)⟩,
         ⟨some 33, true, none, .bin .lss (.u 29) (.u 32)⟩])
      (.cond (.t 33)
       (.skip)
       (.exit 0)))
     (.seq (.block 1 (.seq (.regionD [⟨0, [3], false, [], ⟨some 36, false, none, .faddr 3 (.t 3)⟩⟩,
          ⟨1, [36], true, [], ⟨some 37, false, none, .load false 1 (.u 36)⟩⟩,
          ⟨2, [7], false, [], ⟨some 38, false, none, .mov (.t 7)⟩⟩,
          ⟨3, [37, 38], false, [], ⟨some 39, false, none, .iaS 5 (.u 37) (.u 38)⟩⟩,
          ⟨4, [39], true, [], ⟨some 40, false, none, .load true 5 (.u 39)⟩⟩,
          ⟨5, [5], true, [], ⟨some 41, false, none, .load true 25 (.t 5)⟩⟩,
          ⟨6, [40, 41], false, [], ⟨some 42, false, none, .call 49 [(.u 40), (.u 41)]⟩⟩,
          ⟨7, [42], false, [], ⟨some 43, true, none, .un .not (.u 42)⟩⟩])
       (.cond (.t 43)
        (.seq (.region [⟨some 6, true, none, .mov (.c (.bool false))⟩])
        (.ret))
        (.skip))))
     (.region [⟨some 34, false, none, .mov (.t 7)⟩,
       ⟨some 35, false, none, .bin .add (.u 34) (.c (.int .i64 1))⟩,
       ⟨some 7, true, none, .mov (.u 35)⟩]))))))
  (.seq (.region [⟨some 6, true, none, .mov (.c (.bool true))⟩])
  (.ret))))
def r34 : List LRes := [.slot 6]
theorem t34 : (Try.f34.body.bind (trCode v34 Try.prog Try.f34.ntmps)) = some c34 ∧ trRes v34 Try.prog Try.f34.results.toList = some r34 := ⟨by kernel_rfl, by kernel_rfl⟩

def v35 : Nat → Bool := fun t => [0, 1, 2, 3, 5, 6, 8, 20, 22, 23, 24, 25, 31].contains t
def c35 : LCode :=
  .seq (.region [⟨some 3, true, none, .box (.t 0)⟩,
     ⟨some 5, true, none, .box (.t 2)⟩,
     ⟨some 6, true, none, .mov (.c (.bool false))⟩])
  (.seq (.seq (.region [⟨some 9, false, none, .faddr 2 (.t 3)⟩,
      ⟨some 10, false, none, .load false 1 (.u 9)⟩,
      ⟨some 11, false, none, .bin .neq (.u 10) (.c (.int .u64 0))⟩,
      ⟨some 12, false, none, .mov (.u 11)⟩,
      ⟨some 13, false, some ((.u 12), true), .faddr 2 (.t 3)⟩,
      ⟨some 14, false, some ((.u 12), true), .load false 1 (.u 13)⟩,
      ⟨some 15, false, some ((.u 12), true), .faddr 15 (.t 5)⟩,
      ⟨some 16, false, some ((.u 12), true), .faddr 0 (.u 15)⟩,
      ⟨some 17, false, some ((.u 12), true), .load false 1 (.u 16)⟩,
      ⟨some 18, false, some ((.u 12), true), .call 50 [(.u 14), (.u 17)]⟩,
      ⟨some 19, false, some ((.u 12), true), .un .not (.u 18)⟩,
      ⟨some 20, true, none, .pick (.u 12) (.u 19) (.c (.bool false))⟩])
   (.cond (.t 20)
    (.seq (.region [⟨some 6, true, none, .mov (.c (.bool false))⟩])
    (.ret))
    (.skip)))
  (.seq (.seq (.region [⟨some 21, false, none, .faddr 3 (.t 3)⟩,
      ⟨some 22, true, none, .load false 1 (.u 21)⟩,
      ⟨some 23, true, none, .lenL (.t 22)⟩,
      ⟨some 24, true, none, .mov (.c (.int .i64 0))⟩])
   (.block 0 (.loop (.seq (.region [⟨some 25, true, none, .bin .lss (.t 24) (.t 23)⟩])
     (.seq (.cond (.t 25)
       (.skip)
       (.exit 0))
     (.seq (.block 1 (.seq (.region [⟨some 26, false, none, .iaS 5 (.t 22) (.t 24)⟩,
          ⟨some 27, false, none, .load true 5 (.u 26)⟩,
          ⟨some 8, true, none, .zero [.int .i64 0, .int .i64 0, .int .i64 0, .str [], .int .i64 0]⟩,
          ⟨none, true, none, .store 5 (.t 8) (.u 27)⟩])
       (.seq (.region [⟨some 28, false, none, .load true 5 (.t 8)⟩,
          ⟨some 29, false, none, .load true 25 (.t 5)⟩,
          ⟨some 30, false, none, .call 51 [(.u 28), (.u 29)]⟩,
          ⟨some 31, true, none, .un .not (.u 30)⟩])
       (.cond (.t 31)
        (.seq (.region [⟨some 6, true, none, .mov (.c (.bool false))⟩])
        (.ret))
        (.skip)))))
     (.region [⟨some 32, false, none, .bin .add (.t 24) (.c (.int .i64 1))⟩,
       ⟨some 24, true, none, .mov (.u 32)⟩])))))))
  (.seq (.region [⟨some 33, false, none, .faddr 4 (.t 3)⟩,
     ⟨some 34, false, none, .load false 1 (.u 33)⟩,
     ⟨some 35, false, none, .bin .eql (.u 34) (.c (.int .i64 0))⟩,
     ⟨some 36, false, none, .mov (.u 35)⟩,
     ⟨some 37, false, some ((.u 36), false), .mov (.t 1)⟩,
     ⟨some 38, false, none, .pick (.u 36) (.c (.bool true)) (.u 37)⟩,
     ⟨some 6, true, none, .mov (.u 38)⟩])
  (.ret))))
def r35 : List LRes := [.slot 6]
theorem t35 : (Try.f35.body.bind (trCode v35 Try.prog Try.f35.ntmps)) = some c35 ∧ trRes v35 Try.prog Try.f35.results.toList = some r35 := ⟨by kernel_rfl, by kernel_rfl⟩

def v36 : Nat → Bool := fun t => [0, 1, 4].contains t
def c36 : LCode :=
  .seq (.region [⟨some 4, true, none, .mov (.c (.bool false))⟩])
  (.seq (.region [⟨some 5, false, none, .mov (.t 1)⟩,
     ⟨some 6, false, none, .bin .geq (.u 5) (.c (.int .i64 0))⟩,
     ⟨some 7, false, none, .mov (.u 6)⟩,
     ⟨some 8, false, some ((.u 7), true), .mov (.t 1)⟩,
     ⟨some 9, false, some ((.u 7), true), .bin .lss (.u 8) (.c (.int .i64 32))⟩,
     ⟨some 10, false, none, .pick (.u 7) (.u 9) (.c (.bool false))⟩,
     ⟨some 11, false, none, .mov (.u 10)⟩,
     ⟨some 12, false, some ((.u 11), true), .mov (.t 0)⟩,
     ⟨some 13, false, some ((.u 11), true), .mov (.t 1)⟩,
     ⟨some 14, false, some ((.u 11), true), .bin .shr (.u 12) (.u 13)⟩,
     ⟨some 15, false, some ((.u 11), true), .bin .and (.u 14) (.c (.int .u64 1))⟩,
     ⟨some 16, false, some ((.u 11), true), .bin .eql (.u 15) (.c (.int .u64 1))⟩,
     ⟨some 17, false, none, .pick (.u 11) (.u 16) (.c (.bool false))⟩,
     ⟨some 4, true, none, .mov (.u 17)⟩])
  (.ret))
def r36 : List LRes := [.slot 4]
theorem t36 : (Try.f36.body.bind (trCode v36 Try.prog Try.f36.ntmps)) = some c36 ∧ trRes v36 Try.prog Try.f36.results.toList = some r36 := ⟨by kernel_rfl, by kernel_rfl⟩

def v37 : Nat → Bool := fun t => [0, 2, 4].contains t
def c37 : LCode :=
  .seq (.region [⟨some 2, true, none, .mov (.c (.fsl 1 0 []))⟩])
  (.seq (.seq (.region [⟨some 3, false, none, .mov (.t 0)⟩,
      ⟨some 4, true, none, .isNil false (.u 3)⟩])
   (.cond (.t 4)
    (.seq (.region [⟨some 2, true, none, .mov (.c (.fsl 1 0 []))⟩])
    (.ret))
    (.skip)))
  (.seq (.region [⟨some 5, false, none, .mkS 1 0 [.fsl 1 0 []] []⟩,
     ⟨some 6, false, none, .mov (.t 0)⟩,
     ⟨some 7, false, none, .app 1 24 (.u 5) (.u 6)⟩,
     ⟨some 2, true, none, .mov (.u 7)⟩])
  (.ret)))
def r37 : List LRes := [.slot 2]
theorem t37 : (Try.f37.body.bind (trCode v37 Try.prog Try.f37.ntmps)) = some c37 ∧ trRes v37 Try.prog Try.f37.results.toList = some r37 := ⟨by kernel_rfl, by kernel_rfl⟩

def v38 : Nat → Bool := fun t => [0, 2, 3, 4, 7, 11, 20, 30].contains t
def c38 : LCode :=
  .seq (.region [⟨some 2, true, none, .mov (.c (.int .i64 0))⟩])
  (.seq (.seq (.region [⟨some 5, false, none, .mov (.t 0)⟩,
      ⟨some 6, false, none, .lenL (.u 5)⟩,
      ⟨some 7, true, none, .bin .gtr (.u 6) (.c (.int .i64 24))⟩])
   (.cond (.t 7)
    (.seq (.region [⟨some 2, true, none, .mov (.c (.int .i64 140))⟩])
    (.ret))
    (.skip)))
  (.seq (.seq (.region [⟨some 3, true, none, .mov (.c (.int .i64 0))⟩])
   (.block 0 (.loop (.seq (.seq (.region [⟨some 8, false, none, .mov (.t 3)⟩,
         ⟨some 9, false, none, .mov (.t 0)⟩,
         ⟨some 10, false, none, .lenL (.u 9)⟩,
         ⟨some 11, true, none, .bin .lss (.u 8) (.u 10)⟩])
      (.cond (.t 11)
       (.skip)
       (.exit 0)))
     (.seq (.block 1 (.seq (.seq (.region [⟨some 14, false, none, .mov (.t 0)⟩,
           ⟨some 15, false, none, .mov (.t 3)⟩,
           ⟨some 16, false, none, .iaS 8 (.u 14) (.u 15)⟩,
           ⟨some 17, false, none, .load true 8 (.u 16)⟩,
           ⟨some 18, false, none, .call 39 [(.u 17)]⟩,
           ⟨some 4, true, none, .mov (.u 18)⟩])
        (.seq (.region [⟨some 19, false, none, .mov (.t 4)⟩,
           ⟨some 20, true, none, .bin .neq (.u 19) (.c (.int .i64 0))⟩])
        (.cond (.t 20)
         (.seq (.region [⟨some 21, false, none, .mov (.t 4)⟩,
            ⟨some 2, true, none, .mov (.u 21)⟩])
         (.ret))
         (.skip))))
       (.seq (.regionD [⟨0, [0], false, [], ⟨some 22, false, none, .mov (.t 0)⟩⟩,
          ⟨1, [3], false, [], ⟨some 23, false, none, .mov (.t 3)⟩⟩,
          ⟨2, [22, 23], false, [], ⟨some 24, false, none, .slL 8 (.u 22) none (some (.u 23)) none⟩⟩,
          ⟨3, [0], false, [], ⟨some 25, false, none, .mov (.t 0)⟩⟩,
          ⟨4, [3], false, [], ⟨some 26, false, none, .mov (.t 3)⟩⟩,
          ⟨5, [25, 26], false, [], ⟨some 27, false, none, .iaS 8 (.u 25) (.u 26)⟩⟩,
          ⟨6, [27], true, [], ⟨some 28, false, none, .load true 8 (.u 27)⟩⟩,
          ⟨7, [24, 28], false, [], ⟨some 29, false, none, .call 40 [(.u 24), (.u 28)]⟩⟩,
          ⟨8, [29], false, [], ⟨some 30, true, none, .bin .geq (.u 29) (.c (.int .i64 0))⟩⟩])
       (.cond (.t 30)
        (.seq (.region [⟨some 2, true, none, .mov (.c (.int .i64 141))⟩])
        (.ret))
        (.skip)))))
     (.region [⟨some 12, false, none, .mov (.t 3)⟩,
       ⟨some 13, false, none, .bin .add (.u 12) (.c (.int .i64 1))⟩,
       ⟨some 3, true, none, .mov (.u 13)⟩]))))))
  (.seq (.region [⟨some 2, true, none, .mov (.c (.int .i64 0))⟩])
  (.ret))))
def r38 : List LRes := [.slot 2]
theorem t38 : (Try.f38.body.bind (trCode v38 Try.prog Try.f38.ntmps)) = some c38 ∧ trRes v38 Try.prog Try.f38.results.toList = some r38 := ⟨by kernel_rfl, by kernel_rfl⟩

def v39 : Nat → Bool := fun t => [0, 1, 2, 3, 4, 5, 13, 21, 50, 54, 59, 71, 74, 75, 84, 85, 112, 116].contains t
def c39 : LCode :=
  .seq (.region [⟨some 1, true, none, .box (.t 0)⟩,
     ⟨some 2, true, none, .mov (.c (.int .i64 0))⟩])
  (.seq (.seq (.region [⟨some 6, false, none, .faddr 0 (.t 1)⟩,
      ⟨some 7, false, none, .load false 1 (.u 6)⟩,
      ⟨some 8, false, none, .bin .lss (.u 7) (.c (.int .i64 1))⟩,
      ⟨some 9, false, none, .mov (.u 8)⟩,
      ⟨some 10, false, some ((.u 9), false), .faddr 0 (.t 1)⟩,
      ⟨some 11, false, some ((.u 9), false), .load false 1 (.u 10)⟩,
      ⟨some 12, false, some ((.u 9), false), .bin .gtr (.u 11) (.c (.int .i64 5))⟩,
      ⟨some 13, true, none, .pick (.u 9) (.c (.bool true)) (.u 12)⟩])
   (.cond (.t 13)
    (.seq (.region [⟨some 2, true, none, .mov (.c (.int .i64 130))⟩])
    (.ret))
    (.skip)))
  (.seq (.seq (.region [⟨some 14, false, none, .faddr 1 (.t 1)⟩,
      ⟨some 15, false, none, .load false 1 (.u 14)⟩,
      ⟨some 16, false, none, .bin .neq (.u 15) (.c (.int .i64 1))⟩,
      ⟨some 17, false, none, .mov (.u 16)⟩,
      ⟨some 18, false, some ((.u 17), true), .faddr 1 (.t 1)⟩,
      ⟨some 19, false, some ((.u 17), true), .load false 1 (.u 18)⟩,
      ⟨some 20, false, some ((.u 17), true), .bin .neq (.u 19) (.c (.int .i64 2))⟩,
      ⟨some 21, true, none, .pick (.u 17) (.u 20) (.c (.bool false))⟩])
   (.cond (.t 21)
    (.seq (.region [⟨some 2, true, none, .mov (.c (.int .i64 131))⟩])
    (.ret))
    (.skip)))
  (.seq (.region [⟨some 22, false, none, .faddr 0 (.t 1)⟩,
     ⟨some 23, false, none, .load false 1 (.u 22)⟩,
     ⟨some 24, false, none, .bin .eql (.u 23) (.c (.int .i64 2))⟩,
     ⟨some 25, false, none, .mov (.u 24)⟩,
     ⟨some 26, false, some ((.u 25), false), .faddr 0 (.t 1)⟩,
     ⟨some 27, false, some ((.u 25), false), .load false 1 (.u 26)⟩,
     ⟨some 28, false, some ((.u 25), false), .bin .eql (.u 27) (.c (.int .i64 3))⟩,
     ⟨some 29, false, none, .pick (.u 25) (.c (.bool true)) (.u 28)⟩,
     ⟨some 3, true, none, .mov (.u 29)⟩])
  (.seq (.seq (.region [⟨some 30, false, none, .mov (.t 3)⟩,
      ⟨some 31, false, none, .mov (.u 30)⟩,
      ⟨some 32, false, some ((.u 31), true), .faddr 2 (.t 1)⟩,
      ⟨some 33, false, some ((.u 31), true), .load false 1 (.u 32)⟩,
      ⟨some 34, false, some ((.u 31), true), .bin .eql (.u 33) (.c (.int .u64 0))⟩,
      ⟨some 35, false, some ((.u 31), true), .mov (.u 34)⟩,
      ⟨some 36, false, some ((.u 35), false), .faddr 2 (.t 1)⟩,
      ⟨some 37, false, some ((.u 35), false), .load false 1 (.u 36)⟩,
      ⟨some 38, false, some ((.u 35), false), .call 52 [(.u 37)]⟩,
      ⟨some 39, false, some ((.u 35), false), .un .not (.u 38)⟩,
      ⟨some 40, false, some ((.u 31), true), .pick (.u 35) (.c (.bool true)) (.u 39)⟩,
      ⟨some 41, false, none, .pick (.u 31) (.u 40) (.c (.bool false))⟩,
      ⟨some 42, false, none, .mov (.u 41)⟩,
      ⟨some 43, false, some ((.u 42), false), .mov (.t 3)⟩,
      ⟨some 44, false, some ((.u 42), false), .un .not (.u 43)⟩,
      ⟨some 45, false, some ((.u 42), false), .mov (.u 44)⟩,
      ⟨some 46, false, some ((.u 45), true), .faddr 2 (.t 1)⟩,
      ⟨some 47, false, some ((.u 45), true), .load false 1 (.u 46)⟩,
      ⟨some 48, false, some ((.u 45), true), .bin .neq (.u 47) (.c (.int .u64 0))⟩,
      ⟨some 49, false, some ((.u 42), false), .pick (.u 45) (.u 48) (.c (.bool false))⟩,
      ⟨some 50, true, none, .pick (.u 42) (.c (.bool true)) (.u 49)⟩])
   (.cond (.t 50)
    (.seq (.region [⟨some 2, true, none, .mov (.c (.int .i64 132))⟩])
    (.ret))
    (.skip)))
  (.seq (.seq (.region [⟨some 51, false, none, .faddr 3 (.t 1)⟩,
      ⟨some 52, false, none, .load false 1 (.u 51)⟩,
      ⟨some 53, false, none, .lenL (.u 52)⟩,
      ⟨some 54, true, none, .bin .gtr (.u 53) (.c (.int .i64 8))⟩])
   (.cond (.t 54)
    (.seq (.region [⟨some 2, true, none, .mov (.c (.int .i64 133))⟩])
    (.ret))
    (.skip)))
  (.seq (.seq (.region [⟨some 4, true, none, .mov (.c (.int .i64 0))⟩])
   (.block 0 (.loop (.seq (.seq (.region [⟨some 55, false, none, .mov (.t 4)⟩,
         ⟨some 56, false, none, .faddr 3 (.t 1)⟩,
         ⟨some 57, false, none, .load false 1 (.u 56)⟩,
         ⟨some 58, false, none, .lenL (.u 57)⟩,
         ⟨some 59, true, none, .bin .lss (.u 55) (.u 58)⟩])
      (.cond (.t 59)
       (.skip)
       (.exit 0)))
     (.seq (.block 1 (.seq (.regionD [⟨0, [1], false, [], ⟨some 62, false, none, .faddr 3 (.t 1)⟩⟩,
          ⟨1, [62], true, [], ⟨some 63, false, none, .load false 1 (.u 62)⟩⟩,
          ⟨2, [4], false, [], ⟨some 64, false, none, .mov (.t 4)⟩⟩,
          ⟨3, [63, 64], false, [], ⟨some 65, false, none, .iaS 5 (.u 63) (.u 64)⟩⟩,
          ⟨4, [65], true, [], ⟨some 66, false, none, .load true 5 (.u 65)⟩⟩,
          ⟨5, [1], false, [], ⟨some 67, false, none, .faddr 0 (.t 1)⟩⟩,
          ⟨6, [67], true, [], ⟨some 68, false, none, .load false 1 (.u 67)⟩⟩,
          ⟨7, [66, 68], false, [], ⟨some 69, false, none, .call 53 [(.u 66), (.u 68)]⟩⟩,
          ⟨8, [69], false, [], ⟨some 5, true, none, .mov (.u 69)⟩⟩])
       (.seq (.region [⟨some 70, false, none, .mov (.t 5)⟩,
          ⟨some 71, true, none, .bin .neq (.u 70) (.c (.int .i64 0))⟩])
       (.cond (.t 71)
        (.seq (.region [⟨some 72, false, none, .mov (.t 5)⟩,
           ⟨some 2, true, none, .mov (.u 72)⟩])
        (.ret))
        (.skip)))))
     (.region [⟨some 60, false, none, .mov (.t 4)⟩,
       ⟨some 61, false, none, .bin .add (.u 60) (.c (.int .i64 1))⟩,
       ⟨some 4, true, none, .mov (.u 61)⟩]))))))
  (.seq (.seq (.region [⟨some 73, false, none, .faddr 4 (.t 1)⟩,
      ⟨some 74, true, none, .load false 1 (.u 73)⟩])
   (.block 2 (.seq (.region [⟨some 76, false, none, .bin .eql (.t 74) (.c (.int .i64 0))⟩,
       ⟨some 75, true, none, .mov (.u 76)⟩])
    (.cond (.t 75)
     (.seq (.region [⟨some 77, false, none, .faddr 5 (.t 1)⟩,
        ⟨some 78, false, none, .load false 1 (.u 77)⟩,
        ⟨some 79, false, none, .bin .neq (.u 78) (.c (.str []))⟩,
        ⟨some 80, false, none, .mov (.u 79)⟩,
        ⟨some 81, false, some ((.u 80), false), .faddr 6 (.t 1)⟩,
        ⟨some 82, false, some ((.u 80), false), .load false 1 (.u 81)⟩,
        ⟨some 83, false, some ((.u 80), false), .bin .neq (.u 82) (.c (.int .i64 0))⟩,
        ⟨some 84, true, none, .pick (.u 80) (.c (.bool true)) (.u 83)⟩])
     (.cond (.t 84)
      (.seq (.region [⟨some 2, true, none, .mov (.c (.int .i64 134))⟩])
      (.ret))
      (.skip)))
     (.seq (.seq (.region [⟨some 86, false, none, .bin .eql (.t 74) (.c (.int .i64 1))⟩,
         ⟨some 85, true, none, .mov (.u 86)⟩])
      (.cond (.t 85)
       (.skip)
       (.region [⟨some 87, false, none, .bin .eql (.t 74) (.c (.int .i64 2))⟩,
         ⟨some 85, true, none, .mov (.u 87)⟩])))
     (.cond (.t 85)
      (.seq (.region [⟨some 88, false, none, .faddr 0 (.t 1)⟩,
         ⟨some 89, false, none, .load false 1 (.u 88)⟩,
         ⟨some 90, false, none, .bin .neq (.u 89) (.c (.int .i64 3))⟩,
         ⟨some 91, false, none, .mov (.u 90)⟩,
         ⟨some 92, false, some ((.u 91), false), .faddr 5 (.t 1)⟩,
         ⟨some 93, false, some ((.u 91), false), .load false 1 (.u 92)⟩,
         ⟨some 94, false, some ((.u 91), false), .call 54 [(.u 93)]⟩,
         ⟨some 95, false, some ((.u 91), false), .un .not (.u 94)⟩,
         ⟨some 96, false, none, .pick (.u 91) (.c (.bool true)) (.u 95)⟩,
         ⟨some 97, false, none, .mov (.u 96)⟩,
         ⟨some 98, false, some ((.u 97), false), .faddr 5 (.t 1)⟩,
         ⟨some 99, false, some ((.u 97), false), .load false 1 (.u 98)⟩,
         ⟨some 100, false, some ((.u 97), false), .len (.u 99)⟩,
         ⟨some 101, false, some ((.u 97), false), .bin .gtr (.u 100) (.c (.int .i64 128))⟩,
         ⟨some 102, false, none, .pick (.u 97) (.c (.bool true)) (.u 101)⟩,
         ⟨some 103, false, none, .mov (.u 102)⟩,
         ⟨some 104, false, some ((.u 103), false), .faddr 6 (.t 1)⟩,
         ⟨some 105, false, some ((.u 103), false), .load false 1 (.u 104)⟩,
         ⟨some 106, false, some ((.u 103), false), .bin .lss (.u 105) (.c (.int .i64 1))⟩,
         ⟨some 107, false, none, .pick (.u 103) (.c (.bool true)) (.u 106)⟩,
         ⟨some 108, false, none, .mov (.u 107)⟩,
         ⟨some 109, false, some ((.u 108), false), .faddr 6 (.t 1)⟩,
         ⟨some 110, false, some ((.u 108), false), .load false 1 (.u 109)⟩,
         ⟨some 111, false, some ((.u 108), false), .bin .gtr (.u 110) (.c (.int .i64 15))⟩,
         ⟨some 112, true, none, .pick (.u 108) (.c (.bool true)) (.u 111)⟩])
      (.cond (.t 112)
       (.seq (.region [⟨some 2, true, none, .mov (.c (.int .i64 134))⟩])
       (.ret))
       (.skip)))
      (.seq (.region [⟨some 2, true, none, .mov (.c (.int .i64 134))⟩])
      (.ret))))))))
  (.seq (.seq (.region [⟨some 113, false, none, .faddr 7 (.t 1)⟩,
      ⟨some 114, false, none, .load false 1 (.u 113)⟩,
      ⟨some 115, false, none, .len (.u 114)⟩,
      ⟨some 116, true, none, .bin .gtr (.u 115) (.c (.int .i64 31))⟩])
   (.cond (.t 116)
    (.seq (.region [⟨some 2, true, none, .mov (.c (.int .i64 135))⟩])
    (.ret))
    (.skip)))
  (.seq (.region [⟨some 2, true, none, .mov (.c (.int .i64 0))⟩])
  (.ret))))))))))
def r39 : List LRes := [.slot 2]
theorem t39 : (Try.f39.body.bind (trCode v39 Try.prog Try.f39.ntmps)) = some c39 ∧ trRes v39 Try.prog Try.f39.results.toList = some r39 := ⟨by kernel_rfl, by kernel_rfl⟩

def v40 : Nat → Bool := fun t => [0, 1, 3, 4, 5, 9, 17].contains t
def c40 : LCode :=
  .seq (.region [⟨some 3, true, none, .box (.t 1)⟩,
     ⟨some 4, true, none, .mov (.c (.int .i64 0))⟩])
  (.seq (.seq (.region [⟨some 5, true, none, .mov (.c (.int .i64 0))⟩])
   (.block 0 (.loop (.seq (.seq (.region [⟨some 6, false, none, .mov (.t 5)⟩,
         ⟨some 7, false, none, .mov (.t 0)⟩,
         ⟨some 8, false, none, .lenL (.u 7)⟩,
         ⟨some 9, true, none, .bin .lss (.u 6) (.u 8)⟩])
      (.cond (.t 9)
       (.skip)
       (.exit 0)))
     (.seq (.block 1 (.seq (.regionD [⟨0, [0], false, [], ⟨some 12, false, none, .mov (.t 0)⟩⟩,
          ⟨1, [5], false, [], ⟨some 13, false, none, .mov (.t 5)⟩⟩,
          ⟨2, [12, 13], false, [], ⟨some 14, false, none, .iaS 8 (.u 12) (.u 13)⟩⟩,
          ⟨3, [14], true, [], ⟨some 15, false, none, .load true 8 (.u 14)⟩⟩,
          ⟨4, [3], true, [], ⟨some 16, false, none, .load true 8 (.t 3)⟩⟩,
          ⟨5, [15, 16], false, [], ⟨some 17, true, none, .call 55 [(.u 15), (.u 16)]⟩⟩])
       (.cond (.t 17)
        (.seq (.region [⟨some 18, false, none, .mov (.t 5)⟩,
           ⟨some 4, true, none, .mov (.u 18)⟩])
        (.ret))
        (.skip))))
     (.region [⟨some 10, false, none, .mov (.t 5)⟩,
       ⟨some 11, false, none, .bin .add (.u 10) (.c (.int .i64 1))⟩,
       ⟨some 5, true, none, .mov (.u 11)⟩]))))))
  (.seq (.region [⟨some 4, true, none, .mov (.c (.int .i64 (-1)))⟩])
  (.ret)))
def r40 : List LRes := [.slot 4]
theorem t40 : (Try.f40.body.bind (trCode v40 Try.prog Try.f40.ntmps)) = some c40 ∧ trRes v40 Try.prog Try.f40.results.toList = some r40 := ⟨by kernel_rfl, by kernel_rfl⟩

def v41 : Nat → Bool := fun t => [0, 1, 2].contains t
def c41 : LCode :=
  .seq (.region [⟨some 1, true, none, .box (.t 0)⟩,
     ⟨some 2, true, none, .zero [.int .i64 0, .int .i64 0, .int .u64 0, .fsl 1 0 [], .int .i64 0, .str [], .int .i64 0, .str []]⟩])
  (.seq (.region [⟨some 3, false, none, .faddr 3 (.t 1)⟩,
     ⟨some 4, false, none, .load false 1 (.u 3)⟩,
     ⟨some 5, false, none, .app 5 48 (.c (.fsl 1 0 [])) (.u 4)⟩,
     ⟨some 6, false, none, .faddr 3 (.t 1)⟩,
     ⟨none, true, none, .store 1 (.u 6) (.u 5)⟩])
  (.seq (.region [⟨some 7, false, none, .load true 8 (.t 1)⟩,
     ⟨none, true, none, .store 8 (.t 2) (.u 7)⟩])
  (.ret)))
def r41 : List LRes := [.cell true 8 2]
theorem t41 : (Try.f41.body.bind (trCode v41 Try.prog Try.f41.ntmps)) = some c41 ∧ trRes v41 Try.prog Try.f41.results.toList = some r41 := ⟨by kernel_rfl, by kernel_rfl⟩

def v42 : Nat → Bool := fun t => [0, 2, 3, 4, 8].contains t
def c42 : LCode :=
  .seq (.region [⟨some 2, true, none, .mov (.c (.fsl 1 0 []))⟩])
  (.seq (.region [⟨some 3, true, none, .mov (.c (.fsl 1 0 []))⟩])
  (.seq (.seq (.region [⟨some 4, true, none, .mov (.c (.int .i64 0))⟩])
   (.block 0 (.loop (.seq (.seq (.region [⟨some 5, false, none, .mov (.t 4)⟩,
         ⟨some 6, false, none, .mov (.t 0)⟩,
         ⟨some 7, false, none, .lenL (.u 6)⟩,
         ⟨some 8, true, none, .bin .lss (.u 5) (.u 7)⟩])
      (.cond (.t 8)
       (.skip)
       (.exit 0)))
     (.seq (.block 1 (.region [⟨some 11, false, none, .mov (.t 3)⟩,
         ⟨some 12, false, none, .mov (.t 0)⟩,
         ⟨some 13, false, none, .mov (.t 4)⟩,
         ⟨some 14, false, none, .iaS 8 (.u 12) (.u 13)⟩,
         ⟨some 15, false, none, .load true 8 (.u 14)⟩,
         ⟨some 16, false, none, .call 41 [(.u 15)]⟩,
         ⟨some 17, false, none, .mkS 8 1 [.int .i64 0, .int .i64 0, .int .u64 0, .fsl 1 0 [], .int .i64 0, .str [], .int .i64 0, .str []] [(0, 8, (.u 16))]⟩,
         ⟨some 18, false, none, .app 8 96 (.u 11) (.u 17)⟩,
         ⟨some 3, true, none, .mov (.u 18)⟩]))
     (.region [⟨some 9, false, none, .mov (.t 4)⟩,
       ⟨some 10, false, none, .bin .add (.u 9) (.c (.int .i64 1))⟩,
       ⟨some 4, true, none, .mov (.u 10)⟩]))))))
  (.seq (.region [⟨some 19, false, none, .mov (.t 3)⟩,
     ⟨some 2, true, none, .mov (.u 19)⟩])
  (.ret))))
def r42 : List LRes := [.slot 2]
theorem t42 : (Try.f42.body.bind (trCode v42 Try.prog Try.f42.ntmps)) = some c42 ∧ trRes v42 Try.prog Try.f42.results.toList = some r42 := ⟨by kernel_rfl, by kernel_rfl⟩

def v43 : Nat → Bool := fun t => [0, 2, 3, 4, 22, 28, 32, 38, 57, 69, 73].contains t
def c43 : LCode :=
  .seq (.region [⟨some 2, true, none, .zero [.int .i64 0, .int .i64 0, .int .u64 0, .fsl 1 0 [], .int .i64 0, .str [], .int .i64 0, .str []]⟩])
  (.seq (.region [⟨some 5, false, none, .mov (.t 0)⟩,
     ⟨some 6, false, none, .mkS 1 10 [.int .i64 0] [(0, 1, (.c (.int .i64 3))), (1, 1, (.c (.int .i64 3))), (2, 1, (.c (.int .i64 3))), (3, 1, (.c (.int .i64 3))), (4, 1, (.c (.int .i64 2))), (5, 1, (.c (.int .i64 2))), (6, 1, (.c (.int .i64 1))), (7, 1, (.c (.int .i64 4))), (8, 1, (.c (.int .i64 5))), (9, 1, (.c (.int .i64 5)))]⟩,
     ⟨some 7, false, none, .call 32 [(.u 5), (.u 6)]⟩,
     ⟨some 8, false, none, .mov (.t 0)⟩,
     ⟨some 9, false, none, .mkS 1 3 [.int .i64 0] [(0, 1, (.c (.int .i64 1))), (1, 1, (.c (.int .i64 1))), (2, 1, (.c (.int .i64 2)))]⟩,
     ⟨some 10, false, none, .call 32 [(.u 8), (.u 9)]⟩,
     ⟨some 11, false, none, .mov (.t 0)⟩,
     ⟨some 12, false, none, .mkS 1 4 [.str []] [(0, 1, (.c (.str []))), (1, 1, (.c (.str [107]))), (2, 1, (.c (.str [97, 32, 98]))), (3, 1, (.c (.str [120])))]⟩,
     ⟨some 13, false, none, .call 44 [(.u 11), (.u 12)]⟩,
     ⟨some 14, false, none, .build [.int .i64 0, .int .i64 0, .int .u64 0, .fsl 1 0 [], .int .i64 0, .str [], .int .i64 0, .str []] [(0, 1, (.u 7)), (1, 1, (.u 10)), (7, 1, (.u 13))]⟩,
     ⟨some 3, true, none, .zero [.int .i64 0, .int .i64 0, .int .u64 0, .fsl 1 0 [], .int .i64 0, .str [], .int .i64 0, .str []]⟩,
     ⟨none, true, none, .store 8 (.t 3) (.u 14)⟩])
  (.seq (.seq (.region [⟨some 15, false, none, .faddr 0 (.t 3)⟩,
      ⟨some 16, false, none, .load false 1 (.u 15)⟩,
      ⟨some 17, false, none, .bin .eql (.u 16) (.c (.int .i64 2))⟩,
      ⟨some 18, false, none, .mov (.u 17)⟩,
      ⟨some 19, false, some ((.u 18), false), .faddr 0 (.t 3)⟩,
      ⟨some 20, false, some ((.u 18), false), .load false 1 (.u 19)⟩,
      ⟨some 21, false, some ((.u 18), false), .bin .eql (.u 20) (.c (.int .i64 3))⟩,
      ⟨some 22, true, none, .pick (.u 18) (.c (.bool true)) (.u 21)⟩])
   (.cond (.t 22)
    (.seq (.region [⟨some 23, false, none, .mov (.t 0)⟩,
       ⟨some 24, false, none, .call 56 [(.u 23)]⟩,
       ⟨some 25, false, none, .faddr 2 (.t 3)⟩,
       ⟨none, true, none, .store 1 (.u 25) (.u 24)⟩])
    (.seq (.seq (.region [⟨some 26, false, none, .mov (.t 0)⟩,
        ⟨some 27, false, none, .call 26 [(.u 26), (.c (.int .i64 3))]⟩,
        ⟨some 28, true, none, .bin .gtr (.u 27) (.c (.int .i64 0))⟩])
     (.cond (.t 28)
      (.region [⟨some 29, false, none, .faddr 2 (.t 3)⟩,
        ⟨none, true, none, .store 1 (.u 29) (.c (.int .u64 4294967295))⟩])
      (.skip)))
    (.seq (.region [⟨some 30, false, none, .faddr 2 (.t 3)⟩,
       ⟨some 31, false, none, .load false 1 (.u 30)⟩,
       ⟨some 32, true, none, .bin .eql (.u 31) (.c (.int .u64 0))⟩])
    (.cond (.t 32)
     (.region [⟨some 33, false, none, .faddr 2 (.t 3)⟩,
       ⟨none, true, none, .store 1 (.u 33) (.c (.int .u64 1))⟩])
     (.skip)))))
    (.skip)))
  (.seq (.seq (.region [⟨some 34, false, none, .mov (.t 0)⟩,
      ⟨some 35, false, none, .mkS 1 6 [.int .i64 0] [(0, 1, (.c (.int .i64 0))), (1, 1, (.c (.int .i64 0))), (2, 1, (.c (.int .i64 1))), (3, 1, (.c (.int .i64 1))), (4, 1, (.c (.int .i64 2))), (5, 1, (.c (.int .i64 3)))]⟩,
      ⟨some 36, false, none, .call 32 [(.u 34), (.u 35)]⟩,
      ⟨some 4, true, none, .mov (.u 36)⟩])
   (.block 0 (.loop (.seq (.seq (.region [⟨some 37, false, none, .mov (.t 4)⟩,
         ⟨some 38, true, none, .bin .gtr (.u 37) (.c (.int .i64 0))⟩])
      (.cond (.t 38)
       (.skip)
       (.exit 0)))
     (.seq (.block 1 (.regionD [⟨0, [3], false, [], ⟨some 41, false, none, .faddr 3 (.t 3)⟩⟩,
         ⟨1, [41], true, [], ⟨some 42, false, none, .load false 1 (.u 41)⟩⟩,
         ⟨2, [0], false, [], ⟨some 43, false, none, .mov (.t 0)⟩⟩,
         ⟨3, [3], false, [], ⟨some 44, false, none, .faddr 0 (.t 3)⟩⟩,
         ⟨4, [44], true, [], ⟨some 45, false, none, .load false 1 (.u 44)⟩⟩,
         ⟨5, [43, 45], false, [1], ⟨some 46, false, none, .call 57 [(.u 43), (.u 45)]⟩⟩,
         ⟨6, [46], false, [], ⟨some 47, false, none, .mkS 5 1 [.int .i64 0, .int .i64 0, .int .i64 0, .str [], .int .i64 0] [(0, 5, (.u 46))]⟩⟩,
         ⟨7, [42, 47], false, [], ⟨some 48, false, none, .app 5 48 (.u 42) (.u 47)⟩⟩,
         ⟨8, [3], false, [], ⟨some 49, false, none, .faddr 3 (.t 3)⟩⟩,
         ⟨9, [49, 48], false, [], ⟨none, true, none, .store 1 (.u 49) (.u 48)⟩⟩]))
     (.region [⟨some 39, false, none, .mov (.t 4)⟩,
       ⟨some 40, false, none, .bin .sub (.u 39) (.c (.int .i64 1))⟩,
       ⟨some 4, true, none, .mov (.u 40)⟩]))))))
  (.seq (.seq (.region [⟨some 50, false, none, .faddr 0 (.t 3)⟩,
      ⟨some 51, false, none, .load false 1 (.u 50)⟩,
      ⟨some 52, false, none, .bin .eql (.u 51) (.c (.int .i64 3))⟩,
      ⟨some 53, false, none, .mov (.u 52)⟩,
      ⟨some 54, false, some ((.u 53), true), .mov (.t 0)⟩,
      ⟨some 55, false, some ((.u 53), true), .call 26 [(.u 54), (.c (.int .i64 3))]⟩,
      ⟨some 56, false, some ((.u 53), true), .bin .eql (.u 55) (.c (.int .i64 0))⟩,
      ⟨some 57, true, none, .pick (.u 53) (.u 56) (.c (.bool false))⟩])
   (.cond (.t 57)
    (.seq (.region [⟨some 58, false, none, .mov (.t 0)⟩,
       ⟨some 59, false, none, .call 22 [(.u 58), (.c (.int .i64 1)), (.c (.int .i64 2))]⟩,
       ⟨some 60, false, none, .mov (.t 0)⟩,
       ⟨some 61, false, none, .call 47 [(.u 60)]⟩,
       ⟨some 62, false, none, .mov (.t 0)⟩,
       ⟨some 63, false, none, .call 22 [(.u 62), (.c (.int .i64 1)), (.c (.int .i64 15))]⟩,
       ⟨some 64, false, none, .faddr 4 (.t 3)⟩,
       ⟨none, true, none, .store 1 (.u 64) (.u 59)⟩,
       ⟨some 65, false, none, .faddr 5 (.t 3)⟩,
       ⟨none, true, none, .store 1 (.u 65) (.u 61)⟩,
       ⟨some 66, false, none, .faddr 6 (.t 3)⟩,
       ⟨none, true, none, .store 1 (.u 66) (.u 63)⟩])
    (.seq (.region [⟨some 67, false, none, .mov (.t 0)⟩,
       ⟨some 68, false, none, .call 26 [(.u 67), (.c (.int .i64 8))]⟩,
       ⟨some 69, true, none, .bin .eql (.u 68) (.c (.int .i64 7))⟩])
    (.cond (.t 69)
     (.region [⟨some 70, false, none, .faddr 5 (.t 3)⟩,
       ⟨none, true, none, .store 1 (.u 70) (.c (.str [47]))⟩])
     (.skip))))
    (.skip)))
  (.seq (.seq (.region [⟨some 71, false, none, .mov (.t 0)⟩,
      ⟨some 72, false, none, .call 26 [(.u 71), (.c (.int .i64 24))]⟩,
      ⟨some 73, true, none, .bin .eql (.u 72) (.c (.int .i64 23))⟩])
   (.cond (.t 73)
    (.region [⟨some 74, false, none, .mov (.t 0)⟩,
      ⟨some 75, false, none, .call 22 [(.u 74), (.c (.int .i64 (-1))), (.c (.int .i64 16))]⟩,
      ⟨some 76, false, none, .mov (.t 0)⟩,
      ⟨some 77, false, none, .call 22 [(.u 76), (.c (.int .i64 0)), (.c (.int .i64 6))]⟩,
      ⟨some 78, false, none, .mov (.t 0)⟩,
      ⟨some 79, false, none, .call 22 [(.u 78), (.c (.int .i64 0)), (.c (.int .i64 3))]⟩,
      ⟨some 80, false, none, .faddr 6 (.t 3)⟩,
      ⟨none, true, none, .store 1 (.u 80) (.u 75)⟩,
      ⟨some 81, false, none, .faddr 0 (.t 3)⟩,
      ⟨none, true, none, .store 1 (.u 81) (.u 77)⟩,
      ⟨some 82, false, none, .faddr 1 (.t 3)⟩,
      ⟨none, true, none, .store 1 (.u 82) (.u 79)⟩])
    (.skip)))
  (.seq (.region [⟨some 83, false, none, .load true 8 (.t 3)⟩,
     ⟨none, true, none, .store 8 (.t 2) (.u 83)⟩])
  (.ret)))))))
def r43 : List LRes := [.cell true 8 2]
theorem t43 : (Try.f43.body.bind (trCode v43 Try.prog Try.f43.ntmps)) = some c43 ∧ trRes v43 Try.prog Try.f43.results.toList = some r43 := ⟨by kernel_rfl, by kernel_rfl⟩

def v44 : Nat → Bool := fun t => [0, 1, 4].contains t
def c44 : LCode :=
  .seq (.region [⟨some 4, true, none, .mov (.c (.str []))⟩])
  (.seq (.region [⟨some 5, false, none, .mov (.t 1)⟩,
     ⟨some 6, false, none, .mov (.t 0)⟩,
     ⟨some 7, false, none, .mov (.t 1)⟩,
     ⟨some 8, false, none, .lenL (.u 7)⟩,
     ⟨some 9, false, none, .call 26 [(.u 6), (.u 8)]⟩,
     ⟨some 10, false, none, .iaS 1 (.u 5) (.u 9)⟩,
     ⟨some 11, false, none, .load false 1 (.u 10)⟩,
     ⟨some 4, true, none, .mov (.u 11)⟩])
  (.ret))
def r44 : List LRes := [.slot 4]
theorem t44 : (Try.f44.body.bind (trCode v44 Try.prog Try.f44.ntmps)) = some c44 ∧ trRes v44 Try.prog Try.f44.results.toList = some r44 := ⟨by kernel_rfl, by kernel_rfl⟩

def v45 : Nat → Bool := fun t => [0, 2, 3, 4, 5, 6].contains t
def c45 : LCode :=
  .seq (.region [⟨some 2, true, none, .mov (.c (.int .i64 0))⟩,
     ⟨some 3, true, none, .mov (.c (.int .i64 0))⟩,
     ⟨some 4, true, none, .mov (.c (.int .i64 0))⟩,
     ⟨some 5, true, none, .mov (.c (.int .i64 0))⟩])
  (.seq (.region [⟨some 7, false, none, .mov (.t 0)⟩,
     ⟨some 8, false, none, .call 58 [(.u 7)]⟩,
     ⟨some 6, true, none, .zero [.str [], .int .i64 0, .int .i64 0, .int .i64 0, .int .i64 0]⟩,
     ⟨none, true, none, .store 5 (.t 6) (.u 8)⟩])
  (.seq (.regionD [⟨0, [6], false, [], ⟨some 9, false, none, .faddr 1 (.t 6)⟩⟩,
     ⟨1, [9], true, [], ⟨some 10, false, none, .load false 1 (.u 9)⟩⟩,
     ⟨2, [6], false, [], ⟨some 11, false, none, .faddr 2 (.t 6)⟩⟩,
     ⟨3, [11], true, [], ⟨some 12, false, none, .load false 1 (.u 11)⟩⟩,
     ⟨4, [6], false, [], ⟨some 13, false, none, .faddr 3 (.t 6)⟩⟩,
     ⟨5, [13], true, [], ⟨some 14, false, none, .load false 1 (.u 13)⟩⟩,
     ⟨6, [6], false, [], ⟨some 15, false, none, .faddr 4 (.t 6)⟩⟩,
     ⟨7, [15], true, [], ⟨some 16, false, none, .load false 1 (.u 15)⟩⟩,
     ⟨8, [10], false, [], ⟨some 2, true, none, .mov (.u 10)⟩⟩,
     ⟨9, [12], false, [], ⟨some 3, true, none, .mov (.u 12)⟩⟩,
     ⟨10, [14], false, [], ⟨some 4, true, none, .mov (.u 14)⟩⟩,
     ⟨11, [16], false, [], ⟨some 5, true, none, .mov (.u 16)⟩⟩])
  (.ret)))
def r45 : List LRes := [.slot 2, .slot 3, .slot 4, .slot 5]
theorem t45 : (Try.f45.body.bind (trCode v45 Try.prog Try.f45.ntmps)) = some c45 ∧ trRes v45 Try.prog Try.f45.results.toList = some r45 := ⟨by kernel_rfl, by kernel_rfl⟩

def v46 : Nat → Bool := fun t => [0, 2, 3, 4, 5, 8, 14, 18, 23, 35].contains t
def c46 : LCode :=
  .seq (.region [⟨some 2, true, none, .mov (.c (.str []))⟩])
  (.seq (.region [⟨some 3, true, none, .mov (.c (.str []))⟩])
  (.seq (.seq (.region [⟨some 6, false, none, .mov (.t 0)⟩,
      ⟨some 7, false, none, .call 26 [(.u 6), (.c (.int .i64 6))]⟩,
      ⟨some 8, true, none, .bin .gtr (.u 7) (.c (.int .i64 0))⟩])
   (.cond (.t 8)
    (.region [⟨some 3, true, none, .mov (.c (.str [47]))⟩])
    (.skip)))
  (.seq (.region [⟨some 9, false, none, .mov (.t 0)⟩,
     ⟨some 10, false, none, .mkS 1 7 [.int .i64 0] [(0, 1, (.c (.int .i64 1))), (1, 1, (.c (.int .i64 1))), (2, 1, (.c (.int .i64 2))), (3, 1, (.c (.int .i64 2))), (4, 1, (.c (.int .i64 3))), (5, 1, (.c (.int .i64 0))), (6, 1, (.c (.int .i64 4)))]⟩,
     ⟨some 11, false, none, .call 32 [(.u 9), (.u 10)]⟩,
     ⟨some 4, true, none, .mov (.u 11)⟩])
  (.seq (.seq (.region [⟨some 5, true, none, .mov (.c (.int .i64 0))⟩])
   (.block 0 (.loop (.seq (.seq (.region [⟨some 12, false, none, .mov (.t 5)⟩,
         ⟨some 13, false, none, .mov (.t 4)⟩,
         ⟨some 14, true, none, .bin .lss (.u 12) (.u 13)⟩])
      (.cond (.t 14)
       (.skip)
       (.exit 0)))
     (.seq (.block 1 (.seq (.seq (.region [⟨some 17, false, none, .mov (.t 5)⟩,
           ⟨some 18, true, none, .bin .gtr (.u 17) (.c (.int .i64 0))⟩])
        (.cond (.t 18)
         (.region [⟨some 19, false, none, .mov (.t 3)⟩,
           ⟨some 20, false, none, .bin .add (.u 19) (.c (.str [47]))⟩,
           ⟨some 3, true, none, .mov (.u 20)⟩])
         (.skip)))
       (.seq (.region [⟨some 21, false, none, .mov (.t 0)⟩,
          ⟨some 22, false, none, .call 26 [(.u 21), (.c (.int .i64 8))]⟩,
          ⟨some 23, true, none, .bin .eql (.u 22) (.c (.int .i64 7))⟩])
       (.cond (.t 23)
        (.region [⟨some 24, false, none, .mov (.t 3)⟩,
          ⟨some 25, false, none, .mov (.t 0)⟩,
          ⟨some 26, false, none, .mkS 1 4 [.str []] [(0, 1, (.c (.str [46]))), (1, 1, (.c (.str [46, 46]))), (2, 1, (.c (.str []))), (3, 1, (.c (.str [97, 47, 47, 98])))]⟩,
          ⟨some 27, false, none, .call 44 [(.u 25), (.u 26)]⟩,
          ⟨some 28, false, none, .bin .add (.u 24) (.u 27)⟩,
          ⟨some 3, true, none, .mov (.u 28)⟩])
        (.region [⟨some 29, false, none, .mov (.t 3)⟩,
          ⟨some 30, false, none, .mov (.t 0)⟩,
          ⟨some 31, false, none, .call 48 [(.u 30)]⟩,
          ⟨some 32, false, none, .bin .add (.u 29) (.u 31)⟩,
          ⟨some 3, true, none, .mov (.u 32)⟩])))))
     (.region [⟨some 15, false, none, .mov (.t 5)⟩,
       ⟨some 16, false, none, .bin .add (.u 15) (.c (.int .i64 1))⟩,
       ⟨some 5, true, none, .mov (.u 16)⟩]))))))
  (.seq (.seq (.region [⟨some 33, false, none, .mov (.t 0)⟩,
      ⟨some 34, false, none, .call 26 [(.u 33), (.c (.int .i64 8))]⟩,
      ⟨some 35, true, none, .bin .eql (.u 34) (.c (.int .i64 7))⟩])
   (.cond (.t 35)
    (.region [⟨some 36, false, none, .mov (.t 3)⟩,
      ⟨some 37, false, none, .bin .add (.u 36) (.c (.str [47]))⟩,
      ⟨some 3, true, none, .mov (.u 37)⟩])
    (.skip)))
  (.seq (.region [⟨some 38, false, none, .mov (.t 3)⟩,
     ⟨some 2, true, none, .mov (.u 38)⟩])
  (.ret)))))))
def r46 : List LRes := [.slot 2]
theorem t46 : (Try.f46.body.bind (trCode v46 Try.prog Try.f46.ntmps)) = some c46 ∧ trRes v46 Try.prog Try.f46.results.toList = some r46 := ⟨by kernel_rfl, by kernel_rfl⟩

def v47 : Nat → Bool := fun t => [0, 2, 3, 4, 9].contains t
def c47 : LCode :=
  .seq (.region [⟨some 2, true, none, .mov (.c (.str []))⟩])
  (.seq (.region [⟨some 3, true, none, .mov (.c (.str []))⟩])
  (.seq (.seq (.region [⟨some 5, false, none, .mov (.t 0)⟩,
      ⟨some 6, false, none, .mkS 1 5 [.int .i64 0] [(0, 1, (.c (.int .i64 1))), (1, 1, (.c (.int .i64 1))), (2, 1, (.c (.int .i64 2))), (3, 1, (.c (.int .i64 2))), (4, 1, (.c (.int .i64 3)))]⟩,
      ⟨some 7, false, none, .call 32 [(.u 5), (.u 6)]⟩,
      ⟨some 4, true, none, .mov (.u 7)⟩])
   (.block 0 (.loop (.seq (.seq (.region [⟨some 8, false, none, .mov (.t 4)⟩,
         ⟨some 9, true, none, .bin .gtr (.u 8) (.c (.int .i64 0))⟩])
      (.cond (.t 9)
       (.skip)
       (.exit 0)))
     (.seq (.block 1 (.region [⟨some 12, false, none, .mov (.t 3)⟩,
         ⟨some 13, false, none, .mov (.t 0)⟩,
         ⟨some 14, false, none, .mkS 1 5 [.str []] [(0, 1, (.c (.str [97]))), (1, 1, (.c (.str [98]))), (2, 1, (.c (.str [99]))), (3, 1, (.c (.str [108]))), (4, 1, (.c (.str [109])))]⟩,
         ⟨some 15, false, none, .call 44 [(.u 13), (.u 14)]⟩,
         ⟨some 16, false, none, .bin .add (.c (.str [47])) (.u 15)⟩,
         ⟨some 17, false, none, .bin .add (.u 12) (.u 16)⟩,
         ⟨some 3, true, none, .mov (.u 17)⟩]))
     (.region [⟨some 10, false, none, .mov (.t 4)⟩,
       ⟨some 11, false, none, .bin .sub (.u 10) (.c (.int .i64 1))⟩,
       ⟨some 4, true, none, .mov (.u 11)⟩]))))))
  (.seq (.region [⟨some 18, false, none, .mov (.t 3)⟩,
     ⟨some 2, true, none, .mov (.u 18)⟩])
  (.ret))))
def r47 : List LRes := [.slot 2]
theorem t47 : (Try.f47.body.bind (trCode v47 Try.prog Try.f47.ntmps)) = some c47 ∧ trRes v47 Try.prog Try.f47.results.toList = some r47 := ⟨by kernel_rfl, by kernel_rfl⟩

def v48 : Nat → Bool := fun t => [0, 2, 5].contains t
def c48 : LCode :=
  .seq (.region [⟨some 2, true, none, .mov (.c (.str []))⟩])
  (.seq (.seq (.region [⟨some 3, false, none, .mov (.t 0)⟩,
      ⟨some 4, false, none, .call 26 [(.u 3), (.c (.int .i64 20))]⟩,
      ⟨some 5, true, none, .bin .eql (.u 4) (.c (.int .i64 19))⟩])
   (.cond (.t 5)
    (.seq (.region [⟨some 6, false, none, .mov (.t 0)⟩,
       ⟨some 7, false, none, .mkS 1 8 [.str []] [(0, 1, (.c (.str []))), (1, 1, (.c (.str [46]))), (2, 1, (.c (.str [46, 46]))), (3, 1, (.c (.str [97, 47, 98]))), (4, 1, (.c (.str [97, 98, 99, 100, 101, 102, 103, 104, 105, 106, 107, 108]))), (5, 1, (.c (.str [97, 98, 99, 100, 101, 102, 103, 104, 105, 106, 107, 108, 109]))), (6, 1, (.c (.str [97, 0]))), (7, 1, (.c (.str [126])))]⟩,
       ⟨some 8, false, none, .call 44 [(.u 6), (.u 7)]⟩,
       ⟨some 2, true, none, .mov (.u 8)⟩])
    (.ret))
    (.skip)))
  (.seq (.region [⟨some 9, false, none, .mov (.t 0)⟩,
     ⟨some 10, false, none, .mkS 1 6 [.str []] [(0, 1, (.c (.str [97]))), (1, 1, (.c (.str [98]))), (2, 1, (.c (.str [99]))), (3, 1, (.c (.str [100]))), (4, 1, (.c (.str [108]))), (5, 1, (.c (.str [109])))]⟩,
     ⟨some 11, false, none, .call 44 [(.u 9), (.u 10)]⟩,
     ⟨some 2, true, none, .mov (.u 11)⟩])
  (.ret)))
def r48 : List LRes := [.slot 2]
theorem t48 : (Try.f48.body.bind (trCode v48 Try.prog Try.f48.ntmps)) = some c48 ∧ trRes v48 Try.prog Try.f48.results.toList = some r48 := ⟨by kernel_rfl, by kernel_rfl⟩

def v49 : Nat → Bool := fun t => [0, 1, 2, 3, 4, 5, 27, 37, 46, 66].contains t
def c49 : LCode :=
  .seq (.region [⟨some 2, true, none, .box (.t 0)⟩,
     ⟨some 3, true, none, .box (.t 1)⟩,
     ⟨some 4, true, none, .mov (.c (.bool false))⟩])
  (.seq (.seq (.region [⟨some 6, false, none, .load true 5 (.t 2)⟩,
      ⟨some 7, false, none, .call 59 [(.u 6)]⟩,
      ⟨some 8, false, none, .un .not (.u 7)⟩,
      ⟨some 9, false, none, .mov (.u 8)⟩,
      ⟨some 10, false, some ((.u 9), false), .faddr 0 (.t 2)⟩,
      ⟨some 11, false, some ((.u 9), false), .load false 1 (.u 10)⟩,
      ⟨some 12, false, some ((.u 9), false), .load true 25 (.t 3)⟩,
      ⟨some 13, false, some ((.u 9), false), .call 60 [(.u 11), (.u 12)]⟩,
      ⟨some 14, false, some ((.u 9), false), .un .not (.u 13)⟩,
      ⟨some 15, false, none, .pick (.u 9) (.c (.bool true)) (.u 14)⟩,
      ⟨some 16, false, none, .mov (.u 15)⟩,
      ⟨some 17, false, some ((.u 16), false), .faddr 4 (.t 2)⟩,
      ⟨some 18, false, some ((.u 16), false), .load false 1 (.u 17)⟩,
      ⟨some 19, false, some ((.u 16), false), .bin .neq (.u 18) (.c (.int .i64 0))⟩,
      ⟨some 20, false, some ((.u 16), false), .mov (.u 19)⟩,
      ⟨some 21, false, some ((.u 20), true), .faddr 4 (.t 2)⟩,
      ⟨some 22, false, some ((.u 20), true), .load false 1 (.u 21)⟩,
      ⟨some 23, false, some ((.u 20), true), .load true 25 (.t 3)⟩,
      ⟨some 24, false, some ((.u 20), true), .call 60 [(.u 22), (.u 23)]⟩,
      ⟨some 25, false, some ((.u 20), true), .un .not (.u 24)⟩,
      ⟨some 26, false, some ((.u 16), false), .pick (.u 20) (.u 25) (.c (.bool false))⟩,
      ⟨some 27, true, none, .pick (.u 16) (.c (.bool true)) (.u 26)⟩])
   (.cond (.t 27)
    (.seq (.region [⟨some 4, true, none, .mov (.c (.bool false))⟩])
    (.ret))
    (.skip)))
  (.seq (.seq (.region [⟨some 28, false, none, .faddr 0 (.t 2)⟩,
      ⟨some 29, false, none, .load false 1 (.u 28)⟩,
      ⟨some 30, false, none, .call 61 [(.u 29)]⟩,
      ⟨some 31, false, none, .un .not (.u 30)⟩,
      ⟨some 32, false, none, .mov (.u 31)⟩,
      ⟨some 33, false, some ((.u 32), true), .faddr 4 (.t 2)⟩,
      ⟨some 34, false, some ((.u 32), true), .load false 1 (.u 33)⟩,
      ⟨some 35, false, some ((.u 32), true), .call 61 [(.u 34)]⟩,
      ⟨some 36, false, some ((.u 32), true), .un .not (.u 35)⟩,
      ⟨some 37, true, none, .pick (.u 32) (.u 36) (.c (.bool false))⟩])
   (.cond (.t 37)
    (.seq (.region [⟨some 38, false, none, .load true 5 (.t 2)⟩,
       ⟨some 39, false, none, .load true 25 (.t 3)⟩,
       ⟨some 40, false, none, .build [.str [], .str [], .int .i64 0, .int .i64 0, .str [], .int .i64 0, .int .i64 0, .int .i64 0, .int .i64 0, .int .i64 0, .int .i64 0, .int .i64 0, .int .i64 0] []⟩,
       ⟨some 41, false, none, .call 62 [(.u 38), (.u 39), (.u 40)]⟩,
       ⟨some 4, true, none, .mov (.u 41)⟩])
    (.ret))
    (.skip)))
  (.seq (.seq (.region [⟨some 5, true, none, .mov (.c (.int .i64 0))⟩])
   (.block 0 (.loop (.seq (.seq (.region [⟨some 42, false, none, .mov (.t 5)⟩,
         ⟨some 43, false, none, .faddr 23 (.t 3)⟩,
         ⟨some 44, false, none, .load false 1 (.u 43)⟩,
         ⟨some 45, false, none, .lenL (.u 44)⟩,
         ⟨some 46, true, none, .bin .lss (.u 42) (.u 45)⟩])
      (.cond (.t 46)
       (.skip)
       (.exit 0)))
     (.seq (.block 1 (.seq (.regionD [⟨0, [3], false, [], ⟨some 49, false, none, .faddr 23 (.t 3)⟩⟩,
          ⟨1, [49], true, [], ⟨some 50, false, none, .load false 1 (.u 49)⟩⟩,
          ⟨2, [5], false, [], ⟨some 51, false, none, .mov (.t 5)⟩⟩,
          ⟨3, [50, 51], false, [], ⟨some 52, false, none, .iaS 13 (.u 50) (.u 51)⟩⟩,
          ⟨4, [52], false, [], ⟨some 53, false, none, .faddr 5 (.u 52)⟩⟩,
          ⟨5, [53], true, [], ⟨some 54, false, none, .load true 2 (.u 53)⟩⟩,
          ⟨6, [], false, [], ⟨some 55, false, none, .build [.int .i64 0, .int .i64 0] []⟩⟩,
          ⟨7, [54, 55], false, [], ⟨some 56, false, none, .eqS true 2 [(0, 1), (1, 1)] (.u 54) (.u 55)⟩⟩,
          ⟨8, [56], false, [], ⟨some 57, false, none, .mov (.u 56)⟩⟩,
          ⟨9, [2, 57], true, [], ⟨some 58, false, some ((.u 57), true), .load true 5 (.t 2)⟩⟩,
          ⟨10, [3, 57], true, [], ⟨some 59, false, some ((.u 57), true), .load true 25 (.t 3)⟩⟩,
          ⟨11, [3, 57], false, [], ⟨some 60, false, some ((.u 57), true), .faddr 23 (.t 3)⟩⟩,
          ⟨12, [60, 57], true, [], ⟨some 61, false, some ((.u 57), true), .load false 1 (.u 60)⟩⟩,
          ⟨13, [5, 57], false, [], ⟨some 62, false, some ((.u 57), true), .mov (.t 5)⟩⟩,
          ⟨14, [61, 62, 57], false, [], ⟨some 63, false, some ((.u 57), true), .iaS 13 (.u 61) (.u 62)⟩⟩,
          ⟨15, [63, 57], true, [], ⟨some 64, false, some ((.u 57), true), .load true 13 (.u 63)⟩⟩,
          ⟨16, [58, 59, 64, 57], false, [], ⟨some 65, false, some ((.u 57), true), .call 62 [(.u 58), (.u 59), (.u 64)]⟩⟩,
          ⟨17, [57, 65], false, [], ⟨some 66, true, none, .pick (.u 57) (.u 65) (.c (.bool false))⟩⟩])
       (.cond (.t 66)
        (.seq (.region [⟨some 4, true, none, .mov (.c (.bool true))⟩])
        (.ret))
        (.skip))))
     (.region [⟨some 47, false, none, .mov (.t 5)⟩,
       ⟨some 48, false, none, .bin .add (.u 47) (.c (.int .i64 1))⟩,
       ⟨some 5, true, none, .mov (.u 48)⟩]))))))
  (.seq (.region [⟨some 4, true, none, .mov (.c (.bool false))⟩])
  (.ret)))))
def r49 : List LRes := [.slot 4]
theorem t49 : (Try.f49.body.bind (trCode v49 Try.prog Try.f49.ntmps)) = some c49 ∧ trRes v49 Try.prog Try.f49.results.toList = some r49 := ⟨by kernel_rfl, by kernel_rfl⟩

def v50 : Nat → Bool := fun t => [0, 1, 4].contains t
def c50 : LCode :=
  .seq (.region [⟨some 4, true, none, .mov (.c (.bool false))⟩])
  (.seq (.region [⟨some 5, false, none, .mov (.t 1)⟩,
     ⟨some 6, false, none, .bin .geq (.u 5) (.c (.int .i64 0))⟩,
     ⟨some 7, false, none, .mov (.u 6)⟩,
     ⟨some 8, false, some ((.u 7), true), .mov (.t 1)⟩,
     ⟨some 9, false, some ((.u 7), true), .bin .lss (.u 8) (.c (.int .i64 32))⟩,
     ⟨some 10, false, none, .pick (.u 7) (.u 9) (.c (.bool false))⟩,
     ⟨some 11, false, none, .mov (.u 10)⟩,
     ⟨some 12, false, some ((.u 11), true), .mov (.t 0)⟩,
     ⟨some 13, false, some ((.u 11), true), .mov (.t 1)⟩,
     ⟨some 14, false, some ((.u 11), true), .bin .shr (.u 12) (.u 13)⟩,
     ⟨some 15, false, some ((.u 11), true), .bin .and (.u 14) (.c (.int .u64 1))⟩,
     ⟨some 16, false, some ((.u 11), true), .bin .neq (.u 15) (.c (.int .u64 0))⟩,
     ⟨some 17, false, none, .pick (.u 11) (.u 16) (.c (.bool false))⟩,
     ⟨some 4, true, none, .mov (.u 17)⟩])
  (.ret))
def r50 : List LRes := [.slot 4]
theorem t50 : (Try.f50.body.bind (trCode v50 Try.prog Try.f50.ntmps)) = some c50 ∧ trRes v50 Try.prog Try.f50.results.toList = some r50 := ⟨by kernel_rfl, by kernel_rfl⟩

def v51 : Nat → Bool := fun t => [0, 1, 2, 3, 4, 5, 6, 8, 10, 21, 31, 37, 38, 39, 40, 52].contains t
def c51 : LCode :=
  .seq (.region [⟨some 2, true, none, .box (.t 0)⟩,
     ⟨some 3, true, none, .box (.t 1)⟩,
     ⟨some 4, true, none, .mov (.c (.bool false))⟩])
  (.seq (.region [⟨some 5, true, none, .mov (.c (.bool false))⟩])
  (.seq (.seq (.region [⟨some 6, true, none, .mov (.c (.int .i64 1))⟩])
   (.block 0 (.loop (.seq (.seq (.region [⟨some 9, false, none, .mov (.t 6)⟩,
         ⟨some 10, true, none, .bin .leq (.u 9) (.c (.int .i64 5))⟩])
      (.cond (.t 10)
       (.skip)
       (.exit 0)))
     (.seq (.block 1 (.region [⟨some 13, false, none, .mov (.t 5)⟩,
         ⟨some 14, false, none, .mov (.u 13)⟩,
         ⟨some 15, false, some ((.u 14), false), .load true 5 (.t 2)⟩,
         ⟨some 16, false, some ((.u 14), false), .mov (.t 6)⟩,
         ⟨some 17, false, some ((.u 14), false), .call 63 [(.u 15), (.u 16)]⟩,
         ⟨some 18, false, some ((.u 14), false), .bin .eql (.u 17) (.c (.int .i64 0))⟩,
         ⟨some 19, false, none, .pick (.u 14) (.c (.bool true)) (.u 18)⟩,
         ⟨some 5, true, none, .mov (.u 19)⟩]))
     (.region [⟨some 11, false, none, .mov (.t 6)⟩,
       ⟨some 12, false, none, .bin .add (.u 11) (.c (.int .i64 1))⟩,
       ⟨some 6, true, none, .mov (.u 12)⟩]))))))
  (.seq (.seq (.region [⟨some 20, false, none, .mov (.t 5)⟩,
      ⟨some 21, true, none, .un .not (.u 20)⟩])
   (.cond (.t 21)
    (.seq (.region [⟨some 4, true, none, .mov (.c (.bool false))⟩])
    (.ret))
    (.skip)))
  (.seq (.seq (.region [⟨some 22, false, none, .faddr 0 (.t 2)⟩,
      ⟨some 23, false, none, .load false 1 (.u 22)⟩,
      ⟨some 24, false, none, .call 64 [(.u 23)]⟩,
      ⟨some 25, false, none, .un .not (.u 24)⟩,
      ⟨some 26, false, none, .mov (.u 25)⟩,
      ⟨some 27, false, some ((.u 26), true), .faddr 4 (.t 2)⟩,
      ⟨some 28, false, some ((.u 26), true), .load false 1 (.u 27)⟩,
      ⟨some 29, false, some ((.u 26), true), .call 64 [(.u 28)]⟩,
      ⟨some 30, false, some ((.u 26), true), .un .not (.u 29)⟩,
      ⟨some 31, true, none, .pick (.u 26) (.u 30) (.c (.bool false))⟩])
   (.cond (.t 31)
    (.seq (.region [⟨some 32, false, none, .load true 5 (.t 2)⟩,
       ⟨some 33, false, none, .load true 25 (.t 3)⟩,
       ⟨some 34, false, none, .build [.str [], .str [], .int .i64 0, .int .i64 0, .str [], .int .i64 0, .int .i64 0, .int .i64 0, .int .i64 0, .int .i64 0, .int .i64 0, .int .i64 0, .int .i64 0] []⟩,
       ⟨some 35, false, none, .call 65 [(.u 32), (.u 33), (.u 34)]⟩,
       ⟨some 4, true, none, .mov (.u 35)⟩])
    (.ret))
    (.skip)))
  (.seq (.seq (.region [⟨some 36, false, none, .faddr 23 (.t 3)⟩,
      ⟨some 37, true, none, .load false 1 (.u 36)⟩,
      ⟨some 38, true, none, .lenL (.t 37)⟩,
      ⟨some 39, true, none, .mov (.c (.int .i64 0))⟩])
   (.block 2 (.loop (.seq (.region [⟨some 40, true, none, .bin .lss (.t 39) (.t 38)⟩])
     (.seq (.cond (.t 40)
       (.skip)
       (.exit 2))
     (.seq (.block 3 (.seq (.region [⟨some 41, false, none, .iaS 13 (.t 37) (.t 39)⟩,
          ⟨some 42, false, none, .load true 13 (.u 41)⟩,
          ⟨some 8, true, none, .zero [.str [], .str [], .int .i64 0, .int .i64 0, .str [], .int .i64 0, .int .i64 0, .int .i64 0, .int .i64 0, .int .i64 0, .int .i64 0, .int .i64 0, .int .i64 0]⟩,
          ⟨none, true, none, .store 13 (.t 8) (.u 42)⟩])
       (.seq (.region [⟨some 43, false, none, .faddr 5 (.t 8)⟩,
          ⟨some 44, false, none, .load true 2 (.u 43)⟩,
          ⟨some 45, false, none, .build [.int .i64 0, .int .i64 0] []⟩,
          ⟨some 46, false, none, .eqS true 2 [(0, 1), (1, 1)] (.u 44) (.u 45)⟩,
          ⟨some 47, false, none, .mov (.u 46)⟩,
          ⟨some 48, false, some ((.u 47), true), .load true 5 (.t 2)⟩,
          ⟨some 49, false, some ((.u 47), true), .load true 25 (.t 3)⟩,
          ⟨some 50, false, some ((.u 47), true), .load true 13 (.t 8)⟩,
          ⟨some 51, false, some ((.u 47), true), .call 65 [(.u 48), (.u 49), (.u 50)]⟩,
          ⟨some 52, true, none, .pick (.u 47) (.u 51) (.c (.bool false))⟩])
       (.cond (.t 52)
        (.seq (.region [⟨some 4, true, none, .mov (.c (.bool true))⟩])
        (.ret))
        (.skip)))))
     (.region [⟨some 53, false, none, .bin .add (.t 39) (.c (.int .i64 1))⟩,
       ⟨some 39, true, none, .mov (.u 53)⟩])))))))
  (.seq (.region [⟨some 4, true, none, .mov (.c (.bool false))⟩])
  (.ret)))))))
def r51 : List LRes := [.slot 4]
theorem t51 : (Try.f51.body.bind (trCode v51 Try.prog Try.f51.ntmps)) = some c51 ∧ trRes v51 Try.prog Try.f51.results.toList = some r51 := ⟨by kernel_rfl, by kernel_rfl⟩

def v52 : Nat → Bool := fun t => [0, 2].contains t
def c52 : LCode :=
  .seq (.region [⟨some 2, true, none, .mov (.c (.bool false))⟩])
  (.seq (.region [⟨some 3, false, none, .mov (.t 0)⟩,
     ⟨some 4, false, none, .bin .shr (.u 3) (.c (.int .u64 32))⟩,
     ⟨some 5, false, none, .bin .eql (.u 4) (.c (.int .u64 0))⟩,
     ⟨some 2, true, none, .mov (.u 5)⟩])
  (.ret))
def r52 : List LRes := [.slot 2]
theorem t52 : (Try.f52.body.bind (trCode v52 Try.prog Try.f52.ntmps)) = some c52 ∧ trRes v52 Try.prog Try.f52.results.toList = some r52 := ⟨by kernel_rfl, by kernel_rfl⟩

def v53 : Nat → Bool := fun t => [0, 1, 2, 4, 33, 56, 69, 104].contains t
def c53 : LCode :=
  .seq (.region [⟨some 2, true, none, .box (.t 0)⟩,
     ⟨some 4, true, none, .mov (.c (.int .i64 0))⟩])
  (.seq (.seq (.region [⟨some 5, false, none, .mov (.t 1)⟩,
      ⟨some 6, false, none, .faddr 0 (.t 2)⟩,
      ⟨some 7, false, none, .load false 1 (.u 6)⟩,
      ⟨some 8, false, none, .call 66 [(.u 5), (.u 7)]⟩,
      ⟨some 9, false, none, .un .not (.u 8)⟩,
      ⟨some 10, false, none, .mov (.u 9)⟩,
      ⟨some 11, false, some ((.u 10), false), .faddr 4 (.t 2)⟩,
      ⟨some 12, false, some ((.u 10), false), .load false 1 (.u 11)⟩,
      ⟨some 13, false, some ((.u 10), false), .bin .neq (.u 12) (.c (.int .i64 0))⟩,
      ⟨some 14, false, some ((.u 10), false), .mov (.u 13)⟩,
      ⟨some 15, false, some ((.u 14), true), .mov (.t 1)⟩,
      ⟨some 16, false, some ((.u 14), true), .faddr 4 (.t 2)⟩,
      ⟨some 17, false, some ((.u 14), true), .load false 1 (.u 16)⟩,
      ⟨some 18, false, some ((.u 14), true), .call 66 [(.u 15), (.u 17)]⟩,
      ⟨some 19, false, some ((.u 14), true), .un .not (.u 18)⟩,
      ⟨some 20, false, some ((.u 14), true), .mov (.u 19)⟩,
      ⟨some 21, false, some ((.u 20), false), .faddr 0 (.t 2)⟩,
      ⟨some 22, false, some ((.u 20), false), .load false 1 (.u 21)⟩,
      ⟨some 23, false, some ((.u 20), false), .call 67 [(.u 22)]⟩,
      ⟨some 24, false, some ((.u 20), false), .un .not (.u 23)⟩,
      ⟨some 25, false, some ((.u 14), true), .pick (.u 20) (.c (.bool true)) (.u 24)⟩,
      ⟨some 26, false, some ((.u 14), true), .mov (.u 25)⟩,
      ⟨some 27, false, some ((.u 26), false), .faddr 4 (.t 2)⟩,
      ⟨some 28, false, some ((.u 26), false), .load false 1 (.u 27)⟩,
      ⟨some 29, false, some ((.u 26), false), .call 67 [(.u 28)]⟩,
      ⟨some 30, false, some ((.u 26), false), .un .not (.u 29)⟩,
      ⟨some 31, false, some ((.u 14), true), .pick (.u 26) (.c (.bool true)) (.u 30)⟩,
      ⟨some 32, false, some ((.u 10), false), .pick (.u 14) (.u 31) (.c (.bool false))⟩,
      ⟨some 33, true, none, .pick (.u 10) (.c (.bool true)) (.u 32)⟩])
   (.cond (.t 33)
    (.seq (.region [⟨some 4, true, none, .mov (.c (.int .i64 120))⟩])
    (.ret))
    (.skip)))
  (.seq (.seq (.region [⟨some 34, false, none, .faddr 1 (.t 2)⟩,
      ⟨some 35, false, none, .load false 1 (.u 34)⟩,
      ⟨some 36, false, none, .bin .lss (.u 35) (.c (.int .i64 1))⟩,
      ⟨some 37, false, none, .mov (.u 36)⟩,
      ⟨some 38, false, some ((.u 37), false), .faddr 1 (.t 2)⟩,
      ⟨some 39, false, some ((.u 37), false), .load false 1 (.u 38)⟩,
      ⟨some 40, false, some ((.u 37), false), .bin .gtr (.u 39) (.c (.int .i64 8))⟩,
      ⟨some 41, false, none, .pick (.u 37) (.c (.bool true)) (.u 40)⟩,
      ⟨some 42, false, none, .mov (.u 41)⟩,
      ⟨some 43, false, some ((.u 42), false), .faddr 1 (.t 2)⟩,
      ⟨some 44, false, some ((.u 42), false), .load false 1 (.u 43)⟩,
      ⟨some 45, false, some ((.u 42), false), .bin .gtr (.u 44) (.c (.int .i64 2))⟩,
      ⟨some 46, false, some ((.u 42), false), .mov (.u 45)⟩,
      ⟨some 47, false, some ((.u 46), true), .faddr 0 (.t 2)⟩,
      ⟨some 48, false, some ((.u 46), true), .load false 1 (.u 47)⟩,
      ⟨some 49, false, some ((.u 46), true), .call 68 [(.u 48)]⟩,
      ⟨some 50, false, some ((.u 46), true), .mov (.u 49)⟩,
      ⟨some 51, false, some ((.u 50), false), .faddr 4 (.t 2)⟩,
      ⟨some 52, false, some ((.u 50), false), .load false 1 (.u 51)⟩,
      ⟨some 53, false, some ((.u 50), false), .bin .neq (.u 52) (.c (.int .i64 0))⟩,
      ⟨some 54, false, some ((.u 46), true), .pick (.u 50) (.c (.bool true)) (.u 53)⟩,
      ⟨some 55, false, some ((.u 42), false), .pick (.u 46) (.u 54) (.c (.bool false))⟩,
      ⟨some 56, true, none, .pick (.u 42) (.c (.bool true)) (.u 55)⟩])
   (.cond (.t 56)
    (.seq (.region [⟨some 4, true, none, .mov (.c (.int .i64 121))⟩])
    (.ret))
    (.skip)))
  (.seq (.seq (.region [⟨some 57, false, none, .faddr 4 (.t 2)⟩,
      ⟨some 58, false, none, .load false 1 (.u 57)⟩,
      ⟨some 59, false, none, .bin .neq (.u 58) (.c (.int .i64 0))⟩,
      ⟨some 60, false, none, .mov (.u 59)⟩,
      ⟨some 61, false, some ((.u 60), true), .faddr 2 (.t 2)⟩,
      ⟨some 62, false, some ((.u 60), true), .load false 1 (.u 61)⟩,
      ⟨some 63, false, some ((.u 60), true), .bin .neq (.u 62) (.c (.int .i64 0))⟩,
      ⟨some 64, false, some ((.u 60), true), .mov (.u 63)⟩,
      ⟨some 65, false, some ((.u 64), false), .faddr 3 (.t 2)⟩,
      ⟨some 66, false, some ((.u 64), false), .load false 1 (.u 65)⟩,
      ⟨some 67, false, some ((.u 64), false), .bin .neq (.u 66) (.c (.str []))⟩,
      ⟨some 68, false, some ((.u 60), true), .pick (.u 64) (.c (.bool true)) (.u 67)⟩,
      ⟨some 69, true, none, .pick (.u 60) (.u 68) (.c (.bool false))⟩])
   (.cond (.t 69)
    (.seq (.region [⟨some 4, true, none, .mov (.c (.int .i64 122))⟩])
    (.ret))
    (.skip)))
  (.seq (.seq (.region [⟨some 70, false, none, .faddr 4 (.t 2)⟩,
      ⟨some 71, false, none, .load false 1 (.u 70)⟩,
      ⟨some 72, false, none, .bin .eql (.u 71) (.c (.int .i64 0))⟩,
      ⟨some 73, false, none, .mov (.u 72)⟩,
      ⟨some 74, false, some ((.u 73), true), .faddr 0 (.t 2)⟩,
      ⟨some 75, false, some ((.u 73), true), .load false 1 (.u 74)⟩,
      ⟨some 76, false, some ((.u 73), true), .call 68 [(.u 75)]⟩,
      ⟨some 77, false, none, .pick (.u 73) (.u 76) (.c (.bool false))⟩,
      ⟨some 78, false, none, .mov (.u 77)⟩,
      ⟨some 79, false, some ((.u 78), true), .faddr 2 (.t 2)⟩,
      ⟨some 80, false, some ((.u 78), true), .load false 1 (.u 79)⟩,
      ⟨some 81, false, some ((.u 78), true), .bin .neq (.u 80) (.c (.int .i64 0))⟩,
      ⟨some 82, false, some ((.u 78), true), .mov (.u 81)⟩,
      ⟨some 83, false, some ((.u 82), false), .faddr 3 (.t 2)⟩,
      ⟨some 84, false, some ((.u 82), false), .load false 1 (.u 83)⟩,
      ⟨some 85, false, some ((.u 82), false), .bin .eql (.u 84) (.c (.str []))⟩,
      ⟨some 86, false, some ((.u 78), true), .pick (.u 82) (.c (.bool true)) (.u 85)⟩,
      ⟨some 87, false, some ((.u 78), true), .mov (.u 86)⟩,
      ⟨some 88, false, some ((.u 87), false), .faddr 3 (.t 2)⟩,
      ⟨some 89, false, some ((.u 87), false), .load false 1 (.u 88)⟩,
      ⟨some 90, false, some ((.u 87), false), .len (.u 89)⟩,
      ⟨some 91, false, some ((.u 87), false), .bin .gtr (.u 90) (.c (.int .i64 640))⟩,
      ⟨some 92, false, some ((.u 78), true), .pick (.u 87) (.c (.bool true)) (.u 91)⟩,
      ⟨some 93, false, none, .pick (.u 78) (.u 92) (.c (.bool false))⟩,
      ⟨some 94, false, none, .mov (.u 93)⟩,
      ⟨some 95, false, some ((.u 94), false), .faddr 0 (.t 2)⟩,
      ⟨some 96, false, some ((.u 94), false), .load false 1 (.u 95)⟩,
      ⟨some 97, false, some ((.u 94), false), .call 68 [(.u 96)]⟩,
      ⟨some 98, false, some ((.u 94), false), .un .not (.u 97)⟩,
      ⟨some 99, false, some ((.u 94), false), .mov (.u 98)⟩,
      ⟨some 100, false, some ((.u 99), true), .faddr 3 (.t 2)⟩,
      ⟨some 101, false, some ((.u 99), true), .load false 1 (.u 100)⟩,
      ⟨some 102, false, some ((.u 99), true), .bin .neq (.u 101) (.c (.str []))⟩,
      ⟨some 103, false, some ((.u 94), false), .pick (.u 99) (.u 102) (.c (.bool false))⟩,
      ⟨some 104, true, none, .pick (.u 94) (.c (.bool true)) (.u 103)⟩])
   (.cond (.t 104)
    (.seq (.region [⟨some 4, true, none, .mov (.c (.int .i64 122))⟩])
    (.ret))
    (.skip)))
  (.seq (.region [⟨some 4, true, none, .mov (.c (.int .i64 0))⟩])
  (.ret))))))
def r53 : List LRes := [.slot 4]
theorem t53 : (Try.f53.body.bind (trCode v53 Try.prog Try.f53.ntmps)) = some c53 ∧ trRes v53 Try.prog Try.f53.results.toList = some r53 := ⟨by kernel_rfl, by kernel_rfl⟩

def v54 : Nat → Bool := fun t => [0, 2, 3, 6, 7, 17, 25].contains t
def c54 : LCode :=
  .seq (.region [⟨some 2, true, none, .mov (.c (.bool false))⟩])
  (.seq (.region [⟨some 9, false, none, .mov (.t 0)⟩,
     ⟨some 10, false, none, .call 69 [(.u 9)]⟩,
     ⟨some 8, false, none, .mov (.u 10)⟩,
     ⟨some 11, false, none, .ext (.u 8) 0⟩,
     ⟨some 12, false, none, .ext (.u 8) 1⟩,
     ⟨some 13, false, none, .ext (.u 8) 2⟩,
     ⟨some 3, true, none, .mov (.u 11)⟩,
     ⟨some 4, false, none, .mov (.u 12)⟩,
     ⟨some 5, false, none, .mov (.u 13)⟩])
  (.seq (.region [⟨some 6, true, none, .mov (.c (.str []))⟩])
  (.seq (.seq (.region [⟨some 7, true, none, .mov (.c (.int .i64 0))⟩])
   (.block 0 (.loop (.seq (.seq (.region [⟨some 14, false, none, .mov (.t 7)⟩,
         ⟨some 15, false, none, .mov (.t 3)⟩,
         ⟨some 16, false, none, .lenL (.u 15)⟩,
         ⟨some 17, true, none, .bin .lss (.u 14) (.u 16)⟩])
      (.cond (.t 17)
       (.skip)
       (.exit 0)))
     (.seq (.block 1 (.seq (.seq (.region [⟨some 20, false, none, .mov (.t 3)⟩,
           ⟨some 21, false, none, .mov (.t 7)⟩,
           ⟨some 22, false, none, .iaS 1 (.u 20) (.u 21)⟩,
           ⟨some 23, false, none, .load false 1 (.u 22)⟩,
           ⟨some 24, false, none, .call 70 [(.u 23)]⟩,
           ⟨some 25, true, none, .un .not (.u 24)⟩])
        (.cond (.t 25)
         (.seq (.region [⟨some 2, true, none, .mov (.c (.bool false))⟩])
         (.ret))
         (.skip)))
       (.region [⟨some 26, false, none, .mov (.t 6)⟩,
         ⟨some 27, false, none, .mov (.t 3)⟩,
         ⟨some 28, false, none, .mov (.t 7)⟩,
         ⟨some 29, false, none, .iaS 1 (.u 27) (.u 28)⟩,
         ⟨some 30, false, none, .load false 1 (.u 29)⟩,
         ⟨some 31, false, none, .bin .add (.c (.str [47])) (.u 30)⟩,
         ⟨some 32, false, none, .bin .add (.u 26) (.u 31)⟩,
         ⟨some 6, true, none, .mov (.u 32)⟩])))
     (.region [⟨some 18, false, none, .mov (.t 7)⟩,
       ⟨some 19, false, none, .bin .add (.u 18) (.c (.int .i64 1))⟩,
       ⟨some 7, true, none, .mov (.u 19)⟩]))))))
  (.seq (.region [⟨some 33, false, none, .mov (.t 0)⟩,
     ⟨some 34, false, none, .bin .eql (.u 33) (.c (.str [47]))⟩,
     ⟨some 35, false, none, .mov (.u 34)⟩,
     ⟨some 36, false, some ((.u 35), false), .mov (.t 3)⟩,
     ⟨some 37, false, some ((.u 35), false), .lenL (.u 36)⟩,
     ⟨some 38, false, some ((.u 35), false), .bin .gtr (.u 37) (.c (.int .i64 0))⟩,
     ⟨some 39, false, some ((.u 35), false), .mov (.u 38)⟩,
     ⟨some 40, false, some ((.u 39), true), .mov (.t 0)⟩,
     ⟨some 41, false, some ((.u 39), true), .mov (.t 6)⟩,
     ⟨some 42, false, some ((.u 39), true), .bin .eql (.u 40) (.u 41)⟩,
     ⟨some 43, false, some ((.u 35), false), .pick (.u 39) (.u 42) (.c (.bool false))⟩,
     ⟨some 44, false, none, .pick (.u 35) (.c (.bool true)) (.u 43)⟩,
     ⟨some 2, true, none, .mov (.u 44)⟩])
  (.ret)))))
def r54 : List LRes := [.slot 2]
theorem t54 : (Try.f54.body.bind (trCode v54 Try.prog Try.f54.ntmps)) = some c54 ∧ trRes v54 Try.prog Try.f54.results.toList = some r54 := ⟨by kernel_rfl, by kernel_rfl⟩

def v55 : Nat → Bool := fun t => [0, 1, 2, 3, 4, 5, 61, 66, 79].contains t
def c55 : LCode :=
  .seq (.region [⟨some 2, true, none, .box (.t 0)⟩,
     ⟨some 3, true, none, .box (.t 1)⟩,
     ⟨some 4, true, none, .mov (.c (.bool false))⟩])
  (.seq (.seq (.region [⟨some 6, false, none, .faddr 0 (.t 2)⟩,
      ⟨some 7, false, none, .load false 1 (.u 6)⟩,
      ⟨some 8, false, none, .faddr 0 (.t 3)⟩,
      ⟨some 9, false, none, .load false 1 (.u 8)⟩,
      ⟨some 10, false, none, .bin .neq (.u 7) (.u 9)⟩,
      ⟨some 11, false, none, .mov (.u 10)⟩,
      ⟨some 12, false, some ((.u 11), false), .faddr 1 (.t 2)⟩,
      ⟨some 13, false, some ((.u 11), false), .load false 1 (.u 12)⟩,
      ⟨some 14, false, some ((.u 11), false), .faddr 1 (.t 3)⟩,
      ⟨some 15, false, some ((.u 11), false), .load false 1 (.u 14)⟩,
      ⟨some 16, false, some ((.u 11), false), .bin .neq (.u 13) (.u 15)⟩,
      ⟨some 17, false, none, .pick (.u 11) (.c (.bool true)) (.u 16)⟩,
      ⟨some 18, false, none, .mov (.u 17)⟩,
      ⟨some 19, false, some ((.u 18), false), .faddr 2 (.t 2)⟩,
      ⟨some 20, false, some ((.u 18), false), .load false 1 (.u 19)⟩,
      ⟨some 21, false, some ((.u 18), false), .faddr 2 (.t 3)⟩,
      ⟨some 22, false, some ((.u 18), false), .load false 1 (.u 21)⟩,
      ⟨some 23, false, some ((.u 18), false), .bin .neq (.u 20) (.u 22)⟩,
      ⟨some 24, false, none, .pick (.u 18) (.c (.bool true)) (.u 23)⟩,
      ⟨some 25, false, none, .mov (.u 24)⟩,
      ⟨some 26, false, some ((.u 25), false), .faddr 4 (.t 2)⟩,
      ⟨some 27, false, some ((.u 25), false), .load false 1 (.u 26)⟩,
      ⟨some 28, false, some ((.u 25), false), .faddr 4 (.t 3)⟩,
      ⟨some 29, false, some ((.u 25), false), .load false 1 (.u 28)⟩,
      ⟨some 30, false, some ((.u 25), false), .bin .neq (.u 27) (.u 29)⟩,
      ⟨some 31, false, none, .pick (.u 25) (.c (.bool true)) (.u 30)⟩,
      ⟨some 32, false, none, .mov (.u 31)⟩,
      ⟨some 33, false, some ((.u 32), false), .faddr 5 (.t 2)⟩,
      ⟨some 34, false, some ((.u 32), false), .load false 1 (.u 33)⟩,
      ⟨some 35, false, some ((.u 32), false), .faddr 5 (.t 3)⟩,
      ⟨some 36, false, some ((.u 32), false), .load false 1 (.u 35)⟩,
      ⟨some 37, false, some ((.u 32), false), .bin .neq (.u 34) (.u 36)⟩,
      ⟨some 38, false, none, .pick (.u 32) (.c (.bool true)) (.u 37)⟩,
      ⟨some 39, false, none, .mov (.u 38)⟩,
      ⟨some 40, false, some ((.u 39), false), .faddr 6 (.t 2)⟩,
      ⟨some 41, false, some ((.u 39), false), .load false 1 (.u 40)⟩,
      ⟨some 42, false, some ((.u 39), false), .faddr 6 (.t 3)⟩,
      ⟨some 43, false, some ((.u 39), false), .load false 1 (.u 42)⟩,
      ⟨some 44, false, some ((.u 39), false), .bin .neq (.u 41) (.u 43)⟩,
      ⟨some 45, false, none, .pick (.u 39) (.c (.bool true)) (.u 44)⟩,
      ⟨some 46, false, none, .mov (.u 45)⟩,
      ⟨some 47, false, some ((.u 46), false), .faddr 7 (.t 2)⟩,
      ⟨some 48, false, some ((.u 46), false), .load false 1 (.u 47)⟩,
      ⟨some 49, false, some ((.u 46), false), .faddr 7 (.t 3)⟩,
      ⟨some 50, false, some ((.u 46), false), .load false 1 (.u 49)⟩,
      ⟨some 51, false, some ((.u 46), false), .bin .neq (.u 48) (.u 50)⟩,
      ⟨some 52, false, none, .pick (.u 46) (.c (.bool true)) (.u 51)⟩,
      ⟨some 53, false, none, .mov (.u 52)⟩,
      ⟨some 54, false, some ((.u 53), false), .faddr 3 (.t 2)⟩,
      ⟨some 55, false, some ((.u 53), false), .load false 1 (.u 54)⟩,
      ⟨some 56, false, some ((.u 53), false), .lenL (.u 55)⟩,
      ⟨some 57, false, some ((.u 53), false), .faddr 3 (.t 3)⟩,
      ⟨some 58, false, some ((.u 53), false), .load false 1 (.u 57)⟩,
      ⟨some 59, false, some ((.u 53), false), .lenL (.u 58)⟩,
      ⟨some 60, false, some ((.u 53), false), .bin .neq (.u 56) (.u 59)⟩,
      ⟨some 61, true, none, .pick (.u 53) (.c (.bool true)) (.u 60)⟩])
   (.cond (.t 61)
    (.seq (.region [⟨some 4, true, none, .mov (.c (.bool false))⟩])
    (.ret))
    (.skip)))
  (.seq (.seq (.region [⟨some 5, true, none, .mov (.c (.int .i64 0))⟩])
   (.block 0 (.loop (.seq (.seq (.region [⟨some 62, false, none, .mov (.t 5)⟩,
         ⟨some 63, false, none, .faddr 3 (.t 2)⟩,
         ⟨some 64, false, none, .load false 1 (.u 63)⟩,
         ⟨some 65, false, none, .lenL (.u 64)⟩,
         ⟨some 66, true, none, .bin .lss (.u 62) (.u 65)⟩])
      (.cond (.t 66)
       (.skip)
       (.exit 0)))
     (.seq (.block 1 (.seq (.regionD [⟨0, [2], false, [], ⟨some 69, false, none, .faddr 3 (.t 2)⟩⟩,
          ⟨1, [69], true, [], ⟨some 70, false, none, .load false 1 (.u 69)⟩⟩,
          ⟨2, [5], false, [], ⟨some 71, false, none, .mov (.t 5)⟩⟩,
          ⟨3, [70, 71], false, [], ⟨some 72, false, none, .iaS 5 (.u 70) (.u 71)⟩⟩,
          ⟨4, [72], true, [], ⟨some 73, false, none, .load true 5 (.u 72)⟩⟩,
          ⟨5, [3], false, [], ⟨some 74, false, none, .faddr 3 (.t 3)⟩⟩,
          ⟨6, [74], true, [], ⟨some 75, false, none, .load false 1 (.u 74)⟩⟩,
          ⟨7, [5], false, [], ⟨some 76, false, none, .mov (.t 5)⟩⟩,
          ⟨8, [75, 76], false, [], ⟨some 77, false, none, .iaS 5 (.u 75) (.u 76)⟩⟩,
          ⟨9, [77], true, [], ⟨some 78, false, none, .load true 5 (.u 77)⟩⟩,
          ⟨10, [73, 78], false, [], ⟨some 79, true, none, .eqS true 5 [(0, 1), (1, 1), (2, 1), (3, 2), (4, 1)] (.u 73) (.u 78)⟩⟩])
       (.cond (.t 79)
        (.seq (.region [⟨some 4, true, none, .mov (.c (.bool false))⟩])
        (.ret))
        (.skip))))
     (.region [⟨some 67, false, none, .mov (.t 5)⟩,
       ⟨some 68, false, none, .bin .add (.u 67) (.c (.int .i64 1))⟩,
       ⟨some 5, true, none, .mov (.u 68)⟩]))))))
  (.seq (.region [⟨some 4, true, none, .mov (.c (.bool true))⟩])
  (.ret))))
def r55 : List LRes := [.slot 4]
theorem t55 : (Try.f55.body.bind (trCode v55 Try.prog Try.f55.ntmps)) = some c55 ∧ trRes v55 Try.prog Try.f55.results.toList = some r55 := ⟨by kernel_rfl, by kernel_rfl⟩

def v56 : Nat → Bool := fun t => [0, 2, 3, 4, 6, 7, 9, 16].contains t
def c56 : LCode :=
  .seq (.region [⟨some 2, true, none, .mov (.c (.int .u64 0))⟩])
  (.seq (.seq (.region [⟨some 5, false, none, .mov (.t 0)⟩,
      ⟨some 6, true, none, .call 26 [(.u 5), (.c (.int .i64 6))]⟩])
   (.block 0 (.seq (.region [⟨some 8, false, none, .bin .eql (.t 6) (.c (.int .i64 0))⟩,
       ⟨some 7, true, none, .mov (.u 8)⟩])
    (.cond (.t 7)
     (.seq (.region [⟨some 2, true, none, .mov (.c (.int .u64 4294967295))⟩])
     (.ret))
     (.seq (.region [⟨some 10, false, none, .bin .eql (.t 6) (.c (.int .i64 1))⟩,
        ⟨some 9, true, none, .mov (.u 10)⟩])
     (.cond (.t 9)
      (.seq (.region [⟨some 11, false, none, .mov (.t 0)⟩,
         ⟨some 12, false, none, .call 26 [(.u 11), (.c (.int .i64 32))]⟩,
         ⟨some 13, false, none, .conv .u64 (.u 12)⟩,
         ⟨some 14, false, none, .bin .shl (.c (.int .u64 1)) (.u 13)⟩,
         ⟨some 2, true, none, .mov (.u 14)⟩])
      (.ret))
      (.skip)))))))
  (.seq (.region [⟨some 3, true, none, .mov (.c (.int .u64 0))⟩])
  (.seq (.seq (.region [⟨some 4, true, none, .mov (.c (.int .i64 0))⟩])
   (.block 1 (.loop (.seq (.seq (.region [⟨some 15, false, none, .mov (.t 4)⟩,
         ⟨some 16, true, none, .bin .lss (.u 15) (.c (.int .i64 32))⟩])
      (.cond (.t 16)
       (.skip)
       (.exit 1)))
     (.seq (.block 2 (.region [⟨some 19, false, none, .mov (.t 3)⟩,
         ⟨some 20, false, none, .mov (.t 0)⟩,
         ⟨some 21, false, none, .call 26 [(.u 20), (.c (.int .i64 2))]⟩,
         ⟨some 22, false, none, .conv .u64 (.u 21)⟩,
         ⟨some 23, false, none, .mov (.t 4)⟩,
         ⟨some 24, false, none, .conv .u64 (.u 23)⟩,
         ⟨some 25, false, none, .bin .shl (.u 22) (.u 24)⟩,
         ⟨some 26, false, none, .bin .or (.u 19) (.u 25)⟩,
         ⟨some 3, true, none, .mov (.u 26)⟩]))
     (.region [⟨some 17, false, none, .mov (.t 4)⟩,
       ⟨some 18, false, none, .bin .add (.u 17) (.c (.int .i64 1))⟩,
       ⟨some 4, true, none, .mov (.u 18)⟩]))))))
  (.seq (.region [⟨some 27, false, none, .mov (.t 3)⟩,
     ⟨some 2, true, none, .mov (.u 27)⟩])
  (.ret)))))
def r56 : List LRes := [.slot 2]
theorem t56 : (Try.f56.body.bind (trCode v56 Try.prog Try.f56.ntmps)) = some c56 ∧ trRes v56 Try.prog Try.f56.results.toList = some r56 := ⟨by kernel_rfl, by kernel_rfl⟩

def v57 : Nat → Bool := fun t => [0, 1, 4, 5, 6, 17, 28, 38, 53, 67, 77, 92].contains t
def c57 : LCode :=
  .seq (.region [⟨some 4, true, none, .zero [.int .i64 0, .int .i64 0, .int .i64 0, .str [], .int .i64 0]⟩])
  (.seq (.region [⟨some 7, false, none, .mov (.t 0)⟩,
     ⟨some 8, false, none, .call 22 [(.u 7), (.c (.int .i64 1)), (.c (.int .i64 8))]⟩,
     ⟨some 9, false, none, .mov (.t 0)⟩,
     ⟨some 10, false, none, .call 22 [(.u 9), (.c (.int .i64 1)), (.c (.int .i64 8))]⟩,
     ⟨some 11, false, none, .mov (.t 0)⟩,
     ⟨some 12, false, none, .mkS 1 9 [.int .i64 0] [(0, 1, (.c (.int .i64 0))), (1, 1, (.c (.int .i64 0))), (2, 1, (.c (.int .i64 1))), (3, 1, (.c (.int .i64 2))), (4, 1, (.c (.int .i64 5))), (5, 1, (.c (.int .i64 7))), (6, 1, (.c (.int .i64 1000))), (7, 1, (.c (.int .i64 4294967295))), (8, 1, (.c (.int .i64 (-1))))]⟩,
     ⟨some 13, false, none, .call 32 [(.u 11), (.u 12)]⟩,
     ⟨some 14, false, none, .build [.int .i64 0, .int .i64 0, .int .i64 0, .str [], .int .i64 0] [(0, 1, (.u 8)), (1, 1, (.u 10)), (2, 1, (.u 13))]⟩,
     ⟨some 5, true, none, .zero [.int .i64 0, .int .i64 0, .int .i64 0, .str [], .int .i64 0]⟩,
     ⟨none, true, none, .store 5 (.t 5) (.u 14)⟩])
  (.seq (.region [⟨some 15, false, none, .mov (.t 0)⟩,
     ⟨some 16, false, none, .call 26 [(.u 15), (.c (.int .i64 8))]⟩,
     ⟨some 6, true, none, .mov (.u 16)⟩])
  (.seq (.block 0 (.seq (.region [⟨some 18, false, none, .mov (.t 6)⟩,
       ⟨some 19, false, none, .bin .eql (.u 18) (.c (.int .i64 0))⟩,
       ⟨some 17, true, none, .mov (.u 19)⟩])
    (.cond (.t 17)
     (.region [⟨some 20, false, none, .mov (.t 0)⟩,
       ⟨some 21, false, none, .call 22 [(.u 20), (.c (.int .i64 13)), (.c (.int .i64 14))]⟩,
       ⟨some 22, false, none, .mov (.t 0)⟩,
       ⟨some 23, false, none, .call 22 [(.u 22), (.c (.int .i64 1)), (.c (.int .i64 2))]⟩,
       ⟨some 24, false, none, .mov (.t 0)⟩,
       ⟨some 25, false, none, .mkS 1 5 [.str []] [(0, 1, (.c (.str [47, 97]))), (1, 1, (.c (.str [47, 105, 110, 105, 116]))), (2, 1, (.c (.str [97]))), (3, 1, (.c (.str [105, 110, 105, 116]))), (4, 1, (.c (.str [120, 32, 121])))]⟩,
       ⟨some 26, false, none, .call 44 [(.u 24), (.u 25)]⟩,
       ⟨some 27, false, none, .build [.int .i64 0, .int .i64 0, .int .i64 0, .str [], .int .i64 0] [(0, 1, (.u 21)), (1, 1, (.u 23)), (3, 1, (.u 26))]⟩,
       ⟨none, true, none, .store 5 (.t 5) (.u 27)⟩])
     (.seq (.region [⟨some 29, false, none, .mov (.t 6)⟩,
        ⟨some 30, false, none, .bin .eql (.u 29) (.c (.int .i64 1))⟩,
        ⟨some 28, true, none, .mov (.u 30)⟩])
     (.cond (.t 28)
      (.region [⟨some 31, false, none, .mov (.t 0)⟩,
        ⟨some 32, false, none, .call 22 [(.u 31), (.c (.int .i64 3)), (.c (.int .i64 7))]⟩,
        ⟨some 33, false, none, .mov (.t 0)⟩,
        ⟨some 34, false, none, .call 22 [(.u 33), (.c (.int .i64 1)), (.c (.int .i64 2))]⟩,
        ⟨some 35, false, none, .mov (.t 0)⟩,
        ⟨some 36, false, none, .call 22 [(.u 35), (.c (.int .i64 3)), (.c (.int .i64 7))]⟩,
        ⟨some 37, false, none, .build [.int .i64 0, .int .i64 0, .int .i64 0, .str [], .int .i64 0] [(0, 1, (.u 32)), (1, 1, (.u 34)), (4, 1, (.u 36))]⟩,
        ⟨none, true, none, .store 5 (.t 5) (.u 37)⟩])
      (.seq (.region [⟨some 39, false, none, .mov (.t 6)⟩,
         ⟨some 40, false, none, .bin .eql (.u 39) (.c (.int .i64 2))⟩,
         ⟨some 41, false, none, .mov (.u 40)⟩,
         ⟨some 42, false, some ((.u 41), true), .mov (.t 1)⟩,
         ⟨some 43, false, some ((.u 41), true), .bin .eql (.u 42) (.c (.int .i64 3))⟩,
         ⟨some 44, false, none, .pick (.u 41) (.u 43) (.c (.bool false))⟩,
         ⟨some 38, true, none, .mov (.u 44)⟩])
      (.cond (.t 38)
       (.region [⟨some 45, false, none, .mov (.t 0)⟩,
         ⟨some 46, false, none, .call 22 [(.u 45), (.c (.int .i64 19)), (.c (.int .i64 20))]⟩,
         ⟨some 47, false, none, .mov (.t 0)⟩,
         ⟨some 48, false, none, .call 22 [(.u 47), (.c (.int .i64 1)), (.c (.int .i64 2))]⟩,
         ⟨some 49, false, none, .mov (.t 0)⟩,
         ⟨some 50, false, none, .mkS 1 5 [.int .i64 0] [(0, 1, (.c (.int .i64 3))), (1, 1, (.c (.int .i64 4))), (2, 1, (.c (.int .i64 5))), (3, 1, (.c (.int .i64 19))), (4, 1, (.c (.int .i64 20)))]⟩,
         ⟨some 51, false, none, .call 32 [(.u 49), (.u 50)]⟩,
         ⟨some 52, false, none, .build [.int .i64 0, .int .i64 0, .int .i64 0, .str [], .int .i64 0] [(0, 1, (.u 46)), (1, 1, (.u 48)), (4, 1, (.u 51))]⟩,
         ⟨none, true, none, .store 5 (.t 5) (.u 52)⟩])
       (.seq (.region [⟨some 54, false, none, .mov (.t 6)⟩,
          ⟨some 55, false, none, .bin .lss (.u 54) (.c (.int .i64 5))⟩,
          ⟨some 56, false, none, .mov (.u 55)⟩,
          ⟨some 57, false, some ((.u 56), true), .mov (.t 1)⟩,
          ⟨some 58, false, some ((.u 56), true), .bin .eql (.u 57) (.c (.int .i64 3))⟩,
          ⟨some 59, false, none, .pick (.u 56) (.u 58) (.c (.bool false))⟩,
          ⟨some 53, true, none, .mov (.u 59)⟩])
       (.cond (.t 53)
        (.region [⟨some 60, false, none, .mov (.t 0)⟩,
          ⟨some 61, false, none, .call 22 [(.u 60), (.c (.int .i64 15)), (.c (.int .i64 21))]⟩,
          ⟨some 62, false, none, .mov (.t 0)⟩,
          ⟨some 63, false, none, .mkS 1 8 [.int .i64 0] [(0, 1, (.c (.int .i64 0))), (1, 1, (.c (.int .i64 0))), (2, 1, (.c (.int .i64 1))), (3, 1, (.c (.int .i64 1))), (4, 1, (.c (.int .i64 2))), (5, 1, (.c (.int .i64 5))), (6, 1, (.c (.int .i64 (-2)))), (7, 1, (.c (.int .i64 (-13))))]⟩,
          ⟨some 64, false, none, .call 32 [(.u 62), (.u 63)]⟩,
          ⟨some 65, false, none, .faddr 0 (.t 5)⟩,
          ⟨none, true, none, .store 1 (.u 65) (.u 61)⟩,
          ⟨some 66, false, none, .faddr 2 (.t 5)⟩,
          ⟨none, true, none, .store 1 (.u 66) (.u 64)⟩])
        (.seq (.region [⟨some 68, false, none, .mov (.t 6)⟩,
           ⟨some 69, false, none, .bin .lss (.u 68) (.c (.int .i64 5))⟩,
           ⟨some 70, false, none, .mov (.u 69)⟩,
           ⟨some 71, false, some ((.u 70), true), .mov (.t 1)⟩,
           ⟨some 72, false, some ((.u 70), true), .bin .eql (.u 71) (.c (.int .i64 2))⟩,
           ⟨some 73, false, none, .pick (.u 70) (.u 72) (.c (.bool false))⟩,
           ⟨some 67, true, none, .mov (.u 73)⟩])
        (.cond (.t 67)
         (.region [⟨some 74, false, none, .mov (.t 0)⟩,
           ⟨some 75, false, none, .call 22 [(.u 74), (.c (.int .i64 9)), (.c (.int .i64 12))]⟩,
           ⟨some 76, false, none, .faddr 0 (.t 5)⟩,
           ⟨none, true, none, .store 1 (.u 76) (.u 75)⟩])
         (.seq (.region [⟨some 78, false, none, .mov (.t 6)⟩,
            ⟨some 79, false, none, .bin .lss (.u 78) (.c (.int .i64 6))⟩,
            ⟨some 80, false, none, .mov (.u 79)⟩,
            ⟨some 81, false, some ((.u 80), true), .mov (.t 1)⟩,
            ⟨some 82, false, some ((.u 80), true), .bin .eql (.u 81) (.c (.int .i64 5))⟩,
            ⟨some 83, false, none, .pick (.u 80) (.u 82) (.c (.bool false))⟩,
            ⟨some 77, true, none, .mov (.u 83)⟩])
         (.cond (.t 77)
          (.region [⟨some 84, false, none, .mov (.t 0)⟩,
            ⟨some 85, false, none, .call 22 [(.u 84), (.c (.int .i64 1)), (.c (.int .i64 6))]⟩,
            ⟨some 86, false, none, .mov (.t 0)⟩,
            ⟨some 87, false, none, .mkS 1 7 [.int .i64 0] [(0, 1, (.c (.int .i64 1300))), (1, 1, (.c (.int .i64 1302))), (2, 1, (.c (.int .i64 1307))), (3, 1, (.c (.int .i64 1309))), (4, 1, (.c (.int .i64 1005))), (5, 1, (.c (.int .i64 1320))), (6, 1, (.c (.int .i64 1306)))]⟩,
            ⟨some 88, false, none, .call 32 [(.u 86), (.u 87)]⟩,
            ⟨some 89, false, none, .build [.int .i64 0, .int .i64 0, .int .i64 0, .str [], .int .i64 0] [(0, 1, (.c (.int .i64 22))), (1, 1, (.u 85)), (2, 1, (.u 88))]⟩,
            ⟨none, true, none, .store 5 (.t 5) (.u 89)⟩])
          (.skip))))))))))))))
  (.seq (.seq (.region [⟨some 90, false, none, .mov (.t 0)⟩,
      ⟨some 91, false, none, .call 26 [(.u 90), (.c (.int .i64 24))]⟩,
      ⟨some 92, true, none, .bin .eql (.u 91) (.c (.int .i64 23))⟩])
   (.cond (.t 92)
    (.region [⟨some 93, false, none, .mov (.t 0)⟩,
      ⟨some 94, false, none, .call 22 [(.u 93), (.c (.int .i64 0)), (.c (.int .i64 24))]⟩,
      ⟨some 95, false, none, .mov (.t 0)⟩,
      ⟨some 96, false, none, .call 22 [(.u 95), (.c (.int .i64 0)), (.c (.int .i64 9))]⟩,
      ⟨some 97, false, none, .faddr 0 (.t 5)⟩,
      ⟨none, true, none, .store 1 (.u 97) (.u 94)⟩,
      ⟨some 98, false, none, .faddr 1 (.t 5)⟩,
      ⟨none, true, none, .store 1 (.u 98) (.u 96)⟩])
    (.skip)))
  (.seq (.region [⟨some 99, false, none, .load true 5 (.t 5)⟩,
     ⟨none, true, none, .store 5 (.t 4) (.u 99)⟩])
  (.ret))))))
def r57 : List LRes := [.cell true 5 4]
theorem t57 : (Try.f57.body.bind (trCode v57 Try.prog Try.f57.ntmps)) = some c57 ∧ trRes v57 Try.prog Try.f57.results.toList = some r57 := ⟨by kernel_rfl, by kernel_rfl⟩

def v58 : Nat → Bool := fun t => [0, 2, 9].contains t
def c58 : LCode :=
  .seq (.region [⟨some 2, true, none, .zero [.str [], .int .i64 0, .int .i64 0, .int .i64 0, .int .i64 0]⟩])
  (.seq (.seq (.region [⟨some 3, false, none, .mov (.t 0)⟩,
      ⟨some 4, false, none, .bin .lss (.u 3) (.c (.int .i64 0))⟩,
      ⟨some 5, false, none, .mov (.u 4)⟩,
      ⟨some 6, false, some ((.u 5), false), .mov (.t 0)⟩,
      ⟨some 7, false, some ((.u 5), false), .call 71 []⟩,
      ⟨some 8, false, some ((.u 5), false), .bin .geq (.u 6) (.u 7)⟩,
      ⟨some 9, true, none, .pick (.u 5) (.c (.bool true)) (.u 8)⟩])
   (.cond (.t 9)
    (.seq (.region [⟨some 10, false, none, .build [.str [], .int .i64 0, .int .i64 0, .int .i64 0, .int .i64 0] []⟩,
       ⟨none, true, none, .store 5 (.t 2) (.u 10)⟩])
    (.ret))
    (.skip)))
  (.seq (.region [⟨some 11, false, none, .call 72 []⟩,
     ⟨some 12, false, none, .mov (.t 0)⟩,
     ⟨some 13, false, none, .iaS 5 (.u 11) (.u 12)⟩,
     ⟨some 14, false, none, .load true 5 (.u 13)⟩,
     ⟨none, true, none, .store 5 (.t 2) (.u 14)⟩])
  (.ret)))
def r58 : List LRes := [.cell true 5 2]
theorem t58 : (Try.f58.body.bind (trCode v58 Try.prog Try.f58.ntmps)) = some c58 ∧ trRes v58 Try.prog Try.f58.results.toList = some r58 := ⟨by kernel_rfl, by kernel_rfl⟩

def v59 : Nat → Bool := fun t => [0, 1, 2, 3, 5, 11].contains t
def c59 : LCode :=
  .seq (.region [⟨some 1, true, none, .box (.t 0)⟩,
     ⟨some 2, true, none, .mov (.c (.bool false))⟩])
  (.seq (.seq (.region [⟨some 3, true, none, .mov (.c (.int .i64 1))⟩])
   (.block 0 (.loop (.seq (.seq (.region [⟨some 4, false, none, .mov (.t 3)⟩,
         ⟨some 5, true, none, .bin .leq (.u 4) (.c (.int .i64 5))⟩])
      (.cond (.t 5)
       (.skip)
       (.exit 0)))
     (.seq (.block 1 (.seq (.region [⟨some 8, false, none, .load true 5 (.t 1)⟩,
          ⟨some 9, false, none, .mov (.t 3)⟩,
          ⟨some 10, false, none, .call 53 [(.u 8), (.u 9)]⟩,
          ⟨some 11, true, none, .bin .eql (.u 10) (.c (.int .i64 0))⟩])
       (.cond (.t 11)
        (.seq (.region [⟨some 2, true, none, .mov (.c (.bool true))⟩])
        (.ret))
        (.skip))))
     (.region [⟨some 6, false, none, .mov (.t 3)⟩,
       ⟨some 7, false, none, .bin .add (.u 6) (.c (.int .i64 1))⟩,
       ⟨some 3, true, none, .mov (.u 7)⟩]))))))
  (.seq (.region [⟨some 2, true, none, .mov (.c (.bool false))⟩])
  (.ret)))
def r59 : List LRes := [.slot 2]
theorem t59 : (Try.f59.body.bind (trCode v59 Try.prog Try.f59.ntmps)) = some c59 ∧ trRes v59 Try.prog Try.f59.results.toList = some r59 := ⟨by kernel_rfl, by kernel_rfl⟩

def v60 : Nat → Bool := fun t => [0, 1, 3, 4, 10].contains t
def c60 : LCode :=
  .seq (.region [⟨some 3, true, none, .box (.t 1)⟩,
     ⟨some 4, true, none, .mov (.c (.bool false))⟩])
  (.seq (.seq (.region [⟨some 5, false, none, .mov (.t 0)⟩,
      ⟨some 6, false, none, .bin .geq (.u 5) (.c (.int .i64 15))⟩,
      ⟨some 7, false, none, .mov (.u 6)⟩,
      ⟨some 8, false, some ((.u 7), true), .mov (.t 0)⟩,
      ⟨some 9, false, some ((.u 7), true), .bin .leq (.u 8) (.c (.int .i64 21))⟩,
      ⟨some 10, true, none, .pick (.u 7) (.u 9) (.c (.bool false))⟩])
   (.cond (.t 10)
    (.seq (.region [⟨some 11, false, none, .faddr 0 (.t 3)⟩,
       ⟨some 12, false, none, .load false 1 (.u 11)⟩,
       ⟨some 13, false, none, .bin .eql (.u 12) (.c (.int .i64 2))⟩,
       ⟨some 4, true, none, .mov (.u 13)⟩])
    (.ret))
    (.skip)))
  (.seq (.region [⟨some 14, false, none, .mov (.t 0)⟩,
     ⟨some 15, false, none, .bin .neq (.u 14) (.c (.int .i64 22))⟩,
     ⟨some 16, false, none, .mov (.u 15)⟩,
     ⟨some 17, false, some ((.u 16), false), .faddr 24 (.t 3)⟩,
     ⟨some 18, false, some ((.u 16), false), .load false 1 (.u 17)⟩,
     ⟨some 19, false, some ((.u 16), false), .bin .neq (.u 18) (.c (.int .i64 0))⟩,
     ⟨some 20, false, none, .pick (.u 16) (.c (.bool true)) (.u 19)⟩,
     ⟨some 4, true, none, .mov (.u 20)⟩])
  (.ret)))
def r60 : List LRes := [.slot 4]
theorem t60 : (Try.f60.body.bind (trCode v60 Try.prog Try.f60.ntmps)) = some c60 ∧ trRes v60 Try.prog Try.f60.results.toList = some r60 := ⟨by kernel_rfl, by kernel_rfl⟩

def v61 : Nat → Bool := fun t => [0, 2].contains t
def c61 : LCode :=
  .seq (.region [⟨some 2, true, none, .mov (.c (.bool false))⟩])
  (.seq (.region [⟨some 3, false, none, .mov (.t 0)⟩,
     ⟨some 4, false, none, .bin .geq (.u 3) (.c (.int .i64 17))⟩,
     ⟨some 5, false, none, .mov (.u 4)⟩,
     ⟨some 6, false, some ((.u 5), true), .mov (.t 0)⟩,
     ⟨some 7, false, some ((.u 5), true), .bin .leq (.u 6) (.c (.int .i64 21))⟩,
     ⟨some 8, false, none, .pick (.u 5) (.u 7) (.c (.bool false))⟩,
     ⟨some 2, true, none, .mov (.u 8)⟩])
  (.ret))
def r61 : List LRes := [.slot 2]
theorem t61 : (Try.f61.body.bind (trCode v61 Try.prog Try.f61.ntmps)) = some c61 ∧ trRes v61 Try.prog Try.f61.results.toList = some r61 := ⟨by kernel_rfl, by kernel_rfl⟩

def v62 : Nat → Bool := fun t => [0, 1, 2, 3, 4, 5, 6, 7, 8, 11, 17, 33].contains t
def c62 : LCode :=
  .seq (.region [⟨some 3, true, none, .box (.t 0)⟩,
     ⟨some 4, true, none, .box (.t 1)⟩,
     ⟨some 5, true, none, .box (.t 2)⟩,
     ⟨some 6, true, none, .mov (.c (.bool false))⟩])
  (.seq (.seq (.region [⟨some 9, false, none, .faddr 0 (.t 3)⟩,
      ⟨some 10, false, none, .load false 1 (.u 9)⟩,
      ⟨some 11, true, none, .call 68 [(.u 10)]⟩])
   (.cond (.t 11)
    (.seq (.region [⟨some 12, false, none, .faddr 1 (.t 4)⟩,
       ⟨some 13, false, none, .faddr 11 (.u 12)⟩,
       ⟨some 14, false, none, .load false 1 (.u 13)⟩,
       ⟨some 7, true, none, .mov (.u 14)⟩])
    (.seq (.seq (.region [⟨some 15, false, none, .faddr 0 (.t 3)⟩,
        ⟨some 16, false, none, .load false 1 (.u 15)⟩,
        ⟨some 17, true, none, .bin .eql (.u 16) (.c (.int .i64 14))⟩])
     (.cond (.t 17)
      (.region [⟨some 18, false, none, .faddr 1 (.t 4)⟩,
        ⟨some 19, false, none, .faddr 10 (.u 18)⟩,
        ⟨some 20, false, none, .load false 1 (.u 19)⟩,
        ⟨some 7, true, none, .mov (.u 20)⟩])
      (.skip)))
    (.seq (.region [⟨some 21, false, none, .mov (.t 7)⟩,
       ⟨some 22, false, none, .faddr 3 (.t 3)⟩,
       ⟨some 23, false, none, .load false 1 (.u 22)⟩,
       ⟨some 24, false, none, .bin .eql (.u 21) (.u 23)⟩,
       ⟨some 25, false, none, .faddr 1 (.t 3)⟩,
       ⟨some 26, false, none, .load false 1 (.u 25)⟩,
       ⟨some 27, false, none, .bin .eql (.u 26) (.c (.int .i64 1))⟩,
       ⟨some 28, false, none, .eqB false (.u 24) (.u 27)⟩,
       ⟨some 6, true, none, .mov (.u 28)⟩])
    (.ret))))
    (.skip)))
  (.seq (.region [⟨some 29, false, none, .faddr 2 (.t 3)⟩,
     ⟨some 30, false, none, .load false 1 (.u 29)⟩,
     ⟨some 8, true, none, .mov (.u 30)⟩])
  (.seq (.seq (.region [⟨some 31, false, none, .faddr 4 (.t 3)⟩,
      ⟨some 32, false, none, .load false 1 (.u 31)⟩,
      ⟨some 33, true, none, .bin .neq (.u 32) (.c (.int .i64 0))⟩])
   (.cond (.t 33)
    (.region [⟨some 34, false, none, .faddr 4 (.t 3)⟩,
      ⟨some 35, false, none, .load false 1 (.u 34)⟩,
      ⟨some 36, false, none, .load true 25 (.t 4)⟩,
      ⟨some 37, false, none, .load true 13 (.t 5)⟩,
      ⟨some 38, false, none, .call 73 [(.u 35), (.u 36), (.u 37)]⟩,
      ⟨some 8, true, none, .mov (.u 38)⟩])
    (.skip)))
  (.seq (.regionD [⟨0, [3], false, [], ⟨some 39, false, none, .faddr 1 (.t 3)⟩⟩,
     ⟨1, [39], true, [], ⟨some 40, false, none, .load false 1 (.u 39)⟩⟩,
     ⟨2, [3], false, [], ⟨some 41, false, none, .faddr 0 (.t 3)⟩⟩,
     ⟨3, [41], true, [], ⟨some 42, false, none, .load false 1 (.u 41)⟩⟩,
     ⟨4, [4], true, [], ⟨some 43, false, none, .load true 25 (.t 4)⟩⟩,
     ⟨5, [5], true, [], ⟨some 44, false, none, .load true 13 (.t 5)⟩⟩,
     ⟨7, [8], false, [], ⟨some 46, false, none, .mov (.t 8)⟩⟩,
     ⟨6, [42, 43, 44], false, [1], ⟨some 45, false, none, .call 73 [(.u 42), (.u 43), (.u 44)]⟩⟩,
     ⟨8, [40, 45, 46], false, [], ⟨some 47, false, none, .call 74 [(.u 40), (.u 45), (.u 46)]⟩⟩,
     ⟨9, [47], false, [], ⟨some 6, true, none, .mov (.u 47)⟩⟩])
  (.ret)))))
def r62 : List LRes := [.slot 6]
theorem t62 : (Try.f62.body.bind (trCode v62 Try.prog Try.f62.ntmps)) = some c62 ∧ trRes v62 Try.prog Try.f62.results.toList = some r62 := ⟨by kernel_rfl, by kernel_rfl⟩

def v63 : Nat → Bool := fun t => [0, 1, 2, 4, 9, 31, 39, 57, 58, 72, 92].contains t
def c63 : LCode :=
  .seq (.region [⟨some 2, true, none, .box (.t 0)⟩,
     ⟨some 4, true, none, .mov (.c (.int .i64 0))⟩])
  (.seq (.seq (.region [⟨some 5, false, none, .mov (.t 1)⟩,
      ⟨some 6, false, none, .faddr 0 (.t 2)⟩,
      ⟨some 7, false, none, .load false 1 (.u 6)⟩,
      ⟨some 8, false, none, .call 75 [(.u 5), (.u 7)]⟩,
      ⟨some 9, true, none, .un .not (.u 8)⟩])
   (.cond (.t 9)
    (.seq (.region [⟨some 4, true, none, .mov (.c (.int .i64 120))⟩])
    (.ret))
    (.skip)))
  (.seq (.seq (.region [⟨some 10, false, none, .faddr 4 (.t 2)⟩,
      ⟨some 11, false, none, .load false 1 (.u 10)⟩,
      ⟨some 12, false, none, .bin .neq (.u 11) (.c (.int .i64 0))⟩,
      ⟨some 13, false, none, .mov (.u 12)⟩,
      ⟨some 14, false, some ((.u 13), true), .mov (.t 1)⟩,
      ⟨some 15, false, some ((.u 13), true), .faddr 4 (.t 2)⟩,
      ⟨some 16, false, some ((.u 13), true), .load false 1 (.u 15)⟩,
      ⟨some 17, false, some ((.u 13), true), .call 75 [(.u 14), (.u 16)]⟩,
      ⟨some 18, false, some ((.u 13), true), .un .not (.u 17)⟩,
      ⟨some 19, false, some ((.u 13), true), .mov (.u 18)⟩,
      ⟨some 20, false, some ((.u 19), false), .faddr 0 (.t 2)⟩,
      ⟨some 21, false, some ((.u 19), false), .load false 1 (.u 20)⟩,
      ⟨some 22, false, some ((.u 19), false), .call 76 [(.u 21)]⟩,
      ⟨some 23, false, some ((.u 19), false), .un .not (.u 22)⟩,
      ⟨some 24, false, some ((.u 13), true), .pick (.u 19) (.c (.bool true)) (.u 23)⟩,
      ⟨some 25, false, some ((.u 13), true), .mov (.u 24)⟩,
      ⟨some 26, false, some ((.u 25), false), .faddr 4 (.t 2)⟩,
      ⟨some 27, false, some ((.u 25), false), .load false 1 (.u 26)⟩,
      ⟨some 28, false, some ((.u 25), false), .call 76 [(.u 27)]⟩,
      ⟨some 29, false, some ((.u 25), false), .un .not (.u 28)⟩,
      ⟨some 30, false, some ((.u 13), true), .pick (.u 25) (.c (.bool true)) (.u 29)⟩,
      ⟨some 31, true, none, .pick (.u 13) (.u 30) (.c (.bool false))⟩])
   (.cond (.t 31)
    (.seq (.region [⟨some 4, true, none, .mov (.c (.int .i64 120))⟩])
    (.ret))
    (.skip)))
  (.seq (.seq (.region [⟨some 32, false, none, .faddr 1 (.t 2)⟩,
      ⟨some 33, false, none, .load false 1 (.u 32)⟩,
      ⟨some 34, false, none, .bin .lss (.u 33) (.c (.int .i64 1))⟩,
      ⟨some 35, false, none, .mov (.u 34)⟩,
      ⟨some 36, false, some ((.u 35), false), .faddr 1 (.t 2)⟩,
      ⟨some 37, false, some ((.u 35), false), .load false 1 (.u 36)⟩,
      ⟨some 38, false, some ((.u 35), false), .bin .gtr (.u 37) (.c (.int .i64 8))⟩,
      ⟨some 39, true, none, .pick (.u 35) (.c (.bool true)) (.u 38)⟩])
   (.cond (.t 39)
    (.seq (.region [⟨some 4, true, none, .mov (.c (.int .i64 121))⟩])
    (.ret))
    (.skip)))
  (.seq (.seq (.region [⟨some 40, false, none, .faddr 1 (.t 2)⟩,
      ⟨some 41, false, none, .load false 1 (.u 40)⟩,
      ⟨some 42, false, none, .bin .neq (.u 41) (.c (.int .i64 1))⟩,
      ⟨some 43, false, none, .mov (.u 42)⟩,
      ⟨some 44, false, some ((.u 43), true), .faddr 1 (.t 2)⟩,
      ⟨some 45, false, some ((.u 43), true), .load false 1 (.u 44)⟩,
      ⟨some 46, false, some ((.u 43), true), .bin .neq (.u 45) (.c (.int .i64 2))⟩,
      ⟨some 47, false, none, .pick (.u 43) (.u 46) (.c (.bool false))⟩,
      ⟨some 48, false, none, .mov (.u 47)⟩,
      ⟨some 49, false, some ((.u 48), true), .faddr 0 (.t 2)⟩,
      ⟨some 50, false, some ((.u 48), true), .load false 1 (.u 49)⟩,
      ⟨some 51, false, some ((.u 48), true), .call 77 [(.u 50)]⟩,
      ⟨some 52, false, some ((.u 48), true), .mov (.u 51)⟩,
      ⟨some 53, false, some ((.u 52), false), .faddr 4 (.t 2)⟩,
      ⟨some 54, false, some ((.u 52), false), .load false 1 (.u 53)⟩,
      ⟨some 55, false, some ((.u 52), false), .bin .neq (.u 54) (.c (.int .i64 0))⟩,
      ⟨some 56, false, some ((.u 48), true), .pick (.u 52) (.c (.bool true)) (.u 55)⟩,
      ⟨some 57, true, none, .pick (.u 48) (.u 56) (.c (.bool false))⟩])
   (.cond (.t 57)
    (.seq (.region [⟨some 4, true, none, .mov (.c (.int .i64 121))⟩])
    (.ret))
    (.skip)))
  (.seq (.block 0 (.seq (.region [⟨some 59, false, none, .faddr 4 (.t 2)⟩,
       ⟨some 60, false, none, .load false 1 (.u 59)⟩,
       ⟨some 61, false, none, .bin .neq (.u 60) (.c (.int .i64 0))⟩,
       ⟨some 62, false, none, .mov (.u 61)⟩,
       ⟨some 63, false, some ((.u 62), true), .faddr 2 (.t 2)⟩,
       ⟨some 64, false, some ((.u 62), true), .load false 1 (.u 63)⟩,
       ⟨some 65, false, some ((.u 62), true), .bin .neq (.u 64) (.c (.int .i64 0))⟩,
       ⟨some 66, false, some ((.u 62), true), .mov (.u 65)⟩,
       ⟨some 67, false, some ((.u 66), false), .faddr 3 (.t 2)⟩,
       ⟨some 68, false, some ((.u 66), false), .load false 1 (.u 67)⟩,
       ⟨some 69, false, some ((.u 66), false), .bin .neq (.u 68) (.c (.str []))⟩,
       ⟨some 70, false, some ((.u 62), true), .pick (.u 66) (.c (.bool true)) (.u 69)⟩,
       ⟨some 71, false, none, .pick (.u 62) (.u 70) (.c (.bool false))⟩,
       ⟨some 58, true, none, .mov (.u 71)⟩])
    (.cond (.t 58)
     (.seq (.region [⟨some 4, true, none, .mov (.c (.int .i64 122))⟩])
     (.ret))
     (.seq (.region [⟨some 73, false, none, .faddr 0 (.t 2)⟩,
        ⟨some 74, false, none, .load false 1 (.u 73)⟩,
        ⟨some 75, false, none, .call 77 [(.u 74)]⟩,
        ⟨some 76, false, none, .mov (.u 75)⟩,
        ⟨some 77, false, some ((.u 76), true), .faddr 2 (.t 2)⟩,
        ⟨some 78, false, some ((.u 76), true), .load false 1 (.u 77)⟩,
        ⟨some 79, false, some ((.u 76), true), .bin .neq (.u 78) (.c (.int .i64 0))⟩,
        ⟨some 80, false, some ((.u 76), true), .mov (.u 79)⟩,
        ⟨some 81, false, some ((.u 80), false), .faddr 3 (.t 2)⟩,
        ⟨some 82, false, some ((.u 80), false), .load false 1 (.u 81)⟩,
        ⟨some 83, false, some ((.u 80), false), .bin .eql (.u 82) (.c (.str []))⟩,
        ⟨some 84, false, some ((.u 76), true), .pick (.u 80) (.c (.bool true)) (.u 83)⟩,
        ⟨some 85, false, some ((.u 76), true), .mov (.u 84)⟩,
        ⟨some 86, false, some ((.u 85), false), .faddr 3 (.t 2)⟩,
        ⟨some 87, false, some ((.u 85), false), .load false 1 (.u 86)⟩,
        ⟨some 88, false, some ((.u 85), false), .len (.u 87)⟩,
        ⟨some 89, false, some ((.u 85), false), .bin .gtr (.u 88) (.c (.int .i64 640))⟩,
        ⟨some 90, false, some ((.u 76), true), .pick (.u 85) (.c (.bool true)) (.u 89)⟩,
        ⟨some 91, false, none, .pick (.u 76) (.u 90) (.c (.bool false))⟩,
        ⟨some 72, true, none, .mov (.u 91)⟩])
     (.cond (.t 72)
      (.seq (.region [⟨some 4, true, none, .mov (.c (.int .i64 122))⟩])
      (.ret))
      (.seq (.region [⟨some 93, false, none, .faddr 0 (.t 2)⟩,
         ⟨some 94, false, none, .load false 1 (.u 93)⟩,
         ⟨some 95, false, none, .call 77 [(.u 94)]⟩,
         ⟨some 96, false, none, .un .not (.u 95)⟩,
         ⟨some 97, false, none, .mov (.u 96)⟩,
         ⟨some 98, false, some ((.u 97), true), .faddr 3 (.t 2)⟩,
         ⟨some 99, false, some ((.u 97), true), .load false 1 (.u 98)⟩,
         ⟨some 100, false, some ((.u 97), true), .bin .neq (.u 99) (.c (.str []))⟩,
         ⟨some 101, false, none, .pick (.u 97) (.u 100) (.c (.bool false))⟩,
         ⟨some 92, true, none, .mov (.u 101)⟩])
      (.cond (.t 92)
       (.seq (.region [⟨some 4, true, none, .mov (.c (.int .i64 122))⟩])
       (.ret))
       (.skip))))))))
  (.seq (.region [⟨some 4, true, none, .mov (.c (.int .i64 0))⟩])
  (.ret)))))))
def r63 : List LRes := [.slot 4]
theorem t63 : (Try.f63.body.bind (trCode v63 Try.prog Try.f63.ntmps)) = some c63 ∧ trRes v63 Try.prog Try.f63.results.toList = some r63 := ⟨by kernel_rfl, by kernel_rfl⟩

def v64 : Nat → Bool := fun t => [0, 2].contains t
def c64 : LCode :=
  .seq (.region [⟨some 2, true, none, .mov (.c (.bool false))⟩])
  (.seq (.region [⟨some 3, false, none, .mov (.t 0)⟩,
     ⟨some 4, false, none, .bin .geq (.u 3) (.c (.int .i64 17))⟩,
     ⟨some 5, false, none, .mov (.u 4)⟩,
     ⟨some 6, false, some ((.u 5), true), .mov (.t 0)⟩,
     ⟨some 7, false, some ((.u 5), true), .bin .leq (.u 6) (.c (.int .i64 21))⟩,
     ⟨some 8, false, none, .pick (.u 5) (.u 7) (.c (.bool false))⟩,
     ⟨some 2, true, none, .mov (.u 8)⟩])
  (.ret))
def r64 : List LRes := [.slot 2]
theorem t64 : (Try.f64.body.bind (trCode v64 Try.prog Try.f64.ntmps)) = some c64 ∧ trRes v64 Try.prog Try.f64.results.toList = some r64 := ⟨by kernel_rfl, by kernel_rfl⟩

def v65 : Nat → Bool := fun t => [0, 1, 2, 3, 4, 5, 6, 7, 8, 9, 10, 13, 19, 40, 45, 55].contains t
def c65 : LCode :=
  .seq (.region [⟨some 3, true, none, .box (.t 0)⟩,
     ⟨some 4, true, none, .box (.t 1)⟩,
     ⟨some 5, true, none, .box (.t 2)⟩,
     ⟨some 6, true, none, .mov (.c (.bool false))⟩])
  (.seq (.seq (.region [⟨some 11, false, none, .faddr 0 (.t 3)⟩,
      ⟨some 12, false, none, .load false 1 (.u 11)⟩,
      ⟨some 13, true, none, .call 77 [(.u 12)]⟩])
   (.cond (.t 13)
    (.seq (.region [⟨some 14, false, none, .faddr 1 (.t 4)⟩,
       ⟨some 15, false, none, .faddr 11 (.u 14)⟩,
       ⟨some 16, false, none, .load false 1 (.u 15)⟩,
       ⟨some 7, true, none, .mov (.u 16)⟩])
    (.seq (.seq (.region [⟨some 17, false, none, .faddr 0 (.t 3)⟩,
        ⟨some 18, false, none, .load false 1 (.u 17)⟩,
        ⟨some 19, true, none, .bin .eql (.u 18) (.c (.int .i64 14))⟩])
     (.cond (.t 19)
      (.region [⟨some 20, false, none, .faddr 1 (.t 4)⟩,
        ⟨some 21, false, none, .faddr 10 (.u 20)⟩,
        ⟨some 22, false, none, .load false 1 (.u 21)⟩,
        ⟨some 7, true, none, .mov (.u 22)⟩])
      (.skip)))
    (.seq (.region [⟨some 23, false, none, .mov (.t 7)⟩,
       ⟨some 24, false, none, .faddr 3 (.t 3)⟩,
       ⟨some 25, false, none, .load false 1 (.u 24)⟩,
       ⟨some 26, false, none, .bin .eql (.u 23) (.u 25)⟩,
       ⟨some 27, false, none, .faddr 1 (.t 3)⟩,
       ⟨some 28, false, none, .load false 1 (.u 27)⟩,
       ⟨some 29, false, none, .bin .eql (.u 28) (.c (.int .i64 1))⟩,
       ⟨some 30, false, none, .eqB false (.u 26) (.u 29)⟩,
       ⟨some 6, true, none, .mov (.u 30)⟩])
    (.ret))))
    (.skip)))
  (.seq (.region [⟨some 32, false, none, .faddr 0 (.t 3)⟩,
     ⟨some 33, false, none, .load false 1 (.u 32)⟩,
     ⟨some 34, false, none, .load true 25 (.t 4)⟩,
     ⟨some 35, false, none, .load true 13 (.t 5)⟩,
     ⟨some 36, false, none, .call 78 [(.u 33), (.u 34), (.u 35)]⟩,
     ⟨some 31, false, none, .mov (.u 36)⟩,
     ⟨some 37, false, none, .ext (.u 31) 0⟩,
     ⟨some 38, false, none, .ext (.u 31) 1⟩,
     ⟨some 8, true, none, .mov (.u 37)⟩,
     ⟨some 9, true, none, .mov (.u 38)⟩])
  (.seq (.seq (.region [⟨some 39, false, none, .mov (.t 9)⟩,
      ⟨some 40, true, none, .un .not (.u 39)⟩])
   (.cond (.t 40)
    (.seq (.region [⟨some 6, true, none, .mov (.c (.bool false))⟩])
    (.ret))
    (.skip)))
  (.seq (.region [⟨some 41, false, none, .faddr 2 (.t 3)⟩,
     ⟨some 42, false, none, .load false 1 (.u 41)⟩,
     ⟨some 10, true, none, .mov (.u 42)⟩])
  (.seq (.seq (.region [⟨some 43, false, none, .faddr 4 (.t 3)⟩,
      ⟨some 44, false, none, .load false 1 (.u 43)⟩,
      ⟨some 45, true, none, .bin .neq (.u 44) (.c (.int .i64 0))⟩])
   (.cond (.t 45)
    (.seq (.region [⟨some 47, false, none, .faddr 4 (.t 3)⟩,
       ⟨some 48, false, none, .load false 1 (.u 47)⟩,
       ⟨some 49, false, none, .load true 25 (.t 4)⟩,
       ⟨some 50, false, none, .load true 13 (.t 5)⟩,
       ⟨some 51, false, none, .call 78 [(.u 48), (.u 49), (.u 50)]⟩,
       ⟨some 46, false, none, .mov (.u 51)⟩,
       ⟨some 52, false, none, .ext (.u 46) 0⟩,
       ⟨some 53, false, none, .ext (.u 46) 1⟩,
       ⟨some 10, true, none, .mov (.u 52)⟩,
       ⟨some 9, true, none, .mov (.u 53)⟩])
    (.seq (.region [⟨some 54, false, none, .mov (.t 9)⟩,
       ⟨some 55, true, none, .un .not (.u 54)⟩])
    (.cond (.t 55)
     (.seq (.region [⟨some 6, true, none, .mov (.c (.bool false))⟩])
     (.ret))
     (.skip))))
    (.skip)))
  (.seq (.region [⟨some 56, false, none, .faddr 1 (.t 3)⟩,
     ⟨some 57, false, none, .load false 1 (.u 56)⟩,
     ⟨some 58, false, none, .mov (.t 8)⟩,
     ⟨some 59, false, none, .mov (.t 10)⟩,
     ⟨some 60, false, none, .call 79 [(.u 57), (.u 58), (.u 59)]⟩,
     ⟨some 6, true, none, .mov (.u 60)⟩])
  (.ret)))))))
def r65 : List LRes := [.slot 6]
theorem t65 : (Try.f65.body.bind (trCode v65 Try.prog Try.f65.ntmps)) = some c65 ∧ trRes v65 Try.prog Try.f65.results.toList = some r65 := ⟨by kernel_rfl, by kernel_rfl⟩

def v66 : Nat → Bool := fun t => [0, 1, 4, 5, 11, 22, 23, 27, 31, 35].contains t
def c66 : LCode :=
  .seq (.region [⟨some 4, true, none, .mov (.c (.bool false))⟩])
  (.seq (.seq (.region [⟨some 6, false, none, .mov (.t 1)⟩,
      ⟨some 7, false, none, .bin .lss (.u 6) (.c (.int .i64 1))⟩,
      ⟨some 8, false, none, .mov (.u 7)⟩,
      ⟨some 9, false, some ((.u 8), false), .mov (.t 1)⟩,
      ⟨some 10, false, some ((.u 8), false), .bin .gtr (.u 9) (.c (.int .i64 22))⟩,
      ⟨some 11, true, none, .pick (.u 8) (.c (.bool true)) (.u 10)⟩])
   (.cond (.t 11)
    (.seq (.region [⟨some 4, true, none, .mov (.c (.bool false))⟩])
    (.ret))
    (.skip)))
  (.seq (.region [⟨some 12, false, none, .mov (.t 1)⟩,
     ⟨some 13, false, none, .bin .leq (.u 12) (.c (.int .i64 8))⟩,
     ⟨some 14, false, none, .mov (.u 13)⟩,
     ⟨some 15, false, some ((.u 14), false), .mov (.t 1)⟩,
     ⟨some 16, false, some ((.u 14), false), .bin .eql (.u 15) (.c (.int .i64 13))⟩,
     ⟨some 17, false, none, .pick (.u 14) (.c (.bool true)) (.u 16)⟩,
     ⟨some 18, false, none, .mov (.u 17)⟩,
     ⟨some 19, false, some ((.u 18), false), .mov (.t 1)⟩,
     ⟨some 20, false, some ((.u 18), false), .bin .eql (.u 19) (.c (.int .i64 14))⟩,
     ⟨some 21, false, none, .pick (.u 18) (.c (.bool true)) (.u 20)⟩,
     ⟨some 5, true, none, .mov (.u 21)⟩])
  (.seq (.seq (.region [⟨some 22, true, none, .mov (.t 0)⟩])
   (.block 0 (.seq (.seq (.region [⟨some 24, false, none, .bin .eql (.t 22) (.c (.int .i64 1))⟩,
        ⟨some 23, true, none, .mov (.u 24)⟩])
     (.cond (.t 23)
      (.skip)
      (.region [⟨some 25, false, none, .bin .eql (.t 22) (.c (.int .i64 4))⟩,
        ⟨some 23, true, none, .mov (.u 25)⟩])))
    (.cond (.t 23)
     (.seq (.region [⟨some 26, false, none, .mov (.t 5)⟩,
        ⟨some 4, true, none, .mov (.u 26)⟩])
     (.ret))
     (.seq (.region [⟨some 28, false, none, .bin .eql (.t 22) (.c (.int .i64 2))⟩,
        ⟨some 27, true, none, .mov (.u 28)⟩])
     (.cond (.t 27)
      (.seq (.region [⟨some 29, false, none, .mov (.t 1)⟩,
         ⟨some 30, false, none, .bin .leq (.u 29) (.c (.int .i64 14))⟩,
         ⟨some 4, true, none, .mov (.u 30)⟩])
      (.ret))
      (.seq (.region [⟨some 32, false, none, .bin .eql (.t 22) (.c (.int .i64 3))⟩,
         ⟨some 31, true, none, .mov (.u 32)⟩])
      (.cond (.t 31)
       (.seq (.region [⟨some 33, false, none, .mov (.t 1)⟩,
          ⟨some 34, false, none, .bin .lss (.u 33) (.c (.int .i64 22))⟩,
          ⟨some 4, true, none, .mov (.u 34)⟩])
       (.ret))
       (.seq (.region [⟨some 36, false, none, .bin .eql (.t 22) (.c (.int .i64 5))⟩,
          ⟨some 35, true, none, .mov (.u 36)⟩])
       (.cond (.t 35)
        (.seq (.region [⟨some 37, false, none, .mov (.t 5)⟩,
           ⟨some 38, false, none, .mov (.u 37)⟩,
           ⟨some 39, false, some ((.u 38), false), .mov (.t 1)⟩,
           ⟨some 40, false, some ((.u 38), false), .bin .eql (.u 39) (.c (.int .i64 22))⟩,
           ⟨some 41, false, none, .pick (.u 38) (.c (.bool true)) (.u 40)⟩,
           ⟨some 4, true, none, .mov (.u 41)⟩])
        (.ret))
        (.skip)))))))))))
  (.seq (.region [⟨some 4, true, none, .mov (.c (.bool false))⟩])
  (.ret)))))
def r66 : List LRes := [.slot 4]
theorem t66 : (Try.f66.body.bind (trCode v66 Try.prog Try.f66.ntmps)) = some c66 ∧ trRes v66 Try.prog Try.f66.results.toList = some r66 := ⟨by kernel_rfl, by kernel_rfl⟩

def v67 : Nat → Bool := fun t => [0, 2, 3, 4].contains t
def c67 : LCode :=
  .seq (.region [⟨some 2, true, none, .mov (.c (.bool false))⟩])
  (.seq (.seq (.region [⟨some 3, true, none, .mov (.t 0)⟩])
   (.block 0 (.seq (.seq (.region [⟨some 5, false, none, .bin .eql (.t 3) (.c (.int .i64 3))⟩,
        ⟨some 4, true, none, .mov (.u 5)⟩])
     (.cond (.t 4)
      (.skip)
      (.seq (.region [⟨some 6, false, none, .bin .eql (.t 3) (.c (.int .i64 4))⟩,
         ⟨some 4, true, none, .mov (.u 6)⟩])
      (.cond (.t 4)
       (.skip)
       (.seq (.region [⟨some 7, false, none, .bin .eql (.t 3) (.c (.int .i64 5))⟩,
          ⟨some 4, true, none, .mov (.u 7)⟩])
       (.cond (.t 4)
        (.skip)
        (.seq (.region [⟨some 8, false, none, .bin .eql (.t 3) (.c (.int .i64 6))⟩,
           ⟨some 4, true, none, .mov (.u 8)⟩])
        (.cond (.t 4)
         (.skip)
         (.seq (.region [⟨some 9, false, none, .bin .eql (.t 3) (.c (.int .i64 7))⟩,
            ⟨some 4, true, none, .mov (.u 9)⟩])
         (.cond (.t 4)
          (.skip)
          (.seq (.region [⟨some 10, false, none, .bin .eql (.t 3) (.c (.int .i64 19))⟩,
             ⟨some 4, true, none, .mov (.u 10)⟩])
          (.cond (.t 4)
           (.skip)
           (.region [⟨some 11, false, none, .bin .eql (.t 3) (.c (.int .i64 20))⟩,
             ⟨some 4, true, none, .mov (.u 11)⟩])))))))))))))
    (.cond (.t 4)
     (.seq (.region [⟨some 2, true, none, .mov (.c (.bool true))⟩])
     (.ret))
     (.skip)))))
  (.seq (.region [⟨some 2, true, none, .mov (.c (.bool false))⟩])
  (.ret)))
def r67 : List LRes := [.slot 2]
theorem t67 : (Try.f67.body.bind (trCode v67 Try.prog Try.f67.ntmps)) = some c67 ∧ trRes v67 Try.prog Try.f67.results.toList = some r67 := ⟨by kernel_rfl, by kernel_rfl⟩

def v68 : Nat → Bool := fun t => [0, 2].contains t
def c68 : LCode :=
  .seq (.region [⟨some 2, true, none, .mov (.c (.bool false))⟩])
  (.seq (.region [⟨some 3, false, none, .mov (.t 0)⟩,
     ⟨some 4, false, none, .bin .eql (.u 3) (.c (.int .i64 13))⟩,
     ⟨some 5, false, none, .mov (.u 4)⟩,
     ⟨some 6, false, some ((.u 5), false), .mov (.t 0)⟩,
     ⟨some 7, false, some ((.u 5), false), .bin .eql (.u 6) (.c (.int .i64 14))⟩,
     ⟨some 8, false, none, .pick (.u 5) (.c (.bool true)) (.u 7)⟩,
     ⟨some 2, true, none, .mov (.u 8)⟩])
  (.ret))
def r68 : List LRes := [.slot 2]
theorem t68 : (Try.f68.body.bind (trCode v68 Try.prog Try.f68.ntmps)) = some c68 ∧ trRes v68 Try.prog Try.f68.results.toList = some r68 := ⟨by kernel_rfl, by kernel_rfl⟩

def v69 : Nat → Bool := fun t => [0, 2, 3, 4, 5, 6, 7, 11, 23, 26].contains t
def c69 : LCode :=
  .seq (.region [⟨some 2, true, none, .mov (.c (.fsl 1 0 []))⟩,
     ⟨some 3, true, none, .mov (.c (.bool false))⟩,
     ⟨some 4, true, none, .mov (.c (.bool false))⟩])
  (.seq (.region [⟨some 5, true, none, .mov (.c (.fsl 1 0 []))⟩])
  (.seq (.region [⟨some 6, true, none, .mov (.c (.int .i64 0))⟩])
  (.seq (.seq (.region [⟨some 7, true, none, .mov (.c (.int .i64 0))⟩])
   (.block 0 (.loop (.seq (.seq (.region [⟨some 8, false, none, .mov (.t 7)⟩,
         ⟨some 9, false, none, .mov (.t 0)⟩,
         ⟨some 10, false, none, .len (.u 9)⟩,
         ⟨some 11, true, none, .bin .leq (.u 8) (.u 10)⟩])
      (.cond (.t 11)
       (.skip)
       (.exit 0)))
     (.seq (.block 1 (.seq (.region [⟨some 14, false, none, .mov (.t 7)⟩,
          ⟨some 15, false, none, .mov (.t 0)⟩,
          ⟨some 16, false, none, .len (.u 15)⟩,
          ⟨some 17, false, none, .bin .eql (.u 14) (.u 16)⟩,
          ⟨some 18, false, none, .mov (.u 17)⟩,
          ⟨some 19, false, some ((.u 18), false), .mov (.t 0)⟩,
          ⟨some 20, false, some ((.u 18), false), .mov (.t 7)⟩,
          ⟨some 21, false, some ((.u 18), false), .ixS (.u 19) (.u 20)⟩,
          ⟨some 22, false, some ((.u 18), false), .bin .eql (.u 21) (.c (.int .u8 47))⟩,
          ⟨some 23, true, none, .pick (.u 18) (.c (.bool true)) (.u 22)⟩])
       (.cond (.t 23)
        (.seq (.seq (.region [⟨some 24, false, none, .mov (.t 7)⟩,
            ⟨some 25, false, none, .mov (.t 6)⟩,
            ⟨some 26, true, none, .bin .gtr (.u 24) (.u 25)⟩])
         (.cond (.t 26)
          (.region [⟨some 27, false, none, .mov (.t 5)⟩,
            ⟨some 28, false, none, .mov (.t 0)⟩,
            ⟨some 29, false, none, .mov (.t 6)⟩,
            ⟨some 30, false, none, .mov (.t 7)⟩,
            ⟨some 31, false, none, .slS (.u 28) (some (.u 29)) (some (.u 30))⟩,
            ⟨some 32, false, none, .mkS 1 1 [.str []] [(0, 1, (.u 31))]⟩,
            ⟨some 33, false, none, .app 1 16 (.u 27) (.u 32)⟩,
            ⟨some 5, true, none, .mov (.u 33)⟩])
          (.skip)))
        (.region [⟨some 34, false, none, .mov (.t 7)⟩,
          ⟨some 35, false, none, .bin .add (.u 34) (.c (.int .i64 1))⟩,
          ⟨some 6, true, none, .mov (.u 35)⟩]))
        (.skip))))
     (.region [⟨some 12, false, none, .mov (.t 7)⟩,
       ⟨some 13, false, none, .bin .add (.u 12) (.c (.int .i64 1))⟩,
       ⟨some 7, true, none, .mov (.u 13)⟩]))))))
  (.seq (.regionD [⟨0, [5], false, [], ⟨some 36, false, none, .mov (.t 5)⟩⟩,
     ⟨1, [0], false, [], ⟨some 37, false, none, .mov (.t 0)⟩⟩,
     ⟨2, [37], false, [], ⟨some 38, false, none, .len (.u 37)⟩⟩,
     ⟨3, [38], false, [], ⟨some 39, false, none, .bin .gtr (.u 38) (.c (.int .i64 0))⟩⟩,
     ⟨4, [39], false, [], ⟨some 40, false, none, .mov (.u 39)⟩⟩,
     ⟨5, [0, 40], false, [], ⟨some 41, false, some ((.u 40), true), .mov (.t 0)⟩⟩,
     ⟨6, [41, 40], false, [], ⟨some 42, false, some ((.u 40), true), .ixS (.u 41) (.c (.int .i64 0))⟩⟩,
     ⟨7, [42, 40], false, [], ⟨some 43, false, some ((.u 40), true), .bin .eql (.u 42) (.c (.int .u8 47))⟩⟩,
     ⟨8, [40, 43], false, [], ⟨some 44, false, none, .pick (.u 40) (.u 43) (.c (.bool false))⟩⟩,
     ⟨9, [0], false, [], ⟨some 45, false, none, .mov (.t 0)⟩⟩,
     ⟨10, [45], false, [], ⟨some 46, false, none, .len (.u 45)⟩⟩,
     ⟨11, [46], false, [], ⟨some 47, false, none, .bin .gtr (.u 46) (.c (.int .i64 0))⟩⟩,
     ⟨12, [47], false, [], ⟨some 48, false, none, .mov (.u 47)⟩⟩,
     ⟨13, [0, 48], false, [], ⟨some 49, false, some ((.u 48), true), .mov (.t 0)⟩⟩,
     ⟨14, [0, 48], false, [], ⟨some 50, false, some ((.u 48), true), .mov (.t 0)⟩⟩,
     ⟨15, [50, 48], false, [], ⟨some 51, false, some ((.u 48), true), .len (.u 50)⟩⟩,
     ⟨16, [51, 48], false, [], ⟨some 52, false, some ((.u 48), true), .bin .sub (.u 51) (.c (.int .i64 1))⟩⟩,
     ⟨17, [49, 52, 48], false, [], ⟨some 53, false, some ((.u 48), true), .ixS (.u 49) (.u 52)⟩⟩,
     ⟨18, [53, 48], false, [], ⟨some 54, false, some ((.u 48), true), .bin .eql (.u 53) (.c (.int .u8 47))⟩⟩,
     ⟨19, [48, 54], false, [], ⟨some 55, false, none, .pick (.u 48) (.u 54) (.c (.bool false))⟩⟩,
     ⟨20, [36], false, [], ⟨some 2, true, none, .mov (.u 36)⟩⟩,
     ⟨21, [44], false, [], ⟨some 3, true, none, .mov (.u 44)⟩⟩,
     ⟨22, [55], false, [], ⟨some 4, true, none, .mov (.u 55)⟩⟩])
  (.ret)))))
def r69 : List LRes := [.slot 2, .slot 3, .slot 4]
theorem t69 : (Try.f69.body.bind (trCode v69 Try.prog Try.f69.ntmps)) = some c69 ∧ trRes v69 Try.prog Try.f69.results.toList = some r69 := ⟨by kernel_rfl, by kernel_rfl⟩

def v70 : Nat → Bool := fun t => [0, 2, 3, 19, 23, 35].contains t
def c70 : LCode :=
  .seq (.region [⟨some 2, true, none, .mov (.c (.bool false))⟩])
  (.seq (.seq (.region [⟨some 4, false, none, .mov (.t 0)⟩,
      ⟨some 5, false, none, .len (.u 4)⟩,
      ⟨some 6, false, none, .bin .lss (.u 5) (.c (.int .i64 1))⟩,
      ⟨some 7, false, none, .mov (.u 6)⟩,
      ⟨some 8, false, some ((.u 7), false), .mov (.t 0)⟩,
      ⟨some 9, false, some ((.u 7), false), .len (.u 8)⟩,
      ⟨some 10, false, some ((.u 7), false), .bin .gtr (.u 9) (.c (.int .i64 12))⟩,
      ⟨some 11, false, none, .pick (.u 7) (.c (.bool true)) (.u 10)⟩,
      ⟨some 12, false, none, .mov (.u 11)⟩,
      ⟨some 13, false, some ((.u 12), false), .mov (.t 0)⟩,
      ⟨some 14, false, some ((.u 12), false), .bin .eql (.u 13) (.c (.str [46]))⟩,
      ⟨some 15, false, none, .pick (.u 12) (.c (.bool true)) (.u 14)⟩,
      ⟨some 16, false, none, .mov (.u 15)⟩,
      ⟨some 17, false, some ((.u 16), false), .mov (.t 0)⟩,
      ⟨some 18, false, some ((.u 16), false), .bin .eql (.u 17) (.c (.str [46, 46]))⟩,
      ⟨some 19, true, none, .pick (.u 16) (.c (.bool true)) (.u 18)⟩])
   (.cond (.t 19)
    (.seq (.region [⟨some 2, true, none, .mov (.c (.bool false))⟩])
    (.ret))
    (.skip)))
  (.seq (.seq (.region [⟨some 3, true, none, .mov (.c (.int .i64 0))⟩])
   (.block 0 (.loop (.seq (.seq (.region [⟨some 20, false, none, .mov (.t 3)⟩,
         ⟨some 21, false, none, .mov (.t 0)⟩,
         ⟨some 22, false, none, .len (.u 21)⟩,
         ⟨some 23, true, none, .bin .lss (.u 20) (.u 22)⟩])
      (.cond (.t 23)
       (.skip)
       (.exit 0)))
     (.seq (.block 1 (.seq (.region [⟨some 26, false, none, .mov (.t 0)⟩,
          ⟨some 27, false, none, .mov (.t 3)⟩,
          ⟨some 28, false, none, .ixS (.u 26) (.u 27)⟩,
          ⟨some 29, false, none, .bin .eql (.u 28) (.c (.int .u8 0))⟩,
          ⟨some 30, false, none, .mov (.u 29)⟩,
          ⟨some 31, false, some ((.u 30), false), .mov (.t 0)⟩,
          ⟨some 32, false, some ((.u 30), false), .mov (.t 3)⟩,
          ⟨some 33, false, some ((.u 30), false), .ixS (.u 31) (.u 32)⟩,
          ⟨some 34, false, some ((.u 30), false), .bin .eql (.u 33) (.c (.int .u8 47))⟩,
          ⟨some 35, true, none, .pick (.u 30) (.c (.bool true)) (.u 34)⟩])
       (.cond (.t 35)
        (.seq (.region [⟨some 2, true, none, .mov (.c (.bool false))⟩])
        (.ret))
        (.skip))))
     (.region [⟨some 24, false, none, .mov (.t 3)⟩,
       ⟨some 25, false, none, .bin .add (.u 24) (.c (.int .i64 1))⟩,
       ⟨some 3, true, none, .mov (.u 25)⟩]))))))
  (.seq (.region [⟨some 2, true, none, .mov (.c (.bool true))⟩])
  (.ret))))
def r70 : List LRes := [.slot 2]
theorem t70 : (Try.f70.body.bind (trCode v70 Try.prog Try.f70.ntmps)) = some c70 ∧ trRes v70 Try.prog Try.f70.results.toList = some r70 := ⟨by kernel_rfl, by kernel_rfl⟩

def v71 : Nat → Bool := fun t => [0].contains t
def c71 : LCode :=
  .seq (.region [⟨some 0, true, none, .mov (.c (.int .i64 0))⟩])
  (.seq (.region [⟨some 1, false, none, .call 72 []⟩,
     ⟨some 2, false, none, .lenL (.u 1)⟩,
     ⟨some 0, true, none, .mov (.u 2)⟩])
  (.ret))
def r71 : List LRes := [.slot 0]
theorem t71 : (Try.f71.body.bind (trCode v71 Try.prog Try.f71.ntmps)) = some c71 ∧ trRes v71 Try.prog Try.f71.results.toList = some r71 := ⟨by kernel_rfl, by kernel_rfl⟩

def v72 : Nat → Bool := fun t => [0].contains t
def c72 : LCode :=
  .seq (.region [⟨some 0, true, none, .mov (.c (.fsl 1 0 []))⟩])
  (.seq (.region [⟨some 1, false, none, .build [.str [], .int .i64 0, .int .i64 0, .int .i64 0, .int .i64 0] [(0, 1, (.c (.str [102, 111, 114, 107]))), (1, 1, (.c (.int .i64 0))), (2, 1, (.c (.int .i64 0))), (3, 1, (.c (.int .i64 0))), (4, 1, (.c (.int .i64 0)))]⟩,
     ⟨some 2, false, none, .build [.str [], .int .i64 0, .int .i64 0, .int .i64 0, .int .i64 0] [(0, 1, (.c (.str [101, 120, 101, 99, 118, 101]))), (1, 1, (.c (.int .i64 0))), (2, 1, (.c (.int .i64 1))), (3, 1, (.c (.int .i64 0))), (4, 1, (.c (.int .i64 4)))]⟩,
     ⟨some 3, false, none, .build [.str [], .int .i64 0, .int .i64 0, .int .i64 0, .int .i64 0] [(0, 1, (.c (.str [101, 120, 105, 116]))), (1, 1, (.c (.int .i64 1))), (2, 1, (.c (.int .i64 0))), (3, 1, (.c (.int .i64 0))), (4, 1, (.c (.int .i64 0)))]⟩,
     ⟨some 4, false, none, .build [.str [], .int .i64 0, .int .i64 0, .int .i64 0, .int .i64 0] [(0, 1, (.c (.str [115, 101, 116, 117, 105, 100]))), (1, 1, (.c (.int .i64 1))), (2, 1, (.c (.int .i64 0))), (3, 1, (.c (.int .i64 0))), (4, 1, (.c (.int .i64 0)))]⟩,
     ⟨some 5, false, none, .build [.str [], .int .i64 0, .int .i64 0, .int .i64 0, .int .i64 0] [(0, 1, (.c (.str [115, 101, 116, 103, 105, 100]))), (1, 1, (.c (.int .i64 1))), (2, 1, (.c (.int .i64 0))), (3, 1, (.c (.int .i64 0))), (4, 1, (.c (.int .i64 0)))]⟩,
     ⟨some 6, false, none, .build [.str [], .int .i64 0, .int .i64 0, .int .i64 0, .int .i64 0] [(0, 1, (.c (.str [108, 111, 103, 105, 110]))), (1, 1, (.c (.int .i64 1))), (2, 1, (.c (.int .i64 0))), (3, 1, (.c (.int .i64 0))), (4, 1, (.c (.int .i64 0)))]⟩,
     ⟨some 7, false, none, .build [.str [], .int .i64 0, .int .i64 0, .int .i64 0, .int .i64 0] [(0, 1, (.c (.str [111, 112, 101, 110]))), (1, 1, (.c (.int .i64 2))), (2, 1, (.c (.int .i64 1))), (3, 1, (.c (.int .i64 0))), (4, 1, (.c (.int .i64 0)))]⟩,
     ⟨some 8, false, none, .build [.str [], .int .i64 0, .int .i64 0, .int .i64 0, .int .i64 0] [(0, 1, (.c (.str [99, 108, 111, 115, 101]))), (1, 1, (.c (.int .i64 1))), (2, 1, (.c (.int .i64 0))), (3, 1, (.c (.int .i64 0))), (4, 1, (.c (.int .i64 0)))]⟩,
     ⟨some 9, false, none, .build [.str [], .int .i64 0, .int .i64 0, .int .i64 0, .int .i64 0] [(0, 1, (.c (.str [108, 105, 110, 107]))), (1, 1, (.c (.int .i64 0))), (2, 1, (.c (.int .i64 2))), (3, 1, (.c (.int .i64 0))), (4, 1, (.c (.int .i64 0)))]⟩,
     ⟨some 10, false, none, .build [.str [], .int .i64 0, .int .i64 0, .int .i64 0, .int .i64 0] [(0, 1, (.c (.str [115, 121, 109, 108, 105, 110, 107]))), (1, 1, (.c (.int .i64 0))), (2, 1, (.c (.int .i64 1))), (3, 1, (.c (.int .i64 1))), (4, 1, (.c (.int .i64 1)))]⟩,
     ⟨some 11, false, none, .build [.str [], .int .i64 0, .int .i64 0, .int .i64 0, .int .i64 0] [(0, 1, (.c (.str [117, 110, 108, 105, 110, 107]))), (1, 1, (.c (.int .i64 0))), (2, 1, (.c (.int .i64 1))), (3, 1, (.c (.int .i64 0))), (4, 1, (.c (.int .i64 0)))]⟩,
     ⟨some 12, false, none, .build [.str [], .int .i64 0, .int .i64 0, .int .i64 0, .int .i64 0] [(0, 1, (.c (.str [109, 107, 100, 105, 114]))), (1, 1, (.c (.int .i64 1))), (2, 1, (.c (.int .i64 1))), (3, 1, (.c (.int .i64 0))), (4, 1, (.c (.int .i64 0)))]⟩,
     ⟨some 13, false, none, .build [.str [], .int .i64 0, .int .i64 0, .int .i64 0, .int .i64 0] [(0, 1, (.c (.str [114, 109, 100, 105, 114]))), (1, 1, (.c (.int .i64 0))), (2, 1, (.c (.int .i64 1))), (3, 1, (.c (.int .i64 0))), (4, 1, (.c (.int .i64 0)))]⟩,
     ⟨some 14, false, none, .build [.str [], .int .i64 0, .int .i64 0, .int .i64 0, .int .i64 0] [(0, 1, (.c (.str [114, 101, 110, 97, 109, 101]))), (1, 1, (.c (.int .i64 0))), (2, 1, (.c (.int .i64 2))), (3, 1, (.c (.int .i64 0))), (4, 1, (.c (.int .i64 0)))]⟩,
     ⟨some 15, false, none, .build [.str [], .int .i64 0, .int .i64 0, .int .i64 0, .int .i64 0] [(0, 1, (.c (.str [99, 104, 109, 111, 100]))), (1, 1, (.c (.int .i64 1))), (2, 1, (.c (.int .i64 1))), (3, 1, (.c (.int .i64 0))), (4, 1, (.c (.int .i64 0)))]⟩,
     ⟨some 16, false, none, .build [.str [], .int .i64 0, .int .i64 0, .int .i64 0, .int .i64 0] [(0, 1, (.c (.str [99, 104, 111, 119, 110]))), (1, 1, (.c (.int .i64 2))), (2, 1, (.c (.int .i64 1))), (3, 1, (.c (.int .i64 0))), (4, 1, (.c (.int .i64 0)))]⟩,
     ⟨some 17, false, none, .build [.str [], .int .i64 0, .int .i64 0, .int .i64 0, .int .i64 0] [(0, 1, (.c (.str [99, 104, 100, 105, 114]))), (1, 1, (.c (.int .i64 0))), (2, 1, (.c (.int .i64 1))), (3, 1, (.c (.int .i64 0))), (4, 1, (.c (.int .i64 0)))]⟩,
     ⟨some 18, false, none, .build [.str [], .int .i64 0, .int .i64 0, .int .i64 0, .int .i64 0] [(0, 1, (.c (.str [109, 111, 117, 110, 116]))), (1, 1, (.c (.int .i64 1))), (2, 1, (.c (.int .i64 1))), (3, 1, (.c (.int .i64 0))), (4, 1, (.c (.int .i64 0)))]⟩,
     ⟨some 19, false, none, .build [.str [], .int .i64 0, .int .i64 0, .int .i64 0, .int .i64 0] [(0, 1, (.c (.str [117, 109, 111, 117, 110, 116]))), (1, 1, (.c (.int .i64 1))), (2, 1, (.c (.int .i64 0))), (3, 1, (.c (.int .i64 0))), (4, 1, (.c (.int .i64 0)))]⟩,
     ⟨some 20, false, none, .build [.str [], .int .i64 0, .int .i64 0, .int .i64 0, .int .i64 0] [(0, 1, (.c (.str [99, 111, 110, 110, 101, 99, 116]))), (1, 1, (.c (.int .i64 1))), (2, 1, (.c (.int .i64 0))), (3, 1, (.c (.int .i64 1))), (4, 1, (.c (.int .i64 1)))]⟩,
     ⟨some 21, false, none, .build [.str [], .int .i64 0, .int .i64 0, .int .i64 0, .int .i64 0] [(0, 1, (.c (.str [107, 105, 108, 108]))), (1, 1, (.c (.int .i64 2))), (2, 1, (.c (.int .i64 0))), (3, 1, (.c (.int .i64 0))), (4, 1, (.c (.int .i64 0)))]⟩,
     ⟨some 22, false, none, .build [.str [], .int .i64 0, .int .i64 0, .int .i64 0, .int .i64 0] [(0, 1, (.c (.str [116, 114, 117, 110, 99, 97, 116, 101]))), (1, 1, (.c (.int .i64 1))), (2, 1, (.c (.int .i64 1))), (3, 1, (.c (.int .i64 0))), (4, 1, (.c (.int .i64 0)))]⟩,
     ⟨some 23, false, none, .mkS 5 22 [.str [], .int .i64 0, .int .i64 0, .int .i64 0, .int .i64 0] [(0, 5, (.u 1)), (5, 5, (.u 2)), (10, 5, (.u 3)), (15, 5, (.u 4)), (20, 5, (.u 5)), (25, 5, (.u 6)), (30, 5, (.u 7)), (35, 5, (.u 8)), (40, 5, (.u 9)), (45, 5, (.u 10)), (50, 5, (.u 11)), (55, 5, (.u 12)), (60, 5, (.u 13)), (65, 5, (.u 14)), (70, 5, (.u 15)), (75, 5, (.u 16)), (80, 5, (.u 17)), (85, 5, (.u 18)), (90, 5, (.u 19)), (95, 5, (.u 20)), (100, 5, (.u 21)), (105, 5, (.u 22))]⟩,
     ⟨some 0, true, none, .mov (.u 23)⟩])
  (.ret))
def r72 : List LRes := [.slot 0]
theorem t72 : (Try.f72.body.bind (trCode v72 Try.prog Try.f72.ntmps)) = some c72 ∧ trRes v72 Try.prog Try.f72.results.toList = some r72 := ⟨by kernel_rfl, by kernel_rfl⟩

def v73 : Nat → Bool := fun t => [0, 1, 2, 4, 5, 6, 7, 10, 11, 15, 19, 23, 27, 31, 35, 39, 43, 54, 58, 62, 63, 68, 73, 77, 81].contains t
def c73 : LCode :=
  .seq (.region [⟨some 4, true, none, .box (.t 1)⟩,
     ⟨some 5, true, none, .box (.t 2)⟩,
     ⟨some 6, true, none, .mov (.c (.int .i64 0))⟩])
  (.seq (.region [⟨some 8, false, none, .faddr 1 (.t 4)⟩,
     ⟨some 9, false, none, .load true 14 (.u 8)⟩,
     ⟨some 7, true, none, .zero [.int .i64 0, .int .i64 0, .int .i64 0, .int .i64 0, .int .i64 0, .int .i64 0, .int .i64 0, .int .i64 0, .int .i64 0, .int .i64 0, .str [], .str [], .fsl 1 0 [], .bool false]⟩,
     ⟨none, true, none, .store 14 (.t 7) (.u 9)⟩])
  (.seq (.seq (.region [⟨some 10, true, none, .mov (.t 0)⟩])
   (.block 0 (.seq (.region [⟨some 12, false, none, .bin .eql (.t 10) (.c (.int .i64 1))⟩,
       ⟨some 11, true, none, .mov (.u 12)⟩])
    (.cond (.t 11)
     (.seq (.region [⟨some 13, false, none, .faddr 0 (.t 7)⟩,
        ⟨some 14, false, none, .load false 1 (.u 13)⟩,
        ⟨some 6, true, none, .mov (.u 14)⟩])
     (.ret))
     (.seq (.region [⟨some 16, false, none, .bin .eql (.t 10) (.c (.int .i64 2))⟩,
        ⟨some 15, true, none, .mov (.u 16)⟩])
     (.cond (.t 15)
      (.seq (.region [⟨some 17, false, none, .faddr 1 (.t 7)⟩,
         ⟨some 18, false, none, .load false 1 (.u 17)⟩,
         ⟨some 6, true, none, .mov (.u 18)⟩])
      (.ret))
      (.seq (.region [⟨some 20, false, none, .bin .eql (.t 10) (.c (.int .i64 3))⟩,
         ⟨some 19, true, none, .mov (.u 20)⟩])
      (.cond (.t 19)
       (.seq (.region [⟨some 21, false, none, .faddr 2 (.t 7)⟩,
          ⟨some 22, false, none, .load false 1 (.u 21)⟩,
          ⟨some 6, true, none, .mov (.u 22)⟩])
       (.ret))
       (.seq (.region [⟨some 24, false, none, .bin .eql (.t 10) (.c (.int .i64 4))⟩,
          ⟨some 23, true, none, .mov (.u 24)⟩])
       (.cond (.t 23)
        (.seq (.region [⟨some 25, false, none, .faddr 3 (.t 7)⟩,
           ⟨some 26, false, none, .load false 1 (.u 25)⟩,
           ⟨some 6, true, none, .mov (.u 26)⟩])
        (.ret))
        (.seq (.region [⟨some 28, false, none, .bin .eql (.t 10) (.c (.int .i64 5))⟩,
           ⟨some 27, true, none, .mov (.u 28)⟩])
        (.cond (.t 27)
         (.seq (.region [⟨some 29, false, none, .faddr 4 (.t 7)⟩,
            ⟨some 30, false, none, .load false 1 (.u 29)⟩,
            ⟨some 6, true, none, .mov (.u 30)⟩])
         (.ret))
         (.seq (.region [⟨some 32, false, none, .bin .eql (.t 10) (.c (.int .i64 6))⟩,
            ⟨some 31, true, none, .mov (.u 32)⟩])
         (.cond (.t 31)
          (.seq (.region [⟨some 33, false, none, .faddr 5 (.t 7)⟩,
             ⟨some 34, false, none, .load false 1 (.u 33)⟩,
             ⟨some 6, true, none, .mov (.u 34)⟩])
          (.ret))
          (.seq (.region [⟨some 36, false, none, .bin .eql (.t 10) (.c (.int .i64 7))⟩,
             ⟨some 35, true, none, .mov (.u 36)⟩])
          (.cond (.t 35)
           (.seq (.region [⟨some 37, false, none, .faddr 6 (.t 7)⟩,
              ⟨some 38, false, none, .load false 1 (.u 37)⟩,
              ⟨some 6, true, none, .mov (.u 38)⟩])
           (.ret))
           (.seq (.region [⟨some 40, false, none, .bin .eql (.t 10) (.c (.int .i64 8))⟩,
              ⟨some 39, true, none, .mov (.u 40)⟩])
           (.cond (.t 39)
            (.seq (.region [⟨some 41, false, none, .faddr 7 (.t 7)⟩,
               ⟨some 42, false, none, .load false 1 (.u 41)⟩,
               ⟨some 6, true, none, .mov (.u 42)⟩])
            (.ret))
            (.seq (.seq (.region [⟨some 44, false, none, .bin .eql (.t 10) (.c (.int .i64 9))⟩,
                ⟨some 43, true, none, .mov (.u 44)⟩])
             (.cond (.t 43)
              (.skip)
              (.seq (.region [⟨some 45, false, none, .bin .eql (.t 10) (.c (.int .i64 10))⟩,
                 ⟨some 43, true, none, .mov (.u 45)⟩])
              (.cond (.t 43)
               (.skip)
               (.seq (.region [⟨some 46, false, none, .bin .eql (.t 10) (.c (.int .i64 11))⟩,
                  ⟨some 43, true, none, .mov (.u 46)⟩])
               (.cond (.t 43)
                (.skip)
                (.region [⟨some 47, false, none, .bin .eql (.t 10) (.c (.int .i64 12))⟩,
                  ⟨some 43, true, none, .mov (.u 47)⟩])))))))
            (.cond (.t 43)
             (.seq (.region [⟨some 48, false, none, .mov (.t 0)⟩,
                ⟨some 49, false, none, .bin .sub (.u 48) (.c (.int .i64 9))⟩,
                ⟨some 50, false, none, .faddr 15 (.t 4)⟩,
                ⟨some 51, false, none, .faddr 1 (.u 50)⟩,
                ⟨some 52, false, none, .iaA 4 1 (.u 51) (.u 49)⟩,
                ⟨some 53, false, none, .load false 1 (.u 52)⟩,
                ⟨some 6, true, none, .mov (.u 53)⟩])
             (.ret))
             (.seq (.region [⟨some 55, false, none, .bin .eql (.t 10) (.c (.int .i64 15))⟩,
                ⟨some 54, true, none, .mov (.u 55)⟩])
             (.cond (.t 54)
              (.seq (.region [⟨some 56, false, none, .faddr 22 (.t 4)⟩,
                 ⟨some 57, false, none, .load false 1 (.u 56)⟩,
                 ⟨some 6, true, none, .mov (.u 57)⟩])
              (.ret))
              (.seq (.region [⟨some 59, false, none, .bin .eql (.t 10) (.c (.int .i64 16))⟩,
                 ⟨some 58, true, none, .mov (.u 59)⟩])
              (.cond (.t 58)
               (.seq (.seq (.region [⟨some 60, false, none, .faddr 22 (.t 4)⟩,
                   ⟨some 61, false, none, .load false 1 (.u 60)⟩,
                   ⟨some 62, true, none, .bin .geq (.u 61) (.c (.int .i64 0))⟩])
                (.cond (.t 62)
                 (.seq (.region [⟨some 6, true, none, .mov (.c (.int .i64 1))⟩])
                 (.ret))
                 (.skip)))
               (.seq (.region [⟨some 6, true, none, .mov (.c (.int .i64 0))⟩])
               (.ret)))
               (.seq (.region [⟨some 64, false, none, .bin .eql (.t 10) (.c (.int .i64 17))⟩,
                  ⟨some 63, true, none, .mov (.u 64)⟩])
               (.cond (.t 63)
                (.seq (.region [⟨some 65, false, none, .faddr 5 (.t 5)⟩,
                   ⟨some 66, false, none, .faddr 1 (.u 65)⟩,
                   ⟨some 67, false, none, .load false 1 (.u 66)⟩,
                   ⟨some 6, true, none, .mov (.u 67)⟩])
                (.ret))
                (.seq (.region [⟨some 69, false, none, .bin .eql (.t 10) (.c (.int .i64 18))⟩,
                   ⟨some 68, true, none, .mov (.u 69)⟩])
                (.cond (.t 68)
                 (.seq (.region [⟨some 70, false, none, .faddr 5 (.t 5)⟩,
                    ⟨some 71, false, none, .faddr 0 (.u 70)⟩,
                    ⟨some 72, false, none, .load false 1 (.u 71)⟩,
                    ⟨some 6, true, none, .mov (.u 72)⟩])
                 (.ret))
                 (.seq (.region [⟨some 74, false, none, .bin .eql (.t 10) (.c (.int .i64 19))⟩,
                    ⟨some 73, true, none, .mov (.u 74)⟩])
                 (.cond (.t 73)
                  (.seq (.region [⟨some 75, false, none, .faddr 10 (.t 5)⟩,
                     ⟨some 76, false, none, .load false 1 (.u 75)⟩,
                     ⟨some 6, true, none, .mov (.u 76)⟩])
                  (.ret))
                  (.seq (.region [⟨some 78, false, none, .bin .eql (.t 10) (.c (.int .i64 20))⟩,
                     ⟨some 77, true, none, .mov (.u 78)⟩])
                  (.cond (.t 77)
                   (.seq (.region [⟨some 79, false, none, .faddr 11 (.t 5)⟩,
                      ⟨some 80, false, none, .load false 1 (.u 79)⟩,
                      ⟨some 6, true, none, .mov (.u 80)⟩])
                   (.ret))
                   (.seq (.region [⟨some 82, false, none, .bin .eql (.t 10) (.c (.int .i64 21))⟩,
                      ⟨some 81, true, none, .mov (.u 82)⟩])
                   (.cond (.t 81)
                    (.seq (.region [⟨some 83, false, none, .faddr 8 (.t 5)⟩,
                       ⟨some 84, false, none, .load false 1 (.u 83)⟩,
                       ⟨some 6, true, none, .mov (.u 84)⟩])
                    (.ret))
                    (.skip)))))))))))))))))))))))))))))))))))
  (.seq (.region [⟨some 85, false, none, .faddr 24 (.t 4)⟩,
     ⟨some 86, false, none, .load false 1 (.u 85)⟩,
     ⟨some 6, true, none, .mov (.u 86)⟩])
  (.ret))))
def r73 : List LRes := [.slot 6]
theorem t73 : (Try.f73.body.bind (trCode v73 Try.prog Try.f73.ntmps)) = some c73 ∧ trRes v73 Try.prog Try.f73.results.toList = some r73 := ⟨by kernel_rfl, by kernel_rfl⟩

def v74 : Nat → Bool := fun t => [0, 1, 2, 6, 7, 8, 13, 18, 23, 28, 33, 38].contains t
def c74 : LCode :=
  .seq (.region [⟨some 6, true, none, .mov (.c (.bool false))⟩])
  (.seq (.seq (.region [⟨some 7, true, none, .mov (.t 0)⟩])
   (.block 0 (.seq (.region [⟨some 9, false, none, .bin .eql (.t 7) (.c (.int .i64 1))⟩,
       ⟨some 8, true, none, .mov (.u 9)⟩])
    (.cond (.t 8)
     (.seq (.region [⟨some 10, false, none, .mov (.t 1)⟩,
        ⟨some 11, false, none, .mov (.t 2)⟩,
        ⟨some 12, false, none, .bin .eql (.u 10) (.u 11)⟩,
        ⟨some 6, true, none, .mov (.u 12)⟩])
     (.ret))
     (.seq (.region [⟨some 14, false, none, .bin .eql (.t 7) (.c (.int .i64 2))⟩,
        ⟨some 13, true, none, .mov (.u 14)⟩])
     (.cond (.t 13)
      (.seq (.region [⟨some 15, false, none, .mov (.t 1)⟩,
         ⟨some 16, false, none, .mov (.t 2)⟩,
         ⟨some 17, false, none, .bin .neq (.u 15) (.u 16)⟩,
         ⟨some 6, true, none, .mov (.u 17)⟩])
      (.ret))
      (.seq (.region [⟨some 19, false, none, .bin .eql (.t 7) (.c (.int .i64 3))⟩,
         ⟨some 18, true, none, .mov (.u 19)⟩])
      (.cond (.t 18)
       (.seq (.region [⟨some 20, false, none, .mov (.t 1)⟩,
          ⟨some 21, false, none, .mov (.t 2)⟩,
          ⟨some 22, false, none, .bin .lss (.u 20) (.u 21)⟩,
          ⟨some 6, true, none, .mov (.u 22)⟩])
       (.ret))
       (.seq (.region [⟨some 24, false, none, .bin .eql (.t 7) (.c (.int .i64 4))⟩,
          ⟨some 23, true, none, .mov (.u 24)⟩])
       (.cond (.t 23)
        (.seq (.region [⟨some 25, false, none, .mov (.t 1)⟩,
           ⟨some 26, false, none, .mov (.t 2)⟩,
           ⟨some 27, false, none, .bin .leq (.u 25) (.u 26)⟩,
           ⟨some 6, true, none, .mov (.u 27)⟩])
        (.ret))
        (.seq (.region [⟨some 29, false, none, .bin .eql (.t 7) (.c (.int .i64 5))⟩,
           ⟨some 28, true, none, .mov (.u 29)⟩])
        (.cond (.t 28)
         (.seq (.region [⟨some 30, false, none, .mov (.t 1)⟩,
            ⟨some 31, false, none, .mov (.t 2)⟩,
            ⟨some 32, false, none, .bin .gtr (.u 30) (.u 31)⟩,
            ⟨some 6, true, none, .mov (.u 32)⟩])
         (.ret))
         (.seq (.region [⟨some 34, false, none, .bin .eql (.t 7) (.c (.int .i64 6))⟩,
            ⟨some 33, true, none, .mov (.u 34)⟩])
         (.cond (.t 33)
          (.seq (.region [⟨some 35, false, none, .mov (.t 1)⟩,
             ⟨some 36, false, none, .mov (.t 2)⟩,
             ⟨some 37, false, none, .bin .geq (.u 35) (.u 36)⟩,
             ⟨some 6, true, none, .mov (.u 37)⟩])
          (.ret))
          (.seq (.region [⟨some 39, false, none, .bin .eql (.t 7) (.c (.int .i64 7))⟩,
             ⟨some 38, true, none, .mov (.u 39)⟩])
          (.cond (.t 38)
           (.seq (.region [⟨some 40, false, none, .mov (.t 1)⟩,
              ⟨some 41, false, none, .mov (.t 2)⟩,
              ⟨some 42, false, none, .bin .and (.u 40) (.u 41)⟩,
              ⟨some 43, false, none, .bin .neq (.u 42) (.c (.int .i64 0))⟩,
              ⟨some 6, true, none, .mov (.u 43)⟩])
           (.ret))
           (.skip)))))))))))))))))
  (.seq (.region [⟨some 44, false, none, .mov (.t 1)⟩,
     ⟨some 45, false, none, .mov (.t 2)⟩,
     ⟨some 46, false, none, .bin .and (.u 44) (.u 45)⟩,
     ⟨some 47, false, none, .mov (.t 2)⟩,
     ⟨some 48, false, none, .bin .eql (.u 46) (.u 47)⟩,
     ⟨some 6, true, none, .mov (.u 48)⟩])
  (.ret)))
def r74 : List LRes := [.slot 6]
theorem t74 : (Try.f74.body.bind (trCode v74 Try.prog Try.f74.ntmps)) = some c74 ∧ trRes v74 Try.prog Try.f74.results.toList = some r74 := ⟨by kernel_rfl, by kernel_rfl⟩

def v75 : Nat → Bool := fun t => [0, 1, 4, 5, 20, 21, 25, 33, 41].contains t
def c75 : LCode :=
  .seq (.region [⟨some 4, true, none, .mov (.c (.bool false))⟩])
  (.seq (.region [⟨some 6, false, none, .mov (.t 1)⟩,
     ⟨some 7, false, none, .bin .geq (.u 6) (.c (.int .i64 1))⟩,
     ⟨some 8, false, none, .mov (.u 7)⟩,
     ⟨some 9, false, some ((.u 8), true), .mov (.t 1)⟩,
     ⟨some 10, false, some ((.u 8), true), .bin .leq (.u 9) (.c (.int .i64 8))⟩,
     ⟨some 11, false, none, .pick (.u 8) (.u 10) (.c (.bool false))⟩,
     ⟨some 12, false, none, .mov (.u 11)⟩,
     ⟨some 13, false, some ((.u 12), false), .mov (.t 1)⟩,
     ⟨some 14, false, some ((.u 12), false), .bin .eql (.u 13) (.c (.int .i64 13))⟩,
     ⟨some 15, false, none, .pick (.u 12) (.c (.bool true)) (.u 14)⟩,
     ⟨some 16, false, none, .mov (.u 15)⟩,
     ⟨some 17, false, some ((.u 16), false), .mov (.t 1)⟩,
     ⟨some 18, false, some ((.u 16), false), .bin .eql (.u 17) (.c (.int .i64 14))⟩,
     ⟨some 19, false, none, .pick (.u 16) (.c (.bool true)) (.u 18)⟩,
     ⟨some 5, true, none, .mov (.u 19)⟩])
  (.seq (.seq (.region [⟨some 20, true, none, .mov (.t 0)⟩])
   (.block 0 (.seq (.seq (.region [⟨some 22, false, none, .bin .eql (.t 20) (.c (.int .i64 1))⟩,
        ⟨some 21, true, none, .mov (.u 22)⟩])
     (.cond (.t 21)
      (.skip)
      (.region [⟨some 23, false, none, .bin .eql (.t 20) (.c (.int .i64 4))⟩,
        ⟨some 21, true, none, .mov (.u 23)⟩])))
    (.cond (.t 21)
     (.seq (.region [⟨some 24, false, none, .mov (.t 5)⟩,
        ⟨some 4, true, none, .mov (.u 24)⟩])
     (.ret))
     (.seq (.region [⟨some 26, false, none, .bin .eql (.t 20) (.c (.int .i64 2))⟩,
        ⟨some 25, true, none, .mov (.u 26)⟩])
     (.cond (.t 25)
      (.seq (.region [⟨some 27, false, none, .mov (.t 1)⟩,
         ⟨some 28, false, none, .bin .geq (.u 27) (.c (.int .i64 1))⟩,
         ⟨some 29, false, none, .mov (.u 28)⟩,
         ⟨some 30, false, some ((.u 29), true), .mov (.t 1)⟩,
         ⟨some 31, false, some ((.u 29), true), .bin .leq (.u 30) (.c (.int .i64 14))⟩,
         ⟨some 32, false, none, .pick (.u 29) (.u 31) (.c (.bool false))⟩,
         ⟨some 4, true, none, .mov (.u 32)⟩])
      (.ret))
      (.seq (.region [⟨some 34, false, none, .bin .eql (.t 20) (.c (.int .i64 3))⟩,
         ⟨some 33, true, none, .mov (.u 34)⟩])
      (.cond (.t 33)
       (.seq (.region [⟨some 35, false, none, .mov (.t 1)⟩,
          ⟨some 36, false, none, .bin .geq (.u 35) (.c (.int .i64 1))⟩,
          ⟨some 37, false, none, .mov (.u 36)⟩,
          ⟨some 38, false, some ((.u 37), true), .mov (.t 1)⟩,
          ⟨some 39, false, some ((.u 37), true), .bin .leq (.u 38) (.c (.int .i64 21))⟩,
          ⟨some 40, false, none, .pick (.u 37) (.u 39) (.c (.bool false))⟩,
          ⟨some 4, true, none, .mov (.u 40)⟩])
       (.ret))
       (.seq (.region [⟨some 42, false, none, .bin .eql (.t 20) (.c (.int .i64 5))⟩,
          ⟨some 41, true, none, .mov (.u 42)⟩])
       (.cond (.t 41)
        (.seq (.region [⟨some 43, false, none, .mov (.t 5)⟩,
           ⟨some 44, false, none, .mov (.u 43)⟩,
           ⟨some 45, false, some ((.u 44), false), .mov (.t 1)⟩,
           ⟨some 46, false, some ((.u 44), false), .bin .eql (.u 45) (.c (.int .i64 22))⟩,
           ⟨some 47, false, none, .pick (.u 44) (.c (.bool true)) (.u 46)⟩,
           ⟨some 4, true, none, .mov (.u 47)⟩])
        (.ret))
        (.skip)))))))))))
  (.seq (.region [⟨some 4, true, none, .mov (.c (.bool false))⟩])
  (.ret))))
def r75 : List LRes := [.slot 4]
theorem t75 : (Try.f75.body.bind (trCode v75 Try.prog Try.f75.ntmps)) = some c75 ∧ trRes v75 Try.prog Try.f75.results.toList = some r75 := ⟨by kernel_rfl, by kernel_rfl⟩

def v76 : Nat → Bool := fun t => [0, 2, 3, 4].contains t
def c76 : LCode :=
  .seq (.region [⟨some 2, true, none, .mov (.c (.bool false))⟩])
  (.seq (.seq (.region [⟨some 3, true, none, .mov (.t 0)⟩])
   (.block 0 (.seq (.seq (.region [⟨some 5, false, none, .bin .eql (.t 3) (.c (.int .i64 3))⟩,
        ⟨some 4, true, none, .mov (.u 5)⟩])
     (.cond (.t 4)
      (.skip)
      (.seq (.region [⟨some 6, false, none, .bin .eql (.t 3) (.c (.int .i64 4))⟩,
         ⟨some 4, true, none, .mov (.u 6)⟩])
      (.cond (.t 4)
       (.skip)
       (.seq (.region [⟨some 7, false, none, .bin .eql (.t 3) (.c (.int .i64 5))⟩,
          ⟨some 4, true, none, .mov (.u 7)⟩])
       (.cond (.t 4)
        (.skip)
        (.seq (.region [⟨some 8, false, none, .bin .eql (.t 3) (.c (.int .i64 6))⟩,
           ⟨some 4, true, none, .mov (.u 8)⟩])
        (.cond (.t 4)
         (.skip)
         (.seq (.region [⟨some 9, false, none, .bin .eql (.t 3) (.c (.int .i64 7))⟩,
            ⟨some 4, true, none, .mov (.u 9)⟩])
         (.cond (.t 4)
          (.skip)
          (.seq (.region [⟨some 10, false, none, .bin .eql (.t 3) (.c (.int .i64 19))⟩,
             ⟨some 4, true, none, .mov (.u 10)⟩])
          (.cond (.t 4)
           (.skip)
           (.region [⟨some 11, false, none, .bin .eql (.t 3) (.c (.int .i64 20))⟩,
             ⟨some 4, true, none, .mov (.u 11)⟩])))))))))))))
    (.cond (.t 4)
     (.seq (.region [⟨some 2, true, none, .mov (.c (.bool true))⟩])
     (.ret))
     (.skip)))))
  (.seq (.region [⟨some 2, true, none, .mov (.c (.bool false))⟩])
  (.ret)))
def r76 : List LRes := [.slot 2]
theorem t76 : (Try.f76.body.bind (trCode v76 Try.prog Try.f76.ntmps)) = some c76 ∧ trRes v76 Try.prog Try.f76.results.toList = some r76 := ⟨by kernel_rfl, by kernel_rfl⟩

def v77 : Nat → Bool := fun t => [0, 2].contains t
def c77 : LCode :=
  .seq (.region [⟨some 2, true, none, .mov (.c (.bool false))⟩])
  (.seq (.region [⟨some 3, false, none, .mov (.t 0)⟩,
     ⟨some 4, false, none, .bin .eql (.u 3) (.c (.int .i64 13))⟩,
     ⟨some 5, false, none, .mov (.u 4)⟩,
     ⟨some 6, false, some ((.u 5), false), .mov (.t 0)⟩,
     ⟨some 7, false, some ((.u 5), false), .bin .eql (.u 6) (.c (.int .i64 14))⟩,
     ⟨some 8, false, none, .pick (.u 5) (.c (.bool true)) (.u 7)⟩,
     ⟨some 2, true, none, .mov (.u 8)⟩])
  (.ret))
def r77 : List LRes := [.slot 2]
theorem t77 : (Try.f77.body.bind (trCode v77 Try.prog Try.f77.ntmps)) = some c77 ∧ trRes v77 Try.prog Try.f77.results.toList = some r77 := ⟨by kernel_rfl, by kernel_rfl⟩

def v78 : Nat → Bool := fun t => [0, 1, 2, 4, 5, 6, 7, 8, 9, 14, 19, 24, 29, 34, 39, 44, 49, 60, 69].contains t
def c78 : LCode :=
  .seq (.region [⟨some 4, true, none, .box (.t 1)⟩,
     ⟨some 5, true, none, .box (.t 2)⟩,
     ⟨some 6, true, none, .mov (.c (.int .i64 0))⟩,
     ⟨some 7, true, none, .mov (.c (.bool false))⟩])
  (.seq (.seq (.region [⟨some 8, true, none, .mov (.t 0)⟩])
   (.block 0 (.seq (.region [⟨some 10, false, none, .bin .eql (.t 8) (.c (.int .i64 1))⟩,
       ⟨some 9, true, none, .mov (.u 10)⟩])
    (.cond (.t 9)
     (.seq (.region [⟨some 11, false, none, .faddr 1 (.t 4)⟩,
        ⟨some 12, false, none, .faddr 0 (.u 11)⟩,
        ⟨some 13, false, none, .load false 1 (.u 12)⟩,
        ⟨some 6, true, none, .mov (.u 13)⟩,
        ⟨some 7, true, none, .mov (.c (.bool true))⟩])
     (.ret))
     (.seq (.region [⟨some 15, false, none, .bin .eql (.t 8) (.c (.int .i64 2))⟩,
        ⟨some 14, true, none, .mov (.u 15)⟩])
     (.cond (.t 14)
      (.seq (.region [⟨some 16, false, none, .faddr 1 (.t 4)⟩,
         ⟨some 17, false, none, .faddr 1 (.u 16)⟩,
         ⟨some 18, false, none, .load false 1 (.u 17)⟩,
         ⟨some 6, true, none, .mov (.u 18)⟩,
         ⟨some 7, true, none, .mov (.c (.bool true))⟩])
      (.ret))
      (.seq (.region [⟨some 20, false, none, .bin .eql (.t 8) (.c (.int .i64 3))⟩,
         ⟨some 19, true, none, .mov (.u 20)⟩])
      (.cond (.t 19)
       (.seq (.region [⟨some 21, false, none, .faddr 1 (.t 4)⟩,
          ⟨some 22, false, none, .faddr 2 (.u 21)⟩,
          ⟨some 23, false, none, .load false 1 (.u 22)⟩,
          ⟨some 6, true, none, .mov (.u 23)⟩,
          ⟨some 7, true, none, .mov (.c (.bool true))⟩])
       (.ret))
       (.seq (.region [⟨some 25, false, none, .bin .eql (.t 8) (.c (.int .i64 4))⟩,
          ⟨some 24, true, none, .mov (.u 25)⟩])
       (.cond (.t 24)
        (.seq (.region [⟨some 26, false, none, .faddr 1 (.t 4)⟩,
           ⟨some 27, false, none, .faddr 3 (.u 26)⟩,
           ⟨some 28, false, none, .load false 1 (.u 27)⟩,
           ⟨some 6, true, none, .mov (.u 28)⟩,
           ⟨some 7, true, none, .mov (.c (.bool true))⟩])
        (.ret))
        (.seq (.region [⟨some 30, false, none, .bin .eql (.t 8) (.c (.int .i64 5))⟩,
           ⟨some 29, true, none, .mov (.u 30)⟩])
        (.cond (.t 29)
         (.seq (.region [⟨some 31, false, none, .faddr 1 (.t 4)⟩,
            ⟨some 32, false, none, .faddr 4 (.u 31)⟩,
            ⟨some 33, false, none, .load false 1 (.u 32)⟩,
            ⟨some 6, true, none, .mov (.u 33)⟩,
            ⟨some 7, true, none, .mov (.c (.bool true))⟩])
         (.ret))
         (.seq (.region [⟨some 35, false, none, .bin .eql (.t 8) (.c (.int .i64 6))⟩,
            ⟨some 34, true, none, .mov (.u 35)⟩])
         (.cond (.t 34)
          (.seq (.region [⟨some 36, false, none, .faddr 1 (.t 4)⟩,
             ⟨some 37, false, none, .faddr 5 (.u 36)⟩,
             ⟨some 38, false, none, .load false 1 (.u 37)⟩,
             ⟨some 6, true, none, .mov (.u 38)⟩,
             ⟨some 7, true, none, .mov (.c (.bool true))⟩])
          (.ret))
          (.seq (.region [⟨some 40, false, none, .bin .eql (.t 8) (.c (.int .i64 7))⟩,
             ⟨some 39, true, none, .mov (.u 40)⟩])
          (.cond (.t 39)
           (.seq (.region [⟨some 41, false, none, .faddr 1 (.t 4)⟩,
              ⟨some 42, false, none, .faddr 6 (.u 41)⟩,
              ⟨some 43, false, none, .load false 1 (.u 42)⟩,
              ⟨some 6, true, none, .mov (.u 43)⟩,
              ⟨some 7, true, none, .mov (.c (.bool true))⟩])
           (.ret))
           (.seq (.region [⟨some 45, false, none, .bin .eql (.t 8) (.c (.int .i64 8))⟩,
              ⟨some 44, true, none, .mov (.u 45)⟩])
           (.cond (.t 44)
            (.seq (.region [⟨some 46, false, none, .faddr 1 (.t 4)⟩,
               ⟨some 47, false, none, .faddr 7 (.u 46)⟩,
               ⟨some 48, false, none, .load false 1 (.u 47)⟩,
               ⟨some 6, true, none, .mov (.u 48)⟩,
               ⟨some 7, true, none, .mov (.c (.bool true))⟩])
            (.ret))
            (.seq (.seq (.region [⟨some 50, false, none, .bin .eql (.t 8) (.c (.int .i64 9))⟩,
                ⟨some 49, true, none, .mov (.u 50)⟩])
             (.cond (.t 49)
              (.skip)
              (.seq (.region [⟨some 51, false, none, .bin .eql (.t 8) (.c (.int .i64 10))⟩,
                 ⟨some 49, true, none, .mov (.u 51)⟩])
              (.cond (.t 49)
               (.skip)
               (.seq (.region [⟨some 52, false, none, .bin .eql (.t 8) (.c (.int .i64 11))⟩,
                  ⟨some 49, true, none, .mov (.u 52)⟩])
               (.cond (.t 49)
                (.skip)
                (.region [⟨some 53, false, none, .bin .eql (.t 8) (.c (.int .i64 12))⟩,
                  ⟨some 49, true, none, .mov (.u 53)⟩])))))))
            (.cond (.t 49)
             (.seq (.region [⟨some 54, false, none, .mov (.t 0)⟩,
                ⟨some 55, false, none, .bin .sub (.u 54) (.c (.int .i64 9))⟩,
                ⟨some 56, false, none, .faddr 15 (.t 4)⟩,
                ⟨some 57, false, none, .faddr 1 (.u 56)⟩,
                ⟨some 58, false, none, .iaA 4 1 (.u 57) (.u 55)⟩,
                ⟨some 59, false, none, .load false 1 (.u 58)⟩,
                ⟨some 6, true, none, .mov (.u 59)⟩,
                ⟨some 7, true, none, .mov (.c (.bool true))⟩])
             (.ret))
             (.seq (.region [⟨some 61, false, none, .bin .eql (.t 8) (.c (.int .i64 22))⟩,
                ⟨some 60, true, none, .mov (.u 61)⟩])
             (.cond (.t 60)
              (.seq (.regionD [⟨0, [4], false, [], ⟨some 62, false, none, .faddr 24 (.t 4)⟩⟩,
                 ⟨1, [62], true, [], ⟨some 63, false, none, .load false 1 (.u 62)⟩⟩,
                 ⟨2, [4], false, [], ⟨some 64, false, none, .faddr 24 (.t 4)⟩⟩,
                 ⟨3, [64], true, [], ⟨some 65, false, none, .load false 1 (.u 64)⟩⟩,
                 ⟨4, [65], false, [], ⟨some 66, false, none, .bin .neq (.u 65) (.c (.int .i64 0))⟩⟩,
                 ⟨5, [63], false, [], ⟨some 6, true, none, .mov (.u 63)⟩⟩,
                 ⟨6, [66], false, [], ⟨some 7, true, none, .mov (.u 66)⟩⟩])
              (.ret))
              (.skip)))))))))))))))))))))))
  (.seq (.seq (.region [⟨some 67, false, none, .faddr 0 (.t 4)⟩,
      ⟨some 68, false, none, .load false 1 (.u 67)⟩,
      ⟨some 69, true, none, .bin .neq (.u 68) (.c (.int .i64 2))⟩])
   (.cond (.t 69)
    (.seq (.region [⟨some 6, true, none, .mov (.c (.int .i64 0))⟩,
       ⟨some 7, true, none, .mov (.c (.bool false))⟩])
    (.ret))
    (.skip)))
  (.seq (.region [⟨some 70, false, none, .mov (.t 0)⟩,
     ⟨some 71, false, none, .load true 25 (.t 4)⟩,
     ⟨some 72, false, none, .load true 13 (.t 5)⟩,
     ⟨some 73, false, none, .call 80 [(.u 70), (.u 71), (.u 72)]⟩,
     ⟨some 74, false, none, .ext (.u 73) 0⟩,
     ⟨some 75, false, none, .ext (.u 73) 1⟩,
     ⟨some 6, true, none, .mov (.u 74)⟩,
     ⟨some 7, true, none, .mov (.u 75)⟩])
  (.ret))))
def r78 : List LRes := [.slot 6, .slot 7]
theorem t78 : (Try.f78.body.bind (trCode v78 Try.prog Try.f78.ntmps)) = some c78 ∧ trRes v78 Try.prog Try.f78.results.toList = some r78 := ⟨by kernel_rfl, by kernel_rfl⟩

def v79 : Nat → Bool := fun t => [0, 1, 2, 6, 7, 8, 13, 18, 23, 28, 33, 38, 44].contains t
def c79 : LCode :=
  .seq (.region [⟨some 6, true, none, .mov (.c (.bool false))⟩])
  (.seq (.seq (.region [⟨some 7, true, none, .mov (.t 0)⟩])
   (.block 0 (.seq (.region [⟨some 9, false, none, .bin .eql (.t 7) (.c (.int .i64 1))⟩,
       ⟨some 8, true, none, .mov (.u 9)⟩])
    (.cond (.t 8)
     (.seq (.region [⟨some 10, false, none, .mov (.t 1)⟩,
        ⟨some 11, false, none, .mov (.t 2)⟩,
        ⟨some 12, false, none, .bin .eql (.u 10) (.u 11)⟩,
        ⟨some 6, true, none, .mov (.u 12)⟩])
     (.ret))
     (.seq (.region [⟨some 14, false, none, .bin .eql (.t 7) (.c (.int .i64 2))⟩,
        ⟨some 13, true, none, .mov (.u 14)⟩])
     (.cond (.t 13)
      (.seq (.region [⟨some 15, false, none, .mov (.t 1)⟩,
         ⟨some 16, false, none, .mov (.t 2)⟩,
         ⟨some 17, false, none, .bin .neq (.u 15) (.u 16)⟩,
         ⟨some 6, true, none, .mov (.u 17)⟩])
      (.ret))
      (.seq (.region [⟨some 19, false, none, .bin .eql (.t 7) (.c (.int .i64 3))⟩,
         ⟨some 18, true, none, .mov (.u 19)⟩])
      (.cond (.t 18)
       (.seq (.region [⟨some 20, false, none, .mov (.t 1)⟩,
          ⟨some 21, false, none, .mov (.t 2)⟩,
          ⟨some 22, false, none, .bin .lss (.u 20) (.u 21)⟩,
          ⟨some 6, true, none, .mov (.u 22)⟩])
       (.ret))
       (.seq (.region [⟨some 24, false, none, .bin .eql (.t 7) (.c (.int .i64 4))⟩,
          ⟨some 23, true, none, .mov (.u 24)⟩])
       (.cond (.t 23)
        (.seq (.region [⟨some 25, false, none, .mov (.t 1)⟩,
           ⟨some 26, false, none, .mov (.t 2)⟩,
           ⟨some 27, false, none, .bin .leq (.u 25) (.u 26)⟩,
           ⟨some 6, true, none, .mov (.u 27)⟩])
        (.ret))
        (.seq (.region [⟨some 29, false, none, .bin .eql (.t 7) (.c (.int .i64 5))⟩,
           ⟨some 28, true, none, .mov (.u 29)⟩])
        (.cond (.t 28)
         (.seq (.region [⟨some 30, false, none, .mov (.t 1)⟩,
            ⟨some 31, false, none, .mov (.t 2)⟩,
            ⟨some 32, false, none, .bin .gtr (.u 30) (.u 31)⟩,
            ⟨some 6, true, none, .mov (.u 32)⟩])
         (.ret))
         (.seq (.region [⟨some 34, false, none, .bin .eql (.t 7) (.c (.int .i64 6))⟩,
            ⟨some 33, true, none, .mov (.u 34)⟩])
         (.cond (.t 33)
          (.seq (.region [⟨some 35, false, none, .mov (.t 1)⟩,
             ⟨some 36, false, none, .mov (.t 2)⟩,
             ⟨some 37, false, none, .bin .geq (.u 35) (.u 36)⟩,
             ⟨some 6, true, none, .mov (.u 37)⟩])
          (.ret))
          (.seq (.region [⟨some 39, false, none, .bin .eql (.t 7) (.c (.int .i64 7))⟩,
             ⟨some 38, true, none, .mov (.u 39)⟩])
          (.cond (.t 38)
           (.seq (.region [⟨some 40, false, none, .mov (.t 1)⟩,
              ⟨some 41, false, none, .mov (.t 2)⟩,
              ⟨some 42, false, none, .bin .and (.u 40) (.u 41)⟩,
              ⟨some 43, false, none, .bin .neq (.u 42) (.c (.int .i64 0))⟩,
              ⟨some 6, true, none, .mov (.u 43)⟩])
           (.ret))
           (.seq (.region [⟨some 45, false, none, .bin .eql (.t 7) (.c (.int .i64 8))⟩,
              ⟨some 44, true, none, .mov (.u 45)⟩])
           (.cond (.t 44)
            (.seq (.region [⟨some 46, false, none, .mov (.t 1)⟩,
               ⟨some 47, false, none, .mov (.t 2)⟩,
               ⟨some 48, false, none, .bin .and (.u 46) (.u 47)⟩,
               ⟨some 49, false, none, .mov (.t 2)⟩,
               ⟨some 50, false, none, .bin .eql (.u 48) (.u 49)⟩,
               ⟨some 6, true, none, .mov (.u 50)⟩])
            (.ret))
            (.skip)))))))))))))))))))
  (.seq (.region [⟨some 6, true, none, .mov (.c (.bool false))⟩])
  (.ret)))
def r79 : List LRes := [.slot 6]
theorem t79 : (Try.f79.body.bind (trCode v79 Try.prog Try.f79.ntmps)) = some c79 ∧ trRes v79 Try.prog Try.f79.results.toList = some r79 := ⟨by kernel_rfl, by kernel_rfl⟩

def v80 : Nat → Bool := fun t => [0, 1, 2, 4, 5, 6, 7, 8, 9, 13, 17, 18, 23, 28, 32, 36].contains t
def c80 : LCode :=
  .seq (.region [⟨some 4, true, none, .box (.t 1)⟩,
     ⟨some 5, true, none, .box (.t 2)⟩,
     ⟨some 6, true, none, .mov (.c (.int .i64 0))⟩,
     ⟨some 7, true, none, .mov (.c (.bool false))⟩])
  (.seq (.seq (.region [⟨some 8, true, none, .mov (.t 0)⟩])
   (.block 0 (.seq (.region [⟨some 10, false, none, .bin .eql (.t 8) (.c (.int .i64 15))⟩,
       ⟨some 9, true, none, .mov (.u 10)⟩])
    (.cond (.t 9)
     (.seq (.region [⟨some 11, false, none, .faddr 22 (.t 4)⟩,
        ⟨some 12, false, none, .load false 1 (.u 11)⟩,
        ⟨some 6, true, none, .mov (.u 12)⟩,
        ⟨some 7, true, none, .mov (.c (.bool true))⟩])
     (.ret))
     (.seq (.region [⟨some 14, false, none, .bin .eql (.t 8) (.c (.int .i64 16))⟩,
        ⟨some 13, true, none, .mov (.u 14)⟩])
     (.cond (.t 13)
      (.seq (.seq (.region [⟨some 15, false, none, .faddr 22 (.t 4)⟩,
          ⟨some 16, false, none, .load false 1 (.u 15)⟩,
          ⟨some 17, true, none, .bin .geq (.u 16) (.c (.int .i64 0))⟩])
       (.cond (.t 17)
        (.seq (.region [⟨some 6, true, none, .mov (.c (.int .i64 1))⟩,
           ⟨some 7, true, none, .mov (.c (.bool true))⟩])
        (.ret))
        (.skip)))
      (.seq (.region [⟨some 6, true, none, .mov (.c (.int .i64 0))⟩,
         ⟨some 7, true, none, .mov (.c (.bool true))⟩])
      (.ret)))
      (.seq (.region [⟨some 19, false, none, .bin .eql (.t 8) (.c (.int .i64 17))⟩,
         ⟨some 18, true, none, .mov (.u 19)⟩])
      (.cond (.t 18)
       (.seq (.region [⟨some 20, false, none, .faddr 5 (.t 5)⟩,
          ⟨some 21, false, none, .faddr 1 (.u 20)⟩,
          ⟨some 22, false, none, .load false 1 (.u 21)⟩,
          ⟨some 6, true, none, .mov (.u 22)⟩,
          ⟨some 7, true, none, .mov (.c (.bool true))⟩])
       (.ret))
       (.seq (.region [⟨some 24, false, none, .bin .eql (.t 8) (.c (.int .i64 18))⟩,
          ⟨some 23, true, none, .mov (.u 24)⟩])
       (.cond (.t 23)
        (.seq (.region [⟨some 25, false, none, .faddr 5 (.t 5)⟩,
           ⟨some 26, false, none, .faddr 0 (.u 25)⟩,
           ⟨some 27, false, none, .load false 1 (.u 26)⟩,
           ⟨some 6, true, none, .mov (.u 27)⟩,
           ⟨some 7, true, none, .mov (.c (.bool true))⟩])
        (.ret))
        (.seq (.region [⟨some 29, false, none, .bin .eql (.t 8) (.c (.int .i64 19))⟩,
           ⟨some 28, true, none, .mov (.u 29)⟩])
        (.cond (.t 28)
         (.seq (.region [⟨some 30, false, none, .faddr 10 (.t 5)⟩,
            ⟨some 31, false, none, .load false 1 (.u 30)⟩,
            ⟨some 6, true, none, .mov (.u 31)⟩,
            ⟨some 7, true, none, .mov (.c (.bool true))⟩])
         (.ret))
         (.seq (.region [⟨some 33, false, none, .bin .eql (.t 8) (.c (.int .i64 20))⟩,
            ⟨some 32, true, none, .mov (.u 33)⟩])
         (.cond (.t 32)
          (.seq (.region [⟨some 34, false, none, .faddr 11 (.t 5)⟩,
             ⟨some 35, false, none, .load false 1 (.u 34)⟩,
             ⟨some 6, true, none, .mov (.u 35)⟩,
             ⟨some 7, true, none, .mov (.c (.bool true))⟩])
          (.ret))
          (.seq (.region [⟨some 37, false, none, .bin .eql (.t 8) (.c (.int .i64 21))⟩,
             ⟨some 36, true, none, .mov (.u 37)⟩])
          (.cond (.t 36)
           (.seq (.region [⟨some 38, false, none, .faddr 8 (.t 5)⟩,
              ⟨some 39, false, none, .load false 1 (.u 38)⟩,
              ⟨some 6, true, none, .mov (.u 39)⟩,
              ⟨some 7, true, none, .mov (.c (.bool true))⟩])
           (.ret))
           (.skip)))))))))))))))))
  (.seq (.region [⟨some 6, true, none, .mov (.c (.int .i64 0))⟩,
     ⟨some 7, true, none, .mov (.c (.bool false))⟩])
  (.ret)))
def r80 : List LRes := [.slot 6, .slot 7]
theorem t80 : (Try.f80.body.bind (trCode v80 Try.prog Try.f80.ntmps)) = some c80 ∧ trRes v80 Try.prog Try.f80.results.toList = some r80 := ⟨by kernel_rfl, by kernel_rfl⟩


end Go.Proofs.Ytmggjfbcjmenlaa
