/- The functions' bodies as the engine reads them; written by program out of the translation, checked by the kernel. -/
import Derived.Test.YtcngkeeknlloaaaProg
import Derived.Test.YtcngkeeknlloaaaLxL
import Derived.KernelRfl
namespace Go.Proofs.Ytcngkeeknlloaaa
open Go Go.Lx
set_option maxRecDepth 100000
def v3 : Nat → Bool := fun t => [0, 2, 3, 4, 5].contains t
def c3 : LCode :=
  .seq (.region [⟨some 2, true, none, .mov (.c (.bool false))⟩])
  (.seq (.region [⟨some 6, false, none, .mov (.t 0)⟩,
     ⟨some 7, false, none, .call 11 [(.u 6)]⟩,
     ⟨some 3, true, none, .mov (.u 7)⟩])
  (.seq (.region [⟨some 9, false, none, .mov (.t 3)⟩,
     ⟨some 10, false, none, .call 12 [(.u 9), (.c (.int .i64 5))]⟩,
     ⟨some 8, false, none, .mov (.u 10)⟩,
     ⟨some 11, false, none, .ext (.u 8) 0⟩,
     ⟨some 12, false, none, .ext (.u 8) 1⟩,
     ⟨some 4, true, none, .mov (.u 11)⟩,
     ⟨some 5, true, none, .mov (.u 12)⟩])
  (.seq (.region [⟨some 13, false, none, .mov (.t 4)⟩,
     ⟨some 14, false, none, .mov (.t 5)⟩,
     ⟨some 15, false, none, .call 13 [(.u 13), (.u 14)]⟩,
     ⟨some 16, false, none, .mov (.u 15)⟩,
     ⟨some 17, false, some ((.u 16), true), .call 14 []⟩,
     ⟨some 18, false, none, .pick (.u 16) (.u 17) (.c (.bool false))⟩,
     ⟨some 2, true, none, .mov (.u 18)⟩])
  (.ret))))
def r3 : List LRes := [.slot 2]
theorem t3 : (Try.f3.body.bind (trCode v3 Try.prog Try.f3.ntmps)) = some c3 ∧ trRes v3 Try.prog Try.f3.results.toList = some r3 := ⟨by kernel_rfl, by kernel_rfl⟩


end Go.Proofs.Ytcngkeeknlloaaa
