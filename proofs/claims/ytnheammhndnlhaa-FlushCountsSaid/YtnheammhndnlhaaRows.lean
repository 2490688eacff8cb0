/-
  No cell of these rows narrows 'for every input' (looked for: loops, veiled, ifaces, maps, wideKeys, modest, calm, conditions, laid).
  DERIVED. THE GIVEN ROWS OF THIS SEAT. 3 by the template 'for every input the law returns true; each argument reads behind the call as it read before'; 0 by the template 'total and deterministic' (their statements: YtnheammhndnlhaaTotals.lean).
  GIVEN WITH THE SEED: the statements are not yours to turn. If you find one false, say at which input.
  Laid BY PROGRAM, IN A SANDBOX (cutbox-rows.mjs): the forced cells as the released guide's own fill.sh prints them over the translation 373e47554d7a51f1… (all of the seat's roots in one cut). By AI agents, Wed Nov 11 2026. No macro, syntax, notation, axiom, sorry.
-/
import Derived.Test.YtnheammhndnlhaaChecked
import GoSem.Claim
import GoSem.ClaimJoined
import GoSem.ClaimMapViews
import Derived.JoinedTies
import Derived.KernelRfl
namespace Go.Proofs.Ytnheammhndnlhaa
/- THE CELL 'sum', in the pinned program and in every row, IS THE sha256 OF THE DUMP (.gsa) THAT YtnheammhndnlhaaProg.lean LOADS. Nothing in Lean hashes anything: it is a label: what it is worth is what the hold of that sum in a sandbox is worth. -/
noncomputable def Try.pinned : Pinned := { name := "ytnheammhndnlhaa", sum := "373e47554d7a51f18aa57a1aa8ce1f1490f6d34da4e6d6711682432b44f7f3ac", checked := Try.checked }
namespace Rows
def none {H : Type} : Left H := { results := [], args := [] }

/-- 'kauditlaw28.FlushBound': WHATEVER THE INPUT: true; the input reads as it did. -/
def flushBoundSpec : ChangeSpec := { name := "flushBound", fn := fun _ => fun
  | [d1, d2, d3] => { results := [.lit (.bool true)], args := [d1, d2, d3] }
  | _ => none }
def flushBoundRow : OpenClaim := { program := "ytnheammhndnlhaa", sum := "373e47554d7a51f18aa57a1aa8ce1f1490f6d34da4e6d6711682432b44f7f3ac", func := "kaudit/kauditlaw28.FlushBound", spec := "flushBound", apart := false }
def FlushBoundSaid : Prop := flushBoundRow.holds Try.pinned (OpenSpec.ofChange flushBoundSpec)

/-- ITS FALSE NEIGHBOUR: 'it returns false'. Refute it at one input. -/
def flushBoundWrong : ChangeSpec := { name := "flushBound", fn := fun _ => fun
  | [d1, d2, d3] => { results := [.lit (.bool false)], args := [d1, d2, d3] }
  | _ => none }
def FlushBoundWrongFalsely : Prop := flushBoundRow.holds Try.pinned (OpenSpec.ofChange flushBoundWrong)

/-- 'kauditlaw28.FlushCounts': WHATEVER THE INPUT: true; the input reads as it did. -/
def flushCountsSpec : ChangeSpec := { name := "flushCounts", fn := fun _ => fun
  | [d1, d2, d3, d4] => { results := [.lit (.bool true)], args := [d1, d2, d3, d4] }
  | _ => none }
def flushCountsRow : OpenClaim := { program := "ytnheammhndnlhaa", sum := "373e47554d7a51f18aa57a1aa8ce1f1490f6d34da4e6d6711682432b44f7f3ac", func := "kaudit/kauditlaw28.FlushCounts", spec := "flushCounts", apart := false }
def FlushCountsSaid : Prop := flushCountsRow.holds Try.pinned (OpenSpec.ofChange flushCountsSpec)

/-- ITS FALSE NEIGHBOUR: 'it returns false'. Refute it at one input. -/
def flushCountsWrong : ChangeSpec := { name := "flushCounts", fn := fun _ => fun
  | [d1, d2, d3, d4] => { results := [.lit (.bool false)], args := [d1, d2, d3, d4] }
  | _ => none }
def FlushCountsWrongFalsely : Prop := flushCountsRow.holds Try.pinned (OpenSpec.ofChange flushCountsWrong)

/-- 'kauditlaw28.FlushTimes': WHATEVER THE INPUT: true; the input reads as it did. -/
def flushTimesSpec : ChangeSpec := { name := "flushTimes", fn := fun _ => fun
  | [d1, d2, d3] => { results := [.lit (.bool true)], args := [d1, d2, d3] }
  | _ => none }
def flushTimesRow : OpenClaim := { program := "ytnheammhndnlhaa", sum := "373e47554d7a51f18aa57a1aa8ce1f1490f6d34da4e6d6711682432b44f7f3ac", func := "kaudit/kauditlaw28.FlushTimes", spec := "flushTimes", apart := false }
def FlushTimesSaid : Prop := flushTimesRow.holds Try.pinned (OpenSpec.ofChange flushTimesSpec)

/-- ITS FALSE NEIGHBOUR: 'it returns false'. Refute it at one input. -/
def flushTimesWrong : ChangeSpec := { name := "flushTimes", fn := fun _ => fun
  | [d1, d2, d3] => { results := [.lit (.bool false)], args := [d1, d2, d3] }
  | _ => none }
def FlushTimesWrongFalsely : Prop := flushTimesRow.holds Try.pinned (OpenSpec.ofChange flushTimesWrong)

/- THE SECOND FORM. 'bulk': how many values and letters a reading holds, each counted each time it is reached (what is shared counts as often as it is met; a slice's spare places count too). A statement '..UptoSaid' is the law's where the arguments, and the package variables that the reading takes, are together of bulk at most 1048576: NARROWER than '..Said'. Prove '..Said' where nothing that the law and all that it calls make is longer than what came in: it says more and counts as full. Else prove '..UptoSaid'. A law counts once. -/
mutual
def uptoBulk {H : Type} : DataW H → Nat
  | .lit (.string bytes) => bytes.length + 1
  | .lit _ => 1
  | .nil => 1
  | .ptr d => uptoBulk d + 1
  | .slice elems spare => uptoBulkAll elems + uptoBulkAll spare + 1
  | .agg parts => uptoBulkAll parts + 1
  | .iface _ d => uptoBulk d + 1
  | .map entries => uptoBulkEntries entries + 1
  | .held _ => 1
def uptoBulkAll {H : Type} : List (DataW H) → Nat
  | [] => 0
  | d :: r => uptoBulk d + uptoBulkAll r
def uptoBulkEntries {H : Type} : List (Lit × DataW H) → Nat
  | [] => 0
  | x :: r => uptoBulkEntry x + uptoBulkEntries r
def uptoBulkEntry {H : Type} : Lit × DataW H → Nat
  | (.string bytes, d) => bytes.length + uptoBulk d + 1
  | (_, d) => uptoBulk d + 1
 end
def uptoSmall : (H : Type) → List (DataW H) → Bool := fun _ ds => decide (uptoBulkAll ds ≤ 1048576)
def OpenSpec.upto (s : _root_.Go.ChangeSpec) : _root_.Go.OpenSpec := { _root_.Go.OpenSpec.ofChange s with cond := some uptoSmall }

/-- 'kauditlaw28.FlushBound', WHERE WHAT IT READS IS OF BULK AT MOST 1048576: true; the input reads as it did. -/
def flushBoundUptoRow : OpenClaim := { program := "ytnheammhndnlhaa", sum := "373e47554d7a51f18aa57a1aa8ce1f1490f6d34da4e6d6711682432b44f7f3ac", func := "kaudit/kauditlaw28.FlushBound", spec := "flushBound", apart := false, narrowed := true }
def FlushBoundUptoSaid : Prop := flushBoundUptoRow.holds Try.pinned (OpenSpec.upto flushBoundSpec)

/-- 'kauditlaw28.FlushCounts', WHERE WHAT IT READS IS OF BULK AT MOST 1048576: true; the input reads as it did. -/
def flushCountsUptoRow : OpenClaim := { program := "ytnheammhndnlhaa", sum := "373e47554d7a51f18aa57a1aa8ce1f1490f6d34da4e6d6711682432b44f7f3ac", func := "kaudit/kauditlaw28.FlushCounts", spec := "flushCounts", apart := false, narrowed := true }
def FlushCountsUptoSaid : Prop := flushCountsUptoRow.holds Try.pinned (OpenSpec.upto flushCountsSpec)

/-- 'kauditlaw28.FlushTimes', WHERE WHAT IT READS IS OF BULK AT MOST 1048576: true; the input reads as it did. -/
def flushTimesUptoRow : OpenClaim := { program := "ytnheammhndnlhaa", sum := "373e47554d7a51f18aa57a1aa8ce1f1490f6d34da4e6d6711682432b44f7f3ac", func := "kaudit/kauditlaw28.FlushTimes", spec := "flushTimes", apart := false, narrowed := true }
def FlushTimesUptoSaid : Prop := flushTimesUptoRow.holds Try.pinned (OpenSpec.upto flushTimesSpec)

end Rows
end Go.Proofs.Ytnheammhndnlhaa
