/-
  No cell of these rows narrows 'for every input' (looked for: loops, veiled, ifaces, maps, wideKeys, modest, calm, conditions, laid).
  DERIVED. THE GIVEN ROWS OF THIS SEAT. 5 by the template 'for every input the law returns true; each argument reads behind the call as it read before'; 0 by the template 'total and deterministic' (their statements: YtkdblnejpmbnfaaTotals.lean).
  GIVEN WITH THE SEED: the statements are not yours to turn. If you find one false, say at which input.
  Laid BY PROGRAM, IN A SANDBOX (cutbox-rows.mjs): the forced cells as the released guide's own fill.sh prints them over the translation 74075b4ab1f55c7e… (all of the seat's roots in one cut). By AI agents, Wed Nov 11 2026. No macro, syntax, notation, axiom, sorry.
-/
import Derived.Test.YtkdblnejpmbnfaaChecked
import GoSem.Claim
import GoSem.ClaimJoined
import GoSem.ClaimMapViews
import Derived.JoinedTies
import Derived.KernelRfl
namespace Go.Proofs.Ytkdblnejpmbnfaa
/- THE CELL 'sum', in the pinned program and in every row, IS THE sha256 OF THE DUMP (.gsa) THAT YtkdblnejpmbnfaaProg.lean LOADS. Nothing in Lean hashes anything: it is a label: what it is worth is what the hold of that sum in a sandbox is worth. -/
noncomputable def Try.pinned : Pinned := { name := "ytkdblnejpmbnfaa", sum := "74075b4ab1f55c7e30e3f9dbb6ed44929910734a0b83b4ef0273e37f6020c02a", checked := Try.checked }
namespace Rows
def none {H : Type} : Left H := { results := [], args := [] }

/-- 'kauditlaw09.ProcessDrops': WHATEVER THE INPUT: true; the input reads as it did. -/
def processDropsSpec : ChangeSpec := { name := "processDrops", fn := fun _ => fun
  | [d1, d2, d3] => { results := [.lit (.bool true)], args := [d1, d2, d3] }
  | _ => none }
def processDropsRow : OpenClaim := { program := "ytkdblnejpmbnfaa", sum := "74075b4ab1f55c7e30e3f9dbb6ed44929910734a0b83b4ef0273e37f6020c02a", func := "kaudit/kauditlaw09.ProcessDrops", spec := "processDrops", unfollowed := true, recurses := true, apart := false }
def ProcessDropsSaid : Prop := processDropsRow.holds Try.pinned (OpenSpec.ofChange processDropsSpec)

/-- ITS FALSE NEIGHBOUR: 'it returns false'. Refute it at one input. -/
def processDropsWrong : ChangeSpec := { name := "processDrops", fn := fun _ => fun
  | [d1, d2, d3] => { results := [.lit (.bool false)], args := [d1, d2, d3] }
  | _ => none }
def ProcessDropsWrongFalsely : Prop := processDropsRow.holds Try.pinned (OpenSpec.ofChange processDropsWrong)

/-- 'kauditlaw09.ProcessLogins': WHATEVER THE INPUT: true; the input reads as it did. -/
def processLoginsSpec : ChangeSpec := { name := "processLogins", fn := fun _ => fun
  | [d1, d2] => { results := [.lit (.bool true)], args := [d1, d2] }
  | _ => none }
def processLoginsRow : OpenClaim := { program := "ytkdblnejpmbnfaa", sum := "74075b4ab1f55c7e30e3f9dbb6ed44929910734a0b83b4ef0273e37f6020c02a", func := "kaudit/kauditlaw09.ProcessLogins", spec := "processLogins", unfollowed := true, recurses := true, apart := false }
def ProcessLoginsSaid : Prop := processLoginsRow.holds Try.pinned (OpenSpec.ofChange processLoginsSpec)

/-- ITS FALSE NEIGHBOUR: 'it returns false'. Refute it at one input. -/
def processLoginsWrong : ChangeSpec := { name := "processLogins", fn := fun _ => fun
  | [d1, d2] => { results := [.lit (.bool false)], args := [d1, d2] }
  | _ => none }
def ProcessLoginsWrongFalsely : Prop := processLoginsRow.holds Try.pinned (OpenSpec.ofChange processLoginsWrong)

/-- 'kauditlaw09.ProcessNew': WHATEVER THE INPUT: true; the input reads as it did. -/
def processNewSpec : ChangeSpec := { name := "processNew", fn := fun _ => fun
  | [d] => { results := [.lit (.bool true)], args := [d] }
  | _ => none }
def processNewRow : OpenClaim := { program := "ytkdblnejpmbnfaa", sum := "74075b4ab1f55c7e30e3f9dbb6ed44929910734a0b83b4ef0273e37f6020c02a", func := "kaudit/kauditlaw09.ProcessNew", spec := "processNew", unfollowed := true, recurses := true, apart := false }
def ProcessNewSaid : Prop := processNewRow.holds Try.pinned (OpenSpec.ofChange processNewSpec)

/-- ITS FALSE NEIGHBOUR: 'it returns false'. Refute it at one input. -/
def processNewWrong : ChangeSpec := { name := "processNew", fn := fun _ => fun
  | [d] => { results := [.lit (.bool false)], args := [d] }
  | _ => none }
def ProcessNewWrongFalsely : Prop := processNewRow.holds Try.pinned (OpenSpec.ofChange processNewWrong)

/-- 'kauditlaw09.ProcessKeeps': WHATEVER THE INPUT: true; the input reads as it did. -/
def processKeepsSpec : ChangeSpec := { name := "processKeeps", fn := fun _ => fun
  | [d] => { results := [.lit (.bool true)], args := [d] }
  | _ => none }
def processKeepsRow : OpenClaim := { program := "ytkdblnejpmbnfaa", sum := "74075b4ab1f55c7e30e3f9dbb6ed44929910734a0b83b4ef0273e37f6020c02a", func := "kaudit/kauditlaw09.ProcessKeeps", spec := "processKeeps", unfollowed := true, recurses := true, apart := false }
def ProcessKeepsSaid : Prop := processKeepsRow.holds Try.pinned (OpenSpec.ofChange processKeepsSpec)

/-- ITS FALSE NEIGHBOUR: 'it returns false'. Refute it at one input. -/
def processKeepsWrong : ChangeSpec := { name := "processKeeps", fn := fun _ => fun
  | [d] => { results := [.lit (.bool false)], args := [d] }
  | _ => none }
def ProcessKeepsWrongFalsely : Prop := processKeepsRow.holds Try.pinned (OpenSpec.ofChange processKeepsWrong)

/-- 'kauditlaw09.ProcessDescriptors': WHATEVER THE INPUT: true; the input reads as it did. -/
def processDescriptorsSpec : ChangeSpec := { name := "processDescriptors", fn := fun _ => fun
  | [d] => { results := [.lit (.bool true)], args := [d] }
  | _ => none }
def processDescriptorsRow : OpenClaim := { program := "ytkdblnejpmbnfaa", sum := "74075b4ab1f55c7e30e3f9dbb6ed44929910734a0b83b4ef0273e37f6020c02a", func := "kaudit/kauditlaw09.ProcessDescriptors", spec := "processDescriptors", inPlace := ["slices.overlaps[kaudit/api.Descriptor]"], unfollowed := true, recurses := true, apart := false }
def ProcessDescriptorsSaid : Prop := processDescriptorsRow.holds Try.pinned (OpenSpec.ofChange processDescriptorsSpec)

/-- ITS FALSE NEIGHBOUR: 'it returns false'. Refute it at one input. -/
def processDescriptorsWrong : ChangeSpec := { name := "processDescriptors", fn := fun _ => fun
  | [d] => { results := [.lit (.bool false)], args := [d] }
  | _ => none }
def ProcessDescriptorsWrongFalsely : Prop := processDescriptorsRow.holds Try.pinned (OpenSpec.ofChange processDescriptorsWrong)

/- THE SECOND FORM. 'bulk': how many values and letters a reading holds, each counted each time it is reached (what is shared counts as often as it is met; a slice's spare places count too). A statement '..UptoSaid' is the law's where the arguments, and the package variables that the reading takes, are together of bulk at most 1048576: NARROWER than '..Said'. Prove '..Said' where nothing that the law and all that it calls make is longer than what came in: it says more and counts as full. Else prove '..UptoSaid'. A law counts once. -/
mutual
def uptoBulk {H : Type} : DataW H → Nat
  | .lit (.string bytes) => bytes.length + 1
  | .lit _ => 1
  | .nil => 1
  | .ptr d => uptoBulk d + 1
  | .slice elems spare => uptoBulkAll elems + uptoBulkAll spare + 1
  | .agg parts => uptoBulkAll parts + 1
  | .iface _ d => uptoBulk d + 1
  | .map entries => uptoBulkEntries entries + 1
  | .held _ => 1
def uptoBulkAll {H : Type} : List (DataW H) → Nat
  | [] => 0
  | d :: r => uptoBulk d + uptoBulkAll r
def uptoBulkEntries {H : Type} : List (Lit × DataW H) → Nat
  | [] => 0
  | x :: r => uptoBulkEntry x + uptoBulkEntries r
def uptoBulkEntry {H : Type} : Lit × DataW H → Nat
  | (.string bytes, d) => bytes.length + uptoBulk d + 1
  | (_, d) => uptoBulk d + 1
 end
def uptoSmall : (H : Type) → List (DataW H) → Bool := fun _ ds => decide (uptoBulkAll ds ≤ 1048576)
def OpenSpec.upto (s : _root_.Go.ChangeSpec) : _root_.Go.OpenSpec := { _root_.Go.OpenSpec.ofChange s with cond := some uptoSmall }

/-- 'kauditlaw09.ProcessDrops', WHERE WHAT IT READS IS OF BULK AT MOST 1048576: true; the input reads as it did. -/
def processDropsUptoRow : OpenClaim := { program := "ytkdblnejpmbnfaa", sum := "74075b4ab1f55c7e30e3f9dbb6ed44929910734a0b83b4ef0273e37f6020c02a", func := "kaudit/kauditlaw09.ProcessDrops", spec := "processDrops", unfollowed := true, recurses := true, apart := false, narrowed := true }
def ProcessDropsUptoSaid : Prop := processDropsUptoRow.holds Try.pinned (OpenSpec.upto processDropsSpec)

/-- 'kauditlaw09.ProcessLogins', WHERE WHAT IT READS IS OF BULK AT MOST 1048576: true; the input reads as it did. -/
def processLoginsUptoRow : OpenClaim := { program := "ytkdblnejpmbnfaa", sum := "74075b4ab1f55c7e30e3f9dbb6ed44929910734a0b83b4ef0273e37f6020c02a", func := "kaudit/kauditlaw09.ProcessLogins", spec := "processLogins", unfollowed := true, recurses := true, apart := false, narrowed := true }
def ProcessLoginsUptoSaid : Prop := processLoginsUptoRow.holds Try.pinned (OpenSpec.upto processLoginsSpec)

/-- 'kauditlaw09.ProcessNew', WHERE WHAT IT READS IS OF BULK AT MOST 1048576: true; the input reads as it did. -/
def processNewUptoRow : OpenClaim := { program := "ytkdblnejpmbnfaa", sum := "74075b4ab1f55c7e30e3f9dbb6ed44929910734a0b83b4ef0273e37f6020c02a", func := "kaudit/kauditlaw09.ProcessNew", spec := "processNew", unfollowed := true, recurses := true, apart := false, narrowed := true }
def ProcessNewUptoSaid : Prop := processNewUptoRow.holds Try.pinned (OpenSpec.upto processNewSpec)

/-- 'kauditlaw09.ProcessKeeps', WHERE WHAT IT READS IS OF BULK AT MOST 1048576: true; the input reads as it did. -/
def processKeepsUptoRow : OpenClaim := { program := "ytkdblnejpmbnfaa", sum := "74075b4ab1f55c7e30e3f9dbb6ed44929910734a0b83b4ef0273e37f6020c02a", func := "kaudit/kauditlaw09.ProcessKeeps", spec := "processKeeps", unfollowed := true, recurses := true, apart := false, narrowed := true }
def ProcessKeepsUptoSaid : Prop := processKeepsUptoRow.holds Try.pinned (OpenSpec.upto processKeepsSpec)

/-- 'kauditlaw09.ProcessDescriptors', WHERE WHAT IT READS IS OF BULK AT MOST 1048576: true; the input reads as it did. -/
def processDescriptorsUptoRow : OpenClaim := { program := "ytkdblnejpmbnfaa", sum := "74075b4ab1f55c7e30e3f9dbb6ed44929910734a0b83b4ef0273e37f6020c02a", func := "kaudit/kauditlaw09.ProcessDescriptors", spec := "processDescriptors", inPlace := ["slices.overlaps[kaudit/api.Descriptor]"], unfollowed := true, recurses := true, apart := false, narrowed := true }
def ProcessDescriptorsUptoSaid : Prop := processDescriptorsUptoRow.holds Try.pinned (OpenSpec.upto processDescriptorsSpec)

end Rows
end Go.Proofs.Ytkdblnejpmbnfaa
