/-
  No cell of these rows narrows 'for every input' (looked for: loops, veiled, ifaces, maps, wideKeys, modest, calm, conditions, laid).
  DERIVED. THE GIVEN ROWS OF THIS SEAT. 6 by the template 'for every input the law returns true; each argument reads behind the call as it read before'; 0 by the template 'total and deterministic' (their statements: YtmggjfbcjmenlaaTotals.lean).
  GIVEN WITH THE SEED: the statements are not yours to turn. If you find one false, say at which input.
  Laid BY PROGRAM, IN A SANDBOX (cutbox-rows.mjs): the forced cells as the released guide's own fill.sh prints them over the translation e7ff9ecfbbcddfa2… (all of the seat's roots in one cut). By AI agents, Wed Nov 11 2026. No macro, syntax, notation, axiom, sorry.
-/
import Derived.Test.YtmggjfbcjmenlaaChecked
import GoSem.Claim
import GoSem.ClaimJoined
import GoSem.ClaimMapViews
import Derived.JoinedTies
import Derived.KernelRfl
namespace Go.Proofs.Ytmggjfbcjmenlaa
/- THE CELL 'sum', in the pinned program and in every row, IS THE sha256 OF THE DUMP (.gsa) THAT YtmggjfbcjmenlaaProg.lean LOADS. Nothing in Lean hashes anything: it is a label: what it is worth is what the hold of that sum in a sandbox is worth. -/
noncomputable def Try.pinned : Pinned := { name := "ytmggjfbcjmenlaa", sum := "e7ff9ecfbbcddfa2d8d153b8c3a955cb06f1de154484853c4585b41f29d9c650", checked := Try.checked }
namespace Rows
def none {H : Type} : Left H := { results := [], args := [] }

/-- 'kauditlaw15.TableRaw': WHATEVER THE INPUT: true; the input reads as it did. -/
def tableRawSpec : ChangeSpec := { name := "tableRaw", fn := fun _ => fun
  | [d1, d2] => { results := [.lit (.bool true)], args := [d1, d2] }
  | _ => none }
def tableRawRow : OpenClaim := { program := "ytmggjfbcjmenlaa", sum := "e7ff9ecfbbcddfa2d8d153b8c3a955cb06f1de154484853c4585b41f29d9c650", func := "kaudit/kauditlaw15.TableRaw", spec := "tableRaw", apart := false }
def TableRawSaid : Prop := tableRawRow.holds Try.pinned (OpenSpec.ofChange tableRawSpec)

/-- ITS FALSE NEIGHBOUR: 'it returns false'. Refute it at one input. -/
def tableRawWrong : ChangeSpec := { name := "tableRaw", fn := fun _ => fun
  | [d1, d2] => { results := [.lit (.bool false)], args := [d1, d2] }
  | _ => none }
def TableRawWrongFalsely : Prop := tableRawRow.holds Try.pinned (OpenSpec.ofChange tableRawWrong)

/-- 'kauditlaw15.TableBuilt': WHATEVER THE INPUT: true; the input reads as it did. -/
def tableBuiltSpec : ChangeSpec := { name := "tableBuilt", fn := fun _ => fun
  | [d] => { results := [.lit (.bool true)], args := [d] }
  | _ => none }
def tableBuiltRow : OpenClaim := { program := "ytmggjfbcjmenlaa", sum := "e7ff9ecfbbcddfa2d8d153b8c3a955cb06f1de154484853c4585b41f29d9c650", func := "kaudit/kauditlaw15.TableBuilt", spec := "tableBuilt", apart := false }
def TableBuiltSaid : Prop := tableBuiltRow.holds Try.pinned (OpenSpec.ofChange tableBuiltSpec)

/-- ITS FALSE NEIGHBOUR: 'it returns false'. Refute it at one input. -/
def tableBuiltWrong : ChangeSpec := { name := "tableBuilt", fn := fun _ => fun
  | [d] => { results := [.lit (.bool false)], args := [d] }
  | _ => none }
def TableBuiltWrongFalsely : Prop := tableBuiltRow.holds Try.pinned (OpenSpec.ofChange tableBuiltWrong)

/-- 'kauditlaw15.TableRows': WHATEVER THE INPUT: true; the input reads as it did. -/
def tableRowsSpec : ChangeSpec := { name := "tableRows", fn := fun _ => fun
  | [d1, d2] => { results := [.lit (.bool true)], args := [d1, d2] }
  | _ => none }
def tableRowsRow : OpenClaim := { program := "ytmggjfbcjmenlaa", sum := "e7ff9ecfbbcddfa2d8d153b8c3a955cb06f1de154484853c4585b41f29d9c650", func := "kaudit/kauditlaw15.TableRows", spec := "tableRows", apart := false }
def TableRowsSaid : Prop := tableRowsRow.holds Try.pinned (OpenSpec.ofChange tableRowsSpec)

/-- ITS FALSE NEIGHBOUR: 'it returns false'. Refute it at one input. -/
def tableRowsWrong : ChangeSpec := { name := "tableRows", fn := fun _ => fun
  | [d1, d2] => { results := [.lit (.bool false)], args := [d1, d2] }
  | _ => none }
def TableRowsWrongFalsely : Prop := tableRowsRow.holds Try.pinned (OpenSpec.ofChange tableRowsWrong)

/-- 'kauditlaw15.TableQuick': WHATEVER THE INPUT: true; the input reads as it did. -/
def tableQuickSpec : ChangeSpec := { name := "tableQuick", fn := fun _ => fun
  | [d1, d2] => { results := [.lit (.bool true)], args := [d1, d2] }
  | _ => none }
def tableQuickRow : OpenClaim := { program := "ytmggjfbcjmenlaa", sum := "e7ff9ecfbbcddfa2d8d153b8c3a955cb06f1de154484853c4585b41f29d9c650", func := "kaudit/kauditlaw15.TableQuick", spec := "tableQuick", apart := false }
def TableQuickSaid : Prop := tableQuickRow.holds Try.pinned (OpenSpec.ofChange tableQuickSpec)

/-- ITS FALSE NEIGHBOUR: 'it returns false'. Refute it at one input. -/
def tableQuickWrong : ChangeSpec := { name := "tableQuick", fn := fun _ => fun
  | [d1, d2] => { results := [.lit (.bool false)], args := [d1, d2] }
  | _ => none }
def TableQuickWrongFalsely : Prop := tableQuickRow.holds Try.pinned (OpenSpec.ofChange tableQuickWrong)

/-- 'kauditlaw15.TableFirst': WHATEVER THE INPUT: true; the input reads as it did. -/
def tableFirstSpec : ChangeSpec := { name := "tableFirst", fn := fun _ => fun
  | [d1, d2, d3] => { results := [.lit (.bool true)], args := [d1, d2, d3] }
  | _ => none }
def tableFirstRow : OpenClaim := { program := "ytmggjfbcjmenlaa", sum := "e7ff9ecfbbcddfa2d8d153b8c3a955cb06f1de154484853c4585b41f29d9c650", func := "kaudit/kauditlaw15.TableFirst", spec := "tableFirst", apart := false }
def TableFirstSaid : Prop := tableFirstRow.holds Try.pinned (OpenSpec.ofChange tableFirstSpec)

/-- ITS FALSE NEIGHBOUR: 'it returns false'. Refute it at one input. -/
def tableFirstWrong : ChangeSpec := { name := "tableFirst", fn := fun _ => fun
  | [d1, d2, d3] => { results := [.lit (.bool false)], args := [d1, d2, d3] }
  | _ => none }
def TableFirstWrongFalsely : Prop := tableFirstRow.holds Try.pinned (OpenSpec.ofChange tableFirstWrong)

/-- 'kauditlaw15.TableDecides': WHATEVER THE INPUT: true; the input reads as it did. -/
def tableDecidesSpec : ChangeSpec := { name := "tableDecides", fn := fun _ => fun
  | [d1, d2] => { results := [.lit (.bool true)], args := [d1, d2] }
  | _ => none }
def tableDecidesRow : OpenClaim := { program := "ytmggjfbcjmenlaa", sum := "e7ff9ecfbbcddfa2d8d153b8c3a955cb06f1de154484853c4585b41f29d9c650", func := "kaudit/kauditlaw15.TableDecides", spec := "tableDecides", apart := false }
def TableDecidesSaid : Prop := tableDecidesRow.holds Try.pinned (OpenSpec.ofChange tableDecidesSpec)

/-- ITS FALSE NEIGHBOUR: 'it returns false'. Refute it at one input. -/
def tableDecidesWrong : ChangeSpec := { name := "tableDecides", fn := fun _ => fun
  | [d1, d2] => { results := [.lit (.bool false)], args := [d1, d2] }
  | _ => none }
def TableDecidesWrongFalsely : Prop := tableDecidesRow.holds Try.pinned (OpenSpec.ofChange tableDecidesWrong)

/- THE SECOND FORM. 'bulk': how many values and letters a reading holds, each counted each time it is reached (what is shared counts as often as it is met; a slice's spare places count too). A statement '..UptoSaid' is the law's where the arguments, and the package variables that the reading takes, are together of bulk at most 1048576: NARROWER than '..Said'. Prove '..Said' where nothing that the law and all that it calls make is longer than what came in: it says more and counts as full. Else prove '..UptoSaid'. A law counts once. -/
mutual
def uptoBulk {H : Type} : DataW H → Nat
  | .lit (.string bytes) => bytes.length + 1
  | .lit _ => 1
  | .nil => 1
  | .ptr d => uptoBulk d + 1
  | .slice elems spare => uptoBulkAll elems + uptoBulkAll spare + 1
  | .agg parts => uptoBulkAll parts + 1
  | .iface _ d => uptoBulk d + 1
  | .map entries => uptoBulkEntries entries + 1
  | .held _ => 1
def uptoBulkAll {H : Type} : List (DataW H) → Nat
  | [] => 0
  | d :: r => uptoBulk d + uptoBulkAll r
def uptoBulkEntries {H : Type} : List (Lit × DataW H) → Nat
  | [] => 0
  | x :: r => uptoBulkEntry x + uptoBulkEntries r
def uptoBulkEntry {H : Type} : Lit × DataW H → Nat
  | (.string bytes, d) => bytes.length + uptoBulk d + 1
  | (_, d) => uptoBulk d + 1
 end
def uptoSmall : (H : Type) → List (DataW H) → Bool := fun _ ds => decide (uptoBulkAll ds ≤ 1048576)
def OpenSpec.upto (s : _root_.Go.ChangeSpec) : _root_.Go.OpenSpec := { _root_.Go.OpenSpec.ofChange s with cond := some uptoSmall }

/-- 'kauditlaw15.TableRaw', WHERE WHAT IT READS IS OF BULK AT MOST 1048576: true; the input reads as it did. -/
def tableRawUptoRow : OpenClaim := { program := "ytmggjfbcjmenlaa", sum := "e7ff9ecfbbcddfa2d8d153b8c3a955cb06f1de154484853c4585b41f29d9c650", func := "kaudit/kauditlaw15.TableRaw", spec := "tableRaw", apart := false, narrowed := true }
def TableRawUptoSaid : Prop := tableRawUptoRow.holds Try.pinned (OpenSpec.upto tableRawSpec)

/-- 'kauditlaw15.TableBuilt', WHERE WHAT IT READS IS OF BULK AT MOST 1048576: true; the input reads as it did. -/
def tableBuiltUptoRow : OpenClaim := { program := "ytmggjfbcjmenlaa", sum := "e7ff9ecfbbcddfa2d8d153b8c3a955cb06f1de154484853c4585b41f29d9c650", func := "kaudit/kauditlaw15.TableBuilt", spec := "tableBuilt", apart := false, narrowed := true }
def TableBuiltUptoSaid : Prop := tableBuiltUptoRow.holds Try.pinned (OpenSpec.upto tableBuiltSpec)

/-- 'kauditlaw15.TableRows', WHERE WHAT IT READS IS OF BULK AT MOST 1048576: true; the input reads as it did. -/
def tableRowsUptoRow : OpenClaim := { program := "ytmggjfbcjmenlaa", sum := "e7ff9ecfbbcddfa2d8d153b8c3a955cb06f1de154484853c4585b41f29d9c650", func := "kaudit/kauditlaw15.TableRows", spec := "tableRows", apart := false, narrowed := true }
def TableRowsUptoSaid : Prop := tableRowsUptoRow.holds Try.pinned (OpenSpec.upto tableRowsSpec)

/-- 'kauditlaw15.TableQuick', WHERE WHAT IT READS IS OF BULK AT MOST 1048576: true; the input reads as it did. -/
def tableQuickUptoRow : OpenClaim := { program := "ytmggjfbcjmenlaa", sum := "e7ff9ecfbbcddfa2d8d153b8c3a955cb06f1de154484853c4585b41f29d9c650", func := "kaudit/kauditlaw15.TableQuick", spec := "tableQuick", apart := false, narrowed := true }
def TableQuickUptoSaid : Prop := tableQuickUptoRow.holds Try.pinned (OpenSpec.upto tableQuickSpec)

/-- 'kauditlaw15.TableFirst', WHERE WHAT IT READS IS OF BULK AT MOST 1048576: true; the input reads as it did. -/
def tableFirstUptoRow : OpenClaim := { program := "ytmggjfbcjmenlaa", sum := "e7ff9ecfbbcddfa2d8d153b8c3a955cb06f1de154484853c4585b41f29d9c650", func := "kaudit/kauditlaw15.TableFirst", spec := "tableFirst", apart := false, narrowed := true }
def TableFirstUptoSaid : Prop := tableFirstUptoRow.holds Try.pinned (OpenSpec.upto tableFirstSpec)

/-- 'kauditlaw15.TableDecides', WHERE WHAT IT READS IS OF BULK AT MOST 1048576: true; the input reads as it did. -/
def tableDecidesUptoRow : OpenClaim := { program := "ytmggjfbcjmenlaa", sum := "e7ff9ecfbbcddfa2d8d153b8c3a955cb06f1de154484853c4585b41f29d9c650", func := "kaudit/kauditlaw15.TableDecides", spec := "tableDecides", apart := false, narrowed := true }
def TableDecidesUptoSaid : Prop := tableDecidesUptoRow.holds Try.pinned (OpenSpec.upto tableDecidesSpec)

end Rows
end Go.Proofs.Ytmggjfbcjmenlaa
