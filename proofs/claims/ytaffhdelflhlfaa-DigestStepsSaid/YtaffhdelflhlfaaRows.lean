/-
  No cell of these rows narrows 'for every input' (looked for: loops, veiled, ifaces, maps, wideKeys, modest, calm, conditions, laid).
  DERIVED. THE GIVEN ROWS OF THIS SEAT. 6 by the template 'for every input the law returns true; each argument reads behind the call as it read before'; 0 by the template 'total and deterministic' (their statements: YtaffhdelflhlfaaTotals.lean).
  GIVEN WITH THE SEED: the statements are not yours to turn. If you find one false, say at which input.
  Laid BY PROGRAM, IN A SANDBOX (cutbox-rows.mjs): the forced cells as the released guide's own fill.sh prints them over the translation f64fd8723f26d01a… (all of the seat's roots in one cut). By AI agents, Wed Nov 11 2026. No macro, syntax, notation, axiom, sorry.
-/
import Derived.Test.YtaffhdelflhlfaaChecked
import GoSem.Claim
import GoSem.ClaimJoined
import GoSem.ClaimMapViews
import Derived.JoinedTies
import Derived.KernelRfl
namespace Go.Proofs.Ytaffhdelflhlfaa
/- THE CELL 'sum', in the pinned program and in every row, IS THE sha256 OF THE DUMP (.gsa) THAT YtaffhdelflhlfaaProg.lean LOADS. Nothing in Lean hashes anything: it is a label: what it is worth is what the hold of that sum in a sandbox is worth. -/
noncomputable def Try.pinned : Pinned := { name := "ytaffhdelflhlfaa", sum := "f64fd8723f26d01adae8da3f20e5c8d66f4bc32174a78b74721d624cf8827fbb", checked := Try.checked }
namespace Rows
def none {H : Type} : Left H := { results := [], args := [] }

/-- 'kauditlaw23.DigestSums': WHATEVER THE INPUT: true; the input reads as it did. -/
def digestSumsSpec : ChangeSpec := { name := "digestSums", fn := fun _ => fun
  | [d1, d2, d3] => { results := [.lit (.bool true)], args := [d1, d2, d3] }
  | _ => none }
def digestSumsRow : OpenClaim := { program := "ytaffhdelflhlfaa", sum := "f64fd8723f26d01adae8da3f20e5c8d66f4bc32174a78b74721d624cf8827fbb", func := "kaudit/kauditlaw23.DigestSums", spec := "digestSums", apart := false }
def DigestSumsSaid : Prop := digestSumsRow.holds Try.pinned (OpenSpec.ofChange digestSumsSpec)

/-- ITS FALSE NEIGHBOUR: 'it returns false'. Refute it at one input. -/
def digestSumsWrong : ChangeSpec := { name := "digestSums", fn := fun _ => fun
  | [d1, d2, d3] => { results := [.lit (.bool false)], args := [d1, d2, d3] }
  | _ => none }
def DigestSumsWrongFalsely : Prop := digestSumsRow.holds Try.pinned (OpenSpec.ofChange digestSumsWrong)

/-- 'kauditlaw23.DigestChains': WHATEVER THE INPUT: true; the input reads as it did. -/
def digestChainsSpec : ChangeSpec := { name := "digestChains", fn := fun _ => fun
  | [d1, d2, d3] => { results := [.lit (.bool true)], args := [d1, d2, d3] }
  | _ => none }
def digestChainsRow : OpenClaim := { program := "ytaffhdelflhlfaa", sum := "f64fd8723f26d01adae8da3f20e5c8d66f4bc32174a78b74721d624cf8827fbb", func := "kaudit/kauditlaw23.DigestChains", spec := "digestChains", apart := false }
def DigestChainsSaid : Prop := digestChainsRow.holds Try.pinned (OpenSpec.ofChange digestChainsSpec)

/-- ITS FALSE NEIGHBOUR: 'it returns false'. Refute it at one input. -/
def digestChainsWrong : ChangeSpec := { name := "digestChains", fn := fun _ => fun
  | [d1, d2, d3] => { results := [.lit (.bool false)], args := [d1, d2, d3] }
  | _ => none }
def DigestChainsWrongFalsely : Prop := digestChainsRow.holds Try.pinned (OpenSpec.ofChange digestChainsWrong)

/-- 'kauditlaw23.DigestSteps': WHATEVER THE INPUT: true; the input reads as it did. -/
def digestStepsSpec : ChangeSpec := { name := "digestSteps", fn := fun _ => fun
  | [d1, d2, d3] => { results := [.lit (.bool true)], args := [d1, d2, d3] }
  | _ => none }
def digestStepsRow : OpenClaim := { program := "ytaffhdelflhlfaa", sum := "f64fd8723f26d01adae8da3f20e5c8d66f4bc32174a78b74721d624cf8827fbb", func := "kaudit/kauditlaw23.DigestSteps", spec := "digestSteps", apart := false }
def DigestStepsSaid : Prop := digestStepsRow.holds Try.pinned (OpenSpec.ofChange digestStepsSpec)

/-- ITS FALSE NEIGHBOUR: 'it returns false'. Refute it at one input. -/
def digestStepsWrong : ChangeSpec := { name := "digestSteps", fn := fun _ => fun
  | [d1, d2, d3] => { results := [.lit (.bool false)], args := [d1, d2, d3] }
  | _ => none }
def DigestStepsWrongFalsely : Prop := digestStepsRow.holds Try.pinned (OpenSpec.ofChange digestStepsWrong)

/-- 'kauditlaw23.DigestBytes': WHATEVER THE INPUT: true; the input reads as it did. -/
def digestBytesSpec : ChangeSpec := { name := "digestBytes", fn := fun _ => fun
  | [d1, d2] => { results := [.lit (.bool true)], args := [d1, d2] }
  | _ => none }
def digestBytesRow : OpenClaim := { program := "ytaffhdelflhlfaa", sum := "f64fd8723f26d01adae8da3f20e5c8d66f4bc32174a78b74721d624cf8827fbb", func := "kaudit/kauditlaw23.DigestBytes", spec := "digestBytes", apart := false }
def DigestBytesSaid : Prop := digestBytesRow.holds Try.pinned (OpenSpec.ofChange digestBytesSpec)

/-- ITS FALSE NEIGHBOUR: 'it returns false'. Refute it at one input. -/
def digestBytesWrong : ChangeSpec := { name := "digestBytes", fn := fun _ => fun
  | [d1, d2] => { results := [.lit (.bool false)], args := [d1, d2] }
  | _ => none }
def DigestBytesWrongFalsely : Prop := digestBytesRow.holds Try.pinned (OpenSpec.ofChange digestBytesWrong)

/-- 'kauditlaw23.DigestKeys': WHATEVER THE INPUT: true; the input reads as it did. -/
def digestKeysSpec : ChangeSpec := { name := "digestKeys", fn := fun _ => fun
  | [d1, d2, d3, d4] => { results := [.lit (.bool true)], args := [d1, d2, d3, d4] }
  | _ => none }
def digestKeysRow : OpenClaim := { program := "ytaffhdelflhlfaa", sum := "f64fd8723f26d01adae8da3f20e5c8d66f4bc32174a78b74721d624cf8827fbb", func := "kaudit/kauditlaw23.DigestKeys", spec := "digestKeys", apart := false }
def DigestKeysSaid : Prop := digestKeysRow.holds Try.pinned (OpenSpec.ofChange digestKeysSpec)

/-- ITS FALSE NEIGHBOUR: 'it returns false'. Refute it at one input. -/
def digestKeysWrong : ChangeSpec := { name := "digestKeys", fn := fun _ => fun
  | [d1, d2, d3, d4] => { results := [.lit (.bool false)], args := [d1, d2, d3, d4] }
  | _ => none }
def DigestKeysWrongFalsely : Prop := digestKeysRow.holds Try.pinned (OpenSpec.ofChange digestKeysWrong)

/-- 'kauditlaw23.DigestTexts': WHATEVER THE INPUT: true; the input reads as it did. -/
def digestTextsSpec : ChangeSpec := { name := "digestTexts", fn := fun _ => fun
  | [d1, d2] => { results := [.lit (.bool true)], args := [d1, d2] }
  | _ => none }
def digestTextsRow : OpenClaim := { program := "ytaffhdelflhlfaa", sum := "f64fd8723f26d01adae8da3f20e5c8d66f4bc32174a78b74721d624cf8827fbb", func := "kaudit/kauditlaw23.DigestTexts", spec := "digestTexts", apart := false }
def DigestTextsSaid : Prop := digestTextsRow.holds Try.pinned (OpenSpec.ofChange digestTextsSpec)

/-- ITS FALSE NEIGHBOUR: 'it returns false'. Refute it at one input. -/
def digestTextsWrong : ChangeSpec := { name := "digestTexts", fn := fun _ => fun
  | [d1, d2] => { results := [.lit (.bool false)], args := [d1, d2] }
  | _ => none }
def DigestTextsWrongFalsely : Prop := digestTextsRow.holds Try.pinned (OpenSpec.ofChange digestTextsWrong)

/- THE SECOND FORM. 'bulk': how many values and letters a reading holds, each counted each time it is reached (what is shared counts as often as it is met; a slice's spare places count too). A statement '..UptoSaid' is the law's where the arguments, and the package variables that the reading takes, are together of bulk at most 1048576: NARROWER than '..Said'. Prove '..Said' where nothing that the law and all that it calls make is longer than what came in: it says more and counts as full. Else prove '..UptoSaid'. A law counts once. -/
mutual
def uptoBulk {H : Type} : DataW H → Nat
  | .lit (.string bytes) => bytes.length + 1
  | .lit _ => 1
  | .nil => 1
  | .ptr d => uptoBulk d + 1
  | .slice elems spare => uptoBulkAll elems + uptoBulkAll spare + 1
  | .agg parts => uptoBulkAll parts + 1
  | .iface _ d => uptoBulk d + 1
  | .map entries => uptoBulkEntries entries + 1
  | .held _ => 1
def uptoBulkAll {H : Type} : List (DataW H) → Nat
  | [] => 0
  | d :: r => uptoBulk d + uptoBulkAll r
def uptoBulkEntries {H : Type} : List (Lit × DataW H) → Nat
  | [] => 0
  | x :: r => uptoBulkEntry x + uptoBulkEntries r
def uptoBulkEntry {H : Type} : Lit × DataW H → Nat
  | (.string bytes, d) => bytes.length + uptoBulk d + 1
  | (_, d) => uptoBulk d + 1
 end
def uptoSmall : (H : Type) → List (DataW H) → Bool := fun _ ds => decide (uptoBulkAll ds ≤ 1048576)
def OpenSpec.upto (s : _root_.Go.ChangeSpec) : _root_.Go.OpenSpec := { _root_.Go.OpenSpec.ofChange s with cond := some uptoSmall }

/-- 'kauditlaw23.DigestSums', WHERE WHAT IT READS IS OF BULK AT MOST 1048576: true; the input reads as it did. -/
def digestSumsUptoRow : OpenClaim := { program := "ytaffhdelflhlfaa", sum := "f64fd8723f26d01adae8da3f20e5c8d66f4bc32174a78b74721d624cf8827fbb", func := "kaudit/kauditlaw23.DigestSums", spec := "digestSums", apart := false, narrowed := true }
def DigestSumsUptoSaid : Prop := digestSumsUptoRow.holds Try.pinned (OpenSpec.upto digestSumsSpec)

/-- 'kauditlaw23.DigestChains', WHERE WHAT IT READS IS OF BULK AT MOST 1048576: true; the input reads as it did. -/
def digestChainsUptoRow : OpenClaim := { program := "ytaffhdelflhlfaa", sum := "f64fd8723f26d01adae8da3f20e5c8d66f4bc32174a78b74721d624cf8827fbb", func := "kaudit/kauditlaw23.DigestChains", spec := "digestChains", apart := false, narrowed := true }
def DigestChainsUptoSaid : Prop := digestChainsUptoRow.holds Try.pinned (OpenSpec.upto digestChainsSpec)

/-- 'kauditlaw23.DigestSteps', WHERE WHAT IT READS IS OF BULK AT MOST 1048576: true; the input reads as it did. -/
def digestStepsUptoRow : OpenClaim := { program := "ytaffhdelflhlfaa", sum := "f64fd8723f26d01adae8da3f20e5c8d66f4bc32174a78b74721d624cf8827fbb", func := "kaudit/kauditlaw23.DigestSteps", spec := "digestSteps", apart := false, narrowed := true }
def DigestStepsUptoSaid : Prop := digestStepsUptoRow.holds Try.pinned (OpenSpec.upto digestStepsSpec)

/-- 'kauditlaw23.DigestBytes', WHERE WHAT IT READS IS OF BULK AT MOST 1048576: true; the input reads as it did. -/
def digestBytesUptoRow : OpenClaim := { program := "ytaffhdelflhlfaa", sum := "f64fd8723f26d01adae8da3f20e5c8d66f4bc32174a78b74721d624cf8827fbb", func := "kaudit/kauditlaw23.DigestBytes", spec := "digestBytes", apart := false, narrowed := true }
def DigestBytesUptoSaid : Prop := digestBytesUptoRow.holds Try.pinned (OpenSpec.upto digestBytesSpec)

/-- 'kauditlaw23.DigestKeys', WHERE WHAT IT READS IS OF BULK AT MOST 1048576: true; the input reads as it did. -/
def digestKeysUptoRow : OpenClaim := { program := "ytaffhdelflhlfaa", sum := "f64fd8723f26d01adae8da3f20e5c8d66f4bc32174a78b74721d624cf8827fbb", func := "kaudit/kauditlaw23.DigestKeys", spec := "digestKeys", apart := false, narrowed := true }
def DigestKeysUptoSaid : Prop := digestKeysUptoRow.holds Try.pinned (OpenSpec.upto digestKeysSpec)

/-- 'kauditlaw23.DigestTexts', WHERE WHAT IT READS IS OF BULK AT MOST 1048576: true; the input reads as it did. -/
def digestTextsUptoRow : OpenClaim := { program := "ytaffhdelflhlfaa", sum := "f64fd8723f26d01adae8da3f20e5c8d66f4bc32174a78b74721d624cf8827fbb", func := "kaudit/kauditlaw23.DigestTexts", spec := "digestTexts", apart := false, narrowed := true }
def DigestTextsUptoSaid : Prop := digestTextsUptoRow.holds Try.pinned (OpenSpec.upto digestTextsSpec)

end Rows
end Go.Proofs.Ytaffhdelflhlfaa
