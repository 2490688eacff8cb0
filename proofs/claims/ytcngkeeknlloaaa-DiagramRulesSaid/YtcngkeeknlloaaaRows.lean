/-
  No cell of these rows narrows 'for every input' (looked for: loops, veiled, ifaces, maps, wideKeys, modest, calm, conditions, laid).
  DERIVED. THE GIVEN ROWS OF THIS SEAT. 8 by the template 'for every input the law returns true; each argument reads behind the call as it read before'; 0 by the template 'total and deterministic' (their statements: YtcngkeeknlloaaaTotals.lean).
  GIVEN WITH THE SEED: the statements are not yours to turn. If you find one false, say at which input.
  Laid BY PROGRAM, IN A SANDBOX (cutbox-rows.mjs): the forced cells as the released guide's own fill.sh prints them over the translation 00da06a2f319650d… (all of the seat's roots in one cut). By AI agents, Wed Nov 11 2026. No macro, syntax, notation, axiom, sorry.
-/
import Derived.Test.YtcngkeeknlloaaaChecked
import GoSem.Claim
import GoSem.ClaimJoined
import GoSem.ClaimMapViews
import Derived.JoinedTies
import Derived.KernelRfl
namespace Go.Proofs.Ytcngkeeknlloaaa
/- THE CELL 'sum', in the pinned program and in every row, IS THE sha256 OF THE DUMP (.gsa) THAT YtcngkeeknlloaaaProg.lean LOADS. Nothing in Lean hashes anything: it is a label: what it is worth is what the hold of that sum in a sandbox is worth. -/
noncomputable def Try.pinned : Pinned := { name := "ytcngkeeknlloaaa", sum := "00da06a2f319650d9af89972c1aeb45047ebfc9d42543b20f677c72e30206901", checked := Try.checked }
namespace Rows
def none {H : Type} : Left H := { results := [], args := [] }

/-- 'kauditlaw16.DiagramBuilt': WHATEVER THE INPUT: true; the input reads as it did. -/
def diagramBuiltSpec : ChangeSpec := { name := "diagramBuilt", fn := fun _ => fun
  | [d] => { results := [.lit (.bool true)], args := [d] }
  | _ => none }
def diagramBuiltRow : OpenClaim := { program := "ytcngkeeknlloaaa", sum := "00da06a2f319650d9af89972c1aeb45047ebfc9d42543b20f677c72e30206901", func := "kaudit/kauditlaw16.DiagramBuilt", spec := "diagramBuilt", unfollowed := true, recurses := true, plainKeys := false, apart := false }
def DiagramBuiltSaid : Prop := diagramBuiltRow.holds Try.pinned (OpenSpec.ofChange diagramBuiltSpec)

/-- ITS FALSE NEIGHBOUR: 'it returns false'. Refute it at one input. -/
def diagramBuiltWrong : ChangeSpec := { name := "diagramBuilt", fn := fun _ => fun
  | [d] => { results := [.lit (.bool false)], args := [d] }
  | _ => none }
def DiagramBuiltWrongFalsely : Prop := diagramBuiltRow.holds Try.pinned (OpenSpec.ofChange diagramBuiltWrong)

/-- 'kauditlaw16.DiagramRaw': WHATEVER THE INPUT: true; the input reads as it did. -/
def diagramRawSpec : ChangeSpec := { name := "diagramRaw", fn := fun _ => fun
  | [d1, d2] => { results := [.lit (.bool true)], args := [d1, d2] }
  | _ => none }
def diagramRawRow : OpenClaim := { program := "ytcngkeeknlloaaa", sum := "00da06a2f319650d9af89972c1aeb45047ebfc9d42543b20f677c72e30206901", func := "kaudit/kauditlaw16.DiagramRaw", spec := "diagramRaw", unfollowed := true, recurses := true, plainKeys := false, apart := false }
def DiagramRawSaid : Prop := diagramRawRow.holds Try.pinned (OpenSpec.ofChange diagramRawSpec)

/-- ITS FALSE NEIGHBOUR: 'it returns false'. Refute it at one input. -/
def diagramRawWrong : ChangeSpec := { name := "diagramRaw", fn := fun _ => fun
  | [d1, d2] => { results := [.lit (.bool false)], args := [d1, d2] }
  | _ => none }
def DiagramRawWrongFalsely : Prop := diagramRawRow.holds Try.pinned (OpenSpec.ofChange diagramRawWrong)

/-- 'kauditlaw16.DiagramLimits': WHATEVER THE INPUT: true; the input reads as it did. -/
def diagramLimitsSpec : ChangeSpec := { name := "diagramLimits", fn := fun _ => fun
  | [d1, d2] => { results := [.lit (.bool true)], args := [d1, d2] }
  | _ => none }
def diagramLimitsRow : OpenClaim := { program := "ytcngkeeknlloaaa", sum := "00da06a2f319650d9af89972c1aeb45047ebfc9d42543b20f677c72e30206901", func := "kaudit/kauditlaw16.DiagramLimits", spec := "diagramLimits", unfollowed := true, recurses := true, plainKeys := false, apart := false }
def DiagramLimitsSaid : Prop := diagramLimitsRow.holds Try.pinned (OpenSpec.ofChange diagramLimitsSpec)

/-- ITS FALSE NEIGHBOUR: 'it returns false'. Refute it at one input. -/
def diagramLimitsWrong : ChangeSpec := { name := "diagramLimits", fn := fun _ => fun
  | [d1, d2] => { results := [.lit (.bool false)], args := [d1, d2] }
  | _ => none }
def DiagramLimitsWrongFalsely : Prop := diagramLimitsRow.holds Try.pinned (OpenSpec.ofChange diagramLimitsWrong)

/-- 'kauditlaw16.DiagramValid': WHATEVER THE INPUT: true; the input reads as it did. -/
def diagramValidSpec : ChangeSpec := { name := "diagramValid", fn := fun _ => fun
  | [d1, d2, d3] => { results := [.lit (.bool true)], args := [d1, d2, d3] }
  | _ => none }
def diagramValidRow : OpenClaim := { program := "ytcngkeeknlloaaa", sum := "00da06a2f319650d9af89972c1aeb45047ebfc9d42543b20f677c72e30206901", func := "kaudit/kauditlaw16.DiagramValid", spec := "diagramValid", unfollowed := true, recurses := true, plainKeys := false, apart := false }
def DiagramValidSaid : Prop := diagramValidRow.holds Try.pinned (OpenSpec.ofChange diagramValidSpec)

/-- ITS FALSE NEIGHBOUR: 'it returns false'. Refute it at one input. -/
def diagramValidWrong : ChangeSpec := { name := "diagramValid", fn := fun _ => fun
  | [d1, d2, d3] => { results := [.lit (.bool false)], args := [d1, d2, d3] }
  | _ => none }
def DiagramValidWrongFalsely : Prop := diagramValidRow.holds Try.pinned (OpenSpec.ofChange diagramValidWrong)

/-- 'kauditlaw16.DiagramDecides': WHATEVER THE INPUT: true; the input reads as it did. -/
def diagramDecidesSpec : ChangeSpec := { name := "diagramDecides", fn := fun _ => fun
  | [d] => { results := [.lit (.bool true)], args := [d] }
  | _ => none }
def diagramDecidesRow : OpenClaim := { program := "ytcngkeeknlloaaa", sum := "00da06a2f319650d9af89972c1aeb45047ebfc9d42543b20f677c72e30206901", func := "kaudit/kauditlaw16.DiagramDecides", spec := "diagramDecides", unfollowed := true, recurses := true, plainKeys := false, apart := false }
def DiagramDecidesSaid : Prop := diagramDecidesRow.holds Try.pinned (OpenSpec.ofChange diagramDecidesSpec)

/-- ITS FALSE NEIGHBOUR: 'it returns false'. Refute it at one input. -/
def diagramDecidesWrong : ChangeSpec := { name := "diagramDecides", fn := fun _ => fun
  | [d] => { results := [.lit (.bool false)], args := [d] }
  | _ => none }
def DiagramDecidesWrongFalsely : Prop := diagramDecidesRow.holds Try.pinned (OpenSpec.ofChange diagramDecidesWrong)

/-- 'kauditlaw16.DiagramCanonical': WHATEVER THE INPUT: true; the input reads as it did. -/
def diagramCanonicalSpec : ChangeSpec := { name := "diagramCanonical", fn := fun _ => fun
  | [d] => { results := [.lit (.bool true)], args := [d] }
  | _ => none }
def diagramCanonicalRow : OpenClaim := { program := "ytcngkeeknlloaaa", sum := "00da06a2f319650d9af89972c1aeb45047ebfc9d42543b20f677c72e30206901", func := "kaudit/kauditlaw16.DiagramCanonical", spec := "diagramCanonical", unfollowed := true, recurses := true, plainKeys := false, apart := false }
def DiagramCanonicalSaid : Prop := diagramCanonicalRow.holds Try.pinned (OpenSpec.ofChange diagramCanonicalSpec)

/-- ITS FALSE NEIGHBOUR: 'it returns false'. Refute it at one input. -/
def diagramCanonicalWrong : ChangeSpec := { name := "diagramCanonical", fn := fun _ => fun
  | [d] => { results := [.lit (.bool false)], args := [d] }
  | _ => none }
def DiagramCanonicalWrongFalsely : Prop := diagramCanonicalRow.holds Try.pinned (OpenSpec.ofChange diagramCanonicalWrong)

/-- 'kauditlaw16.DiagramRules': WHATEVER THE INPUT: true; the input reads as it did. -/
def diagramRulesSpec : ChangeSpec := { name := "diagramRules", fn := fun _ => fun
  | [d1, d2] => { results := [.lit (.bool true)], args := [d1, d2] }
  | _ => none }
def diagramRulesRow : OpenClaim := { program := "ytcngkeeknlloaaa", sum := "00da06a2f319650d9af89972c1aeb45047ebfc9d42543b20f677c72e30206901", func := "kaudit/kauditlaw16.DiagramRules", spec := "diagramRules", unfollowed := true, recurses := true, plainKeys := false, apart := false }
def DiagramRulesSaid : Prop := diagramRulesRow.holds Try.pinned (OpenSpec.ofChange diagramRulesSpec)

/-- ITS FALSE NEIGHBOUR: 'it returns false'. Refute it at one input. -/
def diagramRulesWrong : ChangeSpec := { name := "diagramRules", fn := fun _ => fun
  | [d1, d2] => { results := [.lit (.bool false)], args := [d1, d2] }
  | _ => none }
def DiagramRulesWrongFalsely : Prop := diagramRulesRow.holds Try.pinned (OpenSpec.ofChange diagramRulesWrong)

/-- 'kauditlaw16.DiagramAnswers': WHATEVER THE INPUT: true; the input reads as it did. -/
def diagramAnswersSpec : ChangeSpec := { name := "diagramAnswers", fn := fun _ => fun
  | [d1, d2] => { results := [.lit (.bool true)], args := [d1, d2] }
  | _ => none }
def diagramAnswersRow : OpenClaim := { program := "ytcngkeeknlloaaa", sum := "00da06a2f319650d9af89972c1aeb45047ebfc9d42543b20f677c72e30206901", func := "kaudit/kauditlaw16.DiagramAnswers", spec := "diagramAnswers", unfollowed := true, recurses := true, plainKeys := false, apart := false }
def DiagramAnswersSaid : Prop := diagramAnswersRow.holds Try.pinned (OpenSpec.ofChange diagramAnswersSpec)

/-- ITS FALSE NEIGHBOUR: 'it returns false'. Refute it at one input. -/
def diagramAnswersWrong : ChangeSpec := { name := "diagramAnswers", fn := fun _ => fun
  | [d1, d2] => { results := [.lit (.bool false)], args := [d1, d2] }
  | _ => none }
def DiagramAnswersWrongFalsely : Prop := diagramAnswersRow.holds Try.pinned (OpenSpec.ofChange diagramAnswersWrong)

/- THE SECOND FORM. 'bulk': how many values and letters a reading holds, each counted each time it is reached (what is shared counts as often as it is met; a slice's spare places count too). A statement '..UptoSaid' is the law's where the arguments, and the package variables that the reading takes, are together of bulk at most 1048576: NARROWER than '..Said'. Prove '..Said' where nothing that the law and all that it calls make is longer than what came in: it says more and counts as full. Else prove '..UptoSaid'. A law counts once. -/
mutual
def uptoBulk {H : Type} : DataW H → Nat
  | .lit (.string bytes) => bytes.length + 1
  | .lit _ => 1
  | .nil => 1
  | .ptr d => uptoBulk d + 1
  | .slice elems spare => uptoBulkAll elems + uptoBulkAll spare + 1
  | .agg parts => uptoBulkAll parts + 1
  | .iface _ d => uptoBulk d + 1
  | .map entries => uptoBulkEntries entries + 1
  | .held _ => 1
def uptoBulkAll {H : Type} : List (DataW H) → Nat
  | [] => 0
  | d :: r => uptoBulk d + uptoBulkAll r
def uptoBulkEntries {H : Type} : List (Lit × DataW H) → Nat
  | [] => 0
  | x :: r => uptoBulkEntry x + uptoBulkEntries r
def uptoBulkEntry {H : Type} : Lit × DataW H → Nat
  | (.string bytes, d) => bytes.length + uptoBulk d + 1
  | (_, d) => uptoBulk d + 1
 end
def uptoSmall : (H : Type) → List (DataW H) → Bool := fun _ ds => decide (uptoBulkAll ds ≤ 1048576)
def OpenSpec.upto (s : _root_.Go.ChangeSpec) : _root_.Go.OpenSpec := { _root_.Go.OpenSpec.ofChange s with cond := some uptoSmall }

/-- 'kauditlaw16.DiagramBuilt', WHERE WHAT IT READS IS OF BULK AT MOST 1048576: true; the input reads as it did. -/
def diagramBuiltUptoRow : OpenClaim := { program := "ytcngkeeknlloaaa", sum := "00da06a2f319650d9af89972c1aeb45047ebfc9d42543b20f677c72e30206901", func := "kaudit/kauditlaw16.DiagramBuilt", spec := "diagramBuilt", unfollowed := true, recurses := true, plainKeys := false, apart := false, narrowed := true }
def DiagramBuiltUptoSaid : Prop := diagramBuiltUptoRow.holds Try.pinned (OpenSpec.upto diagramBuiltSpec)

/-- 'kauditlaw16.DiagramRaw', WHERE WHAT IT READS IS OF BULK AT MOST 1048576: true; the input reads as it did. -/
def diagramRawUptoRow : OpenClaim := { program := "ytcngkeeknlloaaa", sum := "00da06a2f319650d9af89972c1aeb45047ebfc9d42543b20f677c72e30206901", func := "kaudit/kauditlaw16.DiagramRaw", spec := "diagramRaw", unfollowed := true, recurses := true, plainKeys := false, apart := false, narrowed := true }
def DiagramRawUptoSaid : Prop := diagramRawUptoRow.holds Try.pinned (OpenSpec.upto diagramRawSpec)

/-- 'kauditlaw16.DiagramLimits', WHERE WHAT IT READS IS OF BULK AT MOST 1048576: true; the input reads as it did. -/
def diagramLimitsUptoRow : OpenClaim := { program := "ytcngkeeknlloaaa", sum := "00da06a2f319650d9af89972c1aeb45047ebfc9d42543b20f677c72e30206901", func := "kaudit/kauditlaw16.DiagramLimits", spec := "diagramLimits", unfollowed := true, recurses := true, plainKeys := false, apart := false, narrowed := true }
def DiagramLimitsUptoSaid : Prop := diagramLimitsUptoRow.holds Try.pinned (OpenSpec.upto diagramLimitsSpec)

/-- 'kauditlaw16.DiagramValid', WHERE WHAT IT READS IS OF BULK AT MOST 1048576: true; the input reads as it did. -/
def diagramValidUptoRow : OpenClaim := { program := "ytcngkeeknlloaaa", sum := "00da06a2f319650d9af89972c1aeb45047ebfc9d42543b20f677c72e30206901", func := "kaudit/kauditlaw16.DiagramValid", spec := "diagramValid", unfollowed := true, recurses := true, plainKeys := false, apart := false, narrowed := true }
def DiagramValidUptoSaid : Prop := diagramValidUptoRow.holds Try.pinned (OpenSpec.upto diagramValidSpec)

/-- 'kauditlaw16.DiagramDecides', WHERE WHAT IT READS IS OF BULK AT MOST 1048576: true; the input reads as it did. -/
def diagramDecidesUptoRow : OpenClaim := { program := "ytcngkeeknlloaaa", sum := "00da06a2f319650d9af89972c1aeb45047ebfc9d42543b20f677c72e30206901", func := "kaudit/kauditlaw16.DiagramDecides", spec := "diagramDecides", unfollowed := true, recurses := true, plainKeys := false, apart := false, narrowed := true }
def DiagramDecidesUptoSaid : Prop := diagramDecidesUptoRow.holds Try.pinned (OpenSpec.upto diagramDecidesSpec)

/-- 'kauditlaw16.DiagramCanonical', WHERE WHAT IT READS IS OF BULK AT MOST 1048576: true; the input reads as it did. -/
def diagramCanonicalUptoRow : OpenClaim := { program := "ytcngkeeknlloaaa", sum := "00da06a2f319650d9af89972c1aeb45047ebfc9d42543b20f677c72e30206901", func := "kaudit/kauditlaw16.DiagramCanonical", spec := "diagramCanonical", unfollowed := true, recurses := true, plainKeys := false, apart := false, narrowed := true }
def DiagramCanonicalUptoSaid : Prop := diagramCanonicalUptoRow.holds Try.pinned (OpenSpec.upto diagramCanonicalSpec)

/-- 'kauditlaw16.DiagramRules', WHERE WHAT IT READS IS OF BULK AT MOST 1048576: true; the input reads as it did. -/
def diagramRulesUptoRow : OpenClaim := { program := "ytcngkeeknlloaaa", sum := "00da06a2f319650d9af89972c1aeb45047ebfc9d42543b20f677c72e30206901", func := "kaudit/kauditlaw16.DiagramRules", spec := "diagramRules", unfollowed := true, recurses := true, plainKeys := false, apart := false, narrowed := true }
def DiagramRulesUptoSaid : Prop := diagramRulesUptoRow.holds Try.pinned (OpenSpec.upto diagramRulesSpec)

/-- 'kauditlaw16.DiagramAnswers', WHERE WHAT IT READS IS OF BULK AT MOST 1048576: true; the input reads as it did. -/
def diagramAnswersUptoRow : OpenClaim := { program := "ytcngkeeknlloaaa", sum := "00da06a2f319650d9af89972c1aeb45047ebfc9d42543b20f677c72e30206901", func := "kaudit/kauditlaw16.DiagramAnswers", spec := "diagramAnswers", unfollowed := true, recurses := true, plainKeys := false, apart := false, narrowed := true }
def DiagramAnswersUptoSaid : Prop := diagramAnswersUptoRow.holds Try.pinned (OpenSpec.upto diagramAnswersSpec)

end Rows
end Go.Proofs.Ytcngkeeknlloaaa
