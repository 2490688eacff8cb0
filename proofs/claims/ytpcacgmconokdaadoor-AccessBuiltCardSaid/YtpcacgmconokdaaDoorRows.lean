/-
  NARROWER THAN 'FOR EVERY INPUT', by the rows' own cells (each row's printed sentence says how): AccessMays: laid · AccessUnion: laid · AccessClass: laid · AccessTexts: laid · AccessBuilt: laid · AccessBack: laid.
  DERIVED. THE GIVEN ROWS OF THIS SEAT. 6 by the template 'for every input the law returns true; each argument reads behind the call as it read before'; 0 by the template 'total and deterministic' (their statements: YtpcacgmconokdaaDoorTotals.lean).
  GIVEN WITH THE SEED: the statements are not yours to turn. If you find one false, say at which input.
  Laid BY PROGRAM, IN A SANDBOX (cutbox-rows.mjs): the forced cells as the released guide's own fill.sh prints them over the translation 4a25e8f010846a01… (all of the seat's roots in one cut). By AI agents, Wed Nov 11 2026. No macro, syntax, notation, axiom, sorry.
-/
import Derived.Test.YtpcacgmconokdaaDoorChecked
import GoSem.Claim
import GoSem.ClaimJoined
import GoSem.ClaimMapViews
import Derived.JoinedTies
import Derived.KernelRfl
namespace Go.Proofs.YtpcacgmconokdaaDoor
/- THE CELL 'sum', in the pinned program and in every row, IS THE sha256 OF THE DUMP (.gsa) THAT YtpcacgmconokdaaDoorProg.lean LOADS. Nothing in Lean hashes anything: it is a label: what it is worth is what the hold of that sum in a sandbox is worth. -/
noncomputable def Tryd.pinned : Pinned := { name := "ytpcacgmconokdaadoor", sum := "4a25e8f010846a01a57f2ed38b93b67ae4d47eef99f3d4d5af2e77ee055903f7", checked := Tryd.checked }
namespace Rows
def none {H : Type} : Left H := { results := [], args := [] }

/- WHAT THE LISTED PACKAGE-LEVEL VARIABLES READ AS WHEN THE CALL BEGINS. Each datum BY PROGRAM (the guide's laid-datum.mjs) off the statement by which the dump's own 'gosem.cut.vars' lays the variable. In a bare row this is a premise. The card (YtpcacgmconokdaaDoorCards.lean) ties it to the program's text. -/
def laid_kaudit_access_letters {H : Type} : DataW H := .agg [.lit (.int .u8 114), .lit (.int .u8 119), .lit (.int .u8 120), .lit (.int .u8 114), .lit (.int .u8 119), .lit (.int .u8 120), .lit (.int .u8 114), .lit (.int .u8 119), .lit (.int .u8 120)]

/-- 'kauditlaw08.AccessMays': WHATEVER THE INPUT: true; the input reads as it did. -/
def accessMaysSpec : ChangeSpec := { name := "accessMays", fn := fun _ => fun
  | [d1, d2, d3, d4] => { results := [.lit (.bool true)], args := [d1, d2, d3, d4] }
  | _ => none }
def accessMaysRow : OpenClaim := { program := "ytpcacgmconokdaadoor", sum := "4a25e8f010846a01a57f2ed38b93b67ae4d47eef99f3d4d5af2e77ee055903f7", func := "kaudit/kauditlaw08.AccessMays", spec := "accessMays", named := ["kaudit/access.letters"], apart := false, laid := [("kaudit/access.letters", laid_kaudit_access_letters)] }
def AccessMaysSaid : Prop := accessMaysRow.holds Tryd.pinned (OpenSpec.ofChange accessMaysSpec)

/-- ITS FALSE NEIGHBOUR: 'it returns false'. Refute it at one input. -/
def accessMaysWrong : ChangeSpec := { name := "accessMays", fn := fun _ => fun
  | [d1, d2, d3, d4] => { results := [.lit (.bool false)], args := [d1, d2, d3, d4] }
  | _ => none }
def AccessMaysWrongFalsely : Prop := accessMaysRow.holds Tryd.pinned (OpenSpec.ofChange accessMaysWrong)

/-- 'kauditlaw08.AccessUnion': WHATEVER THE INPUT: true; the input reads as it did. -/
def accessUnionSpec : ChangeSpec := { name := "accessUnion", fn := fun _ => fun
  | [d1, d2, d3, d4, d5] => { results := [.lit (.bool true)], args := [d1, d2, d3, d4, d5] }
  | _ => none }
def accessUnionRow : OpenClaim := { program := "ytpcacgmconokdaadoor", sum := "4a25e8f010846a01a57f2ed38b93b67ae4d47eef99f3d4d5af2e77ee055903f7", func := "kaudit/kauditlaw08.AccessUnion", spec := "accessUnion", named := ["kaudit/access.letters"], apart := false, laid := [("kaudit/access.letters", laid_kaudit_access_letters)] }
def AccessUnionSaid : Prop := accessUnionRow.holds Tryd.pinned (OpenSpec.ofChange accessUnionSpec)

/-- ITS FALSE NEIGHBOUR: 'it returns false'. Refute it at one input. -/
def accessUnionWrong : ChangeSpec := { name := "accessUnion", fn := fun _ => fun
  | [d1, d2, d3, d4, d5] => { results := [.lit (.bool false)], args := [d1, d2, d3, d4, d5] }
  | _ => none }
def AccessUnionWrongFalsely : Prop := accessUnionRow.holds Tryd.pinned (OpenSpec.ofChange accessUnionWrong)

/-- 'kauditlaw08.AccessClass': WHATEVER THE INPUT: true; the input reads as it did. -/
def accessClassSpec : ChangeSpec := { name := "accessClass", fn := fun _ => fun
  | [d1, d2, d3, d4, d5] => { results := [.lit (.bool true)], args := [d1, d2, d3, d4, d5] }
  | _ => none }
def accessClassRow : OpenClaim := { program := "ytpcacgmconokdaadoor", sum := "4a25e8f010846a01a57f2ed38b93b67ae4d47eef99f3d4d5af2e77ee055903f7", func := "kaudit/kauditlaw08.AccessClass", spec := "accessClass", named := ["kaudit/access.letters"], apart := false, laid := [("kaudit/access.letters", laid_kaudit_access_letters)] }
def AccessClassSaid : Prop := accessClassRow.holds Tryd.pinned (OpenSpec.ofChange accessClassSpec)

/-- ITS FALSE NEIGHBOUR: 'it returns false'. Refute it at one input. -/
def accessClassWrong : ChangeSpec := { name := "accessClass", fn := fun _ => fun
  | [d1, d2, d3, d4, d5] => { results := [.lit (.bool false)], args := [d1, d2, d3, d4, d5] }
  | _ => none }
def AccessClassWrongFalsely : Prop := accessClassRow.holds Tryd.pinned (OpenSpec.ofChange accessClassWrong)

/-- 'kauditlaw08.AccessTexts': WHATEVER THE INPUT: true; the input reads as it did. -/
def accessTextsSpec : ChangeSpec := { name := "accessTexts", fn := fun _ => fun
  | [d1, d2] => { results := [.lit (.bool true)], args := [d1, d2] }
  | _ => none }
def accessTextsRow : OpenClaim := { program := "ytpcacgmconokdaadoor", sum := "4a25e8f010846a01a57f2ed38b93b67ae4d47eef99f3d4d5af2e77ee055903f7", func := "kaudit/kauditlaw08.AccessTexts", spec := "accessTexts", named := ["kaudit/access.letters"], apart := false, laid := [("kaudit/access.letters", laid_kaudit_access_letters)] }
def AccessTextsSaid : Prop := accessTextsRow.holds Tryd.pinned (OpenSpec.ofChange accessTextsSpec)

/-- ITS FALSE NEIGHBOUR: 'it returns false'. Refute it at one input. -/
def accessTextsWrong : ChangeSpec := { name := "accessTexts", fn := fun _ => fun
  | [d1, d2] => { results := [.lit (.bool false)], args := [d1, d2] }
  | _ => none }
def AccessTextsWrongFalsely : Prop := accessTextsRow.holds Tryd.pinned (OpenSpec.ofChange accessTextsWrong)

/-- 'kauditlaw08.AccessBuilt': WHATEVER THE INPUT: true; the input reads as it did. -/
def accessBuiltSpec : ChangeSpec := { name := "accessBuilt", fn := fun _ => fun
  | [d1, d2, d3] => { results := [.lit (.bool true)], args := [d1, d2, d3] }
  | _ => none }
def accessBuiltRow : OpenClaim := { program := "ytpcacgmconokdaadoor", sum := "4a25e8f010846a01a57f2ed38b93b67ae4d47eef99f3d4d5af2e77ee055903f7", func := "kaudit/kauditlaw08.AccessBuilt", spec := "accessBuilt", named := ["kaudit/access.letters"], apart := false, laid := [("kaudit/access.letters", laid_kaudit_access_letters)] }
def AccessBuiltSaid : Prop := accessBuiltRow.holds Tryd.pinned (OpenSpec.ofChange accessBuiltSpec)

/-- ITS FALSE NEIGHBOUR: 'it returns false'. Refute it at one input. -/
def accessBuiltWrong : ChangeSpec := { name := "accessBuilt", fn := fun _ => fun
  | [d1, d2, d3] => { results := [.lit (.bool false)], args := [d1, d2, d3] }
  | _ => none }
def AccessBuiltWrongFalsely : Prop := accessBuiltRow.holds Tryd.pinned (OpenSpec.ofChange accessBuiltWrong)

/-- 'kauditlaw08.AccessBack': WHATEVER THE INPUT: true; the input reads as it did. -/
def accessBackSpec : ChangeSpec := { name := "accessBack", fn := fun _ => fun
  | [d] => { results := [.lit (.bool true)], args := [d] }
  | _ => none }
def accessBackRow : OpenClaim := { program := "ytpcacgmconokdaadoor", sum := "4a25e8f010846a01a57f2ed38b93b67ae4d47eef99f3d4d5af2e77ee055903f7", func := "kaudit/kauditlaw08.AccessBack", spec := "accessBack", named := ["kaudit/access.letters"], apart := false, laid := [("kaudit/access.letters", laid_kaudit_access_letters)] }
def AccessBackSaid : Prop := accessBackRow.holds Tryd.pinned (OpenSpec.ofChange accessBackSpec)

/-- ITS FALSE NEIGHBOUR: 'it returns false'. Refute it at one input. -/
def accessBackWrong : ChangeSpec := { name := "accessBack", fn := fun _ => fun
  | [d] => { results := [.lit (.bool false)], args := [d] }
  | _ => none }
def AccessBackWrongFalsely : Prop := accessBackRow.holds Tryd.pinned (OpenSpec.ofChange accessBackWrong)

/- THE SECOND FORM. 'bulk': how many values and letters a reading holds, each counted each time it is reached (what is shared counts as often as it is met; a slice's spare places count too). A statement '..UptoSaid' is the law's where the arguments, and the package variables that the reading takes, are together of bulk at most 1048576: NARROWER than '..Said'. Prove '..Said' where nothing that the law and all that it calls make is longer than what came in: it says more and counts as full. Else prove '..UptoSaid'. A law counts once. -/
mutual
def uptoBulk {H : Type} : DataW H → Nat
  | .lit (.string bytes) => bytes.length + 1
  | .lit _ => 1
  | .nil => 1
  | .ptr d => uptoBulk d + 1
  | .slice elems spare => uptoBulkAll elems + uptoBulkAll spare + 1
  | .agg parts => uptoBulkAll parts + 1
  | .iface _ d => uptoBulk d + 1
  | .map entries => uptoBulkEntries entries + 1
  | .held _ => 1
def uptoBulkAll {H : Type} : List (DataW H) → Nat
  | [] => 0
  | d :: r => uptoBulk d + uptoBulkAll r
def uptoBulkEntries {H : Type} : List (Lit × DataW H) → Nat
  | [] => 0
  | x :: r => uptoBulkEntry x + uptoBulkEntries r
def uptoBulkEntry {H : Type} : Lit × DataW H → Nat
  | (.string bytes, d) => bytes.length + uptoBulk d + 1
  | (_, d) => uptoBulk d + 1
 end
def uptoSmall : (H : Type) → List (DataW H) → Bool := fun _ ds => decide (uptoBulkAll ds ≤ 1048576)
def OpenSpec.upto (s : _root_.Go.ChangeSpec) : _root_.Go.OpenSpec := { _root_.Go.OpenSpec.ofChange s with cond := some uptoSmall }

/-- 'kauditlaw08.AccessMays', WHERE WHAT IT READS IS OF BULK AT MOST 1048576: true; the input reads as it did. -/
def accessMaysUptoRow : OpenClaim := { program := "ytpcacgmconokdaadoor", sum := "4a25e8f010846a01a57f2ed38b93b67ae4d47eef99f3d4d5af2e77ee055903f7", func := "kaudit/kauditlaw08.AccessMays", spec := "accessMays", named := ["kaudit/access.letters"], apart := false, laid := [("kaudit/access.letters", laid_kaudit_access_letters)], narrowed := true }
def AccessMaysUptoSaid : Prop := accessMaysUptoRow.holds Tryd.pinned (OpenSpec.upto accessMaysSpec)

/-- 'kauditlaw08.AccessUnion', WHERE WHAT IT READS IS OF BULK AT MOST 1048576: true; the input reads as it did. -/
def accessUnionUptoRow : OpenClaim := { program := "ytpcacgmconokdaadoor", sum := "4a25e8f010846a01a57f2ed38b93b67ae4d47eef99f3d4d5af2e77ee055903f7", func := "kaudit/kauditlaw08.AccessUnion", spec := "accessUnion", named := ["kaudit/access.letters"], apart := false, laid := [("kaudit/access.letters", laid_kaudit_access_letters)], narrowed := true }
def AccessUnionUptoSaid : Prop := accessUnionUptoRow.holds Tryd.pinned (OpenSpec.upto accessUnionSpec)

/-- 'kauditlaw08.AccessClass', WHERE WHAT IT READS IS OF BULK AT MOST 1048576: true; the input reads as it did. -/
def accessClassUptoRow : OpenClaim := { program := "ytpcacgmconokdaadoor", sum := "4a25e8f010846a01a57f2ed38b93b67ae4d47eef99f3d4d5af2e77ee055903f7", func := "kaudit/kauditlaw08.AccessClass", spec := "accessClass", named := ["kaudit/access.letters"], apart := false, laid := [("kaudit/access.letters", laid_kaudit_access_letters)], narrowed := true }
def AccessClassUptoSaid : Prop := accessClassUptoRow.holds Tryd.pinned (OpenSpec.upto accessClassSpec)

/-- 'kauditlaw08.AccessTexts', WHERE WHAT IT READS IS OF BULK AT MOST 1048576: true; the input reads as it did. -/
def accessTextsUptoRow : OpenClaim := { program := "ytpcacgmconokdaadoor", sum := "4a25e8f010846a01a57f2ed38b93b67ae4d47eef99f3d4d5af2e77ee055903f7", func := "kaudit/kauditlaw08.AccessTexts", spec := "accessTexts", named := ["kaudit/access.letters"], apart := false, laid := [("kaudit/access.letters", laid_kaudit_access_letters)], narrowed := true }
def AccessTextsUptoSaid : Prop := accessTextsUptoRow.holds Tryd.pinned (OpenSpec.upto accessTextsSpec)

/-- 'kauditlaw08.AccessBuilt', WHERE WHAT IT READS IS OF BULK AT MOST 1048576: true; the input reads as it did. -/
def accessBuiltUptoRow : OpenClaim := { program := "ytpcacgmconokdaadoor", sum := "4a25e8f010846a01a57f2ed38b93b67ae4d47eef99f3d4d5af2e77ee055903f7", func := "kaudit/kauditlaw08.AccessBuilt", spec := "accessBuilt", named := ["kaudit/access.letters"], apart := false, laid := [("kaudit/access.letters", laid_kaudit_access_letters)], narrowed := true }
def AccessBuiltUptoSaid : Prop := accessBuiltUptoRow.holds Tryd.pinned (OpenSpec.upto accessBuiltSpec)

/-- 'kauditlaw08.AccessBack', WHERE WHAT IT READS IS OF BULK AT MOST 1048576: true; the input reads as it did. -/
def accessBackUptoRow : OpenClaim := { program := "ytpcacgmconokdaadoor", sum := "4a25e8f010846a01a57f2ed38b93b67ae4d47eef99f3d4d5af2e77ee055903f7", func := "kaudit/kauditlaw08.AccessBack", spec := "accessBack", named := ["kaudit/access.letters"], apart := false, laid := [("kaudit/access.letters", laid_kaudit_access_letters)], narrowed := true }
def AccessBackUptoSaid : Prop := accessBackUptoRow.holds Tryd.pinned (OpenSpec.upto accessBackSpec)

end Rows
end Go.Proofs.YtpcacgmconokdaaDoor
