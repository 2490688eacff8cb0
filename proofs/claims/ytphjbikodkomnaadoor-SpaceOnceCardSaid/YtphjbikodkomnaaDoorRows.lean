/-
  NARROWER THAN 'FOR EVERY INPUT', by the rows' own cells (each row's printed sentence says how): SpaceLooks: laid · SpaceOnce: laid · SpaceNames: laid · SpaceDeeper: laid.
  DERIVED. THE GIVEN ROWS OF THIS SEAT. 4 by the template 'for every input the law returns true; each argument reads behind the call as it read before'; 0 by the template 'total and deterministic' (their statements: YtphjbikodkomnaaDoorTotals.lean).
  GIVEN WITH THE SEED: the statements are not yours to turn. If you find one false, say at which input.
  Laid BY PROGRAM, IN A SANDBOX (cutbox-rows.mjs): the forced cells as the released guide's own fill.sh prints them over the translation b18771cdb1ded79b… (all of the seat's roots in one cut). By AI agents, Wed Nov 11 2026. No macro, syntax, notation, axiom, sorry.
-/
import Derived.Test.YtphjbikodkomnaaDoorChecked
import GoSem.Claim
import GoSem.ClaimJoined
import GoSem.ClaimMapViews
import Derived.JoinedTies
import Derived.KernelRfl
namespace Go.Proofs.YtphjbikodkomnaaDoor
/- THE CELL 'sum', in the pinned program and in every row, IS THE sha256 OF THE DUMP (.gsa) THAT YtphjbikodkomnaaDoorProg.lean LOADS. Nothing in Lean hashes anything: it is a label: what it is worth is what the hold of that sum in a sandbox is worth. -/
noncomputable def Tryd.pinned : Pinned := { name := "ytphjbikodkomnaadoor", sum := "b18771cdb1ded79b7bd3ce5b31f142f624ac283a37d771fae0c398901b497f76", checked := Tryd.checked }
namespace Rows
def none {H : Type} : Left H := { results := [], args := [] }

/- WHAT THE LISTED PACKAGE-LEVEL VARIABLES READ AS WHEN THE CALL BEGINS. Each datum BY PROGRAM (the guide's laid-datum.mjs) off the statement by which the dump's own 'gosem.cut.vars' lays the variable. In a bare row this is a premise. The card (YtphjbikodkomnaaDoorCards.lean) ties it to the program's text. -/
def laid_kaudit_space_names {H : Type} : DataW H := .agg [.lit (.string []), .lit (.string [105, 103, 110, 111, 114, 101]), .lit (.string [114, 101, 112, 111, 114, 116]), .lit (.string [114, 111, 116, 97, 116, 101]), .lit (.string [115, 117, 115, 112, 101, 110, 100]), .lit (.string [104, 97, 108, 116])]

/-- 'kauditlaw27.SpaceLooks': WHATEVER THE INPUT: true; the input reads as it did. -/
def spaceLooksSpec : ChangeSpec := { name := "spaceLooks", fn := fun _ => fun
  | [d1, d2, d3, d4] => { results := [.lit (.bool true)], args := [d1, d2, d3, d4] }
  | _ => none }
def spaceLooksRow : OpenClaim := { program := "ytphjbikodkomnaadoor", sum := "b18771cdb1ded79b7bd3ce5b31f142f624ac283a37d771fae0c398901b497f76", func := "kaudit/kauditlaw27.SpaceLooks", spec := "spaceLooks", named := ["kaudit/space.names"], apart := false, laid := [("kaudit/space.names", laid_kaudit_space_names)] }
def SpaceLooksSaid : Prop := spaceLooksRow.holds Tryd.pinned (OpenSpec.ofChange spaceLooksSpec)

/-- ITS FALSE NEIGHBOUR: 'it returns false'. Refute it at one input. -/
def spaceLooksWrong : ChangeSpec := { name := "spaceLooks", fn := fun _ => fun
  | [d1, d2, d3, d4] => { results := [.lit (.bool false)], args := [d1, d2, d3, d4] }
  | _ => none }
def SpaceLooksWrongFalsely : Prop := spaceLooksRow.holds Tryd.pinned (OpenSpec.ofChange spaceLooksWrong)

/-- 'kauditlaw27.SpaceOnce': WHATEVER THE INPUT: true; the input reads as it did. -/
def spaceOnceSpec : ChangeSpec := { name := "spaceOnce", fn := fun _ => fun
  | [d] => { results := [.lit (.bool true)], args := [d] }
  | _ => none }
def spaceOnceRow : OpenClaim := { program := "ytphjbikodkomnaadoor", sum := "b18771cdb1ded79b7bd3ce5b31f142f624ac283a37d771fae0c398901b497f76", func := "kaudit/kauditlaw27.SpaceOnce", spec := "spaceOnce", named := ["kaudit/space.names"], apart := false, laid := [("kaudit/space.names", laid_kaudit_space_names)] }
def SpaceOnceSaid : Prop := spaceOnceRow.holds Tryd.pinned (OpenSpec.ofChange spaceOnceSpec)

/-- ITS FALSE NEIGHBOUR: 'it returns false'. Refute it at one input. -/
def spaceOnceWrong : ChangeSpec := { name := "spaceOnce", fn := fun _ => fun
  | [d] => { results := [.lit (.bool false)], args := [d] }
  | _ => none }
def SpaceOnceWrongFalsely : Prop := spaceOnceRow.holds Tryd.pinned (OpenSpec.ofChange spaceOnceWrong)

/-- 'kauditlaw27.SpaceNames': WHATEVER THE INPUT: true; the input reads as it did. -/
def spaceNamesSpec : ChangeSpec := { name := "spaceNames", fn := fun _ => fun
  | [d] => { results := [.lit (.bool true)], args := [d] }
  | _ => none }
def spaceNamesRow : OpenClaim := { program := "ytphjbikodkomnaadoor", sum := "b18771cdb1ded79b7bd3ce5b31f142f624ac283a37d771fae0c398901b497f76", func := "kaudit/kauditlaw27.SpaceNames", spec := "spaceNames", named := ["kaudit/space.names"], apart := false, laid := [("kaudit/space.names", laid_kaudit_space_names)] }
def SpaceNamesSaid : Prop := spaceNamesRow.holds Tryd.pinned (OpenSpec.ofChange spaceNamesSpec)

/-- ITS FALSE NEIGHBOUR: 'it returns false'. Refute it at one input. -/
def spaceNamesWrong : ChangeSpec := { name := "spaceNames", fn := fun _ => fun
  | [d] => { results := [.lit (.bool false)], args := [d] }
  | _ => none }
def SpaceNamesWrongFalsely : Prop := spaceNamesRow.holds Tryd.pinned (OpenSpec.ofChange spaceNamesWrong)

/-- 'kauditlaw27.SpaceDeeper': WHATEVER THE INPUT: true; the input reads as it did. -/
def spaceDeeperSpec : ChangeSpec := { name := "spaceDeeper", fn := fun _ => fun
  | [d1, d2, d3] => { results := [.lit (.bool true)], args := [d1, d2, d3] }
  | _ => none }
def spaceDeeperRow : OpenClaim := { program := "ytphjbikodkomnaadoor", sum := "b18771cdb1ded79b7bd3ce5b31f142f624ac283a37d771fae0c398901b497f76", func := "kaudit/kauditlaw27.SpaceDeeper", spec := "spaceDeeper", named := ["kaudit/space.names"], apart := false, laid := [("kaudit/space.names", laid_kaudit_space_names)] }
def SpaceDeeperSaid : Prop := spaceDeeperRow.holds Tryd.pinned (OpenSpec.ofChange spaceDeeperSpec)

/-- ITS FALSE NEIGHBOUR: 'it returns false'. Refute it at one input. -/
def spaceDeeperWrong : ChangeSpec := { name := "spaceDeeper", fn := fun _ => fun
  | [d1, d2, d3] => { results := [.lit (.bool false)], args := [d1, d2, d3] }
  | _ => none }
def SpaceDeeperWrongFalsely : Prop := spaceDeeperRow.holds Tryd.pinned (OpenSpec.ofChange spaceDeeperWrong)

/- THE SECOND FORM. 'bulk': how many values and letters a reading holds, each counted each time it is reached (what is shared counts as often as it is met; a slice's spare places count too). A statement '..UptoSaid' is the law's where the arguments, and the package variables that the reading takes, are together of bulk at most 1048576: NARROWER than '..Said'. Prove '..Said' where nothing that the law and all that it calls make is longer than what came in: it says more and counts as full. Else prove '..UptoSaid'. A law counts once. -/
mutual
def uptoBulk {H : Type} : DataW H → Nat
  | .lit (.string bytes) => bytes.length + 1
  | .lit _ => 1
  | .nil => 1
  | .ptr d => uptoBulk d + 1
  | .slice elems spare => uptoBulkAll elems + uptoBulkAll spare + 1
  | .agg parts => uptoBulkAll parts + 1
  | .iface _ d => uptoBulk d + 1
  | .map entries => uptoBulkEntries entries + 1
  | .held _ => 1
def uptoBulkAll {H : Type} : List (DataW H) → Nat
  | [] => 0
  | d :: r => uptoBulk d + uptoBulkAll r
def uptoBulkEntries {H : Type} : List (Lit × DataW H) → Nat
  | [] => 0
  | x :: r => uptoBulkEntry x + uptoBulkEntries r
def uptoBulkEntry {H : Type} : Lit × DataW H → Nat
  | (.string bytes, d) => bytes.length + uptoBulk d + 1
  | (_, d) => uptoBulk d + 1
 end
def uptoSmall : (H : Type) → List (DataW H) → Bool := fun _ ds => decide (uptoBulkAll ds ≤ 1048576)
def OpenSpec.upto (s : _root_.Go.ChangeSpec) : _root_.Go.OpenSpec := { _root_.Go.OpenSpec.ofChange s with cond := some uptoSmall }

/-- 'kauditlaw27.SpaceLooks', WHERE WHAT IT READS IS OF BULK AT MOST 1048576: true; the input reads as it did. -/
def spaceLooksUptoRow : OpenClaim := { program := "ytphjbikodkomnaadoor", sum := "b18771cdb1ded79b7bd3ce5b31f142f624ac283a37d771fae0c398901b497f76", func := "kaudit/kauditlaw27.SpaceLooks", spec := "spaceLooks", named := ["kaudit/space.names"], apart := false, laid := [("kaudit/space.names", laid_kaudit_space_names)], narrowed := true }
def SpaceLooksUptoSaid : Prop := spaceLooksUptoRow.holds Tryd.pinned (OpenSpec.upto spaceLooksSpec)

/-- 'kauditlaw27.SpaceOnce', WHERE WHAT IT READS IS OF BULK AT MOST 1048576: true; the input reads as it did. -/
def spaceOnceUptoRow : OpenClaim := { program := "ytphjbikodkomnaadoor", sum := "b18771cdb1ded79b7bd3ce5b31f142f624ac283a37d771fae0c398901b497f76", func := "kaudit/kauditlaw27.SpaceOnce", spec := "spaceOnce", named := ["kaudit/space.names"], apart := false, laid := [("kaudit/space.names", laid_kaudit_space_names)], narrowed := true }
def SpaceOnceUptoSaid : Prop := spaceOnceUptoRow.holds Tryd.pinned (OpenSpec.upto spaceOnceSpec)

/-- 'kauditlaw27.SpaceNames', WHERE WHAT IT READS IS OF BULK AT MOST 1048576: true; the input reads as it did. -/
def spaceNamesUptoRow : OpenClaim := { program := "ytphjbikodkomnaadoor", sum := "b18771cdb1ded79b7bd3ce5b31f142f624ac283a37d771fae0c398901b497f76", func := "kaudit/kauditlaw27.SpaceNames", spec := "spaceNames", named := ["kaudit/space.names"], apart := false, laid := [("kaudit/space.names", laid_kaudit_space_names)], narrowed := true }
def SpaceNamesUptoSaid : Prop := spaceNamesUptoRow.holds Tryd.pinned (OpenSpec.upto spaceNamesSpec)

/-- 'kauditlaw27.SpaceDeeper', WHERE WHAT IT READS IS OF BULK AT MOST 1048576: true; the input reads as it did. -/
def spaceDeeperUptoRow : OpenClaim := { program := "ytphjbikodkomnaadoor", sum := "b18771cdb1ded79b7bd3ce5b31f142f624ac283a37d771fae0c398901b497f76", func := "kaudit/kauditlaw27.SpaceDeeper", spec := "spaceDeeper", named := ["kaudit/space.names"], apart := false, laid := [("kaudit/space.names", laid_kaudit_space_names)], narrowed := true }
def SpaceDeeperUptoSaid : Prop := spaceDeeperUptoRow.holds Tryd.pinned (OpenSpec.upto spaceDeeperSpec)

end Rows
end Go.Proofs.YtphjbikodkomnaaDoor
