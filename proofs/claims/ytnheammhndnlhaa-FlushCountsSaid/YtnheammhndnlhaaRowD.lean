/- What the rows have in common. -/
import Derived.Test.YtnheammhndnlhaaGl
import Derived.Test.YtnheammhndnlhaaLxP
import Derived.Test.YtnheammhndnlhaaRows
import Derived.WalkKit
import Derived.ProofKit
import Derived.OpenShut
import Derived.Deep.DeepHandedRow
namespace Go.Proofs.Ytnheammhndnlhaa
open Go.ChangeShapes Go.WideShapes Go.ChangeAt Go.RowKit Go.Lx
set_option linter.unusedSimpArgs false
set_option linter.unusedVariables false

theorem own : ownKnob Try.prog.godebug = none := by kernel_rfl
theorem laidOut : laidOutB Try.prog = true := by kernel_rfl
theorem glob {M : Imm} : ∀ g cs, gl g = some cs → RCs M g 0 cs := fun _ _ h => by cases h
/-- A world for the witness: the settled one. -/
noncomputable def laidWorld (os : Os) : World := World.holding Try.prog os ⟨#[], #[], []⟩
def tyBool : TypeId := 4
theorem undBool : Try.prog.underlying tyBool = some .bool := Try.underlying4
end Go.Proofs.Ytnheammhndnlhaa
