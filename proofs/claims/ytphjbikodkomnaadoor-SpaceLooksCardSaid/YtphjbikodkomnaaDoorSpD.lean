/- Layer 27: what the rows have in common. -/
import Derived.Test.YtphjbikodkomnaaDoorGl
import Derived.Test.YtphjbikodkomnaaDoorLxQ
import Derived.Test.YtphjbikodkomnaaDoorCards
import Derived.Test.YtphjbikodkomnaaDoorTie
import Derived.WalkKit
import Derived.ProofKit
import Derived.OpenShut
import Derived.Deep.DeepHandedRow
namespace Go.Proofs.YtphjbikodkomnaaDoor
open Go.ChangeShapes Go.WideShapes Go.ChangeAt Go.RowKit Go.Lx
set_option linter.unusedSimpArgs false
set_option linter.unusedVariables false

theorem own : ownKnob Tryd.prog.godebug = none := by kernel_rfl
theorem laidOut : laidOutB Tryd.prog = true := by kernel_rfl
theorem gTab : Tryd.prog.globalNamed "kaudit/space.names" = some 0 := by kernel_rfl
def tyTab : TypeId := 57
def tyStr : TypeId := 9
theorem gTabType : (Tryd.prog.globals[0]?).map (·.type) = some tyTab := by kernel_rfl
theorem cellsT : Tryd.prog.cellsOf tyTab = 6 := by kernel_rfl
theorem cellsS : Tryd.prog.cellsOf tyStr = 1 := by kernel_rfl
def tyBool : TypeId := 4
theorem undBool : Tryd.prog.underlying tyBool = some .bool := Tryd.underlying4

/-- The table, as the engine wants it. -/
theorem glob {W : World} (h : laidMetH Tryd.prog [("kaudit/space.names", Rows.laid_kaudit_space_names)] W) : ∀ g cs, gl g = some cs → RCs (M0 W) g 0 cs := by
  intro g cs hg
  unfold gl at hg
  split at hg
  case isFalse => cases hg
  rename_i e
  subst e
  cases hg
  have c (i : Nat) (hi : i < 6) := strs_of_head (ss := [nm 0, nm 1, nm 2, nm 3, nm 4, nm 5]) (rest := []) gTab gTabType (show Tryd.prog.underlying tyTab = _ from Tryd.underlying57) (show Tryd.prog.underlying tyStr = _ from Tryd.underlying9) cellsS cellsT h i hi
  simp only [names, RCs, RV, and_true]
  exact ⟨⟨_, M0_some (c 0 (by omega)) rfl, rfl⟩, ⟨_, M0_some (c 1 (by omega)) rfl, rfl⟩, ⟨_, M0_some (c 2 (by omega)) rfl, rfl⟩, ⟨_, M0_some (c 3 (by omega)) rfl, rfl⟩, ⟨_, M0_some (c 4 (by omega)) rfl, rfl⟩, ⟨_, M0_some (c 5 (by omega)) rfl, rfl⟩⟩

/-- A world for the witness: the settled one, the table (block 0) holding what its initialiser lays. -/
noncomputable def laidWorld (os : Os) : World :=
  { World.holding Tryd.prog os ⟨#[], #[], []⟩ with heap := (World.holding Tryd.prog os ⟨#[], #[], []⟩).heap.modify 0 fun
      | .cells _ t frozen => .cells #[.string ⟨#[]⟩, .string ⟨#[105, 103, 110, 111, 114, 101]⟩, .string ⟨#[114, 101, 112, 111, 114, 116]⟩, .string ⟨#[114, 111, 116, 97, 116, 101]⟩, .string ⟨#[115, 117, 115, 112, 101, 110, 100]⟩, .string ⟨#[104, 97, 108, 116]⟩] t frozen
      | o => o }
end Go.Proofs.YtphjbikodkomnaaDoor
