/- Layer 8: what the rows have in common. -/
import Derived.Test.YtpcacgmconokdaaDoorAccL
import Derived.Test.YtpcacgmconokdaaDoorLxP
import Derived.Test.YtpcacgmconokdaaDoorCards
import Derived.Test.YtpcacgmconokdaaDoorTie
import Derived.WalkKit
import Derived.ProofKit
import Derived.OpenShut
import Derived.Deep.DeepHandedRow
import Derived.Lib.LaidTab
namespace Go.Proofs.YtpcacgmconokdaaDoor
open Go.ChangeShapes Go.WideShapes Go.ChangeAt Go.RowKit Go.Lx

theorem own : ownKnob Tryd.prog.godebug = none := by kernel_rfl
theorem laidOut : laidOutB Tryd.prog = true := by kernel_rfl
theorem gTab : Tryd.prog.globalNamed "kaudit/access.letters" = some 0 := by kernel_rfl
theorem gTabType : (Tryd.prog.globals[0]?).map (·.type) = some 41 := by kernel_rfl
theorem cells41 : Tryd.prog.cellsOf 41 = 9 := by kernel_rfl
theorem cells5 : Tryd.prog.cellsOf 5 = 1 := by kernel_rfl

theorem table {W : World} (h : laidMetH Tryd.prog [("kaudit/access.letters", Rows.laid_kaudit_access_letters)] W) : Lib.TabIs Tryd.prog W "kaudit/access.letters" .u8 [114, 119, 120, 114, 119, 120, 114, 119, 120] :=
  Lib.tabIs_of_head (rest := []) gTab gTabType Tryd.underlying41 Tryd.underlying5 cells5 cells41 h

/-- The table, as the engine wants it. -/
theorem glob {W : World} (h : laidMetH Tryd.prog [("kaudit/access.letters", Rows.laid_kaudit_access_letters)] W) : ∀ g cs, gl g = some cs → RCs (M0 W) g 0 cs := by
  intro g cs hg
  unfold gl at hg
  split at hg
  case isFalse => cases hg
  rename_i e
  subst e
  cases hg
  have c (i : Nat) (hi : i < 9) := (table h).cell gTab i hi
  simp only [letters, RCs, RV, and_true]
  exact ⟨⟨_, M0_some (c 0 (by omega)) rfl, rfl⟩, ⟨_, M0_some (c 1 (by omega)) rfl, rfl⟩, ⟨_, M0_some (c 2 (by omega)) rfl, rfl⟩, ⟨_, M0_some (c 3 (by omega)) rfl, rfl⟩, ⟨_, M0_some (c 4 (by omega)) rfl, rfl⟩, ⟨_, M0_some (c 5 (by omega)) rfl, rfl⟩, ⟨_, M0_some (c 6 (by omega)) rfl, rfl⟩, ⟨_, M0_some (c 7 (by omega)) rfl, rfl⟩, ⟨_, M0_some (c 8 (by omega)) rfl, rfl⟩⟩

/-- A world for the witness: the settled one, the table (block 0) holding what its initialiser lays. -/
noncomputable def laidWorld (os : Os) : World :=
  { World.holding Tryd.prog os ⟨#[], #[], []⟩ with heap := (World.holding Tryd.prog os ⟨#[], #[], []⟩).heap.modify 0 fun
      | .cells _ t frozen => .cells #[.int .u8 114, .int .u8 119, .int .u8 120, .int .u8 114, .int .u8 119, .int .u8 120, .int .u8 114, .int .u8 119, .int .u8 120] t frozen
      | o => o }

theorem wf_int {k : IntKind} {n : Int} (h : (Lit.int k n).wf = true) : k.min ≤ n ∧ n ≤ k.max := by
  simpa [Lit.wf] using h
end Go.Proofs.YtpcacgmconokdaaDoor
