/- What the rows have in common. -/
import Derived.Test.YtcngkeeknlloaaaRtm
import Derived.Test.YtcngkeeknlloaaaLxW
import Derived.Test.YtcngkeeknlloaaaRows
import Derived.WalkKit
import Derived.ProofKit
import Derived.OpenShut
import Derived.Deep.DeepHandedRow
namespace Go.Proofs.Ytcngkeeknlloaaa
open Go.ChangeShapes Go.WideShapes Go.ChangeAt Go.RowKit Go.Lx
set_option linter.unusedSimpArgs false
set_option linter.unusedVariables false

theorem own : ownKnob Try.prog.godebug = none := by kernel_rfl
theorem laidOut : laidOutB Try.prog = true := by kernel_rfl
theorem glob {M : Imm} : ∀ g cs, gl g = some cs → RCs M g 0 cs := fun _ _ h => by cases h
/-- A world for the witness: the settled one. -/
noncomputable def laidWorld (os : Os) : World := World.holding Try.prog os ⟨#[], #[], []⟩
def tyBool : TypeId := 4
theorem undBool : Try.prog.underlying tyBool = some .bool := Try.underlying4
mutual
theorem bulk_eq {H : Type} : ∀ d : DataW H, Rows.uptoBulk d = bulk d
  | .lit l => by cases l <;> simp [Rows.uptoBulk, bulk]
  | .nil => by simp [Rows.uptoBulk, bulk]
  | .ptr d => by simp [Rows.uptoBulk, bulk, bulk_eq d]
  | .slice elems spare => by simp [Rows.uptoBulk, bulk, bulks_eq elems, bulks_eq spare]
  | .agg parts => by simp [Rows.uptoBulk, bulk, bulks_eq parts]
  | .iface _ d => by simp [Rows.uptoBulk, bulk, bulk_eq d]
  | .map entries => by simp [Rows.uptoBulk, bulk, bulkEs_eq entries]
  | .held _ => by simp [Rows.uptoBulk, bulk]
theorem bulks_eq {H : Type} : ∀ l : List (DataW H), Rows.uptoBulkAll l = bulks l
  | [] => by simp [Rows.uptoBulkAll, bulks]
  | d :: r => by simp [Rows.uptoBulkAll, bulks, bulk_eq d, bulks_eq r]
theorem bulkEs_eq {H : Type} : ∀ l : List (Lit × DataW H), Rows.uptoBulkEntries l = bulkEs l
  | [] => by simp [Rows.uptoBulkEntries, bulkEs]
  | x :: r => by simp [Rows.uptoBulkEntries, bulkEs, bulkE_eq x, bulkEs_eq r]
theorem bulkE_eq {H : Type} : ∀ x : Lit × DataW H, Rows.uptoBulkEntry x = bulkE x
  | (l, d) => by cases l <;> simp [Rows.uptoBulkEntry, bulkE, bulk_eq d]
end
theorem bulk_of {H : Type} {l : List (DataW H)} (hk : Rows.uptoSmall H l = true) : bulks l ≤ 1048576 := by
  rw [← bulks_eq]
  simpa [Rows.uptoSmall] using hk
end Go.Proofs.Ytcngkeeknlloaaa
