/- Small things for the generators. -/
import Derived.Test.YtcngkeeknlloaaaMkA
namespace Go.Proofs.Ytcngkeeknlloaaa
open Go Go.Lx
set_option linter.unusedSimpArgs false
set_option linter.unusedVariables false

def StS (ws : List (List UInt8)) : LV := .sl 1 ws.length (ws.map LV.str)
theorem pureE_end {x r : LV} {H : Heap} {Q : LV → Prop} (h : leV x r) (hq : Q r) : ∃ r' H', leVH gl x H r' H' ∧ H' = [] ∧ Q r' := ⟨r, _, leVH.of h ⟨_, List.nil_sublist _, List.Perm.refl _⟩, rfl, hq⟩
theorem leV.tup3 {x1 y1 x2 x3 : LV} (h : leV x1 y1) : leV (.tup [x1, x2, x3]) (.tup [y1, x2, x3]) := fun M v hv => by
  simp only [RV, RVs] at hv ⊢
  obtain ⟨vs, e, u, us, e1, h1, h2⟩ := hv
  exact ⟨vs, e, u, us, e1, h M u h1, h2⟩
end Go.Proofs.Ytcngkeeknlloaaa
