/- Layer 22: what is handed over (the laws). -/
import Derived.Test.YtfheeghkajihoaaDoorXf
import Derived.Test.YtfheeghkajihoaaDoorLxP
namespace Go.Proofs.YtfheeghkajihoaaDoor
open Go Go.Lx
set_option linter.unusedSimpArgs false
set_option linter.unusedVariables false

theorem flat_map {α : Type} {f : α → List LV} (l : List α) : (l.map f).flatten = l.flatMap f := by simp [List.flatMap]
theorem rows_pr {B : Nat} {rows : List (List LV)} (h : ∀ r ∈ rows, FitsL B [.str, .int .i64, .int .i64, .str] r) : ∃ l : List Pr, rows.flatten = l.flatMap PrC ∧ l.length = rows.length := by
  obtain ⟨l, h1, _⟩ := rows_map (f := PrC) (Q := fun _ => True) (rows := rows) fun r hr => by
    have := h r hr
    simp only [FitsL, Fits] at this
    obtain ⟨x0, _, rfl, ⟨n0, rfl, _⟩, x1, _, rfl, ⟨n1, rfl, _⟩, x2, _, rfl, ⟨n2, rfl, _⟩, x3, _, rfl, ⟨n3, rfl, _⟩, rfl⟩ := this
    exact ⟨⟨n0, n1, n2, n3⟩, trivial, rfl⟩
  subst h1
  exact ⟨l, flat_map l, by simp⟩
theorem rows_rc {B k : Nat} {rows : List (List LV)} (h : ∀ r ∈ rows, FitsL B [.int .i64, .int .i64, .int .i64, .sl k [.str, .int .i64, .int .i64, .str]] r) : ∃ l : List Rc, rows.flatten = l.flatMap RcC ∧ l.length = rows.length := by
  obtain ⟨l, h1, _⟩ := rows_map (f := RcC) (Q := fun _ => True) (rows := rows) fun r hr => by
    have := h r hr
    simp only [FitsL, Fits] at this
    obtain ⟨x0, _, rfl, ⟨n0, rfl, _⟩, x1, _, rfl, ⟨n1, rfl, _⟩, x2, _, rfl, ⟨n2, rfl, _⟩, x3, _, rfl, ⟨rr, rfl, _, _, hx⟩, rfl⟩ := this
    obtain ⟨ps, e1, e2⟩ := rows_pr (B := B) (rows := rr) (fun r hr => by
      have := hx r hr
      simpa only [FitsL, Fits] using this)
    refine ⟨⟨n0, n1, n2, ps⟩, trivial, ?_⟩
    rw [RcC_eq, ← e1, e2]
    rfl
  subst h1
  exact ⟨l, flat_map l, by simp⟩
end Go.Proofs.YtfheeghkajihoaaDoor
