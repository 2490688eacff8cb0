/- Layer 15: what the rows hand over: rules and indices. -/
import Derived.Test.YtmggjfbcjmenlaaRowD
import Derived.Test.YtmggjfbcjmenlaaTf
namespace Go.Proofs.Ytmggjfbcjmenlaa
open Go Go.Lx
set_option linter.unusedSimpArgs false
set_option linter.unusedVariables false

theorem flat_map {α : Type} {f : α → List LV} (l : List α) : (l.map f).flatten = l.flatMap f := by simp [List.flatMap]
theorem rows_ru {B : Nat} {s3 : Sh} {rows : List (List LV)} (h : ∀ r ∈ rows, FitsL B [.int .i64, .int .i64, .int .u64, s3, .int .i64, .str, .int .i64, .str] r) : ∃ rs : List Ru, rows.flatten = rs.flatMap RuC ∧ rs.length = rows.length := by
  obtain ⟨l, h1, _⟩ := rows_map (f := RuC) (Q := fun _ => True) (rows := rows) fun r hr => by
    have := h r hr
    simp only [FitsL] at this
    obtain ⟨x0, _, rfl, h0, x1, _, rfl, h1, x2, _, rfl, h2, x3, _, rfl, h3, x4, _, rfl, h4, x5, _, rfl, h5, x6, _, rfl, h6, x7, _, rfl, h7, rfl⟩ := this
    simp only [Fits] at h0 h1 h2
    obtain ⟨n0, rfl, _⟩ := h0
    obtain ⟨n1, rfl, _⟩ := h1
    obtain ⟨n2, rfl, _⟩ := h2
    exact ⟨⟨n0, n1, n2, x3, x4, x5, x6, x7⟩, trivial, rfl⟩
  subst h1
  exact ⟨l, flat_map l, by simp⟩
theorem rows_is {B : Nat} {rows : List (List LV)} (h : ∀ r ∈ rows, FitsL B [.sl 8 [.int .i64]] r) : ∃ rs : List (List Int), rows.flatten = rs.map Is ∧ rs.length = rows.length ∧ ∀ l ∈ rs, l.length ≤ 17592186044416 := by
  obtain ⟨l, h1, h2⟩ := rows_map (f := fun l => [Is l]) (Q := fun l => l.length ≤ 17592186044416) (rows := rows) fun r hr => by
    have := h r hr
    simp only [FitsL] at this
    obtain ⟨x0, _, rfl, h0, rfl⟩ := this
    simp only [Fits] at h0
    obtain ⟨rr, rfl, _, hw, hx⟩ := h0
    obtain ⟨l, e, e2, _⟩ := rows_int (k := .i64) (rows := rr) (fun r hr => by
      have := hx r hr
      simpa only [FitsL, Fits] using this)
    simp only [reachBytes] at hw
    refine ⟨l, by omega, ?_⟩
    rw [e, ← e2]; rfl
  subst h1
  refine ⟨l, ?_, by simp, h2⟩
  rw [flat_map]
  clear h h2
  induction l with
  | nil => rfl
  | cons x r ih => simp [List.flatMap_cons, ih]
end Go.Proofs.Ytmggjfbcjmenlaa
