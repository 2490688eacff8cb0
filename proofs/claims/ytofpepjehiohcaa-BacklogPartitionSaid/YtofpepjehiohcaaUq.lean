/- Layer 20: what every step keeps. -/
import Derived.Test.YtofpepjehiohcaaUp
import Derived.Test.YtofpepjehiohcaaMake
namespace Go.Proofs.Ytofpepjehiohcaa
open Go Go.Lx
set_option linter.unusedSimpArgs false
set_option linter.unusedVariables false
set_option maxRecDepth 100000
set_option maxHeartbeats 2000000

/-- what every step keeps -/
structure Gd (b : Bl) : Prop where
  s0 : 0 ≤ b.ser
  pf : pend b.pd = true → 0 < b.pd.f
  so : b.op.Pairwise (· < ·)
  le : ∀ x ∈ b.op, x ≤ b.ser
theorem Gd.pf' {b : Bl} (h : Gd b) : pend b.pd = true → b.pd.f ≠ 0 := fun hp => by have := h.pf hp; omega
theorem Gd.nd {b : Bl} (h : Gd b) : b.op.Nodup := by
  have := h.so
  exact this.imp (fun {a b} (hab : a < b) => by omega)
theorem Gd.zero : Gd bl0 := ⟨by simp [bl0], by simp [bl0, pend, lo0], by simp [bl0], by simp [bl0]⟩
theorem Gd.conf {b : Bl} (h : Gd b) (l r f : Int) : Gd (confB b l r f) := by
  unfold confB
  split
  · exact ⟨h.s0, h.pf, h.so, h.le⟩
  · exact Gd.zero
theorem Gd.lose {b : Bl} (h : Gd b) (why t : Int) : Gd (loseB b why t) := by
  refine ⟨?_, fun _ => ?_, h.so, fun x hx => ?_⟩
  · have := h.s0; simp only [loseB]; omega
  · simp only [loseB, losePd]
    have := h.s0
    split
    · rename_i hp; exact h.pf hp
    · omega
  · have := h.le x hx; simp only [loseB]; omega
theorem Gd.report {b : Bl} (h : Gd b) (t : Int) : Gd (reportB b t) := by
  refine ⟨?_, fun hp => ?_, h.so, fun x hx => ?_⟩
  · have := h.s0; simp only [reportB]; omega
  · simp [reportB, pend, lo0] at hp
  · have := h.le x hx; simp only [reportB]; omega
theorem Gd.acc {b : Bl} (h : Gd b) (s t n : Int) (hs : b.ser < s) : Gd (accB b s t n) := by
  refine ⟨?_, h.pf, ?_, fun x hx => ?_⟩
  · have := h.s0; simp only [accB]; omega
  · simp only [accB]
    refine List.pairwise_append.2 ⟨h.so, by simp, fun x hx y hy => ?_⟩
    have := h.le x hx
    simp only [List.mem_singleton] at hy
    omega
  · simp only [accB, List.mem_append, List.mem_singleton] at hx ⊢
    rcases hx with hx | rfl
    · have := h.le x hx; omega
    · omega
theorem Gd.offer {b : Bl} (h : Gd b) (t n : Int) : Gd (offB b t n).1 := by
  unfold offB
  split
  · exact h
  · dsimp only
    cases hp : pend b.pd
    · simp only [Bool.false_eq_true, if_false]
      split
      · exact h.lose _ _
      · exact h.acc _ _ _ (by omega)
    · simp only [if_true]
      split
      · exact h.lose _ _
      · exact (h.report t).acc _ _ _ (by simp only [reportB]; omega)
theorem del1_sub (l : List Int) (x : Int) : (del1 l x).Sublist l := by
  unfold del1
  split
  · have : (l.take (idxF x l 0).toNat ++ l.drop ((idxF x l 0).toNat + 1)).Sublist (l.take (idxF x l 0).toNat ++ l.drop (idxF x l 0).toNat) :=
      List.Sublist.append (List.Sublist.refl _) (by rw [← List.drop_drop]; exact List.drop_sublist _ _)
    rwa [List.take_append_drop] at this
  · exact List.Sublist.refl _
theorem Gd.put {b : Bl} (h : Gd b) (r : Rc) (last : Bool) : Gd (putB b r last) := by
  have hs : ((putB b r last).op).Sublist b.op := by
    simp only [putB]
    cases last
    · exact List.Sublist.refl _
    · exact del1_sub _ _
  exact ⟨h.s0, h.pf, h.so.sublist hs, fun x hx => h.le x (hs.subset hx)⟩
theorem Gd.take {b : Bl} (h : Gd b) (t n : Int) : Gd (takeB b t n) := by
  have hr : Gd (restB b n) := ⟨h.s0, h.pf, h.so, h.le⟩
  unfold takeB
  split
  · exact hr.report t
  · exact hr
end Go.Proofs.Ytofpepjehiohcaa
