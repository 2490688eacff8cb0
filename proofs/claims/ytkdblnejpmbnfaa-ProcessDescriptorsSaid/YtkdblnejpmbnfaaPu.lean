/- Layer 9: which numbers are open (plain). -/
import Derived.Test.YtkdblnejpmbnfaaPt
namespace Go.Proofs.Ytkdblnejpmbnfaa
open Go Go.Lx
set_option linter.unusedSimpArgs false
set_option linter.unusedVariables false

def fdL (fs : List Int) (fd : Int) : Int := firstI fs.length fun i => fs.getD i 0 == fd
def lfL : List Int → Nat → Nat
  | [], k => k
  | x :: l, k => if x = k then lfL l (k + 1) else k
def fds (l : List De) : List Int := l.map fun x => x.fd
theorem getD_fds (l : List De) (i : Nat) : (fds l).getD i 0 = (l.getD i de0).fd := by
  simp only [fds, List.getD_eq_getElem?_getD, List.getElem?_map]
  cases l[i]? <;> rfl
theorem fdI_fds (l : List De) (fd : Int) : fdI l fd = fdL (fds l) fd := by
  have h : (fun i => (fds l).getD i 0 == fd) = fdP l fd := funext fun i => by rw [getD_fds]; rfl
  rw [fdL, h, fdI]
  simp [fds]
theorem lfA_fds : ∀ (l : List De) (k : Nat), lfA l k = lfL (fds l) k
  | [], k => rfl
  | x :: l, k => by
    have ih := lfA_fds l (k + 1)
    simp only [lfA, fds, List.map_cons, lfL]
    rw [ih]
    rfl
/-- the numbers that are open -/
def Fo (os : List Bool) : List Int := ((List.range 8).filter fun k => os.getD k false).map Int.ofNat
def frA : List Bool → Nat → Nat
  | [], k => k
  | b :: l, k => if b then frA l (k + 1) else k
def chk (os : List Bool) (n : Nat) : Bool :=
  (if os.getD n false then decide (0 ≤ fdL (Fo os) n) && decide (Fo (os.set n false) = (Fo os).eraseIdx (fdL (Fo os) n).toNat) else decide (fdL (Fo os) n < 0)) &&
  (if frA os 0 < 8 then decide ((Fo os).length < 8) && decide (lfL (Fo os) 0 = frA os 0) && decide (Fo (os.set (frA os 0) true) = (Fo os).take (frA os 0) ++ (frA os 0 : Int) :: (Fo os).drop (frA os 0)) else decide (8 ≤ (Fo os).length))
theorem chk_all : ∀ a b c d e f g h : Bool, ∀ n : Fin 8, chk [a, b, c, d, e, f, g, h] n = true := by decide +kernel
theorem eight {os : List Bool} (h : os.length = 8) : ∃ a b c d e f g h, os = [a, b, c, d, e, f, g, h] := by
  match os, h with
  | [a, b, c, d, e, f, g, h], _ => exact ⟨a, b, c, d, e, f, g, h, rfl⟩
theorem chk_os {os : List Bool} (h : os.length = 8) {n : Nat} (hn : n < 8) : chk os n = true := by
  obtain ⟨a, b, c, d, e, f, g, h2, rfl⟩ := eight h
  exact chk_all a b c d e f g h2 ⟨n, hn⟩
theorem frA_le : ∀ (l : List Bool) (k : Nat), k ≤ frA l k ∧ frA l k ≤ k + l.length
  | [], k => by simp [frA]
  | x :: l, k => by
    have := frA_le l (k + 1)
    simp only [frA, List.length_cons]
    split <;> omega
theorem frA_step {l : List Bool} {k : Nat} (h : k < l.length) : frA (l.drop k) k = if l.getD k false then frA (l.drop (k + 1)) (k + 1) else k := by
  rw [List.drop_eq_getElem_cons h, frA]
  simp [List.getD, h]
/-- the files that are open -/
def OpS (l : List De) (os : List Bool) : Prop := os.length = 8 ∧ fds l = Fo os
theorem OpS.len {l : List De} {os : List Bool} (h : OpS l os) : l.length ≤ 8 := by
  have : l.length = (Fo os).length := by rw [← h.2]; simp [fds]
  rw [this, Fo, List.length_map]
  have := List.length_filter_le (fun k => os.getD k false) (List.range 8)
  simpa using this
theorem OpS.close {l : List De} {os : List Bool} {n : Nat} (h : OpS l os) (hn : n < 8) : (os.getD n false = true → 0 ≤ fdI l n ∧ OpS (l.eraseIdx (fdI l n).toNat) (os.set n false)) ∧ (os.getD n false = false → fdI l n < 0) := by
  have hc := chk_os h.1 hn
  simp only [chk, Bool.and_eq_true] at hc
  have h1 := hc.1
  rw [fdI_fds, h.2]
  constructor
  · intro ho
    rw [ho] at h1
    simp only [if_true, Bool.and_eq_true, decide_eq_true_eq] at h1
    refine ⟨h1.1, by rw [List.length_set]; exact h.1, ?_⟩
    rw [h1.2, ← h.2, fds, fds]
    rw [List.eraseIdx_eq_take_drop_succ, List.eraseIdx_eq_take_drop_succ]; simp
  · intro ho
    rw [ho] at h1
    simpa using h1
theorem OpS.openN {l : List De} {os : List Bool} (h : OpS l os) : (frA os 0 < 8 → l.length < 8 ∧ lfA l 0 = frA os 0 ∧ ∀ d i fl, OpS (l.take (frA os 0) ++ ⟨frA os 0, d, i, fl⟩ :: l.drop (frA os 0)) (os.set (frA os 0) true)) ∧ (¬ frA os 0 < 8 → 8 ≤ l.length) := by
  have hc := chk_os h.1 (show 0 < 8 by omega)
  simp only [chk, Bool.and_eq_true] at hc
  have h1 := hc.2
  have hl : l.length = (Fo os).length := by rw [← h.2]; simp [fds]
  rw [lfA_fds, h.2, hl]
  constructor
  · intro ho
    rw [if_pos ho] at h1
    simp only [Bool.and_eq_true, decide_eq_true_eq] at h1
    refine ⟨h1.1.1, h1.1.2, fun d i fl => ⟨by rw [List.length_set]; exact h.1, ?_⟩⟩
    rw [h1.2, ← h.2]
    simp [fds]
  · intro ho
    rw [if_neg ho] at h1
    simpa using h1
end Go.Proofs.Ytkdblnejpmbnfaa
