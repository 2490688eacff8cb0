/- Layer 9: what changes of one process keep; the plain law of Logins. -/
import Derived.Test.YtkdblnejpmbnfaaPe
namespace Go.Proofs.Ytkdblnejpmbnfaa
open Go Go.Lx
set_option linter.unusedSimpArgs false
set_option linter.unusedVariables false

theorem findI_get {t : Tb} {pid : Int} (h : 0 ≤ findI t pid) : ∃ i, i < t.ps.length ∧ findI t pid = (i : Nat) ∧ (pAt t i).pid = pid ∧ ∀ j, j < i → (pAt t j).pid ≠ pid := by
  rcases firstI_cases t.ps.length (findP t pid) with ⟨h1, _⟩ | ⟨i, h1, h2, h3, h4⟩
  · rw [findI, h1] at h; omega
  · refine ⟨i, h1, h2, by simpa [findP, pAt] using h3, fun j hj => ?_⟩
    have := h4 j hj
    simpa [findP, pAt] using this
theorem findI_is {t : Tb} {pid : Int} {i : Nat} (hi : i < t.ps.length) (h : (pAt t i).pid = pid) (hn : ∀ j, j < i → (pAt t j).pid ≠ pid) : findI t pid = i :=
  firstI_is hi (by simpa [findP, pAt] using h) fun j hj => by simpa [findP, pAt] using hn j hj
theorem pAt_set {t : Tb} {i : Nat} {p : Ps} (j : Nat) (hi : i < t.ps.length) : pAt (setP t i p) j = if j = i then p else pAt t j := by
  simp only [pAt, setP, List.getD_eq_getElem?_getD, List.getElem?_set]
  split
  · rename_i h; subst h; simp [hi]
  · rename_i h; rw [if_neg (fun h2 => h h2.symm)]
theorem findI_set {t : Tb} {pid : Int} {i : Nat} {p : Ps} (h : findI t pid = i) (hp : p.pid = pid) : findI (setP t i p) pid = i := by
  obtain ⟨k, h1, h2, h3, h4⟩ := findI_get (t := t) (pid := pid) (by omega)
  obtain rfl : k = i := by omega
  refine findI_is (by simpa [setP] using h1) (by rw [pAt_set _ h1, if_pos rfl, hp]) fun j hj => ?_
  rw [pAt_set _ h1, if_neg (by omega)]
  exact h4 j hj
theorem mem_pAt {t : Tb} {p : Ps} (h : p ∈ t.ps) : ∃ j, j < t.ps.length ∧ pAt t j = p := by
  obtain ⟨j, hj, rfl⟩ := List.getElem_of_mem h
  exact ⟨j, hj, by simp [pAt, hj]⟩
theorem pAt_mem {t : Tb} {j : Nat} (h : j < t.ps.length) : pAt t j ∈ t.ps := getD_memA ps0 h
/-- a table in which a process with a login identity is -/
structure LgI (t : Tb) (pid A S : Int) (k : Nat) : Prop where
  len : t.ps.length ≤ k + 2
  all : ∀ p ∈ t.ps, p.op = [] ∧ p.pid < t.nx
  nx : 0 ≤ t.nx ∧ t.nx ≤ k + 3
  ns : 0 ≤ t.ns
  at_ : 0 ≤ findI t pid
  au : (pAt t (findI t pid).toNat).auid = A
  se : (pAt t (findI t pid).toNat).ses = S
theorem LgI.ok {t : Tb} {pid A S : Int} {k : Nat} (h : LgI t pid A S k) (hk : k ≤ 100) : okT t := ⟨by have := h.len; omega, fun p hp => by rw [(h.all p hp).1]; simp⟩
theorem LgI.more {t : Tb} {pid A S : Int} {k : Nat} (h : LgI t pid A S k) : LgI t pid A S (k + 1) := { h with len := by have := h.len; omega, nx := by have := h.nx; omega }
theorem LgI.set {t : Tb} {pid A S : Int} {k : Nat} {p : Ps} (h : LgI t pid A S k) (hp : p.pid = (pAt t (findI t pid).toNat).pid) (ho : p.op = []) (ha : p.auid = A) (hs : p.ses = S) : LgI (setP t (findI t pid).toNat p) pid A S (k + 1) := by
  obtain ⟨i, h1, h2, h3, h4⟩ := findI_get h.at_
  have hf := findI_set (p := p) h2 (by rw [hp, h2, Int.toNat_natCast]; exact h3)
  have h5 : (findI t pid).toNat = i := by omega
  rw [h5] at hp ⊢
  refine ⟨by have := h.len; simp [setP]; omega, fun q hq => ?_, by have := h.nx; simp only [setP]; omega, h.ns, by rw [hf]; omega, ?_, ?_⟩
  · obtain ⟨j, hj, rfl⟩ := mem_pAt hq
    rw [pAt_set _ h1]
    split
    · exact ⟨ho, by rw [hp]; exact (h.all _ (pAt_mem h1)).2⟩
    · exact h.all _ (pAt_mem (by simpa [setP] using hj))
  · rw [hf, Int.toNat_natCast, pAt_set _ h1, if_pos rfl, ha]
  · rw [hf, Int.toNat_natCast, pAt_set _ h1, if_pos rfl, hs]
theorem chR_ok {t : Tb} {pid : Int} {g : Nat → Int × Tb} (h : (chR t pid g).1 = 0) : 0 ≤ findI t pid ∧ (g (findI t pid).toNat).1 = 0 ∧ (chR t pid g).2 = (g (findI t pid).toNat).2 := by
  unfold chR at h ⊢
  by_cases h1 : findI t pid < 0
  · rw [if_pos h1] at h; exact absurd h (by decide)
  · rw [if_neg h1] at h ⊢
    by_cases h2 : (g (findI t pid).toNat).1 = 0
    · rw [if_neg (by simpa using h2)]
      exact ⟨by omega, h2, rfl⟩
    · rw [if_pos h2] at h; exact absurd h h2
theorem LgI.su {t : Tb} {pid A S u : Int} {k : Nat} (h : LgI t pid A S k) (h0 : (suR t pid u).1 = 0) : LgI (suR t pid u).2 pid A S (k + 1) := by
  obtain ⟨h1, h2, h3⟩ := chR_ok h0
  rw [suR, h3]
  exact h.set rfl (h.all _ (pAt_mem (by have := findI_lt t pid; omega))).1 h.au h.se
theorem LgI.sg {t : Tb} {pid A S u : Int} {k : Nat} (h : LgI t pid A S k) (h0 : (sgR t pid u).1 = 0) : LgI (sgR t pid u).2 pid A S (k + 1) := by
  obtain ⟨h1, h2, h3⟩ := chR_ok h0
  rw [sgR, h3]
  exact h.set rfl (h.all _ (pAt_mem (by have := findI_lt t pid; omega))).1 h.au h.se
theorem LgI.ex {t : Tb} {pid A S : Int} {e c : List UInt8} {k : Nat} (h : LgI t pid A S k) (h0 : (exR t pid e c).1 = 0) : LgI (exR t pid e c).2 pid A S (k + 1) := by
  obtain ⟨h1, h2, h3⟩ := chR_ok h0
  rw [exR, h3]
  exact h.set rfl (h.all _ (pAt_mem (by have := findI_lt t pid; omega))).1 h.au h.se
theorem pAt_app {t : Tb} {p : Ps} {n : Int} (j : Nat) : pAt { t with nx := n, ps := t.ps ++ [p] } j = if j < t.ps.length then pAt t j else if j = t.ps.length then p else ps0 := by
  simp only [pAt, List.getD_eq_getElem?_getD]
  split
  · rename_i h; rw [List.getElem?_append_left h]
  · rename_i h
    rw [List.getElem?_append_right (by omega)]
    split
    · rename_i h2; subst h2; simp
    · rw [List.getElem?_eq_none (by simp; omega)]; rfl
theorem LgI.fk {t : Tb} {pid A S : Int} {k : Nat} (h : LgI t pid A S k) (h0 : (fkR t pid).1 = 0) : LgI (fkR t pid).2 t.nx A S (k + 1) := by
  obtain ⟨h1, h2, h3⟩ := chR_ok h0
  obtain ⟨i, hi, h4, h5, h6⟩ := findI_get h.at_
  rw [fkR, h3]
  rw [fkG] at h2 ⊢
  have hau := h.au
  have hse := h.se
  rw [h4, Int.toNat_natCast] at *
  split at h2
  · exact absurd h2 (by simp)
  rename_i hc
  rw [if_neg hc]
  have hl := h.len
  have hn := h.nx
  have hf : findI { t with nx := t.nx + 1, ps := t.ps ++ [{ pAt t i with pid := t.nx, ppid := pid }] } t.nx = t.ps.length := by
    refine findI_is (by simp) (by rw [pAt_app, if_neg (by omega), if_pos rfl]) fun j hj => ?_
    rw [pAt_app, if_pos hj]
    have := (h.all _ (pAt_mem hj)).2
    omega
  refine ⟨by simp; omega, fun q hq => ?_, by dsimp only; omega, h.ns, by rw [hf]; omega, ?_, ?_⟩
  · simp only [List.mem_append, List.mem_singleton] at hq
    rcases hq with hq | rfl
    · have := h.all q hq
      exact ⟨this.1, by dsimp only; omega⟩
    · exact ⟨(h.all _ (pAt_mem hi)).1, by dsimp only; omega⟩
  · rw [hf, Int.toNat_natCast, pAt_app, if_neg (by omega), if_pos rfl]; exact hau
  · rw [hf, Int.toNat_natCast, pAt_app, if_neg (by omega), if_pos rfl]; exact hse
theorem LgI.lo {t : Tb} {pid A S : Int} {k : Nat} (h : LgI t pid A S k) (hA : A ≠ 4294967295) : ((loR t pid 3).1 = 1) ↔ (pAt t (findI t pid).toNat).euid ≠ 0 := by
  have hau := h.au
  have h1 := h.at_
  rw [loR, chR, if_neg (by omega)]
  have hG : loG 3 t (findI t pid).toNat = if (pAt t (findI t pid).toNat).euid ≠ 0 then (1, t) else if 1073741824 ≤ t.ns then (11, t) else (0, { setP t (findI t pid).toNat { pAt t (findI t pid).toNat with auid := 3, ses := t.ns } with ns := t.ns + 1 }) := by
    rw [loG, if_neg (by decide), hau]
    simp only [ne_eq, hA, not_false_eq_true, true_and]
  rw [hG]
  by_cases h2 : (pAt t (findI t pid).toNat).euid = 0
  · have h3 : ¬ ((pAt t (findI t pid).toNat).euid ≠ 0) := fun h => h h2
    rw [if_neg h3]
    constructor
    · intro h4
      exfalso
      split at h4 <;> simp at h4
    · exact fun h4 => absurd h4 h3
  · rw [if_pos h2]; simp [h2]
end Go.Proofs.Ytkdblnejpmbnfaa
