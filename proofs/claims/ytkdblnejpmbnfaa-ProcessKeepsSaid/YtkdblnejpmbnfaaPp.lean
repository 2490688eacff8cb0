/- Layer 9: operations leave valid tables (plain). -/
import Derived.Test.YtkdblnejpmbnfaaPo
namespace Go.Proofs.Ytkdblnejpmbnfaa
open Go Go.Lx
set_option linter.unusedSimpArgs false
set_option linter.unusedVariables false

theorem VT.lt {t : Tb} (h : VT t) : ∀ (j i : Nat), i < j → j < t.ps.length → (pAt t i).pid < (pAt t j).pid
  | j + 1, i, hij, hj => by
    have h1 := h.asc j hj
    rcases Nat.lt_or_ge i j with h2 | h2
    · have := VT.lt h j i h2 (by omega); omega
    · obtain rfl : i = j := by omega
      exact h1
theorem VT.inj {t : Tb} (h : VT t) {i j : Nat} (hi : i < t.ps.length) (hj : j < t.ps.length) (he : (pAt t i).pid = (pAt t j).pid) : i = j := by
  rcases Nat.lt_trichotomy i j with h1 | h1 | h1
  · have := h.lt j i h1 hj; omega
  · exact h1
  · have := h.lt i j h1 hi; omega
theorem VT.find {t : Tb} (h : VT t) {i : Nat} (hi : i < t.ps.length) : findI t (pAt t i).pid = i :=
  findI_is hi rfl fun j hj he => by have := h.inj (by omega) hi he; omega
theorem findI_nn {t : Tb} {i : Nat} {pid : Int} (hi : i < t.ps.length) (hp : (pAt t i).pid = pid) : 0 ≤ findI t pid := by
  rcases firstI_cases t.ps.length (findP t pid) with ⟨_, h2⟩ | ⟨k, h1, h2, _⟩
  · have := h2 i hi
    simp [findP, pAt] at this hp
    exact absurd hp this
  · rw [findI, h2]; omega
theorem VT_new : VT (tnew 0 1) := by
  refine ⟨by decide, by decide, by decide, ⟨rfl, rfl⟩, fun i hi => ?_, fun i hi => ?_, fun i hi => ?_⟩
  · simp [tnew] at hi
  · obtain rfl : i = 0 := by simp [tnew] at hi; exact hi
    exact ⟨by decide, rfl, rfl, rfl, rfl, by decide, .inl rfl, rfl⟩
  · simp [tnew] at hi
/-- Fork -/
theorem VT.fk {t : Tb} (h : VT t) {pid : Int} (hn : t.nx + 1 ≤ 1073741824) (h0 : (fkR t pid).1 = 0) : VT (fkR t pid).2 ∧ (fkR t pid).2.nx = t.nx + 1 ∧ (fkR t pid).2.ns = t.ns := by
  obtain ⟨h1, h2, h3⟩ := chR_ok h0
  obtain ⟨i, hi, h4, h5, h6⟩ := findI_get h1
  rw [fkR, h3, h4, Int.toNat_natCast]
  rw [h4, Int.toNat_natCast, fkG] at h2
  split at h2
  · simp at h2
  rename_i hc
  rw [fkG, if_neg hc]
  refine ⟨?_, rfl, rfl⟩
  have hA : ∀ j, j < t.ps.length → pAt { t with nx := t.nx + 1, ps := t.ps ++ [{ pAt t i with pid := t.nx, ppid := pid }] } j = pAt t j := fun j hj => by rw [pAt_app, if_pos hj]
  have hB : pAt { t with nx := t.nx + 1, ps := t.ps ++ [{ pAt t i with pid := t.nx, ppid := pid }] } t.ps.length = { pAt t i with pid := t.nx, ppid := pid } := by rw [pAt_app, if_neg (by omega), if_pos rfl]
  have hL : ({ t with nx := t.nx + 1, ps := t.ps ++ [{ pAt t i with pid := t.nx, ppid := pid }] } : Tb).ps.length = t.ps.length + 1 := by simp
  generalize hT : ({ t with nx := t.nx + 1, ps := t.ps ++ [{ pAt t i with pid := t.nx, ppid := pid }] } : Tb) = T at *
  show VT T
  have hNx : T.nx = t.nx + 1 := by rw [← hT]
  have hNs : T.ns = t.ns := by rw [← hT]
  have hlen := h.len
  have hf := h.first
  have hnx := h.nx
  have hok : ∀ p, OkP t p → OkP T p := fun p hp => ⟨by have := hp.pid; omega, hp.u, hp.e, hp.g, hp.eg, hp.au, by rw [hNs]; exact hp.se, hp.op⟩
  refine ⟨by omega, by rw [hNs]; exact h.ns, by omega, by rw [hA 0 (by omega)]; exact hf, fun j hj => ?_, fun j hj => ?_, fun j hj => ?_⟩
  · rcases Nat.lt_or_ge (j + 1) t.ps.length with h7 | h7
    · rw [hA _ (by omega), hA _ h7]; exact h.asc j h7
    · obtain h8 : j + 1 = t.ps.length := by omega
      rw [hA _ (by omega), h8, hB]
      exact (h.all j (by omega)).pid
  · rcases Nat.lt_or_ge j t.ps.length with h7 | h7
    · rw [hA _ h7]; exact hok _ (h.all j h7)
    · obtain h8 : j = t.ps.length := by omega
      rw [h8, hB]
      have hp := h.all i hi
      exact ⟨by dsimp only; omega, hp.u, hp.e, hp.g, hp.eg, hp.au, by rw [hNs]; exact hp.se, hp.op⟩
  · rcases Nat.lt_or_ge (j + 1) t.ps.length with h7 | h7
    · rw [hA _ h7]
      have hp := h.par j h7
      obtain ⟨k, hk, _, hk3, _⟩ := findI_get hp.1
      exact ⟨findI_nn (i := k) (by omega) (by rw [hA k hk]; exact hk3), hp.2⟩
    · obtain h8 : j + 1 = t.ps.length := by omega
      rw [h8, hB]
      refine ⟨findI_nn (i := i) (by omega) (by rw [hA i hi]; exact h5), ?_⟩
      have := (h.all i hi).pid
      dsimp only
      omega
/-- Login -/
theorem VT.lo {t : Tb} (h : VT t) {pid u : Int} (hn : t.ns + 1 ≤ 1073741824) (h0 : (loR t pid u).1 = 0) : VT (loR t pid u).2 ∧ (loR t pid u).2.nx = t.nx ∧ (loR t pid u).2.ns = t.ns + 1 ∧ (getR (loR t pid u).2 pid).2 = true ∧ (getR (loR t pid u).2 pid).1.ses = t.ns := by
  obtain ⟨h1, h2, h3⟩ := chR_ok h0
  obtain ⟨i, hi, h4, h5, h6⟩ := findI_get h1
  rw [loR, h3, h4, Int.toNat_natCast]
  rw [h4, Int.toNat_natCast, loG] at h2
  rw [loG]
  split at h2
  · simp at h2
  rename_i c1
  split at h2
  · simp at h2
  rename_i c2
  split at h2
  · simp at h2
  rename_i c3
  rw [if_neg c1, if_neg c2, if_neg c3]
  have hS : ∀ j, pAt ({ setP t i { pAt t i with auid := u, ses := t.ns } with ns := t.ns + 1 } : Tb) j = if j = i then { pAt t i with auid := u, ses := t.ns } else pAt t j := fun j => pAt_set (t := t) j hi
  have hL : ({ setP t i { pAt t i with auid := u, ses := t.ns } with ns := t.ns + 1 } : Tb).ps.length = t.ps.length := by simp [setP]
  have hX : ({ setP t i { pAt t i with auid := u, ses := t.ns } with ns := t.ns + 1 } : Tb).nx = t.nx := rfl
  have hN : ({ setP t i { pAt t i with auid := u, ses := t.ns } with ns := t.ns + 1 } : Tb).ns = t.ns + 1 := rfl
  suffices key : ∀ T : Tb, T = ({ setP t i { pAt t i with auid := u, ses := t.ns } with ns := t.ns + 1 } : Tb) → VT T ∧ T.nx = t.nx ∧ T.ns = t.ns + 1 ∧ (getR T pid).2 = true ∧ (getR T pid).1.ses = t.ns from key _ rfl
  intro T hT
  rw [← hT] at hS hL hX hN
  have hpid : ∀ j, (pAt T j).pid = (pAt t j).pid := fun j => by
    rw [hS]; split
    · rename_i e; subst e; rfl
    · rfl
  have hppid : ∀ j, (pAt T j).ppid = (pAt t j).ppid := fun j => by
    rw [hS]; split
    · rename_i e; subst e; rfl
    · rfl
  have hlen := h.len
  have hns := h.ns
  have hu : 0 ≤ u ∧ u < 4294967295 := by
    have : idB u = true := by simpa using c1
    simpa [idB] using this
  have hF : findI T pid = i := findI_is (by omega) (by rw [hpid]; exact h5) fun j hj => by rw [hpid]; exact h6 j hj
  refine ⟨⟨by rw [hX]; exact h.nx, by omega, by omega, by rw [hpid, hppid]; exact h.first, fun j hj => ?_, fun j hj => ?_, fun j hj => ?_⟩, hX, hN, ?_, ?_⟩
  · rw [hpid, hpid]; exact h.asc j (by omega)
  · have hp := h.all j (by omega)
    rw [hS]
    split
    · rename_i e
      subst e
      exact ⟨by rw [hX]; exact hp.pid, hp.u, hp.e, hp.g, hp.eg, by dsimp only; omega, .inr (by dsimp only; omega), hp.op⟩
    · exact ⟨by rw [hX]; exact hp.pid, hp.u, hp.e, hp.g, hp.eg, hp.au, hp.se.imp id fun h => by omega, hp.op⟩
  · rw [hppid, hpid]
    have hp := h.par j (by omega)
    obtain ⟨k, hk, _, hk3, _⟩ := findI_get hp.1
    exact ⟨findI_nn (i := k) (by omega) (by rw [hpid]; exact hk3), hp.2⟩
  · rw [getR, if_neg (by omega)]
  · rw [getR, if_neg (by omega), hF, Int.toNat_natCast, hS, if_pos rfl]
/-- Exit -/
theorem VT.xt {t : Tb} (h : VT t) {pid : Int} (h0 : (xtR t pid).1 = 0) : VT (xtR t pid).2 ∧ (xtR t pid).2.nx = t.nx ∧ (xtR t pid).2.ns = t.ns := by
  obtain ⟨h1, h2, h3⟩ := chR_ok h0
  obtain ⟨i, hi, h4, h5, h6⟩ := findI_get h1
  rw [xtR, h3]
  rw [xtG] at h2 ⊢
  split at h2
  · simp at h2
  rename_i c1
  rw [if_neg c1, rmT, if_neg (by omega), h4, Int.toNat_natCast]
  refine ⟨?_, rfl, rfl⟩
  have hf := h.first
  have hlen := h.len
  have hi0 : 0 < i := by
    rcases Nat.eq_zero_or_pos i with e | e
    · subst e; omega
    · exact e
  have hL : ({ t with ps := rmP t pid i } : Tb).ps.length = t.ps.length - 1 := by simp [rmP, List.length_eraseIdx, hi]
  have hS : ∀ j, j < t.ps.length - 1 → pAt ({ t with ps := rmP t pid i } : Tb) j = orp pid (pAt t (if j < i then j else j + 1)) := fun j hj => by
    have h8 : j < (t.ps.eraseIdx i).length := by rw [List.length_eraseIdx, if_pos hi]; omega
    simp only [pAt, rmP, List.getD_eq_getElem?_getD, List.getElem?_map]
    rw [List.getElem?_eq_getElem h8, Option.map_some, Option.getD_some, List.getElem_eraseIdx]
    split
    · rw [List.getElem?_eq_getElem (by omega)]; rfl
    · rw [List.getElem?_eq_getElem (by omega)]; rfl
  have hX : ({ t with ps := rmP t pid i } : Tb).nx = t.nx := rfl
  have hN : ({ t with ps := rmP t pid i } : Tb).ns = t.ns := rfl
  generalize ({ t with ps := rmP t pid i } : Tb) = T at *
  show VT T
  have hpid : ∀ p, (orp pid p).pid = p.pid := fun p => by unfold orp; split <;> rfl
  have ho : ∀ p, OkP t p → OkP T (orp pid p) := fun p hp => by
    have hq : OkP T p := ⟨by rw [hX]; exact hp.pid, hp.u, hp.e, hp.g, hp.eg, hp.au, by rw [hN]; exact hp.se, hp.op⟩
    unfold orp
    split
    · exact ⟨hq.pid, hq.u, hq.e, hq.g, hq.eg, hq.au, hq.se, hq.op⟩
    · exact hq
  have h00 : pAt T 0 = orp pid (pAt t 0) := by rw [hS 0 (by omega), if_pos (by omega)]
  refine ⟨by rw [hX]; exact h.nx, by rw [hN]; exact h.ns, by omega, ?_, fun j hj => ?_, fun j hj => ?_, fun j hj => ?_⟩
  · rw [h00, hpid]
    refine ⟨hf.1, ?_⟩
    have h9 : pid ≠ 0 := fun e => by
      have := (h.lt i 0 hi0 hi)
      omega
    unfold orp
    rw [if_neg (by omega)]
    exact hf.2
  · rw [hS j (by omega), hS (j + 1) (by omega), hpid, hpid]
    refine h.lt _ _ ?_ ?_
    · split <;> split <;> omega
    · split <;> omega
  · rw [hS j (by omega)]
    exact ho _ (h.all _ (by split <;> omega))
  · rw [hS (j + 1) (by omega)]
    have hk : ∃ k, (if j + 1 < i then j + 1 else j + 1 + 1) = k + 1 ∧ k + 1 < t.ps.length := by
      split
      · exact ⟨j, rfl, by omega⟩
      · exact ⟨j + 1, rfl, by omega⟩
    obtain ⟨k, hk1, hk2⟩ := hk
    rw [hk1, hpid]
    have hp := h.par k hk2
    obtain ⟨m, hm, _, hm3, _⟩ := findI_get hp.1
    have h11 : (pAt t 0).pid < (pAt t (k + 1)).pid := h.lt (k + 1) 0 (by omega) hk2
    unfold orp
    split
    · exact ⟨findI_nn (i := 0) (by omega) (by rw [h00, hpid]; exact hf.1), by dsimp only; omega⟩
    · rename_i c2
      refine ⟨?_, hp.2⟩
      have hmi : m ≠ i := fun e => by subst e; exact c2 (by rw [← hm3]; exact h5)
      rcases Nat.lt_or_ge m i with h7 | h7
      · exact findI_nn (i := m) (by omega) (by rw [hS m (by omega), if_pos h7, hpid]; exact hm3)
      · obtain ⟨n, rfl⟩ : ∃ n, m = n + 1 := ⟨m - 1, by omega⟩
        exact findI_nn (i := n) (by omega) (by rw [hS n (by omega), if_neg (by omega), hpid]; exact hm3)
end Go.Proofs.Ytkdblnejpmbnfaa
