/- Layer 20: backlog: sizes after a step; the worked example. -/
import Derived.Test.YtofpepjehiohcaaUh
namespace Go.Proofs.Ytofpepjehiohcaa
open Go Go.Lx
set_option linter.unusedSimpArgs false
set_option linter.unusedVariables false
set_option maxRecDepth 100000
set_option maxHeartbeats 1000000

theorem okK.mono {k k' : Nat} {b : Bl} (h : okK k b) (hk : k ≤ k') (h' : k' ≤ 1000000) : okK k' b := by
  obtain ⟨k0, k1_, k2, k3, k4, k5, k6, k7, k8, k9, k10, k11, k12, k13, k14⟩ := h
  exact ⟨h', by omega, by omega, k3, k4, by omega, by omega, fun x hx => by have := k7 x hx; omega, by omega, by omega, by omega, by omega, by omega, by omega, by omega⟩
theorem okK.lose {k : Nat} {b : Bl} (h : okK k b) (hk : k + 1 ≤ 1000000) (why t : Int) : okK (k + 1) (loseB b why t) := by
  obtain ⟨k0, k1_, k2, k3, k4, k5, k6, k7, k8, k9, k10, k11, k12, k13, k14⟩ := h
  have hb : ∀ i x : Int, (0 ≤ x ∧ x ≤ 2 * k) → 0 ≤ bump why i x ∧ bump why i x ≤ 2 * (k + 1) := fun i x hx => by unfold bump; split <;> omega
  refine ⟨hk, by simp only [loseB]; omega, by simp only [loseB]; omega, k3, ?_, by simp only [loseB]; omega, by simp only [loseB]; omega, fun x hx => by have := k7 x hx; omega, ?_, by simp only [loseB, losePd]; omega, hb _ _ k10, hb _ _ k11, hb _ _ k12, by simp only [loseB]; omega, by simp only [loseB]; omega⟩
  · simp only [loseB]
    split
    · simp only [trim, List.length_drop, List.length_append, List.length_cons, List.length_nil]; omega
    · exact k4
  · simp only [loseB, losePd]
    split <;> omega
theorem okK.report {k : Nat} {b : Bl} (h : okK k b) (hk : k + 1 ≤ 1000000) (t : Int) : okK (k + 1) (reportB b t) := by
  obtain ⟨k0, k1_, k2, k3, k4, k5, k6, k7, k8, k9, k10, k11, k12, k13, k14⟩ := h
  refine ⟨hk, by simp only [reportB]; omega, by simp [reportB]; omega, fun r hr => ?_, k4, by simp only [reportB]; omega, by simp only [reportB]; omega, fun x hx => by have := k7 x hx; omega, by simp only [reportB, lo0]; omega, by simp only [reportB, lo0]; omega, by simp only [reportB, lo0]; omega, by simp only [reportB, lo0]; omega, by simp only [reportB, lo0]; omega, by simp only [reportB]; omega, by simp only [reportB]; omega⟩
  simp only [reportB, List.mem_append, List.mem_singleton] at hr
  rcases hr with hr | rfl
  · exact k3 r hr
  · simp [lossR, lossP]
theorem okK.put {k : Nat} {b : Bl} (h : okK k b) (hk : k + 1 ≤ 1000000) (r : Rc) (hr : r.ps.length ≤ 1000) (last : Bool) : okK (k + 1) (putB b r last) := by
  obtain ⟨k0, k1_, k2, k3, k4, k5, k6, k7, k8, k9, k10, k11, k12, k13, k14⟩ := h
  have hd : (del1 b.op r.se).length ≤ b.op.length ∧ ∀ x ∈ del1 b.op r.se, x ∈ b.op := by
    unfold del1
    split
    · refine ⟨by simp only [List.length_append, List.length_take, List.length_drop]; omega, fun x hx => ?_⟩
      rcases List.mem_append.1 hx with h | h
      · exact List.mem_of_mem_take h
      · exact List.mem_of_mem_drop h
    · exact ⟨Nat.le_refl _, fun x hx => hx⟩
  have ho : (putB b r last).op.length ≤ b.op.length ∧ ∀ x ∈ (putB b r last).op, x ∈ b.op := by
    simp only [putB]
    cases last
    · exact ⟨Nat.le_refl _, fun x hx => hx⟩
    · exact hd
  refine ⟨hk, by omega, by simp [putB]; omega, fun r' hr' => ?_, k4, by simp only [putB]; omega, by simp only [putB]; omega, fun x hx => by have := k7 x (ho.2 x hx); omega, by simp only [putB]; omega, by simp only [putB]; omega, by simp only [putB]; omega, by simp only [putB]; omega, by simp only [putB]; omega, by simp only [putB]; omega, by simp only [putB]; omega⟩
  simp only [putB, List.mem_append, List.mem_singleton] at hr'
  rcases hr' with h | rfl
  · exact k3 _ h
  · exact hr
theorem okK.take {k : Nat} {b : Bl} (h : okK k b) (hk : k + 1 ≤ 1000000) (t n : Int) : okK (k + 1) (takeB b t n) := by
  unfold takeB
  split
  · exact (h.rest n).report hk t
  · exact (h.rest n).mono (by omega) hk
theorem okK.offer {k : Nat} {b : Bl} (h : okK k b) (hk : k + 1 ≤ 1000000) (t n : Int) : okK (k + 1) (offB b t n).1 := by
  unfold offB
  split
  · exact h.mono (by omega) hk
  · rename_i hv
    have hh := h
    obtain ⟨k0, k1_, k2, k3, k4, k5, k6, k7, k8, k9, k10, k11, k12, k13, k14⟩ := h
    have hacc : ∀ (b' : Bl) (s : Int), b'.op = b.op → b'.qu.length ≤ k + 1 → (∀ r ∈ b'.qu, r.ps.length ≤ 1000) → b'.no = b.no → b'.res = b.res → (0 ≤ s ∧ s ≤ 2 * (k + 1)) → b'.used = b.used → b'.lost = b.lost → (0 ≤ b'.pd.f ∧ b'.pd.f ≤ 2 * k) → (0 ≤ b'.pd.l ∧ b'.pd.l ≤ 2 * k) → (0 ≤ b'.pd.r ∧ b'.pd.r ≤ 2 * k) → (0 ≤ b'.pd.u ∧ b'.pd.u ≤ 2 * k) → (0 ≤ b'.pd.s ∧ b'.pd.s ≤ 2 * k) → okK (k + 1) (accB b' s t n) := by
      intro b' s e1 e2 e3 e4 e5 e6 e7 e8 p1 p2 p3 p4 p5
      refine ⟨hk, by simp [accB, e1]; omega, e2, e3, by simp only [accB, e4]; exact k4, by simp only [accB, e5]; omega, by simp only [accB]; omega, fun x hx => ?_, by simp only [accB]; omega, by simp only [accB]; omega, by simp only [accB]; omega, by simp only [accB]; omega, by simp only [accB]; omega, by simp only [accB, e7]; split <;> omega, by simp only [accB, e8]; omega⟩
      simp only [accB, e1, List.mem_append, List.mem_singleton] at hx
      rcases hx with h | rfl
      · have := k7 x h; omega
      · omega
    dsimp only
    cases hP : pend b.pd
    · simp only [Bool.false_eq_true, if_false]
      split
      · exact hh.lose hk _ t
      · exact hacc b _ rfl (by omega) k3 rfl rfl (by omega) rfl rfl k8 k9 k10 k11 k12
    · simp only [if_true]
      have hrp := hh.report hk t
      split
      · exact hh.lose hk _ t
      · exact hacc (reportB b t) _ rfl hrp.qu hrp.ps rfl rfl (by omega) rfl rfl (by simp only [reportB, lo0]; omega) (by simp only [reportB, lo0]; omega) (by simp only [reportB, lo0]; omega) (by simp only [reportB, lo0]; omega) (by simp only [reportB, lo0]; omega)
theorem okK.zero (k : Nat) (hk : k ≤ 1000000) : okK k bl0 := ⟨hk, by simp [bl0], by simp [bl0], by simp [bl0], by simp [bl0], by simp only [bl0]; omega, by simp only [bl0]; omega, by simp [bl0], by simp only [bl0, lo0]; omega, by simp only [bl0, lo0]; omega, by simp only [bl0, lo0]; omega, by simp only [bl0, lo0]; omega, by simp only [bl0, lo0]; omega, by simp only [bl0]; omega, by simp only [bl0]; omega⟩
theorem okK.conf {k : Nat} {b : Bl} (h : okK k b) (l r f : Int) : okK k (confB b l r f) := by
  unfold confB
  split
  · obtain ⟨k0, k1_, k2, k3, k4, k5, k6, k7, k8, k9, k10, k11, k12, k13, k14⟩ := h
    exact ⟨k0, k1_, k2, k3, k4, k5, k6, k7, k8, k9, k10, k11, k12, k13, k14⟩
  · exact okK.zero k h.kk
def exB1 : Bl := ⟨4, 0, 1, 1, 4, [1], [], lo0, 0, 1, 0, false, []⟩
def exB2 : Bl := ⟨4, 0, 1, 2, 4, [1], [], ⟨2, 2, 0, 1, 0⟩, 0, 1, 1, false, []⟩
theorem ex1 : offB (confB bl0 4 0 1) 0 4 = (exB1, 1, true) := by rfl
theorem ex2 : offB exB1 0 1 = (exB2, 2, false) := by rfl
theorem ex0 : confE 4 0 1 = 0 := by rfl
theorem awake : Pure Try.prog gl 19 [] (.bool true) := by
  refine fn_pureT Try.func19 t19 Try.ntmps19 (by simp) ?_
  have hn := new 4 0 1
  have h0 := (okK.zero 0 (by omega)).conf 4 0 1
  have h1 := offer (confB bl0 4 0 1) 0 h0 0 4
  have h2 := offer exB1 1 (by have := h0.offer (by omega) 0 4; rw [ex1] at this; exact this) 0 1
  rw [ex1] at h1
  rw [ex2] at h2
  rw [ex0] at hn
  dsimp only at h1 h2
  unfold c19 r19
  unfold BlL BlC InS RcS NoS at *
  simp (disch := first | omega | (simp only [List.length_cons, List.length_nil]; first | done | omega)) only [go_sem, Nat.reduceAdd, Nat.reduceMul, Nat.reduceSub, Nat.reduceEqDiff, Nat.reduceLeDiff, Nat.reduceMod, Nat.reduceLT, Int.reduceToNat, Int.reduceAdd, Int.reduceSub, Int.reduceMul, Int.reduceNeg, Int.reduceLE, Int.reduceLT, Int.toNat_natCast, Int.cast_ofNat_Int, Int.reduceNe, Int.reduceEq, Int.reduceBEq, Int.reduceBNe, not_false_eq_true, ne_eq, Int.reduceTMod, Int.reduceTDiv, beq_self_eq_true, bne_self_eq_false, List.contains_cons, List.contains_nil, Nat.reduceBEq]
  first | refine call_U (hn) ?_ | refine call_T (hn) ?_ | refine call_N (hn) ?_ | refine call_of (hn) ?_
  simp (disch := first | omega | (simp only [List.length_cons, List.length_nil]; first | done | omega)) only [go_sem, Nat.reduceAdd, Nat.reduceMul, Nat.reduceSub, Nat.reduceEqDiff, Nat.reduceLeDiff, Nat.reduceMod, Nat.reduceLT, Int.reduceToNat, Int.reduceAdd, Int.reduceSub, Int.reduceMul, Int.reduceNeg, Int.reduceLE, Int.reduceLT, Int.toNat_natCast, Int.cast_ofNat_Int, Int.reduceNe, Int.reduceEq, Int.reduceBEq, Int.reduceBNe, not_false_eq_true, ne_eq, Int.reduceTMod, Int.reduceTDiv, beq_self_eq_true, bne_self_eq_false, List.contains_cons, List.contains_nil, Nat.reduceBEq]
  intro b1
  first | refine call_U (h1) ?_ | refine call_T (h1) ?_ | refine call_N (h1) ?_ | refine call_of (h1) ?_
  simp (disch := first | omega | (simp only [List.length_cons, List.length_nil]; first | done | omega)) only [go_sem, Nat.reduceAdd, Nat.reduceMul, Nat.reduceSub, Nat.reduceEqDiff, Nat.reduceLeDiff, Nat.reduceMod, Nat.reduceLT, Int.reduceToNat, Int.reduceAdd, Int.reduceSub, Int.reduceMul, Int.reduceNeg, Int.reduceLE, Int.reduceLT, Int.toNat_natCast, Int.cast_ofNat_Int, Int.reduceNe, Int.reduceEq, Int.reduceBEq, Int.reduceBNe, not_false_eq_true, ne_eq, Int.reduceTMod, Int.reduceTDiv, beq_self_eq_true, bne_self_eq_false, List.contains_cons, List.contains_nil, Nat.reduceBEq]
  first | refine call_U (h2) ?_ | refine call_T (h2) ?_ | refine call_N (h2) ?_ | refine call_of (h2) ?_
  simp (disch := first | omega | (simp only [List.length_cons, List.length_nil]; first | done | omega)) only [go_sem, Nat.reduceAdd, Nat.reduceMul, Nat.reduceSub, Nat.reduceEqDiff, Nat.reduceLeDiff, Nat.reduceMod, Nat.reduceLT, Int.reduceToNat, Int.reduceAdd, Int.reduceSub, Int.reduceMul, Int.reduceNeg, Int.reduceLE, Int.reduceLT, Int.toNat_natCast, Int.cast_ofNat_Int, Int.reduceNe, Int.reduceEq, Int.reduceBEq, Int.reduceBNe, not_false_eq_true, ne_eq, Int.reduceTMod, Int.reduceTDiv, beq_self_eq_true, bne_self_eq_false, List.contains_cons, List.contains_nil, Nat.reduceBEq]
  rfl
end Go.Proofs.Ytofpepjehiohcaa
