/- Layer 20: plays: steps. -/
import Derived.Test.YtofpepjehiohcaaUs
namespace Go.Proofs.Ytofpepjehiohcaa
open Go Go.Lx
set_option linter.unusedSimpArgs false
set_option linter.unusedVariables false
set_option maxRecDepth 100000
set_option maxHeartbeats 4000000

/-- what a step can do -/
inductive Stepd (x : Pl) : Pl → Prop
  | off (n : Int) : Stepd x (offP x n)
  | put (i : Nat) : i < x.op.length → Stepd x (putP x i)
  | non : Stepd x x
  | tak (n : Int) : Stepd x (takP x n)
  | tick (d : Int) : 1 ≤ d → d ≤ 1000 → Stepd x { x with ti := x.ti + d }
  | conf (l r f : Int) : setOk l r f = true → Stepd x { x with b := confB x.b l r f }
theorem okP.mono {k k' : Nat} {x : Pl} (h : okP k x) (hk : k ≤ k') (h' : k' ≤ 1000) : okP k' x := by
  obtain ⟨h0, h1, h2, h3, h4, h5, h6, h7⟩ := h
  exact ⟨h', h1.mono hk (by omega), h2, by omega, by omega, h5, by omega, by omega⟩
theorem okP.off {k : Nat} {x : Pl} (h : okP k x) (hk : k + 1 ≤ 1000) (n : Int) : okP (k + 1) (offP x n) := by
  obtain ⟨h0, h1, h2, h3, h4, h5, h6, h7⟩ := h
  unfold offP
  dsimp only
  split
  · rename_i hA
    have hn := offB_n hA
    refine ⟨hk, h1.offer (by omega) _ _, h2.offer _ _, by dsimp only; omega, by simp; omega, fun l hl => ?_, by dsimp only; omega, by simp; omega⟩
    simp only [List.mem_append, List.mem_singleton] at hl
    rcases hl with hl | rfl
    · exact h5 l hl
    · have hlen : (evR x.ti (offB x.b x.ti n).2.1 n).length = n.toNat := by simp [evR]
      refine ⟨fun e => by rw [e] at hlen; simp at hlen; omega, by omega, fun r hr => ?_⟩
      simp only [evR, List.mem_map] at hr
      obtain ⟨i, _, rfl⟩ := hr
      simp [itR]
  · exact ⟨hk, h1.offer (by omega) _ _, h2.offer _ _, by dsimp only; omega, by dsimp only; omega, h5, by dsimp only; omega, by dsimp only; omega⟩
theorem okP.put {k : Nat} {x : Pl} (h : okP k x) (hk : k + 1 ≤ 1000) (i : Nat) (hi : i < x.op.length) : okP (k + 1) (putP x i) := by
  obtain ⟨h0, h1, h2, h3, h4, h5, h6, h7⟩ := h
  obtain ⟨l0, l1, l2⟩ := h5 _ (getD_memA [] hi)
  have hl0 : 0 < (x.op.getD i []).length := List.length_pos_iff.2 l0
  have hr0 := l2 _ (getD_memA rc0 hl0)
  unfold putP
  dsimp only
  split
  · refine ⟨hk, h1.put (by omega) _ hr0 _, h2.put _ _, by dsimp only; omega, by simp; omega, fun l hl => ?_, by dsimp only; omega, by dsimp only; omega⟩
    rcases List.mem_append.1 hl with hl | hl
    · exact h5 l (List.mem_of_mem_take hl)
    · exact h5 l (List.mem_of_mem_drop hl)
  · refine ⟨hk, h1.put (by omega) _ hr0 _, h2.put _ _, by dsimp only; omega, by simp; omega, fun l hl => ?_, by dsimp only; omega, by dsimp only; omega⟩
    rcases List.mem_or_eq_of_mem_set hl with hl | rfl
    · exact h5 l hl
    · refine ⟨fun e => ?_, by rw [List.length_drop]; omega, fun r hr => l2 r (List.mem_of_mem_drop hr)⟩
      have : ((x.op.getD i []).drop 1).length = 0 := by rw [e]; rfl
      rw [List.length_drop] at this
      omega
theorem okP.tak {k : Nat} {x : Pl} (h : okP k x) (hk : k + 1 ≤ 1000) (n : Int) : okP (k + 1) (takP x n) := by
  obtain ⟨h0, h1, h2, h3, h4, h5, h6, h7⟩ := h
  have := h1.qu
  exact ⟨hk, h1.take (by omega) _ _, h2.take _ _, by simp only [takP]; omega, by simp only [takP]; omega, h5, by simp only [takP, List.length_append, List.length_take]; omega, by simp only [takP]; omega⟩
theorem okP.step {k : Nat} {x x' : Pl} (h : okP k x) (hk : k + 1 ≤ 1000) (hs : Stepd x x') : okP (k + 1) x' := by
  cases hs with
  | off n => exact h.off hk n
  | put i hi => exact h.put hk i hi
  | non => exact h.mono (by omega) hk
  | tak n => exact h.tak hk n
  | tick d h1 h2 =>
    obtain ⟨h0, h1, h2, h3, h4, h5, h6, h7⟩ := h
    exact ⟨hk, h1.mono (by omega) (by omega), h2, by dsimp only; omega, by dsimp only; omega, h5, by dsimp only; omega, by dsimp only; omega⟩
  | conf l r f hs =>
    obtain ⟨h0, h1, h2, h3, h4, h5, h6, h7⟩ := h
    exact ⟨hk, (h1.mono (by omega) (by omega)).conf l r f, h2.conf l r f, by dsimp only; omega, by dsimp only; omega, h5, by dsimp only; omega, by dsimp only; omega⟩
theorem heapLe_refl : ∀ H : Heap, heapLe H H
  | [] => trivial
  | (_, .blk _ _) :: H => ⟨⟨rfl, leVs.refl _⟩, heapLe_refl H⟩
  | (_, .tok _) :: H => ⟨rfl, heapLe_refl H⟩
def PlS (x : Pl) (p b1 c1 b2 c2 b3 c3 sb : Nat) (l : List Int) (a : Int) : Heap := PlH x p b1 c1 b2 c2 b3 c3 ++ [(3000, SB sb l a)]
def PsQ (x : Pl) (p sb : Nat) (l : List Int) (a : Int) (r : LV) (H : Heap) : Prop := ∃ x' a' b1' c1' b2' c2' b3' c3', Stepd x x' ∧ (a ≤ a' ∧ a' ≤ a + 4) ∧ (x'.op.length ≤ c1' ∧ x'.tk.length ≤ c2' ∧ x'.gv.length ≤ c3') ∧ r = .bool true ∧ H = PlS x' p b1' c1' b2' c2' b3' c3' sb l a'
theorem pstep (x : Pl) (k : Nat) (hx : okP k x) (hk : k + 1 ≤ 1000) (p b1 c1 b2 c2 b3 c3 : Nat) (hc : x.op.length ≤ c1 ∧ x.tk.length ≤ c2 ∧ x.gv.length ≤ c3) (sb : Nat) (l : List Int) (a : Int) (hl : okS l a) (ha : a ≤ 1000000) :
    LCalls Try.prog gl 21 [.ptr 5000 p 0, .ptr 3000 sb 0] (PlS x p b1 c1 b2 c2 b3 c3 sb l a) (PsQ x p sb l a) := by
  refine fn_viewT Try.func21 t21 Try.ntmps21 (by simp) ?_
  have hN := n_ 3000 sb l a 9 hl (by omega)
  have hNr := nV_range l a (n := 9) (by omega)
  have hl1 : okS l (a + 1) := ⟨hl.1, hl.2.1, by have := hl.2.2; omega, by omega⟩
  have hl2 : okS l (a + 1 + 1) := ⟨hl.1, hl.2.1, by have := hl.2.2; omega, by omega⟩
  have hl3 : okS l (a + 1 + 1 + 1) := ⟨hl.1, hl.2.1, by have := hl.2.2; omega, by omega⟩
  have hxl := hx.ol
  have hsame : ∀ x', Stepd x x' → Pure Try.prog gl 18 [BlL x'.b, BlL x'.b] (.bool true) := fun x' hs => sameB x'.b (hx.step hk hs).b.okB
  have hend : ∀ (x' : Pl) (a' : Int) (b1' c1' b2' c2' b3' c3' : Nat), Stepd x x' → (a ≤ a' ∧ a' ≤ a + 4) → (x'.op.length ≤ c1' ∧ x'.tk.length ≤ c2' ∧ x'.gv.length ≤ c3') → ∀ (H : Heap) {R : Heap}, H.Perm (PlS x' p b1' c1' b2' c2' b3' c3' sb l a' ++ R) → ∃ r' H', leVH gl (.bool true) H r' H' ∧ PsQ x p sb l a r' H' :=
    fun x' a' b1' c1' b2' c2' b3' c3' h1 h2 h3 H R hp => ⟨.bool true, _, leVH.pickd (leV.refl _) hp (heapLe_refl _), x', a', b1', c1', b2', c2', b3', c3', h1, h2, h3, rfl, rfl⟩
  unfold c21 r21 PlS PlH PlC
  unfold BlL at hsame
  simp only [BlC, InS, RcS_eq, NoS, List.cons_append, List.nil_append] at hsame ⊢
  simp (disch := first | omega | (simp only [List.length_cons, List.length_nil]; first | done | omega)) only [go_sem, Nat.reduceAdd, Nat.reduceMul, Nat.reduceSub, Nat.reduceEqDiff, Nat.reduceLeDiff, Nat.reduceMod, Nat.reduceLT, Int.reduceToNat, Int.reduceAdd, Int.reduceSub, Int.reduceMul, Int.reduceNeg, Int.reduceLE, Int.reduceLT, Int.toNat_natCast, Int.cast_ofNat_Int, Int.reduceNe, Int.reduceEq, Int.reduceBEq, Int.reduceBNe, not_false_eq_true, ne_eq, Int.reduceTMod, Int.reduceTDiv, beq_self_eq_true, bne_self_eq_false, List.contains_cons, List.contains_nil, Nat.reduceBEq]
  first | refine actsE_U (hN) (by first | rfl | simp only [getH, if_true]) ?_ | refine actsE_T (hN) (by first | rfl | simp only [getH, if_true]) ?_ | refine actsE_N (hN) (by first | rfl | simp only [getH, if_true]) ?_ | refine actsE_of (hN) (by first | rfl | simp only [getH, if_true]) ?_
  rintro _ _ ⟨rfl, rfl⟩
  repeat' (first | (simp (disch := first | omega | (simp only [List.length_cons, List.length_nil]; first | done | omega)) only [go_sem, Nat.reduceAdd, Nat.reduceMul, Nat.reduceSub, Nat.reduceEqDiff, Nat.reduceLeDiff, Nat.reduceMod, Nat.reduceLT, Int.reduceToNat, Int.reduceAdd, Int.reduceSub, Int.reduceMul, Int.reduceNeg, Int.reduceLE, Int.reduceLT, Int.toNat_natCast, Int.cast_ofNat_Int, Int.reduceNe, Int.reduceEq, Int.reduceBEq, Int.reduceBNe, not_false_eq_true, ne_eq, Int.reduceTMod, Int.reduceTDiv, beq_self_eq_true, bne_self_eq_false, List.contains_cons, List.contains_nil, Nat.reduceBEq]) | (refine allI (fun b => ?_)) | (refine allT (fun τ => ?_)) | (refine brP (fun h => ?_) (fun h => ?_) <;> (try simp only [Bool.and_eq_true, Bool.and_eq_false_iff, Bool.or_eq_true, Bool.or_eq_false_iff, Bool.not_eq_true', Bool.not_eq_false', decide_eq_true_eq, decide_eq_false_iff_not, beq_iff_eq, beq_eq_false_iff_ne, ne_eq, bne_iff_ne, Int.not_lt, Int.not_le] at h)))
  · have hpk := pick_ 3000 sb l (a + 1) [1, 1, 2, 4, 5, 0, 65] hl1 (by simp) (by simp)
    generalize pickV l (a + 1) [1, 1, 2, 4, 5, 0, 65] = n at hpk
    have hpo := poffer x k hx hk p b1 c1 b2 c2 b3 c3 hc n
    have hsm := hsame _ (.off n)
    unfold PlH PlC at hpo
    simp only [BlC, InS, RcS_eq, NoS, List.cons_append, List.nil_append] at hpo
    first | refine actsE_U (hpk) (by first | rfl | simp only [getH, if_true]) ?_ | refine actsE_T (hpk) (by first | rfl | simp only [getH, if_true]) ?_ | refine actsE_N (hpk) (by first | rfl | simp only [getH, if_true]) ?_ | refine actsE_of (hpk) (by first | rfl | simp only [getH, if_true]) ?_
    rintro _ _ ⟨rfl, rfl⟩
    simp (disch := first | omega | (simp only [List.length_cons, List.length_nil]; first | done | omega)) only [go_sem, Nat.reduceAdd, Nat.reduceMul, Nat.reduceSub, Nat.reduceEqDiff, Nat.reduceLeDiff, Nat.reduceMod, Nat.reduceLT, Int.reduceToNat, Int.reduceAdd, Int.reduceSub, Int.reduceMul, Int.reduceNeg, Int.reduceLE, Int.reduceLT, Int.toNat_natCast, Int.cast_ofNat_Int, Int.reduceNe, Int.reduceEq, Int.reduceBEq, Int.reduceBNe, not_false_eq_true, ne_eq, Int.reduceTMod, Int.reduceTDiv, beq_self_eq_true, bne_self_eq_false, List.contains_cons, List.contains_nil, Nat.reduceBEq]
    first | refine actsQ_U (hpo) (pick_perm rfl (pick_perm rfl (pick_perm rfl (pick_perm rfl (List.Perm.refl _))))) ?_ | refine actsQ_T (hpo) (pick_perm rfl (pick_perm rfl (pick_perm rfl (pick_perm rfl (List.Perm.refl _))))) ?_ | refine actsQ_N (hpo) (pick_perm rfl (pick_perm rfl (pick_perm rfl (pick_perm rfl (List.Perm.refl _))))) ?_ | refine actsQ_of (hpo) (pick_perm rfl (pick_perm rfl (pick_perm rfl (pick_perm rfl (List.Perm.refl _))))) ?_
    rintro _ _ ⟨b1', c1', b2', c2', b3', c3', hc', rfl, rfl⟩
    unfold PlH PlC
    simp only [BlC, InS, RcS_eq, NoS, List.cons_append, List.nil_append]
    repeat' (first | (simp (disch := first | omega | (simp only [List.length_cons, List.length_nil]; first | done | omega)) only [go_sem, Nat.reduceAdd, Nat.reduceMul, Nat.reduceSub, Nat.reduceEqDiff, Nat.reduceLeDiff, Nat.reduceMod, Nat.reduceLT, Int.reduceToNat, Int.reduceAdd, Int.reduceSub, Int.reduceMul, Int.reduceNeg, Int.reduceLE, Int.reduceLT, Int.toNat_natCast, Int.cast_ofNat_Int, Int.reduceNe, Int.reduceEq, Int.reduceBEq, Int.reduceBNe, not_false_eq_true, ne_eq, Int.reduceTMod, Int.reduceTDiv, beq_self_eq_true, bne_self_eq_false, List.contains_cons, List.contains_nil, Nat.reduceBEq, Bool.not_true]) | (refine allI (fun b => ?_)) | (refine allT (fun τ => ?_)) | (refine brP (fun h => ?_) (fun h => ?_) <;> (try simp only [Bool.and_eq_true, Bool.and_eq_false_iff, Bool.or_eq_true, Bool.or_eq_false_iff, Bool.not_eq_true', Bool.not_eq_false', decide_eq_true_eq, decide_eq_false_iff_not, beq_iff_eq, beq_eq_false_iff_ne, ne_eq, bne_iff_ne, Int.not_lt, Int.not_le] at h)))
    first | refine call_U (hsm) ?_ | refine call_T (hsm) ?_ | refine call_N (hsm) ?_ | refine call_of (hsm) ?_
    simp (disch := first | omega | (simp only [List.length_cons, List.length_nil]; first | done | omega)) only [go_sem, Nat.reduceAdd, Nat.reduceMul, Nat.reduceSub, Nat.reduceEqDiff, Nat.reduceLeDiff, Nat.reduceMod, Nat.reduceLT, Int.reduceToNat, Int.reduceAdd, Int.reduceSub, Int.reduceMul, Int.reduceNeg, Int.reduceLE, Int.reduceLT, Int.toNat_natCast, Int.cast_ofNat_Int, Int.reduceNe, Int.reduceEq, Int.reduceBEq, Int.reduceBNe, not_false_eq_true, ne_eq, Int.reduceTMod, Int.reduceTDiv, beq_self_eq_true, bne_self_eq_false, List.contains_cons, List.contains_nil, Nat.reduceBEq]
    exact hend (offP x n) (a + 1 + 1) b1' c1' b2' c2' b3' c3' (.off n) (by omega) hc' _ (R := []) (List.Perm.refl _)
  · have hpn : 0 < x.op.length := by omega
    have hn := n_ 3000 sb l (a + 1) x.op.length hl1 (by omega)
    have hnr := nV_range l (a + 1) (n := x.op.length) (by omega)
    generalize nV l (a + 1) x.op.length = m at hn hnr
    obtain ⟨i, rfl⟩ : ∃ i : Nat, m = i := ⟨m.toNat, by omega⟩
    have hpo := pput x k hx hk p b1 c1 b2 c2 b3 c3 hc i (by omega)
    have hsm := hsame _ (.put i (by omega))
    unfold PlH PlC at hpo
    simp only [BlC, InS, RcS_eq, NoS, List.cons_append, List.nil_append] at hpo
    first | refine actsE_U (hn) (by first | rfl | simp only [getH, if_true]) ?_ | refine actsE_T (hn) (by first | rfl | simp only [getH, if_true]) ?_ | refine actsE_N (hn) (by first | rfl | simp only [getH, if_true]) ?_ | refine actsE_of (hn) (by first | rfl | simp only [getH, if_true]) ?_
    rintro _ _ ⟨rfl, rfl⟩
    simp (disch := first | omega | (simp only [List.length_cons, List.length_nil]; first | done | omega)) only [go_sem, Nat.reduceAdd, Nat.reduceMul, Nat.reduceSub, Nat.reduceEqDiff, Nat.reduceLeDiff, Nat.reduceMod, Nat.reduceLT, Int.reduceToNat, Int.reduceAdd, Int.reduceSub, Int.reduceMul, Int.reduceNeg, Int.reduceLE, Int.reduceLT, Int.toNat_natCast, Int.cast_ofNat_Int, Int.reduceNe, Int.reduceEq, Int.reduceBEq, Int.reduceBNe, not_false_eq_true, ne_eq, Int.reduceTMod, Int.reduceTDiv, beq_self_eq_true, bne_self_eq_false, List.contains_cons, List.contains_nil, Nat.reduceBEq]
    first | refine actsQ_U (hpo) (pick_perm rfl (pick_perm rfl (pick_perm rfl (pick_perm rfl (List.Perm.refl _))))) ?_ | refine actsQ_T (hpo) (pick_perm rfl (pick_perm rfl (pick_perm rfl (pick_perm rfl (List.Perm.refl _))))) ?_ | refine actsQ_N (hpo) (pick_perm rfl (pick_perm rfl (pick_perm rfl (pick_perm rfl (List.Perm.refl _))))) ?_ | refine actsQ_of (hpo) (pick_perm rfl (pick_perm rfl (pick_perm rfl (pick_perm rfl (List.Perm.refl _))))) ?_
    rintro _ _ ⟨r0, b1', c1', b2', c2', b3', c3', hc', rfl, rfl⟩
    unfold PlH PlC
    simp only [BlC, InS, RcS_eq, NoS, List.cons_append, List.nil_append]
    repeat' (first | (simp (disch := first | omega | (simp only [List.length_cons, List.length_nil]; first | done | omega)) only [go_sem, Nat.reduceAdd, Nat.reduceMul, Nat.reduceSub, Nat.reduceEqDiff, Nat.reduceLeDiff, Nat.reduceMod, Nat.reduceLT, Int.reduceToNat, Int.reduceAdd, Int.reduceSub, Int.reduceMul, Int.reduceNeg, Int.reduceLE, Int.reduceLT, Int.toNat_natCast, Int.cast_ofNat_Int, Int.reduceNe, Int.reduceEq, Int.reduceBEq, Int.reduceBNe, not_false_eq_true, ne_eq, Int.reduceTMod, Int.reduceTDiv, beq_self_eq_true, bne_self_eq_false, List.contains_cons, List.contains_nil, Nat.reduceBEq]) | (refine allI (fun b => ?_)) | (refine allT (fun τ => ?_)) | (refine brP (fun h => ?_) (fun h => ?_) <;> (try simp only [Bool.and_eq_true, Bool.and_eq_false_iff, Bool.or_eq_true, Bool.or_eq_false_iff, Bool.not_eq_true', Bool.not_eq_false', decide_eq_true_eq, decide_eq_false_iff_not, beq_iff_eq, beq_eq_false_iff_ne, ne_eq, bne_iff_ne, Int.not_lt, Int.not_le] at h)))
    first | refine call_U (hsm) ?_ | refine call_T (hsm) ?_ | refine call_N (hsm) ?_ | refine call_of (hsm) ?_
    simp (disch := first | omega | (simp only [List.length_cons, List.length_nil]; first | done | omega)) only [go_sem, Nat.reduceAdd, Nat.reduceMul, Nat.reduceSub, Nat.reduceEqDiff, Nat.reduceLeDiff, Nat.reduceMod, Nat.reduceLT, Int.reduceToNat, Int.reduceAdd, Int.reduceSub, Int.reduceMul, Int.reduceNeg, Int.reduceLE, Int.reduceLT, Int.toNat_natCast, Int.cast_ofNat_Int, Int.reduceNe, Int.reduceEq, Int.reduceBEq, Int.reduceBNe, not_false_eq_true, ne_eq, Int.reduceTMod, Int.reduceTDiv, beq_self_eq_true, bne_self_eq_false, List.contains_cons, List.contains_nil, Nat.reduceBEq]
    exact hend (putP x i) (a + 1 + 1) b1' c1' b2' c2' b3' c3' (.put i (by omega)) (by omega) hc' _ (R := []) (List.Perm.refl _)
  · have hsm := hsame _ .non
    first | refine call_U (hsm) ?_ | refine call_T (hsm) ?_ | refine call_N (hsm) ?_ | refine call_of (hsm) ?_
    simp (disch := first | omega | (simp only [List.length_cons, List.length_nil]; first | done | omega)) only [go_sem, Nat.reduceAdd, Nat.reduceMul, Nat.reduceSub, Nat.reduceEqDiff, Nat.reduceLeDiff, Nat.reduceMod, Nat.reduceLT, Int.reduceToNat, Int.reduceAdd, Int.reduceSub, Int.reduceMul, Int.reduceNeg, Int.reduceLE, Int.reduceLT, Int.toNat_natCast, Int.cast_ofNat_Int, Int.reduceNe, Int.reduceEq, Int.reduceBEq, Int.reduceBNe, not_false_eq_true, ne_eq, Int.reduceTMod, Int.reduceTDiv, beq_self_eq_true, bne_self_eq_false, List.contains_cons, List.contains_nil, Nat.reduceBEq]
    exact hend x (a + 1) b1 c1 b2 c2 b3 c3 .non (by omega) hc _ (R := []) (List.Perm.refl _)
  · have hpk := pick_ 3000 sb l (a + 1) [0, 1, 2, 5, 64, -1] hl1 (by simp) (by simp)
    generalize pickV l (a + 1) [0, 1, 2, 5, 64, -1] = n at hpk
    have hpo := ptake x k hx hk p b1 c1 b2 c2 b3 c3 hc n
    have hsm := hsame _ (.tak n)
    unfold PlH PlC at hpo
    simp only [BlC, InS, RcS_eq, NoS, List.cons_append, List.nil_append] at hpo
    first | refine actsE_U (hpk) (by first | rfl | simp only [getH, if_true]) ?_ | refine actsE_T (hpk) (by first | rfl | simp only [getH, if_true]) ?_ | refine actsE_N (hpk) (by first | rfl | simp only [getH, if_true]) ?_ | refine actsE_of (hpk) (by first | rfl | simp only [getH, if_true]) ?_
    rintro _ _ ⟨rfl, rfl⟩
    simp (disch := first | omega | (simp only [List.length_cons, List.length_nil]; first | done | omega)) only [go_sem, Nat.reduceAdd, Nat.reduceMul, Nat.reduceSub, Nat.reduceEqDiff, Nat.reduceLeDiff, Nat.reduceMod, Nat.reduceLT, Int.reduceToNat, Int.reduceAdd, Int.reduceSub, Int.reduceMul, Int.reduceNeg, Int.reduceLE, Int.reduceLT, Int.toNat_natCast, Int.cast_ofNat_Int, Int.reduceNe, Int.reduceEq, Int.reduceBEq, Int.reduceBNe, not_false_eq_true, ne_eq, Int.reduceTMod, Int.reduceTDiv, beq_self_eq_true, bne_self_eq_false, List.contains_cons, List.contains_nil, Nat.reduceBEq]
    first | refine actsQ_U (hpo) (pick_perm rfl (pick_perm rfl (pick_perm rfl (pick_perm rfl (List.Perm.refl _))))) ?_ | refine actsQ_T (hpo) (pick_perm rfl (pick_perm rfl (pick_perm rfl (pick_perm rfl (List.Perm.refl _))))) ?_ | refine actsQ_N (hpo) (pick_perm rfl (pick_perm rfl (pick_perm rfl (pick_perm rfl (List.Perm.refl _))))) ?_ | refine actsQ_of (hpo) (pick_perm rfl (pick_perm rfl (pick_perm rfl (pick_perm rfl (List.Perm.refl _))))) ?_
    rintro _ _ ⟨b1', c1', b2', c2', b3', c3', hc', rfl, rfl⟩
    unfold PlH PlC
    simp only [BlC, InS, RcS_eq, NoS, List.cons_append, List.nil_append]
    repeat' (first | (simp (disch := first | omega | (simp only [List.length_cons, List.length_nil]; first | done | omega)) only [go_sem, Nat.reduceAdd, Nat.reduceMul, Nat.reduceSub, Nat.reduceEqDiff, Nat.reduceLeDiff, Nat.reduceMod, Nat.reduceLT, Int.reduceToNat, Int.reduceAdd, Int.reduceSub, Int.reduceMul, Int.reduceNeg, Int.reduceLE, Int.reduceLT, Int.toNat_natCast, Int.cast_ofNat_Int, Int.reduceNe, Int.reduceEq, Int.reduceBEq, Int.reduceBNe, not_false_eq_true, ne_eq, Int.reduceTMod, Int.reduceTDiv, beq_self_eq_true, bne_self_eq_false, List.contains_cons, List.contains_nil, Nat.reduceBEq, Bool.not_true]) | (refine allI (fun b => ?_)) | (refine allT (fun τ => ?_)) | (refine brP (fun h => ?_) (fun h => ?_) <;> (try simp only [Bool.and_eq_true, Bool.and_eq_false_iff, Bool.or_eq_true, Bool.or_eq_false_iff, Bool.not_eq_true', Bool.not_eq_false', decide_eq_true_eq, decide_eq_false_iff_not, beq_iff_eq, beq_eq_false_iff_ne, ne_eq, bne_iff_ne, Int.not_lt, Int.not_le] at h)))
    first | refine call_U (hsm) ?_ | refine call_T (hsm) ?_ | refine call_N (hsm) ?_ | refine call_of (hsm) ?_
    simp (disch := first | omega | (simp only [List.length_cons, List.length_nil]; first | done | omega)) only [go_sem, Nat.reduceAdd, Nat.reduceMul, Nat.reduceSub, Nat.reduceEqDiff, Nat.reduceLeDiff, Nat.reduceMod, Nat.reduceLT, Int.reduceToNat, Int.reduceAdd, Int.reduceSub, Int.reduceMul, Int.reduceNeg, Int.reduceLE, Int.reduceLT, Int.toNat_natCast, Int.cast_ofNat_Int, Int.reduceNe, Int.reduceEq, Int.reduceBEq, Int.reduceBNe, not_false_eq_true, ne_eq, Int.reduceTMod, Int.reduceTDiv, beq_self_eq_true, bne_self_eq_false, List.contains_cons, List.contains_nil, Nat.reduceBEq]
    exact hend (takP x n) (a + 1 + 1) b1' c1' b2' c2' b3' c3' (.tak n) (by omega) hc' _ (R := []) (List.Perm.refl _)
  · have hpk := pick_ 3000 sb l (a + 1) [1, 400, 1000] hl1 (by simp) (by simp)
    have hmem := pickV_mem l (a + 1) [1, 400, 1000] (by simp)
    generalize pickV l (a + 1) [1, 400, 1000] = n at hpk hmem
    have hn : 1 ≤ n ∧ n ≤ 1000 := by simp at hmem; omega
    have hti := hx.ti
    have hkk := hx.kk
    have hsm := hsame _ (.tick n hn.1 hn.2)
    first | refine actsE_U (hpk) (by first | rfl | simp only [getH, if_true]) ?_ | refine actsE_T (hpk) (by first | rfl | simp only [getH, if_true]) ?_ | refine actsE_N (hpk) (by first | rfl | simp only [getH, if_true]) ?_ | refine actsE_of (hpk) (by first | rfl | simp only [getH, if_true]) ?_
    rintro _ _ ⟨rfl, rfl⟩
    repeat' (first | (simp (disch := first | omega | (simp only [List.length_cons, List.length_nil]; first | done | omega)) only [go_sem, Nat.reduceAdd, Nat.reduceMul, Nat.reduceSub, Nat.reduceEqDiff, Nat.reduceLeDiff, Nat.reduceMod, Nat.reduceLT, Int.reduceToNat, Int.reduceAdd, Int.reduceSub, Int.reduceMul, Int.reduceNeg, Int.reduceLE, Int.reduceLT, Int.toNat_natCast, Int.cast_ofNat_Int, Int.reduceNe, Int.reduceEq, Int.reduceBEq, Int.reduceBNe, not_false_eq_true, ne_eq, Int.reduceTMod, Int.reduceTDiv, beq_self_eq_true, bne_self_eq_false, List.contains_cons, List.contains_nil, Nat.reduceBEq]) | (refine allI (fun b => ?_)) | (refine allT (fun τ => ?_)) | (refine brP (fun h => ?_) (fun h => ?_) <;> (try simp only [Bool.and_eq_true, Bool.and_eq_false_iff, Bool.or_eq_true, Bool.or_eq_false_iff, Bool.not_eq_true', Bool.not_eq_false', decide_eq_true_eq, decide_eq_false_iff_not, beq_iff_eq, beq_eq_false_iff_ne, ne_eq, bne_iff_ne, Int.not_lt, Int.not_le] at h)))
    first | refine call_U (hsm) ?_ | refine call_T (hsm) ?_ | refine call_N (hsm) ?_ | refine call_of (hsm) ?_
    simp (disch := first | omega | (simp only [List.length_cons, List.length_nil]; first | done | omega)) only [go_sem, Nat.reduceAdd, Nat.reduceMul, Nat.reduceSub, Nat.reduceEqDiff, Nat.reduceLeDiff, Nat.reduceMod, Nat.reduceLT, Int.reduceToNat, Int.reduceAdd, Int.reduceSub, Int.reduceMul, Int.reduceNeg, Int.reduceLE, Int.reduceLT, Int.toNat_natCast, Int.cast_ofNat_Int, Int.reduceNe, Int.reduceEq, Int.reduceBEq, Int.reduceBNe, not_false_eq_true, ne_eq, Int.reduceTMod, Int.reduceTDiv, beq_self_eq_true, bne_self_eq_false, List.contains_cons, List.contains_nil, Nat.reduceBEq]
    exact hend { x with ti := x.ti + n } (a + 1 + 1) b1 c1 b2 c2 b3 c3 (.tick n hn.1 hn.2) (by omega) hc _ (R := []) (List.Perm.refl _)
  · have hp1 := pick_ 3000 sb l (a + 1) [64, 20, 6, 2] hl1 (by simp) (by simp)
    have hm1 := pickV_mem l (a + 1) [64, 20, 6, 2] (by simp)
    have hp2 := pick_ 3000 sb l (a + 1 + 1) [0, 3] hl2 (by simp) (by simp)
    have hm2 := pickV_mem l (a + 1 + 1) [0, 3] (by simp)
    have hp3 := range_ 3000 sb l (a + 1 + 1 + 1) 1 3 hl3 (by omega) (by omega)
    have hm3 := nV_range l (a + 1 + 1 + 1) (n := 3 - 1 + 1) (by omega)
    generalize pickV l (a + 1) [64, 20, 6, 2] = u at hp1 hm1
    generalize pickV l (a + 1 + 1) [0, 3] = v at hp2 hm2
    have hm3' : 1 ≤ 1 + nV l (a + 1 + 1 + 1) (3 - 1 + 1) ∧ 1 + nV l (a + 1 + 1 + 1) (3 - 1 + 1) ≤ 3 := by omega
    generalize 1 + nV l (a + 1 + 1 + 1) (3 - 1 + 1) = w at hp3 hm3'
    have hset : setOk u v w = true := by
      simp at hm1 hm2
      simp only [setOk, decide_eq_true_eq]
      omega
    have hc1 := conf x.b hx.b.okB u v w
    have hc2 := rconf x.b hx.b.okB u v w
    have hsm := hsame _ (.conf u v w hset)
    have hst : Stepd x { x with b := confB x.b u v w } := .conf u v w hset
    dsimp only at hsm
    generalize confB x.b u v w = B at *
    unfold BlL BlC InS RcS NoS at hc1 hc2
    first | refine actsE_U (hp1) (by first | rfl | simp only [getH, if_true]) ?_ | refine actsE_T (hp1) (by first | rfl | simp only [getH, if_true]) ?_ | refine actsE_N (hp1) (by first | rfl | simp only [getH, if_true]) ?_ | refine actsE_of (hp1) (by first | rfl | simp only [getH, if_true]) ?_
    rintro _ _ ⟨rfl, rfl⟩
    simp (disch := first | omega | (simp only [List.length_cons, List.length_nil]; first | done | omega)) only [go_sem, Nat.reduceAdd, Nat.reduceMul, Nat.reduceSub, Nat.reduceEqDiff, Nat.reduceLeDiff, Nat.reduceMod, Nat.reduceLT, Int.reduceToNat, Int.reduceAdd, Int.reduceSub, Int.reduceMul, Int.reduceNeg, Int.reduceLE, Int.reduceLT, Int.toNat_natCast, Int.cast_ofNat_Int, Int.reduceNe, Int.reduceEq, Int.reduceBEq, Int.reduceBNe, not_false_eq_true, ne_eq, Int.reduceTMod, Int.reduceTDiv, beq_self_eq_true, bne_self_eq_false, List.contains_cons, List.contains_nil, Nat.reduceBEq]
    first | refine actsE_U (hp2) (by first | rfl | simp only [getH, if_true]) ?_ | refine actsE_T (hp2) (by first | rfl | simp only [getH, if_true]) ?_ | refine actsE_N (hp2) (by first | rfl | simp only [getH, if_true]) ?_ | refine actsE_of (hp2) (by first | rfl | simp only [getH, if_true]) ?_
    rintro _ _ ⟨rfl, rfl⟩
    simp (disch := first | omega | (simp only [List.length_cons, List.length_nil]; first | done | omega)) only [go_sem, Nat.reduceAdd, Nat.reduceMul, Nat.reduceSub, Nat.reduceEqDiff, Nat.reduceLeDiff, Nat.reduceMod, Nat.reduceLT, Int.reduceToNat, Int.reduceAdd, Int.reduceSub, Int.reduceMul, Int.reduceNeg, Int.reduceLE, Int.reduceLT, Int.toNat_natCast, Int.cast_ofNat_Int, Int.reduceNe, Int.reduceEq, Int.reduceBEq, Int.reduceBNe, not_false_eq_true, ne_eq, Int.reduceTMod, Int.reduceTDiv, beq_self_eq_true, bne_self_eq_false, List.contains_cons, List.contains_nil, Nat.reduceBEq]
    first | refine actsE_U (hp3) (by first | rfl | simp only [getH, if_true]) ?_ | refine actsE_T (hp3) (by first | rfl | simp only [getH, if_true]) ?_ | refine actsE_N (hp3) (by first | rfl | simp only [getH, if_true]) ?_ | refine actsE_of (hp3) (by first | rfl | simp only [getH, if_true]) ?_
    rintro _ _ ⟨rfl, rfl⟩
    simp (disch := first | omega | (simp only [List.length_cons, List.length_nil]; first | done | omega)) only [go_sem, Nat.reduceAdd, Nat.reduceMul, Nat.reduceSub, Nat.reduceEqDiff, Nat.reduceLeDiff, Nat.reduceMod, Nat.reduceLT, Int.reduceToNat, Int.reduceAdd, Int.reduceSub, Int.reduceMul, Int.reduceNeg, Int.reduceLE, Int.reduceLT, Int.toNat_natCast, Int.cast_ofNat_Int, Int.reduceNe, Int.reduceEq, Int.reduceBEq, Int.reduceBNe, not_false_eq_true, ne_eq, Int.reduceTMod, Int.reduceTDiv, beq_self_eq_true, bne_self_eq_false, List.contains_cons, List.contains_nil, Nat.reduceBEq]
    first | refine call_U (hc1) ?_ | refine call_T (hc1) ?_ | refine call_N (hc1) ?_ | refine call_of (hc1) ?_
    simp (disch := first | omega | (simp only [List.length_cons, List.length_nil]; first | done | omega)) only [go_sem, Nat.reduceAdd, Nat.reduceMul, Nat.reduceSub, Nat.reduceEqDiff, Nat.reduceLeDiff, Nat.reduceMod, Nat.reduceLT, Int.reduceToNat, Int.reduceAdd, Int.reduceSub, Int.reduceMul, Int.reduceNeg, Int.reduceLE, Int.reduceLT, Int.toNat_natCast, Int.cast_ofNat_Int, Int.reduceNe, Int.reduceEq, Int.reduceBEq, Int.reduceBNe, not_false_eq_true, ne_eq, Int.reduceTMod, Int.reduceTDiv, beq_self_eq_true, bne_self_eq_false, List.contains_cons, List.contains_nil, Nat.reduceBEq]
    intro p9
    first | refine call_U (hc2) ?_ | refine call_T (hc2) ?_ | refine call_N (hc2) ?_ | refine call_of (hc2) ?_
    simp (disch := first | omega | (simp only [List.length_cons, List.length_nil]; first | done | omega)) only [go_sem, Nat.reduceAdd, Nat.reduceMul, Nat.reduceSub, Nat.reduceEqDiff, Nat.reduceLeDiff, Nat.reduceMod, Nat.reduceLT, Int.reduceToNat, Int.reduceAdd, Int.reduceSub, Int.reduceMul, Int.reduceNeg, Int.reduceLE, Int.reduceLT, Int.toNat_natCast, Int.cast_ofNat_Int, Int.reduceNe, Int.reduceEq, Int.reduceBEq, Int.reduceBNe, not_false_eq_true, ne_eq, Int.reduceTMod, Int.reduceTDiv, beq_self_eq_true, bne_self_eq_false, List.contains_cons, List.contains_nil, Nat.reduceBEq]
    intro p11
    repeat' (first | (simp (disch := first | omega | (simp only [List.length_cons, List.length_nil]; first | done | omega)) only [go_sem, Nat.reduceAdd, Nat.reduceMul, Nat.reduceSub, Nat.reduceEqDiff, Nat.reduceLeDiff, Nat.reduceMod, Nat.reduceLT, Int.reduceToNat, Int.reduceAdd, Int.reduceSub, Int.reduceMul, Int.reduceNeg, Int.reduceLE, Int.reduceLT, Int.toNat_natCast, Int.cast_ofNat_Int, Int.reduceNe, Int.reduceEq, Int.reduceBEq, Int.reduceBNe, not_false_eq_true, ne_eq, Int.reduceTMod, Int.reduceTDiv, beq_self_eq_true, bne_self_eq_false, List.contains_cons, List.contains_nil, Nat.reduceBEq, bne_self_eq_false]) | (refine allI (fun b => ?_)) | (refine allT (fun τ => ?_)) | (refine brP (fun h => ?_) (fun h => ?_) <;> (try simp only [Bool.and_eq_true, Bool.and_eq_false_iff, Bool.or_eq_true, Bool.or_eq_false_iff, Bool.not_eq_true', Bool.not_eq_false', decide_eq_true_eq, decide_eq_false_iff_not, beq_iff_eq, beq_eq_false_iff_ne, ne_eq, bne_iff_ne, Int.not_lt, Int.not_le] at h)))
    first | refine call_U (hsm) ?_ | refine call_T (hsm) ?_ | refine call_N (hsm) ?_ | refine call_of (hsm) ?_
    simp (disch := first | omega | (simp only [List.length_cons, List.length_nil]; first | done | omega)) only [go_sem, Nat.reduceAdd, Nat.reduceMul, Nat.reduceSub, Nat.reduceEqDiff, Nat.reduceLeDiff, Nat.reduceMod, Nat.reduceLT, Int.reduceToNat, Int.reduceAdd, Int.reduceSub, Int.reduceMul, Int.reduceNeg, Int.reduceLE, Int.reduceLT, Int.toNat_natCast, Int.cast_ofNat_Int, Int.reduceNe, Int.reduceEq, Int.reduceBEq, Int.reduceBNe, not_false_eq_true, ne_eq, Int.reduceTMod, Int.reduceTDiv, beq_self_eq_true, bne_self_eq_false, List.contains_cons, List.contains_nil, Nat.reduceBEq]
    exact hend { x with b := B } (a + 1 + 1 + 1 + 1) b1 c1 b2 c2 b3 c3 hst (by omega) hc _ (pick_perm rfl (pick_perm rfl (pick_perm rfl (pick_perm rfl (pick_perm rfl (List.Perm.refl _))))))
end Go.Proofs.Ytofpepjehiohcaa
