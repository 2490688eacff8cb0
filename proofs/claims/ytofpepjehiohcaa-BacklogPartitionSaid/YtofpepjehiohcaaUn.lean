/- Layer 20: the reference: what is lost, what is told. -/
import Derived.Test.YtofpepjehiohcaaUm
namespace Go.Proofs.Ytofpepjehiohcaa
open Go Go.Lx
set_option linter.unusedSimpArgs false
set_option linter.unusedVariables false
set_option maxRecDepth 100000
set_option maxHeartbeats 1000000

theorem pend_f {p : Lo} (h : pend p = false) : p.f = 0 := by
  simp [pend] at h; exact h.1
theorem rlose1 (b : Bl) (k : Nat) (hk : okK k b) (hpf : pend b.pd = true → b.pd.f ≠ 0) (p : Nat) (t3 : Tok) (o q : LV) (t : Int) :
    Acts2 Try.prog gl 37 [.ptr 9 p 0, .int .i64 t, .ptr 9 p 9] 9 (.blk p (BlC b o q (.osl 2003 t3 2 b.no.length (b.no.flatMap NoC)))) 2003 (.tok t3)
      fun r e1 e2 => ∃ t3', e1 = .blk p (BlC (loseB b 1 t) o q (.osl 2003 t3' 2 (loseB b 1 t).no.length ((loseB b 1 t).no.flatMap NoC))) ∧ e2 = .tok t3' := by
  refine fn_viewT Try.func37 t37 Try.ntmps37 (by simp) ?_
  obtain ⟨k0, k1_, k2, k3, k4, k5, k6, k7, k8, k9, k10, k11, k12, k13, k14⟩ := hk
  have hlen := len_no b.no
  have hf : (b.pd.f = 0 ∧ pend b.pd = false) ∨ (b.pd.f ≠ 0 ∧ pend b.pd = true) := by
    cases hP : pend b.pd
    · exact .inl ⟨pend_f hP, rfl⟩
    · exact .inr ⟨hpf hP, rfl⟩
  unfold c37 r37 BlC
  rcases hf with ⟨hf, hP⟩ | ⟨hf, hP⟩
  · have hz : (b.pd.f == 0) = true := by simpa using hf
    repeat' (first | (simp (disch := first | omega | (simp only [List.length_cons, List.length_nil]; first | done | omega)) only [go_sem, Nat.reduceAdd, Nat.reduceMul, Nat.reduceSub, Nat.reduceEqDiff, Nat.reduceLeDiff, Nat.reduceMod, Nat.reduceLT, Int.reduceToNat, Int.reduceAdd, Int.reduceSub, Int.reduceMul, Int.reduceNeg, Int.reduceLE, Int.reduceLT, Int.toNat_natCast, Int.cast_ofNat_Int, Int.reduceNe, Int.reduceEq, Int.reduceBEq, Int.reduceBNe, not_false_eq_true, ne_eq, Int.reduceTMod, Int.reduceTDiv, beq_self_eq_true, bne_self_eq_false, List.contains_cons, List.contains_nil, Nat.reduceBEq, zN, hz]) | (refine allI (fun b => ?_)) | (refine allT (fun τ => ?_)) | (refine brP (fun h => ?_) (fun h => ?_) <;> (try simp only [Bool.and_eq_true, Bool.and_eq_false_iff, Bool.or_eq_true, Bool.or_eq_false_iff, Bool.not_eq_true', Bool.not_eq_false', decide_eq_true_eq, decide_eq_false_iff_not, beq_iff_eq, beq_eq_false_iff_ne, ne_eq, bne_iff_ne, Int.not_lt, Int.not_le] at h)))
    · have hF : b.fail = 2 := h
      have hno : (loseB b 1 t).no = trim (b.no ++ [(t, b.ser + 1)]) := by simp [loseB, hF]
      have hcs : b.no.flatMap NoC ++ [.int .i64 t, .int .i64 (b.ser + 1)] = (b.no ++ [(t, b.ser + 1)]).flatMap NoC := by simp [NoC]
      have hln : (b.no ++ [(t, b.ser + 1)]).length = b.no.length + 1 := by simp
      refine ⟨by simp only [roomy]; omega, fun t2 => ?_⟩
      rw [hcs]
      have hF3 : (b.fail == 3) = false := by rw [hF]; rfl
      repeat' (first | (simp (disch := first | omega | (simp only [List.length_cons, List.length_nil]; first | done | omega)) only [go_sem, Nat.reduceAdd, Nat.reduceMul, Nat.reduceSub, Nat.reduceEqDiff, Nat.reduceLeDiff, Nat.reduceMod, Nat.reduceLT, Int.reduceToNat, Int.reduceAdd, Int.reduceSub, Int.reduceMul, Int.reduceNeg, Int.reduceLE, Int.reduceLT, Int.toNat_natCast, Int.cast_ofNat_Int, Int.reduceNe, Int.reduceEq, Int.reduceBEq, Int.reduceBNe, not_false_eq_true, ne_eq, Int.reduceTMod, Int.reduceTDiv, beq_self_eq_true, bne_self_eq_false, List.contains_cons, List.contains_nil, Nat.reduceBEq, hF3]) | (refine allI (fun b => ?_)) | (refine allT (fun τ => ?_)) | (refine brP (fun h => ?_) (fun h => ?_) <;> (try simp only [Bool.and_eq_true, Bool.and_eq_false_iff, Bool.or_eq_true, Bool.or_eq_false_iff, Bool.not_eq_true', Bool.not_eq_false', decide_eq_true_eq, decide_eq_false_iff_not, beq_iff_eq, beq_eq_false_iff_ne, ne_eq, bne_iff_ne, Int.not_lt, Int.not_le] at h)))
      · have hd := drop_no (b.no ++ [(t, b.ser + 1)]) 1
        refine ⟨by omega, ?_⟩
        refine ⟨_, _, leVH.of (leV.refl _) ⟨_, List.Sublist.refl _, List.Perm.swap _ _ _⟩, _, _, rfl, t2, ?_, rfl⟩
        rw [hno, trim, hln, List.length_drop, hln, show b.no.length + 1 - 16 = 1 by omega, show b.no.length + 1 - 1 = b.no.length by omega]
        simp only [Nat.one_mul] at hd
        rw [hd]
        simp [loseB, losePd, bump, hP, hF]
      · have ht : trim (b.no ++ [(t, b.ser + 1)]) = b.no ++ [(t, b.ser + 1)] := by rw [trim, hln, show b.no.length + 1 - 16 = 0 by omega, List.drop_zero]
        refine ⟨_, _, leVH.of (leV.refl _) ⟨_, List.Sublist.refl _, List.Perm.swap _ _ _⟩, _, _, rfl, t2, ?_, rfl⟩
        rw [hno, ht, hln]
        simp [loseB, losePd, bump, hP, hF]
    all_goals
      rename_i h2
      refine ⟨_, _, leVH.self _ _, _, _, rfl, t3, ?_, rfl⟩
      simp [loseB, losePd, bump, hP, h, h2]
  · have hz : (b.pd.f == 0) = false := by simpa using hf
    repeat' (first | (simp (disch := first | omega | (simp only [List.length_cons, List.length_nil]; first | done | omega)) only [go_sem, Nat.reduceAdd, Nat.reduceMul, Nat.reduceSub, Nat.reduceEqDiff, Nat.reduceLeDiff, Nat.reduceMod, Nat.reduceLT, Int.reduceToNat, Int.reduceAdd, Int.reduceSub, Int.reduceMul, Int.reduceNeg, Int.reduceLE, Int.reduceLT, Int.toNat_natCast, Int.cast_ofNat_Int, Int.reduceNe, Int.reduceEq, Int.reduceBEq, Int.reduceBNe, not_false_eq_true, ne_eq, Int.reduceTMod, Int.reduceTDiv, beq_self_eq_true, bne_self_eq_false, List.contains_cons, List.contains_nil, Nat.reduceBEq, zN, hz]) | (refine allI (fun b => ?_)) | (refine allT (fun τ => ?_)) | (refine brP (fun h => ?_) (fun h => ?_) <;> (try simp only [Bool.and_eq_true, Bool.and_eq_false_iff, Bool.or_eq_true, Bool.or_eq_false_iff, Bool.not_eq_true', Bool.not_eq_false', decide_eq_true_eq, decide_eq_false_iff_not, beq_iff_eq, beq_eq_false_iff_ne, ne_eq, bne_iff_ne, Int.not_lt, Int.not_le] at h)))
    · have hF : b.fail = 2 := h
      have hno : (loseB b 1 t).no = trim (b.no ++ [(t, b.ser + 1)]) := by simp [loseB, hF]
      have hcs : b.no.flatMap NoC ++ [.int .i64 t, .int .i64 (b.ser + 1)] = (b.no ++ [(t, b.ser + 1)]).flatMap NoC := by simp [NoC]
      have hln : (b.no ++ [(t, b.ser + 1)]).length = b.no.length + 1 := by simp
      refine ⟨by simp only [roomy]; omega, fun t2 => ?_⟩
      rw [hcs]
      have hF3 : (b.fail == 3) = false := by rw [hF]; rfl
      repeat' (first | (simp (disch := first | omega | (simp only [List.length_cons, List.length_nil]; first | done | omega)) only [go_sem, Nat.reduceAdd, Nat.reduceMul, Nat.reduceSub, Nat.reduceEqDiff, Nat.reduceLeDiff, Nat.reduceMod, Nat.reduceLT, Int.reduceToNat, Int.reduceAdd, Int.reduceSub, Int.reduceMul, Int.reduceNeg, Int.reduceLE, Int.reduceLT, Int.toNat_natCast, Int.cast_ofNat_Int, Int.reduceNe, Int.reduceEq, Int.reduceBEq, Int.reduceBNe, not_false_eq_true, ne_eq, Int.reduceTMod, Int.reduceTDiv, beq_self_eq_true, bne_self_eq_false, List.contains_cons, List.contains_nil, Nat.reduceBEq, hF3]) | (refine allI (fun b => ?_)) | (refine allT (fun τ => ?_)) | (refine brP (fun h => ?_) (fun h => ?_) <;> (try simp only [Bool.and_eq_true, Bool.and_eq_false_iff, Bool.or_eq_true, Bool.or_eq_false_iff, Bool.not_eq_true', Bool.not_eq_false', decide_eq_true_eq, decide_eq_false_iff_not, beq_iff_eq, beq_eq_false_iff_ne, ne_eq, bne_iff_ne, Int.not_lt, Int.not_le] at h)))
      · have hd := drop_no (b.no ++ [(t, b.ser + 1)]) 1
        refine ⟨by omega, ?_⟩
        refine ⟨_, _, leVH.of (leV.refl _) ⟨_, List.Sublist.refl _, List.Perm.swap _ _ _⟩, _, _, rfl, t2, ?_, rfl⟩
        rw [hno, trim, hln, List.length_drop, hln, show b.no.length + 1 - 16 = 1 by omega, show b.no.length + 1 - 1 = b.no.length by omega]
        simp only [Nat.one_mul] at hd
        rw [hd]
        simp [loseB, losePd, bump, hP, hF]
      · have ht : trim (b.no ++ [(t, b.ser + 1)]) = b.no ++ [(t, b.ser + 1)] := by rw [trim, hln, show b.no.length + 1 - 16 = 0 by omega, List.drop_zero]
        refine ⟨_, _, leVH.of (leV.refl _) ⟨_, List.Sublist.refl _, List.Perm.swap _ _ _⟩, _, _, rfl, t2, ?_, rfl⟩
        rw [hno, ht, hln]
        simp [loseB, losePd, bump, hP, hF]
    all_goals
      rename_i h2
      refine ⟨_, _, leVH.self _ _, _, _, rfl, t3, ?_, rfl⟩
      simp [loseB, losePd, bump, hP, h, h2]
theorem rlose2 (b : Bl) (k : Nat) (hk : okK k b) (hpf : pend b.pd = true → b.pd.f ≠ 0) (p : Nat) (t3 : Tok) (o q : LV) (t : Int) :
    Acts2 Try.prog gl 37 [.ptr 9 p 0, .int .i64 t, .ptr 9 p 10] 9 (.blk p (BlC b o q (.osl 2003 t3 2 b.no.length (b.no.flatMap NoC)))) 2003 (.tok t3)
      fun r e1 e2 => ∃ t3', e1 = .blk p (BlC (loseB b 2 t) o q (.osl 2003 t3' 2 (loseB b 2 t).no.length ((loseB b 2 t).no.flatMap NoC))) ∧ e2 = .tok t3' := by
  refine fn_viewT Try.func37 t37 Try.ntmps37 (by simp) ?_
  obtain ⟨k0, k1_, k2, k3, k4, k5, k6, k7, k8, k9, k10, k11, k12, k13, k14⟩ := hk
  have hlen := len_no b.no
  have hf : (b.pd.f = 0 ∧ pend b.pd = false) ∨ (b.pd.f ≠ 0 ∧ pend b.pd = true) := by
    cases hP : pend b.pd
    · exact .inl ⟨pend_f hP, rfl⟩
    · exact .inr ⟨hpf hP, rfl⟩
  unfold c37 r37 BlC
  rcases hf with ⟨hf, hP⟩ | ⟨hf, hP⟩
  · have hz : (b.pd.f == 0) = true := by simpa using hf
    repeat' (first | (simp (disch := first | omega | (simp only [List.length_cons, List.length_nil]; first | done | omega)) only [go_sem, Nat.reduceAdd, Nat.reduceMul, Nat.reduceSub, Nat.reduceEqDiff, Nat.reduceLeDiff, Nat.reduceMod, Nat.reduceLT, Int.reduceToNat, Int.reduceAdd, Int.reduceSub, Int.reduceMul, Int.reduceNeg, Int.reduceLE, Int.reduceLT, Int.toNat_natCast, Int.cast_ofNat_Int, Int.reduceNe, Int.reduceEq, Int.reduceBEq, Int.reduceBNe, not_false_eq_true, ne_eq, Int.reduceTMod, Int.reduceTDiv, beq_self_eq_true, bne_self_eq_false, List.contains_cons, List.contains_nil, Nat.reduceBEq, zN, hz]) | (refine allI (fun b => ?_)) | (refine allT (fun τ => ?_)) | (refine brP (fun h => ?_) (fun h => ?_) <;> (try simp only [Bool.and_eq_true, Bool.and_eq_false_iff, Bool.or_eq_true, Bool.or_eq_false_iff, Bool.not_eq_true', Bool.not_eq_false', decide_eq_true_eq, decide_eq_false_iff_not, beq_iff_eq, beq_eq_false_iff_ne, ne_eq, bne_iff_ne, Int.not_lt, Int.not_le] at h)))
    · have hF : b.fail = 2 := h
      have hno : (loseB b 2 t).no = trim (b.no ++ [(t, b.ser + 1)]) := by simp [loseB, hF]
      have hcs : b.no.flatMap NoC ++ [.int .i64 t, .int .i64 (b.ser + 1)] = (b.no ++ [(t, b.ser + 1)]).flatMap NoC := by simp [NoC]
      have hln : (b.no ++ [(t, b.ser + 1)]).length = b.no.length + 1 := by simp
      refine ⟨by simp only [roomy]; omega, fun t2 => ?_⟩
      rw [hcs]
      have hF3 : (b.fail == 3) = false := by rw [hF]; rfl
      repeat' (first | (simp (disch := first | omega | (simp only [List.length_cons, List.length_nil]; first | done | omega)) only [go_sem, Nat.reduceAdd, Nat.reduceMul, Nat.reduceSub, Nat.reduceEqDiff, Nat.reduceLeDiff, Nat.reduceMod, Nat.reduceLT, Int.reduceToNat, Int.reduceAdd, Int.reduceSub, Int.reduceMul, Int.reduceNeg, Int.reduceLE, Int.reduceLT, Int.toNat_natCast, Int.cast_ofNat_Int, Int.reduceNe, Int.reduceEq, Int.reduceBEq, Int.reduceBNe, not_false_eq_true, ne_eq, Int.reduceTMod, Int.reduceTDiv, beq_self_eq_true, bne_self_eq_false, List.contains_cons, List.contains_nil, Nat.reduceBEq, hF3]) | (refine allI (fun b => ?_)) | (refine allT (fun τ => ?_)) | (refine brP (fun h => ?_) (fun h => ?_) <;> (try simp only [Bool.and_eq_true, Bool.and_eq_false_iff, Bool.or_eq_true, Bool.or_eq_false_iff, Bool.not_eq_true', Bool.not_eq_false', decide_eq_true_eq, decide_eq_false_iff_not, beq_iff_eq, beq_eq_false_iff_ne, ne_eq, bne_iff_ne, Int.not_lt, Int.not_le] at h)))
      · have hd := drop_no (b.no ++ [(t, b.ser + 1)]) 1
        refine ⟨by omega, ?_⟩
        refine ⟨_, _, leVH.of (leV.refl _) ⟨_, List.Sublist.refl _, List.Perm.swap _ _ _⟩, _, _, rfl, t2, ?_, rfl⟩
        rw [hno, trim, hln, List.length_drop, hln, show b.no.length + 1 - 16 = 1 by omega, show b.no.length + 1 - 1 = b.no.length by omega]
        simp only [Nat.one_mul] at hd
        rw [hd]
        simp [loseB, losePd, bump, hP, hF]
      · have ht : trim (b.no ++ [(t, b.ser + 1)]) = b.no ++ [(t, b.ser + 1)] := by rw [trim, hln, show b.no.length + 1 - 16 = 0 by omega, List.drop_zero]
        refine ⟨_, _, leVH.of (leV.refl _) ⟨_, List.Sublist.refl _, List.Perm.swap _ _ _⟩, _, _, rfl, t2, ?_, rfl⟩
        rw [hno, ht, hln]
        simp [loseB, losePd, bump, hP, hF]
    all_goals
      rename_i h2
      refine ⟨_, _, leVH.self _ _, _, _, rfl, t3, ?_, rfl⟩
      simp [loseB, losePd, bump, hP, h, h2]
  · have hz : (b.pd.f == 0) = false := by simpa using hf
    repeat' (first | (simp (disch := first | omega | (simp only [List.length_cons, List.length_nil]; first | done | omega)) only [go_sem, Nat.reduceAdd, Nat.reduceMul, Nat.reduceSub, Nat.reduceEqDiff, Nat.reduceLeDiff, Nat.reduceMod, Nat.reduceLT, Int.reduceToNat, Int.reduceAdd, Int.reduceSub, Int.reduceMul, Int.reduceNeg, Int.reduceLE, Int.reduceLT, Int.toNat_natCast, Int.cast_ofNat_Int, Int.reduceNe, Int.reduceEq, Int.reduceBEq, Int.reduceBNe, not_false_eq_true, ne_eq, Int.reduceTMod, Int.reduceTDiv, beq_self_eq_true, bne_self_eq_false, List.contains_cons, List.contains_nil, Nat.reduceBEq, zN, hz]) | (refine allI (fun b => ?_)) | (refine allT (fun τ => ?_)) | (refine brP (fun h => ?_) (fun h => ?_) <;> (try simp only [Bool.and_eq_true, Bool.and_eq_false_iff, Bool.or_eq_true, Bool.or_eq_false_iff, Bool.not_eq_true', Bool.not_eq_false', decide_eq_true_eq, decide_eq_false_iff_not, beq_iff_eq, beq_eq_false_iff_ne, ne_eq, bne_iff_ne, Int.not_lt, Int.not_le] at h)))
    · have hF : b.fail = 2 := h
      have hno : (loseB b 2 t).no = trim (b.no ++ [(t, b.ser + 1)]) := by simp [loseB, hF]
      have hcs : b.no.flatMap NoC ++ [.int .i64 t, .int .i64 (b.ser + 1)] = (b.no ++ [(t, b.ser + 1)]).flatMap NoC := by simp [NoC]
      have hln : (b.no ++ [(t, b.ser + 1)]).length = b.no.length + 1 := by simp
      refine ⟨by simp only [roomy]; omega, fun t2 => ?_⟩
      rw [hcs]
      have hF3 : (b.fail == 3) = false := by rw [hF]; rfl
      repeat' (first | (simp (disch := first | omega | (simp only [List.length_cons, List.length_nil]; first | done | omega)) only [go_sem, Nat.reduceAdd, Nat.reduceMul, Nat.reduceSub, Nat.reduceEqDiff, Nat.reduceLeDiff, Nat.reduceMod, Nat.reduceLT, Int.reduceToNat, Int.reduceAdd, Int.reduceSub, Int.reduceMul, Int.reduceNeg, Int.reduceLE, Int.reduceLT, Int.toNat_natCast, Int.cast_ofNat_Int, Int.reduceNe, Int.reduceEq, Int.reduceBEq, Int.reduceBNe, not_false_eq_true, ne_eq, Int.reduceTMod, Int.reduceTDiv, beq_self_eq_true, bne_self_eq_false, List.contains_cons, List.contains_nil, Nat.reduceBEq, hF3]) | (refine allI (fun b => ?_)) | (refine allT (fun τ => ?_)) | (refine brP (fun h => ?_) (fun h => ?_) <;> (try simp only [Bool.and_eq_true, Bool.and_eq_false_iff, Bool.or_eq_true, Bool.or_eq_false_iff, Bool.not_eq_true', Bool.not_eq_false', decide_eq_true_eq, decide_eq_false_iff_not, beq_iff_eq, beq_eq_false_iff_ne, ne_eq, bne_iff_ne, Int.not_lt, Int.not_le] at h)))
      · have hd := drop_no (b.no ++ [(t, b.ser + 1)]) 1
        refine ⟨by omega, ?_⟩
        refine ⟨_, _, leVH.of (leV.refl _) ⟨_, List.Sublist.refl _, List.Perm.swap _ _ _⟩, _, _, rfl, t2, ?_, rfl⟩
        rw [hno, trim, hln, List.length_drop, hln, show b.no.length + 1 - 16 = 1 by omega, show b.no.length + 1 - 1 = b.no.length by omega]
        simp only [Nat.one_mul] at hd
        rw [hd]
        simp [loseB, losePd, bump, hP, hF]
      · have ht : trim (b.no ++ [(t, b.ser + 1)]) = b.no ++ [(t, b.ser + 1)] := by rw [trim, hln, show b.no.length + 1 - 16 = 0 by omega, List.drop_zero]
        refine ⟨_, _, leVH.of (leV.refl _) ⟨_, List.Sublist.refl _, List.Perm.swap _ _ _⟩, _, _, rfl, t2, ?_, rfl⟩
        rw [hno, ht, hln]
        simp [loseB, losePd, bump, hP, hF]
    all_goals
      rename_i h2
      refine ⟨_, _, leVH.self _ _, _, _, rfl, t3, ?_, rfl⟩
      simp [loseB, losePd, bump, hP, h, h2]
theorem rlose3 (b : Bl) (k : Nat) (hk : okK k b) (hpf : pend b.pd = true → b.pd.f ≠ 0) (p : Nat) (t3 : Tok) (o q : LV) (t : Int) :
    Acts2 Try.prog gl 37 [.ptr 9 p 0, .int .i64 t, .ptr 9 p 11] 9 (.blk p (BlC b o q (.osl 2003 t3 2 b.no.length (b.no.flatMap NoC)))) 2003 (.tok t3)
      fun r e1 e2 => ∃ t3', e1 = .blk p (BlC (loseB b 3 t) o q (.osl 2003 t3' 2 (loseB b 3 t).no.length ((loseB b 3 t).no.flatMap NoC))) ∧ e2 = .tok t3' := by
  refine fn_viewT Try.func37 t37 Try.ntmps37 (by simp) ?_
  obtain ⟨k0, k1_, k2, k3, k4, k5, k6, k7, k8, k9, k10, k11, k12, k13, k14⟩ := hk
  have hlen := len_no b.no
  have hf : (b.pd.f = 0 ∧ pend b.pd = false) ∨ (b.pd.f ≠ 0 ∧ pend b.pd = true) := by
    cases hP : pend b.pd
    · exact .inl ⟨pend_f hP, rfl⟩
    · exact .inr ⟨hpf hP, rfl⟩
  unfold c37 r37 BlC
  rcases hf with ⟨hf, hP⟩ | ⟨hf, hP⟩
  · have hz : (b.pd.f == 0) = true := by simpa using hf
    repeat' (first | (simp (disch := first | omega | (simp only [List.length_cons, List.length_nil]; first | done | omega)) only [go_sem, Nat.reduceAdd, Nat.reduceMul, Nat.reduceSub, Nat.reduceEqDiff, Nat.reduceLeDiff, Nat.reduceMod, Nat.reduceLT, Int.reduceToNat, Int.reduceAdd, Int.reduceSub, Int.reduceMul, Int.reduceNeg, Int.reduceLE, Int.reduceLT, Int.toNat_natCast, Int.cast_ofNat_Int, Int.reduceNe, Int.reduceEq, Int.reduceBEq, Int.reduceBNe, not_false_eq_true, ne_eq, Int.reduceTMod, Int.reduceTDiv, beq_self_eq_true, bne_self_eq_false, List.contains_cons, List.contains_nil, Nat.reduceBEq, zN, hz]) | (refine allI (fun b => ?_)) | (refine allT (fun τ => ?_)) | (refine brP (fun h => ?_) (fun h => ?_) <;> (try simp only [Bool.and_eq_true, Bool.and_eq_false_iff, Bool.or_eq_true, Bool.or_eq_false_iff, Bool.not_eq_true', Bool.not_eq_false', decide_eq_true_eq, decide_eq_false_iff_not, beq_iff_eq, beq_eq_false_iff_ne, ne_eq, bne_iff_ne, Int.not_lt, Int.not_le] at h)))
    · have hF : b.fail = 2 := h
      have hno : (loseB b 3 t).no = trim (b.no ++ [(t, b.ser + 1)]) := by simp [loseB, hF]
      have hcs : b.no.flatMap NoC ++ [.int .i64 t, .int .i64 (b.ser + 1)] = (b.no ++ [(t, b.ser + 1)]).flatMap NoC := by simp [NoC]
      have hln : (b.no ++ [(t, b.ser + 1)]).length = b.no.length + 1 := by simp
      refine ⟨by simp only [roomy]; omega, fun t2 => ?_⟩
      rw [hcs]
      have hF3 : (b.fail == 3) = false := by rw [hF]; rfl
      repeat' (first | (simp (disch := first | omega | (simp only [List.length_cons, List.length_nil]; first | done | omega)) only [go_sem, Nat.reduceAdd, Nat.reduceMul, Nat.reduceSub, Nat.reduceEqDiff, Nat.reduceLeDiff, Nat.reduceMod, Nat.reduceLT, Int.reduceToNat, Int.reduceAdd, Int.reduceSub, Int.reduceMul, Int.reduceNeg, Int.reduceLE, Int.reduceLT, Int.toNat_natCast, Int.cast_ofNat_Int, Int.reduceNe, Int.reduceEq, Int.reduceBEq, Int.reduceBNe, not_false_eq_true, ne_eq, Int.reduceTMod, Int.reduceTDiv, beq_self_eq_true, bne_self_eq_false, List.contains_cons, List.contains_nil, Nat.reduceBEq, hF3]) | (refine allI (fun b => ?_)) | (refine allT (fun τ => ?_)) | (refine brP (fun h => ?_) (fun h => ?_) <;> (try simp only [Bool.and_eq_true, Bool.and_eq_false_iff, Bool.or_eq_true, Bool.or_eq_false_iff, Bool.not_eq_true', Bool.not_eq_false', decide_eq_true_eq, decide_eq_false_iff_not, beq_iff_eq, beq_eq_false_iff_ne, ne_eq, bne_iff_ne, Int.not_lt, Int.not_le] at h)))
      · have hd := drop_no (b.no ++ [(t, b.ser + 1)]) 1
        refine ⟨by omega, ?_⟩
        refine ⟨_, _, leVH.of (leV.refl _) ⟨_, List.Sublist.refl _, List.Perm.swap _ _ _⟩, _, _, rfl, t2, ?_, rfl⟩
        rw [hno, trim, hln, List.length_drop, hln, show b.no.length + 1 - 16 = 1 by omega, show b.no.length + 1 - 1 = b.no.length by omega]
        simp only [Nat.one_mul] at hd
        rw [hd]
        simp [loseB, losePd, bump, hP, hF]
      · have ht : trim (b.no ++ [(t, b.ser + 1)]) = b.no ++ [(t, b.ser + 1)] := by rw [trim, hln, show b.no.length + 1 - 16 = 0 by omega, List.drop_zero]
        refine ⟨_, _, leVH.of (leV.refl _) ⟨_, List.Sublist.refl _, List.Perm.swap _ _ _⟩, _, _, rfl, t2, ?_, rfl⟩
        rw [hno, ht, hln]
        simp [loseB, losePd, bump, hP, hF]
    all_goals
      rename_i h2
      refine ⟨_, _, leVH.self _ _, _, _, rfl, t3, ?_, rfl⟩
      simp [loseB, losePd, bump, hP, h, h2]
  · have hz : (b.pd.f == 0) = false := by simpa using hf
    repeat' (first | (simp (disch := first | omega | (simp only [List.length_cons, List.length_nil]; first | done | omega)) only [go_sem, Nat.reduceAdd, Nat.reduceMul, Nat.reduceSub, Nat.reduceEqDiff, Nat.reduceLeDiff, Nat.reduceMod, Nat.reduceLT, Int.reduceToNat, Int.reduceAdd, Int.reduceSub, Int.reduceMul, Int.reduceNeg, Int.reduceLE, Int.reduceLT, Int.toNat_natCast, Int.cast_ofNat_Int, Int.reduceNe, Int.reduceEq, Int.reduceBEq, Int.reduceBNe, not_false_eq_true, ne_eq, Int.reduceTMod, Int.reduceTDiv, beq_self_eq_true, bne_self_eq_false, List.contains_cons, List.contains_nil, Nat.reduceBEq, zN, hz]) | (refine allI (fun b => ?_)) | (refine allT (fun τ => ?_)) | (refine brP (fun h => ?_) (fun h => ?_) <;> (try simp only [Bool.and_eq_true, Bool.and_eq_false_iff, Bool.or_eq_true, Bool.or_eq_false_iff, Bool.not_eq_true', Bool.not_eq_false', decide_eq_true_eq, decide_eq_false_iff_not, beq_iff_eq, beq_eq_false_iff_ne, ne_eq, bne_iff_ne, Int.not_lt, Int.not_le] at h)))
    · have hF : b.fail = 2 := h
      have hno : (loseB b 3 t).no = trim (b.no ++ [(t, b.ser + 1)]) := by simp [loseB, hF]
      have hcs : b.no.flatMap NoC ++ [.int .i64 t, .int .i64 (b.ser + 1)] = (b.no ++ [(t, b.ser + 1)]).flatMap NoC := by simp [NoC]
      have hln : (b.no ++ [(t, b.ser + 1)]).length = b.no.length + 1 := by simp
      refine ⟨by simp only [roomy]; omega, fun t2 => ?_⟩
      rw [hcs]
      have hF3 : (b.fail == 3) = false := by rw [hF]; rfl
      repeat' (first | (simp (disch := first | omega | (simp only [List.length_cons, List.length_nil]; first | done | omega)) only [go_sem, Nat.reduceAdd, Nat.reduceMul, Nat.reduceSub, Nat.reduceEqDiff, Nat.reduceLeDiff, Nat.reduceMod, Nat.reduceLT, Int.reduceToNat, Int.reduceAdd, Int.reduceSub, Int.reduceMul, Int.reduceNeg, Int.reduceLE, Int.reduceLT, Int.toNat_natCast, Int.cast_ofNat_Int, Int.reduceNe, Int.reduceEq, Int.reduceBEq, Int.reduceBNe, not_false_eq_true, ne_eq, Int.reduceTMod, Int.reduceTDiv, beq_self_eq_true, bne_self_eq_false, List.contains_cons, List.contains_nil, Nat.reduceBEq, hF3]) | (refine allI (fun b => ?_)) | (refine allT (fun τ => ?_)) | (refine brP (fun h => ?_) (fun h => ?_) <;> (try simp only [Bool.and_eq_true, Bool.and_eq_false_iff, Bool.or_eq_true, Bool.or_eq_false_iff, Bool.not_eq_true', Bool.not_eq_false', decide_eq_true_eq, decide_eq_false_iff_not, beq_iff_eq, beq_eq_false_iff_ne, ne_eq, bne_iff_ne, Int.not_lt, Int.not_le] at h)))
      · have hd := drop_no (b.no ++ [(t, b.ser + 1)]) 1
        refine ⟨by omega, ?_⟩
        refine ⟨_, _, leVH.of (leV.refl _) ⟨_, List.Sublist.refl _, List.Perm.swap _ _ _⟩, _, _, rfl, t2, ?_, rfl⟩
        rw [hno, trim, hln, List.length_drop, hln, show b.no.length + 1 - 16 = 1 by omega, show b.no.length + 1 - 1 = b.no.length by omega]
        simp only [Nat.one_mul] at hd
        rw [hd]
        simp [loseB, losePd, bump, hP, hF]
      · have ht : trim (b.no ++ [(t, b.ser + 1)]) = b.no ++ [(t, b.ser + 1)] := by rw [trim, hln, show b.no.length + 1 - 16 = 0 by omega, List.drop_zero]
        refine ⟨_, _, leVH.of (leV.refl _) ⟨_, List.Sublist.refl _, List.Perm.swap _ _ _⟩, _, _, rfl, t2, ?_, rfl⟩
        rw [hno, ht, hln]
        simp [loseB, losePd, bump, hP, hF]
    all_goals
      rename_i h2
      refine ⟨_, _, leVH.self _ _, _, _, rfl, t3, ?_, rfl⟩
      simp [loseB, losePd, bump, hP, h, h2]
theorem rtell (b : Bl) (k : Nat) (hk : okK k b) (p : Nat) (t2 : Tok) (o n : LV) (t : Int) :
    Acts2 Try.prog gl 38 [.ptr 9 p 0, .int .i64 t] 9 (.blk p (BlC b o (.osl 2002 t2 4 b.qu.length (b.qu.flatMap RcC)) n)) 2002 (.tok t2)
      fun r e1 e2 => ∃ t2', e1 = .blk p (BlC (reportB b t) o (.osl 2002 t2' 4 (reportB b t).qu.length ((reportB b t).qu.flatMap RcC)) n) ∧ e2 = .tok t2' := by
  refine fn_viewT Try.func38 t38 Try.ntmps38 (by simp) ?_
  obtain ⟨k0, k1_, k2, k3, k4, k5, k6, k7, k8, k9, k10, k11, k12, k13, k14⟩ := hk
  have hlen := len_rc b.qu
  have hl := rloss b.pd t
  have hst := stamp [lossR b.pd t 0] ⟨by simp, by simp [lossR, lossP]⟩ (b.ser + 1)
  have hst' := LCalls.args hst (args' := [.fsl 4 1 (RcC (lossR b.pd t 0)), .int .i64 (b.ser + 1)]) ⟨by simpa [RcS] using leV.fsl_sl _ _ _, leV.refl _, trivial⟩
  rw [show [lossR b.pd t 0].map (stampR (b.ser + 1)) = [lossR b.pd t (b.ser + 1)] from rfl] at hst'
  unfold RcS at hst'
  rw [List.flatMap_singleton, List.length_singleton, RcC_eq (lossR b.pd t 0)] at hst'
  rw [RcC_eq] at hl
  unfold LoC at hl
  unfold c38 r38 BlC
  simp (disch := first | omega | (simp only [List.length_cons, List.length_nil]; first | done | omega)) only [go_sem, Nat.reduceAdd, Nat.reduceMul, Nat.reduceSub, Nat.reduceEqDiff, Nat.reduceLeDiff, Nat.reduceMod, Nat.reduceLT, Int.reduceToNat, Int.reduceAdd, Int.reduceSub, Int.reduceMul, Int.reduceNeg, Int.reduceLE, Int.reduceLT, Int.toNat_natCast, Int.cast_ofNat_Int, Int.reduceNe, Int.reduceEq, Int.reduceBEq, Int.reduceBNe, not_false_eq_true, ne_eq, Int.reduceTMod, Int.reduceTDiv, beq_self_eq_true, bne_self_eq_false, List.contains_cons, List.contains_nil, Nat.reduceBEq]
  first | refine call_U (hl) ?_ | refine call_T (hl) ?_ | refine call_N (hl) ?_ | refine call_of (hl) ?_
  simp (disch := first | omega | (simp only [List.length_cons, List.length_nil]; first | done | omega)) only [go_sem, Nat.reduceAdd, Nat.reduceMul, Nat.reduceSub, Nat.reduceEqDiff, Nat.reduceLeDiff, Nat.reduceMod, Nat.reduceLT, Int.reduceToNat, Int.reduceAdd, Int.reduceSub, Int.reduceMul, Int.reduceNeg, Int.reduceLE, Int.reduceLT, Int.toNat_natCast, Int.cast_ofNat_Int, Int.reduceNe, Int.reduceEq, Int.reduceBEq, Int.reduceBNe, not_false_eq_true, ne_eq, Int.reduceTMod, Int.reduceTDiv, beq_self_eq_true, bne_self_eq_false, List.contains_cons, List.contains_nil, Nat.reduceBEq, zR]
  first | refine call_U (hst') ?_ | refine call_T (hst') ?_ | refine call_N (hst') ?_ | refine call_of (hst') ?_
  simp (disch := first | omega | (simp only [List.length_cons, List.length_nil]; first | done | omega)) only [go_sem, Nat.reduceAdd, Nat.reduceMul, Nat.reduceSub, Nat.reduceEqDiff, Nat.reduceLeDiff, Nat.reduceMod, Nat.reduceLT, Int.reduceToNat, Int.reduceAdd, Int.reduceSub, Int.reduceMul, Int.reduceNeg, Int.reduceLE, Int.reduceLT, Int.toNat_natCast, Int.cast_ofNat_Int, Int.reduceNe, Int.reduceEq, Int.reduceBEq, Int.reduceBNe, not_false_eq_true, ne_eq, Int.reduceTMod, Int.reduceTDiv, beq_self_eq_true, bne_self_eq_false, List.contains_cons, List.contains_nil, Nat.reduceBEq]
  refine ⟨by simp only [roomy]; omega, fun t3 => ?_⟩
  have hq : (reportB b t).qu.length = b.qu.length + 1 := by simp [reportB]
  refine ⟨_, _, leVH.of (leV.refl _) ⟨_, List.Sublist.refl _, List.Perm.swap _ _ _⟩, _, _, rfl, t3, ?_, rfl⟩
  rw [hq, show (reportB b t).qu.flatMap RcC = b.qu.flatMap RcC ++ RcC (lossR b.pd t (b.ser + 1)) by simp [reportB]]
  rfl
theorem rtell8 (b : Bl) (k : Nat) (hk : okK k b) (p : Nat) (t2 : Tok) (o n : LV) (t : Int) :
    Acts2 Try.prog gl 38 [.ptr 8 p 0, .int .i64 t] 8 (.blk p (BlC b o (.osl 27 t2 4 b.qu.length (b.qu.flatMap RcC)) n)) 27 (.tok t2)
      fun r e1 e2 => ∃ t2', e1 = .blk p (BlC (reportB b t) o (.osl 27 t2' 4 (reportB b t).qu.length ((reportB b t).qu.flatMap RcC)) n) ∧ e2 = .tok t2' := by
  refine fn_viewT Try.func38 t38 Try.ntmps38 (by simp) ?_
  obtain ⟨k0, k1_, k2, k3, k4, k5, k6, k7, k8, k9, k10, k11, k12, k13, k14⟩ := hk
  have hlen := len_rc b.qu
  have hl := rloss b.pd t
  have hst := stamp [lossR b.pd t 0] ⟨by simp, by simp [lossR, lossP]⟩ (b.ser + 1)
  have hst' := LCalls.args hst (args' := [.fsl 4 1 (RcC (lossR b.pd t 0)), .int .i64 (b.ser + 1)]) ⟨by simpa [RcS] using leV.fsl_sl _ _ _, leV.refl _, trivial⟩
  rw [show [lossR b.pd t 0].map (stampR (b.ser + 1)) = [lossR b.pd t (b.ser + 1)] from rfl] at hst'
  unfold RcS at hst'
  rw [List.flatMap_singleton, List.length_singleton, RcC_eq (lossR b.pd t 0)] at hst'
  rw [RcC_eq] at hl
  unfold LoC at hl
  unfold c38 r38 BlC
  simp (disch := first | omega | (simp only [List.length_cons, List.length_nil]; first | done | omega)) only [go_sem, Nat.reduceAdd, Nat.reduceMul, Nat.reduceSub, Nat.reduceEqDiff, Nat.reduceLeDiff, Nat.reduceMod, Nat.reduceLT, Int.reduceToNat, Int.reduceAdd, Int.reduceSub, Int.reduceMul, Int.reduceNeg, Int.reduceLE, Int.reduceLT, Int.toNat_natCast, Int.cast_ofNat_Int, Int.reduceNe, Int.reduceEq, Int.reduceBEq, Int.reduceBNe, not_false_eq_true, ne_eq, Int.reduceTMod, Int.reduceTDiv, beq_self_eq_true, bne_self_eq_false, List.contains_cons, List.contains_nil, Nat.reduceBEq]
  first | refine call_U (hl) ?_ | refine call_T (hl) ?_ | refine call_N (hl) ?_ | refine call_of (hl) ?_
  simp (disch := first | omega | (simp only [List.length_cons, List.length_nil]; first | done | omega)) only [go_sem, Nat.reduceAdd, Nat.reduceMul, Nat.reduceSub, Nat.reduceEqDiff, Nat.reduceLeDiff, Nat.reduceMod, Nat.reduceLT, Int.reduceToNat, Int.reduceAdd, Int.reduceSub, Int.reduceMul, Int.reduceNeg, Int.reduceLE, Int.reduceLT, Int.toNat_natCast, Int.cast_ofNat_Int, Int.reduceNe, Int.reduceEq, Int.reduceBEq, Int.reduceBNe, not_false_eq_true, ne_eq, Int.reduceTMod, Int.reduceTDiv, beq_self_eq_true, bne_self_eq_false, List.contains_cons, List.contains_nil, Nat.reduceBEq, zR]
  first | refine call_U (hst') ?_ | refine call_T (hst') ?_ | refine call_N (hst') ?_ | refine call_of (hst') ?_
  simp (disch := first | omega | (simp only [List.length_cons, List.length_nil]; first | done | omega)) only [go_sem, Nat.reduceAdd, Nat.reduceMul, Nat.reduceSub, Nat.reduceEqDiff, Nat.reduceLeDiff, Nat.reduceMod, Nat.reduceLT, Int.reduceToNat, Int.reduceAdd, Int.reduceSub, Int.reduceMul, Int.reduceNeg, Int.reduceLE, Int.reduceLT, Int.toNat_natCast, Int.cast_ofNat_Int, Int.reduceNe, Int.reduceEq, Int.reduceBEq, Int.reduceBNe, not_false_eq_true, ne_eq, Int.reduceTMod, Int.reduceTDiv, beq_self_eq_true, bne_self_eq_false, List.contains_cons, List.contains_nil, Nat.reduceBEq]
  refine ⟨by simp only [roomy]; omega, fun t3 => ?_⟩
  have hq : (reportB b t).qu.length = b.qu.length + 1 := by simp [reportB]
  refine ⟨_, _, leVH.of (leV.refl _) ⟨_, List.Sublist.refl _, List.Perm.swap _ _ _⟩, _, _, rfl, t3, ?_, rfl⟩
  rw [hq, show (reportB b t).qu.flatMap RcC = b.qu.flatMap RcC ++ RcC (lossR b.pd t (b.ser + 1)) by simp [reportB]]
  rfl
end Go.Proofs.Ytofpepjehiohcaa
