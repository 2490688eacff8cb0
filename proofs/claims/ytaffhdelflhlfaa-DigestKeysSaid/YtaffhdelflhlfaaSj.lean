/- Layer 23: digest: the sums. -/
import Derived.Test.YtaffhdelflhlfaaSi
namespace Go.Proofs.Ytaffhdelflhlfaa
open Go Go.Lx
set_option linter.unusedSimpArgs false
set_option linter.unusedVariables false
set_option maxRecDepth 100000
set_option maxHeartbeats 1000000

theorem sum9 (a b : Int) (l : List Int) (hl : okB l) : Pure Try.prog gl 9 [.agg [.int .u64 a, .int .u64 b], Bs l] (.int .u64 (sip a b l)) := by
  refine fn_pureT Try.func9 t9 Try.ntmps9 (by simp) ?_
  unfold c9 r9 Bs
  simp (disch := first | omega | (simp only [List.length_cons, List.length_nil]; first | done | omega)) only [go_sem, Nat.reduceAdd, Nat.reduceMul, Nat.reduceSub, Nat.reduceEqDiff, Nat.reduceLeDiff, Nat.reduceMod, Nat.reduceLT, Int.reduceToNat, Int.reduceAdd, Int.reduceSub, Int.reduceMul, Int.reduceNeg, Int.reduceLE, Int.reduceLT, Int.toNat_natCast, Int.cast_ofNat_Int, Int.reduceNe, Int.reduceEq, Int.reduceBEq, Int.reduceBNe, not_false_eq_true, ne_eq, Int.reduceTMod, Int.reduceTDiv, beq_self_eq_true, bne_self_eq_false, List.contains_cons, List.contains_nil, Nat.reduceBEq]
  intro b1
  first | refine call_U (sum28 a b l hl) ?_ | refine call_T (sum28 a b l hl) ?_ | refine call_N (sum28 a b l hl) ?_ | refine call_of (sum28 a b l hl) ?_
  simp (disch := first | omega | (simp only [List.length_cons, List.length_nil]; first | done | omega)) only [go_sem, Nat.reduceAdd, Nat.reduceMul, Nat.reduceSub, Nat.reduceEqDiff, Nat.reduceLeDiff, Nat.reduceMod, Nat.reduceLT, Int.reduceToNat, Int.reduceAdd, Int.reduceSub, Int.reduceMul, Int.reduceNeg, Int.reduceLE, Int.reduceLT, Int.toNat_natCast, Int.cast_ofNat_Int, Int.reduceNe, Int.reduceEq, Int.reduceBEq, Int.reduceBNe, not_false_eq_true, ne_eq, Int.reduceTMod, Int.reduceTDiv, beq_self_eq_true, bne_self_eq_false, List.contains_cons, List.contains_nil, Nat.reduceBEq]
theorem sum10 (a b : Int) (l : List Int) (hl : okB l) : Pure Try.prog gl 10 [.agg [.int .u64 a, .int .u64 b], Bs l] (.int .u64 (sip a b l)) := by
  refine fn_pureT Try.func10 t10 Try.ntmps10 (by simp) ?_
  obtain ⟨hl, hn⟩ := hl
  unfold c10 r10 Bs
  simp (disch := first | omega | (simp only [List.length_cons, List.length_nil]; first | done | omega)) only [go_sem, Nat.reduceAdd, Nat.reduceMul, Nat.reduceSub, Nat.reduceEqDiff, Nat.reduceLeDiff, Nat.reduceMod, Nat.reduceLT, Int.reduceToNat, Int.reduceAdd, Int.reduceSub, Int.reduceMul, Int.reduceNeg, Int.reduceLE, Int.reduceLT, Int.toNat_natCast, Int.cast_ofNat_Int, Int.reduceNe, Int.reduceEq, Int.reduceBEq, Int.reduceBNe, not_false_eq_true, ne_eq, Int.reduceTMod, Int.reduceTDiv, beq_self_eq_true, bne_self_eq_false, List.contains_cons, List.contains_nil, Nat.reduceBEq]
  intro b1 b2
  refine loopI (ι := Int × W4 × Int) (fun x => (0 ≤ x.1 ∧ x.1 ≤ l.length) ∧ fds (x.2.1, x.2.2, x.1.toNat % 8) (l.drop x.1.toNat) = fds (ini a b, 0, 0) l) (fun x => (24, .int .i64 x.1) :: (23, _) :: (22, _) :: (6, .int .u64 x.2.2) :: _) (fun x => (5, .blk b2 (WL x.2.1)) :: _) (fun x => l.length - x.1.toNat) (0, ini a b, 0) ⟨by dsimp only; omega, rfl⟩ Ents.same ?_
  rintro ⟨k, w, m⟩ ⟨hk, hu⟩
  dsimp only at hk hu ⊢
  have ht : k.tmod 8 = ((k.toNat % 8 : Nat) : Int) := by rw [Int.tmod_eq_emod_of_nonneg hk.1]; omega
  unfold WL
  repeat' (first | (simp (disch := first | omega | (simp only [List.length_cons, List.length_nil]; first | done | omega)) only [go_sem, Nat.reduceAdd, Nat.reduceMul, Nat.reduceSub, Nat.reduceEqDiff, Nat.reduceLeDiff, Nat.reduceMod, Nat.reduceLT, Int.reduceToNat, Int.reduceAdd, Int.reduceSub, Int.reduceMul, Int.reduceNeg, Int.reduceLE, Int.reduceLT, Int.toNat_natCast, Int.cast_ofNat_Int, Int.reduceNe, Int.reduceEq, Int.reduceBEq, Int.reduceBNe, not_false_eq_true, ne_eq, Int.reduceTMod, Int.reduceTDiv, beq_self_eq_true, bne_self_eq_false, List.contains_cons, List.contains_nil, Nat.reduceBEq, getD_int, Nat.mul_one, List.length_map]) | (refine allI (fun b => ?_)) | (refine allT (fun τ => ?_)) | (refine brP (fun h => ?_) (fun h => ?_) <;> (try simp only [Bool.and_eq_true, Bool.and_eq_false_iff, Bool.or_eq_true, Bool.or_eq_false_iff, Bool.not_eq_true', Bool.not_eq_false', decide_eq_true_eq, decide_eq_false_iff_not, beq_iff_eq, beq_eq_false_iff_ne, ne_eq, bne_iff_ne, Int.not_lt, Int.not_le] at h)))
  · have hc := hl _ (getD_mem (l := l) (i := k.toNat) (by omega))
    rw [drop_getD l (by omega) (by omega), fds, List.foldl_cons, fd] at hu
    rw [wrap_u64 (n := l.getD k.toNat 0) (by omega) (by omega), ht]
    refine ⟨by omega, by omega, by omega, ?_⟩
    repeat' (first | (simp (disch := first | omega | (simp only [List.length_cons, List.length_nil]; first | done | omega)) only [go_sem, Nat.reduceAdd, Nat.reduceMul, Nat.reduceSub, Nat.reduceEqDiff, Nat.reduceLeDiff, Nat.reduceMod, Nat.reduceLT, Int.reduceToNat, Int.reduceAdd, Int.reduceSub, Int.reduceMul, Int.reduceNeg, Int.reduceLE, Int.reduceLT, Int.toNat_natCast, Int.cast_ofNat_Int, Int.reduceNe, Int.reduceEq, Int.reduceBEq, Int.reduceBNe, not_false_eq_true, ne_eq, Int.reduceTMod, Int.reduceTDiv, beq_self_eq_true, bne_self_eq_false, List.contains_cons, List.contains_nil, Nat.reduceBEq]) | (refine allI (fun b => ?_)) | (refine allT (fun τ => ?_)) | (refine brP (fun h => ?_) (fun h => ?_) <;> (try simp only [Bool.and_eq_true, Bool.and_eq_false_iff, Bool.or_eq_true, Bool.or_eq_false_iff, Bool.not_eq_true', Bool.not_eq_false', decide_eq_true_eq, decide_eq_false_iff_not, beq_iff_eq, beq_eq_false_iff_ne, ne_eq, bne_iff_ne, Int.not_lt, Int.not_le] at h)))
    · first | refine call_U (take29 w _) ?_ | refine call_T (take29 w _) ?_ | refine call_N (take29 w _) ?_ | refine call_of (take29 w _) ?_
      unfold WL
      simp (disch := first | omega | (simp only [List.length_cons, List.length_nil]; first | done | omega)) only [go_sem, Nat.reduceAdd, Nat.reduceMul, Nat.reduceSub, Nat.reduceEqDiff, Nat.reduceLeDiff, Nat.reduceMod, Nat.reduceLT, Int.reduceToNat, Int.reduceAdd, Int.reduceSub, Int.reduceMul, Int.reduceNeg, Int.reduceLE, Int.reduceLT, Int.toNat_natCast, Int.cast_ofNat_Int, Int.reduceNe, Int.reduceEq, Int.reduceBEq, Int.reduceBNe, not_false_eq_true, ne_eq, Int.reduceTMod, Int.reduceTDiv, beq_self_eq_true, bne_self_eq_false, List.contains_cons, List.contains_nil, Nat.reduceBEq]
      have h7 : k.toNat % 8 = 7 := by omega
      rw [if_pos h7] at hu
      refine ⟨⟨(k + 1, wrd w (bitop .or .u64 m (shl .u64 (l.getD k.toNat 0) (8 * ((k.toNat % 8 : Nat) : Int)))), 0), ⟨by dsimp only; omega, ?_⟩⟩, by dsimp only; omega, Ents.envH (by simp [go_sem]) rfl⟩
      dsimp only
      rw [show (k + 1).toNat % 8 = 0 by omega]
      exact hu
    · have h7 : ¬ k.toNat % 8 = 7 := by omega
      rw [if_neg h7] at hu
      refine ⟨⟨(k + 1, w, bitop .or .u64 m (shl .u64 (l.getD k.toNat 0) (8 * ((k.toNat % 8 : Nat) : Int)))), ⟨by dsimp only; omega, ?_⟩⟩, by dsimp only; omega, Ents.envH (by simp [go_sem]) rfl⟩
      dsimp only
      rw [show (k + 1).toNat % 8 = k.toNat % 8 + 1 by omega]
      exact hu
  · rw [List.drop_eq_nil_of_le (by omega)] at hu
    first | refine call_U (take29 w _) ?_ | refine call_T (take29 w _) ?_ | refine call_N (take29 w _) ?_ | refine call_of (take29 w _) ?_
    generalize hw : wrd w _ = w1
    unfold WL
    simp (disch := first | omega | (simp only [List.length_cons, List.length_nil]; first | done | omega)) only [go_sem, Nat.reduceAdd, Nat.reduceMul, Nat.reduceSub, Nat.reduceEqDiff, Nat.reduceLeDiff, Nat.reduceMod, Nat.reduceLT, Int.reduceToNat, Int.reduceAdd, Int.reduceSub, Int.reduceMul, Int.reduceNeg, Int.reduceLE, Int.reduceLT, Int.toNat_natCast, Int.cast_ofNat_Int, Int.reduceNe, Int.reduceEq, Int.reduceBEq, Int.reduceBNe, not_false_eq_true, ne_eq, Int.reduceTMod, Int.reduceTDiv, beq_self_eq_true, bne_self_eq_false, List.contains_cons, List.contains_nil, Nat.reduceBEq]
    first | refine call_U (rounds30 ⟨w1.a, w1.b, xor6 w1.c 255, w1.d⟩ 4 (by omega)) ?_ | refine call_T (rounds30 ⟨w1.a, w1.b, xor6 w1.c 255, w1.d⟩ 4 (by omega)) ?_ | refine call_N (rounds30 ⟨w1.a, w1.b, xor6 w1.c 255, w1.d⟩ 4 (by omega)) ?_ | refine call_of (rounds30 ⟨w1.a, w1.b, xor6 w1.c 255, w1.d⟩ 4 (by omega)) ?_
    unfold WL
    simp (disch := first | omega | (simp only [List.length_cons, List.length_nil]; first | done | omega)) only [go_sem, Nat.reduceAdd, Nat.reduceMul, Nat.reduceSub, Nat.reduceEqDiff, Nat.reduceLeDiff, Nat.reduceMod, Nat.reduceLT, Int.reduceToNat, Int.reduceAdd, Int.reduceSub, Int.reduceMul, Int.reduceNeg, Int.reduceLE, Int.reduceLT, Int.toNat_natCast, Int.cast_ofNat_Int, Int.reduceNe, Int.reduceEq, Int.reduceBEq, Int.reduceBNe, not_false_eq_true, ne_eq, Int.reduceTMod, Int.reduceTDiv, beq_self_eq_true, bne_self_eq_false, List.contains_cons, List.contains_nil, Nat.reduceBEq]
    subst hw
    unfold sip
    rw [← hu]
    rfl
end Go.Proofs.Ytaffhdelflhlfaa
