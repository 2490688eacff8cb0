/- Layer 23: digest: Parse and Format. -/
import Derived.Test.YtaffhdelflhlfaaSn
namespace Go.Proofs.Ytaffhdelflhlfaa
open Go Go.Lx
set_option linter.unusedSimpArgs false
set_option linter.unusedVariables false
set_option maxRecDepth 100000
set_option maxHeartbeats 1000000

theorem drop_getD8 (l : List UInt8) {k : Int} (h : 0 ≤ k) (h' : k < l.length) : l.drop k.toNat = l.getD k.toNat 0 :: l.drop (k + 1).toNat := by
  have h2 : k.toNat < l.length := by omega
  rw [List.drop_eq_getElem_cons h2, show (k + 1).toNat = k.toNat + 1 by omega]
  simp [List.getD, h2]
theorem parse24 (s : List UInt8) (hs : s.length ≤ 200000000000000) : Pure Try.prog gl 24 [.str s] (.tup [.int .u64 (PR s).1, .int .i64 (PR s).2]) := by
  refine fn_pureT Try.func24 t24 Try.ntmps24 (by simp) ?_
  unfold c24 r24
  repeat' (first | (simp (disch := first | omega | (simp only [List.length_cons, List.length_nil]; first | done | omega)) only [go_sem, Nat.reduceAdd, Nat.reduceMul, Nat.reduceSub, Nat.reduceEqDiff, Nat.reduceLeDiff, Nat.reduceMod, Nat.reduceLT, Int.reduceToNat, Int.reduceAdd, Int.reduceSub, Int.reduceMul, Int.reduceNeg, Int.reduceLE, Int.reduceLT, Int.toNat_natCast, Int.cast_ofNat_Int, Int.reduceNe, Int.reduceEq, Int.reduceBEq, Int.reduceBNe, not_false_eq_true, ne_eq, Int.reduceTMod, Int.reduceTDiv, beq_self_eq_true, bne_self_eq_false, List.contains_cons, List.contains_nil, Nat.reduceBEq]) | (refine allI (fun b => ?_)) | (refine allT (fun τ => ?_)) | (refine brP (fun h => ?_) (fun h => ?_) <;> (try simp only [Bool.and_eq_true, Bool.and_eq_false_iff, Bool.or_eq_true, Bool.or_eq_false_iff, Bool.not_eq_true', Bool.not_eq_false', decide_eq_true_eq, decide_eq_false_iff_not, beq_iff_eq, beq_eq_false_iff_ne, ne_eq, bne_iff_ne, Int.not_lt, Int.not_le] at h)))
  · refine leV.of_eq ?_
    have h1 : ¬ s.length = 16 := by omega
    simp [PR, h1]
  · have h16 : s.length = 16 := by
      have h2 : (s.length : Int) = 16 := by simpa using h
      omega
    have hP : PR s = pr 0 s := by simp [PR, h16]
    rw [hP]
    refine loopI (ι := Int × Int) (fun x => (0 ≤ x.1 ∧ x.1 ≤ 16) ∧ pr x.2 (s.drop x.1.toNat) = pr 0 s) (fun x => (13, .int .i64 x.1) :: (12, _) :: (4, .int .u64 x.2) :: _) (fun x => _) (fun x => 16 - x.1.toNat) (0, 0) ⟨by dsimp only; omega, rfl⟩ Ents.same ?_
    rintro ⟨k, d⟩ ⟨hk, hu⟩
    dsimp only at hk hu ⊢
    have hc0 := (s.getD k.toNat 0).toNat_lt
    generalize hcc : ((s.getD k.toNat 0).toNat : Int) = cc at *
    repeat' (first | (simp (disch := first | omega | (simp only [List.length_cons, List.length_nil]; first | done | omega)) only [go_sem, Nat.reduceAdd, Nat.reduceMul, Nat.reduceSub, Nat.reduceEqDiff, Nat.reduceLeDiff, Nat.reduceMod, Nat.reduceLT, Int.reduceToNat, Int.reduceAdd, Int.reduceSub, Int.reduceMul, Int.reduceNeg, Int.reduceLE, Int.reduceLT, Int.toNat_natCast, Int.cast_ofNat_Int, Int.reduceNe, Int.reduceEq, Int.reduceBEq, Int.reduceBNe, not_false_eq_true, ne_eq, Int.reduceTMod, Int.reduceTDiv, beq_self_eq_true, bne_self_eq_false, List.contains_cons, List.contains_nil, Nat.reduceBEq, hcc]) | (refine allI (fun b => ?_)) | (refine allT (fun τ => ?_)) | (refine brP (fun h => ?_) (fun h => ?_) <;> (try simp only [Bool.and_eq_true, Bool.and_eq_false_iff, Bool.or_eq_true, Bool.or_eq_false_iff, Bool.not_eq_true', Bool.not_eq_false', decide_eq_true_eq, decide_eq_false_iff_not, beq_iff_eq, beq_eq_false_iff_ne, ne_eq, bne_iff_ne, Int.not_lt, Int.not_le] at h)))
    · rw [drop_getD8 s (by omega) (by omega), pr, hcc] at hu
      have hb : 0 ≤ cc ∧ cc ≤ 255 := by omega
      refine ⟨by omega, ?_⟩
      repeat' (first | (simp (disch := first | omega | (simp only [List.length_cons, List.length_nil]; first | done | omega)) only [go_sem, Nat.reduceAdd, Nat.reduceMul, Nat.reduceSub, Nat.reduceEqDiff, Nat.reduceLeDiff, Nat.reduceMod, Nat.reduceLT, Int.reduceToNat, Int.reduceAdd, Int.reduceSub, Int.reduceMul, Int.reduceNeg, Int.reduceLE, Int.reduceLT, Int.toNat_natCast, Int.cast_ofNat_Int, Int.reduceNe, Int.reduceEq, Int.reduceBEq, Int.reduceBNe, not_false_eq_true, ne_eq, Int.reduceTMod, Int.reduceTDiv, beq_self_eq_true, bne_self_eq_false, List.contains_cons, List.contains_nil, Nat.reduceBEq]) | (refine allI (fun b => ?_)) | (refine allT (fun τ => ?_)) | (refine brP (fun h => ?_) (fun h => ?_) <;> (try simp only [Bool.and_eq_true, Bool.and_eq_false_iff, Bool.or_eq_true, Bool.or_eq_false_iff, Bool.not_eq_true', Bool.not_eq_false', decide_eq_true_eq, decide_eq_false_iff_not, beq_iff_eq, beq_eq_false_iff_ne, ne_eq, bne_iff_ne, Int.not_lt, Int.not_le] at h)))
      · have e : dgt cc = cc - 48 := by unfold dgt; rw [if_pos (by omega)]
        rw [e, if_neg (by omega)] at hu
        refine ⟨⟨(k + 1, st4 d (cc - 48)), ⟨by dsimp only; omega, hu⟩⟩, by dsimp only; omega, Ents.envH (by simp [go_sem, st4]) rfl⟩
      · have e : dgt cc = cc - 97 + 10 := by unfold dgt; rw [if_neg (by omega), if_pos (by omega)]; omega
        rw [e, if_neg (by omega)] at hu
        refine ⟨⟨(k + 1, st4 d (cc - 97 + 10)), ⟨by dsimp only; omega, hu⟩⟩, by dsimp only; omega, Ents.envH (by simp [go_sem, st4]) rfl⟩
      · have e : dgt cc = -1 := by unfold dgt; rw [if_neg (by omega), if_neg (by omega)]
        rw [e, if_pos (by omega)] at hu
        rw [← hu]
        exact leV.refl _
    · rw [List.drop_eq_nil_of_le (by omega), pr] at hu
      rw [← hu]
      exact leV.refl _
theorem parse26 (s : List UInt8) (hs : s.length ≤ 200000000000000) : Pure Try.prog gl 26 [.str s] (.tup [.int .u64 (PR s).1, .int .i64 (PR s).2]) := by
  refine fn_pureT Try.func26 t26 Try.ntmps26 (by simp) ?_
  unfold c26 r26
  repeat' (first | (simp (disch := first | omega | (simp only [List.length_cons, List.length_nil]; first | done | omega)) only [go_sem, Nat.reduceAdd, Nat.reduceMul, Nat.reduceSub, Nat.reduceEqDiff, Nat.reduceLeDiff, Nat.reduceMod, Nat.reduceLT, Int.reduceToNat, Int.reduceAdd, Int.reduceSub, Int.reduceMul, Int.reduceNeg, Int.reduceLE, Int.reduceLT, Int.toNat_natCast, Int.cast_ofNat_Int, Int.reduceNe, Int.reduceEq, Int.reduceBEq, Int.reduceBNe, not_false_eq_true, ne_eq, Int.reduceTMod, Int.reduceTDiv, beq_self_eq_true, bne_self_eq_false, List.contains_cons, List.contains_nil, Nat.reduceBEq]) | (refine allI (fun b => ?_)) | (refine allT (fun τ => ?_)) | (refine brP (fun h => ?_) (fun h => ?_) <;> (try simp only [Bool.and_eq_true, Bool.and_eq_false_iff, Bool.or_eq_true, Bool.or_eq_false_iff, Bool.not_eq_true', Bool.not_eq_false', decide_eq_true_eq, decide_eq_false_iff_not, beq_iff_eq, beq_eq_false_iff_ne, ne_eq, bne_iff_ne, Int.not_lt, Int.not_le] at h)))
  · refine leV.of_eq ?_
    have h1 : ¬ s.length = 16 := by omega
    simp [PR, h1]
  · have h16 : s.length = 16 := by
      have h2 : (s.length : Int) = 16 := by simpa using h
      omega
    have hP : PR s = pr 0 s := by simp [PR, h16]
    rw [hP]
    refine loopI (ι := Int × Int) (fun x => (0 ≤ x.1 ∧ x.1 ≤ 16) ∧ pr x.2 (s.drop x.1.toNat) = pr 0 s) (fun x => (5, .int .i64 x.1) :: (4, .int .u64 x.2) :: _) (fun x => _) (fun x => 16 - x.1.toNat) (0, 0) ⟨by dsimp only; omega, rfl⟩ Ents.same ?_
    rintro ⟨k, d⟩ ⟨hk, hu⟩
    dsimp only at hk hu ⊢
    have hc0 := (s.getD k.toNat 0).toNat_lt
    generalize hcc : ((s.getD k.toNat 0).toNat : Int) = cc at *
    repeat' (first | (simp (disch := first | omega | (simp only [List.length_cons, List.length_nil]; first | done | omega)) only [go_sem, Nat.reduceAdd, Nat.reduceMul, Nat.reduceSub, Nat.reduceEqDiff, Nat.reduceLeDiff, Nat.reduceMod, Nat.reduceLT, Int.reduceToNat, Int.reduceAdd, Int.reduceSub, Int.reduceMul, Int.reduceNeg, Int.reduceLE, Int.reduceLT, Int.toNat_natCast, Int.cast_ofNat_Int, Int.reduceNe, Int.reduceEq, Int.reduceBEq, Int.reduceBNe, not_false_eq_true, ne_eq, Int.reduceTMod, Int.reduceTDiv, beq_self_eq_true, bne_self_eq_false, List.contains_cons, List.contains_nil, Nat.reduceBEq, hcc]) | (refine allI (fun b => ?_)) | (refine allT (fun τ => ?_)) | (refine brP (fun h => ?_) (fun h => ?_) <;> (try simp only [Bool.and_eq_true, Bool.and_eq_false_iff, Bool.or_eq_true, Bool.or_eq_false_iff, Bool.not_eq_true', Bool.not_eq_false', decide_eq_true_eq, decide_eq_false_iff_not, beq_iff_eq, beq_eq_false_iff_ne, ne_eq, bne_iff_ne, Int.not_lt, Int.not_le] at h)))
    · rw [drop_getD8 s (by omega) (by omega), pr, hcc] at hu
      have hb : 0 ≤ cc ∧ cc ≤ 255 := by omega
      refine ⟨by omega, ?_⟩
      repeat' (first | (simp (disch := first | omega | (simp only [List.length_cons, List.length_nil]; first | done | omega)) only [go_sem, Nat.reduceAdd, Nat.reduceMul, Nat.reduceSub, Nat.reduceEqDiff, Nat.reduceLeDiff, Nat.reduceMod, Nat.reduceLT, Int.reduceToNat, Int.reduceAdd, Int.reduceSub, Int.reduceMul, Int.reduceNeg, Int.reduceLE, Int.reduceLT, Int.toNat_natCast, Int.cast_ofNat_Int, Int.reduceNe, Int.reduceEq, Int.reduceBEq, Int.reduceBNe, not_false_eq_true, ne_eq, Int.reduceTMod, Int.reduceTDiv, beq_self_eq_true, bne_self_eq_false, List.contains_cons, List.contains_nil, Nat.reduceBEq]) | (refine allI (fun b => ?_)) | (refine allT (fun τ => ?_)) | (refine brP (fun h => ?_) (fun h => ?_) <;> (try simp only [Bool.and_eq_true, Bool.and_eq_false_iff, Bool.or_eq_true, Bool.or_eq_false_iff, Bool.not_eq_true', Bool.not_eq_false', decide_eq_true_eq, decide_eq_false_iff_not, beq_iff_eq, beq_eq_false_iff_ne, ne_eq, bne_iff_ne, Int.not_lt, Int.not_le] at h)))
      · have e : dgt cc = cc - 48 := by unfold dgt; rw [if_pos (by omega)]
        rw [e, if_neg (by omega)] at hu
        refine ⟨⟨(k + 1, st4 d (cc - 48)), ⟨by dsimp only; omega, hu⟩⟩, by dsimp only; omega, Ents.envH (by simp [go_sem, st4]) rfl⟩
      · have e : dgt cc = cc - 97 + 10 := by unfold dgt; rw [if_neg (by omega), if_pos (by omega)]; omega
        rw [e, if_neg (by omega)] at hu
        refine ⟨⟨(k + 1, st4 d (cc - 97 + 10)), ⟨by dsimp only; omega, hu⟩⟩, by dsimp only; omega, Ents.envH (by simp [go_sem, st4]) rfl⟩
      · have e : dgt cc = -1 := by unfold dgt; rw [if_neg (by omega), if_neg (by omega)]
        rw [e, if_pos (by omega)] at hu
        rw [← hu]
        exact leV.refl _
    · rw [List.drop_eq_nil_of_le (by omega), pr] at hu
      rw [← hu]
      exact leV.refl _
end Go.Proofs.Ytaffhdelflhlfaa
