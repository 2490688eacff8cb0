/- Layer 15: table: rows of an index. -/
import Derived.Test.YtmggjfbcjmenlaaTa
namespace Go.Proofs.Ytmggjfbcjmenlaa
open Go Go.Lx
set_option linter.unusedSimpArgs false
set_option linter.unusedVariables false
set_option maxRecDepth 100000
set_option maxHeartbeats 1000000

theorem clone29 (l : List Int) (hl : l.length ≤ 17592186044416) : Pure Try.prog gl 29 [Is l] (Is l) := by
  refine fn_viewT Try.func29 t29 Try.ntmps29 (by simp) ?_
  unfold c29 r29 Is
  simp (disch := first | omega | (simp only [List.length_cons, List.length_nil]; first | done | omega)) only [go_sem, Nat.reduceAdd, Nat.reduceMul, Nat.reduceSub, Nat.reduceEqDiff, Nat.reduceLeDiff, Nat.reduceMod, Nat.reduceLT, Int.reduceToNat, Int.reduceAdd, Int.reduceSub, Int.reduceMul, Int.reduceNeg, Int.reduceLE, Int.reduceLT, Int.toNat_natCast, Int.cast_ofNat_Int, Int.reduceNe, Int.reduceEq, Int.reduceBEq, Int.reduceBNe, not_false_eq_true, ne_eq, Int.reduceTMod, Int.reduceTDiv, beq_self_eq_true, bne_self_eq_false, List.contains_cons, List.contains_nil, Nat.reduceBEq]
  intro r hr
  repeat' (first | (simp (disch := first | omega | (simp only [List.length_cons, List.length_nil]; first | done | omega)) only [go_sem, Nat.reduceAdd, Nat.reduceMul, Nat.reduceSub, Nat.reduceEqDiff, Nat.reduceLeDiff, Nat.reduceMod, Nat.reduceLT, Int.reduceToNat, Int.reduceAdd, Int.reduceSub, Int.reduceMul, Int.reduceNeg, Int.reduceLE, Int.reduceLT, Int.toNat_natCast, Int.cast_ofNat_Int, Int.reduceNe, Int.reduceEq, Int.reduceBEq, Int.reduceBNe, not_false_eq_true, ne_eq, Int.reduceTMod, Int.reduceTDiv, beq_self_eq_true, bne_self_eq_false, List.contains_cons, List.contains_nil, Nat.reduceBEq]) | (refine allI (fun b => ?_)) | (refine allT (fun τ => ?_)) | (refine brP (fun h => ?_) (fun h => ?_) <;> (try simp only [Bool.and_eq_true, Bool.and_eq_false_iff, Bool.or_eq_true, Bool.or_eq_false_iff, Bool.not_eq_true', Bool.not_eq_false', decide_eq_true_eq, decide_eq_false_iff_not, beq_iff_eq, beq_eq_false_iff_ne, ne_eq, bne_iff_ne, Int.not_lt, Int.not_le] at h)))
  · have h0 : r = true := by simpa using h
    obtain rfl : l = [] := List.length_eq_zero_iff.1 (hr h0)
    exact view_sub (leV.fsl_sl _ _ _) (List.Sublist.refl _)
  · refine ⟨by simp only [roomy]; omega, fun τ_ => view_sub (leV.osl_sl _ _ _ _ _) (List.nil_sublist _)⟩
/-- an index: a set, and rows of numbers -/
def Ix (m : Int) (rs : List (List Int)) : LV := .agg [.int .u64 m, .sl 1 rs.length (rs.map Is)]
def rowOf (n : Int) (rs : List (List Int)) : List Int := if rs.length = 1 then rs.getD 0 [] else if n < 0 ∨ rs.length ≤ n then [] else rs.getD n.toNat []
theorem getD_Is {rs : List (List Int)} {k : Nat} (h : k < rs.length) : (rs.map Is).getD k .any = Is (rs.getD k []) := by
  simp [List.getD, h]
theorem row (m n : Int) (rs : List (List Int)) (hr : ∀ l ∈ rs, l.length ≤ 17592186044416) : Pure Try.prog gl 16 [Ix m rs, .int .i64 n] (Is (rowOf n rs)) := by
  refine fn_pureT Try.func16 t16 Try.ntmps16 (by simp) ?_
  have hg : ∀ k, k < rs.length → (rs.getD k []).length ≤ 17592186044416 := fun k hk => hr _ (by simp [List.getD, hk])
  unfold c16 r16 Ix
  repeat' (first | (simp (disch := first | omega | (simp only [List.length_cons, List.length_nil]; first | done | omega)) only [go_sem, Nat.reduceAdd, Nat.reduceMul, Nat.reduceSub, Nat.reduceEqDiff, Nat.reduceLeDiff, Nat.reduceMod, Nat.reduceLT, Int.reduceToNat, Int.reduceAdd, Int.reduceSub, Int.reduceMul, Int.reduceNeg, Int.reduceLE, Int.reduceLT, Int.toNat_natCast, Int.cast_ofNat_Int, Int.reduceNe, Int.reduceEq, Int.reduceBEq, Int.reduceBNe, not_false_eq_true, ne_eq, Int.reduceTMod, Int.reduceTDiv, beq_self_eq_true, bne_self_eq_false, List.contains_cons, List.contains_nil, Nat.reduceBEq]) | (refine allI (fun b => ?_)) | (refine allT (fun τ => ?_)) | (refine brP (fun h => ?_) (fun h => ?_) <;> (try simp only [Bool.and_eq_true, Bool.and_eq_false_iff, Bool.or_eq_true, Bool.or_eq_false_iff, Bool.not_eq_true', Bool.not_eq_false', decide_eq_true_eq, decide_eq_false_iff_not, beq_iff_eq, beq_eq_false_iff_ne, ne_eq, bne_iff_ne, Int.not_lt, Int.not_le] at h)))
  · have h1 : rs.length = 1 := by omega
    have e : rowOf n rs = rs.getD 0 [] := by simp [rowOf, h1]
    rw [getD_Is (by omega), e]
    refine ⟨by omega, by simp [h1], ?_⟩
    unfold Is
    simp (disch := first | omega | (simp only [List.length_cons, List.length_nil]; first | done | omega)) only [go_sem, Nat.reduceAdd, Nat.reduceMul, Nat.reduceSub, Nat.reduceEqDiff, Nat.reduceLeDiff, Nat.reduceMod, Nat.reduceLT, Int.reduceToNat, Int.reduceAdd, Int.reduceSub, Int.reduceMul, Int.reduceNeg, Int.reduceLE, Int.reduceLT, Int.toNat_natCast, Int.cast_ofNat_Int, Int.reduceNe, Int.reduceEq, Int.reduceBEq, Int.reduceBNe, not_false_eq_true, ne_eq, Int.reduceTMod, Int.reduceTDiv, beq_self_eq_true, bne_self_eq_false, List.contains_cons, List.contains_nil, Nat.reduceBEq]
    first | refine call_U (clone29 (rs.getD 0 []) (hg 0 (by omega))) ?_ | refine call_T (clone29 (rs.getD 0 []) (hg 0 (by omega))) ?_ | refine call_N (clone29 (rs.getD 0 []) (hg 0 (by omega))) ?_ | refine call_of (clone29 (rs.getD 0 []) (hg 0 (by omega))) ?_
    unfold Is
    simp (disch := first | omega | (simp only [List.length_cons, List.length_nil]; first | done | omega)) only [go_sem, Nat.reduceAdd, Nat.reduceMul, Nat.reduceSub, Nat.reduceEqDiff, Nat.reduceLeDiff, Nat.reduceMod, Nat.reduceLT, Int.reduceToNat, Int.reduceAdd, Int.reduceSub, Int.reduceMul, Int.reduceNeg, Int.reduceLE, Int.reduceLT, Int.toNat_natCast, Int.cast_ofNat_Int, Int.reduceNe, Int.reduceEq, Int.reduceBEq, Int.reduceBNe, not_false_eq_true, ne_eq, Int.reduceTMod, Int.reduceTDiv, beq_self_eq_true, bne_self_eq_false, List.contains_cons, List.contains_nil, Nat.reduceBEq]
  · have h1 : ¬ rs.length = 1 := by omega
    have e : rowOf n rs = [] := by simp [rowOf, h1, h]
    rw [e]
    exact leV.fsl_sl _ _ _
  · have h1 : ¬ rs.length = 1 := by omega
    have e : rowOf n rs = rs.getD n.toNat [] := by
      have h2 : ¬ (n < 0 ∨ (rs.length : Int) ≤ n) := by omega
      simp only [rowOf, h1, h2, if_false]
    rw [Nat.mul_one, getD_Is (by omega), e]
    refine ⟨by omega, by simp; omega, ?_⟩
    unfold Is
    simp (disch := first | omega | (simp only [List.length_cons, List.length_nil]; first | done | omega)) only [go_sem, Nat.reduceAdd, Nat.reduceMul, Nat.reduceSub, Nat.reduceEqDiff, Nat.reduceLeDiff, Nat.reduceMod, Nat.reduceLT, Int.reduceToNat, Int.reduceAdd, Int.reduceSub, Int.reduceMul, Int.reduceNeg, Int.reduceLE, Int.reduceLT, Int.toNat_natCast, Int.cast_ofNat_Int, Int.reduceNe, Int.reduceEq, Int.reduceBEq, Int.reduceBNe, not_false_eq_true, ne_eq, Int.reduceTMod, Int.reduceTDiv, beq_self_eq_true, bne_self_eq_false, List.contains_cons, List.contains_nil, Nat.reduceBEq]
    first | refine call_U (clone29 (rs.getD n.toNat []) (hg _ (by omega))) ?_ | refine call_T (clone29 (rs.getD n.toNat []) (hg _ (by omega))) ?_ | refine call_N (clone29 (rs.getD n.toNat []) (hg _ (by omega))) ?_ | refine call_of (clone29 (rs.getD n.toNat []) (hg _ (by omega))) ?_
    unfold Is
    simp (disch := first | omega | (simp only [List.length_cons, List.length_nil]; first | done | omega)) only [go_sem, Nat.reduceAdd, Nat.reduceMul, Nat.reduceSub, Nat.reduceEqDiff, Nat.reduceLeDiff, Nat.reduceMod, Nat.reduceLT, Int.reduceToNat, Int.reduceAdd, Int.reduceSub, Int.reduceMul, Int.reduceNeg, Int.reduceLE, Int.reduceLT, Int.toNat_natCast, Int.cast_ofNat_Int, Int.reduceNe, Int.reduceEq, Int.reduceBEq, Int.reduceBNe, not_false_eq_true, ne_eq, Int.reduceTMod, Int.reduceTDiv, beq_self_eq_true, bne_self_eq_false, List.contains_cons, List.contains_nil, Nat.reduceBEq]
theorem rrow (m n : Int) (rs : List (List Int)) (hr : ∀ l ∈ rs, l.length ≤ 17592186044416) : Pure Try.prog gl 17 [Ix m rs, .int .i64 n] (Is (rowOf n rs)) := by
  refine fn_pureT Try.func17 t17 Try.ntmps17 (by simp) ?_
  have hg : ∀ k, k < rs.length → (rs.getD k []).length ≤ 17592186044416 := fun k hk => hr _ (by simp [List.getD, hk])
  unfold c17 r17 Ix
  repeat' (first | (simp (disch := first | omega | (simp only [List.length_cons, List.length_nil]; first | done | omega)) only [go_sem, Nat.reduceAdd, Nat.reduceMul, Nat.reduceSub, Nat.reduceEqDiff, Nat.reduceLeDiff, Nat.reduceMod, Nat.reduceLT, Int.reduceToNat, Int.reduceAdd, Int.reduceSub, Int.reduceMul, Int.reduceNeg, Int.reduceLE, Int.reduceLT, Int.toNat_natCast, Int.cast_ofNat_Int, Int.reduceNe, Int.reduceEq, Int.reduceBEq, Int.reduceBNe, not_false_eq_true, ne_eq, Int.reduceTMod, Int.reduceTDiv, beq_self_eq_true, bne_self_eq_false, List.contains_cons, List.contains_nil, Nat.reduceBEq]) | (refine allI (fun b => ?_)) | (refine allT (fun τ => ?_)) | (refine brP (fun h => ?_) (fun h => ?_) <;> (try simp only [Bool.and_eq_true, Bool.and_eq_false_iff, Bool.or_eq_true, Bool.or_eq_false_iff, Bool.not_eq_true', Bool.not_eq_false', decide_eq_true_eq, decide_eq_false_iff_not, beq_iff_eq, beq_eq_false_iff_ne, ne_eq, bne_iff_ne, Int.not_lt, Int.not_le] at h)))
  · omega
  · have h1 : rs.length = 1 := by omega
    have e : rowOf n rs = rs.getD 0 [] := by simp [rowOf, h1]
    have hh := hg 0 (by omega)
    rw [getD_Is (by omega), e]
    refine ⟨by omega, by simp [h1], ?_⟩
    unfold Is
    simp (disch := first | omega | (simp only [List.length_cons, List.length_nil]; first | done | omega)) only [go_sem, Nat.reduceAdd, Nat.reduceMul, Nat.reduceSub, Nat.reduceEqDiff, Nat.reduceLeDiff, Nat.reduceMod, Nat.reduceLT, Int.reduceToNat, Int.reduceAdd, Int.reduceSub, Int.reduceMul, Int.reduceNeg, Int.reduceLE, Int.reduceLT, Int.toNat_natCast, Int.cast_ofNat_Int, Int.reduceNe, Int.reduceEq, Int.reduceBEq, Int.reduceBNe, not_false_eq_true, ne_eq, Int.reduceTMod, Int.reduceTDiv, beq_self_eq_true, bne_self_eq_false, List.contains_cons, List.contains_nil, Nat.reduceBEq]
    refine ⟨by simp only [roomy]; omega, fun τ_ => leV.osl_sl _ _ _ _ _⟩
  · have h1 : ¬ rs.length = 1 := by omega
    have e : rowOf n rs = [] := by simp [rowOf, h1, h]
    rw [e]
    exact leV.fsl_sl _ _ _
  · have h1 : ¬ rs.length = 1 := by omega
    have e : rowOf n rs = rs.getD n.toNat [] := by
      have h2 : ¬ (n < 0 ∨ (rs.length : Int) ≤ n) := by omega
      simp only [rowOf, h1, h2, if_false]
    have hh := hg n.toNat (by omega)
    rw [Nat.mul_one, getD_Is (by omega), e]
    refine ⟨by omega, by simp; omega, ?_⟩
    unfold Is
    simp (disch := first | omega | (simp only [List.length_cons, List.length_nil]; first | done | omega)) only [go_sem, Nat.reduceAdd, Nat.reduceMul, Nat.reduceSub, Nat.reduceEqDiff, Nat.reduceLeDiff, Nat.reduceMod, Nat.reduceLT, Int.reduceToNat, Int.reduceAdd, Int.reduceSub, Int.reduceMul, Int.reduceNeg, Int.reduceLE, Int.reduceLT, Int.toNat_natCast, Int.cast_ofNat_Int, Int.reduceNe, Int.reduceEq, Int.reduceBEq, Int.reduceBNe, not_false_eq_true, ne_eq, Int.reduceTMod, Int.reduceTDiv, beq_self_eq_true, bne_self_eq_false, List.contains_cons, List.contains_nil, Nat.reduceBEq]
    refine ⟨by simp only [roomy]; omega, fun τ_ => leV.osl_sl _ _ _ _ _⟩
end Go.Proofs.Ytmggjfbcjmenlaa
