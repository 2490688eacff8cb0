/- Layer 15: table: has, rows of an index, comparisons. -/
import Derived.Test.YtmggjfbcjmenlaaGl
import Derived.Test.YtmggjfbcjmenlaaLxO
namespace Go.Proofs.Ytmggjfbcjmenlaa
open Go Go.Lx
set_option linter.unusedSimpArgs false
set_option linter.unusedVariables false
set_option maxRecDepth 100000
set_option maxHeartbeats 1000000

def hasB (m n : Int) : Bool := decide (0 ≤ n) && decide (n < 32) && bitop .and .u64 (shr .u64 m n) 1 == 1
theorem has (m n : Int) : Pure Try.prog gl 36 [.int .u64 m, .int .i64 n] (.bool (hasB m n)) := by
  refine fn_pureT Try.func36 t36 Try.ntmps36 (by simp) ?_
  unfold c36 r36
  simp (disch := first | omega | (simp only [List.length_cons, List.length_nil]; first | done | omega)) only [go_sem, Nat.reduceAdd, Nat.reduceMul, Nat.reduceSub, Nat.reduceEqDiff, Nat.reduceLeDiff, Nat.reduceMod, Nat.reduceLT, Int.reduceToNat, Int.reduceAdd, Int.reduceSub, Int.reduceMul, Int.reduceNeg, Int.reduceLE, Int.reduceLT, Int.toNat_natCast, Int.cast_ofNat_Int, Int.reduceNe, Int.reduceEq, Int.reduceBEq, Int.reduceBNe, not_false_eq_true, ne_eq, Int.reduceTMod, Int.reduceTDiv, beq_self_eq_true, bne_self_eq_false, List.contains_cons, List.contains_nil, Nat.reduceBEq]
  refine ⟨fun h => ⟨h, h, ?_⟩, rfl⟩
  simp only [Bool.and_eq_true, decide_eq_true_eq] at h
  exact h.1
theorem rhasB (m n : Int) : Pure Try.prog gl 20 [.int .u64 m, .int .i64 n] (.bool (hasB m n)) := by
  refine fn_pureT Try.func20 t20 Try.ntmps20 (by simp) ?_
  unfold c20 r20
  simp (disch := first | omega | (simp only [List.length_cons, List.length_nil]; first | done | omega)) only [go_sem, Nat.reduceAdd, Nat.reduceMul, Nat.reduceSub, Nat.reduceEqDiff, Nat.reduceLeDiff, Nat.reduceMod, Nat.reduceLT, Int.reduceToNat, Int.reduceAdd, Int.reduceSub, Int.reduceMul, Int.reduceNeg, Int.reduceLE, Int.reduceLT, Int.toNat_natCast, Int.cast_ofNat_Int, Int.reduceNe, Int.reduceEq, Int.reduceBEq, Int.reduceBNe, not_false_eq_true, ne_eq, Int.reduceTMod, Int.reduceTDiv, beq_self_eq_true, bne_self_eq_false, List.contains_cons, List.contains_nil, Nat.reduceBEq]
  by_cases h : 0 ≤ n ∧ n < 32
  · rw [wrap_u64 (by omega) (by omega)]
    exact ⟨fun h' => ⟨h', h', h.1⟩, rfl⟩
  · have h2 : (decide (0 ≤ n) && decide (n < 32)) = false := by
      simp only [Bool.and_eq_false_iff, decide_eq_false_iff_not]
      omega
    rw [hasB, h2]
    exact ⟨fun h' => by simp at h', rfl⟩
def Is (l : List Int) : LV := .sl 1 l.length (l.map (LV.int .i64))
theorem take_getD {l : List Int} {k : Int} (h : 0 ≤ k) (h' : k < l.length) : l.take (k + 1).toNat = l.take k.toNat ++ [l.getD k.toNat 0] := by
  have h2 : k.toNat < l.length := by omega
  rw [show (k + 1).toNat = k.toNat + 1 by omega, List.take_add_one]
  simp [List.getD, h2]
theorem ints (a b : List Int) (ha : a.length ≤ 200000000000000) (hb : b.length ≤ 200000000000000) : Pure Try.prog gl 15 [Is a, Is b] (.bool (decide (a = b))) := by
  refine fn_pureT Try.func15 t15 Try.ntmps15 (by simp) ?_
  unfold c15 r15 Is
  repeat' (first | (simp (disch := first | omega | (simp only [List.length_cons, List.length_nil]; first | done | omega)) only [go_sem, Nat.reduceAdd, Nat.reduceMul, Nat.reduceSub, Nat.reduceEqDiff, Nat.reduceLeDiff, Nat.reduceMod, Nat.reduceLT, Int.reduceToNat, Int.reduceAdd, Int.reduceSub, Int.reduceMul, Int.reduceNeg, Int.reduceLE, Int.reduceLT, Int.toNat_natCast, Int.cast_ofNat_Int, Int.reduceNe, Int.reduceEq, Int.reduceBEq, Int.reduceBNe, not_false_eq_true, ne_eq, Int.reduceTMod, Int.reduceTDiv, beq_self_eq_true, bne_self_eq_false, List.contains_cons, List.contains_nil, Nat.reduceBEq]) | (refine allI (fun b => ?_)) | (refine allT (fun τ => ?_)) | (refine brP (fun h => ?_) (fun h => ?_) <;> (try simp only [Bool.and_eq_true, Bool.and_eq_false_iff, Bool.or_eq_true, Bool.or_eq_false_iff, Bool.not_eq_true', Bool.not_eq_false', decide_eq_true_eq, decide_eq_false_iff_not, beq_iff_eq, beq_eq_false_iff_ne, ne_eq, bne_iff_ne, Int.not_lt, Int.not_le] at h)))
  · have h1 : ¬ a = b := fun e => h (by rw [e])
    simp [h1]
  · have hl : a.length = b.length := by
      have h2 : (a.length : Int) = b.length := by simpa using h
      omega
    refine loopI (ι := Int) (fun x => (0 ≤ x ∧ x ≤ a.length) ∧ a.take x.toNat = b.take x.toNat) (fun x => (5, .int .i64 x) :: _) (fun x => _) (fun x => a.length - x.toNat) 0 ⟨by omega, by simp⟩ Ents.same ?_
    rintro k ⟨hk, hu⟩
    repeat' (first | (simp (disch := first | omega | (simp only [List.length_cons, List.length_nil]; first | done | omega)) only [go_sem, Nat.reduceAdd, Nat.reduceMul, Nat.reduceSub, Nat.reduceEqDiff, Nat.reduceLeDiff, Nat.reduceMod, Nat.reduceLT, Int.reduceToNat, Int.reduceAdd, Int.reduceSub, Int.reduceMul, Int.reduceNeg, Int.reduceLE, Int.reduceLT, Int.toNat_natCast, Int.cast_ofNat_Int, Int.reduceNe, Int.reduceEq, Int.reduceBEq, Int.reduceBNe, not_false_eq_true, ne_eq, Int.reduceTMod, Int.reduceTDiv, beq_self_eq_true, bne_self_eq_false, List.contains_cons, List.contains_nil, Nat.reduceBEq, getD_int, Nat.mul_one, List.length_map]) | (refine allI (fun b => ?_)) | (refine allT (fun τ => ?_)) | (refine brP (fun h => ?_) (fun h => ?_) <;> (try simp only [Bool.and_eq_true, Bool.and_eq_false_iff, Bool.or_eq_true, Bool.or_eq_false_iff, Bool.not_eq_true', Bool.not_eq_false', decide_eq_true_eq, decide_eq_false_iff_not, beq_iff_eq, beq_eq_false_iff_ne, ne_eq, bne_iff_ne, Int.not_lt, Int.not_le] at h)))
    · refine ⟨by omega, by omega, by omega, by omega, ?_⟩
      repeat' (first | (simp (disch := first | omega | (simp only [List.length_cons, List.length_nil]; first | done | omega)) only [go_sem, Nat.reduceAdd, Nat.reduceMul, Nat.reduceSub, Nat.reduceEqDiff, Nat.reduceLeDiff, Nat.reduceMod, Nat.reduceLT, Int.reduceToNat, Int.reduceAdd, Int.reduceSub, Int.reduceMul, Int.reduceNeg, Int.reduceLE, Int.reduceLT, Int.toNat_natCast, Int.cast_ofNat_Int, Int.reduceNe, Int.reduceEq, Int.reduceBEq, Int.reduceBNe, not_false_eq_true, ne_eq, Int.reduceTMod, Int.reduceTDiv, beq_self_eq_true, bne_self_eq_false, List.contains_cons, List.contains_nil, Nat.reduceBEq]) | (refine allI (fun b => ?_)) | (refine allT (fun τ => ?_)) | (refine brP (fun h => ?_) (fun h => ?_) <;> (try simp only [Bool.and_eq_true, Bool.and_eq_false_iff, Bool.or_eq_true, Bool.or_eq_false_iff, Bool.not_eq_true', Bool.not_eq_false', decide_eq_true_eq, decide_eq_false_iff_not, beq_iff_eq, beq_eq_false_iff_ne, ne_eq, bne_iff_ne, Int.not_lt, Int.not_le] at h)))
      · have h1 : ¬ a = b := fun e => by subst e; simp at h
        simp [h1]
      · refine ⟨⟨k + 1, ⟨by omega, ?_⟩⟩, by dsimp only; omega, Ents.envH (by simp [go_sem]) rfl⟩
        rw [take_getD (by omega) (by omega), take_getD (by omega) (by omega), hu]
        congr 2
        simpa using h
    · have e : a = b := by
        rw [List.take_of_length_le (by omega), List.take_of_length_le (by omega)] at hu
        exact hu
      simp [e]
end Go.Proofs.Ytmggjfbcjmenlaa
