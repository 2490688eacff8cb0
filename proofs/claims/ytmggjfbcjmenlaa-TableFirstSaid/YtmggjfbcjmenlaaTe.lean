/- Layer 15: table: the reference of Build. -/
import Derived.Test.YtmggjfbcjmenlaaTd
namespace Go.Proofs.Ytmggjfbcjmenlaa
open Go Go.Lx
set_option linter.unusedSimpArgs false
set_option linter.unusedVariables false
set_option maxRecDepth 100000
set_option maxHeartbeats 1000000

/-- the first n rows -/
def rowsR (rs : List Ru) (k : Int) (n : Nat) : List LV := (List.range n).map fun j => Is (rowN rs k rs.length j)
theorem rowsR_succ (rs : List Ru) (k : Int) (n : Nat) : rowsR rs k (n + 1) = rowsR rs k n ++ [Is (rowN rs k rs.length n)] := by
  simp [rowsR, List.range_succ]
theorem leVs_append {a b c d : List LV} (h : leVs a b) (h' : leVs c d) : leVs (a ++ c) (b ++ d) := by
  induction a generalizing b with
  | nil => cases b with
    | nil => exact h'
    | cons y b => exact h.elim
  | cons x a ih => cases b with
    | nil => exact h.elim
    | cons y b => exact ⟨h.1, ih h.2⟩
theorem leV.osl {i : Nat} {t : Tok} {s m : Nat} {xs ys : List LV} (h : leVs xs ys) : leV (.osl i t s m xs) (.osl i t s m ys) := fun M v hv => by
  simp only [RV] at hv ⊢
  refine ⟨by rw [← h.length]; exact hv.1, hv.2.imp ?_ id⟩
  rintro ⟨b, o, cap, e, hle, hc, hl⟩
  exact ⟨b, o, cap, e, hle, h.rcs hc, hl⟩
theorem full_iff (rs : List Ru) (k : Int) (i j : Nat) : full rs k i j = decide (0 < (rowN rs k i j).length) := by
  simp only [full]
  cases h : rowN rs k i j <;> simp
theorem rbuild (rs : List Ru) (k : Int) (hl : rs.length ≤ 1000000) : Pure Try.prog gl 12 [Rus rs, .int .i64 k] (Ix (ixQ rs k) (ixR rs k)) := by
  refine fn_viewT Try.func12 t12 Try.ntmps12 (by simp) ?_
  have h8 : ∀ r, (RuC r).length = 8 := fun r => rfl
  have hlen : (rs.flatMap RuC).length = rs.length * 8 := length_rows h8 rs
  have hk : k = 2 ∨ k = 3 ∨ k = 1 ∨ k = 4 ∨ k = 5 ∨ (¬ k = 2 ∧ ¬ k = 3 ∧ ¬ k = 1 ∧ ¬ k = 4 ∧ ¬ k = 5) := by omega
  rcases hk with rfl | rfl | rfl | rfl | rfl | hk
  · have e1 : ixQ rs 2 = qR rs 2 32 := by rw [qR_eq]; simp [ixQ]
    have e2 : ixR rs 2 = rowsN rs 2 := by simp [ixR]
    rw [e1, e2]
    unfold c12 r12 Rus
    simp (disch := first | omega | (simp only [List.length_cons, List.length_nil]; first | done | omega)) only [go_sem, Nat.reduceAdd, Nat.reduceMul, Nat.reduceSub, Nat.reduceEqDiff, Nat.reduceLeDiff, Nat.reduceMod, Nat.reduceLT, Int.reduceToNat, Int.reduceAdd, Int.reduceSub, Int.reduceMul, Int.reduceNeg, Int.reduceLE, Int.reduceLT, Int.toNat_natCast, Int.cast_ofNat_Int, Int.reduceNe, Int.reduceEq, Int.reduceBEq, Int.reduceBNe, not_false_eq_true, ne_eq, Int.reduceTMod, Int.reduceTDiv, beq_self_eq_true, bne_self_eq_false, List.contains_cons, List.contains_nil, Nat.reduceBEq]
    intro b4 b5
    repeat' (first | (simp (disch := first | omega | (simp only [List.length_cons, List.length_nil]; first | done | omega)) only [go_sem, Nat.reduceAdd, Nat.reduceMul, Nat.reduceSub, Nat.reduceEqDiff, Nat.reduceLeDiff, Nat.reduceMod, Nat.reduceLT, Int.reduceToNat, Int.reduceAdd, Int.reduceSub, Int.reduceMul, Int.reduceNeg, Int.reduceLE, Int.reduceLT, Int.toNat_natCast, Int.cast_ofNat_Int, Int.reduceNe, Int.reduceEq, Int.reduceBEq, Int.reduceBNe, not_false_eq_true, ne_eq, Int.reduceTMod, Int.reduceTDiv, beq_self_eq_true, bne_self_eq_false, List.contains_cons, List.contains_nil, Nat.reduceBEq]) | (refine allI (fun b => ?_)) | (refine allT (fun τ => ?_)) | (refine brP (fun h => ?_) (fun h => ?_) <;> (try simp only [Bool.and_eq_true, Bool.and_eq_false_iff, Bool.or_eq_true, Bool.or_eq_false_iff, Bool.not_eq_true', Bool.not_eq_false', decide_eq_true_eq, decide_eq_false_iff_not, beq_iff_eq, beq_eq_false_iff_ne, ne_eq, bne_iff_ne, Int.not_lt, Int.not_le] at h)))
    refine loopI (ι := Nat × Tok) (fun x => x.1 ≤ 32) (fun x => [(6, .int .i64 x.1), (5, .ptr 5 b5 0), (4, .ptr 4 b4 0), (0, .sl 8 rs.length (rs.flatMap RuC)), (1, .int .i64 2)]) (fun x => [(49, .tok x.2), (5, .blk b5 [.int .u64 (qR rs 2 x.1), .osl 49 x.2 1 x.1 (rowsR rs 2 x.1)]), (4, .blk b4 [.int .u64 0, .fsl 1 0 []])]) (fun x => 32 - x.1) (0, ⟨0, 0, 0⟩) (by dsimp only; omega) (Ents.dum 49 (Ents.le (by simp [go_sem, envLe]) (by simp [heapLe, entLe, leVs, qR, leV.refl, leV.fsl_osl, rowsR]))) ?_
    rintro ⟨n, τ2⟩ hn
    dsimp only at hn ⊢
    repeat' (first | (simp (disch := first | omega | (simp only [List.length_cons, List.length_nil]; first | done | omega)) only [go_sem, Nat.reduceAdd, Nat.reduceMul, Nat.reduceSub, Nat.reduceEqDiff, Nat.reduceLeDiff, Nat.reduceMod, Nat.reduceLT, Int.reduceToNat, Int.reduceAdd, Int.reduceSub, Int.reduceMul, Int.reduceNeg, Int.reduceLE, Int.reduceLT, Int.toNat_natCast, Int.cast_ofNat_Int, Int.reduceNe, Int.reduceEq, Int.reduceBEq, Int.reduceBNe, not_false_eq_true, ne_eq, Int.reduceTMod, Int.reduceTDiv, beq_self_eq_true, bne_self_eq_false, List.contains_cons, List.contains_nil, Nat.reduceBEq]) | (refine allI (fun b => ?_)) | (refine allT (fun τ => ?_)) | (refine brP (fun h => ?_) (fun h => ?_) <;> (try simp only [Bool.and_eq_true, Bool.and_eq_false_iff, Bool.or_eq_true, Bool.or_eq_false_iff, Bool.not_eq_true', Bool.not_eq_false', decide_eq_true_eq, decide_eq_false_iff_not, beq_iff_eq, beq_eq_false_iff_ne, ne_eq, bne_iff_ne, Int.not_lt, Int.not_le] at h)))
    · have hn2 : n < 32 := by omega
      refine loopI (ι := Nat × Tok) (fun x => x.1 ≤ rs.length) (fun x => [(8, .int .i64 x.1), (7, .osl 44 x.2 1 (rowN rs 2 x.1 n).length ((rowN rs 2 x.1 n).map (LV.int .i64))), (6, .int .i64 n), (5, .ptr 5 b5 0), (4, .ptr 4 b4 0), (0, .sl 8 rs.length (rs.flatMap RuC)), (1, .int .i64 2)]) (fun x => [(44, .tok x.2), (49, .tok τ2), (5, .blk b5 [.int .u64 (qR rs 2 n), .osl 49 τ2 1 n (rowsR rs 2 n)]), (4, .blk b4 [.int .u64 0, .fsl 1 0 []])]) (fun x => rs.length - x.1) (0, ⟨0, 0, 0⟩) (by dsimp only; omega) (Ents.dum 44 (Ents.envH (by simp [go_sem, envLe, rowN, leV.fsl_osl]) rfl)) ?_
      rintro ⟨i, τ⟩ hi
      dsimp only at hi ⊢
      have hrl := rowN_len rs 2 n i
      repeat' (first | (simp (disch := first | omega | (simp only [List.length_cons, List.length_nil]; first | done | omega)) only [go_sem, Nat.reduceAdd, Nat.reduceMul, Nat.reduceSub, Nat.reduceEqDiff, Nat.reduceLeDiff, Nat.reduceMod, Nat.reduceLT, Int.reduceToNat, Int.reduceAdd, Int.reduceSub, Int.reduceMul, Int.reduceNeg, Int.reduceLE, Int.reduceLT, Int.toNat_natCast, Int.cast_ofNat_Int, Int.reduceNe, Int.reduceEq, Int.reduceBEq, Int.reduceBNe, not_false_eq_true, ne_eq, Int.reduceTMod, Int.reduceTDiv, beq_self_eq_true, bne_self_eq_false, List.contains_cons, List.contains_nil, Nat.reduceBEq]) | (refine allI (fun b => ?_)) | (refine allT (fun τ => ?_)) | (refine brP (fun h => ?_) (fun h => ?_) <;> (try simp only [Bool.and_eq_true, Bool.and_eq_false_iff, Bool.or_eq_true, Bool.or_eq_false_iff, Bool.not_eq_true', Bool.not_eq_false', decide_eq_true_eq, decide_eq_false_iff_not, beq_iff_eq, beq_eq_false_iff_ne, ne_eq, bne_iff_ne, Int.not_lt, Int.not_le] at h)))
      · have hlt : i < rs.length := by omega
        rw [ru_l rs hlt]
        refine ⟨by omega, by omega, ?_⟩
        repeat' (first | (simp (disch := first | omega | (simp only [List.length_cons, List.length_nil]; first | done | omega)) only [go_sem, Nat.reduceAdd, Nat.reduceMul, Nat.reduceSub, Nat.reduceEqDiff, Nat.reduceLeDiff, Nat.reduceMod, Nat.reduceLT, Int.reduceToNat, Int.reduceAdd, Int.reduceSub, Int.reduceMul, Int.reduceNeg, Int.reduceLE, Int.reduceLT, Int.toNat_natCast, Int.cast_ofNat_Int, Int.reduceNe, Int.reduceEq, Int.reduceBEq, Int.reduceBNe, not_false_eq_true, ne_eq, Int.reduceTMod, Int.reduceTDiv, beq_self_eq_true, bne_self_eq_false, List.contains_cons, List.contains_nil, Nat.reduceBEq]) | (refine allI (fun b => ?_)) | (refine allT (fun τ => ?_)) | (refine brP (fun h => ?_) (fun h => ?_) <;> (try simp only [Bool.and_eq_true, Bool.and_eq_false_iff, Bool.or_eq_true, Bool.or_eq_false_iff, Bool.not_eq_true', Bool.not_eq_false', decide_eq_true_eq, decide_eq_false_iff_not, beq_iff_eq, beq_eq_false_iff_ne, ne_eq, bne_iff_ne, Int.not_lt, Int.not_le] at h)))
        refine ⟨fun h => ⟨h, h, by omega, by omega⟩, fun h => ⟨h, by omega⟩, ?_⟩
        rw [ru_c rs hlt]
        first | refine callG_U (fun hg => rhasB (rs.getD i ru0).c n) ?_ | refine callG_T (fun hg => rhasB (rs.getD i ru0).c n) ?_ | refine callG_of (fun hg => rhasB (rs.getD i ru0).c n) ?_
        repeat' (first | (simp (disch := first | omega | (simp only [List.length_cons, List.length_nil]; first | done | omega)) only [go_sem, Nat.reduceAdd, Nat.reduceMul, Nat.reduceSub, Nat.reduceEqDiff, Nat.reduceLeDiff, Nat.reduceMod, Nat.reduceLT, Int.reduceToNat, Int.reduceAdd, Int.reduceSub, Int.reduceMul, Int.reduceNeg, Int.reduceLE, Int.reduceLT, Int.toNat_natCast, Int.cast_ofNat_Int, Int.reduceNe, Int.reduceEq, Int.reduceBEq, Int.reduceBNe, not_false_eq_true, ne_eq, Int.reduceTMod, Int.reduceTDiv, beq_self_eq_true, bne_self_eq_false, List.contains_cons, List.contains_nil, Nat.reduceBEq]) | (refine allI (fun b => ?_)) | (refine allT (fun τ => ?_)) | (refine brP (fun h => ?_) (fun h => ?_) <;> (try simp only [Bool.and_eq_true, Bool.and_eq_false_iff, Bool.or_eq_true, Bool.or_eq_false_iff, Bool.not_eq_true', Bool.not_eq_false', decide_eq_true_eq, decide_eq_false_iff_not, beq_iff_eq, beq_eq_false_iff_ne, ne_eq, bne_iff_ne, Int.not_lt, Int.not_le] at h)))
        · have hs : sel rs 2 i n = true := by simp only [sel, h.1, h.2, beq_self_eq_true, Bool.and_self]
          have e : rowN rs 2 (i + 1) n = rowN rs 2 i n ++ [(i : Int)] := by simp only [rowN, hs, if_true]
          refine ⟨by simp only [roomy]; omega, fun t => ⟨⟨(i + 1, t), by dsimp only; omega⟩, by dsimp only; omega, Ents.envH (by simp [go_sem, e]) rfl⟩⟩
        · have hs : sel rs 2 i n = false := by
            simp only [sel, Bool.and_eq_false_iff, beq_eq_false_iff_ne]
            exact h
          have e : rowN rs 2 (i + 1) n = rowN rs 2 i n := by simp only [rowN, hs, Bool.false_eq_true, if_false, List.append_nil]
          refine ⟨⟨(i + 1, τ), by dsimp only; omega⟩, by dsimp only; omega, Ents.envH (by simp [go_sem, e]) rfl⟩
      · obtain rfl : i = rs.length := by omega
        refine ⟨by simp only [roomy]; omega, fun t2 => ?_⟩
        have hf := full_iff rs 2 rs.length n
        repeat' (first | (simp (disch := first | omega | (simp only [List.length_cons, List.length_nil]; first | done | omega)) only [go_sem, Nat.reduceAdd, Nat.reduceMul, Nat.reduceSub, Nat.reduceEqDiff, Nat.reduceLeDiff, Nat.reduceMod, Nat.reduceLT, Int.reduceToNat, Int.reduceAdd, Int.reduceSub, Int.reduceMul, Int.reduceNeg, Int.reduceLE, Int.reduceLT, Int.toNat_natCast, Int.cast_ofNat_Int, Int.reduceNe, Int.reduceEq, Int.reduceBEq, Int.reduceBNe, not_false_eq_true, ne_eq, Int.reduceTMod, Int.reduceTDiv, beq_self_eq_true, bne_self_eq_false, List.contains_cons, List.contains_nil, Nat.reduceBEq]) | (refine allI (fun b => ?_)) | (refine allT (fun τ => ?_)) | (refine brP (fun h => ?_) (fun h => ?_) <;> (try simp only [Bool.and_eq_true, Bool.and_eq_false_iff, Bool.or_eq_true, Bool.or_eq_false_iff, Bool.not_eq_true', Bool.not_eq_false', decide_eq_true_eq, decide_eq_false_iff_not, beq_iff_eq, beq_eq_false_iff_ne, ne_eq, bne_iff_ne, Int.not_lt, Int.not_le] at h)))
        · have hf2 : full rs 2 rs.length n = true := by rw [hf]; simp; omega
          have hq : qR rs 2 (n + 1) = bitop .or .u64 (qR rs 2 n) (shl .u64 1 n) := by simp only [qR, hf2, if_true]
          refine ⟨by omega, ⟨(n + 1, t2), by dsimp only; omega⟩, by dsimp only; omega, Ents.heap [_, _, _] (by simp [go_sem]) ⟨_, .cons_cons _ (.cons _ (.refl _)), .refl _⟩ ⟨rfl, ⟨rfl, leV.of_eq (by rw [hq]), ?_, trivial⟩, ⟨rfl, leVs.refl _⟩, trivial⟩⟩
          rw [rowsR_succ]
          exact leV.osl (leVs_append (leVs.refl _) ⟨leV.osl_sl _ _ _ _ _, trivial⟩)
        · have hf2 : full rs 2 rs.length n = false := by rw [hf]; exact decide_eq_false (by omega)
          have hq : qR rs 2 (n + 1) = qR rs 2 n := by simp only [qR, hf2, Bool.false_eq_true, if_false]
          refine ⟨⟨(n + 1, t2), by dsimp only; omega⟩, by dsimp only; omega, Ents.heap [_, _, _] (by simp [go_sem]) ⟨_, .cons_cons _ (.cons _ (.refl _)), .refl _⟩ ⟨rfl, ⟨rfl, leV.of_eq (by rw [hq]), ?_, trivial⟩, ⟨rfl, leVs.refl _⟩, trivial⟩⟩
          rw [rowsR_succ]
          exact leV.osl (leVs_append (leVs.refl _) ⟨leV.osl_sl _ _ _ _ _, trivial⟩)
    · obtain rfl : n = 32 := by omega
      refine view_sub (leV.agg ⟨leV.refl _, ?_, trivial⟩) (List.nil_sublist _)
      rw [show (rowsN rs 2).length = 32 by simp [rowsN], show (rowsN rs 2).map Is = rowsR rs 2 32 by simp [rowsN, rowsR]]
      exact leV.osl_sl _ _ _ _ _
  · have e1 : ixQ rs 3 = qR rs 3 32 := by rw [qR_eq]; simp [ixQ]
    have e2 : ixR rs 3 = rowsN rs 3 := by simp [ixR]
    rw [e1, e2]
    unfold c12 r12 Rus
    simp (disch := first | omega | (simp only [List.length_cons, List.length_nil]; first | done | omega)) only [go_sem, Nat.reduceAdd, Nat.reduceMul, Nat.reduceSub, Nat.reduceEqDiff, Nat.reduceLeDiff, Nat.reduceMod, Nat.reduceLT, Int.reduceToNat, Int.reduceAdd, Int.reduceSub, Int.reduceMul, Int.reduceNeg, Int.reduceLE, Int.reduceLT, Int.toNat_natCast, Int.cast_ofNat_Int, Int.reduceNe, Int.reduceEq, Int.reduceBEq, Int.reduceBNe, not_false_eq_true, ne_eq, Int.reduceTMod, Int.reduceTDiv, beq_self_eq_true, bne_self_eq_false, List.contains_cons, List.contains_nil, Nat.reduceBEq]
    intro b4 b5
    repeat' (first | (simp (disch := first | omega | (simp only [List.length_cons, List.length_nil]; first | done | omega)) only [go_sem, Nat.reduceAdd, Nat.reduceMul, Nat.reduceSub, Nat.reduceEqDiff, Nat.reduceLeDiff, Nat.reduceMod, Nat.reduceLT, Int.reduceToNat, Int.reduceAdd, Int.reduceSub, Int.reduceMul, Int.reduceNeg, Int.reduceLE, Int.reduceLT, Int.toNat_natCast, Int.cast_ofNat_Int, Int.reduceNe, Int.reduceEq, Int.reduceBEq, Int.reduceBNe, not_false_eq_true, ne_eq, Int.reduceTMod, Int.reduceTDiv, beq_self_eq_true, bne_self_eq_false, List.contains_cons, List.contains_nil, Nat.reduceBEq]) | (refine allI (fun b => ?_)) | (refine allT (fun τ => ?_)) | (refine brP (fun h => ?_) (fun h => ?_) <;> (try simp only [Bool.and_eq_true, Bool.and_eq_false_iff, Bool.or_eq_true, Bool.or_eq_false_iff, Bool.not_eq_true', Bool.not_eq_false', decide_eq_true_eq, decide_eq_false_iff_not, beq_iff_eq, beq_eq_false_iff_ne, ne_eq, bne_iff_ne, Int.not_lt, Int.not_le] at h)))
    refine loopI (ι := Nat × Tok) (fun x => x.1 ≤ 32) (fun x => [(6, .int .i64 x.1), (5, .ptr 5 b5 0), (4, .ptr 4 b4 0), (0, .sl 8 rs.length (rs.flatMap RuC)), (1, .int .i64 3)]) (fun x => [(49, .tok x.2), (5, .blk b5 [.int .u64 (qR rs 3 x.1), .osl 49 x.2 1 x.1 (rowsR rs 3 x.1)]), (4, .blk b4 [.int .u64 0, .fsl 1 0 []])]) (fun x => 32 - x.1) (0, ⟨0, 0, 0⟩) (by dsimp only; omega) (Ents.dum 49 (Ents.le (by simp [go_sem, envLe]) (by simp [heapLe, entLe, leVs, qR, leV.refl, leV.fsl_osl, rowsR]))) ?_
    rintro ⟨n, τ2⟩ hn
    dsimp only at hn ⊢
    repeat' (first | (simp (disch := first | omega | (simp only [List.length_cons, List.length_nil]; first | done | omega)) only [go_sem, Nat.reduceAdd, Nat.reduceMul, Nat.reduceSub, Nat.reduceEqDiff, Nat.reduceLeDiff, Nat.reduceMod, Nat.reduceLT, Int.reduceToNat, Int.reduceAdd, Int.reduceSub, Int.reduceMul, Int.reduceNeg, Int.reduceLE, Int.reduceLT, Int.toNat_natCast, Int.cast_ofNat_Int, Int.reduceNe, Int.reduceEq, Int.reduceBEq, Int.reduceBNe, not_false_eq_true, ne_eq, Int.reduceTMod, Int.reduceTDiv, beq_self_eq_true, bne_self_eq_false, List.contains_cons, List.contains_nil, Nat.reduceBEq]) | (refine allI (fun b => ?_)) | (refine allT (fun τ => ?_)) | (refine brP (fun h => ?_) (fun h => ?_) <;> (try simp only [Bool.and_eq_true, Bool.and_eq_false_iff, Bool.or_eq_true, Bool.or_eq_false_iff, Bool.not_eq_true', Bool.not_eq_false', decide_eq_true_eq, decide_eq_false_iff_not, beq_iff_eq, beq_eq_false_iff_ne, ne_eq, bne_iff_ne, Int.not_lt, Int.not_le] at h)))
    · have hn2 : n < 32 := by omega
      refine loopI (ι := Nat × Tok) (fun x => x.1 ≤ rs.length) (fun x => [(8, .int .i64 x.1), (7, .osl 44 x.2 1 (rowN rs 3 x.1 n).length ((rowN rs 3 x.1 n).map (LV.int .i64))), (6, .int .i64 n), (5, .ptr 5 b5 0), (4, .ptr 4 b4 0), (0, .sl 8 rs.length (rs.flatMap RuC)), (1, .int .i64 3)]) (fun x => [(44, .tok x.2), (49, .tok τ2), (5, .blk b5 [.int .u64 (qR rs 3 n), .osl 49 τ2 1 n (rowsR rs 3 n)]), (4, .blk b4 [.int .u64 0, .fsl 1 0 []])]) (fun x => rs.length - x.1) (0, ⟨0, 0, 0⟩) (by dsimp only; omega) (Ents.dum 44 (Ents.envH (by simp [go_sem, envLe, rowN, leV.fsl_osl]) rfl)) ?_
      rintro ⟨i, τ⟩ hi
      dsimp only at hi ⊢
      have hrl := rowN_len rs 3 n i
      repeat' (first | (simp (disch := first | omega | (simp only [List.length_cons, List.length_nil]; first | done | omega)) only [go_sem, Nat.reduceAdd, Nat.reduceMul, Nat.reduceSub, Nat.reduceEqDiff, Nat.reduceLeDiff, Nat.reduceMod, Nat.reduceLT, Int.reduceToNat, Int.reduceAdd, Int.reduceSub, Int.reduceMul, Int.reduceNeg, Int.reduceLE, Int.reduceLT, Int.toNat_natCast, Int.cast_ofNat_Int, Int.reduceNe, Int.reduceEq, Int.reduceBEq, Int.reduceBNe, not_false_eq_true, ne_eq, Int.reduceTMod, Int.reduceTDiv, beq_self_eq_true, bne_self_eq_false, List.contains_cons, List.contains_nil, Nat.reduceBEq]) | (refine allI (fun b => ?_)) | (refine allT (fun τ => ?_)) | (refine brP (fun h => ?_) (fun h => ?_) <;> (try simp only [Bool.and_eq_true, Bool.and_eq_false_iff, Bool.or_eq_true, Bool.or_eq_false_iff, Bool.not_eq_true', Bool.not_eq_false', decide_eq_true_eq, decide_eq_false_iff_not, beq_iff_eq, beq_eq_false_iff_ne, ne_eq, bne_iff_ne, Int.not_lt, Int.not_le] at h)))
      · have hlt : i < rs.length := by omega
        rw [ru_l rs hlt]
        refine ⟨by omega, by omega, ?_⟩
        repeat' (first | (simp (disch := first | omega | (simp only [List.length_cons, List.length_nil]; first | done | omega)) only [go_sem, Nat.reduceAdd, Nat.reduceMul, Nat.reduceSub, Nat.reduceEqDiff, Nat.reduceLeDiff, Nat.reduceMod, Nat.reduceLT, Int.reduceToNat, Int.reduceAdd, Int.reduceSub, Int.reduceMul, Int.reduceNeg, Int.reduceLE, Int.reduceLT, Int.toNat_natCast, Int.cast_ofNat_Int, Int.reduceNe, Int.reduceEq, Int.reduceBEq, Int.reduceBNe, not_false_eq_true, ne_eq, Int.reduceTMod, Int.reduceTDiv, beq_self_eq_true, bne_self_eq_false, List.contains_cons, List.contains_nil, Nat.reduceBEq]) | (refine allI (fun b => ?_)) | (refine allT (fun τ => ?_)) | (refine brP (fun h => ?_) (fun h => ?_) <;> (try simp only [Bool.and_eq_true, Bool.and_eq_false_iff, Bool.or_eq_true, Bool.or_eq_false_iff, Bool.not_eq_true', Bool.not_eq_false', decide_eq_true_eq, decide_eq_false_iff_not, beq_iff_eq, beq_eq_false_iff_ne, ne_eq, bne_iff_ne, Int.not_lt, Int.not_le] at h)))
        refine ⟨fun h => ⟨h, h, by omega, by omega⟩, fun h => ⟨h, by omega⟩, ?_⟩
        rw [ru_c rs hlt]
        first | refine callG_U (fun hg => rhasB (rs.getD i ru0).c n) ?_ | refine callG_T (fun hg => rhasB (rs.getD i ru0).c n) ?_ | refine callG_of (fun hg => rhasB (rs.getD i ru0).c n) ?_
        repeat' (first | (simp (disch := first | omega | (simp only [List.length_cons, List.length_nil]; first | done | omega)) only [go_sem, Nat.reduceAdd, Nat.reduceMul, Nat.reduceSub, Nat.reduceEqDiff, Nat.reduceLeDiff, Nat.reduceMod, Nat.reduceLT, Int.reduceToNat, Int.reduceAdd, Int.reduceSub, Int.reduceMul, Int.reduceNeg, Int.reduceLE, Int.reduceLT, Int.toNat_natCast, Int.cast_ofNat_Int, Int.reduceNe, Int.reduceEq, Int.reduceBEq, Int.reduceBNe, not_false_eq_true, ne_eq, Int.reduceTMod, Int.reduceTDiv, beq_self_eq_true, bne_self_eq_false, List.contains_cons, List.contains_nil, Nat.reduceBEq]) | (refine allI (fun b => ?_)) | (refine allT (fun τ => ?_)) | (refine brP (fun h => ?_) (fun h => ?_) <;> (try simp only [Bool.and_eq_true, Bool.and_eq_false_iff, Bool.or_eq_true, Bool.or_eq_false_iff, Bool.not_eq_true', Bool.not_eq_false', decide_eq_true_eq, decide_eq_false_iff_not, beq_iff_eq, beq_eq_false_iff_ne, ne_eq, bne_iff_ne, Int.not_lt, Int.not_le] at h)))
        · have hs : sel rs 3 i n = true := by simp only [sel, h.1, h.2, beq_self_eq_true, Bool.and_self]
          have e : rowN rs 3 (i + 1) n = rowN rs 3 i n ++ [(i : Int)] := by simp only [rowN, hs, if_true]
          refine ⟨by simp only [roomy]; omega, fun t => ⟨⟨(i + 1, t), by dsimp only; omega⟩, by dsimp only; omega, Ents.envH (by simp [go_sem, e]) rfl⟩⟩
        · have hs : sel rs 3 i n = false := by
            simp only [sel, Bool.and_eq_false_iff, beq_eq_false_iff_ne]
            exact h
          have e : rowN rs 3 (i + 1) n = rowN rs 3 i n := by simp only [rowN, hs, Bool.false_eq_true, if_false, List.append_nil]
          refine ⟨⟨(i + 1, τ), by dsimp only; omega⟩, by dsimp only; omega, Ents.envH (by simp [go_sem, e]) rfl⟩
      · obtain rfl : i = rs.length := by omega
        refine ⟨by simp only [roomy]; omega, fun t2 => ?_⟩
        have hf := full_iff rs 3 rs.length n
        repeat' (first | (simp (disch := first | omega | (simp only [List.length_cons, List.length_nil]; first | done | omega)) only [go_sem, Nat.reduceAdd, Nat.reduceMul, Nat.reduceSub, Nat.reduceEqDiff, Nat.reduceLeDiff, Nat.reduceMod, Nat.reduceLT, Int.reduceToNat, Int.reduceAdd, Int.reduceSub, Int.reduceMul, Int.reduceNeg, Int.reduceLE, Int.reduceLT, Int.toNat_natCast, Int.cast_ofNat_Int, Int.reduceNe, Int.reduceEq, Int.reduceBEq, Int.reduceBNe, not_false_eq_true, ne_eq, Int.reduceTMod, Int.reduceTDiv, beq_self_eq_true, bne_self_eq_false, List.contains_cons, List.contains_nil, Nat.reduceBEq]) | (refine allI (fun b => ?_)) | (refine allT (fun τ => ?_)) | (refine brP (fun h => ?_) (fun h => ?_) <;> (try simp only [Bool.and_eq_true, Bool.and_eq_false_iff, Bool.or_eq_true, Bool.or_eq_false_iff, Bool.not_eq_true', Bool.not_eq_false', decide_eq_true_eq, decide_eq_false_iff_not, beq_iff_eq, beq_eq_false_iff_ne, ne_eq, bne_iff_ne, Int.not_lt, Int.not_le] at h)))
        · have hf2 : full rs 3 rs.length n = true := by rw [hf]; simp; omega
          have hq : qR rs 3 (n + 1) = bitop .or .u64 (qR rs 3 n) (shl .u64 1 n) := by simp only [qR, hf2, if_true]
          refine ⟨by omega, ⟨(n + 1, t2), by dsimp only; omega⟩, by dsimp only; omega, Ents.heap [_, _, _] (by simp [go_sem]) ⟨_, .cons_cons _ (.cons _ (.refl _)), .refl _⟩ ⟨rfl, ⟨rfl, leV.of_eq (by rw [hq]), ?_, trivial⟩, ⟨rfl, leVs.refl _⟩, trivial⟩⟩
          rw [rowsR_succ]
          exact leV.osl (leVs_append (leVs.refl _) ⟨leV.osl_sl _ _ _ _ _, trivial⟩)
        · have hf2 : full rs 3 rs.length n = false := by rw [hf]; exact decide_eq_false (by omega)
          have hq : qR rs 3 (n + 1) = qR rs 3 n := by simp only [qR, hf2, Bool.false_eq_true, if_false]
          refine ⟨⟨(n + 1, t2), by dsimp only; omega⟩, by dsimp only; omega, Ents.heap [_, _, _] (by simp [go_sem]) ⟨_, .cons_cons _ (.cons _ (.refl _)), .refl _⟩ ⟨rfl, ⟨rfl, leV.of_eq (by rw [hq]), ?_, trivial⟩, ⟨rfl, leVs.refl _⟩, trivial⟩⟩
          rw [rowsR_succ]
          exact leV.osl (leVs_append (leVs.refl _) ⟨leV.osl_sl _ _ _ _ _, trivial⟩)
    · obtain rfl : n = 32 := by omega
      refine view_sub (leV.agg ⟨leV.refl _, ?_, trivial⟩) (List.nil_sublist _)
      rw [show (rowsN rs 3).length = 32 by simp [rowsN], show (rowsN rs 3).map Is = rowsR rs 3 32 by simp [rowsN, rowsR]]
      exact leV.osl_sl _ _ _ _ _
  · have e1 : ixQ rs 1 = 0 := by simp [ixQ]
    have e2 : ixR rs 1 = [rowL rs 1 rs.length] := by simp [ixR]
    rw [e1, e2]
    unfold c12 r12 Rus
    simp (disch := first | omega | (simp only [List.length_cons, List.length_nil]; first | done | omega)) only [go_sem, Nat.reduceAdd, Nat.reduceMul, Nat.reduceSub, Nat.reduceEqDiff, Nat.reduceLeDiff, Nat.reduceMod, Nat.reduceLT, Int.reduceToNat, Int.reduceAdd, Int.reduceSub, Int.reduceMul, Int.reduceNeg, Int.reduceLE, Int.reduceLT, Int.toNat_natCast, Int.cast_ofNat_Int, Int.reduceNe, Int.reduceEq, Int.reduceBEq, Int.reduceBNe, not_false_eq_true, ne_eq, Int.reduceTMod, Int.reduceTDiv, beq_self_eq_true, bne_self_eq_false, List.contains_cons, List.contains_nil, Nat.reduceBEq]
    intro b4 b5
    repeat' (first | (simp (disch := first | omega | (simp only [List.length_cons, List.length_nil]; first | done | omega)) only [go_sem, Nat.reduceAdd, Nat.reduceMul, Nat.reduceSub, Nat.reduceEqDiff, Nat.reduceLeDiff, Nat.reduceMod, Nat.reduceLT, Int.reduceToNat, Int.reduceAdd, Int.reduceSub, Int.reduceMul, Int.reduceNeg, Int.reduceLE, Int.reduceLT, Int.toNat_natCast, Int.cast_ofNat_Int, Int.reduceNe, Int.reduceEq, Int.reduceBEq, Int.reduceBNe, not_false_eq_true, ne_eq, Int.reduceTMod, Int.reduceTDiv, beq_self_eq_true, bne_self_eq_false, List.contains_cons, List.contains_nil, Nat.reduceBEq]) | (refine allI (fun b => ?_)) | (refine allT (fun τ => ?_)) | (refine brP (fun h => ?_) (fun h => ?_) <;> (try simp only [Bool.and_eq_true, Bool.and_eq_false_iff, Bool.or_eq_true, Bool.or_eq_false_iff, Bool.not_eq_true', Bool.not_eq_false', decide_eq_true_eq, decide_eq_false_iff_not, beq_iff_eq, beq_eq_false_iff_ne, ne_eq, bne_iff_ne, Int.not_lt, Int.not_le] at h)))
    refine loopI (ι := Nat × Tok) (fun x => x.1 ≤ rs.length) (fun x => [(10, .int .i64 x.1), (9, .osl 81 x.2 1 (rowL rs 1 x.1).length ((rowL rs 1 x.1).map (LV.int .i64))), (5, .ptr 5 b5 0), (4, .ptr 4 b4 0), (0, .sl 8 rs.length (rs.flatMap RuC)), (1, .int .i64 1)]) (fun x => [(81, .tok x.2), (5, .blk b5 [.int .u64 0, .fsl 1 0 []]), (4, .blk b4 [.int .u64 0, .fsl 1 0 []])]) (fun x => rs.length - x.1) (0, ⟨0, 0, 0⟩) (by dsimp only; omega) (Ents.dum 81 (Ents.envH (by simp [go_sem, envLe, rowL, leV.fsl_osl]) rfl)) ?_
    rintro ⟨i, τ⟩ hi
    dsimp only at hi ⊢
    have hrl := rowL_len rs 1 i
    repeat' (first | (simp (disch := first | omega | (simp only [List.length_cons, List.length_nil]; first | done | omega)) only [go_sem, Nat.reduceAdd, Nat.reduceMul, Nat.reduceSub, Nat.reduceEqDiff, Nat.reduceLeDiff, Nat.reduceMod, Nat.reduceLT, Int.reduceToNat, Int.reduceAdd, Int.reduceSub, Int.reduceMul, Int.reduceNeg, Int.reduceLE, Int.reduceLT, Int.toNat_natCast, Int.cast_ofNat_Int, Int.reduceNe, Int.reduceEq, Int.reduceBEq, Int.reduceBNe, not_false_eq_true, ne_eq, Int.reduceTMod, Int.reduceTDiv, beq_self_eq_true, bne_self_eq_false, List.contains_cons, List.contains_nil, Nat.reduceBEq]) | (refine allI (fun b => ?_)) | (refine allT (fun τ => ?_)) | (refine brP (fun h => ?_) (fun h => ?_) <;> (try simp only [Bool.and_eq_true, Bool.and_eq_false_iff, Bool.or_eq_true, Bool.or_eq_false_iff, Bool.not_eq_true', Bool.not_eq_false', decide_eq_true_eq, decide_eq_false_iff_not, beq_iff_eq, beq_eq_false_iff_ne, ne_eq, bne_iff_ne, Int.not_lt, Int.not_le] at h)))
    · have hlt : i < rs.length := by omega
      rw [ru_l rs hlt]
      refine ⟨by omega, by omega, ?_⟩
      repeat' (first | (simp (disch := first | omega | (simp only [List.length_cons, List.length_nil]; first | done | omega)) only [go_sem, Nat.reduceAdd, Nat.reduceMul, Nat.reduceSub, Nat.reduceEqDiff, Nat.reduceLeDiff, Nat.reduceMod, Nat.reduceLT, Int.reduceToNat, Int.reduceAdd, Int.reduceSub, Int.reduceMul, Int.reduceNeg, Int.reduceLE, Int.reduceLT, Int.toNat_natCast, Int.cast_ofNat_Int, Int.reduceNe, Int.reduceEq, Int.reduceBEq, Int.reduceBNe, not_false_eq_true, ne_eq, Int.reduceTMod, Int.reduceTDiv, beq_self_eq_true, bne_self_eq_false, List.contains_cons, List.contains_nil, Nat.reduceBEq]) | (refine allI (fun b => ?_)) | (refine allT (fun τ => ?_)) | (refine brP (fun h => ?_) (fun h => ?_) <;> (try simp only [Bool.and_eq_true, Bool.and_eq_false_iff, Bool.or_eq_true, Bool.or_eq_false_iff, Bool.not_eq_true', Bool.not_eq_false', decide_eq_true_eq, decide_eq_false_iff_not, beq_iff_eq, beq_eq_false_iff_ne, ne_eq, bne_iff_ne, Int.not_lt, Int.not_le] at h)))
      · have e : rowL rs 1 (i + 1) = rowL rs 1 i ++ [(i : Int)] := by simp only [rowL, h, beq_self_eq_true, if_true]
        refine ⟨by simp only [roomy]; omega, fun t => ⟨⟨(i + 1, t), by dsimp only; omega⟩, by dsimp only; omega, Ents.envH (by simp [go_sem, e]) rfl⟩⟩
      · have e : rowL rs 1 (i + 1) = rowL rs 1 i := by simp only [rowL, beq_eq_false_iff_ne.2 h, Bool.false_eq_true, if_false, List.append_nil]
        refine ⟨⟨(i + 1, τ), by dsimp only; omega⟩, by dsimp only; omega, Ents.envH (by simp [go_sem, e]) rfl⟩
    · obtain rfl : i = rs.length := by omega
      refine ⟨by simp only [roomy]; omega, fun t => ?_⟩
      exact view_sub (leV.agg ⟨leV.refl _, (leV.osl_sl _ _ _ _ _).trans (leV.sl ⟨leV.osl_sl _ _ _ _ _, trivial⟩), trivial⟩) (List.nil_sublist _)
  · have e1 : ixQ rs 4 = 0 := by simp [ixQ]
    have e2 : ixR rs 4 = [rowL rs 4 rs.length] := by simp [ixR]
    rw [e1, e2]
    unfold c12 r12 Rus
    simp (disch := first | omega | (simp only [List.length_cons, List.length_nil]; first | done | omega)) only [go_sem, Nat.reduceAdd, Nat.reduceMul, Nat.reduceSub, Nat.reduceEqDiff, Nat.reduceLeDiff, Nat.reduceMod, Nat.reduceLT, Int.reduceToNat, Int.reduceAdd, Int.reduceSub, Int.reduceMul, Int.reduceNeg, Int.reduceLE, Int.reduceLT, Int.toNat_natCast, Int.cast_ofNat_Int, Int.reduceNe, Int.reduceEq, Int.reduceBEq, Int.reduceBNe, not_false_eq_true, ne_eq, Int.reduceTMod, Int.reduceTDiv, beq_self_eq_true, bne_self_eq_false, List.contains_cons, List.contains_nil, Nat.reduceBEq]
    intro b4 b5
    repeat' (first | (simp (disch := first | omega | (simp only [List.length_cons, List.length_nil]; first | done | omega)) only [go_sem, Nat.reduceAdd, Nat.reduceMul, Nat.reduceSub, Nat.reduceEqDiff, Nat.reduceLeDiff, Nat.reduceMod, Nat.reduceLT, Int.reduceToNat, Int.reduceAdd, Int.reduceSub, Int.reduceMul, Int.reduceNeg, Int.reduceLE, Int.reduceLT, Int.toNat_natCast, Int.cast_ofNat_Int, Int.reduceNe, Int.reduceEq, Int.reduceBEq, Int.reduceBNe, not_false_eq_true, ne_eq, Int.reduceTMod, Int.reduceTDiv, beq_self_eq_true, bne_self_eq_false, List.contains_cons, List.contains_nil, Nat.reduceBEq]) | (refine allI (fun b => ?_)) | (refine allT (fun τ => ?_)) | (refine brP (fun h => ?_) (fun h => ?_) <;> (try simp only [Bool.and_eq_true, Bool.and_eq_false_iff, Bool.or_eq_true, Bool.or_eq_false_iff, Bool.not_eq_true', Bool.not_eq_false', decide_eq_true_eq, decide_eq_false_iff_not, beq_iff_eq, beq_eq_false_iff_ne, ne_eq, bne_iff_ne, Int.not_lt, Int.not_le] at h)))
    refine loopI (ι := Nat × Tok) (fun x => x.1 ≤ rs.length) (fun x => [(10, .int .i64 x.1), (9, .osl 81 x.2 1 (rowL rs 4 x.1).length ((rowL rs 4 x.1).map (LV.int .i64))), (5, .ptr 5 b5 0), (4, .ptr 4 b4 0), (0, .sl 8 rs.length (rs.flatMap RuC)), (1, .int .i64 4)]) (fun x => [(81, .tok x.2), (5, .blk b5 [.int .u64 0, .fsl 1 0 []]), (4, .blk b4 [.int .u64 0, .fsl 1 0 []])]) (fun x => rs.length - x.1) (0, ⟨0, 0, 0⟩) (by dsimp only; omega) (Ents.dum 81 (Ents.envH (by simp [go_sem, envLe, rowL, leV.fsl_osl]) rfl)) ?_
    rintro ⟨i, τ⟩ hi
    dsimp only at hi ⊢
    have hrl := rowL_len rs 4 i
    repeat' (first | (simp (disch := first | omega | (simp only [List.length_cons, List.length_nil]; first | done | omega)) only [go_sem, Nat.reduceAdd, Nat.reduceMul, Nat.reduceSub, Nat.reduceEqDiff, Nat.reduceLeDiff, Nat.reduceMod, Nat.reduceLT, Int.reduceToNat, Int.reduceAdd, Int.reduceSub, Int.reduceMul, Int.reduceNeg, Int.reduceLE, Int.reduceLT, Int.toNat_natCast, Int.cast_ofNat_Int, Int.reduceNe, Int.reduceEq, Int.reduceBEq, Int.reduceBNe, not_false_eq_true, ne_eq, Int.reduceTMod, Int.reduceTDiv, beq_self_eq_true, bne_self_eq_false, List.contains_cons, List.contains_nil, Nat.reduceBEq]) | (refine allI (fun b => ?_)) | (refine allT (fun τ => ?_)) | (refine brP (fun h => ?_) (fun h => ?_) <;> (try simp only [Bool.and_eq_true, Bool.and_eq_false_iff, Bool.or_eq_true, Bool.or_eq_false_iff, Bool.not_eq_true', Bool.not_eq_false', decide_eq_true_eq, decide_eq_false_iff_not, beq_iff_eq, beq_eq_false_iff_ne, ne_eq, bne_iff_ne, Int.not_lt, Int.not_le] at h)))
    · have hlt : i < rs.length := by omega
      rw [ru_l rs hlt]
      refine ⟨by omega, by omega, ?_⟩
      repeat' (first | (simp (disch := first | omega | (simp only [List.length_cons, List.length_nil]; first | done | omega)) only [go_sem, Nat.reduceAdd, Nat.reduceMul, Nat.reduceSub, Nat.reduceEqDiff, Nat.reduceLeDiff, Nat.reduceMod, Nat.reduceLT, Int.reduceToNat, Int.reduceAdd, Int.reduceSub, Int.reduceMul, Int.reduceNeg, Int.reduceLE, Int.reduceLT, Int.toNat_natCast, Int.cast_ofNat_Int, Int.reduceNe, Int.reduceEq, Int.reduceBEq, Int.reduceBNe, not_false_eq_true, ne_eq, Int.reduceTMod, Int.reduceTDiv, beq_self_eq_true, bne_self_eq_false, List.contains_cons, List.contains_nil, Nat.reduceBEq]) | (refine allI (fun b => ?_)) | (refine allT (fun τ => ?_)) | (refine brP (fun h => ?_) (fun h => ?_) <;> (try simp only [Bool.and_eq_true, Bool.and_eq_false_iff, Bool.or_eq_true, Bool.or_eq_false_iff, Bool.not_eq_true', Bool.not_eq_false', decide_eq_true_eq, decide_eq_false_iff_not, beq_iff_eq, beq_eq_false_iff_ne, ne_eq, bne_iff_ne, Int.not_lt, Int.not_le] at h)))
      · have e : rowL rs 4 (i + 1) = rowL rs 4 i ++ [(i : Int)] := by simp only [rowL, h, beq_self_eq_true, if_true]
        refine ⟨by simp only [roomy]; omega, fun t => ⟨⟨(i + 1, t), by dsimp only; omega⟩, by dsimp only; omega, Ents.envH (by simp [go_sem, e]) rfl⟩⟩
      · have e : rowL rs 4 (i + 1) = rowL rs 4 i := by simp only [rowL, beq_eq_false_iff_ne.2 h, Bool.false_eq_true, if_false, List.append_nil]
        refine ⟨⟨(i + 1, τ), by dsimp only; omega⟩, by dsimp only; omega, Ents.envH (by simp [go_sem, e]) rfl⟩
    · obtain rfl : i = rs.length := by omega
      refine ⟨by simp only [roomy]; omega, fun t => ?_⟩
      exact view_sub (leV.agg ⟨leV.refl _, (leV.osl_sl _ _ _ _ _).trans (leV.sl ⟨leV.osl_sl _ _ _ _ _, trivial⟩), trivial⟩) (List.nil_sublist _)
  · have e1 : ixQ rs 5 = 0 := by simp [ixQ]
    have e2 : ixR rs 5 = [rowL rs 5 rs.length] := by simp [ixR]
    rw [e1, e2]
    unfold c12 r12 Rus
    simp (disch := first | omega | (simp only [List.length_cons, List.length_nil]; first | done | omega)) only [go_sem, Nat.reduceAdd, Nat.reduceMul, Nat.reduceSub, Nat.reduceEqDiff, Nat.reduceLeDiff, Nat.reduceMod, Nat.reduceLT, Int.reduceToNat, Int.reduceAdd, Int.reduceSub, Int.reduceMul, Int.reduceNeg, Int.reduceLE, Int.reduceLT, Int.toNat_natCast, Int.cast_ofNat_Int, Int.reduceNe, Int.reduceEq, Int.reduceBEq, Int.reduceBNe, not_false_eq_true, ne_eq, Int.reduceTMod, Int.reduceTDiv, beq_self_eq_true, bne_self_eq_false, List.contains_cons, List.contains_nil, Nat.reduceBEq]
    intro b4 b5
    repeat' (first | (simp (disch := first | omega | (simp only [List.length_cons, List.length_nil]; first | done | omega)) only [go_sem, Nat.reduceAdd, Nat.reduceMul, Nat.reduceSub, Nat.reduceEqDiff, Nat.reduceLeDiff, Nat.reduceMod, Nat.reduceLT, Int.reduceToNat, Int.reduceAdd, Int.reduceSub, Int.reduceMul, Int.reduceNeg, Int.reduceLE, Int.reduceLT, Int.toNat_natCast, Int.cast_ofNat_Int, Int.reduceNe, Int.reduceEq, Int.reduceBEq, Int.reduceBNe, not_false_eq_true, ne_eq, Int.reduceTMod, Int.reduceTDiv, beq_self_eq_true, bne_self_eq_false, List.contains_cons, List.contains_nil, Nat.reduceBEq]) | (refine allI (fun b => ?_)) | (refine allT (fun τ => ?_)) | (refine brP (fun h => ?_) (fun h => ?_) <;> (try simp only [Bool.and_eq_true, Bool.and_eq_false_iff, Bool.or_eq_true, Bool.or_eq_false_iff, Bool.not_eq_true', Bool.not_eq_false', decide_eq_true_eq, decide_eq_false_iff_not, beq_iff_eq, beq_eq_false_iff_ne, ne_eq, bne_iff_ne, Int.not_lt, Int.not_le] at h)))
    refine loopI (ι := Nat × Tok) (fun x => x.1 ≤ rs.length) (fun x => [(10, .int .i64 x.1), (9, .osl 81 x.2 1 (rowL rs 5 x.1).length ((rowL rs 5 x.1).map (LV.int .i64))), (5, .ptr 5 b5 0), (4, .ptr 4 b4 0), (0, .sl 8 rs.length (rs.flatMap RuC)), (1, .int .i64 5)]) (fun x => [(81, .tok x.2), (5, .blk b5 [.int .u64 0, .fsl 1 0 []]), (4, .blk b4 [.int .u64 0, .fsl 1 0 []])]) (fun x => rs.length - x.1) (0, ⟨0, 0, 0⟩) (by dsimp only; omega) (Ents.dum 81 (Ents.envH (by simp [go_sem, envLe, rowL, leV.fsl_osl]) rfl)) ?_
    rintro ⟨i, τ⟩ hi
    dsimp only at hi ⊢
    have hrl := rowL_len rs 5 i
    repeat' (first | (simp (disch := first | omega | (simp only [List.length_cons, List.length_nil]; first | done | omega)) only [go_sem, Nat.reduceAdd, Nat.reduceMul, Nat.reduceSub, Nat.reduceEqDiff, Nat.reduceLeDiff, Nat.reduceMod, Nat.reduceLT, Int.reduceToNat, Int.reduceAdd, Int.reduceSub, Int.reduceMul, Int.reduceNeg, Int.reduceLE, Int.reduceLT, Int.toNat_natCast, Int.cast_ofNat_Int, Int.reduceNe, Int.reduceEq, Int.reduceBEq, Int.reduceBNe, not_false_eq_true, ne_eq, Int.reduceTMod, Int.reduceTDiv, beq_self_eq_true, bne_self_eq_false, List.contains_cons, List.contains_nil, Nat.reduceBEq]) | (refine allI (fun b => ?_)) | (refine allT (fun τ => ?_)) | (refine brP (fun h => ?_) (fun h => ?_) <;> (try simp only [Bool.and_eq_true, Bool.and_eq_false_iff, Bool.or_eq_true, Bool.or_eq_false_iff, Bool.not_eq_true', Bool.not_eq_false', decide_eq_true_eq, decide_eq_false_iff_not, beq_iff_eq, beq_eq_false_iff_ne, ne_eq, bne_iff_ne, Int.not_lt, Int.not_le] at h)))
    · have hlt : i < rs.length := by omega
      rw [ru_l rs hlt]
      refine ⟨by omega, by omega, ?_⟩
      repeat' (first | (simp (disch := first | omega | (simp only [List.length_cons, List.length_nil]; first | done | omega)) only [go_sem, Nat.reduceAdd, Nat.reduceMul, Nat.reduceSub, Nat.reduceEqDiff, Nat.reduceLeDiff, Nat.reduceMod, Nat.reduceLT, Int.reduceToNat, Int.reduceAdd, Int.reduceSub, Int.reduceMul, Int.reduceNeg, Int.reduceLE, Int.reduceLT, Int.toNat_natCast, Int.cast_ofNat_Int, Int.reduceNe, Int.reduceEq, Int.reduceBEq, Int.reduceBNe, not_false_eq_true, ne_eq, Int.reduceTMod, Int.reduceTDiv, beq_self_eq_true, bne_self_eq_false, List.contains_cons, List.contains_nil, Nat.reduceBEq]) | (refine allI (fun b => ?_)) | (refine allT (fun τ => ?_)) | (refine brP (fun h => ?_) (fun h => ?_) <;> (try simp only [Bool.and_eq_true, Bool.and_eq_false_iff, Bool.or_eq_true, Bool.or_eq_false_iff, Bool.not_eq_true', Bool.not_eq_false', decide_eq_true_eq, decide_eq_false_iff_not, beq_iff_eq, beq_eq_false_iff_ne, ne_eq, bne_iff_ne, Int.not_lt, Int.not_le] at h)))
      · have e : rowL rs 5 (i + 1) = rowL rs 5 i ++ [(i : Int)] := by simp only [rowL, h, beq_self_eq_true, if_true]
        refine ⟨by simp only [roomy]; omega, fun t => ⟨⟨(i + 1, t), by dsimp only; omega⟩, by dsimp only; omega, Ents.envH (by simp [go_sem, e]) rfl⟩⟩
      · have e : rowL rs 5 (i + 1) = rowL rs 5 i := by simp only [rowL, beq_eq_false_iff_ne.2 h, Bool.false_eq_true, if_false, List.append_nil]
        refine ⟨⟨(i + 1, τ), by dsimp only; omega⟩, by dsimp only; omega, Ents.envH (by simp [go_sem, e]) rfl⟩
    · obtain rfl : i = rs.length := by omega
      refine ⟨by simp only [roomy]; omega, fun t => ?_⟩
      exact view_sub (leV.agg ⟨leV.refl _, (leV.osl_sl _ _ _ _ _).trans (leV.sl ⟨leV.osl_sl _ _ _ _ _, trivial⟩), trivial⟩) (List.nil_sublist _)
  · have e1 : ixQ rs k = 0 := by simp [ixQ, hk]
    have e2 : ixR rs k = [] := by simp [ixR, hk]
    rw [e1, e2]
    obtain ⟨k2, k3, k1, k4, k5⟩ := hk
    unfold c12 r12 Rus
    repeat' (first | (simp (disch := first | omega | (simp only [List.length_cons, List.length_nil]; first | done | omega)) only [go_sem, Nat.reduceAdd, Nat.reduceMul, Nat.reduceSub, Nat.reduceEqDiff, Nat.reduceLeDiff, Nat.reduceMod, Nat.reduceLT, Int.reduceToNat, Int.reduceAdd, Int.reduceSub, Int.reduceMul, Int.reduceNeg, Int.reduceLE, Int.reduceLT, Int.toNat_natCast, Int.cast_ofNat_Int, Int.reduceNe, Int.reduceEq, Int.reduceBEq, Int.reduceBNe, not_false_eq_true, ne_eq, Int.reduceTMod, Int.reduceTDiv, beq_self_eq_true, bne_self_eq_false, List.contains_cons, List.contains_nil, Nat.reduceBEq]) | (refine allI (fun b => ?_)) | (refine allT (fun τ => ?_)) | (refine brP (fun h => ?_) (fun h => ?_) <;> (try simp only [Bool.and_eq_true, Bool.and_eq_false_iff, Bool.or_eq_true, Bool.or_eq_false_iff, Bool.not_eq_true', Bool.not_eq_false', decide_eq_true_eq, decide_eq_false_iff_not, beq_iff_eq, beq_eq_false_iff_ne, ne_eq, bne_iff_ne, Int.not_lt, Int.not_le] at h)))
    all_goals first | exact absurd ‹_› ‹_› | exact view_sub (leV.agg ⟨leV.refl _, leV.fsl_sl _ _ _, trivial⟩) (List.nil_sublist _)
end Go.Proofs.Ytmggjfbcjmenlaa
