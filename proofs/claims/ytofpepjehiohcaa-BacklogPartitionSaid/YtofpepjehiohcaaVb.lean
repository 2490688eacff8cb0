/- Layer 20: the accounting: counts in an array; the pairs of a LOSS record. -/
import Derived.Test.YtofpepjehiohcaaVa
namespace Go.Proofs.Ytofpepjehiohcaa
open Go Go.Lx
set_option linter.unusedSimpArgs false
set_option linter.unusedVariables false
set_option maxRecDepth 100000
set_option maxHeartbeats 4000000

def arrF (n : Nat) (F : Int → Int) : List LV := (List.range n).map fun k : Nat => LV.int .i64 (F k)
theorem arrF_len (n : Nat) (F : Int → Int) : (arrF n F).length = n := by simp [arrF]
theorem arrF_get {n : Nat} {F : Int → Int} {j : Nat} (h : j < n) : (arrF n F).getD (j * 1) .any = .int .i64 (F j) := by
  simp [arrF, List.getD, h]
theorem arrF_ext {n : Nat} {F G : Int → Int} (h : ∀ k : Nat, k < n → F k = G k) : arrF n F = arrF n G := by
  unfold arrF
  refine List.map_congr_left fun k hk => ?_
  rw [h k (by simpa using hk)]
theorem arrF_set {n : Nat} {F : Int → Int} {j : Nat} (h : j < n) (v : Int) : (arrF n F).take (j * 1) ++ [.int .i64 v] ++ (arrF n F).drop (j * 1 + 1) = arrF n (fun k => if k = j then v else F k) := by
  have e : (arrF n F).take (j * 1) ++ [.int .i64 v] ++ (arrF n F).drop (j * 1 + 1) = (arrF n F).set j (.int .i64 v) := by
    rw [Nat.mul_one, List.set_eq_take_append_cons_drop, if_pos (by rw [arrF_len]; exact h)]
    simp
  rw [e]
  refine List.ext_getElem (by simp [arrF]) fun i h1 h2 => ?_
  rw [List.getElem_set]
  simp only [arrF, List.getElem_map, List.getElem_range]
  by_cases hij : j = i
  · subst hij; simp
  · rw [if_neg hij, if_neg (by omega)]
theorem getF (p : Lo) (t s : Int) : Pure Try.prog gl 23 [.agg (RcC (lossR p t s)), .str [102, 105, 114, 115, 116]] (.tup [.agg (PaC ((lossP p).getD 0 pa0)), .bool true]) := by
  refine fn_pureT Try.func23 t23 Try.ntmps23 (by simp) ?_
  unfold c23 r23
  rw [RcC_eq, PaS_eq]
  have hps : (lossR p t s).ps = lossP p := rfl
  rw [hps]
  have hl : (lossP p).length = 5 := rfl
  have hc : (lossP p).flatMap PaC = [.str [102, 105, 114, 115, 116], .int .i64 1, .int .i64 p.f, .str [], .str [108, 97, 115, 116], .int .i64 1, .int .i64 p.l, .str [], .str [114, 97, 116, 101, 100], .int .i64 1, .int .i64 p.r, .str [], .str [102, 117, 108, 108], .int .i64 1, .int .i64 p.u, .str [], .str [115, 116, 97, 108, 108, 101, 100], .int .i64 1, .int .i64 p.s, .str []] := rfl
  rw [hl, hc]
  simp (disch := first | omega | (simp only [List.length_cons, List.length_nil]; first | done | omega)) only [go_sem, Nat.reduceAdd, Nat.reduceMul, Nat.reduceSub, Nat.reduceEqDiff, Nat.reduceLeDiff, Nat.reduceMod, Nat.reduceLT, Int.reduceToNat, Int.reduceAdd, Int.reduceSub, Int.reduceMul, Int.reduceNeg, Int.reduceLE, Int.reduceLT, Int.toNat_natCast, Int.cast_ofNat_Int, Int.reduceNe, Int.reduceEq, Int.reduceBEq, Int.reduceBNe, not_false_eq_true, ne_eq, Int.reduceTMod, Int.reduceTDiv, beq_self_eq_true, bne_self_eq_false, List.contains_cons, List.contains_nil, Nat.reduceBEq]
  intro p2 p4
  refine loopI (ι := Nat) (fun i => i ≤ 0) (fun i => (6, .int .i64 i) :: _) (fun i => _) (fun i => 2 - i) 0 (by omega) Ents.same ?_
  intro i hi
  rcases (by omega : i = 0 ∨ (i = 1 ∧ 1 ≤ 0)) with rfl | ⟨rfl, h1⟩
  · repeat' (first | (simp (disch := first | omega | (simp only [List.length_cons, List.length_nil]; first | done | omega)) only [go_sem, Nat.reduceAdd, Nat.reduceMul, Nat.reduceSub, Nat.reduceEqDiff, Nat.reduceLeDiff, Nat.reduceMod, Nat.reduceLT, Int.reduceToNat, Int.reduceAdd, Int.reduceSub, Int.reduceMul, Int.reduceNeg, Int.reduceLE, Int.reduceLT, Int.toNat_natCast, Int.cast_ofNat_Int, Int.reduceNe, Int.reduceEq, Int.reduceBEq, Int.reduceBNe, not_false_eq_true, ne_eq, Int.reduceTMod, Int.reduceTDiv, beq_self_eq_true, bne_self_eq_false, List.contains_cons, List.contains_nil, Nat.reduceBEq]) | (refine allI (fun b => ?_)) | (refine allT (fun τ => ?_)) | (refine brP (fun h => ?_) (fun h => ?_) <;> (try simp only [Bool.and_eq_true, Bool.and_eq_false_iff, Bool.or_eq_true, Bool.or_eq_false_iff, Bool.not_eq_true', Bool.not_eq_false', decide_eq_true_eq, decide_eq_false_iff_not, beq_iff_eq, beq_eq_false_iff_ne, ne_eq, bne_iff_ne, Int.not_lt, Int.not_le] at h)))
    all_goals first
      | done
      | exact absurd h (by decide)
      | exact leV.refl _
      | exact ⟨⟨1, by omega⟩, by dsimp only; omega, Ents.envH (by simp [go_sem]) rfl⟩
      | trace_state
  · repeat' (first | (simp (disch := first | omega | (simp only [List.length_cons, List.length_nil]; first | done | omega)) only [go_sem, Nat.reduceAdd, Nat.reduceMul, Nat.reduceSub, Nat.reduceEqDiff, Nat.reduceLeDiff, Nat.reduceMod, Nat.reduceLT, Int.reduceToNat, Int.reduceAdd, Int.reduceSub, Int.reduceMul, Int.reduceNeg, Int.reduceLE, Int.reduceLT, Int.toNat_natCast, Int.cast_ofNat_Int, Int.reduceNe, Int.reduceEq, Int.reduceBEq, Int.reduceBNe, not_false_eq_true, ne_eq, Int.reduceTMod, Int.reduceTDiv, beq_self_eq_true, bne_self_eq_false, List.contains_cons, List.contains_nil, Nat.reduceBEq]) | (refine allI (fun b => ?_)) | (refine allT (fun τ => ?_)) | (refine brP (fun h => ?_) (fun h => ?_) <;> (try simp only [Bool.and_eq_true, Bool.and_eq_false_iff, Bool.or_eq_true, Bool.or_eq_false_iff, Bool.not_eq_true', Bool.not_eq_false', decide_eq_true_eq, decide_eq_false_iff_not, beq_iff_eq, beq_eq_false_iff_ne, ne_eq, bne_iff_ne, Int.not_lt, Int.not_le] at h)))
    all_goals first
      | done
      | omega
      | exact leV.refl _
      | trace_state
theorem getL (p : Lo) (t s : Int) : Pure Try.prog gl 23 [.agg (RcC (lossR p t s)), .str [108, 97, 115, 116]] (.tup [.agg (PaC ((lossP p).getD 1 pa0)), .bool true]) := by
  refine fn_pureT Try.func23 t23 Try.ntmps23 (by simp) ?_
  unfold c23 r23
  rw [RcC_eq, PaS_eq]
  have hps : (lossR p t s).ps = lossP p := rfl
  rw [hps]
  have hl : (lossP p).length = 5 := rfl
  have hc : (lossP p).flatMap PaC = [.str [102, 105, 114, 115, 116], .int .i64 1, .int .i64 p.f, .str [], .str [108, 97, 115, 116], .int .i64 1, .int .i64 p.l, .str [], .str [114, 97, 116, 101, 100], .int .i64 1, .int .i64 p.r, .str [], .str [102, 117, 108, 108], .int .i64 1, .int .i64 p.u, .str [], .str [115, 116, 97, 108, 108, 101, 100], .int .i64 1, .int .i64 p.s, .str []] := rfl
  rw [hl, hc]
  simp (disch := first | omega | (simp only [List.length_cons, List.length_nil]; first | done | omega)) only [go_sem, Nat.reduceAdd, Nat.reduceMul, Nat.reduceSub, Nat.reduceEqDiff, Nat.reduceLeDiff, Nat.reduceMod, Nat.reduceLT, Int.reduceToNat, Int.reduceAdd, Int.reduceSub, Int.reduceMul, Int.reduceNeg, Int.reduceLE, Int.reduceLT, Int.toNat_natCast, Int.cast_ofNat_Int, Int.reduceNe, Int.reduceEq, Int.reduceBEq, Int.reduceBNe, not_false_eq_true, ne_eq, Int.reduceTMod, Int.reduceTDiv, beq_self_eq_true, bne_self_eq_false, List.contains_cons, List.contains_nil, Nat.reduceBEq]
  intro p2 p4
  refine loopI (ι := Nat) (fun i => i ≤ 1) (fun i => (6, .int .i64 i) :: _) (fun i => _) (fun i => 2 - i) 0 (by omega) Ents.same ?_
  intro i hi
  rcases (by omega : i = 0 ∨ (i = 1 ∧ 1 ≤ 1)) with rfl | ⟨rfl, h1⟩
  · repeat' (first | (simp (disch := first | omega | (simp only [List.length_cons, List.length_nil]; first | done | omega)) only [go_sem, Nat.reduceAdd, Nat.reduceMul, Nat.reduceSub, Nat.reduceEqDiff, Nat.reduceLeDiff, Nat.reduceMod, Nat.reduceLT, Int.reduceToNat, Int.reduceAdd, Int.reduceSub, Int.reduceMul, Int.reduceNeg, Int.reduceLE, Int.reduceLT, Int.toNat_natCast, Int.cast_ofNat_Int, Int.reduceNe, Int.reduceEq, Int.reduceBEq, Int.reduceBNe, not_false_eq_true, ne_eq, Int.reduceTMod, Int.reduceTDiv, beq_self_eq_true, bne_self_eq_false, List.contains_cons, List.contains_nil, Nat.reduceBEq]) | (refine allI (fun b => ?_)) | (refine allT (fun τ => ?_)) | (refine brP (fun h => ?_) (fun h => ?_) <;> (try simp only [Bool.and_eq_true, Bool.and_eq_false_iff, Bool.or_eq_true, Bool.or_eq_false_iff, Bool.not_eq_true', Bool.not_eq_false', decide_eq_true_eq, decide_eq_false_iff_not, beq_iff_eq, beq_eq_false_iff_ne, ne_eq, bne_iff_ne, Int.not_lt, Int.not_le] at h)))
    all_goals first
      | done
      | exact absurd h (by decide)
      | exact leV.refl _
      | exact ⟨⟨1, by omega⟩, by dsimp only; omega, Ents.envH (by simp [go_sem]) rfl⟩
      | trace_state
  · repeat' (first | (simp (disch := first | omega | (simp only [List.length_cons, List.length_nil]; first | done | omega)) only [go_sem, Nat.reduceAdd, Nat.reduceMul, Nat.reduceSub, Nat.reduceEqDiff, Nat.reduceLeDiff, Nat.reduceMod, Nat.reduceLT, Int.reduceToNat, Int.reduceAdd, Int.reduceSub, Int.reduceMul, Int.reduceNeg, Int.reduceLE, Int.reduceLT, Int.toNat_natCast, Int.cast_ofNat_Int, Int.reduceNe, Int.reduceEq, Int.reduceBEq, Int.reduceBNe, not_false_eq_true, ne_eq, Int.reduceTMod, Int.reduceTDiv, beq_self_eq_true, bne_self_eq_false, List.contains_cons, List.contains_nil, Nat.reduceBEq]) | (refine allI (fun b => ?_)) | (refine allT (fun τ => ?_)) | (refine brP (fun h => ?_) (fun h => ?_) <;> (try simp only [Bool.and_eq_true, Bool.and_eq_false_iff, Bool.or_eq_true, Bool.or_eq_false_iff, Bool.not_eq_true', Bool.not_eq_false', decide_eq_true_eq, decide_eq_false_iff_not, beq_iff_eq, beq_eq_false_iff_ne, ne_eq, bne_iff_ne, Int.not_lt, Int.not_le] at h)))
    all_goals first
      | done
      | omega
      | exact leV.refl _
      | trace_state
theorem lsV_nn {rs : List Rc} {s : Int} (h : ∀ r ∈ rs, r.ty = 1331 → LsOk s r) : ∀ r ∈ rs, 0 ≤ lsV r := fun r hr => by
  unfold lsV
  split
  · rename_i ht
    have h1 := h r hr ht
    have := h1.su
    have := h1.fl
    omega
  · omega
theorem lsum_nn {rs : List Rc} (h : ∀ r ∈ rs, 0 ≤ lsV r) : 0 ≤ lsum rs := by
  induction rs with
  | nil => simp [lsum]
  | cons r rs ih =>
    have := ih fun r' hr => h r' (List.mem_cons_of_mem _ hr)
    have := h r (List.mem_cons_self ..)
    simp only [lsum, List.map_cons, List.sum_cons] at *
    omega
theorem lsum_take {rs : List Rc} (h : ∀ r ∈ rs, 0 ≤ lsV r) (j : Nat) : 0 ≤ lsum (rs.take j) ∧ lsum (rs.take j) ≤ lsum rs := by
  have e : lsum rs = lsum (rs.take j) + lsum (rs.drop j) := by rw [← lsum_app, List.take_append_drop]
  have h1 := lsum_nn (rs := rs.take j) fun r hr => h r (List.mem_of_mem_take hr)
  have h2 := lsum_nn (rs := rs.drop j) fun r hr => h r (List.mem_of_mem_drop hr)
  omega
theorem cntL_le (k : Int) (rs : List Rc) : cntL k rs ≤ rs.length := by
  induction rs with
  | nil => simp [cntL]
  | cons r rs ih =>
    have : cov k r ≤ 1 := by unfold cov; split <;> omega
    simp only [cntL, List.map_cons, List.sum_cons, List.length_cons] at *
    omega
end Go.Proofs.Ytofpepjehiohcaa
