/- Layer 8: AccessBuilt. -/
import Derived.Test.YtpcacgmconokdaaDoorAccT
namespace Go.Proofs.YtpcacgmconokdaaDoor
open Go Go.Lx
set_option linter.unusedSimpArgs false
set_option linter.unusedVariables false
set_option maxRecDepth 100000
set_option maxHeartbeats 4000000

theorem built7 (mode a by' : Int) (h0 : 0 ≤ a) (h1 : a ≤ 255) : Pure Tryd.prog gl 7 [.int .i64 mode, .int .u8 a, .int .u8 by'] (.bool true) := by
  refine fn_pureT Tryd.func7 t7 Tryd.ntmps7 (by simp) ?_
  unfold c7 r7
  have hm := and_mask (a := mode) (b := 511) (by omega) (by omega)
  obtain ⟨i, hi, ei⟩ : ∃ i : Nat, i < 9 ∧ a.tmod 9 = (i : Int) := ⟨(a.tmod 9).toNat, by rw [Int.tmod_eq_emod_of_nonneg h0]; omega, by rw [Int.tmod_eq_emod_of_nonneg h0]; omega⟩
  obtain ⟨j, hj, ej⟩ : ∃ j : Nat, j < 5 ∧ a.tmod 5 = (j : Int) := ⟨(a.tmod 5).toNat, by rw [Int.tmod_eq_emod_of_nonneg h0]; omega, by rw [Int.tmod_eq_emod_of_nonneg h0]; omega⟩
  simp (disch := first | omega | (simp only [List.length_cons, List.length_nil]; first | done | omega)) only [go_sem, Nat.reduceAdd, Nat.reduceMul, Nat.reduceSub, Nat.reduceEqDiff, Nat.reduceLeDiff, Nat.reduceMod, Nat.reduceLT, Int.reduceToNat, Int.reduceAdd, Int.reduceSub, Int.reduceMul, Int.reduceNeg, Int.reduceLE, Int.reduceLT, Int.toNat_natCast, Int.cast_ofNat_Int, Int.reduceNe, Int.reduceEq, Int.reduceBEq, Int.reduceBNe, not_false_eq_true, ne_eq, Int.reduceTMod, Int.reduceTDiv, beq_self_eq_true, bne_self_eq_false]
  refine call_of (fmt15 _ hm.1 hm.2) ?_
  simp (disch := first | omega | (simp only [List.length_cons, List.length_nil]; first | done | omega)) only [go_sem, Nat.reduceAdd, Nat.reduceMul, Nat.reduceSub, Nat.reduceEqDiff, Nat.reduceLeDiff, Nat.reduceMod, Nat.reduceLT, Int.reduceToNat, Int.reduceAdd, Int.reduceSub, Int.reduceMul, Int.reduceNeg, Int.reduceLE, Int.reduceLT, Int.toNat_natCast, Int.cast_ofNat_Int, Int.reduceNe, Int.reduceEq, Int.reduceBEq, Int.reduceBNe, not_false_eq_true, ne_eq, Int.reduceTMod, Int.reduceTDiv, beq_self_eq_true, bne_self_eq_false]
  refine ⟨rfl, .inr fun b k => ?_⟩
  have hz : zeros [.int .u8 0] 5 = [.int .u8 0, .int .u8 0, .int .u8 0, .int .u8 0, .int .u8 0] := rfl
  obtain ⟨z, ez⟩ : ∃ z, List.getD [LV.int .u8 114, .int .u8 119, .int .u8 120, .int .u8 45, .int .u8 by'] j .any = .int .u8 z := by
    rcases (by omega : j = 0 ∨ j = 1 ∨ j = 2 ∨ j = 3 ∨ j = 4) with rfl | rfl | rfl | rfl | rfl <;> exact ⟨_, rfl⟩
  have hl : ((fmt (bitop .and .i64 mode 511)).map (fun u => LV.int .u8 (u.toNat : Int)) ++ List.replicate k (LV.int .u8 0)).length = 9 + k := by simp [fmt_length]
  have hby : ∀ c ∈ (fmt (bitop .and .i64 mode 511)).map (fun u => LV.int .u8 (u.toNat : Int)) ++ List.replicate k (LV.int .u8 0), isByte c = true := by
    intro c hc
    rcases List.mem_append.1 hc with hc | hc
    · obtain ⟨u, _, rfl⟩ := List.mem_map.1 hc; rfl
    · rw [(List.mem_replicate.1 hc).2]; rfl
  generalize (fmt (bitop .and .i64 mode 511)).map (fun u => LV.int .u8 (u.toNat : Int)) ++ List.replicate k (LV.int .u8 0) = cs at hl hby ⊢
  simp (disch := first | omega | (simp only [List.length_cons, List.length_nil]; first | done | omega)) only [go_sem, Nat.reduceAdd, Nat.reduceMul, Nat.reduceSub, Nat.reduceEqDiff, Nat.reduceLeDiff, Nat.reduceMod, Nat.reduceLT, Int.reduceToNat, Int.reduceAdd, Int.reduceSub, Int.reduceMul, Int.reduceNeg, Int.reduceLE, Int.reduceLT, Int.toNat_natCast, Int.cast_ofNat_Int, Int.reduceNe, Int.reduceEq, Int.reduceBEq, Int.reduceBNe, not_false_eq_true, ne_eq, Int.reduceTMod, Int.reduceTDiv, beq_self_eq_true, bne_self_eq_false, hz, ei, ej, fmt_length, ez, Nat.mul_one, hl]
  have hb9 : 9 ≤ (List.take i cs ++ [LV.int .u8 z] ++ List.drop (i + 1) cs).length ∧ ∀ (c : LV), c ∈ List.take 9 (List.take i cs ++ [LV.int .u8 z] ++ List.drop (i + 1) cs) → isByte c = true := by
    refine ⟨by simp [hl]; omega, fun c hc => ?_⟩
    rcases List.mem_append.1 (List.mem_of_mem_take hc) with h | h
    · rcases List.mem_append.1 h with h | h
      · exact hby _ (List.mem_of_mem_take h)
      · simp at h; subst h; rfl
    · exact hby _ (List.mem_of_mem_drop h)
  refine ⟨by omega, by omega, by omega, by omega, hb9, call_of (parse12 _) ?_⟩
  simp (disch := first | omega | (simp only [List.length_cons, List.length_nil]; first | done | omega)) only [go_sem, Nat.reduceAdd, Nat.reduceMul, Nat.reduceSub, Nat.reduceEqDiff, Nat.reduceLeDiff, Nat.reduceMod, Nat.reduceLT, Int.reduceToNat, Int.reduceAdd, Int.reduceSub, Int.reduceMul, Int.reduceNeg, Int.reduceLE, Int.reduceLT, Int.toNat_natCast, Int.cast_ofNat_Int, Int.reduceNe, Int.reduceEq, Int.reduceBEq, Int.reduceBNe, not_false_eq_true, ne_eq, Int.reduceTMod, Int.reduceTDiv, beq_self_eq_true, bne_self_eq_false]
  refine ⟨hb9, call_of (parse13 _) ?_⟩
  simp (disch := first | omega | (simp only [List.length_cons, List.length_nil]; first | done | omega)) only [go_sem, Nat.reduceAdd, Nat.reduceMul, Nat.reduceSub, Nat.reduceEqDiff, Nat.reduceLeDiff, Nat.reduceMod, Nat.reduceLT, Int.reduceToNat, Int.reduceAdd, Int.reduceSub, Int.reduceMul, Int.reduceNeg, Int.reduceLE, Int.reduceLT, Int.toNat_natCast, Int.cast_ofNat_Int, Int.reduceNe, Int.reduceEq, Int.reduceBEq, Int.reduceBNe, not_false_eq_true, ne_eq, Int.reduceTMod, Int.reduceTDiv, beq_self_eq_true, bne_self_eq_false]
  refine callG_of (fun _ => awake11) ?_
  simp (disch := first | omega | (simp only [List.length_cons, List.length_nil]; first | done | omega)) only [go_sem, Nat.reduceAdd, Nat.reduceMul, Nat.reduceSub, Nat.reduceEqDiff, Nat.reduceLeDiff, Nat.reduceMod, Nat.reduceLT, Int.reduceToNat, Int.reduceAdd, Int.reduceSub, Int.reduceMul, Int.reduceNeg, Int.reduceLE, Int.reduceLT, Int.toNat_natCast, Int.cast_ofNat_Int, Int.reduceNe, Int.reduceEq, Int.reduceBEq, Int.reduceBNe, not_false_eq_true, ne_eq, Int.reduceTMod, Int.reduceTDiv, beq_self_eq_true, bne_self_eq_false]
end Go.Proofs.YtpcacgmconokdaaDoor
