/- Layer 22: what is never completed (the law). -/
import Derived.Test.YtfheeghkajihoaaDoorBr
namespace Go.Proofs.YtfheeghkajihoaaDoor
open Go Go.Lx
set_option linter.unusedSimpArgs false
set_option linter.unusedVariables false
set_option maxRecDepth 100000
set_option maxHeartbeats 4000000

theorem recs_succ (j : Nat) : recs (j + 1) = recs j ++ [⟨1005, 0, (j : Int) + 2, []⟩] := by simp [recs, List.range_succ]
theorem recs_len (j : Nat) : (recs j).length = j := by simp [recs]
theorem recs_ps (j : Nat) : ∀ r ∈ recs j, r.ps.length ≤ 1000000 := by
  intro r hr
  simp only [recs, List.mem_map] at hr
  obtain ⟨_, _, rfl⟩ := hr
  simp
theorem as1_eq : as1 = ⟨1, 1, 0, [⟨1, 1, 0, [r1], false⟩], [], [], 1⟩ := by kernel_rfl
theorem okA1 : okA as1 1 := by
  rw [as1_eq]
  refine ⟨Nat.le_refl _, fun e he => ?_, Nat.zero_le _, fun x hx => absurd hx (by simp), fun x hx => absurd hx (by simp), by simp, by simp, by simp, by simp⟩
  simp only [List.mem_singleton] at he
  subst he
  simp [r1]
theorem okLall (k : Nat) (h : 61 ≤ k ∧ k ≤ 66) : okL k = true := by
  obtain ⟨h1, h2⟩ := h
  rcases (by omega : k = 61 ∨ k = 62 ∨ k = 63 ∨ k = 64 ∨ k = 65 ∨ k = 66) with rfl | rfl | rfl | rfl | rfl | rfl
  · exact okL0
  · exact okL1
  · exact okL2
  · exact okL3
  · exact okL4
  · exact okL5
theorem limits (n : Int) (hn : 0 ≤ n ∧ n < 256) : Pure Tryd.prog gl 5 [.int .u8 n] (.bool true) := by
  refine fn_viewT Tryd.func5 t5 Tryd.ntmps5 (by simp) ?_
  have h0 := new 1
  have hf := LCalls.args (args' := [.agg (AsC (as0 1)), .fsl 4 1 [.int .i64 1300, .int .i64 0, .int .i64 1, .fsl 1 0 []]]) (feed (as0 1) 0 (okA0 1) [r1] (by simp) (by simp [r1])) ⟨leV.refl _, (leV.fsl_sl _ _ _).trans (leV.sl ⟨leV.refl _, leV.refl _, leV.refl _, leV.nil_sl _ _, trivial⟩), trivial⟩
  rw [outR] at hf
  change LCalls _ _ _ _ _ (fun r' H => r' = .tup [.agg (AsC as1), _] ∧ H = []) at hf
  have hg := fun k τ (hk : k ≤ 100) => LCalls.args (args' := [.agg (AsC as1), .osl 34 τ 4 k ((recs k).flatMap RcC)]) (feed as1 1 okA1 (recs k) (by rw [recs_len]; omega) (recs_ps k)) ⟨leV.refl _, by rw [recs_len]; exact leV.osl_sl _ _ _ _ _, trivial⟩
  have hout : ∀ k, (feedS as1 (recs k)).2 = outL k := fun _ => rfl
  simp only [hout] at hg
  generalize as1 = A1 at *
  unfold c5 r5
  simp only [as0, AsC_eq, List.flatMap_nil, List.length_nil] at h0 hf hg
  have ht : n.tmod 6 = n % 6 := Int.tmod_eq_emod_of_nonneg hn.1
  obtain ⟨k, hk⟩ : ∃ k : Nat, 61 + n % 6 = (k : Int) := ⟨(61 + n % 6).toNat, by omega⟩
  have hk2 : 61 ≤ k ∧ k ≤ 66 := by omega
  have hok := okLall k hk2
  repeat' (first | (simp (disch := first | omega | (simp only [List.length_cons, List.length_nil]; first | done | omega)) only [go_sem, Nat.reduceAdd, Nat.reduceMul, Nat.reduceSub, Nat.reduceEqDiff, Nat.reduceLeDiff, Nat.reduceMod, Nat.reduceLT, Int.reduceToNat, Int.reduceAdd, Int.reduceSub, Int.reduceMul, Int.reduceNeg, Int.reduceLE, Int.reduceLT, Int.reduceNe, Int.reduceEq, Int.reduceBEq, Int.reduceBNe, Int.reduceTMod, Int.reduceTDiv, Nat.reduceBEq, zRc, ht, hk]) | (refine allI (fun b => ?_)) | (refine allT (fun τ => ?_)) | (refine brP (fun h => ?_) (fun h => ?_) <;> (try simp only [zgx, zbx] at h)) | refine call_U (h0) ?_ | refine callG_U (fun _ => h0) ?_ | refine call_T (h0) ?_ | refine callG_T (fun _ => h0) ?_ | refine call_U (hf) ?_ | refine callG_U (fun _ => hf) ?_ | refine call_T (hf) ?_ | refine callG_T (fun _ => hf) ?_ | refine call_U (awake) ?_ | refine callG_U (fun _ => awake) ?_ | refine call_T (awake) ?_ | refine callG_T (fun _ => awake) ?_ | refine call_N (h0) ?_ | refine call_of (h0) ?_ | refine callG_of (fun _ => h0) ?_ | refine call_N (hf) ?_ | refine call_of (hf) ?_ | refine callG_of (fun _ => hf) ?_ | refine call_N (awake) ?_ | refine call_of (awake) ?_ | refine callG_of (fun _ => awake) ?_ | (apply And.intro; focus (first | omega | (simp; done) | (simp +contextual; done) | (intros; and_intros <;> first | assumption | omega) | (intros; simp_all; done) | (intro hgd; refine ⟨hgd, ?_⟩; simp [hgd]; done) | (intro hgd; simp only [zgx] at hgd ⊢; omega))) | fail)
  refine loopI (ι := Nat × Tok) (fun y => y.1 ≤ k) (fun y => [(7, .int .i64 ((y.1 : Int) + 2)), (6, .osl 34 y.2 4 y.1 ((recs y.1).flatMap RcC)), (5, .int .i64 k), (3, .ptr 3 b 0)]) (fun y => [(34, .tok y.2), (3, .blk b [.int .i64 A1.bo, .int .i64 A1.nx, .int .i64 A1.st, .sl 5 A1.op.length (A1.op.flatMap EvC), .sl 5 A1.ls.length (A1.ls.flatMap LsC), .sl 2 A1.gs.length (A1.gs.flatMap GpC), .int .i64 A1.la])]) (fun y => k - y.1) (0, ⟨0, 0, 0⟩) (Nat.zero_le _) (Ents.dum 34 (Ents.envH ?_ rfl)) ?_
  · simp only [envLe, Lx.get, if_true, Nat.reduceEqDiff, if_false]
    exact ⟨leV.refl _, leV.nil_osl _ _ _ _, leV.refl _, leV.refl _, trivial⟩
  rintro ⟨j, τ⟩ hj
  dsimp only at hj ⊢
  simp (disch := first | omega | (simp only [List.length_cons, List.length_nil]; first | done | omega)) only [go_sem, Nat.reduceAdd, Nat.reduceMul, Nat.reduceSub, Nat.reduceEqDiff, Nat.reduceLeDiff, Nat.reduceMod, Nat.reduceLT, Int.reduceToNat, Int.reduceAdd, Int.reduceSub, Int.reduceMul, Int.reduceNeg, Int.reduceLE, Int.reduceLT, Int.reduceNe, Int.reduceEq, Int.reduceBEq, Int.reduceBNe, Int.reduceTMod, Int.reduceTDiv, Nat.reduceBEq]
  refine brP (fun hb => ?_) (fun hb => ?_)
  · have hlt : j < k := by simp only [decide_eq_true_eq] at hb; omega
    repeat' (first | (simp (disch := first | omega | (simp only [List.length_cons, List.length_nil]; first | done | omega)) only [go_sem, Nat.reduceAdd, Nat.reduceMul, Nat.reduceSub, Nat.reduceEqDiff, Nat.reduceLeDiff, Nat.reduceMod, Nat.reduceLT, Int.reduceToNat, Int.reduceAdd, Int.reduceSub, Int.reduceMul, Int.reduceNeg, Int.reduceLE, Int.reduceLT, Int.reduceNe, Int.reduceEq, Int.reduceBEq, Int.reduceBNe, Int.reduceTMod, Int.reduceTDiv, Nat.reduceBEq, zRc]) | (refine allI (fun b => ?_)) | (refine allT (fun τ => ?_)) | (refine brP (fun h => ?_) (fun h => ?_) <;> (try simp only [zgx, zbx] at h)) | (apply And.intro; focus (first | omega | (simp; done) | (simp +contextual; done) | (intros; and_intros <;> first | assumption | omega) | (intros; simp_all; done) | (intro hgd; refine ⟨hgd, ?_⟩; simp [hgd]; done) | (intro hgd; simp only [zgx] at hgd ⊢; omega))) | fail)
    refine ⟨by simp only [roomy]; omega, fun τ1 => ⟨⟨(j + 1, τ1), by dsimp only; omega⟩, by dsimp only; omega, Ents.sub ?_ ⟨_, List.Sublist.refl _, List.Perm.refl _⟩⟩⟩
    simp only [envLe, Lx.get, if_true, Nat.reduceEqDiff, if_false]
    refine ⟨leV.of_eq ?_, leV.osl ?_, leV.refl _, leV.refl _, trivial⟩
    · rw [show ((j + 1 : Nat) : Int) + 2 = (j : Int) + 2 + 1 by omega]
    · rw [recs_succ, List.flatMap_append, List.flatMap_singleton, RcC_eq]
      exact leVs.app (leVs.refl _) ⟨leV.refl _, leV.refl _, leV.refl _, leV.nil_sl _ _, trivial⟩
  · have hje : j = k := by simp only [decide_eq_false_iff_not] at hb; omega
    subst hje
    repeat' (first | (simp (disch := first | omega | (simp only [List.length_cons, List.length_nil]; first | done | omega)) only [go_sem, Nat.reduceAdd, Nat.reduceMul, Nat.reduceSub, Nat.reduceEqDiff, Nat.reduceLeDiff, Nat.reduceMod, Nat.reduceLT, Int.reduceToNat, Int.reduceAdd, Int.reduceSub, Int.reduceMul, Int.reduceNeg, Int.reduceLE, Int.reduceLT, Int.reduceNe, Int.reduceEq, Int.reduceBEq, Int.reduceBNe, Int.reduceTMod, Int.reduceTDiv, Nat.reduceBEq]) | (refine allI (fun b => ?_)) | (refine allT (fun τ => ?_)) | (refine brP (fun h => ?_) (fun h => ?_) <;> (try simp only [zgx, zbx] at h)) | (apply And.intro; focus (first | omega | (simp; done) | (simp +contextual; done) | (intros; and_intros <;> first | assumption | omega) | (intros; simp_all; done) | (intro hgd; refine ⟨hgd, ?_⟩; simp [hgd]; done) | (intro hgd; simp only [zgx] at hgd ⊢; omega))) | fail)
    have hg1 := hg j τ (by omega)
    by_cases h64 : j < 64
    · have h0 : outL j = [] := by
        rw [okL, if_pos h64] at hok
        exact List.length_eq_zero_iff.1 (by simpa using hok)
      rw [h0] at hg1
      simp only [List.length_nil, List.flatMap_nil] at hg1
      have d5 : decide ((j : Int) + 1 < 65) = true := decide_eq_true (by omega)
      repeat' (first | (simp (disch := first | omega | (simp only [List.length_cons, List.length_nil]; first | done | omega)) only [go_sem, Nat.reduceAdd, Nat.reduceMul, Nat.reduceSub, Nat.reduceEqDiff, Nat.reduceLeDiff, Nat.reduceMod, Nat.reduceLT, Int.reduceToNat, Int.reduceAdd, Int.reduceSub, Int.reduceMul, Int.reduceNeg, Int.reduceLE, Int.reduceLT, Int.reduceNe, Int.reduceEq, Int.reduceBEq, Int.reduceBNe, Int.reduceTMod, Int.reduceTDiv, Nat.reduceBEq, d5]) | (refine allI (fun b => ?_)) | (refine allT (fun τ => ?_)) | (refine brP (fun h => ?_) (fun h => ?_) <;> (try simp only [zgx, zbx] at h)) | refine call_U (hg1) ?_ | refine callG_U (fun _ => hg1) ?_ | refine call_T (hg1) ?_ | refine callG_T (fun _ => hg1) ?_ | refine call_U (awake) ?_ | refine callG_U (fun _ => awake) ?_ | refine call_T (awake) ?_ | refine callG_T (fun _ => awake) ?_ | refine call_N (hg1) ?_ | refine call_of (hg1) ?_ | refine callG_of (fun _ => hg1) ?_ | refine call_N (awake) ?_ | refine call_of (awake) ?_ | refine callG_of (fun _ => awake) ?_ | (apply And.intro; focus (first | omega | (simp; done) | (simp +contextual; done) | (intros; and_intros <;> first | assumption | omega) | (intros; simp_all; done) | (intro hgd; refine ⟨hgd, ?_⟩; simp [hgd]; done) | (intro hgd; simp only [zgx] at hgd ⊢; omega))) | fail)
      exact view_sub (leV.refl _) (List.nil_sublist _)
    · rw [okL, if_neg h64] at hok
      simp only [Bool.and_eq_true, beq_iff_eq, Bool.not_eq_true'] at hok
      obtain ⟨o1, o2, o3, o4⟩ := hok
      generalize outL j = o at *
      obtain ⟨e0, o, rfl⟩ : ∃ e l, o = e :: l := by cases o with | nil => simp at o1 | cons e l => exact ⟨e, l, rfl⟩
      obtain ⟨e1, o, rfl⟩ : ∃ e l, o = e :: l := by cases o with | nil => simp at o1; omega | cons e l => exact ⟨e, l, rfl⟩
      rw [o1] at hg1
      simp only [List.getD_cons_zero, List.getD_cons_succ] at o2 o3 o4
      simp only [List.flatMap_cons, EvC_eq, o2, o3, o4, List.cons_append, List.nil_append] at hg1
      have d5 : decide ((j : Int) + 1 < 65) = false := decide_eq_false (by omega)
      repeat' (first | (simp (disch := first | omega | (simp only [List.length_cons, List.length_nil]; first | done | omega)) only [go_sem, Nat.reduceAdd, Nat.reduceMul, Nat.reduceSub, Nat.reduceEqDiff, Nat.reduceLeDiff, Nat.reduceMod, Nat.reduceLT, Int.reduceToNat, Int.reduceAdd, Int.reduceSub, Int.reduceMul, Int.reduceNeg, Int.reduceLE, Int.reduceLT, Int.reduceNe, Int.reduceEq, Int.reduceBEq, Int.reduceBNe, Int.reduceTMod, Int.reduceTDiv, Nat.reduceBEq, d5]) | (refine allI (fun b => ?_)) | (refine allT (fun τ => ?_)) | (refine brP (fun h => ?_) (fun h => ?_) <;> (try simp only [zgx, zbx] at h)) | refine call_U (hg1) ?_ | refine callG_U (fun _ => hg1) ?_ | refine call_T (hg1) ?_ | refine callG_T (fun _ => hg1) ?_ | refine call_U (awake) ?_ | refine callG_U (fun _ => awake) ?_ | refine call_T (awake) ?_ | refine callG_T (fun _ => awake) ?_ | refine call_N (hg1) ?_ | refine call_of (hg1) ?_ | refine callG_of (fun _ => hg1) ?_ | refine call_N (awake) ?_ | refine call_of (awake) ?_ | refine callG_of (fun _ => awake) ?_ | (apply And.intro; focus (first | omega | (simp; done) | (simp +contextual; done) | (intros; and_intros <;> first | assumption | omega) | (intros; simp_all; done) | (intro hgd; refine ⟨hgd, ?_⟩; simp [hgd]; done) | (intro hgd; simp only [zgx] at hgd ⊢; omega))) | fail)
      exact view_sub (leV.of_eq (by simp)) (List.nil_sublist _)
end Go.Proofs.YtfheeghkajihoaaDoor
