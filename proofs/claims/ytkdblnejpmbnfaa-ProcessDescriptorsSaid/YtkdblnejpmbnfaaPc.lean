/- Layer 9: a table is changed by a function. -/
import Derived.Test.YtkdblnejpmbnfaaPb
import Derived.Test.YtkdblnejpmbnfaaLxU
namespace Go.Proofs.Ytkdblnejpmbnfaa
open Go Go.Lx
set_option linter.unusedSimpArgs false
set_option linter.unusedVariables false
set_option maxRecDepth 100000
set_option maxHeartbeats 4000000

/-- the table while it is changed -/
def ChH (bt : Nat) (t : Tb) (b c : Nat) : Heap := [(3, .blk bt [.int .i64 t.nx, .int .i64 t.ns, .msl 6000 14 b 0 t.ps.length c]), (6000, .blk b (Sp (t.ps.flatMap PsC) ((c - t.ps.length) * 14)))]
/-- what a function that changes a table does -/
def ClOk (f : Nat) (caps : List LV) (Hc : Heap) (t : Tb) (i : Nat) (g : Int × Tb) : Prop := ∀ bt b c, t.ps.length ≤ c →
  LCalls Try.prog gl f ([.ptr 3 bt 0, .ptr 6000 b (i * 14)] ++ caps) (ChH bt t b c ++ Hc) fun v H => ∃ b' c', g.2.ps.length ≤ c' ∧ v = .int .i64 g.1 ∧ H = ChH bt g.2 b' c' ++ Hc
/-- the table behind a change -/
def chR (t : Tb) (pid : Int) (g : Nat → Int × Tb) : Int × Tb :=
  if findI t pid < 0 then (3, tb0) else if (g (findI t pid).toNat).1 ≠ 0 then ((g (findI t pid).toNat).1, tb0) else (0, (g (findI t pid).toNat).2)
theorem tb0_le : leV (.agg [.int .i64 0, .int .i64 0, .fsl 1 0 []]) (TbL tb0) := leV.agg ⟨leV.refl _, leV.refl _, leV.nil_sl _ _, trivial⟩
theorem findI_lt (t : Tb) (pid : Int) : findI t pid < t.ps.length := by
  rcases firstI_cases t.ps.length (findP t pid) with ⟨h, _⟩ | ⟨i, h1, h2, _⟩
  · rw [findI, h]; omega
  · rw [findI, h2]; omega
theorem change (t : Tb) (pid : Int) (ht : okT t) (f : Nat) (caps : List LV) (Hc : Heap) (g : Nat → Int × Tb) (hok : okF Try.prog f = true) (hg : ∀ i, findI t pid = (i : Nat) → ClOk f caps Hc t i (g i)) :
    LCalls Try.prog gl 30 [TbL t, .int .i64 pid, .clo f caps] Hc fun v H => v = .tup [TbL (chR t pid g).2, .int .i64 (chR t pid g).1] ∧ H = Hc := by
  refine fn_viewT Try.func30 t30 Try.ntmps30 (by simp) ?_
  have hlt := findI_lt t pid
  have hF := find t pid ht.1
  have hc := ctab t ht
  have hR : chR t pid g = if findI t pid < 0 then (3, tb0) else if (g (findI t pid).toNat).1 ≠ 0 then ((g (findI t pid).toNat).1, tb0) else (0, (g (findI t pid).toNat).2) := rfl
  generalize findI t pid = k at *
  unfold c30 r30
  rw [TbL_eq t] at *
  repeat' (first | (simp (disch := first | omega | (simp only [List.length_cons, List.length_nil]; first | done | omega)) only [go_sem, Nat.reduceAdd, Nat.reduceMul, Nat.reduceSub, Nat.reduceEqDiff, Nat.reduceLeDiff, Nat.reduceMod, Nat.reduceLT, Int.reduceToNat, Int.reduceAdd, Int.reduceSub, Int.reduceMul, Int.reduceNeg, Int.reduceLE, Int.reduceLT, Int.toNat_natCast, Int.cast_ofNat_Int, Int.reduceNe, Int.reduceEq, Int.reduceBEq, Int.reduceBNe, not_false_eq_true, ne_eq, Int.reduceTMod, Int.reduceTDiv, beq_self_eq_true, bne_self_eq_false, List.contains_cons, List.contains_nil, Nat.reduceBEq]) | (refine allI (fun b => ?_)) | (refine allT (fun τ => ?_)) | (refine brP (fun h => ?_) (fun h => ?_) <;> (try simp only [Bool.and_eq_true, Bool.and_eq_false_iff, Bool.or_eq_true, Bool.or_eq_false_iff, Bool.not_eq_true', Bool.not_eq_false', decide_eq_true_eq, decide_eq_false_iff_not, beq_iff_eq, beq_eq_false_iff_ne, ne_eq, bne_iff_ne, Int.not_lt, Int.not_le] at h)) | refine call_U (hF) ?_ | refine callG_U (fun _ => hF) ?_ | refine call_T (hF) ?_ | refine callG_T (fun _ => hF) ?_ | refine call_N (hF) ?_ | refine call_of (hF) ?_ | refine callG_of (fun _ => hF) ?_ | (apply And.intro; focus (first | omega | (simp; done) | (simp +contextual; done) | (intros; and_intros <;> first | assumption | omega) | (intros; simp_all; done) | (intro hgd; refine ⟨hgd, ?_⟩; simp [hgd]; done) | (intro hgd; simp only [beq_eq_false_iff_ne, beq_iff_eq, decide_eq_true_eq, decide_eq_false_iff_not, bne_iff_ne, ne_eq, Bool.and_eq_true, Bool.or_eq_false_iff, Bool.or_eq_true, Bool.and_eq_false_iff] at hgd ⊢; omega))) | fail)
  · rw [hR, if_pos (by assumption)]
    exact ⟨.tup [TbL tb0, .int .i64 3], Hc, leVH.of (leV.tup ⟨tb0_le, leV.refl _, trivial⟩) ⟨_, List.Sublist.cons _ (List.Sublist.cons _ (List.Sublist.refl _)), List.Perm.refl _⟩, rfl, rfl⟩
  · first | refine newsE_U (hc) ?_ | refine newsE_T (hc) ?_ | refine newsE_of (hc) ?_
    rintro _ _ ⟨b, c, h1, rfl, rfl⟩
    repeat' (first | (simp (disch := first | omega | (simp only [List.length_cons, List.length_nil]; first | done | omega)) only [go_sem, Nat.reduceAdd, Nat.reduceMul, Nat.reduceSub, Nat.reduceEqDiff, Nat.reduceLeDiff, Nat.reduceMod, Nat.reduceLT, Int.reduceToNat, Int.reduceAdd, Int.reduceSub, Int.reduceMul, Int.reduceNeg, Int.reduceLE, Int.reduceLT, Int.toNat_natCast, Int.cast_ofNat_Int, Int.reduceNe, Int.reduceEq, Int.reduceBEq, Int.reduceBNe, not_false_eq_true, ne_eq, Int.reduceTMod, Int.reduceTDiv, beq_self_eq_true, bne_self_eq_false, List.contains_cons, List.contains_nil, Nat.reduceBEq]) | (refine allI (fun b => ?_)) | (refine allT (fun τ => ?_)) | (refine brP (fun h => ?_) (fun h => ?_) <;> (try simp only [Bool.and_eq_true, Bool.and_eq_false_iff, Bool.or_eq_true, Bool.or_eq_false_iff, Bool.not_eq_true', Bool.not_eq_false', decide_eq_true_eq, decide_eq_false_iff_not, beq_iff_eq, beq_eq_false_iff_ne, ne_eq, bne_iff_ne, Int.not_lt, Int.not_le] at h)) | (apply And.intro; focus (first | omega | (simp; done) | (simp +contextual; done) | (intros; and_intros <;> first | assumption | omega) | (intros; simp_all; done) | (intro hgd; refine ⟨hgd, ?_⟩; simp [hgd]; done) | (intro hgd; simp only [beq_eq_false_iff_ne, beq_iff_eq, decide_eq_true_eq, decide_eq_false_iff_not, bne_iff_ne, ne_eq, Bool.and_eq_true, Bool.or_eq_false_iff, Bool.or_eq_true, Bool.and_eq_false_iff] at hgd ⊢; omega))) | fail)
    obtain ⟨n, rfl⟩ : ∃ n : Nat, k = (n : Int) := ⟨k.toNat, by omega⟩
    rw [Int.toNat_natCast] at *
    refine actsP_U (H2 := [(6, _)]) (hg n rfl _ b c h1) (pick_perm rfl (pick_perm rfl (List.perm_append_comm (l₁ := [(6, _)]) (l₂ := Hc)))) ?_
    rintro _ _ ⟨b', c', h2, rfl, rfl⟩
    rw [if_neg (by omega)] at hR
    generalize g n = gn at *
    obtain ⟨e, t'⟩ := gn
    dsimp only at hR h2 ⊢
    unfold ChH
    simp only [List.cons_append, List.nil_append]
    repeat' (first | (simp (disch := first | omega | (simp only [List.length_cons, List.length_nil]; first | done | omega)) only [go_sem, Nat.reduceAdd, Nat.reduceMul, Nat.reduceSub, Nat.reduceEqDiff, Nat.reduceLeDiff, Nat.reduceMod, Nat.reduceLT, Int.reduceToNat, Int.reduceAdd, Int.reduceSub, Int.reduceMul, Int.reduceNeg, Int.reduceLE, Int.reduceLT, Int.toNat_natCast, Int.cast_ofNat_Int, Int.reduceNe, Int.reduceEq, Int.reduceBEq, Int.reduceBNe, not_false_eq_true, ne_eq, Int.reduceTMod, Int.reduceTDiv, beq_self_eq_true, bne_self_eq_false, List.contains_cons, List.contains_nil, Nat.reduceBEq]) | (refine allI (fun b => ?_)) | (refine allT (fun τ => ?_)) | (refine brP (fun h => ?_) (fun h => ?_) <;> (try simp only [Bool.and_eq_true, Bool.and_eq_false_iff, Bool.or_eq_true, Bool.or_eq_false_iff, Bool.not_eq_true', Bool.not_eq_false', decide_eq_true_eq, decide_eq_false_iff_not, beq_iff_eq, beq_eq_false_iff_ne, ne_eq, bne_iff_ne, Int.not_lt, Int.not_le] at h)) | (apply And.intro; focus (first | omega | (simp; done) | (simp +contextual; done) | (intros; and_intros <;> first | assumption | omega) | (intros; simp_all; done) | (intro hgd; refine ⟨hgd, ?_⟩; simp [hgd]; done) | (intro hgd; simp only [beq_eq_false_iff_ne, beq_iff_eq, decide_eq_true_eq, decide_eq_false_iff_not, bne_iff_ne, ne_eq, Bool.and_eq_true, Bool.or_eq_false_iff, Bool.or_eq_true, Bool.and_eq_false_iff] at hgd ⊢; omega))) | fail)
    · rename_i h
      rw [if_pos h] at hR
      rw [hR]
      exact ⟨.tup [TbL tb0, .int .i64 e], Hc, leVH.of (leV.tup ⟨tb0_le, leV.refl _, trivial⟩) ⟨_, List.Sublist.cons _ (List.Sublist.cons _ (List.Sublist.cons _ (List.Sublist.refl _))), List.Perm.refl _⟩, rfl, rfl⟩
    · rename_i h
      have h0 : e = 0 := by simpa using h
      rw [if_neg (by simpa using h0)] at hR
      rw [hR]
      have hl := len_ps t'.ps
      refine ⟨.tup [TbL t', .int .i64 0], Hc, leVH.pub 6000 rfl ?_ (leVH.of ?_ ⟨_, List.Sublist.cons _ (List.Sublist.cons _ (List.Sublist.refl _)), List.Perm.refl _⟩), rfl, rfl⟩
      · simp [go_sem, length_Sp, hl]
        omega
      · simp only [go_sem]
        refine leV.tup ⟨leV.agg ⟨leV.refl _, leV.refl _, leV.of_eq ?_, trivial⟩, leV.refl _, trivial⟩
        simp [go_sem, Sp, ← hl]
end Go.Proofs.Ytkdblnejpmbnfaa
