/- Layer 16: the reference's Decide. -/
import Derived.Test.YtcngkeeknlloaaaEc
namespace Go.Proofs.Ytcngkeeknlloaaa
open Go Go.Lx
set_option linter.unusedSimpArgs false
set_option linter.unusedVariables false
set_option maxRecDepth 100000
set_option maxHeartbeats 4000000

theorem rdecide (d : Dg) (ans : List Bool) (h1 : d.ns.length ≤ 1000000) (h2 : d.tb.length ≤ 1000000) (hw : ∀ b ∈ d.ns, brW b) (hr : (Lit.int .i64 d.r).wf = true) (ha : ans.length ≤ 281474976710656) : Pure Try.prog gl 20 [.agg (DgC d), BlS ans] (.int .i64 (decS d ans)) := by
  refine fn_pureT Try.func20 t20 Try.ntmps20 (by simp) ?_
  have hle := len_br d.ns
  have hlt := len_at d.tb
  have hlm : (ans.map LV.bool).length = ans.length := List.length_map _
  have hv := rvalid d h1 h2
  have hD : decS d ans = if validP d = true then ruleOf (walkD d.ns ans d.ns.length d.r) else -1 := rfl
  have hrb := wf_bd hr
  unfold c20 r20
  rw [DgC_eq, BlS_eq] at *
  cases hV : validP d with
  | false =>
    rw [hV] at hv hD
    rw [if_neg (by simp)] at hD
    repeat' (first | (simp (disch := first | omega | (simp only [List.length_cons, List.length_nil]; first | done | omega)) only [go_sem, Nat.reduceAdd, Nat.reduceMul, Nat.reduceSub, Nat.reduceEqDiff, Nat.reduceLeDiff, Nat.reduceMod, Nat.reduceLT, Int.reduceToNat, Int.reduceAdd, Int.reduceSub, Int.reduceMul, Int.reduceNeg, Int.reduceLE, Int.reduceLT, Int.toNat_natCast, Int.cast_ofNat_Int, Int.reduceNe, Int.reduceEq, Int.reduceBEq, Int.reduceBNe, not_false_eq_true, ne_eq, Int.reduceTMod, Int.reduceTDiv, beq_self_eq_true, bne_self_eq_false, List.contains_cons, List.contains_nil, Nat.reduceBEq, Bool.not_false]) | (refine allI (fun b => ?_)) | (refine allT (fun τ => ?_)) | (refine brP (fun h => ?_) (fun h => ?_) <;> (try simp only [Bool.and_eq_true, Bool.and_eq_false_iff, Bool.or_eq_true, Bool.or_eq_false_iff, Bool.not_eq_true', Bool.not_eq_false', decide_eq_true_eq, decide_eq_false_iff_not, beq_iff_eq, beq_eq_false_iff_ne, ne_eq, bne_iff_ne, Int.not_lt, Int.not_le] at h)) | refine call_U (hv) ?_ | refine callG_U (fun _ => hv) ?_ | refine call_T (hv) ?_ | refine callG_T (fun _ => hv) ?_ | refine call_N (hv) ?_ | refine call_of (hv) ?_ | refine callG_of (fun _ => hv) ?_ | (apply And.intro; focus (first | omega | (simp; done) | (simp +contextual; done) | (intros; and_intros <;> first | assumption | omega) | (intros; simp_all; done) | (intro hgd; refine ⟨hgd, ?_⟩; simp [hgd]; done) | (intro hgd; simp only [beq_eq_false_iff_ne, beq_iff_eq, decide_eq_true_eq, decide_eq_false_iff_not, bne_iff_ne, ne_eq, Bool.and_eq_true, Bool.or_eq_false_iff, Bool.or_eq_true, Bool.and_eq_false_iff] at hgd ⊢; omega))) | fail)
    rw [hD]
  | true =>
    rw [hV] at hv hD
    rw [if_pos rfl] at hD
    obtain ⟨f1, f2, f3⟩ := validP_facts hV
    repeat' (first | (simp (disch := first | omega | (simp only [List.length_cons, List.length_nil]; first | done | omega)) only [go_sem, Nat.reduceAdd, Nat.reduceMul, Nat.reduceSub, Nat.reduceEqDiff, Nat.reduceLeDiff, Nat.reduceMod, Nat.reduceLT, Int.reduceToNat, Int.reduceAdd, Int.reduceSub, Int.reduceMul, Int.reduceNeg, Int.reduceLE, Int.reduceLT, Int.toNat_natCast, Int.cast_ofNat_Int, Int.reduceNe, Int.reduceEq, Int.reduceBEq, Int.reduceBNe, not_false_eq_true, ne_eq, Int.reduceTMod, Int.reduceTDiv, beq_self_eq_true, bne_self_eq_false, List.contains_cons, List.contains_nil, Nat.reduceBEq, Bool.not_true]) | (refine allI (fun b => ?_)) | (refine allT (fun τ => ?_)) | (refine brP (fun h => ?_) (fun h => ?_) <;> (try simp only [Bool.and_eq_true, Bool.and_eq_false_iff, Bool.or_eq_true, Bool.or_eq_false_iff, Bool.not_eq_true', Bool.not_eq_false', decide_eq_true_eq, decide_eq_false_iff_not, beq_iff_eq, beq_eq_false_iff_ne, ne_eq, bne_iff_ne, Int.not_lt, Int.not_le] at h)) | refine call_U (hv) ?_ | refine callG_U (fun _ => hv) ?_ | refine call_T (hv) ?_ | refine callG_T (fun _ => hv) ?_ | refine call_N (hv) ?_ | refine call_of (hv) ?_ | refine callG_of (fun _ => hv) ?_ | (apply And.intro; focus (first | omega | (simp; done) | (simp +contextual; done) | (intros; and_intros <;> first | assumption | omega) | (intros; simp_all; done) | (intro hgd; refine ⟨hgd, ?_⟩; simp [hgd]; done) | (intro hgd; simp only [beq_eq_false_iff_ne, beq_iff_eq, decide_eq_true_eq, decide_eq_false_iff_not, bne_iff_ne, ne_eq, Bool.and_eq_true, Bool.or_eq_false_iff, Bool.or_eq_true, Bool.and_eq_false_iff] at hgd ⊢; omega))) | fail)
    refine loopI (ι := Int) (fun r => r < d.ns.length ∧ -9223372036854775808 ≤ r ∧ walkD d.ns ans d.ns.length d.r = walkD d.ns ans d.ns.length r) (fun r => [(5, .int .i64 r), (2, .ptr 2 b 0), (1, .sl 1 ans.length (ans.map LV.bool))]) (fun r => [(2, .blk b [.sl 8 d.tb.length (d.tb.flatMap AtC), .sl 3 d.ns.length (d.ns.flatMap BrC), .int .i64 d.r])]) (fun r => (r + 1).toNat) d.r ⟨f1, hrb.1, rfl⟩ (Ents.envH (by simp [go_sem]) rfl) ?_
    rintro r ⟨hr1, hr2, hr3⟩
    simp (disch := first | omega | (simp only [List.length_cons, List.length_nil]; first | done | omega)) only [go_sem, Nat.reduceAdd, Nat.reduceMul, Nat.reduceSub, Nat.reduceEqDiff, Nat.reduceLeDiff, Nat.reduceMod, Nat.reduceLT, Int.reduceToNat, Int.reduceAdd, Int.reduceSub, Int.reduceMul, Int.reduceNeg, Int.reduceLE, Int.reduceLT, Int.toNat_natCast, Int.cast_ofNat_Int, Int.reduceNe, Int.reduceEq, Int.reduceBEq, Int.reduceBNe, not_false_eq_true, ne_eq, Int.reduceTMod, Int.reduceTDiv, beq_self_eq_true, bne_self_eq_false, List.contains_cons, List.contains_nil, Nat.reduceBEq]
    refine brP (fun hb => ?_) (fun hb => ?_)
    · have hr0 : 0 ≤ r := by simpa using hb
      obtain ⟨m, rfl⟩ : ∃ m : Nat, r = (m : Int) := ⟨r.toNat, by omega⟩
      have hm : m < d.ns.length := by omega
      have e2 : ((d.ns.flatMap BrC).drop (m * 3)).take 3 = BrC (d.ns.getD m br0) := take_rows (f := BrC) (fun _ => rfl) br0 _ hm
      have hq1 := f2 m hm
      have hq2 := f3 m hm
      have hq3 := hw _ (getD_memA br0 hm)
      have hst : walkD d.ns ans d.ns.length m = walkD d.ns ans d.ns.length (if (decide ((d.ns.getD m br0).a < ans.length) && ans.getD (d.ns.getD m br0).a.toNat false) = true then (d.ns.getD m br0).y else (d.ns.getD m br0).n) := by
        obtain ⟨k, hk⟩ : ∃ k, d.ns.length = k + 1 := ⟨d.ns.length - 1, by omega⟩
        conv => lhs; rw [hk, walkD, if_neg (by omega), Int.toNat_natCast]
        refine walkD_fuel f2 ans k d.ns.length _ ?_ ?_ ?_ <;> (split <;> omega)
      generalize d.ns.getD m br0 = q at *
      have hy := wf_bd hq3.2.1
      have hz := wf_bd hq3.2.2
      obtain ⟨j, hj⟩ : ∃ j : Nat, q.a = (j : Int) := ⟨q.a.toNat, by omega⟩
      rw [hj, Int.toNat_natCast] at hst
      rw [BrC_eq, hj] at e2
      have g1 : j < ans.length → (ans.map LV.bool).getD j .any = .bool (ans.getD j false) := fun h => by simp [List.getD, h]
      by_cases hjl : j < ans.length
      · have d1 : decide ((j : Int) < (ans.length : Int)) = true := by simp; omega
        rw [d1, Bool.true_and] at hst
        repeat' (first | (simp (disch := first | omega | (simp only [List.length_cons, List.length_nil]; first | done | omega)) only [go_sem, Nat.reduceAdd, Nat.reduceMul, Nat.reduceSub, Nat.reduceEqDiff, Nat.reduceLeDiff, Nat.reduceMod, Nat.reduceLT, Int.reduceToNat, Int.reduceAdd, Int.reduceSub, Int.reduceMul, Int.reduceNeg, Int.reduceLE, Int.reduceLT, Int.toNat_natCast, Int.cast_ofNat_Int, Int.reduceNe, Int.reduceEq, Int.reduceBEq, Int.reduceBNe, not_false_eq_true, ne_eq, Int.reduceTMod, Int.reduceTDiv, beq_self_eq_true, bne_self_eq_false, List.contains_cons, List.contains_nil, Nat.reduceBEq, e2, zBr, d1, g1 hjl, Nat.mul_one]) | (refine allI (fun b => ?_)) | (refine allT (fun τ => ?_)) | (refine brP (fun h => ?_) (fun h => ?_) <;> (try simp only [Bool.and_eq_true, Bool.and_eq_false_iff, Bool.or_eq_true, Bool.or_eq_false_iff, Bool.not_eq_true', Bool.not_eq_false', decide_eq_true_eq, decide_eq_false_iff_not, beq_iff_eq, beq_eq_false_iff_ne, ne_eq, bne_iff_ne, Int.not_lt, Int.not_le] at h)) | (apply And.intro; focus (first | omega | (simp; done) | (simp +contextual; done) | (intros; and_intros <;> first | assumption | omega) | (intros; simp_all; done) | (intro hgd; refine ⟨hgd, ?_⟩; simp [hgd]; done) | (intro hgd; simp only [beq_eq_false_iff_ne, beq_iff_eq, decide_eq_true_eq, decide_eq_false_iff_not, bne_iff_ne, ne_eq, Bool.and_eq_true, Bool.or_eq_false_iff, Bool.or_eq_true, Bool.and_eq_false_iff] at hgd ⊢; omega))) | fail)
        · exact ⟨⟨q.y, by omega, by omega, by rw [hr3, hst, if_pos h]⟩, by dsimp only; omega, Ents.sub (by simp [go_sem]) ⟨_, List.Sublist.cons _ (List.Sublist.refl _), List.Perm.refl _⟩⟩
        · exact ⟨⟨q.n, by omega, by omega, by rw [hr3, hst, if_neg (by rw [h]; simp)]⟩, by dsimp only; omega, Ents.sub (by simp [go_sem]) ⟨_, List.Sublist.cons _ (List.Sublist.refl _), List.Perm.refl _⟩⟩
      · have d1 : decide ((j : Int) < (ans.length : Int)) = false := by simp; omega
        rw [d1, Bool.false_and, if_neg (by simp)] at hst
        have g2 : (ans.map LV.bool).getD j .any = .any := by simp [List.getD]; rw [List.getElem?_eq_none (by omega)]; rfl
        repeat' (first | (simp (disch := first | omega | (simp only [List.length_cons, List.length_nil]; first | done | omega)) only [go_sem, Nat.reduceAdd, Nat.reduceMul, Nat.reduceSub, Nat.reduceEqDiff, Nat.reduceLeDiff, Nat.reduceMod, Nat.reduceLT, Int.reduceToNat, Int.reduceAdd, Int.reduceSub, Int.reduceMul, Int.reduceNeg, Int.reduceLE, Int.reduceLT, Int.toNat_natCast, Int.cast_ofNat_Int, Int.reduceNe, Int.reduceEq, Int.reduceBEq, Int.reduceBNe, not_false_eq_true, ne_eq, Int.reduceTMod, Int.reduceTDiv, beq_self_eq_true, bne_self_eq_false, List.contains_cons, List.contains_nil, Nat.reduceBEq, e2, zBr, d1, g2, Nat.mul_one, pick_0a0]) | (refine allI (fun b => ?_)) | (refine allT (fun τ => ?_)) | (refine brP (fun h => ?_) (fun h => ?_) <;> (try simp only [Bool.and_eq_true, Bool.and_eq_false_iff, Bool.or_eq_true, Bool.or_eq_false_iff, Bool.not_eq_true', Bool.not_eq_false', decide_eq_true_eq, decide_eq_false_iff_not, beq_iff_eq, beq_eq_false_iff_ne, ne_eq, bne_iff_ne, Int.not_lt, Int.not_le] at h)) | (apply And.intro; focus (first | omega | (simp; done) | (simp +contextual; done) | (intros; and_intros <;> first | assumption | omega) | (intros; simp_all; done) | (intro hgd; refine ⟨hgd, ?_⟩; simp [hgd]; done) | (intro hgd; simp only [beq_eq_false_iff_ne, beq_iff_eq, decide_eq_true_eq, decide_eq_false_iff_not, bne_iff_ne, ne_eq, Bool.and_eq_true, Bool.or_eq_false_iff, Bool.or_eq_true, Bool.and_eq_false_iff] at hgd ⊢; omega))) | fail)
        exact ⟨⟨q.n, by omega, by omega, by rw [hr3, hst]⟩, by dsimp only; omega, Ents.sub (by simp [go_sem]) ⟨_, List.Sublist.cons _ (List.Sublist.refl _), List.Perm.refl _⟩⟩
    · have hneg : r < 0 := by simpa using hb
      have hfin : decS d ans = ruleOf r := by rw [hD, hr3, walkD_neg _ _ _ hneg]
      repeat' (first | (simp (disch := first | omega | (simp only [List.length_cons, List.length_nil]; first | done | omega)) only [go_sem, Nat.reduceAdd, Nat.reduceMul, Nat.reduceSub, Nat.reduceEqDiff, Nat.reduceLeDiff, Nat.reduceMod, Nat.reduceLT, Int.reduceToNat, Int.reduceAdd, Int.reduceSub, Int.reduceMul, Int.reduceNeg, Int.reduceLE, Int.reduceLT, Int.toNat_natCast, Int.cast_ofNat_Int, Int.reduceNe, Int.reduceEq, Int.reduceBEq, Int.reduceBNe, not_false_eq_true, ne_eq, Int.reduceTMod, Int.reduceTDiv, beq_self_eq_true, bne_self_eq_false, List.contains_cons, List.contains_nil, Nat.reduceBEq]) | (refine allI (fun b => ?_)) | (refine allT (fun τ => ?_)) | (refine brP (fun h => ?_) (fun h => ?_) <;> (try simp only [Bool.and_eq_true, Bool.and_eq_false_iff, Bool.or_eq_true, Bool.or_eq_false_iff, Bool.not_eq_true', Bool.not_eq_false', decide_eq_true_eq, decide_eq_false_iff_not, beq_iff_eq, beq_eq_false_iff_ne, ne_eq, bne_iff_ne, Int.not_lt, Int.not_le] at h)) | (apply And.intro; focus (first | omega | (simp; done) | (simp +contextual; done) | (intros; and_intros <;> first | assumption | omega) | (intros; simp_all; done) | (intro hgd; refine ⟨hgd, ?_⟩; simp [hgd]; done) | (intro hgd; simp only [beq_eq_false_iff_ne, beq_iff_eq, decide_eq_true_eq, decide_eq_false_iff_not, bne_iff_ne, ne_eq, Bool.and_eq_true, Bool.or_eq_false_iff, Bool.or_eq_true, Bool.and_eq_false_iff] at hgd ⊢; omega))) | fail)
      · rw [hfin, ruleOf, if_pos (by simpa using h)]
      · rw [hfin, ruleOf, if_neg (by simpa using h)]
theorem decide2_ (d : Dg) (ans : List Bool) (h1 : d.ns.length ≤ 1000000) (h2 : d.tb.length ≤ 1000000) (hw : ∀ b ∈ d.ns, brW b) (hr : (Lit.int .i64 d.r).wf = true) (ha : ans.length ≤ 281474976710656) : Pure Try.prog gl 19 [.agg (DgC d), BlS ans] (.int .i64 (decS d ans)) := by
  refine fn_pureT Try.func19 t19 Try.ntmps19 (by simp) ?_
  have hle := len_br d.ns
  have hlt := len_at d.tb
  have hlm : (ans.map LV.bool).length = ans.length := List.length_map _
  have hv := valid d h1 h2 hw
  have hD : decS d ans = if validP d = true then ruleOf (walkD d.ns ans d.ns.length d.r) else -1 := rfl
  have hrb := wf_bd hr
  unfold c19 r19
  rw [DgC_eq, BlS_eq] at *
  cases hV : validP d with
  | false =>
    rw [hV] at hv hD
    rw [if_neg (by simp)] at hD
    repeat' (first | (simp (disch := first | omega | (simp only [List.length_cons, List.length_nil]; first | done | omega)) only [go_sem, Nat.reduceAdd, Nat.reduceMul, Nat.reduceSub, Nat.reduceEqDiff, Nat.reduceLeDiff, Nat.reduceMod, Nat.reduceLT, Int.reduceToNat, Int.reduceAdd, Int.reduceSub, Int.reduceMul, Int.reduceNeg, Int.reduceLE, Int.reduceLT, Int.toNat_natCast, Int.cast_ofNat_Int, Int.reduceNe, Int.reduceEq, Int.reduceBEq, Int.reduceBNe, not_false_eq_true, ne_eq, Int.reduceTMod, Int.reduceTDiv, beq_self_eq_true, bne_self_eq_false, List.contains_cons, List.contains_nil, Nat.reduceBEq, Bool.not_false]) | (refine allI (fun b => ?_)) | (refine allT (fun τ => ?_)) | (refine brP (fun h => ?_) (fun h => ?_) <;> (try simp only [Bool.and_eq_true, Bool.and_eq_false_iff, Bool.or_eq_true, Bool.or_eq_false_iff, Bool.not_eq_true', Bool.not_eq_false', decide_eq_true_eq, decide_eq_false_iff_not, beq_iff_eq, beq_eq_false_iff_ne, ne_eq, bne_iff_ne, Int.not_lt, Int.not_le] at h)) | refine call_U (hv) ?_ | refine callG_U (fun _ => hv) ?_ | refine call_T (hv) ?_ | refine callG_T (fun _ => hv) ?_ | refine call_N (hv) ?_ | refine call_of (hv) ?_ | refine callG_of (fun _ => hv) ?_ | (apply And.intro; focus (first | omega | (simp; done) | (simp +contextual; done) | (intros; and_intros <;> first | assumption | omega) | (intros; simp_all; done) | (intro hgd; refine ⟨hgd, ?_⟩; simp [hgd]; done) | (intro hgd; simp only [beq_eq_false_iff_ne, beq_iff_eq, decide_eq_true_eq, decide_eq_false_iff_not, bne_iff_ne, ne_eq, Bool.and_eq_true, Bool.or_eq_false_iff, Bool.or_eq_true, Bool.and_eq_false_iff] at hgd ⊢; omega))) | fail)
    rw [hD]
  | true =>
    rw [hV] at hv hD
    rw [if_pos rfl] at hD
    obtain ⟨f1, f2, f3⟩ := validP_facts hV
    repeat' (first | (simp (disch := first | omega | (simp only [List.length_cons, List.length_nil]; first | done | omega)) only [go_sem, Nat.reduceAdd, Nat.reduceMul, Nat.reduceSub, Nat.reduceEqDiff, Nat.reduceLeDiff, Nat.reduceMod, Nat.reduceLT, Int.reduceToNat, Int.reduceAdd, Int.reduceSub, Int.reduceMul, Int.reduceNeg, Int.reduceLE, Int.reduceLT, Int.toNat_natCast, Int.cast_ofNat_Int, Int.reduceNe, Int.reduceEq, Int.reduceBEq, Int.reduceBNe, not_false_eq_true, ne_eq, Int.reduceTMod, Int.reduceTDiv, beq_self_eq_true, bne_self_eq_false, List.contains_cons, List.contains_nil, Nat.reduceBEq, Bool.not_true]) | (refine allI (fun b => ?_)) | (refine allT (fun τ => ?_)) | (refine brP (fun h => ?_) (fun h => ?_) <;> (try simp only [Bool.and_eq_true, Bool.and_eq_false_iff, Bool.or_eq_true, Bool.or_eq_false_iff, Bool.not_eq_true', Bool.not_eq_false', decide_eq_true_eq, decide_eq_false_iff_not, beq_iff_eq, beq_eq_false_iff_ne, ne_eq, bne_iff_ne, Int.not_lt, Int.not_le] at h)) | refine call_U (hv) ?_ | refine callG_U (fun _ => hv) ?_ | refine call_T (hv) ?_ | refine callG_T (fun _ => hv) ?_ | refine call_N (hv) ?_ | refine call_of (hv) ?_ | refine callG_of (fun _ => hv) ?_ | (apply And.intro; focus (first | omega | (simp; done) | (simp +contextual; done) | (intros; and_intros <;> first | assumption | omega) | (intros; simp_all; done) | (intro hgd; refine ⟨hgd, ?_⟩; simp [hgd]; done) | (intro hgd; simp only [beq_eq_false_iff_ne, beq_iff_eq, decide_eq_true_eq, decide_eq_false_iff_not, bne_iff_ne, ne_eq, Bool.and_eq_true, Bool.or_eq_false_iff, Bool.or_eq_true, Bool.and_eq_false_iff] at hgd ⊢; omega))) | fail)
    refine loopI (ι := Int) (fun r => r < d.ns.length ∧ -9223372036854775808 ≤ r ∧ walkD d.ns ans d.ns.length d.r = walkD d.ns ans d.ns.length r) (fun r => [(5, .int .i64 r), (2, .ptr 2 b 0), (1, .sl 1 ans.length (ans.map LV.bool))]) (fun r => [(2, .blk b [.sl 8 d.tb.length (d.tb.flatMap AtC), .sl 3 d.ns.length (d.ns.flatMap BrC), .int .i64 d.r])]) (fun r => (r + 1).toNat) d.r ⟨f1, hrb.1, rfl⟩ (Ents.envH (by simp [go_sem]) rfl) ?_
    rintro r ⟨hr1, hr2, hr3⟩
    simp (disch := first | omega | (simp only [List.length_cons, List.length_nil]; first | done | omega)) only [go_sem, Nat.reduceAdd, Nat.reduceMul, Nat.reduceSub, Nat.reduceEqDiff, Nat.reduceLeDiff, Nat.reduceMod, Nat.reduceLT, Int.reduceToNat, Int.reduceAdd, Int.reduceSub, Int.reduceMul, Int.reduceNeg, Int.reduceLE, Int.reduceLT, Int.toNat_natCast, Int.cast_ofNat_Int, Int.reduceNe, Int.reduceEq, Int.reduceBEq, Int.reduceBNe, not_false_eq_true, ne_eq, Int.reduceTMod, Int.reduceTDiv, beq_self_eq_true, bne_self_eq_false, List.contains_cons, List.contains_nil, Nat.reduceBEq]
    refine brP (fun hb => ?_) (fun hb => ?_)
    · have hr0 : 0 ≤ r := by simpa using hb
      obtain ⟨m, rfl⟩ : ∃ m : Nat, r = (m : Int) := ⟨r.toNat, by omega⟩
      have hm : m < d.ns.length := by omega
      have e2 : ((d.ns.flatMap BrC).drop (m * 3)).take 3 = BrC (d.ns.getD m br0) := take_rows (f := BrC) (fun _ => rfl) br0 _ hm
      have hq1 := f2 m hm
      have hq2 := f3 m hm
      have hq3 := hw _ (getD_memA br0 hm)
      have hst : walkD d.ns ans d.ns.length m = walkD d.ns ans d.ns.length (if (decide ((d.ns.getD m br0).a < ans.length) && ans.getD (d.ns.getD m br0).a.toNat false) = true then (d.ns.getD m br0).y else (d.ns.getD m br0).n) := by
        obtain ⟨k, hk⟩ : ∃ k, d.ns.length = k + 1 := ⟨d.ns.length - 1, by omega⟩
        conv => lhs; rw [hk, walkD, if_neg (by omega), Int.toNat_natCast]
        refine walkD_fuel f2 ans k d.ns.length _ ?_ ?_ ?_ <;> (split <;> omega)
      generalize d.ns.getD m br0 = q at *
      have hy := wf_bd hq3.2.1
      have hz := wf_bd hq3.2.2
      obtain ⟨j, hj⟩ : ∃ j : Nat, q.a = (j : Int) := ⟨q.a.toNat, by omega⟩
      rw [hj, Int.toNat_natCast] at hst
      rw [BrC_eq, hj] at e2
      have g1 : j < ans.length → (ans.map LV.bool).getD j .any = .bool (ans.getD j false) := fun h => by simp [List.getD, h]
      by_cases hjl : j < ans.length
      · have d1 : decide ((j : Int) < (ans.length : Int)) = true := by simp; omega
        rw [d1, Bool.true_and] at hst
        repeat' (first | (simp (disch := first | omega | (simp only [List.length_cons, List.length_nil]; first | done | omega)) only [go_sem, Nat.reduceAdd, Nat.reduceMul, Nat.reduceSub, Nat.reduceEqDiff, Nat.reduceLeDiff, Nat.reduceMod, Nat.reduceLT, Int.reduceToNat, Int.reduceAdd, Int.reduceSub, Int.reduceMul, Int.reduceNeg, Int.reduceLE, Int.reduceLT, Int.toNat_natCast, Int.cast_ofNat_Int, Int.reduceNe, Int.reduceEq, Int.reduceBEq, Int.reduceBNe, not_false_eq_true, ne_eq, Int.reduceTMod, Int.reduceTDiv, beq_self_eq_true, bne_self_eq_false, List.contains_cons, List.contains_nil, Nat.reduceBEq, e2, zBr, d1, g1 hjl, Nat.mul_one]) | (refine allI (fun b => ?_)) | (refine allT (fun τ => ?_)) | (refine brP (fun h => ?_) (fun h => ?_) <;> (try simp only [Bool.and_eq_true, Bool.and_eq_false_iff, Bool.or_eq_true, Bool.or_eq_false_iff, Bool.not_eq_true', Bool.not_eq_false', decide_eq_true_eq, decide_eq_false_iff_not, beq_iff_eq, beq_eq_false_iff_ne, ne_eq, bne_iff_ne, Int.not_lt, Int.not_le] at h)) | (apply And.intro; focus (first | omega | (simp; done) | (simp +contextual; done) | (intros; and_intros <;> first | assumption | omega) | (intros; simp_all; done) | (intro hgd; refine ⟨hgd, ?_⟩; simp [hgd]; done) | (intro hgd; simp only [beq_eq_false_iff_ne, beq_iff_eq, decide_eq_true_eq, decide_eq_false_iff_not, bne_iff_ne, ne_eq, Bool.and_eq_true, Bool.or_eq_false_iff, Bool.or_eq_true, Bool.and_eq_false_iff] at hgd ⊢; omega))) | fail)
        · exact ⟨⟨q.y, by omega, by omega, by rw [hr3, hst, if_pos h]⟩, by dsimp only; omega, Ents.sub (by simp [go_sem]) ⟨_, List.Sublist.cons _ (List.Sublist.refl _), List.Perm.refl _⟩⟩
        · exact ⟨⟨q.n, by omega, by omega, by rw [hr3, hst, if_neg (by rw [h]; simp)]⟩, by dsimp only; omega, Ents.sub (by simp [go_sem]) ⟨_, List.Sublist.cons _ (List.Sublist.refl _), List.Perm.refl _⟩⟩
      · have d1 : decide ((j : Int) < (ans.length : Int)) = false := by simp; omega
        rw [d1, Bool.false_and, if_neg (by simp)] at hst
        have g2 : (ans.map LV.bool).getD j .any = .any := by simp [List.getD]; rw [List.getElem?_eq_none (by omega)]; rfl
        repeat' (first | (simp (disch := first | omega | (simp only [List.length_cons, List.length_nil]; first | done | omega)) only [go_sem, Nat.reduceAdd, Nat.reduceMul, Nat.reduceSub, Nat.reduceEqDiff, Nat.reduceLeDiff, Nat.reduceMod, Nat.reduceLT, Int.reduceToNat, Int.reduceAdd, Int.reduceSub, Int.reduceMul, Int.reduceNeg, Int.reduceLE, Int.reduceLT, Int.toNat_natCast, Int.cast_ofNat_Int, Int.reduceNe, Int.reduceEq, Int.reduceBEq, Int.reduceBNe, not_false_eq_true, ne_eq, Int.reduceTMod, Int.reduceTDiv, beq_self_eq_true, bne_self_eq_false, List.contains_cons, List.contains_nil, Nat.reduceBEq, e2, zBr, d1, g2, Nat.mul_one, pick_0a0]) | (refine allI (fun b => ?_)) | (refine allT (fun τ => ?_)) | (refine brP (fun h => ?_) (fun h => ?_) <;> (try simp only [Bool.and_eq_true, Bool.and_eq_false_iff, Bool.or_eq_true, Bool.or_eq_false_iff, Bool.not_eq_true', Bool.not_eq_false', decide_eq_true_eq, decide_eq_false_iff_not, beq_iff_eq, beq_eq_false_iff_ne, ne_eq, bne_iff_ne, Int.not_lt, Int.not_le] at h)) | (apply And.intro; focus (first | omega | (simp; done) | (simp +contextual; done) | (intros; and_intros <;> first | assumption | omega) | (intros; simp_all; done) | (intro hgd; refine ⟨hgd, ?_⟩; simp [hgd]; done) | (intro hgd; simp only [beq_eq_false_iff_ne, beq_iff_eq, decide_eq_true_eq, decide_eq_false_iff_not, bne_iff_ne, ne_eq, Bool.and_eq_true, Bool.or_eq_false_iff, Bool.or_eq_true, Bool.and_eq_false_iff] at hgd ⊢; omega))) | fail)
        exact ⟨⟨q.n, by omega, by omega, by rw [hr3, hst]⟩, by dsimp only; omega, Ents.sub (by simp [go_sem]) ⟨_, List.Sublist.cons _ (List.Sublist.refl _), List.Perm.refl _⟩⟩
    · have hneg : r < 0 := by simpa using hb
      have hfin : decS d ans = ruleOf r := by rw [hD, hr3, walkD_neg _ _ _ hneg]
      repeat' (first | (simp (disch := first | omega | (simp only [List.length_cons, List.length_nil]; first | done | omega)) only [go_sem, Nat.reduceAdd, Nat.reduceMul, Nat.reduceSub, Nat.reduceEqDiff, Nat.reduceLeDiff, Nat.reduceMod, Nat.reduceLT, Int.reduceToNat, Int.reduceAdd, Int.reduceSub, Int.reduceMul, Int.reduceNeg, Int.reduceLE, Int.reduceLT, Int.toNat_natCast, Int.cast_ofNat_Int, Int.reduceNe, Int.reduceEq, Int.reduceBEq, Int.reduceBNe, not_false_eq_true, ne_eq, Int.reduceTMod, Int.reduceTDiv, beq_self_eq_true, bne_self_eq_false, List.contains_cons, List.contains_nil, Nat.reduceBEq]) | (refine allI (fun b => ?_)) | (refine allT (fun τ => ?_)) | (refine brP (fun h => ?_) (fun h => ?_) <;> (try simp only [Bool.and_eq_true, Bool.and_eq_false_iff, Bool.or_eq_true, Bool.or_eq_false_iff, Bool.not_eq_true', Bool.not_eq_false', decide_eq_true_eq, decide_eq_false_iff_not, beq_iff_eq, beq_eq_false_iff_ne, ne_eq, bne_iff_ne, Int.not_lt, Int.not_le] at h)) | (apply And.intro; focus (first | omega | (simp; done) | (simp +contextual; done) | (intros; and_intros <;> first | assumption | omega) | (intros; simp_all; done) | (intro hgd; refine ⟨hgd, ?_⟩; simp [hgd]; done) | (intro hgd; simp only [beq_eq_false_iff_ne, beq_iff_eq, decide_eq_true_eq, decide_eq_false_iff_not, bne_iff_ne, ne_eq, Bool.and_eq_true, Bool.or_eq_false_iff, Bool.or_eq_true, Bool.and_eq_false_iff] at hgd ⊢; omega))) | fail)
      · rw [hfin, ruleOf, if_pos (by simpa using h)]
      · rw [hfin, ruleOf, if_neg (by simpa using h)]
end Go.Proofs.Ytcngkeeknlloaaa
