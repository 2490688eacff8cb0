/- Layer 15: table: the first rule of a row. -/
import Derived.Test.YtmggjfbcjmenlaaTi
namespace Go.Proofs.Ytmggjfbcjmenlaa
open Go Go.Lx
set_option linter.unusedSimpArgs false
set_option linter.unusedVariables false
set_option maxRecDepth 100000
set_option maxHeartbeats 4000000

/-- the first of some indices of which the rule matches -/
def ftB (rs : List Rl) (bs : List Bool) (x : Cx) : List Int → Int
  | [] => -1
  | i :: r => if i < 0 ∨ (rs.length : Int) ≤ i then -1 else if matB (rs.getD i.toNat rl0) (hitA bs i.toNat) x = true then i else ftB rs bs x r
theorem ftB_drop (rs : List Rl) (bs : List Bool) (x : Cx) (l : List Int) {j : Nat} (h : j < l.length) : ftB rs bs x (l.drop j) = if l.getD j 0 < 0 ∨ (rs.length : Int) ≤ l.getD j 0 then -1 else if matB (rs.getD (l.getD j 0).toNat rl0) (hitA bs (l.getD j 0).toNat) x = true then l.getD j 0 else ftB rs bs x (l.drop (j + 1)) := by
  rw [List.drop_eq_getElem_cons h]
  have : l.getD j 0 = l[j] := by simp [List.getD, h]
  rw [this]; rfl
theorem tfir (q : Int) (R : List (List Int)) (rs : List Rl) (bs : List Bool) (x : Cx) (hR : ∀ l ∈ R, l.length ≤ 17592186044416) (hl : okRs rs) (hx : okX x) : Pure Try.prog gl 23 [Ix q R, RlS rs, BsS bs, .agg (CxC x)] (.int .i64 (ftB rs bs x (rowOf x.num R))) := by
  refine fn_pureT Try.func23 t23 Try.ntmps23 (by simp) ?_
  have hC := CxC_eq x
  have hle := len_rl rs
  obtain ⟨hl1, hl2⟩ := hl
  have hrow := row q x.num R hR
  have hrrow := rrow q x.num R hR
  have hrl := rowOf_len x.num R hR
  generalize rowOf x.num R = rw at *
  unfold c23 r23 RlS BsS
  rw [hC]
  unfold Ix Is at *
  repeat' (first | (simp (disch := first | omega | (simp only [List.length_cons, List.length_nil]; first | done | omega)) only [go_sem, Nat.reduceAdd, Nat.reduceMul, Nat.reduceSub, Nat.reduceEqDiff, Nat.reduceLeDiff, Nat.reduceMod, Nat.reduceLT, Int.reduceToNat, Int.reduceAdd, Int.reduceSub, Int.reduceMul, Int.reduceNeg, Int.reduceLE, Int.reduceLT, Int.toNat_natCast, Int.cast_ofNat_Int, Int.reduceNe, Int.reduceEq, Int.reduceBEq, Int.reduceBNe, not_false_eq_true, ne_eq, Int.reduceTMod, Int.reduceTDiv, beq_self_eq_true, bne_self_eq_false, List.contains_cons, List.contains_nil, Nat.reduceBEq]) | (refine allI (fun b => ?_)) | (refine allT (fun τ => ?_)) | (refine brP (fun h => ?_) (fun h => ?_) <;> (try simp only [Bool.and_eq_true, Bool.and_eq_false_iff, Bool.or_eq_true, Bool.or_eq_false_iff, Bool.not_eq_true', Bool.not_eq_false', decide_eq_true_eq, decide_eq_false_iff_not, beq_iff_eq, beq_eq_false_iff_ne, ne_eq, bne_iff_ne, Int.not_lt, Int.not_le] at h)) | refine call_U (hrow) ?_ | refine callG_U (fun _ => hrow) ?_ | refine call_T (hrow) ?_ | refine callG_T (fun _ => hrow) ?_ | refine call_U (hrrow) ?_ | refine callG_U (fun _ => hrrow) ?_ | refine call_T (hrrow) ?_ | refine callG_T (fun _ => hrrow) ?_ | refine call_N (hrow) ?_ | refine call_of (hrow) ?_ | refine callG_of (fun _ => hrow) ?_ | refine call_N (hrrow) ?_ | refine call_of (hrrow) ?_ | refine callG_of (fun _ => hrrow) ?_ | (apply And.intro; focus (first | omega | (simp; done) | (simp +contextual; done) | (intros; and_intros <;> first | assumption | omega) | (intros; simp_all; done) | (intro hgd; refine ⟨hgd, ?_⟩; simp [hgd]; done) | (intro hgd; simp only [beq_eq_false_iff_ne, beq_iff_eq, decide_eq_true_eq, decide_eq_false_iff_not, bne_iff_ne, ne_eq, Bool.and_eq_true, Bool.or_eq_false_iff, Bool.or_eq_true, Bool.and_eq_false_iff] at hgd ⊢; omega))) | fail)
  refine loopI (ι := Nat) (fun j => j ≤ rw.length ∧ ftB rs bs x (rw.drop j) = ftB rs bs x rw) (fun j => (17, .int .i64 j) :: _) (fun _ => _) (fun j => rw.length - j) 0 ⟨by omega, by simp⟩ Ents.same ?_
  intro j hj
  have hjB := hj.1
  have hd := ftB_drop rs bs x rw (j := j)
  simp (disch := first | omega | (simp only [List.length_cons, List.length_nil]; first | done | omega)) only [go_sem, Nat.reduceAdd, Nat.reduceMul, Nat.reduceSub, Nat.reduceEqDiff, Nat.reduceLeDiff, Nat.reduceMod, Nat.reduceLT, Int.reduceToNat, Int.reduceAdd, Int.reduceSub, Int.reduceMul, Int.reduceNeg, Int.reduceLE, Int.reduceLT, Int.toNat_natCast, Int.cast_ofNat_Int, Int.reduceNe, Int.reduceEq, Int.reduceBEq, Int.reduceBNe, not_false_eq_true, ne_eq, Int.reduceTMod, Int.reduceTDiv, beq_self_eq_true, bne_self_eq_false, List.contains_cons, List.contains_nil, Nat.reduceBEq]
  refine brP (fun hb => ?_) (fun hb => ?_)
  · have hlt : j < rw.length := by simpa using hb
    have e0 : (rw.map (LV.int .i64)).getD (j * 1) .any = .int .i64 (rw.getD j 0) := by simp [List.getD, hlt]
    have e0b : (rw.map (LV.int .i64)).getD j .any = .int .i64 (rw.getD j 0) := by simp [List.getD, hlt]
    have hml : (rw.map (LV.int .i64)).length = rw.length := by simp
    have hd := hd hlt
    rw [hj.2] at hd
    generalize rw.getD j 0 = v at *
    by_cases hv : v < 0 ∨ (rs.length : Int) ≤ v
    · rw [if_pos hv] at hd
      repeat' (first | (simp (disch := first | omega | (simp only [List.length_cons, List.length_nil]; first | done | omega)) only [go_sem, Nat.reduceAdd, Nat.reduceMul, Nat.reduceSub, Nat.reduceEqDiff, Nat.reduceLeDiff, Nat.reduceMod, Nat.reduceLT, Int.reduceToNat, Int.reduceAdd, Int.reduceSub, Int.reduceMul, Int.reduceNeg, Int.reduceLE, Int.reduceLT, Int.toNat_natCast, Int.cast_ofNat_Int, Int.reduceNe, Int.reduceEq, Int.reduceBEq, Int.reduceBNe, not_false_eq_true, ne_eq, Int.reduceTMod, Int.reduceTDiv, beq_self_eq_true, bne_self_eq_false, List.contains_cons, List.contains_nil, Nat.reduceBEq, e0]) | (refine allI (fun b => ?_)) | (refine allT (fun τ => ?_)) | (refine brP (fun h => ?_) (fun h => ?_) <;> (try simp only [Bool.and_eq_true, Bool.and_eq_false_iff, Bool.or_eq_true, Bool.or_eq_false_iff, Bool.not_eq_true', Bool.not_eq_false', decide_eq_true_eq, decide_eq_false_iff_not, beq_iff_eq, beq_eq_false_iff_ne, ne_eq, bne_iff_ne, Int.not_lt, Int.not_le] at h)) | (apply And.intro; focus (first | omega | (simp; done) | (simp +contextual; done) | (intros; and_intros <;> first | assumption | omega) | (intros; simp_all; done) | (intro hgd; refine ⟨hgd, ?_⟩; simp [hgd]; done) | (intro hgd; simp only [beq_eq_false_iff_ne, beq_iff_eq, decide_eq_true_eq, decide_eq_false_iff_not, bne_iff_ne, ne_eq, Bool.and_eq_true, Bool.or_eq_false_iff, Bool.or_eq_true, Bool.and_eq_false_iff] at hgd ⊢; omega))) | fail)
      · exact hd.symm
      · omega
    · have hi : v.toNat < rs.length := by omega
      rw [if_neg hv] at hd
      have e2 : ((rs.flatMap RlC).drop (v.toNat * 8)).take 8 = RlC (rs.getD v.toNat rl0) := take_rows (f := RlC) (fun _ => rfl) rl0 _ hi
      have hm := pmat (rs.getD v.toNat rl0) (hitA bs v.toNat) x hx (hl2 _ (getD_memA rl0 hi))
      generalize rs.getD v.toNat rl0 = r at *
      rw [RlC_eq] at e2 hm
      rw [hC] at hm
      by_cases hh : v.toNat < bs.length
      · have hml : (bs.map LV.bool).length = bs.length := by simp
        have e3 := getD_bool hh
        have e4 : hitA bs v.toNat = bs.getD v.toNat false := by simp [hitA, hh]
        rw [e4] at hm hd
        have e5 : decide (v < bs.length) = true := decide_eq_true (by omega)
        repeat' (first | (simp (disch := first | omega | (simp only [List.length_cons, List.length_nil]; first | done | omega)) only [go_sem, Nat.reduceAdd, Nat.reduceMul, Nat.reduceSub, Nat.reduceEqDiff, Nat.reduceLeDiff, Nat.reduceMod, Nat.reduceLT, Int.reduceToNat, Int.reduceAdd, Int.reduceSub, Int.reduceMul, Int.reduceNeg, Int.reduceLE, Int.reduceLT, Int.toNat_natCast, Int.cast_ofNat_Int, Int.reduceNe, Int.reduceEq, Int.reduceBEq, Int.reduceBNe, not_false_eq_true, ne_eq, Int.reduceTMod, Int.reduceTDiv, beq_self_eq_true, bne_self_eq_false, List.contains_cons, List.contains_nil, Nat.reduceBEq, e0b, e2, e3, e5, Nat.mul_one, Bool.true_and]) | (refine allI (fun b => ?_)) | (refine allT (fun τ => ?_)) | (refine brP (fun h => ?_) (fun h => ?_) <;> (try simp only [Bool.and_eq_true, Bool.and_eq_false_iff, Bool.or_eq_true, Bool.or_eq_false_iff, Bool.not_eq_true', Bool.not_eq_false', decide_eq_true_eq, decide_eq_false_iff_not, beq_iff_eq, beq_eq_false_iff_ne, ne_eq, bne_iff_ne, Int.not_lt, Int.not_le] at h)) | refine call_U (hm) ?_ | refine callG_U (fun _ => hm) ?_ | refine call_T (hm) ?_ | refine callG_T (fun _ => hm) ?_ | refine call_N (hm) ?_ | refine call_of (hm) ?_ | refine callG_of (fun _ => hm) ?_ | (apply And.intro; focus (first | omega | (simp; done) | (simp +contextual; done) | (intros; and_intros <;> first | assumption | omega) | (intros; simp_all; done) | (intro hgd; refine ⟨hgd, ?_⟩; simp [hgd]; done) | (intro hgd; simp only [beq_eq_false_iff_ne, beq_iff_eq, decide_eq_true_eq, decide_eq_false_iff_not, bne_iff_ne, ne_eq, Bool.and_eq_true, Bool.or_eq_false_iff, Bool.or_eq_true, Bool.and_eq_false_iff] at hgd ⊢; omega))) | fail)
        · exact absurd h hv
        · rw [hd, if_pos h]
        · exact ⟨⟨j + 1, by omega, by rw [hd, if_neg (by rw [h]; exact Bool.false_ne_true)]⟩, by dsimp only; omega, Ents.envH (by simp [go_sem]) rfl⟩
      · have e3 := getD_boolN hh
        have e4 : hitA bs v.toNat = false := by simp [hitA, hh]
        rw [e4] at hm hd
        have e5 : decide (v < bs.length) = false := decide_eq_false (by omega)
        repeat' (first | (simp (disch := first | omega | (simp only [List.length_cons, List.length_nil]; first | done | omega)) only [go_sem, Nat.reduceAdd, Nat.reduceMul, Nat.reduceSub, Nat.reduceEqDiff, Nat.reduceLeDiff, Nat.reduceMod, Nat.reduceLT, Int.reduceToNat, Int.reduceAdd, Int.reduceSub, Int.reduceMul, Int.reduceNeg, Int.reduceLE, Int.reduceLT, Int.toNat_natCast, Int.cast_ofNat_Int, Int.reduceNe, Int.reduceEq, Int.reduceBEq, Int.reduceBNe, not_false_eq_true, ne_eq, Int.reduceTMod, Int.reduceTDiv, beq_self_eq_true, bne_self_eq_false, List.contains_cons, List.contains_nil, Nat.reduceBEq, e0b, e2, e3, e5, Nat.mul_one, Bool.false_and, pick_oa0, pick_0a0]) | (refine allI (fun b => ?_)) | (refine allT (fun τ => ?_)) | (refine brP (fun h => ?_) (fun h => ?_) <;> (try simp only [Bool.and_eq_true, Bool.and_eq_false_iff, Bool.or_eq_true, Bool.or_eq_false_iff, Bool.not_eq_true', Bool.not_eq_false', decide_eq_true_eq, decide_eq_false_iff_not, beq_iff_eq, beq_eq_false_iff_ne, ne_eq, bne_iff_ne, Int.not_lt, Int.not_le] at h)) | refine call_U (hm) ?_ | refine callG_U (fun _ => hm) ?_ | refine call_T (hm) ?_ | refine callG_T (fun _ => hm) ?_ | refine call_N (hm) ?_ | refine call_of (hm) ?_ | refine callG_of (fun _ => hm) ?_ | (apply And.intro; focus (first | omega | (simp; done) | (simp +contextual; done) | (intros; and_intros <;> first | assumption | omega) | (intros; simp_all; done) | (intro hgd; refine ⟨hgd, ?_⟩; simp [hgd]; done) | (intro hgd; simp only [beq_eq_false_iff_ne, beq_iff_eq, decide_eq_true_eq, decide_eq_false_iff_not, bne_iff_ne, ne_eq, Bool.and_eq_true, Bool.or_eq_false_iff, Bool.or_eq_true, Bool.and_eq_false_iff] at hgd ⊢; omega))) | fail)
        · exact absurd h hv
        · rw [hd, if_pos h]
        · exact ⟨⟨j + 1, by omega, by rw [hd, if_neg (by rw [h]; exact Bool.false_ne_true)]⟩, by dsimp only; omega, Ents.envH (by simp [go_sem]) rfl⟩
  · have hlen : j = rw.length := by simp only [decide_eq_false_iff_not] at hb; omega
    have h5 := hj.2
    rw [hlen, List.drop_length] at h5
    repeat' (first | (simp (disch := first | omega | (simp only [List.length_cons, List.length_nil]; first | done | omega)) only [go_sem, Nat.reduceAdd, Nat.reduceMul, Nat.reduceSub, Nat.reduceEqDiff, Nat.reduceLeDiff, Nat.reduceMod, Nat.reduceLT, Int.reduceToNat, Int.reduceAdd, Int.reduceSub, Int.reduceMul, Int.reduceNeg, Int.reduceLE, Int.reduceLT, Int.toNat_natCast, Int.cast_ofNat_Int, Int.reduceNe, Int.reduceEq, Int.reduceBEq, Int.reduceBNe, not_false_eq_true, ne_eq, Int.reduceTMod, Int.reduceTDiv, beq_self_eq_true, bne_self_eq_false, List.contains_cons, List.contains_nil, Nat.reduceBEq]) | (refine allI (fun b => ?_)) | (refine allT (fun τ => ?_)) | (refine brP (fun h => ?_) (fun h => ?_) <;> (try simp only [Bool.and_eq_true, Bool.and_eq_false_iff, Bool.or_eq_true, Bool.or_eq_false_iff, Bool.not_eq_true', Bool.not_eq_false', decide_eq_true_eq, decide_eq_false_iff_not, beq_iff_eq, beq_eq_false_iff_ne, ne_eq, bne_iff_ne, Int.not_lt, Int.not_le] at h)) | (apply And.intro; focus (first | omega | (simp; done) | (simp +contextual; done) | (intros; and_intros <;> first | assumption | omega) | (intros; simp_all; done) | (intro hgd; refine ⟨hgd, ?_⟩; simp [hgd]; done) | (intro hgd; simp only [beq_eq_false_iff_ne, beq_iff_eq, decide_eq_true_eq, decide_eq_false_iff_not, bne_iff_ne, ne_eq, Bool.and_eq_true, Bool.or_eq_false_iff, Bool.or_eq_true, Bool.and_eq_false_iff] at hgd ⊢; omega))) | fail)
    exact h5
theorem rfi15 (q : Int) (R : List (List Int)) (rs : List Rl) (bs : List Bool) (x : Cx) (hR : ∀ l ∈ R, l.length ≤ 17592186044416) (hl : okRs rs) (hx : okX x) : Pure Try.prog gl 24 [Ix q R, RlS rs, BsS bs, .agg (CxC x)] (.int .i64 (ftB rs bs x (rowOf x.num R))) := by
  refine fn_pureT Try.func24 t24 Try.ntmps24 (by simp) ?_
  have hC := CxC_eq x
  have hle := len_rl rs
  obtain ⟨hl1, hl2⟩ := hl
  have hrow := row q x.num R hR
  have hrrow := rrow q x.num R hR
  have hrl := rowOf_len x.num R hR
  generalize rowOf x.num R = rw at *
  unfold c24 r24 RlS BsS
  rw [hC]
  unfold Ix Is at *
  repeat' (first | (simp (disch := first | omega | (simp only [List.length_cons, List.length_nil]; first | done | omega)) only [go_sem, Nat.reduceAdd, Nat.reduceMul, Nat.reduceSub, Nat.reduceEqDiff, Nat.reduceLeDiff, Nat.reduceMod, Nat.reduceLT, Int.reduceToNat, Int.reduceAdd, Int.reduceSub, Int.reduceMul, Int.reduceNeg, Int.reduceLE, Int.reduceLT, Int.toNat_natCast, Int.cast_ofNat_Int, Int.reduceNe, Int.reduceEq, Int.reduceBEq, Int.reduceBNe, not_false_eq_true, ne_eq, Int.reduceTMod, Int.reduceTDiv, beq_self_eq_true, bne_self_eq_false, List.contains_cons, List.contains_nil, Nat.reduceBEq]) | (refine allI (fun b => ?_)) | (refine allT (fun τ => ?_)) | (refine brP (fun h => ?_) (fun h => ?_) <;> (try simp only [Bool.and_eq_true, Bool.and_eq_false_iff, Bool.or_eq_true, Bool.or_eq_false_iff, Bool.not_eq_true', Bool.not_eq_false', decide_eq_true_eq, decide_eq_false_iff_not, beq_iff_eq, beq_eq_false_iff_ne, ne_eq, bne_iff_ne, Int.not_lt, Int.not_le] at h)) | refine call_U (hrow) ?_ | refine callG_U (fun _ => hrow) ?_ | refine call_T (hrow) ?_ | refine callG_T (fun _ => hrow) ?_ | refine call_U (hrrow) ?_ | refine callG_U (fun _ => hrrow) ?_ | refine call_T (hrrow) ?_ | refine callG_T (fun _ => hrrow) ?_ | refine call_N (hrow) ?_ | refine call_of (hrow) ?_ | refine callG_of (fun _ => hrow) ?_ | refine call_N (hrrow) ?_ | refine call_of (hrrow) ?_ | refine callG_of (fun _ => hrrow) ?_ | (apply And.intro; focus (first | omega | (simp; done) | (simp +contextual; done) | (intros; and_intros <;> first | assumption | omega) | (intros; simp_all; done) | (intro hgd; refine ⟨hgd, ?_⟩; simp [hgd]; done) | (intro hgd; simp only [beq_eq_false_iff_ne, beq_iff_eq, decide_eq_true_eq, decide_eq_false_iff_not, bne_iff_ne, ne_eq, Bool.and_eq_true, Bool.or_eq_false_iff, Bool.or_eq_true, Bool.and_eq_false_iff] at hgd ⊢; omega))) | fail)
  refine loopI (ι := Nat) (fun j => j ≤ rw.length ∧ ftB rs bs x (rw.drop j) = ftB rs bs x rw) (fun j => (10, .int .i64 j) :: _) (fun _ => _) (fun j => rw.length - j) 0 ⟨by omega, by simp⟩ Ents.same ?_
  intro j hj
  have hjB := hj.1
  have hd := ftB_drop rs bs x rw (j := j)
  simp (disch := first | omega | (simp only [List.length_cons, List.length_nil]; first | done | omega)) only [go_sem, Nat.reduceAdd, Nat.reduceMul, Nat.reduceSub, Nat.reduceEqDiff, Nat.reduceLeDiff, Nat.reduceMod, Nat.reduceLT, Int.reduceToNat, Int.reduceAdd, Int.reduceSub, Int.reduceMul, Int.reduceNeg, Int.reduceLE, Int.reduceLT, Int.toNat_natCast, Int.cast_ofNat_Int, Int.reduceNe, Int.reduceEq, Int.reduceBEq, Int.reduceBNe, not_false_eq_true, ne_eq, Int.reduceTMod, Int.reduceTDiv, beq_self_eq_true, bne_self_eq_false, List.contains_cons, List.contains_nil, Nat.reduceBEq]
  refine brP (fun hb => ?_) (fun hb => ?_)
  · have hlt : j < rw.length := by simpa using hb
    have e0 : (rw.map (LV.int .i64)).getD (j * 1) .any = .int .i64 (rw.getD j 0) := by simp [List.getD, hlt]
    have e0b : (rw.map (LV.int .i64)).getD j .any = .int .i64 (rw.getD j 0) := by simp [List.getD, hlt]
    have hml : (rw.map (LV.int .i64)).length = rw.length := by simp
    have hd := hd hlt
    rw [hj.2] at hd
    generalize rw.getD j 0 = v at *
    by_cases hv : v < 0 ∨ (rs.length : Int) ≤ v
    · rw [if_pos hv] at hd
      repeat' (first | (simp (disch := first | omega | (simp only [List.length_cons, List.length_nil]; first | done | omega)) only [go_sem, Nat.reduceAdd, Nat.reduceMul, Nat.reduceSub, Nat.reduceEqDiff, Nat.reduceLeDiff, Nat.reduceMod, Nat.reduceLT, Int.reduceToNat, Int.reduceAdd, Int.reduceSub, Int.reduceMul, Int.reduceNeg, Int.reduceLE, Int.reduceLT, Int.toNat_natCast, Int.cast_ofNat_Int, Int.reduceNe, Int.reduceEq, Int.reduceBEq, Int.reduceBNe, not_false_eq_true, ne_eq, Int.reduceTMod, Int.reduceTDiv, beq_self_eq_true, bne_self_eq_false, List.contains_cons, List.contains_nil, Nat.reduceBEq, e0]) | (refine allI (fun b => ?_)) | (refine allT (fun τ => ?_)) | (refine brP (fun h => ?_) (fun h => ?_) <;> (try simp only [Bool.and_eq_true, Bool.and_eq_false_iff, Bool.or_eq_true, Bool.or_eq_false_iff, Bool.not_eq_true', Bool.not_eq_false', decide_eq_true_eq, decide_eq_false_iff_not, beq_iff_eq, beq_eq_false_iff_ne, ne_eq, bne_iff_ne, Int.not_lt, Int.not_le] at h)) | (apply And.intro; focus (first | omega | (simp; done) | (simp +contextual; done) | (intros; and_intros <;> first | assumption | omega) | (intros; simp_all; done) | (intro hgd; refine ⟨hgd, ?_⟩; simp [hgd]; done) | (intro hgd; simp only [beq_eq_false_iff_ne, beq_iff_eq, decide_eq_true_eq, decide_eq_false_iff_not, bne_iff_ne, ne_eq, Bool.and_eq_true, Bool.or_eq_false_iff, Bool.or_eq_true, Bool.and_eq_false_iff] at hgd ⊢; omega))) | fail)
      · exact hd.symm
      · omega
    · have hi : v.toNat < rs.length := by omega
      rw [if_neg hv] at hd
      have e2 : ((rs.flatMap RlC).drop (v.toNat * 8)).take 8 = RlC (rs.getD v.toNat rl0) := take_rows (f := RlC) (fun _ => rfl) rl0 _ hi
      have hm := rmat (rs.getD v.toNat rl0) (hitA bs v.toNat) x hx (hl2 _ (getD_memA rl0 hi))
      generalize rs.getD v.toNat rl0 = r at *
      rw [RlC_eq] at e2 hm
      rw [hC] at hm
      by_cases hh : v.toNat < bs.length
      · have hml : (bs.map LV.bool).length = bs.length := by simp
        have e3 := getD_bool hh
        have e4 : hitA bs v.toNat = bs.getD v.toNat false := by simp [hitA, hh]
        rw [e4] at hm hd
        have e5 : decide (v < bs.length) = true := decide_eq_true (by omega)
        repeat' (first | (simp (disch := first | omega | (simp only [List.length_cons, List.length_nil]; first | done | omega)) only [go_sem, Nat.reduceAdd, Nat.reduceMul, Nat.reduceSub, Nat.reduceEqDiff, Nat.reduceLeDiff, Nat.reduceMod, Nat.reduceLT, Int.reduceToNat, Int.reduceAdd, Int.reduceSub, Int.reduceMul, Int.reduceNeg, Int.reduceLE, Int.reduceLT, Int.toNat_natCast, Int.cast_ofNat_Int, Int.reduceNe, Int.reduceEq, Int.reduceBEq, Int.reduceBNe, not_false_eq_true, ne_eq, Int.reduceTMod, Int.reduceTDiv, beq_self_eq_true, bne_self_eq_false, List.contains_cons, List.contains_nil, Nat.reduceBEq, e0b, e2, e3, e5, Nat.mul_one, Bool.true_and]) | (refine allI (fun b => ?_)) | (refine allT (fun τ => ?_)) | (refine brP (fun h => ?_) (fun h => ?_) <;> (try simp only [Bool.and_eq_true, Bool.and_eq_false_iff, Bool.or_eq_true, Bool.or_eq_false_iff, Bool.not_eq_true', Bool.not_eq_false', decide_eq_true_eq, decide_eq_false_iff_not, beq_iff_eq, beq_eq_false_iff_ne, ne_eq, bne_iff_ne, Int.not_lt, Int.not_le] at h)) | refine call_U (hm) ?_ | refine callG_U (fun _ => hm) ?_ | refine call_T (hm) ?_ | refine callG_T (fun _ => hm) ?_ | refine call_N (hm) ?_ | refine call_of (hm) ?_ | refine callG_of (fun _ => hm) ?_ | (apply And.intro; focus (first | omega | (simp; done) | (simp +contextual; done) | (intros; and_intros <;> first | assumption | omega) | (intros; simp_all; done) | (intro hgd; refine ⟨hgd, ?_⟩; simp [hgd]; done) | (intro hgd; simp only [beq_eq_false_iff_ne, beq_iff_eq, decide_eq_true_eq, decide_eq_false_iff_not, bne_iff_ne, ne_eq, Bool.and_eq_true, Bool.or_eq_false_iff, Bool.or_eq_true, Bool.and_eq_false_iff] at hgd ⊢; omega))) | fail)
        · exact absurd h hv
        · rw [hd, if_pos h]
        · exact ⟨⟨j + 1, by omega, by rw [hd, if_neg (by rw [h]; exact Bool.false_ne_true)]⟩, by dsimp only; omega, Ents.envH (by simp [go_sem]) rfl⟩
      · have e3 := getD_boolN hh
        have e4 : hitA bs v.toNat = false := by simp [hitA, hh]
        rw [e4] at hm hd
        have e5 : decide (v < bs.length) = false := decide_eq_false (by omega)
        repeat' (first | (simp (disch := first | omega | (simp only [List.length_cons, List.length_nil]; first | done | omega)) only [go_sem, Nat.reduceAdd, Nat.reduceMul, Nat.reduceSub, Nat.reduceEqDiff, Nat.reduceLeDiff, Nat.reduceMod, Nat.reduceLT, Int.reduceToNat, Int.reduceAdd, Int.reduceSub, Int.reduceMul, Int.reduceNeg, Int.reduceLE, Int.reduceLT, Int.toNat_natCast, Int.cast_ofNat_Int, Int.reduceNe, Int.reduceEq, Int.reduceBEq, Int.reduceBNe, not_false_eq_true, ne_eq, Int.reduceTMod, Int.reduceTDiv, beq_self_eq_true, bne_self_eq_false, List.contains_cons, List.contains_nil, Nat.reduceBEq, e0b, e2, e3, e5, Nat.mul_one, Bool.false_and, pick_oa0, pick_0a0]) | (refine allI (fun b => ?_)) | (refine allT (fun τ => ?_)) | (refine brP (fun h => ?_) (fun h => ?_) <;> (try simp only [Bool.and_eq_true, Bool.and_eq_false_iff, Bool.or_eq_true, Bool.or_eq_false_iff, Bool.not_eq_true', Bool.not_eq_false', decide_eq_true_eq, decide_eq_false_iff_not, beq_iff_eq, beq_eq_false_iff_ne, ne_eq, bne_iff_ne, Int.not_lt, Int.not_le] at h)) | refine call_U (hm) ?_ | refine callG_U (fun _ => hm) ?_ | refine call_T (hm) ?_ | refine callG_T (fun _ => hm) ?_ | refine call_N (hm) ?_ | refine call_of (hm) ?_ | refine callG_of (fun _ => hm) ?_ | (apply And.intro; focus (first | omega | (simp; done) | (simp +contextual; done) | (intros; and_intros <;> first | assumption | omega) | (intros; simp_all; done) | (intro hgd; refine ⟨hgd, ?_⟩; simp [hgd]; done) | (intro hgd; simp only [beq_eq_false_iff_ne, beq_iff_eq, decide_eq_true_eq, decide_eq_false_iff_not, bne_iff_ne, ne_eq, Bool.and_eq_true, Bool.or_eq_false_iff, Bool.or_eq_true, Bool.and_eq_false_iff] at hgd ⊢; omega))) | fail)
        · exact absurd h hv
        · rw [hd, if_pos h]
        · exact ⟨⟨j + 1, by omega, by rw [hd, if_neg (by rw [h]; exact Bool.false_ne_true)]⟩, by dsimp only; omega, Ents.envH (by simp [go_sem]) rfl⟩
  · have hlen : j = rw.length := by simp only [decide_eq_false_iff_not] at hb; omega
    have h5 := hj.2
    rw [hlen, List.drop_length] at h5
    repeat' (first | (simp (disch := first | omega | (simp only [List.length_cons, List.length_nil]; first | done | omega)) only [go_sem, Nat.reduceAdd, Nat.reduceMul, Nat.reduceSub, Nat.reduceEqDiff, Nat.reduceLeDiff, Nat.reduceMod, Nat.reduceLT, Int.reduceToNat, Int.reduceAdd, Int.reduceSub, Int.reduceMul, Int.reduceNeg, Int.reduceLE, Int.reduceLT, Int.toNat_natCast, Int.cast_ofNat_Int, Int.reduceNe, Int.reduceEq, Int.reduceBEq, Int.reduceBNe, not_false_eq_true, ne_eq, Int.reduceTMod, Int.reduceTDiv, beq_self_eq_true, bne_self_eq_false, List.contains_cons, List.contains_nil, Nat.reduceBEq]) | (refine allI (fun b => ?_)) | (refine allT (fun τ => ?_)) | (refine brP (fun h => ?_) (fun h => ?_) <;> (try simp only [Bool.and_eq_true, Bool.and_eq_false_iff, Bool.or_eq_true, Bool.or_eq_false_iff, Bool.not_eq_true', Bool.not_eq_false', decide_eq_true_eq, decide_eq_false_iff_not, beq_iff_eq, beq_eq_false_iff_ne, ne_eq, bne_iff_ne, Int.not_lt, Int.not_le] at h)) | (apply And.intro; focus (first | omega | (simp; done) | (simp +contextual; done) | (intros; and_intros <;> first | assumption | omega) | (intros; simp_all; done) | (intro hgd; refine ⟨hgd, ?_⟩; simp [hgd]; done) | (intro hgd; simp only [beq_eq_false_iff_ne, beq_iff_eq, decide_eq_true_eq, decide_eq_false_iff_not, bne_iff_ne, ne_eq, Bool.and_eq_true, Bool.or_eq_false_iff, Bool.or_eq_true, Bool.and_eq_false_iff] at hgd ⊢; omega))) | fail)
    exact h5
/-! ### rows of lists that are built -/
def rowG (p : Nat → Bool) : Nat → List Int
  | 0 => []
  | i + 1 => rowG p i ++ (if p i then [(i : Int)] else [])
theorem rowN_G (us : List Ru) (k : Int) (n : Nat) : ∀ i, rowN us k i n = rowG (fun j => sel us k j n) i
  | 0 => rfl
  | i + 1 => by rw [rowN, rowG, rowN_G us k n i]
theorem rowL_G (us : List Ru) (k : Int) : ∀ i, rowL us k i = rowG (fun j => (us.getD j ru0).l == k) i
  | 0 => rfl
  | i + 1 => by rw [rowL, rowG, rowL_G us k i]
theorem rowG_ext {p q : Nat → Bool} : ∀ {i : Nat}, (∀ j, j < i → p j = q j) → rowG p i = rowG q i
  | 0, _ => rfl
  | i + 1, h => by rw [rowG, rowG, rowG_ext (fun j hj => h j (by omega)), h i (by omega)]
theorem ftB_one (rs : List Rl) (bs : List Bool) (x : Cx) (i : Nat) (hi : i < rs.length) (r : List Int) : ftB rs bs x ((i : Int) :: r) = if matB (rs.getD i rl0) (hitA bs i) x = true then (i : Int) else ftB rs bs x r := by
  rw [ftB, if_neg (by omega), Int.toNat_natCast]
theorem ftB_skip (rs : List Rl) (bs : List Bool) (x : Cx) (p : Nat → Bool) : ∀ (i : Nat), i ≤ rs.length → (∀ j, j < i → (p j && matB (rs.getD j rl0) (hitA bs j) x) = false) → ∀ r, ftB rs bs x (rowG p i ++ r) = ftB rs bs x r
  | 0, _, _, r => rfl
  | i + 1, h, hn, r => by
    rw [rowG, List.append_assoc, ftB_skip rs bs x p i (by omega) (fun j hj => hn j (by omega))]
    have h1 := hn i (by omega)
    cases hp : p i with
    | false => simp
    | true =>
      rw [hp, Bool.true_and] at h1
      rw [if_pos rfl, List.singleton_append, ftB_one rs bs x i (by omega), h1, if_neg (by simp)]
theorem rowG_split (p : Nat → Bool) {j : Nat} (hj : p j = true) : ∀ i, j < i → ∃ s, rowG p i = rowG p j ++ (j : Int) :: s
  | 0, h => by omega
  | i + 1, h => by
    rcases (by omega : j < i ∨ j = i) with h1 | rfl
    · obtain ⟨s, hs⟩ := rowG_split p hj i h1
      exact ⟨s ++ (if p i then [(i : Int)] else []), by rw [rowG, hs, List.append_assoc, List.cons_append]⟩
    · exact ⟨[], by rw [rowG, hj, if_pos rfl]⟩
theorem ft_rowG (rs : List Rl) (bs : List Bool) (x : Cx) (p q : Nat → Bool) (hq : ∀ j, j < rs.length → q j = (p j && matB (rs.getD j rl0) (hitA bs j) x)) : ftB rs bs x (rowG p rs.length) = firstI rs.length q := by
  cases hf : (List.range rs.length).find? q with
  | none =>
    have hn := (List.find?_range_eq_none).1 hf
    have hn : ∀ j, j < rs.length → q j = false := fun j hj => by simpa using hn j hj
    rw [firstI_none hn]
    have := ftB_skip rs bs x p rs.length (Nat.le_refl _) (fun j hj => by rw [← hq j hj]; exact hn j hj) []
    rw [List.append_nil] at this
    rw [this]; rfl
  | some j =>
    obtain ⟨h1, h2, h3⟩ := (List.find?_range_eq_some).1 hf
    have hj : j < rs.length := by simpa using h2
    have hn : ∀ i, i < j → q i = false := fun i hi => by simpa using h3 i hi
    rw [firstI_is hj h1 hn]
    rw [hq j hj, Bool.and_eq_true] at h1
    obtain ⟨s, hs⟩ := rowG_split p h1.1 rs.length hj
    rw [hs, ftB_skip rs bs x p j (by omega) (fun i hi => by rw [← hq i (by omega)]; exact hn i hi), ftB_one rs bs x j hj, if_pos h1.2]
/-- the theorem of the tables -/
theorem ft_built {rs : List Rl} (hrs : okRls rs) {k : Int} (hk : 1 ≤ k ∧ k ≤ 5) (bs : List Bool) (x : Cx) {n : Nat} (hn : n < 32) (hx : x.num = n) : ftB rs bs x (rowOf x.num (ixR (rs.map toRu) k)) = firB rs k bs x := by
  rw [hx]
  by_cases hk2 : k = 2 ∨ k = 3
  · have e1 : rowOf (n : Int) (ixR (rs.map toRu) k) = rowN (rs.map toRu) k rs.length n := by
      have e2 : ixR (rs.map toRu) k = rowsN (rs.map toRu) k := by rw [ixR, if_pos hk2]
      have e3 : (rowsN (rs.map toRu) k).length = 32 := by simp [rowsN]
      rw [e2, rowOf, if_neg (by rw [e3]; omega), if_neg (by rw [e3]; omega), Int.toNat_natCast]
      simp [rowsN, List.getD, hn]
    rw [e1, rowN_G]
    refine ft_rowG rs bs x _ _ fun j hj => ?_
    have hok := (hrs _ (getD_memA rl0 hj)).2
    have e4 : sel (rs.map toRu) k j n = ((rs.getD j rl0).l == k && hasC (rs.getD j rl0).c n) := by
      unfold sel; rw [getD_toRu hj]; rfl
    rw [e4]
    unfold firP
    generalize rs.getD j rl0 = r at *
    cases hl : r.l == k with
    | false => rfl
    | true =>
      have hc : r.c ≠ 0 := hok.2.1 (by have : r.l = k := by simpa using hl
                                       omega)
      simp only [Bool.true_and]
      cases hh : hasC r.c n with
      | true => rfl
      | false =>
        unfold matB
        rw [hx, hh]
        simp [hc]
  · have e1 : rowOf (n : Int) (ixR (rs.map toRu) k) = rowL (rs.map toRu) k rs.length := by
      have e2 : ixR (rs.map toRu) k = [rowL (rs.map toRu) k rs.length] := by rw [ixR, if_neg hk2, if_pos (by omega), List.length_map]
      rw [e2]; simp [rowOf]
    rw [e1, rowL_G]
    refine ft_rowG rs bs x _ _ fun j hj => ?_
    rw [getD_toRu hj]
    rfl
end Go.Proofs.Ytmggjfbcjmenlaa
