/- Layer 9: Descriptors. -/
import Derived.Test.YtkdblnejpmbnfaaPu
import Derived.Test.YtkdblnejpmbnfaaPg
import Derived.Test.YtkdblnejpmbnfaaMkS
namespace Go.Proofs.Ytkdblnejpmbnfaa
open Go Go.Lx
set_option linter.unusedSimpArgs false
set_option linter.unusedVariables false
set_option maxRecDepth 100000
set_option maxHeartbeats 4000000

def pK (l : List De) : Ps := { p1 0 1 with op := l }
def tK (l : List De) : Tb := ⟨2, 1, [pK l]⟩
theorem clR_K (l : List De) (fd : Int) : clR (tK l) (pK l) fd = if fdI l fd < 0 then (9, tb0) else (0, tK (l.eraseIdx (fdI l fd).toNat)) := by
  rw [clR, chO, clG]
  have : (pK l).op = l := rfl
  rw [this]
  split
  · rfl
  · rfl
theorem opR_K (l : List De) (d i fl : Int) : opR (tK l) (pK l) d i fl = if 8 ≤ l.length then (24, tb0) else (0, tK (l.take (lfA l 0) ++ ⟨lfA l 0, d, i, fl⟩ :: l.drop (lfA l 0))) := by
  rw [opR, chO, opG]
  have : (pK l).op = l := rfl
  rw [this]
  split
  · rfl
  · rfl
theorem getB {os : List Bool} {k : Nat} (h : k < os.length) : (os.map LV.bool).getD k .any = .bool (os.getD k false) := by
  simp [List.getD, h]
theorem putB {os : List Bool} {k : Nat} (v : Bool) (h : k < os.length) : putC (os.map LV.bool) k (.bool v) = (os.set k v).map LV.bool := by
  rw [putC_set _ (by simpa using h), List.map_set]
theorem descsL (l : List Int) (hl : okS l 0) : Pure Try.prog gl 7 [Ms l] (.bool true) := by
  refine fn_pureT Try.func7 t7 Try.ntmps7 (by simp) ?_
  have hs := new_ l
  have h1 : Pure Try.prog gl 9 [.agg [.int .i64 0, .int .i64 1]] (TbL ta) := new9 0 1
  rw [TbL_eq ta] at h1
  unfold Ms at hs ⊢
  unfold c7 r7
  repeat' (first | (simp (disch := first | omega | (simp only [List.length_cons, List.length_nil]; first | done | omega)) only [go_sem, Nat.reduceAdd, Nat.reduceMul, Nat.reduceSub, Nat.reduceEqDiff, Nat.reduceLeDiff, Nat.reduceMod, Nat.reduceLT, Int.reduceToNat, Int.reduceAdd, Int.reduceSub, Int.reduceMul, Int.reduceNeg, Int.reduceLE, Int.reduceLT, Int.toNat_natCast, Int.cast_ofNat_Int, Int.reduceNe, Int.reduceEq, Int.reduceBEq, Int.reduceBNe, not_false_eq_true, ne_eq, Int.reduceTMod, Int.reduceTDiv, beq_self_eq_true, bne_self_eq_false, List.contains_cons, List.contains_nil, Nat.reduceBEq]) | (refine allI (fun b => ?_)) | (refine allT (fun τ => ?_)) | (refine brP (fun h => ?_) (fun h => ?_) <;> (try simp only [Bool.and_eq_true, Bool.and_eq_false_iff, Bool.or_eq_true, Bool.or_eq_false_iff, Bool.not_eq_true', Bool.not_eq_false', decide_eq_true_eq, decide_eq_false_iff_not, beq_iff_eq, beq_eq_false_iff_ne, ne_eq, bne_iff_ne, Int.not_lt, Int.not_le] at h)) | (apply And.intro; focus (first | omega | (simp; done) | (simp +contextual; done) | (intros; and_intros <;> first | assumption | omega) | (intros; simp_all; done) | (intro hgd; refine ⟨hgd, ?_⟩; simp [hgd]; done) | (intro hgd; simp only [beq_eq_false_iff_ne, beq_iff_eq, decide_eq_true_eq, decide_eq_false_iff_not, bne_iff_ne, ne_eq, Bool.and_eq_true, Bool.or_eq_false_iff, Bool.or_eq_true, Bool.and_eq_false_iff] at hgd ⊢; omega))) | fail)
  first | refine newsE_U (hs) ?_ | refine newsE_T (hs) ?_ | refine newsE_of (hs) ?_
  rintro _ _ ⟨sb, rfl, rfl⟩
  repeat' (first | (simp (disch := first | omega | (simp only [List.length_cons, List.length_nil]; first | done | omega)) only [go_sem, Nat.reduceAdd, Nat.reduceMul, Nat.reduceSub, Nat.reduceEqDiff, Nat.reduceLeDiff, Nat.reduceMod, Nat.reduceLT, Int.reduceToNat, Int.reduceAdd, Int.reduceSub, Int.reduceMul, Int.reduceNeg, Int.reduceLE, Int.reduceLT, Int.toNat_natCast, Int.cast_ofNat_Int, Int.reduceNe, Int.reduceEq, Int.reduceBEq, Int.reduceBNe, not_false_eq_true, ne_eq, Int.reduceTMod, Int.reduceTDiv, beq_self_eq_true, bne_self_eq_false, List.contains_cons, List.contains_nil, Nat.reduceBEq]) | (refine allI (fun b => ?_)) | (refine allT (fun τ => ?_)) | (refine brP (fun h => ?_) (fun h => ?_) <;> (try simp only [Bool.and_eq_true, Bool.and_eq_false_iff, Bool.or_eq_true, Bool.or_eq_false_iff, Bool.not_eq_true', Bool.not_eq_false', decide_eq_true_eq, decide_eq_false_iff_not, beq_iff_eq, beq_eq_false_iff_ne, ne_eq, bne_iff_ne, Int.not_lt, Int.not_le] at h)) | refine call_U (h1) ?_ | refine callG_U (fun _ => h1) ?_ | refine call_T (h1) ?_ | refine callG_T (fun _ => h1) ?_ | refine call_N (h1) ?_ | refine call_of (h1) ?_ | refine callG_of (fun _ => h1) ?_ | (apply And.intro; focus (first | omega | (simp; done) | (simp +contextual; done) | (intros; and_intros <;> first | assumption | omega) | (intros; simp_all; done) | (intro hgd; refine ⟨hgd, ?_⟩; simp [hgd]; done) | (intro hgd; simp only [beq_eq_false_iff_ne, beq_iff_eq, decide_eq_true_eq, decide_eq_false_iff_not, bne_iff_ne, ne_eq, Bool.and_eq_true, Bool.or_eq_false_iff, Bool.or_eq_true, Bool.and_eq_false_iff] at hgd ⊢; omega))) | fail)
  rename_i b4
  refine loopI (ι := Nat × List De × List Bool × Int) (fun z => z.1 ≤ 24 ∧ OpS z.2.1 z.2.2.1 ∧ (0 ≤ z.2.2.2 ∧ z.2.2.2 ≤ 10 * z.1)) (fun z => [(6, .int .i64 z.1), (5, .ptr 5 b 0), (4, .ptr 4 b4 0), (3, .ptr 3000 sb 0)])
    (fun z => [(5, .blk b (z.2.2.1.map LV.bool)), (4, .blk b4 [.int .i64 2, .int .i64 1, .sl 14 1 ([pK z.2.1].flatMap PsC)]), (3000, SB sb l z.2.2.2)]) (fun z => 24 - z.1) (0, [], List.replicate 8 false, 0) ⟨by dsimp only; omega, ⟨rfl, by decide⟩, by dsimp only; omega⟩ (Ents.envH (by simp [go_sem]) rfl) ?_
  rintro ⟨i, f, os, n⟩ ⟨hi, ho, hb1⟩
  dsimp only at hi ho hb1 ⊢
  clear h1
  have hfl := ho.len
  have hos : (os.map LV.bool).length = 8 := by rw [List.length_map]; exact ho.1
  have hos' := ho.1
  simp (disch := first | omega | (simp only [List.length_cons, List.length_nil]; first | done | omega)) only [go_sem, Nat.reduceAdd, Nat.reduceMul, Nat.reduceSub, Nat.reduceEqDiff, Nat.reduceLeDiff, Nat.reduceMod, Nat.reduceLT, Int.reduceToNat, Int.reduceAdd, Int.reduceSub, Int.reduceMul, Int.reduceNeg, Int.reduceLE, Int.reduceLT, Int.toNat_natCast, Int.cast_ofNat_Int, Int.reduceNe, Int.reduceEq, Int.reduceBEq, Int.reduceBNe, not_false_eq_true, ne_eq, Int.reduceTMod, Int.reduceTDiv, beq_self_eq_true, bne_self_eq_false, List.contains_cons, List.contains_nil, Nat.reduceBEq]
  refine brP (fun hb => ?_) (fun hb => ?_)
  · have hlt : i < 24 := by simp only [decide_eq_true_eq] at hb; omega
    repeat' (first | (simp (disch := first | omega | (simp only [List.length_cons, List.length_nil]; first | done | omega)) only [go_sem, Nat.reduceAdd, Nat.reduceMul, Nat.reduceSub, Nat.reduceEqDiff, Nat.reduceLeDiff, Nat.reduceMod, Nat.reduceLT, Int.reduceToNat, Int.reduceAdd, Int.reduceSub, Int.reduceMul, Int.reduceNeg, Int.reduceLE, Int.reduceLT, Int.toNat_natCast, Int.cast_ofNat_Int, Int.reduceNe, Int.reduceEq, Int.reduceBEq, Int.reduceBNe, not_false_eq_true, ne_eq, Int.reduceTMod, Int.reduceTDiv, beq_self_eq_true, bne_self_eq_false, List.contains_cons, List.contains_nil, Nat.reduceBEq]) | (refine allI (fun b => ?_)) | (refine allT (fun τ => ?_)) | (refine brP (fun h => ?_) (fun h => ?_) <;> (try simp only [Bool.and_eq_true, Bool.and_eq_false_iff, Bool.or_eq_true, Bool.or_eq_false_iff, Bool.not_eq_true', Bool.not_eq_false', decide_eq_true_eq, decide_eq_false_iff_not, beq_iff_eq, beq_eq_false_iff_ne, ne_eq, bne_iff_ne, Int.not_lt, Int.not_le] at h)) | (apply And.intro; focus (first | omega | (simp; done) | (simp +contextual; done) | (intros; and_intros <;> first | assumption | omega) | (intros; simp_all; done) | (intro hgd; refine ⟨hgd, ?_⟩; simp [hgd]; done) | (intro hgd; simp only [beq_eq_false_iff_ne, beq_iff_eq, decide_eq_true_eq, decide_eq_false_iff_not, bne_iff_ne, ne_eq, Bool.and_eq_true, Bool.or_eq_false_iff, Bool.or_eq_true, Bool.and_eq_false_iff] at hgd ⊢; omega))) | fail)
    first | refine actsE_U (gn 3 (by omega) 3000 sb l n (hl.at (by omega) (by omega)) (by omega)) (by first | rfl | simp only [getH, if_true]) ?_ | refine actsE_T (gn 3 (by omega) 3000 sb l n (hl.at (by omega) (by omega)) (by omega)) (by first | rfl | simp only [getH, if_true]) ?_ | refine actsE_N (gn 3 (by omega) 3000 sb l n (hl.at (by omega) (by omega)) (by omega)) (by first | rfl | simp only [getH, if_true]) ?_ | refine actsE_of (gn 3 (by omega) 3000 sb l n (hl.at (by omega) (by omega)) (by omega)) (by first | rfl | simp only [getH, if_true]) ?_
    rintro _ _ ⟨a1, ha1, ⟨v1, hv1, rfl⟩, rfl⟩
    repeat' (first | (simp (disch := first | omega | (simp only [List.length_cons, List.length_nil]; first | done | omega)) only [go_sem, Nat.reduceAdd, Nat.reduceMul, Nat.reduceSub, Nat.reduceEqDiff, Nat.reduceLeDiff, Nat.reduceMod, Nat.reduceLT, Int.reduceToNat, Int.reduceAdd, Int.reduceSub, Int.reduceMul, Int.reduceNeg, Int.reduceLE, Int.reduceLT, Int.toNat_natCast, Int.cast_ofNat_Int, Int.reduceNe, Int.reduceEq, Int.reduceBEq, Int.reduceBNe, not_false_eq_true, ne_eq, Int.reduceTMod, Int.reduceTDiv, beq_self_eq_true, bne_self_eq_false, List.contains_cons, List.contains_nil, Nat.reduceBEq]) | (refine allI (fun b => ?_)) | (refine allT (fun τ => ?_)) | (refine brP (fun h => ?_) (fun h => ?_) <;> (try simp only [Bool.and_eq_true, Bool.and_eq_false_iff, Bool.or_eq_true, Bool.or_eq_false_iff, Bool.not_eq_true', Bool.not_eq_false', decide_eq_true_eq, decide_eq_false_iff_not, beq_iff_eq, beq_eq_false_iff_ne, ne_eq, bne_iff_ne, Int.not_lt, Int.not_le] at h)) | (apply And.intro; focus (first | omega | (simp; done) | (simp +contextual; done) | (intros; and_intros <;> first | assumption | omega) | (intros; simp_all; done) | (intro hgd; refine ⟨hgd, ?_⟩; simp [hgd]; done) | (intro hgd; simp only [beq_eq_false_iff_ne, beq_iff_eq, decide_eq_true_eq, decide_eq_false_iff_not, bne_iff_ne, ne_eq, Bool.and_eq_true, Bool.or_eq_false_iff, Bool.or_eq_true, Bool.and_eq_false_iff] at hgd ⊢; omega))) | fail)
    · first | refine actsE_U (gn 8 (by omega) 3000 sb l a1 (hl.at (by omega) (by omega)) (by omega)) (by first | rfl | simp only [getH, if_true]) ?_ | refine actsE_T (gn 8 (by omega) 3000 sb l a1 (hl.at (by omega) (by omega)) (by omega)) (by first | rfl | simp only [getH, if_true]) ?_ | refine actsE_N (gn 8 (by omega) 3000 sb l a1 (hl.at (by omega) (by omega)) (by omega)) (by first | rfl | simp only [getH, if_true]) ?_ | refine actsE_of (gn 8 (by omega) 3000 sb l a1 (hl.at (by omega) (by omega)) (by omega)) (by first | rfl | simp only [getH, if_true]) ?_
      rintro _ _ ⟨a2, ha2, ⟨v2, hv2, rfl⟩, rfl⟩
      obtain ⟨m, rfl⟩ : ∃ m : Nat, v2 = (m : Int) := ⟨v2.toNat, by omega⟩
      have q1 := cl (tK f) (pK f) rfl (by show f.length ≤ 1000; omega) m
      have hcl := ho.close (n := m) (by omega)
      have e1 : ((m : Int)).toNat = m := Int.toNat_natCast m
      have g1 := getB (os := os) (k := m) (by omega)
      have g2 := putB (os := os) (k := m) false (by omega)
      rw [clR_K] at q1
      cases hm : os.getD m false with
      | true =>
        obtain ⟨h2, h3⟩ := hcl.1 hm
        rw [if_neg (by omega), TbL_eq, TbL_eq] at q1
        rw [hm] at g1
        generalize f.eraseIdx (fdI f m).toNat = f' at *
        repeat' (first | (simp (disch := first | omega | (simp only [List.length_cons, List.length_nil]; first | done | omega)) only [go_sem, Nat.reduceAdd, Nat.reduceMul, Nat.reduceSub, Nat.reduceEqDiff, Nat.reduceLeDiff, Nat.reduceMod, Nat.reduceLT, Int.reduceToNat, Int.reduceAdd, Int.reduceSub, Int.reduceMul, Int.reduceNeg, Int.reduceLE, Int.reduceLT, Int.toNat_natCast, Int.cast_ofNat_Int, Int.reduceNe, Int.reduceEq, Int.reduceBEq, Int.reduceBNe, not_false_eq_true, ne_eq, Int.reduceTMod, Int.reduceTDiv, beq_self_eq_true, bne_self_eq_false, List.contains_cons, List.contains_nil, Nat.reduceBEq, e1, g1, g2, putC_eq, putC_len, Nat.mul_one]) | (refine allI (fun b => ?_)) | (refine allT (fun τ => ?_)) | (refine brP (fun h => ?_) (fun h => ?_) <;> (try simp only [Bool.and_eq_true, Bool.and_eq_false_iff, Bool.or_eq_true, Bool.or_eq_false_iff, Bool.not_eq_true', Bool.not_eq_false', decide_eq_true_eq, decide_eq_false_iff_not, beq_iff_eq, beq_eq_false_iff_ne, ne_eq, bne_iff_ne, Int.not_lt, Int.not_le] at h)) | refine call_U (q1) ?_ | refine callG_U (fun _ => q1) ?_ | refine call_T (q1) ?_ | refine callG_T (fun _ => q1) ?_ | refine call_N (q1) ?_ | refine call_of (q1) ?_ | refine callG_of (fun _ => q1) ?_ | (apply And.intro; focus (first | omega | (simp; done) | (simp +contextual; done) | (intros; and_intros <;> first | assumption | omega) | (intros; simp_all; done) | (intro hgd; refine ⟨hgd, ?_⟩; simp [hgd]; done) | (intro hgd; simp only [beq_eq_false_iff_ne, beq_iff_eq, decide_eq_true_eq, decide_eq_false_iff_not, bne_iff_ne, ne_eq, Bool.and_eq_true, Bool.or_eq_false_iff, Bool.or_eq_true, Bool.and_eq_false_iff] at hgd ⊢; omega))) | fail)
        refine ⟨⟨(i + 1, f', os.set m false, a2), by omega, h3, by dsimp only; omega⟩, by dsimp only; omega, Ents.sub (by simp [go_sem]) ⟨_, ?_, List.Perm.refl _⟩⟩
        repeat (first | exact List.Sublist.refl _ | apply List.Sublist.cons)
      | false =>
        have h2 := hcl.2 hm
        rw [if_pos h2, TbL_eq, TbL_eq] at q1
        rw [hm] at g1
        repeat' (first | (simp (disch := first | omega | (simp only [List.length_cons, List.length_nil]; first | done | omega)) only [go_sem, Nat.reduceAdd, Nat.reduceMul, Nat.reduceSub, Nat.reduceEqDiff, Nat.reduceLeDiff, Nat.reduceMod, Nat.reduceLT, Int.reduceToNat, Int.reduceAdd, Int.reduceSub, Int.reduceMul, Int.reduceNeg, Int.reduceLE, Int.reduceLT, Int.toNat_natCast, Int.cast_ofNat_Int, Int.reduceNe, Int.reduceEq, Int.reduceBEq, Int.reduceBNe, not_false_eq_true, ne_eq, Int.reduceTMod, Int.reduceTDiv, beq_self_eq_true, bne_self_eq_false, List.contains_cons, List.contains_nil, Nat.reduceBEq, e1, g1, g2, putC_eq, putC_len, Nat.mul_one]) | (refine allI (fun b => ?_)) | (refine allT (fun τ => ?_)) | (refine brP (fun h => ?_) (fun h => ?_) <;> (try simp only [Bool.and_eq_true, Bool.and_eq_false_iff, Bool.or_eq_true, Bool.or_eq_false_iff, Bool.not_eq_true', Bool.not_eq_false', decide_eq_true_eq, decide_eq_false_iff_not, beq_iff_eq, beq_eq_false_iff_ne, ne_eq, bne_iff_ne, Int.not_lt, Int.not_le] at h)) | refine call_U (q1) ?_ | refine callG_U (fun _ => q1) ?_ | refine call_T (q1) ?_ | refine callG_T (fun _ => q1) ?_ | refine call_N (q1) ?_ | refine call_of (q1) ?_ | refine callG_of (fun _ => q1) ?_ | (apply And.intro; focus (first | omega | (simp; done) | (simp +contextual; done) | (intros; and_intros <;> first | assumption | omega) | (intros; simp_all; done) | (intro hgd; refine ⟨hgd, ?_⟩; simp [hgd]; done) | (intro hgd; simp only [beq_eq_false_iff_ne, beq_iff_eq, decide_eq_true_eq, decide_eq_false_iff_not, bne_iff_ne, ne_eq, Bool.and_eq_true, Bool.or_eq_false_iff, Bool.or_eq_true, Bool.and_eq_false_iff] at hgd ⊢; omega))) | fail)
        refine ⟨⟨(i + 1, f, os, a2), by omega, ho, by dsimp only; omega⟩, by dsimp only; omega, Ents.sub (by simp [go_sem]) ⟨_, ?_, List.Perm.refl _⟩⟩
        repeat (first | exact List.Sublist.refl _ | apply List.Sublist.cons)
    · refine loopI (ι := Nat) (fun k => k ≤ 8 ∧ frA os 0 = frA (os.drop k) k) (fun k => [(10, .int .i64 k), (6, .int .i64 i), (5, .ptr 5 b 0), (4, .ptr 4 b4 0), (3, .ptr 3000 sb 0)])
        (fun k => [(5, .blk b (os.map LV.bool)), (4, .blk b4 [.int .i64 2, .int .i64 1, .sl 14 1 ([pK f].flatMap PsC)]), (3000, SB sb l a1)]) (fun k => 8 - k) 0 ⟨by omega, by simp⟩ (Ents.envH (by simp [go_sem]) rfl) ?_
      rintro k ⟨hk, hfr⟩
      have fin : k = frA os 0 → True := fun _ => trivial
      rcases Nat.lt_or_ge k 8 with hk8 | hk8
      · have d1 : decide ((k : Int) < 8) = true := by simp; omega
        have e1 : ((k : Int)).toNat = k := Int.toNat_natCast k
        have g1 := getB (os := os) (k := k) (by omega)
        have hst := frA_step (l := os) (k := k) (by omega)
        generalize os.getD k false = ob at *
        have g2 := putB (os := os) (k := k) true (by omega)
        repeat' (first | (simp (disch := first | omega | (simp only [List.length_cons, List.length_nil]; first | done | omega)) only [go_sem, Nat.reduceAdd, Nat.reduceMul, Nat.reduceSub, Nat.reduceEqDiff, Nat.reduceLeDiff, Nat.reduceMod, Nat.reduceLT, Int.reduceToNat, Int.reduceAdd, Int.reduceSub, Int.reduceMul, Int.reduceNeg, Int.reduceLE, Int.reduceLT, Int.toNat_natCast, Int.cast_ofNat_Int, Int.reduceNe, Int.reduceEq, Int.reduceBEq, Int.reduceBNe, not_false_eq_true, ne_eq, Int.reduceTMod, Int.reduceTDiv, beq_self_eq_true, bne_self_eq_false, List.contains_cons, List.contains_nil, Nat.reduceBEq, d1, e1, g1, Nat.mul_one]) | (refine allI (fun b => ?_)) | (refine allT (fun τ => ?_)) | (refine brP (fun h => ?_) (fun h => ?_) <;> (try simp only [Bool.and_eq_true, Bool.and_eq_false_iff, Bool.or_eq_true, Bool.or_eq_false_iff, Bool.not_eq_true', Bool.not_eq_false', decide_eq_true_eq, decide_eq_false_iff_not, beq_iff_eq, beq_eq_false_iff_ne, ne_eq, bne_iff_ne, Int.not_lt, Int.not_le] at h)) | (apply And.intro; focus (first | omega | (simp; done) | (simp +contextual; done) | (intros; and_intros <;> first | assumption | omega) | (intros; simp_all; done) | (intro hgd; refine ⟨hgd, ?_⟩; simp [hgd]; done) | (intro hgd; simp only [beq_eq_false_iff_ne, beq_iff_eq, decide_eq_true_eq, decide_eq_false_iff_not, bne_iff_ne, ne_eq, Bool.and_eq_true, Bool.or_eq_false_iff, Bool.or_eq_true, Bool.and_eq_false_iff] at hgd ⊢; omega))) | fail)
        · exact ⟨⟨k + 1, by omega, by rw [hfr, hst, if_pos h]⟩, by dsimp only; omega, Ents.envH (by simp [go_sem]) rfl⟩
        · have hz : frA os 0 = k := by rw [hfr, hst, if_neg (by rw [h]; simp)]
          obtain ⟨o1, o2, o3⟩ := ho.openN.1 (by omega)
          rw [hz] at o2 o3
          have q2 := op (tK f) (pK f) rfl (by show f.length ≤ 1000; omega) 0 1 1
          have hK : opK (pK f) = k := by
            show (if 8 ≤ f.length then 0 else lfA f 0) = k
            rw [if_neg (by omega), o2]
          have h3 := o3 0 1 1
          rw [opR_K, if_neg (by omega), hK, o2, TbL_eq, TbL_eq] at q2
          simp only [if_true] at q2
          generalize (f.take k ++ (⟨k, 0, 1, 1⟩ : De) :: f.drop k) = f' at *
          repeat' (first | (simp (disch := first | omega | (simp only [List.length_cons, List.length_nil]; first | done | omega)) only [go_sem, Nat.reduceAdd, Nat.reduceMul, Nat.reduceSub, Nat.reduceEqDiff, Nat.reduceLeDiff, Nat.reduceMod, Nat.reduceLT, Int.reduceToNat, Int.reduceAdd, Int.reduceSub, Int.reduceMul, Int.reduceNeg, Int.reduceLE, Int.reduceLT, Int.toNat_natCast, Int.cast_ofNat_Int, Int.reduceNe, Int.reduceEq, Int.reduceBEq, Int.reduceBNe, not_false_eq_true, ne_eq, Int.reduceTMod, Int.reduceTDiv, beq_self_eq_true, bne_self_eq_false, List.contains_cons, List.contains_nil, Nat.reduceBEq, e1, g2, putC_eq, putC_len, Nat.mul_one]) | (refine allI (fun b => ?_)) | (refine allT (fun τ => ?_)) | (refine brP (fun h => ?_) (fun h => ?_) <;> (try simp only [Bool.and_eq_true, Bool.and_eq_false_iff, Bool.or_eq_true, Bool.or_eq_false_iff, Bool.not_eq_true', Bool.not_eq_false', decide_eq_true_eq, decide_eq_false_iff_not, beq_iff_eq, beq_eq_false_iff_ne, ne_eq, bne_iff_ne, Int.not_lt, Int.not_le] at h)) | refine call_U (q2) ?_ | refine callG_U (fun _ => q2) ?_ | refine call_T (q2) ?_ | refine callG_T (fun _ => q2) ?_ | refine call_N (q2) ?_ | refine call_of (q2) ?_ | refine callG_of (fun _ => q2) ?_ | (apply And.intro; focus (first | omega | (simp; done) | (simp +contextual; done) | (intros; and_intros <;> first | assumption | omega) | (intros; simp_all; done) | (intro hgd; refine ⟨hgd, ?_⟩; simp [hgd]; done) | (intro hgd; simp only [beq_eq_false_iff_ne, beq_iff_eq, decide_eq_true_eq, decide_eq_false_iff_not, bne_iff_ne, ne_eq, Bool.and_eq_true, Bool.or_eq_false_iff, Bool.or_eq_true, Bool.and_eq_false_iff] at hgd ⊢; omega))) | fail)
          · omega
          refine ⟨⟨(i + 1, f', os.set k true, a1), by omega, h3, by dsimp only; omega⟩, by dsimp only; omega, Ents.sub (by simp [go_sem]) ⟨_, ?_, List.Perm.refl _⟩⟩
          repeat (first | exact List.Sublist.refl _ | apply List.Sublist.cons)
      · obtain rfl : k = 8 := by omega
        have g1 : (os.map LV.bool).getD 8 .any = .any := by rw [List.getD_eq_getElem?_getD, List.getElem?_eq_none (by omega)]; rfl
        have hz : ¬ frA os 0 < 8 := by
          rw [hfr]
          have := (frA_le (os.drop 8) 8).1
          omega
        have o1 := ho.openN.2 hz
        have q2 := op (tK f) (pK f) rfl (by show f.length ≤ 1000; omega) 0 1 1
        rw [opR_K, if_pos o1, TbL_eq, TbL_eq] at q2
        simp only [show ¬ (24 : Int) = 0 by decide, if_false] at q2
        repeat' (first | (simp (disch := first | omega | (simp only [List.length_cons, List.length_nil]; first | done | omega)) only [go_sem, Nat.reduceAdd, Nat.reduceMul, Nat.reduceSub, Nat.reduceEqDiff, Nat.reduceLeDiff, Nat.reduceMod, Nat.reduceLT, Int.reduceToNat, Int.reduceAdd, Int.reduceSub, Int.reduceMul, Int.reduceNeg, Int.reduceLE, Int.reduceLT, Int.toNat_natCast, Int.cast_ofNat_Int, Int.reduceNe, Int.reduceEq, Int.reduceBEq, Int.reduceBNe, not_false_eq_true, ne_eq, Int.reduceTMod, Int.reduceTDiv, beq_self_eq_true, bne_self_eq_false, List.contains_cons, List.contains_nil, Nat.reduceBEq, g1, Nat.mul_one, bin_anyL, pick_0a0]) | (refine allI (fun b => ?_)) | (refine allT (fun τ => ?_)) | (refine brP (fun h => ?_) (fun h => ?_) <;> (try simp only [Bool.and_eq_true, Bool.and_eq_false_iff, Bool.or_eq_true, Bool.or_eq_false_iff, Bool.not_eq_true', Bool.not_eq_false', decide_eq_true_eq, decide_eq_false_iff_not, beq_iff_eq, beq_eq_false_iff_ne, ne_eq, bne_iff_ne, Int.not_lt, Int.not_le] at h)) | refine call_U (q2) ?_ | refine callG_U (fun _ => q2) ?_ | refine call_T (q2) ?_ | refine callG_T (fun _ => q2) ?_ | refine call_N (q2) ?_ | refine call_of (q2) ?_ | refine callG_of (fun _ => q2) ?_ | (apply And.intro; focus (first | omega | (simp; done) | (simp +contextual; done) | (intros; and_intros <;> first | assumption | omega) | (intros; simp_all; done) | (intro hgd; refine ⟨hgd, ?_⟩; simp [hgd]; done) | (intro hgd; simp only [beq_eq_false_iff_ne, beq_iff_eq, decide_eq_true_eq, decide_eq_false_iff_not, bne_iff_ne, ne_eq, Bool.and_eq_true, Bool.or_eq_false_iff, Bool.or_eq_true, Bool.and_eq_false_iff] at hgd ⊢; omega))) | fail)
        refine ⟨⟨(i + 1, f, os, a1), by omega, ho, by dsimp only; omega⟩, by dsimp only; omega, Ents.sub (by simp [go_sem]) ⟨_, ?_, List.Perm.refl _⟩⟩
        repeat (first | exact List.Sublist.refl _ | apply List.Sublist.cons)
  · repeat' (first | (simp (disch := first | omega | (simp only [List.length_cons, List.length_nil]; first | done | omega)) only [go_sem, Nat.reduceAdd, Nat.reduceMul, Nat.reduceSub, Nat.reduceEqDiff, Nat.reduceLeDiff, Nat.reduceMod, Nat.reduceLT, Int.reduceToNat, Int.reduceAdd, Int.reduceSub, Int.reduceMul, Int.reduceNeg, Int.reduceLE, Int.reduceLT, Int.toNat_natCast, Int.cast_ofNat_Int, Int.reduceNe, Int.reduceEq, Int.reduceBEq, Int.reduceBNe, not_false_eq_true, ne_eq, Int.reduceTMod, Int.reduceTDiv, beq_self_eq_true, bne_self_eq_false, List.contains_cons, List.contains_nil, Nat.reduceBEq]) | (refine allI (fun b => ?_)) | (refine allT (fun τ => ?_)) | (refine brP (fun h => ?_) (fun h => ?_) <;> (try simp only [Bool.and_eq_true, Bool.and_eq_false_iff, Bool.or_eq_true, Bool.or_eq_false_iff, Bool.not_eq_true', Bool.not_eq_false', decide_eq_true_eq, decide_eq_false_iff_not, beq_iff_eq, beq_eq_false_iff_ne, ne_eq, bne_iff_ne, Int.not_lt, Int.not_le] at h)) | refine call_U (awake) ?_ | refine callG_U (fun _ => awake) ?_ | refine call_T (awake) ?_ | refine callG_T (fun _ => awake) ?_ | refine call_N (awake) ?_ | refine call_of (awake) ?_ | refine callG_of (fun _ => awake) ?_ | (apply And.intro; focus (first | omega | (simp; done) | (simp +contextual; done) | (intros; and_intros <;> first | assumption | omega) | (intros; simp_all; done) | (intro hgd; refine ⟨hgd, ?_⟩; simp [hgd]; done) | (intro hgd; simp only [beq_eq_false_iff_ne, beq_iff_eq, decide_eq_true_eq, decide_eq_false_iff_not, bne_iff_ne, ne_eq, Bool.and_eq_true, Bool.or_eq_false_iff, Bool.or_eq_true, Bool.and_eq_false_iff] at hgd ⊢; omega))) | fail)
end Go.Proofs.Ytkdblnejpmbnfaa
