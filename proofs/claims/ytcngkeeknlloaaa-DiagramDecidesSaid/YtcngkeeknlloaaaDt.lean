/- Layer 16: the law of the decisions. -/
import Derived.Test.YtcngkeeknlloaaaDs
import Derived.Test.YtcngkeeknlloaaaDq
import Derived.Test.YtcngkeeknlloaaaCl7
namespace Go.Proofs.Ytcngkeeknlloaaa
open Go Go.Lx
set_option linter.unusedSimpArgs false
set_option linter.unusedVariables false
set_option maxRecDepth 100000
set_option maxHeartbeats 4000000

theorem decL (l : List Int) (hl : okS l 0) : Pure Try.prog gl 7 [Ms l] (.bool true) := by
  refine fn_pureT Try.func7 t7 Try.ntmps7 (by simp) ?_
  have hnw := new_ l
  unfold c7 r7
  unfold Ms at *
  simp (disch := first | omega | (simp only [List.length_cons, List.length_nil]; first | done | omega)) only [go_sem, Nat.reduceAdd, Nat.reduceMul, Nat.reduceSub, Nat.reduceEqDiff, Nat.reduceLeDiff, Nat.reduceMod, Nat.reduceLT, Int.reduceToNat, Int.reduceAdd, Int.reduceSub, Int.reduceMul, Int.reduceNeg, Int.reduceLE, Int.reduceLT, Int.toNat_natCast, Int.cast_ofNat_Int, Int.reduceNe, Int.reduceEq, Int.reduceBEq, Int.reduceBNe, not_false_eq_true, ne_eq, Int.reduceTMod, Int.reduceTDiv, beq_self_eq_true, bne_self_eq_false, List.contains_cons, List.contains_nil, Nat.reduceBEq]
  first | refine newsE_U (hnw) ?_ | refine newsE_T (hnw) ?_ | refine newsE_of (hnw) ?_
  rintro _ _ ⟨b, rfl, rfl⟩
  simp (disch := first | omega | (simp only [List.length_cons, List.length_nil]; first | done | omega)) only [go_sem, Nat.reduceAdd, Nat.reduceMul, Nat.reduceSub, Nat.reduceEqDiff, Nat.reduceLeDiff, Nat.reduceMod, Nat.reduceLT, Int.reduceToNat, Int.reduceAdd, Int.reduceSub, Int.reduceMul, Int.reduceNeg, Int.reduceLE, Int.reduceLT, Int.toNat_natCast, Int.cast_ofNat_Int, Int.reduceNe, Int.reduceEq, Int.reduceBEq, Int.reduceBNe, not_false_eq_true, ne_eq, Int.reduceTMod, Int.reduceTDiv, beq_self_eq_true, bne_self_eq_false, List.contains_cons, List.contains_nil, Nat.reduceBEq]
  first | refine actsE_U (few 5 (by omega) 3000 b l 0 hl (by omega)) (by first | rfl | simp only [getH, if_true]) ?_ | refine actsE_T (few 5 (by omega) 3000 b l 0 hl (by omega)) (by first | rfl | simp only [getH, if_true]) ?_ | refine actsE_N (few 5 (by omega) 3000 b l 0 hl (by omega)) (by first | rfl | simp only [getH, if_true]) ?_ | refine actsE_of (few 5 (by omega) 3000 b l 0 hl (by omega)) (by first | rfl | simp only [getH, if_true]) ?_
  rintro _ _ ⟨a', ha', ⟨rs, wh, ⟨h1, h2⟩, h3, rfl⟩, rfl⟩
  have hs : SmR rs wh := ⟨by omega, by omega, fun r hr => by have := h2 r hr; omega⟩
  have hb := buildP rs wh hs
  have ha := ratoms rs wh hs.ll hs.lw hs.lr
  have hlr := len_rl rs
  have hen := @dgR_err rs wh
  have hok := @dgR_ok rs wh
  have hwk : (atomsR rs wh).2 = 0 → WhOk rs wh (atomsR rs wh).1 := fun h => atomsR_ok hs (by rw [← h])
  have hal := atomsR_len hs
  by_cases he : (atomsR rs wh).2 = 0
  · have hw := hwk he
    rw [hok he] at hb
    rw [he] at ha
    rw [leaf_ch'] at hb
    generalize (atomsR rs wh).1 = tb at *
    cases hR : bld (chS rs wh tb) tb.length 0 0 [] with
    | mk r ns =>
      rw [hR] at hb
      obtain ⟨f1, f2, f3, f4, f5, f6, f7, f8, f9, f10⟩ := built hw ns r hR
      have hrw : (Lit.int .i64 r).wf = true := wf_sm ⟨by omega, by omega⟩
      rw [DgC_eq] at hb
      rw [AtS_eq] at ha
      rw [RlS_eq, WhS_eq] at *
      dsimp only at hb
      have hp := pow12 hal
      have hle := len_at tb
      have s1 := shl_one (k := tb.length) (by omega)
      have d2 : ((tb.length : Int) != (tb.length : Int)) = false := by simp
      repeat' (first | (simp (disch := first | omega | (simp only [List.length_cons, List.length_nil]; first | done | omega)) only [go_sem, Nat.reduceAdd, Nat.reduceMul, Nat.reduceSub, Nat.reduceEqDiff, Nat.reduceLeDiff, Nat.reduceMod, Nat.reduceLT, Int.reduceToNat, Int.reduceAdd, Int.reduceSub, Int.reduceMul, Int.reduceNeg, Int.reduceLE, Int.reduceLT, Int.toNat_natCast, Int.cast_ofNat_Int, Int.reduceNe, Int.reduceEq, Int.reduceBEq, Int.reduceBNe, not_false_eq_true, ne_eq, Int.reduceTMod, Int.reduceTDiv, beq_self_eq_true, bne_self_eq_false, List.contains_cons, List.contains_nil, Nat.reduceBEq, d2]) | (refine allI (fun b => ?_)) | (refine allT (fun τ => ?_)) | (refine brP (fun h => ?_) (fun h => ?_) <;> (try simp only [Bool.and_eq_true, Bool.and_eq_false_iff, Bool.or_eq_true, Bool.or_eq_false_iff, Bool.not_eq_true', Bool.not_eq_false', decide_eq_true_eq, decide_eq_false_iff_not, beq_iff_eq, beq_eq_false_iff_ne, ne_eq, bne_iff_ne, Int.not_lt, Int.not_le] at h)) | refine call_U (hb) ?_ | refine callG_U (fun _ => hb) ?_ | refine call_T (hb) ?_ | refine callG_T (fun _ => hb) ?_ | refine call_U (ha) ?_ | refine callG_U (fun _ => ha) ?_ | refine call_T (ha) ?_ | refine callG_T (fun _ => ha) ?_ | refine call_N (hb) ?_ | refine call_of (hb) ?_ | refine callG_of (fun _ => hb) ?_ | refine call_N (ha) ?_ | refine call_of (ha) ?_ | refine callG_of (fun _ => ha) ?_ | (apply And.intro; focus (first | omega | (simp; done) | (simp +contextual; done) | (intros; and_intros <;> first | assumption | omega) | (intros; simp_all; done) | (intro hgd; refine ⟨hgd, ?_⟩; simp [hgd]; done) | (intro hgd; simp only [beq_eq_false_iff_ne, beq_iff_eq, decide_eq_true_eq, decide_eq_false_iff_not, bne_iff_ne, ne_eq, Bool.and_eq_true, Bool.or_eq_false_iff, Bool.or_eq_true, Bool.and_eq_false_iff] at hgd ⊢; omega))) | fail)
      refine loopI (ι := Nat) (fun K => K ≤ 2 ^ tb.length) (fun K => [(10, .int .i64 K), (8, .sl 8 tb.length (tb.flatMap AtC)), (6, .ptr 6 b 0), (5, .sl 1 wh.length (wh.map (LV.int .i64))), (4, .sl 8 rs.length (rs.flatMap RlC))]) (fun _ => [(6, .blk b [.sl 8 tb.length (tb.flatMap AtC), .sl 3 ns.length (ns.flatMap BrC), .int .i64 r])]) (fun K => 2 ^ tb.length - K) 0 (Nat.zero_le _) (Ents.sub (by simp [go_sem]) ⟨_, List.Sublist.cons_cons _ (List.Sublist.cons _ List.Sublist.slnil), List.Perm.refl _⟩) ?_
      intro K hK
      simp (disch := first | omega | (simp only [List.length_cons, List.length_nil]; first | done | omega)) only [go_sem, Nat.reduceAdd, Nat.reduceMul, Nat.reduceSub, Nat.reduceEqDiff, Nat.reduceLeDiff, Nat.reduceMod, Nat.reduceLT, Int.reduceToNat, Int.reduceAdd, Int.reduceSub, Int.reduceMul, Int.reduceNeg, Int.reduceLE, Int.reduceLT, Int.toNat_natCast, Int.cast_ofNat_Int, Int.reduceNe, Int.reduceEq, Int.reduceBEq, Int.reduceBNe, not_false_eq_true, ne_eq, Int.reduceTMod, Int.reduceTDiv, beq_self_eq_true, bne_self_eq_false, List.contains_cons, List.contains_nil, Nat.reduceBEq, s1]
      refine ⟨by omega, ?_⟩
      refine brP (fun hb1 => ?_) (fun hb1 => ?_)
      · have hlt : K < 2 ^ tb.length := by simp only [decide_eq_true_eq] at hb1; omega
        have hch := choose rs wh tb K hw (by omega)
        have hbo := bools tb.length K (by omega) (by omega)
        have hde := decide_ ⟨tb, ns, r⟩ (bitsL tb.length K) (by dsimp only; omega) (by dsimp only; omega) (fun b hb => (f5 b hb).w) hrw (by simp [bitsL]; omega)
        rw [decides hw ns r hR K hlt] at hde
        have hcb := chS_bd hw K
        generalize chS rs wh tb K = c at *
        rw [RlS_eq, WhS_eq, AtS_eq] at hch
        rw [DgC_eq, BlS_eq] at hde
        by_cases hc : c < -1
        · rw [if_pos hc] at hde
          have d5 : decide (c < -1) = true := by simp [hc]
          have d6 : (-2 - c != -2 - c) = false := by simp
          repeat' (first | (simp (disch := first | omega | (simp only [List.length_cons, List.length_nil]; first | done | omega)) only [go_sem, Nat.reduceAdd, Nat.reduceMul, Nat.reduceSub, Nat.reduceEqDiff, Nat.reduceLeDiff, Nat.reduceMod, Nat.reduceLT, Int.reduceToNat, Int.reduceAdd, Int.reduceSub, Int.reduceMul, Int.reduceNeg, Int.reduceLE, Int.reduceLT, Int.toNat_natCast, Int.cast_ofNat_Int, Int.reduceNe, Int.reduceEq, Int.reduceBEq, Int.reduceBNe, not_false_eq_true, ne_eq, Int.reduceTMod, Int.reduceTDiv, beq_self_eq_true, bne_self_eq_false, List.contains_cons, List.contains_nil, Nat.reduceBEq, d5, d6]) | (refine allI (fun b => ?_)) | (refine allT (fun τ => ?_)) | (refine brP (fun h => ?_) (fun h => ?_) <;> (try simp only [Bool.and_eq_true, Bool.and_eq_false_iff, Bool.or_eq_true, Bool.or_eq_false_iff, Bool.not_eq_true', Bool.not_eq_false', decide_eq_true_eq, decide_eq_false_iff_not, beq_iff_eq, beq_eq_false_iff_ne, ne_eq, bne_iff_ne, Int.not_lt, Int.not_le] at h)) | refine call_U (hch) ?_ | refine callG_U (fun _ => hch) ?_ | refine call_T (hch) ?_ | refine callG_T (fun _ => hch) ?_ | refine call_U (hbo) ?_ | refine callG_U (fun _ => hbo) ?_ | refine call_T (hbo) ?_ | refine callG_T (fun _ => hbo) ?_ | refine call_U (hde) ?_ | refine callG_U (fun _ => hde) ?_ | refine call_T (hde) ?_ | refine callG_T (fun _ => hde) ?_ | refine call_N (hch) ?_ | refine call_of (hch) ?_ | refine callG_of (fun _ => hch) ?_ | refine call_N (hbo) ?_ | refine call_of (hbo) ?_ | refine callG_of (fun _ => hbo) ?_ | refine call_N (hde) ?_ | refine call_of (hde) ?_ | refine callG_of (fun _ => hde) ?_ | (apply And.intro; focus (first | omega | (simp; done) | (simp +contextual; done) | (intros; and_intros <;> first | assumption | omega) | (intros; simp_all; done) | (intro hgd; refine ⟨hgd, ?_⟩; simp [hgd]; done) | (intro hgd; simp only [beq_eq_false_iff_ne, beq_iff_eq, decide_eq_true_eq, decide_eq_false_iff_not, bne_iff_ne, ne_eq, Bool.and_eq_true, Bool.or_eq_false_iff, Bool.or_eq_true, Bool.and_eq_false_iff] at hgd ⊢; omega))) | fail)
          exact ⟨⟨K + 1, by omega⟩, by dsimp only; omega, Ents.envH (by simp [go_sem]) rfl⟩
        · rw [if_neg hc] at hde
          have d5 : decide (c < -1) = false := by simp; omega
          have d6 : (c != c) = false := by simp
          repeat' (first | (simp (disch := first | omega | (simp only [List.length_cons, List.length_nil]; first | done | omega)) only [go_sem, Nat.reduceAdd, Nat.reduceMul, Nat.reduceSub, Nat.reduceEqDiff, Nat.reduceLeDiff, Nat.reduceMod, Nat.reduceLT, Int.reduceToNat, Int.reduceAdd, Int.reduceSub, Int.reduceMul, Int.reduceNeg, Int.reduceLE, Int.reduceLT, Int.toNat_natCast, Int.cast_ofNat_Int, Int.reduceNe, Int.reduceEq, Int.reduceBEq, Int.reduceBNe, not_false_eq_true, ne_eq, Int.reduceTMod, Int.reduceTDiv, beq_self_eq_true, bne_self_eq_false, List.contains_cons, List.contains_nil, Nat.reduceBEq, d5, d6]) | (refine allI (fun b => ?_)) | (refine allT (fun τ => ?_)) | (refine brP (fun h => ?_) (fun h => ?_) <;> (try simp only [Bool.and_eq_true, Bool.and_eq_false_iff, Bool.or_eq_true, Bool.or_eq_false_iff, Bool.not_eq_true', Bool.not_eq_false', decide_eq_true_eq, decide_eq_false_iff_not, beq_iff_eq, beq_eq_false_iff_ne, ne_eq, bne_iff_ne, Int.not_lt, Int.not_le] at h)) | refine call_U (hch) ?_ | refine callG_U (fun _ => hch) ?_ | refine call_T (hch) ?_ | refine callG_T (fun _ => hch) ?_ | refine call_U (hbo) ?_ | refine callG_U (fun _ => hbo) ?_ | refine call_T (hbo) ?_ | refine callG_T (fun _ => hbo) ?_ | refine call_U (hde) ?_ | refine callG_U (fun _ => hde) ?_ | refine call_T (hde) ?_ | refine callG_T (fun _ => hde) ?_ | refine call_N (hch) ?_ | refine call_of (hch) ?_ | refine callG_of (fun _ => hch) ?_ | refine call_N (hbo) ?_ | refine call_of (hbo) ?_ | refine callG_of (fun _ => hbo) ?_ | refine call_N (hde) ?_ | refine call_of (hde) ?_ | refine callG_of (fun _ => hde) ?_ | (apply And.intro; focus (first | omega | (simp; done) | (simp +contextual; done) | (intros; and_intros <;> first | assumption | omega) | (intros; simp_all; done) | (intro hgd; refine ⟨hgd, ?_⟩; simp [hgd]; done) | (intro hgd; simp only [beq_eq_false_iff_ne, beq_iff_eq, decide_eq_true_eq, decide_eq_false_iff_not, bne_iff_ne, ne_eq, Bool.and_eq_true, Bool.or_eq_false_iff, Bool.or_eq_true, Bool.and_eq_false_iff] at hgd ⊢; omega))) | fail)
          exact ⟨⟨K + 1, by omega⟩, by dsimp only; omega, Ents.envH (by simp [go_sem]) rfl⟩
      · repeat' (first | (simp (disch := first | omega | (simp only [List.length_cons, List.length_nil]; first | done | omega)) only [go_sem, Nat.reduceAdd, Nat.reduceMul, Nat.reduceSub, Nat.reduceEqDiff, Nat.reduceLeDiff, Nat.reduceMod, Nat.reduceLT, Int.reduceToNat, Int.reduceAdd, Int.reduceSub, Int.reduceMul, Int.reduceNeg, Int.reduceLE, Int.reduceLT, Int.toNat_natCast, Int.cast_ofNat_Int, Int.reduceNe, Int.reduceEq, Int.reduceBEq, Int.reduceBNe, not_false_eq_true, ne_eq, Int.reduceTMod, Int.reduceTDiv, beq_self_eq_true, bne_self_eq_false, List.contains_cons, List.contains_nil, Nat.reduceBEq]) | (refine allI (fun b => ?_)) | (refine allT (fun τ => ?_)) | (refine brP (fun h => ?_) (fun h => ?_) <;> (try simp only [Bool.and_eq_true, Bool.and_eq_false_iff, Bool.or_eq_true, Bool.or_eq_false_iff, Bool.not_eq_true', Bool.not_eq_false', decide_eq_true_eq, decide_eq_false_iff_not, beq_iff_eq, beq_eq_false_iff_ne, ne_eq, bne_iff_ne, Int.not_lt, Int.not_le] at h)) | refine call_U (awake) ?_ | refine callG_U (fun _ => awake) ?_ | refine call_T (awake) ?_ | refine callG_T (fun _ => awake) ?_ | refine call_N (awake) ?_ | refine call_of (awake) ?_ | refine callG_of (fun _ => awake) ?_ | (apply And.intro; focus (first | omega | (simp; done) | (simp +contextual; done) | (intros; and_intros <;> first | assumption | omega) | (intros; simp_all; done) | (intro hgd; refine ⟨hgd, ?_⟩; simp [hgd]; done) | (intro hgd; simp only [beq_eq_false_iff_ne, beq_iff_eq, decide_eq_true_eq, decide_eq_false_iff_not, bne_iff_ne, ne_eq, Bool.and_eq_true, Bool.or_eq_false_iff, Bool.or_eq_true, Bool.and_eq_false_iff] at hgd ⊢; omega))) | fail)
  · rw [hen he, DgC_eq] at hb
    rw [AtS_eq] at ha
    rw [RlS_eq, WhS_eq] at *
    generalize (atomsR rs wh).2 = e at *
    generalize (atomsR rs wh).1 = tb at *
    have d1 : (e != e) = false := by simp
    have d3 : (e == e) = true := by simp
    have d2 : (e != 0) = true := by simp [he]
    dsimp only at hb
    repeat' (first | (simp (disch := first | omega | (simp only [List.length_cons, List.length_nil]; first | done | omega)) only [go_sem, Nat.reduceAdd, Nat.reduceMul, Nat.reduceSub, Nat.reduceEqDiff, Nat.reduceLeDiff, Nat.reduceMod, Nat.reduceLT, Int.reduceToNat, Int.reduceAdd, Int.reduceSub, Int.reduceMul, Int.reduceNeg, Int.reduceLE, Int.reduceLT, Int.toNat_natCast, Int.cast_ofNat_Int, Int.reduceNe, Int.reduceEq, Int.reduceBEq, Int.reduceBNe, not_false_eq_true, ne_eq, Int.reduceTMod, Int.reduceTDiv, beq_self_eq_true, bne_self_eq_false, List.contains_cons, List.contains_nil, Nat.reduceBEq, d1, d2, d3]) | (refine allI (fun b => ?_)) | (refine allT (fun τ => ?_)) | (refine brP (fun h => ?_) (fun h => ?_) <;> (try simp only [Bool.and_eq_true, Bool.and_eq_false_iff, Bool.or_eq_true, Bool.or_eq_false_iff, Bool.not_eq_true', Bool.not_eq_false', decide_eq_true_eq, decide_eq_false_iff_not, beq_iff_eq, beq_eq_false_iff_ne, ne_eq, bne_iff_ne, Int.not_lt, Int.not_le] at h)) | refine call_U (hb) ?_ | refine callG_U (fun _ => hb) ?_ | refine call_T (hb) ?_ | refine callG_T (fun _ => hb) ?_ | refine call_U (ha) ?_ | refine callG_U (fun _ => ha) ?_ | refine call_T (ha) ?_ | refine callG_T (fun _ => ha) ?_ | refine call_U (awake) ?_ | refine callG_U (fun _ => awake) ?_ | refine call_T (awake) ?_ | refine callG_T (fun _ => awake) ?_ | refine call_N (hb) ?_ | refine call_of (hb) ?_ | refine callG_of (fun _ => hb) ?_ | refine call_N (ha) ?_ | refine call_of (ha) ?_ | refine callG_of (fun _ => ha) ?_ | refine call_N (awake) ?_ | refine call_of (awake) ?_ | refine callG_of (fun _ => awake) ?_ | (apply And.intro; focus (first | omega | (simp; done) | (simp +contextual; done) | (intros; and_intros <;> first | assumption | omega) | (intros; simp_all; done) | (intro hgd; refine ⟨hgd, ?_⟩; simp [hgd]; done) | (intro hgd; simp only [beq_eq_false_iff_ne, beq_iff_eq, decide_eq_true_eq, decide_eq_false_iff_not, bne_iff_ne, ne_eq, Bool.and_eq_true, Bool.or_eq_false_iff, Bool.or_eq_true, Bool.and_eq_false_iff] at hgd ⊢; omega))) | fail)
end Go.Proofs.Ytcngkeeknlloaaa
