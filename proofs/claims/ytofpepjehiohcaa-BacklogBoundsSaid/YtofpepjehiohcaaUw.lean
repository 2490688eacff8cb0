/- Layer 20: bounds. -/
import Derived.Test.YtofpepjehiohcaaUv
import Derived.Test.YtofpepjehiohcaaCl6
namespace Go.Proofs.Ytofpepjehiohcaa
open Go Go.Lx
set_option linter.unusedSimpArgs false
set_option linter.unusedVariables false
set_option maxRecDepth 100000
set_option maxHeartbeats 4000000

theorem boundsL (l : List Int) (hl : okS l 0) : Pure Try.prog gl 6 [Ms l] (.bool true) := by
  refine fn_pureT Try.func6 t6 Try.ntmps6 (by simp) ?_
  have hs := new_ l
  unfold Ms at hs
  unfold c6 r6 Ms
  simp (disch := first | omega | (simp only [List.length_cons, List.length_nil]; first | done | omega)) only [go_sem, Nat.reduceAdd, Nat.reduceMul, Nat.reduceSub, Nat.reduceEqDiff, Nat.reduceLeDiff, Nat.reduceMod, Nat.reduceLT, Int.reduceToNat, Int.reduceAdd, Int.reduceSub, Int.reduceMul, Int.reduceNeg, Int.reduceLE, Int.reduceLT, Int.toNat_natCast, Int.cast_ofNat_Int, Int.reduceNe, Int.reduceEq, Int.reduceBEq, Int.reduceBNe, not_false_eq_true, ne_eq, Int.reduceTMod, Int.reduceTDiv, beq_self_eq_true, bne_self_eq_false, List.contains_cons, List.contains_nil, Nat.reduceBEq]
  first | refine newsE_U (hs) ?_ | refine newsE_T (hs) ?_ | refine newsE_of (hs) ?_
  rintro _ _ ⟨sb, rfl, rfl⟩
  simp (disch := first | omega | (simp only [List.length_cons, List.length_nil]; first | done | omega)) only [go_sem, Nat.reduceAdd, Nat.reduceMul, Nat.reduceSub, Nat.reduceEqDiff, Nat.reduceLeDiff, Nat.reduceMod, Nat.reduceLT, Int.reduceToNat, Int.reduceAdd, Int.reduceSub, Int.reduceMul, Int.reduceNeg, Int.reduceLE, Int.reduceLT, Int.toNat_natCast, Int.cast_ofNat_Int, Int.reduceNe, Int.reduceEq, Int.reduceBEq, Int.reduceBNe, not_false_eq_true, ne_eq, Int.reduceTMod, Int.reduceTDiv, beq_self_eq_true, bne_self_eq_false, List.contains_cons, List.contains_nil, Nat.reduceBEq]
  first | refine actsQ_U (pbegin sb l 0 hl (by omega)) (pick_perm rfl (List.Perm.refl _)) ?_ | refine actsQ_T (pbegin sb l 0 hl (by omega)) (pick_perm rfl (List.Perm.refl _)) ?_ | refine actsQ_N (pbegin sb l 0 hl (by omega)) (pick_perm rfl (List.Perm.refl _)) ?_ | refine actsQ_of (pbegin sb l 0 hl (by omega)) (pick_perm rfl (List.Perm.refl _)) ?_
  rintro _ _ ⟨p, rfl, rfl⟩
  have hJ := begX_JP l 0
  have hok := begX_ok l 0
  have hb0 : (begX l 0).op.length ≤ 0 ∧ (begX l 0).tk.length ≤ 0 ∧ (begX l 0).gv.length ≤ 0 := by simp [begX]
  generalize begX l 0 = x0 at *
  unfold PlS PlH PlC
  simp only [BlC, InS, RcS_eq, NoS, List.cons_append, List.nil_append]
  simp (disch := first | omega | (simp only [List.length_cons, List.length_nil]; first | done | omega)) only [go_sem, Nat.reduceAdd, Nat.reduceMul, Nat.reduceSub, Nat.reduceEqDiff, Nat.reduceLeDiff, Nat.reduceMod, Nat.reduceLT, Int.reduceToNat, Int.reduceAdd, Int.reduceSub, Int.reduceMul, Int.reduceNeg, Int.reduceLE, Int.reduceLT, Int.toNat_natCast, Int.cast_ofNat_Int, Int.reduceNe, Int.reduceEq, Int.reduceBEq, Int.reduceBNe, not_false_eq_true, ne_eq, Int.reduceTMod, Int.reduceTDiv, beq_self_eq_true, bne_self_eq_false, List.contains_cons, List.contains_nil, Nat.reduceBEq]
  refine loopI (ι := Nat × Pl × Int × Int × Nat × Nat × Nat × Nat × Nat × Nat) (fun y => y.1 ≤ 60 ∧ okP y.1 y.2.1 ∧ JP y.2.2.2.1 y.2.1 ∧ (0 ≤ y.2.2.1 ∧ y.2.2.1 ≤ 3 + 4 * y.1) ∧ (y.2.1.op.length ≤ y.2.2.2.2.2.1 ∧ y.2.1.tk.length ≤ y.2.2.2.2.2.2.2.1 ∧ y.2.1.gv.length ≤ y.2.2.2.2.2.2.2.2.2))
    (fun y => [(6, .int .i64 y.1), (5, .int .i64 y.2.2.2.1), (4, .ptr 5000 p 0), (3, .ptr 3000 sb 0), (2, .bool false)]) (fun y => PlS y.2.1 p y.2.2.2.2.1 y.2.2.2.2.2.1 y.2.2.2.2.2.2.1 y.2.2.2.2.2.2.2.1 y.2.2.2.2.2.2.2.2.1 y.2.2.2.2.2.2.2.2.2 sb l y.2.2.1) (fun y => 60 - y.1) (0, x0, 3, x0.b.lim, 0, 0, 0, 0, 0, 0) ⟨by omega, hok, hJ, by dsimp only; omega, hb0⟩ (Ents.envH (by simp [go_sem]) rfl) ?_
  rintro ⟨i, x, a, m, b1, c1, b2, c2, b3, c3⟩ ⟨hi, hx, hJ, ha, hc⟩
  dsimp only at hi hx hJ ha hc ⊢
  repeat' (first | (simp (disch := first | omega | (simp only [List.length_cons, List.length_nil]; first | done | omega)) only [go_sem, Nat.reduceAdd, Nat.reduceMul, Nat.reduceSub, Nat.reduceEqDiff, Nat.reduceLeDiff, Nat.reduceMod, Nat.reduceLT, Int.reduceToNat, Int.reduceAdd, Int.reduceSub, Int.reduceMul, Int.reduceNeg, Int.reduceLE, Int.reduceLT, Int.toNat_natCast, Int.cast_ofNat_Int, Int.reduceNe, Int.reduceEq, Int.reduceBEq, Int.reduceBNe, not_false_eq_true, ne_eq, Int.reduceTMod, Int.reduceTDiv, beq_self_eq_true, bne_self_eq_false, List.contains_cons, List.contains_nil, Nat.reduceBEq]) | (refine allI (fun b => ?_)) | (refine allT (fun τ => ?_)) | (refine brP (fun h => ?_) (fun h => ?_) <;> (try simp only [Bool.and_eq_true, Bool.and_eq_false_iff, Bool.or_eq_true, Bool.or_eq_false_iff, Bool.not_eq_true', Bool.not_eq_false', decide_eq_true_eq, decide_eq_false_iff_not, beq_iff_eq, beq_eq_false_iff_ne, ne_eq, bne_iff_ne, Int.not_lt, Int.not_le] at h)))
  · have hst := pstep x i hx (by omega) p b1 c1 b2 c2 b3 c3 hc sb l a ⟨hl.1, hl.2.1, by omega, by omega⟩ (by omega)
    refine actsQ_U (H2 := []) hst (List.Perm.refl _ |>.trans (by rw [List.append_nil])) ?_
    rintro _ _ ⟨x', a', b1', c1', b2', c2', b3', c3', hs, ha', hc', rfl, rfl⟩
    rw [List.append_nil]
    have hJ' := hJ.step hs
    have hx' := hx.step (by omega) hs
    generalize hm' : (if m < x'.b.lim then x'.b.lim else m) = m' at hJ'
    have hbn := hJ'.bnd
    have hrs := hJ'.res
    have hql := hx'.b.qu
    have hrr := hx'.b.res
    unfold PlS PlH PlC
    simp only [BlC, InS, RcS_eq, NoS, List.cons_append, List.nil_append]
    repeat' (first | (simp (disch := first | omega | (simp only [List.length_cons, List.length_nil]; first | done | omega)) only [go_sem, Nat.reduceAdd, Nat.reduceMul, Nat.reduceSub, Nat.reduceEqDiff, Nat.reduceLeDiff, Nat.reduceMod, Nat.reduceLT, Int.reduceToNat, Int.reduceAdd, Int.reduceSub, Int.reduceMul, Int.reduceNeg, Int.reduceLE, Int.reduceLT, Int.toNat_natCast, Int.cast_ofNat_Int, Int.reduceNe, Int.reduceEq, Int.reduceBEq, Int.reduceBNe, not_false_eq_true, ne_eq, Int.reduceTMod, Int.reduceTDiv, beq_self_eq_true, bne_self_eq_false, List.contains_cons, List.contains_nil, Nat.reduceBEq, Bool.not_true, hm']) | (refine allI (fun b => ?_)) | (refine allT (fun τ => ?_)) | (refine brP (fun h => ?_) (fun h => ?_) <;> (try simp only [Bool.and_eq_true, Bool.and_eq_false_iff, Bool.or_eq_true, Bool.or_eq_false_iff, Bool.not_eq_true', Bool.not_eq_false', decide_eq_true_eq, decide_eq_false_iff_not, beq_iff_eq, beq_eq_false_iff_ne, ne_eq, bne_iff_ne, Int.not_lt, Int.not_le] at h)))
    · omega
    · refine loopI (ι := Nat) (fun k => k ≤ x'.b.qu.length) (fun k => (7, .int .i64 k) :: [(6, .int .i64 i), (5, .int .i64 m'), (4, .ptr 5000 p 0), (3, .ptr 3000 sb 0), (2, .bool false)]) (fun k => _) (fun k => x'.b.qu.length - k) 0 (by omega) (Ents.envH (by simp [go_sem]) rfl) ?_
      intro k hk
      have hlen := len_rc x'.b.qu
      repeat' (first | (simp (disch := first | omega | (simp only [List.length_cons, List.length_nil]; first | done | omega)) only [go_sem, Nat.reduceAdd, Nat.reduceMul, Nat.reduceSub, Nat.reduceEqDiff, Nat.reduceLeDiff, Nat.reduceMod, Nat.reduceLT, Int.reduceToNat, Int.reduceAdd, Int.reduceSub, Int.reduceMul, Int.reduceNeg, Int.reduceLE, Int.reduceLT, Int.toNat_natCast, Int.cast_ofNat_Int, Int.reduceNe, Int.reduceEq, Int.reduceBEq, Int.reduceBNe, not_false_eq_true, ne_eq, Int.reduceTMod, Int.reduceTDiv, beq_self_eq_true, bne_self_eq_false, List.contains_cons, List.contains_nil, Nat.reduceBEq]) | (refine allI (fun b => ?_)) | (refine allT (fun τ => ?_)) | (refine brP (fun h => ?_) (fun h => ?_) <;> (try simp only [Bool.and_eq_true, Bool.and_eq_false_iff, Bool.or_eq_true, Bool.or_eq_false_iff, Bool.not_eq_true', Bool.not_eq_false', decide_eq_true_eq, decide_eq_false_iff_not, beq_iff_eq, beq_eq_false_iff_ne, ne_eq, bne_iff_ne, Int.not_lt, Int.not_le] at h)))
      · have hkl : k < x'.b.qu.length := by omega
        have hol : 0 < x'.b.op.length := by omega
        have e1 := getD_rows (f := RcC) (w := 4) (fun _ => rfl) (j := 2) (by omega) rc0 x'.b.qu k hkl
        have e2 : (x'.b.op.map (LV.int .i64)).getD 0 .any = .int .i64 (x'.b.op.getD 0 0) := by rw [getD_int hol]
        have e3 := hJ'.wq (fun e => by rw [e] at hol; simp at hol) _ (getD_memA rc0 hkl)
        have e4 := hx'.b.opn _ (getD_memA 0 hol)
        rw [e1, e2]
        rw [show (RcC (x'.b.qu.getD k rc0)).getD 2 .any = .int .i64 (x'.b.qu.getD k rc0).se from rfl]
        refine ⟨by omega, by omega, by omega, by simp; omega, ?_⟩
        repeat' (first | (simp (disch := first | omega | (simp only [List.length_cons, List.length_nil]; first | done | omega)) only [go_sem, Nat.reduceAdd, Nat.reduceMul, Nat.reduceSub, Nat.reduceEqDiff, Nat.reduceLeDiff, Nat.reduceMod, Nat.reduceLT, Int.reduceToNat, Int.reduceAdd, Int.reduceSub, Int.reduceMul, Int.reduceNeg, Int.reduceLE, Int.reduceLT, Int.toNat_natCast, Int.cast_ofNat_Int, Int.reduceNe, Int.reduceEq, Int.reduceBEq, Int.reduceBNe, not_false_eq_true, ne_eq, Int.reduceTMod, Int.reduceTDiv, beq_self_eq_true, bne_self_eq_false, List.contains_cons, List.contains_nil, Nat.reduceBEq]) | (refine allI (fun b => ?_)) | (refine allT (fun τ => ?_)) | (refine brP (fun h => ?_) (fun h => ?_) <;> (try simp only [Bool.and_eq_true, Bool.and_eq_false_iff, Bool.or_eq_true, Bool.or_eq_false_iff, Bool.not_eq_true', Bool.not_eq_false', decide_eq_true_eq, decide_eq_false_iff_not, beq_iff_eq, beq_eq_false_iff_ne, ne_eq, bne_iff_ne, Int.not_lt, Int.not_le] at h)))
        · omega
        exact ⟨⟨k + 1, by omega⟩, by dsimp only; omega, Ents.envH (by simp [go_sem]) rfl⟩
      · exact ⟨⟨(i + 1, x', a', m', b1', c1', b2', c2', b3', c3'), by omega, hx', hJ', by dsimp only; omega, hc'⟩, by dsimp only; omega, Ents.envH (by simp [go_sem]) rfl⟩
  · first | refine call_U (awake) ?_ | refine call_T (awake) ?_ | refine call_N (awake) ?_ | refine call_of (awake) ?_
    simp (disch := first | omega | (simp only [List.length_cons, List.length_nil]; first | done | omega)) only [go_sem, Nat.reduceAdd, Nat.reduceMul, Nat.reduceSub, Nat.reduceEqDiff, Nat.reduceLeDiff, Nat.reduceMod, Nat.reduceLT, Int.reduceToNat, Int.reduceAdd, Int.reduceSub, Int.reduceMul, Int.reduceNeg, Int.reduceLE, Int.reduceLT, Int.toNat_natCast, Int.cast_ofNat_Int, Int.reduceNe, Int.reduceEq, Int.reduceBEq, Int.reduceBNe, not_false_eq_true, ne_eq, Int.reduceTMod, Int.reduceTDiv, beq_self_eq_true, bne_self_eq_false, List.contains_cons, List.contains_nil, Nat.reduceBEq]
end Go.Proofs.Ytofpepjehiohcaa
