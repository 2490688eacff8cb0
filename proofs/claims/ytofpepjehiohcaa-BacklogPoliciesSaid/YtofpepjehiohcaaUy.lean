/- Layer 20: policies of failures. -/
import Derived.Test.YtofpepjehiohcaaUx
import Derived.Test.YtofpepjehiohcaaCl9
namespace Go.Proofs.Ytofpepjehiohcaa
open Go Go.Lx
set_option linter.unusedSimpArgs false
set_option linter.unusedVariables false
set_option maxRecDepth 100000
set_option maxHeartbeats 8000000

/-- what the array holds before the round with the policy f -/
def polC (l : List Int) (f j : Nat) : List LV := if j < f then BlC (polB l j) (InS (polB l j).op) (RcS (polB l j).qu) (NoS (polB l j).no) else bl0F
def polA (l : List Int) (f : Nat) : List LV := polC l f 1 ++ (polC l f 2 ++ polC l f 3)
theorem polC_len (l : List Int) (f j : Nat) : (polC l f j).length = 17 := by unfold polC; split <;> rfl
theorem polA_len (l : List Int) (f : Nat) : (polA l f).length = 51 := by unfold polA; simp [polC_len]
def clC (B : Bl) (i j : Nat) : List LV := if j < i then BlC (er B) (InS B.op) (RcS B.qu) (.fsl 1 0 []) else BlC B (InS B.op) (RcS B.qu) (NoS B.no)
def arrC (B1 B2 B3 : Bl) (i : Nat) : List LV := clC B1 i 0 ++ (clC B2 i 1 ++ clC B3 i 2)
theorem er_okB {b : Bl} (h : okB b) : okB (er b) := ⟨h.1, h.2.1, by simp [er]⟩
theorem er_le (b : Bl) : leVs (BlC (er b) (InS (er b).op) (RcS (er b).qu) (.fsl 1 0 [])) (BlC (er b) (InS (er b).op) (RcS (er b).qu) (NoS (er b).no)) :=
  ⟨leV.refl _, leV.refl _, leV.refl _, leV.refl _, leV.refl _, leV.refl _, leV.refl _, leV.refl _, leV.refl _, leV.refl _, leV.refl _, leV.refl _, leV.refl _, leV.refl _, leV.refl _, leV.refl _, leV.nil_sl _ _, trivial⟩
theorem polN_ok (l : List Int) (f : Int) : ∀ n : Nat, n ≤ 1000 → okP n (polN l n (3, polX l f)).2
  | 0, _ => polX_ok l f
  | n + 1, h => (polN_ok l f n (by omega)).step (by omega) (polR_step l (polN l n (3, polX l f)).1 (polN l n (3, polX l f)).2)
theorem policiesL (l : List Int) (hl : okS l 0) : Pure Try.prog gl 9 [Ms l] (.bool true) := by
  refine fn_pureT Try.func9 t9 Try.ntmps9 (by simp) ?_
  have hs := new_ l
  unfold Ms at hs
  unfold c9 r9 Ms
  simp (disch := first | omega | (simp only [List.length_cons, List.length_nil]; first | done | omega)) only [go_sem, Nat.reduceAdd, Nat.reduceMul, Nat.reduceSub, Nat.reduceEqDiff, Nat.reduceLeDiff, Nat.reduceMod, Nat.reduceLT, Int.reduceToNat, Int.reduceAdd, Int.reduceSub, Int.reduceMul, Int.reduceNeg, Int.reduceLE, Int.reduceLT, Int.toNat_natCast, Int.cast_ofNat_Int, Int.reduceNe, Int.reduceEq, Int.reduceBEq, Int.reduceBNe, not_false_eq_true, ne_eq, Int.reduceTMod, Int.reduceTDiv, beq_self_eq_true, bne_self_eq_false, List.contains_cons, List.contains_nil, Nat.reduceBEq]
  intro p3
  refine loopI (ι := Nat) (fun f => 1 ≤ f ∧ f ≤ 4) (fun f => [(4, .int .i64 f), (3, .ptr 3 p3 0), (2, .bool false), (0, .sl 1 l.length (List.map (LV.int .i64) l))]) (fun f => [(3, .blk p3 (polA l f))]) (fun f => 4 - f) 1 (by omega) (Ents.envH (by simp [go_sem]) rfl) ?_
  rintro f ⟨hf1, hf2⟩
  repeat' (first | (simp (disch := first | omega | (simp only [List.length_cons, List.length_nil]; first | done | omega)) only [go_sem, Nat.reduceAdd, Nat.reduceMul, Nat.reduceSub, Nat.reduceEqDiff, Nat.reduceLeDiff, Nat.reduceMod, Nat.reduceLT, Int.reduceToNat, Int.reduceAdd, Int.reduceSub, Int.reduceMul, Int.reduceNeg, Int.reduceLE, Int.reduceLT, Int.toNat_natCast, Int.cast_ofNat_Int, Int.reduceNe, Int.reduceEq, Int.reduceBEq, Int.reduceBNe, not_false_eq_true, ne_eq, Int.reduceTMod, Int.reduceTDiv, beq_self_eq_true, bne_self_eq_false, List.contains_cons, List.contains_nil, Nat.reduceBEq]) | (refine allI (fun b => ?_)) | (refine allT (fun τ => ?_)) | (refine brP (fun h => ?_) (fun h => ?_) <;> (try simp only [Bool.and_eq_true, Bool.and_eq_false_iff, Bool.or_eq_true, Bool.or_eq_false_iff, Bool.not_eq_true', Bool.not_eq_false', decide_eq_true_eq, decide_eq_false_iff_not, beq_iff_eq, beq_eq_false_iff_ne, ne_eq, bne_iff_ne, Int.not_lt, Int.not_le] at h)))
  · first | refine newsE_U (hs) ?_ | refine newsE_T (hs) ?_ | refine newsE_of (hs) ?_
    rintro _ _ ⟨sb, rfl, rfl⟩
    simp (disch := first | omega | (simp only [List.length_cons, List.length_nil]; first | done | omega)) only [go_sem, Nat.reduceAdd, Nat.reduceMul, Nat.reduceSub, Nat.reduceEqDiff, Nat.reduceLeDiff, Nat.reduceMod, Nat.reduceLT, Int.reduceToNat, Int.reduceAdd, Int.reduceSub, Int.reduceMul, Int.reduceNeg, Int.reduceLE, Int.reduceLT, Int.toNat_natCast, Int.cast_ofNat_Int, Int.reduceNe, Int.reduceEq, Int.reduceBEq, Int.reduceBNe, not_false_eq_true, ne_eq, Int.reduceTMod, Int.reduceTDiv, beq_self_eq_true, bne_self_eq_false, List.contains_cons, List.contains_nil, Nat.reduceBEq]
    first | refine actsQ_U (pbegin sb l 0 hl (by omega)) (pick_perm rfl (List.Perm.refl _)) ?_ | refine actsQ_T (pbegin sb l 0 hl (by omega)) (pick_perm rfl (List.Perm.refl _)) ?_ | refine actsQ_N (pbegin sb l 0 hl (by omega)) (pick_perm rfl (List.Perm.refl _)) ?_ | refine actsQ_of (pbegin sb l 0 hl (by omega)) (pick_perm rfl (List.Perm.refl _)) ?_
    rintro _ _ ⟨p, rfl, rfl⟩
    have hc1 := conf (begX l 0).b (begX_ok l 0).b.okB (begX l 0).b.lim (begX l 0).b.rate f
    have hc2 := rconf (begX l 0).b (begX_ok l 0).b.okB (begX l 0).b.lim (begX l 0).b.rate f
    have hX : polX l f = { begX l 0 with b := confB (begX l 0).b (begX l 0).b.lim (begX l 0).b.rate f } := rfl
    have hok := polX_ok l f
    have hb0 : (polX l f).op = [] ∧ (polX l f).tk = [] ∧ (polX l f).gv = [] := by simp [polX, begX]
    have hb1 : (begX l 0).op = [] ∧ (begX l 0).tk = [] ∧ (begX l 0).gv = [] ∧ (begX l 0).ti = 0 ∧ (polX l f).ti = 0 := by simp [polX, begX]
    have hB : confB (begX l 0).b (begX l 0).b.lim (begX l 0).b.rate f = (polX l f).b := rfl
    rw [hB] at hc1 hc2
    unfold PlS PlH PlC
    unfold BlL at hc1 hc2
    simp only [BlC, InS, RcS_eq, NoS, List.cons_append, List.nil_append] at hc1 hc2 ⊢
    simp (disch := first | omega | (simp only [List.length_cons, List.length_nil]; first | done | omega)) only [go_sem, Nat.reduceAdd, Nat.reduceMul, Nat.reduceSub, Nat.reduceEqDiff, Nat.reduceLeDiff, Nat.reduceMod, Nat.reduceLT, Int.reduceToNat, Int.reduceAdd, Int.reduceSub, Int.reduceMul, Int.reduceNeg, Int.reduceLE, Int.reduceLT, Int.toNat_natCast, Int.cast_ofNat_Int, Int.reduceNe, Int.reduceEq, Int.reduceBEq, Int.reduceBNe, not_false_eq_true, ne_eq, Int.reduceTMod, Int.reduceTDiv, beq_self_eq_true, bne_self_eq_false, List.contains_cons, List.contains_nil, Nat.reduceBEq]
    first | refine call_U (hc1) ?_ | refine call_T (hc1) ?_ | refine call_N (hc1) ?_ | refine call_of (hc1) ?_
    simp (disch := first | omega | (simp only [List.length_cons, List.length_nil]; first | done | omega)) only [go_sem, Nat.reduceAdd, Nat.reduceMul, Nat.reduceSub, Nat.reduceEqDiff, Nat.reduceLeDiff, Nat.reduceMod, Nat.reduceLT, Int.reduceToNat, Int.reduceAdd, Int.reduceSub, Int.reduceMul, Int.reduceNeg, Int.reduceLE, Int.reduceLT, Int.toNat_natCast, Int.cast_ofNat_Int, Int.reduceNe, Int.reduceEq, Int.reduceBEq, Int.reduceBNe, not_false_eq_true, ne_eq, Int.reduceTMod, Int.reduceTDiv, beq_self_eq_true, bne_self_eq_false, List.contains_cons, List.contains_nil, Nat.reduceBEq]
    first | refine call_U (hc2) ?_ | refine call_T (hc2) ?_ | refine call_N (hc2) ?_ | refine call_of (hc2) ?_
    simp (disch := first | omega | (simp only [List.length_cons, List.length_nil]; first | done | omega)) only [go_sem, Nat.reduceAdd, Nat.reduceMul, Nat.reduceSub, Nat.reduceEqDiff, Nat.reduceLeDiff, Nat.reduceMod, Nat.reduceLT, Int.reduceToNat, Int.reduceAdd, Int.reduceSub, Int.reduceMul, Int.reduceNeg, Int.reduceLE, Int.reduceLT, Int.toNat_natCast, Int.cast_ofNat_Int, Int.reduceNe, Int.reduceEq, Int.reduceBEq, Int.reduceBNe, not_false_eq_true, ne_eq, Int.reduceTMod, Int.reduceTDiv, beq_self_eq_true, bne_self_eq_false, List.contains_cons, List.contains_nil, Nat.reduceBEq]
    refine loopI (ι := Nat × Pl × Int × Nat × Nat × Nat × Nat × Nat × Nat) (fun y => y.1 ≤ 20 ∧ polN l y.1 (3, polX l f) = (y.2.2.1, y.2.1) ∧ okP y.1 y.2.1 ∧ y.2.2.1 = 3 + 2 * y.1 ∧ (y.2.1.op.length ≤ y.2.2.2.2.1 ∧ y.2.1.tk.length ≤ y.2.2.2.2.2.2.1 ∧ y.2.1.gv.length ≤ y.2.2.2.2.2.2.2.2))
      (fun y => [(7, .int .i64 y.1), (6, .ptr 5000 p 0), (5, .ptr 3000 sb 0), (4, .int .i64 f), (3, .ptr 3 p3 0), (2, .bool false), (0, .sl 1 l.length (List.map (LV.int .i64) l))])
      (fun y => PlS y.2.1 p y.2.2.2.1 y.2.2.2.2.1 y.2.2.2.2.2.1 y.2.2.2.2.2.2.1 y.2.2.2.2.2.2.2.1 y.2.2.2.2.2.2.2.2 sb l y.2.2.1 ++ [(3, .blk p3 (polA l f))]) (fun y => 20 - y.1) (0, polX l f, 3, 0, 0, 0, 0, 0, 0) ⟨by omega, rfl, hok, by rfl, by simp [hb0]⟩ (Ents.envH (by simp [go_sem]) rfl) ?_
    rintro ⟨j, x, a, b1, c1, b2, c2, b3, c3⟩ ⟨hj, hrun, hx, ha, hc⟩
    dsimp only at hj hrun hx ha hc ⊢
    have hla : okS l a := ⟨hl.1, hl.2.1, by omega, by omega⟩
    have hla1 : okS l (a + 1) := ⟨hl.1, hl.2.1, by omega, by omega⟩
    unfold PlS PlH PlC
    simp only [BlC, InS, RcS_eq, NoS, List.cons_append, List.nil_append]
    repeat' (first | (simp (disch := first | omega | (simp only [List.length_cons, List.length_nil]; first | done | omega)) only [go_sem, Nat.reduceAdd, Nat.reduceMul, Nat.reduceSub, Nat.reduceEqDiff, Nat.reduceLeDiff, Nat.reduceMod, Nat.reduceLT, Int.reduceToNat, Int.reduceAdd, Int.reduceSub, Int.reduceMul, Int.reduceNeg, Int.reduceLE, Int.reduceLT, Int.toNat_natCast, Int.cast_ofNat_Int, Int.reduceNe, Int.reduceEq, Int.reduceBEq, Int.reduceBNe, not_false_eq_true, ne_eq, Int.reduceTMod, Int.reduceTDiv, beq_self_eq_true, bne_self_eq_false, List.contains_cons, List.contains_nil, Nat.reduceBEq]) | (refine allI (fun b => ?_)) | (refine allT (fun τ => ?_)) | (refine brP (fun h => ?_) (fun h => ?_) <;> (try simp only [Bool.and_eq_true, Bool.and_eq_false_iff, Bool.or_eq_true, Bool.or_eq_false_iff, Bool.not_eq_true', Bool.not_eq_false', decide_eq_true_eq, decide_eq_false_iff_not, beq_iff_eq, beq_eq_false_iff_ne, ne_eq, bne_iff_ne, Int.not_lt, Int.not_le] at h)))
    · have hN := n_ 3000 sb l a 6 hla (by omega)
      have hNr := nV_range l a (n := 6) (by omega)
      have hnext : polN l (j + 1) (3, polX l f) = polR l (a, x) := by rw [polN, hrun]
      have hstep := polR_step l a x
      have hx1 := hx.step (by omega) hstep
      have hxl := hx.ol
      first | refine actsE_U (hN) (by first | rfl | simp only [getH, if_true]) ?_ | refine actsE_T (hN) (by first | rfl | simp only [getH, if_true]) ?_ | refine actsE_N (hN) (by first | rfl | simp only [getH, if_true]) ?_ | refine actsE_of (hN) (by first | rfl | simp only [getH, if_true]) ?_
      rintro _ _ ⟨rfl, rfl⟩
      repeat' (first | (simp (disch := first | omega | (simp only [List.length_cons, List.length_nil]; first | done | omega)) only [go_sem, Nat.reduceAdd, Nat.reduceMul, Nat.reduceSub, Nat.reduceEqDiff, Nat.reduceLeDiff, Nat.reduceMod, Nat.reduceLT, Int.reduceToNat, Int.reduceAdd, Int.reduceSub, Int.reduceMul, Int.reduceNeg, Int.reduceLE, Int.reduceLT, Int.toNat_natCast, Int.cast_ofNat_Int, Int.reduceNe, Int.reduceEq, Int.reduceBEq, Int.reduceBNe, not_false_eq_true, ne_eq, Int.reduceTMod, Int.reduceTDiv, beq_self_eq_true, bne_self_eq_false, List.contains_cons, List.contains_nil, Nat.reduceBEq]) | (refine allI (fun b => ?_)) | (refine allT (fun τ => ?_)) | (refine brP (fun h => ?_) (fun h => ?_) <;> (try simp only [Bool.and_eq_true, Bool.and_eq_false_iff, Bool.or_eq_true, Bool.or_eq_false_iff, Bool.not_eq_true', Bool.not_eq_false', decide_eq_true_eq, decide_eq_false_iff_not, beq_iff_eq, beq_eq_false_iff_ne, ne_eq, bne_iff_ne, Int.not_lt, Int.not_le] at h)))
      · have hpk := pick_ 3000 sb l (a + 1) [1, 2, 5] hla1 (by simp) (by simp)
        skip
        have hpo := poffer x j hx (by omega) p b1 c1 b2 c2 b3 c3 hc (pickV l (a + 1) [1, 2, 5])
        unfold PlH PlC at hpo
        simp only [BlC, InS, RcS_eq, NoS, List.cons_append, List.nil_append] at hpo
        have hrun' : polN l (j + 1) (3, polX l f) = (a + 1 + 1, (offP x (pickV l (a + 1) [1, 2, 5]))) := by rw [hnext, polR]; simp only [h, if_true]
        have hx' : okP (j + 1) (offP x (pickV l (a + 1) [1, 2, 5])) := by rw [← hnext, hrun'] at hx1; exact hx1
        clear hx1 hstep
        first | refine actsE_U (hpk) (by first | rfl | simp only [getH, if_true]) ?_ | refine actsE_T (hpk) (by first | rfl | simp only [getH, if_true]) ?_ | refine actsE_N (hpk) (by first | rfl | simp only [getH, if_true]) ?_ | refine actsE_of (hpk) (by first | rfl | simp only [getH, if_true]) ?_
        rintro _ _ ⟨rfl, rfl⟩
        simp (disch := first | omega | (simp only [List.length_cons, List.length_nil]; first | done | omega)) only [go_sem, Nat.reduceAdd, Nat.reduceMul, Nat.reduceSub, Nat.reduceEqDiff, Nat.reduceLeDiff, Nat.reduceMod, Nat.reduceLT, Int.reduceToNat, Int.reduceAdd, Int.reduceSub, Int.reduceMul, Int.reduceNeg, Int.reduceLE, Int.reduceLT, Int.toNat_natCast, Int.cast_ofNat_Int, Int.reduceNe, Int.reduceEq, Int.reduceBEq, Int.reduceBNe, not_false_eq_true, ne_eq, Int.reduceTMod, Int.reduceTDiv, beq_self_eq_true, bne_self_eq_false, List.contains_cons, List.contains_nil, Nat.reduceBEq]
        first | refine actsQ_U (hpo) (pick_perm rfl (pick_perm rfl (pick_perm rfl (pick_perm rfl (List.Perm.refl _))))) ?_ | refine actsQ_T (hpo) (pick_perm rfl (pick_perm rfl (pick_perm rfl (pick_perm rfl (List.Perm.refl _))))) ?_ | refine actsQ_N (hpo) (pick_perm rfl (pick_perm rfl (pick_perm rfl (pick_perm rfl (List.Perm.refl _))))) ?_ | refine actsQ_of (hpo) (pick_perm rfl (pick_perm rfl (pick_perm rfl (pick_perm rfl (List.Perm.refl _))))) ?_
        rintro _ _ ⟨b1', c1', b2', c2', b3', c3', hc', rfl, rfl⟩
        unfold PlH PlC
        simp only [BlC, InS, RcS_eq, NoS, List.cons_append, List.nil_append]
        simp (disch := first | omega | (simp only [List.length_cons, List.length_nil]; first | done | omega)) only [go_sem, Nat.reduceAdd, Nat.reduceMul, Nat.reduceSub, Nat.reduceEqDiff, Nat.reduceLeDiff, Nat.reduceMod, Nat.reduceLT, Int.reduceToNat, Int.reduceAdd, Int.reduceSub, Int.reduceMul, Int.reduceNeg, Int.reduceLE, Int.reduceLT, Int.toNat_natCast, Int.cast_ofNat_Int, Int.reduceNe, Int.reduceEq, Int.reduceBEq, Int.reduceBNe, not_false_eq_true, ne_eq, Int.reduceTMod, Int.reduceTDiv, beq_self_eq_true, bne_self_eq_false, List.contains_cons, List.contains_nil, Nat.reduceBEq]
        exact ⟨⟨(j + 1, (offP x (pickV l (a + 1) [1, 2, 5])), a + 1 + 1, b1', c1', b2', c2', b3', c3'), by omega, hrun', hx', by dsimp only; omega, hc'⟩, by dsimp only; omega, Ents.envH (by simp [go_sem]) rfl⟩
      · have hpk := n_ 3000 sb l (a + 1) x.op.length hla1 (by omega)
        have hnr := nV_range l (a + 1) (n := x.op.length) (by omega)
        have hcast : ((nV l (a + 1) x.op.length).toNat : Int) = nV l (a + 1) x.op.length := by omega
        have hpo := pput x j hx (by omega) p b1 c1 b2 c2 b3 c3 hc (nV l (a + 1) x.op.length).toNat (by omega)
        rw [hcast] at hpo
        unfold PlH PlC at hpo
        simp only [BlC, InS, RcS_eq, NoS, List.cons_append, List.nil_append] at hpo
        have hrun' : polN l (j + 1) (3, polX l f) = (a + 1 + 1, (putP x (nV l (a + 1) x.op.length).toNat)) := by rw [hnext, polR]; rw [if_neg (by dsimp only; omega), if_pos ⟨h.1, by dsimp only; omega⟩]
        have hx' : okP (j + 1) (putP x (nV l (a + 1) x.op.length).toNat) := by rw [← hnext, hrun'] at hx1; exact hx1
        clear hx1 hstep
        first | refine actsE_U (hpk) (by first | rfl | simp only [getH, if_true]) ?_ | refine actsE_T (hpk) (by first | rfl | simp only [getH, if_true]) ?_ | refine actsE_N (hpk) (by first | rfl | simp only [getH, if_true]) ?_ | refine actsE_of (hpk) (by first | rfl | simp only [getH, if_true]) ?_
        rintro _ _ ⟨rfl, rfl⟩
        simp (disch := first | omega | (simp only [List.length_cons, List.length_nil]; first | done | omega)) only [go_sem, Nat.reduceAdd, Nat.reduceMul, Nat.reduceSub, Nat.reduceEqDiff, Nat.reduceLeDiff, Nat.reduceMod, Nat.reduceLT, Int.reduceToNat, Int.reduceAdd, Int.reduceSub, Int.reduceMul, Int.reduceNeg, Int.reduceLE, Int.reduceLT, Int.toNat_natCast, Int.cast_ofNat_Int, Int.reduceNe, Int.reduceEq, Int.reduceBEq, Int.reduceBNe, not_false_eq_true, ne_eq, Int.reduceTMod, Int.reduceTDiv, beq_self_eq_true, bne_self_eq_false, List.contains_cons, List.contains_nil, Nat.reduceBEq]
        first | refine actsQ_U (hpo) (pick_perm rfl (pick_perm rfl (pick_perm rfl (pick_perm rfl (List.Perm.refl _))))) ?_ | refine actsQ_T (hpo) (pick_perm rfl (pick_perm rfl (pick_perm rfl (pick_perm rfl (List.Perm.refl _))))) ?_ | refine actsQ_N (hpo) (pick_perm rfl (pick_perm rfl (pick_perm rfl (pick_perm rfl (List.Perm.refl _))))) ?_ | refine actsQ_of (hpo) (pick_perm rfl (pick_perm rfl (pick_perm rfl (pick_perm rfl (List.Perm.refl _))))) ?_
        rintro _ _ ⟨r0, b1', c1', b2', c2', b3', c3', hc', rfl, rfl⟩
        unfold PlH PlC
        simp only [BlC, InS, RcS_eq, NoS, List.cons_append, List.nil_append]
        simp (disch := first | omega | (simp only [List.length_cons, List.length_nil]; first | done | omega)) only [go_sem, Nat.reduceAdd, Nat.reduceMul, Nat.reduceSub, Nat.reduceEqDiff, Nat.reduceLeDiff, Nat.reduceMod, Nat.reduceLT, Int.reduceToNat, Int.reduceAdd, Int.reduceSub, Int.reduceMul, Int.reduceNeg, Int.reduceLE, Int.reduceLT, Int.toNat_natCast, Int.cast_ofNat_Int, Int.reduceNe, Int.reduceEq, Int.reduceBEq, Int.reduceBNe, not_false_eq_true, ne_eq, Int.reduceTMod, Int.reduceTDiv, beq_self_eq_true, bne_self_eq_false, List.contains_cons, List.contains_nil, Nat.reduceBEq]
        exact ⟨⟨(j + 1, (putP x (nV l (a + 1) x.op.length).toNat), a + 1 + 1, b1', c1', b2', c2', b3', c3'), by omega, hrun', hx', by dsimp only; omega, hc'⟩, by dsimp only; omega, Ents.envH (by simp [go_sem]) rfl⟩
      · have hpk := n_ 3000 sb l (a + 1) 4 hla1 (by omega)
        skip
        have hpo := ptake x j hx (by omega) p b1 c1 b2 c2 b3 c3 hc (nV l (a + 1) 4)
        unfold PlH PlC at hpo
        simp only [BlC, InS, RcS_eq, NoS, List.cons_append, List.nil_append] at hpo
        have hrun' : polN l (j + 1) (3, polX l f) = (a + 1 + 1, (takP x (nV l (a + 1) 4))) := by rw [hnext, polR]; rw [if_neg (by dsimp only; omega), if_neg (by dsimp only; omega)]
        have hx' : okP (j + 1) (takP x (nV l (a + 1) 4)) := by rw [← hnext, hrun'] at hx1; exact hx1
        clear hx1 hstep
        first | refine actsE_U (hpk) (by first | rfl | simp only [getH, if_true]) ?_ | refine actsE_T (hpk) (by first | rfl | simp only [getH, if_true]) ?_ | refine actsE_N (hpk) (by first | rfl | simp only [getH, if_true]) ?_ | refine actsE_of (hpk) (by first | rfl | simp only [getH, if_true]) ?_
        rintro _ _ ⟨rfl, rfl⟩
        simp (disch := first | omega | (simp only [List.length_cons, List.length_nil]; first | done | omega)) only [go_sem, Nat.reduceAdd, Nat.reduceMul, Nat.reduceSub, Nat.reduceEqDiff, Nat.reduceLeDiff, Nat.reduceMod, Nat.reduceLT, Int.reduceToNat, Int.reduceAdd, Int.reduceSub, Int.reduceMul, Int.reduceNeg, Int.reduceLE, Int.reduceLT, Int.toNat_natCast, Int.cast_ofNat_Int, Int.reduceNe, Int.reduceEq, Int.reduceBEq, Int.reduceBNe, not_false_eq_true, ne_eq, Int.reduceTMod, Int.reduceTDiv, beq_self_eq_true, bne_self_eq_false, List.contains_cons, List.contains_nil, Nat.reduceBEq]
        first | refine actsQ_U (hpo) (pick_perm rfl (pick_perm rfl (pick_perm rfl (pick_perm rfl (List.Perm.refl _))))) ?_ | refine actsQ_T (hpo) (pick_perm rfl (pick_perm rfl (pick_perm rfl (pick_perm rfl (List.Perm.refl _))))) ?_ | refine actsQ_N (hpo) (pick_perm rfl (pick_perm rfl (pick_perm rfl (pick_perm rfl (List.Perm.refl _))))) ?_ | refine actsQ_of (hpo) (pick_perm rfl (pick_perm rfl (pick_perm rfl (pick_perm rfl (List.Perm.refl _))))) ?_
        rintro _ _ ⟨b1', c1', b2', c2', b3', c3', hc', rfl, rfl⟩
        unfold PlH PlC
        simp only [BlC, InS, RcS_eq, NoS, List.cons_append, List.nil_append]
        simp (disch := first | omega | (simp only [List.length_cons, List.length_nil]; first | done | omega)) only [go_sem, Nat.reduceAdd, Nat.reduceMul, Nat.reduceSub, Nat.reduceEqDiff, Nat.reduceLeDiff, Nat.reduceMod, Nat.reduceLT, Int.reduceToNat, Int.reduceAdd, Int.reduceSub, Int.reduceMul, Int.reduceNeg, Int.reduceLE, Int.reduceLT, Int.toNat_natCast, Int.cast_ofNat_Int, Int.reduceNe, Int.reduceEq, Int.reduceBEq, Int.reduceBNe, not_false_eq_true, ne_eq, Int.reduceTMod, Int.reduceTDiv, beq_self_eq_true, bne_self_eq_false, List.contains_cons, List.contains_nil, Nat.reduceBEq]
        exact ⟨⟨(j + 1, (takP x (nV l (a + 1) 4)), a + 1 + 1, b1', c1', b2', c2', b3', c3'), by omega, hrun', hx', by dsimp only; omega, hc'⟩, by dsimp only; omega, Ents.envH (by simp [go_sem]) rfl⟩
    · obtain rfl : j = 20 := by omega
      have hxb : x.b = polB l f := by rw [polB, hrun]
      rw [hxb]
      have hpl := polA_len l f
      rcases (by omega : f = 1 ∨ f = 2 ∨ f = 3) with rfl | rfl | rfl
      · exact ⟨by omega, by omega, ⟨1 + 1, by omega⟩, by dsimp only; omega, Ents.sub (by simp [go_sem]) ⟨[(3, _)], List.Sublist.cons _ (List.Sublist.cons _ (List.Sublist.cons _ (List.Sublist.cons _ (List.Sublist.cons _ sub1)))), List.Perm.refl _⟩⟩
      · exact ⟨by omega, by omega, ⟨2 + 1, by omega⟩, by dsimp only; omega, Ents.sub (by simp [go_sem]) ⟨[(3, _)], List.Sublist.cons _ (List.Sublist.cons _ (List.Sublist.cons _ (List.Sublist.cons _ (List.Sublist.cons _ sub1)))), List.Perm.refl _⟩⟩
      · exact ⟨by omega, by omega, ⟨3 + 1, by omega⟩, by dsimp only; omega, Ents.sub (by simp [go_sem]) ⟨[(3, _)], List.Sublist.cons _ (List.Sublist.cons _ (List.Sublist.cons _ (List.Sublist.cons _ (List.Sublist.cons _ sub1)))), List.Perm.refl _⟩⟩
  · obtain rfl : f = 4 := by omega
    obtain ⟨f1, l1, q1, n1⟩ := polB_PI l (f := 1) (by omega)
    obtain ⟨f2, l2, q2, n2⟩ := polB_PI l (f := 2) (by omega)
    obtain ⟨f3, l3, q3, n3⟩ := polB_PI l (f := 3) (by omega)
    have k1 := polB_er l (f := 1) (g := 2) (by omega) (by omega)
    have k2 := polB_er l (f := 2) (g := 3) (by omega) (by omega)
    have ok2 : okB (er (polB l 2)) := er_okB (polN_ok l 2 20 (by omega)).b.okB
    have ok3 : okB (er (polB l 3)) := er_okB (polN_ok l 3 20 (by omega)).b.okB
    have hA : polA l 4 = BlC (polB l 1) (InS (polB l 1).op) (RcS (polB l 1).qu) (NoS (polB l 1).no) ++ (BlC (polB l 2) (InS (polB l 2).op) (RcS (polB l 2).qu) (NoS (polB l 2).no) ++ BlC (polB l 3) (InS (polB l 3).op) (RcS (polB l 3).qu) (NoS (polB l 3).no)) := rfl
    rw [hA]
    generalize polB l 1 = B1 at *
    generalize polB l 2 = B2 at *
    generalize polB l 3 = B3 at *
    simp only [BlC, InS, RcS_eq, NoS, List.cons_append, List.nil_append]
    simp only [Int.reduceEq, decide_false, decide_true, Bool.false_and, Bool.true_and, if_true, if_false] at q1 q2 q3 n1 n2 n3
    repeat' (first | (simp (disch := first | omega | (simp only [List.length_cons, List.length_nil]; first | done | omega)) only [go_sem, Nat.reduceAdd, Nat.reduceMul, Nat.reduceSub, Nat.reduceEqDiff, Nat.reduceLeDiff, Nat.reduceMod, Nat.reduceLT, Int.reduceToNat, Int.reduceAdd, Int.reduceSub, Int.reduceMul, Int.reduceNeg, Int.reduceLE, Int.reduceLT, Int.toNat_natCast, Int.cast_ofNat_Int, Int.reduceNe, Int.reduceEq, Int.reduceBEq, Int.reduceBNe, not_false_eq_true, ne_eq, Int.reduceTMod, Int.reduceTDiv, beq_self_eq_true, bne_self_eq_false, List.contains_cons, List.contains_nil, Nat.reduceBEq, q1, q2, q3, n1, n3, beq_self_eq_true, Bool.not_true, Bool.or_self]) | (refine allI (fun b => ?_)) | (refine allT (fun τ => ?_)) | (refine brP (fun h => ?_) (fun h => ?_) <;> (try simp only [Bool.and_eq_true, Bool.and_eq_false_iff, Bool.or_eq_true, Bool.or_eq_false_iff, Bool.not_eq_true', Bool.not_eq_false', decide_eq_true_eq, decide_eq_false_iff_not, beq_iff_eq, beq_eq_false_iff_ne, ne_eq, bne_iff_ne, Int.not_lt, Int.not_le] at h)))
    · exact h n2
    · clear h
      have hs1 : Pure Try.prog gl 18 [.agg (BlC (er B1) (InS (er B1).op) (RcS (er B1).qu) (.fsl 1 0 [])), .agg (BlC (er B2) (InS (er B2).op) (RcS (er B2).qu) (.fsl 1 0 []))] (.bool true) := by
        rw [k1]
        exact LCalls.args (sameB (er B2) ok2) ⟨leV.agg (er_le B2), leV.agg (er_le B2), trivial⟩
      have hs2 : Pure Try.prog gl 18 [.agg (BlC (er B2) (InS (er B2).op) (RcS (er B2).qu) (.fsl 1 0 [])), .agg (BlC (er B3) (InS (er B3).op) (RcS (er B3).qu) (.fsl 1 0 []))] (.bool true) := by
        rw [k2]
        exact LCalls.args (sameB (er B3) ok3) ⟨leV.agg (er_le B3), leV.agg (er_le B3), trivial⟩
      simp only [BlC, InS, RcS_eq, er] at hs1 hs2
      refine loopI (ι := Nat) (fun i => i ≤ 3) (fun i => [(9, .int .i64 i), (3, .ptr 3 p3 0), (2, .bool false)]) (fun i => [(3, .blk p3 (arrC B1 B2 B3 i))]) (fun i => 3 - i) 0 (by omega) (Ents.envH (by simp [go_sem]) (by
        simp only [arrC, clC, Nat.not_lt_zero, if_false, BlC, InS, RcS_eq, NoS, List.cons_append, List.nil_append, q1, q2, q3])) ?_
      intro i hi
      repeat' (first | (simp (disch := first | omega | (simp only [List.length_cons, List.length_nil]; first | done | omega)) only [go_sem, Nat.reduceAdd, Nat.reduceMul, Nat.reduceSub, Nat.reduceEqDiff, Nat.reduceLeDiff, Nat.reduceMod, Nat.reduceLT, Int.reduceToNat, Int.reduceAdd, Int.reduceSub, Int.reduceMul, Int.reduceNeg, Int.reduceLE, Int.reduceLT, Int.toNat_natCast, Int.cast_ofNat_Int, Int.reduceNe, Int.reduceEq, Int.reduceBEq, Int.reduceBNe, not_false_eq_true, ne_eq, Int.reduceTMod, Int.reduceTDiv, beq_self_eq_true, bne_self_eq_false, List.contains_cons, List.contains_nil, Nat.reduceBEq]) | (refine allI (fun b => ?_)) | (refine allT (fun τ => ?_)) | (refine brP (fun h => ?_) (fun h => ?_) <;> (try simp only [Bool.and_eq_true, Bool.and_eq_false_iff, Bool.or_eq_true, Bool.or_eq_false_iff, Bool.not_eq_true', Bool.not_eq_false', decide_eq_true_eq, decide_eq_false_iff_not, beq_iff_eq, beq_eq_false_iff_ne, ne_eq, bne_iff_ne, Int.not_lt, Int.not_le] at h)))
      · rcases (by omega : i = 0 ∨ i = 1 ∨ i = 2) with rfl | rfl | rfl
        · rw [show arrC B1 B2 B3 0 = BlC B1 (InS B1.op) (RcS B1.qu) (NoS B1.no) ++ (BlC B2 (InS B2.op) (RcS B2.qu) (NoS B2.no) ++ BlC B3 (InS B3.op) (RcS B3.qu) (NoS B3.no)) from rfl]
          simp only [BlC, InS, RcS_eq, NoS, List.cons_append, List.nil_append]
          simp (disch := first | omega | (simp only [List.length_cons, List.length_nil]; first | done | omega)) only [go_sem, Nat.reduceAdd, Nat.reduceMul, Nat.reduceSub, Nat.reduceEqDiff, Nat.reduceLeDiff, Nat.reduceMod, Nat.reduceLT, Int.reduceToNat, Int.reduceAdd, Int.reduceSub, Int.reduceMul, Int.reduceNeg, Int.reduceLE, Int.reduceLT, Int.toNat_natCast, Int.cast_ofNat_Int, Int.reduceNe, Int.reduceEq, Int.reduceBEq, Int.reduceBNe, not_false_eq_true, ne_eq, Int.reduceTMod, Int.reduceTDiv, beq_self_eq_true, bne_self_eq_false, List.contains_cons, List.contains_nil, Nat.reduceBEq]
          exact ⟨⟨0 + 1, by omega⟩, by dsimp only; omega, Ents.envH (by simp [go_sem]) rfl⟩
        · rw [show arrC B1 B2 B3 1 = BlC (er B1) (InS B1.op) (RcS B1.qu) (.fsl 1 0 []) ++ (BlC B2 (InS B2.op) (RcS B2.qu) (NoS B2.no) ++ BlC B3 (InS B3.op) (RcS B3.qu) (NoS B3.no)) from rfl]
          simp only [BlC, InS, RcS_eq, NoS, List.cons_append, List.nil_append]
          simp (disch := first | omega | (simp only [List.length_cons, List.length_nil]; first | done | omega)) only [go_sem, Nat.reduceAdd, Nat.reduceMul, Nat.reduceSub, Nat.reduceEqDiff, Nat.reduceLeDiff, Nat.reduceMod, Nat.reduceLT, Int.reduceToNat, Int.reduceAdd, Int.reduceSub, Int.reduceMul, Int.reduceNeg, Int.reduceLE, Int.reduceLT, Int.toNat_natCast, Int.cast_ofNat_Int, Int.reduceNe, Int.reduceEq, Int.reduceBEq, Int.reduceBNe, not_false_eq_true, ne_eq, Int.reduceTMod, Int.reduceTDiv, beq_self_eq_true, bne_self_eq_false, List.contains_cons, List.contains_nil, Nat.reduceBEq]
          exact ⟨⟨1 + 1, by omega⟩, by dsimp only; omega, Ents.envH (by simp [go_sem]) rfl⟩
        · rw [show arrC B1 B2 B3 2 = BlC (er B1) (InS B1.op) (RcS B1.qu) (.fsl 1 0 []) ++ (BlC (er B2) (InS B2.op) (RcS B2.qu) (.fsl 1 0 []) ++ BlC B3 (InS B3.op) (RcS B3.qu) (NoS B3.no)) from rfl]
          simp only [BlC, InS, RcS_eq, NoS, List.cons_append, List.nil_append]
          simp (disch := first | omega | (simp only [List.length_cons, List.length_nil]; first | done | omega)) only [go_sem, Nat.reduceAdd, Nat.reduceMul, Nat.reduceSub, Nat.reduceEqDiff, Nat.reduceLeDiff, Nat.reduceMod, Nat.reduceLT, Int.reduceToNat, Int.reduceAdd, Int.reduceSub, Int.reduceMul, Int.reduceNeg, Int.reduceLE, Int.reduceLT, Int.toNat_natCast, Int.cast_ofNat_Int, Int.reduceNe, Int.reduceEq, Int.reduceBEq, Int.reduceBNe, not_false_eq_true, ne_eq, Int.reduceTMod, Int.reduceTDiv, beq_self_eq_true, bne_self_eq_false, List.contains_cons, List.contains_nil, Nat.reduceBEq]
          exact ⟨⟨2 + 1, by omega⟩, by dsimp only; omega, Ents.envH (by simp [go_sem]) rfl⟩
      · obtain rfl : i = 3 := by omega
        rw [show arrC B1 B2 B3 3 = BlC (er B1) (InS B1.op) (RcS B1.qu) (.fsl 1 0 []) ++ (BlC (er B2) (InS B2.op) (RcS B2.qu) (.fsl 1 0 []) ++ BlC (er B3) (InS B3.op) (RcS B3.qu) (.fsl 1 0 [])) from rfl]
        simp only [BlC, InS, RcS_eq, NoS, er, List.cons_append, List.nil_append]
        simp (disch := first | omega | (simp only [List.length_cons, List.length_nil]; first | done | omega)) only [go_sem, Nat.reduceAdd, Nat.reduceMul, Nat.reduceSub, Nat.reduceEqDiff, Nat.reduceLeDiff, Nat.reduceMod, Nat.reduceLT, Int.reduceToNat, Int.reduceAdd, Int.reduceSub, Int.reduceMul, Int.reduceNeg, Int.reduceLE, Int.reduceLT, Int.toNat_natCast, Int.cast_ofNat_Int, Int.reduceNe, Int.reduceEq, Int.reduceBEq, Int.reduceBNe, not_false_eq_true, ne_eq, Int.reduceTMod, Int.reduceTDiv, beq_self_eq_true, bne_self_eq_false, List.contains_cons, List.contains_nil, Nat.reduceBEq]
        first | refine call_U (hs1) ?_ | refine call_T (hs1) ?_ | refine call_N (hs1) ?_ | refine call_of (hs1) ?_
        simp (disch := first | omega | (simp only [List.length_cons, List.length_nil]; first | done | omega)) only [go_sem, Nat.reduceAdd, Nat.reduceMul, Nat.reduceSub, Nat.reduceEqDiff, Nat.reduceLeDiff, Nat.reduceMod, Nat.reduceLT, Int.reduceToNat, Int.reduceAdd, Int.reduceSub, Int.reduceMul, Int.reduceNeg, Int.reduceLE, Int.reduceLT, Int.toNat_natCast, Int.cast_ofNat_Int, Int.reduceNe, Int.reduceEq, Int.reduceBEq, Int.reduceBNe, not_false_eq_true, ne_eq, Int.reduceTMod, Int.reduceTDiv, beq_self_eq_true, bne_self_eq_false, List.contains_cons, List.contains_nil, Nat.reduceBEq]
        first | refine callG_U (fun hg => hs2) ?_ | refine callG_T (fun hg => hs2) ?_ | refine callG_of (fun hg => hs2) ?_
        simp (disch := first | omega | (simp only [List.length_cons, List.length_nil]; first | done | omega)) only [go_sem, Nat.reduceAdd, Nat.reduceMul, Nat.reduceSub, Nat.reduceEqDiff, Nat.reduceLeDiff, Nat.reduceMod, Nat.reduceLT, Int.reduceToNat, Int.reduceAdd, Int.reduceSub, Int.reduceMul, Int.reduceNeg, Int.reduceLE, Int.reduceLT, Int.toNat_natCast, Int.cast_ofNat_Int, Int.reduceNe, Int.reduceEq, Int.reduceBEq, Int.reduceBNe, not_false_eq_true, ne_eq, Int.reduceTMod, Int.reduceTDiv, beq_self_eq_true, bne_self_eq_false, List.contains_cons, List.contains_nil, Nat.reduceBEq]
        first | refine callG_U (fun hg => awake) ?_ | refine callG_T (fun hg => awake) ?_ | refine callG_of (fun hg => awake) ?_
        simp (disch := first | omega | (simp only [List.length_cons, List.length_nil]; first | done | omega)) only [go_sem, Nat.reduceAdd, Nat.reduceMul, Nat.reduceSub, Nat.reduceEqDiff, Nat.reduceLeDiff, Nat.reduceMod, Nat.reduceLT, Int.reduceToNat, Int.reduceAdd, Int.reduceSub, Int.reduceMul, Int.reduceNeg, Int.reduceLE, Int.reduceLT, Int.toNat_natCast, Int.cast_ofNat_Int, Int.reduceNe, Int.reduceEq, Int.reduceBEq, Int.reduceBNe, not_false_eq_true, ne_eq, Int.reduceTMod, Int.reduceTDiv, beq_self_eq_true, bne_self_eq_false, List.contains_cons, List.contains_nil, Nat.reduceBEq]
end Go.Proofs.Ytofpepjehiohcaa
