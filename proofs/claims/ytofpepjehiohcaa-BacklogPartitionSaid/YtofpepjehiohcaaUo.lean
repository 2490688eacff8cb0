/- Layer 20: the reference: offers. -/
import Derived.Test.YtofpepjehiohcaaUn
namespace Go.Proofs.Ytofpepjehiohcaa
open Go Go.Lx
set_option linter.unusedSimpArgs false
set_option linter.unusedVariables false
set_option maxRecDepth 100000
set_option maxHeartbeats 2000000

theorem Acts2.name {f : FuncId} {args args' : List LV} {i i' j : Nat} {e1 e2 : Ent} {Q : LV → Ent → Ent → Prop} (h : Acts2 Try.prog gl f args i e1 j e2 Q) (ha : leVs args' args) : Acts2 Try.prog gl f args' i' e1 j e2 Q :=
  fun w0 M HF w vs hI hv => (h w0 M HF w vs (hI.names (by simp)) (ha.rvs hv)).mono fun _ _ ⟨M', v, r, H', h1, h2, h3, h4, e1', e2', h5, h6⟩ =>
    ⟨M', v, r, [(i', e1'), (j, e2')], h1, h2, h3, by subst h5; exact h4.names (by simp), e1', e2', rfl, h6⟩
theorem roffer (b : Bl) (k : Nat) (hk : okK k b) (hpf : pend b.pd = true → b.pd.f ≠ 0) (t n : Int) : Pure Try.prog gl 14 [BlL b, .int .i64 t, .int .i64 n] (.tup [BlL (offB b t n).1, .int .i64 (offB b t n).2.1, .bool (offB b t n).2.2]) := by
  refine fn_viewT Try.func14 t14 Try.ntmps14 (by simp) ?_
  have hc := rcopy b hk.okB
  have hpd := rpend b (InS b.op) (RcS b.qu) (NoS b.no)
  have hk' := hk
  obtain ⟨k0, k1_, k2, k3, k4, k5, k6, k7, k8, k9, k10, k11, k12, k13, k14⟩ := hk'
  generalize hB : offB b t n = B
  obtain ⟨B, S, A⟩ := B
  dsimp only
  rw [show BlL B = .agg (BlC B (InS B.op) (RcS B.qu) (NoS B.no)) from rfl]
  generalize hX : LV.agg (BlC B (InS B.op) (RcS B.qu) (NoS B.no)) = X
  unfold BlL BlC InS RcS NoS at hc
  unfold BlC InS RcS NoS at hpd
  have hwr : 0 ≤ t → t ≤ 1099511627776 → IntKind.i64.wrap (t.tdiv 1000) = t.tdiv 1000 := fun h1 h2 => by
    have h1 : t.tdiv 1000 = t / 1000 := Int.tdiv_eq_ediv_of_nonneg h1
    rw [h1]; exact wrap_i64 (by omega) (by omega)
  have hl1 := fun p t3 o q => rlose1 b k hk hpf p t3 o q t
  have hl2 := fun p t3 o q => rlose2 b k hk hpf p t3 o q t
  have hl3 := fun p t3 o q => rlose3 b k hk hpf p t3 o q t
  have hrt := fun p t2 o n => rtell b k hk p t2 o n t
  unfold BlC at hl1 hl2 hl3 hrt
  unfold c14 r14 BlL BlC InS RcS NoS
  simp (disch := first | omega | (simp only [List.length_cons, List.length_nil]; first | done | omega)) only [go_sem, Nat.reduceAdd, Nat.reduceMul, Nat.reduceSub, Nat.reduceEqDiff, Nat.reduceLeDiff, Nat.reduceMod, Nat.reduceLT, Int.reduceToNat, Int.reduceAdd, Int.reduceSub, Int.reduceMul, Int.reduceNeg, Int.reduceLE, Int.reduceLT, Int.toNat_natCast, Int.cast_ofNat_Int, Int.reduceNe, Int.reduceEq, Int.reduceBEq, Int.reduceBNe, not_false_eq_true, ne_eq, Int.reduceTMod, Int.reduceTDiv, beq_self_eq_true, bne_self_eq_false, List.contains_cons, List.contains_nil, Nat.reduceBEq]
  intro p3 p6
  first | refine newsQ_U (hc) ?_ | refine newsQ_T (hc) ?_ | refine newsQ_of (hc) ?_
  rintro _ _ ⟨t1, t2, t3, rfl, rfl⟩
  unfold BlT BlTH BlC
  simp (disch := first | omega | (simp only [List.length_cons, List.length_nil]; first | done | omega)) only [go_sem, Nat.reduceAdd, Nat.reduceMul, Nat.reduceSub, Nat.reduceEqDiff, Nat.reduceLeDiff, Nat.reduceMod, Nat.reduceLT, Int.reduceToNat, Int.reduceAdd, Int.reduceSub, Int.reduceMul, Int.reduceNeg, Int.reduceLE, Int.reduceLT, Int.toNat_natCast, Int.cast_ofNat_Int, Int.reduceNe, Int.reduceEq, Int.reduceBEq, Int.reduceBNe, not_false_eq_true, ne_eq, Int.reduceTMod, Int.reduceTDiv, beq_self_eq_true, bne_self_eq_false, List.contains_cons, List.contains_nil, Nat.reduceBEq]
  intro p9
  repeat' (first | (simp (disch := first | omega | (simp only [List.length_cons, List.length_nil]; first | done | omega)) only [go_sem, Nat.reduceAdd, Nat.reduceMul, Nat.reduceSub, Nat.reduceEqDiff, Nat.reduceLeDiff, Nat.reduceMod, Nat.reduceLT, Int.reduceToNat, Int.reduceAdd, Int.reduceSub, Int.reduceMul, Int.reduceNeg, Int.reduceLE, Int.reduceLT, Int.toNat_natCast, Int.cast_ofNat_Int, Int.reduceNe, Int.reduceEq, Int.reduceBEq, Int.reduceBNe, not_false_eq_true, ne_eq, Int.reduceTMod, Int.reduceTDiv, beq_self_eq_true, bne_self_eq_false, List.contains_cons, List.contains_nil, Nat.reduceBEq]) | (refine allI (fun b => ?_)) | (refine allT (fun τ => ?_)) | (refine brP (fun h => ?_) (fun h => ?_) <;> (try simp only [Bool.and_eq_true, Bool.and_eq_false_iff, Bool.or_eq_true, Bool.or_eq_false_iff, Bool.not_eq_true', Bool.not_eq_false', decide_eq_true_eq, decide_eq_false_iff_not, beq_iff_eq, beq_eq_false_iff_ne, ne_eq, bne_iff_ne, Int.not_lt, Int.not_le] at h)))
  · rw [offB, if_pos (by omega)] at hB
    cases hB
    subst hX
    exact view_sub (leV.tup ⟨leV.agg (BlT_le b t1 t2 t3), leV.refl _, leV.refl _, trivial⟩) (List.nil_sublist _)
  · have hw := hwr (by omega) (by omega)
    rw [offB, if_neg (by omega)] at hB
    first | refine call_U (hpd) ?_ | refine call_T (hpd) ?_ | refine call_N (hpd) ?_ | refine call_of (hpd) ?_
    have hg : b.op.length = 0 ∨ (0 < b.op.length ∧ (0 ≤ b.op.getD 0 0 ∧ b.op.getD 0 0 ≤ 2 * k)) := by
      rcases Nat.eq_zero_or_pos b.op.length with h | h
      · exact .inl h
      · exact .inr ⟨h, k7 _ (getD_mem h)⟩
    have hd0 : ∃ g x : Bool, decide ((0 : Int) < b.op.length) = g ∧ (g = true → (0 < b.op.length ∧ (b.op.map (LV.int .i64)).getD 0 .any = .int .i64 (b.op.getD 0 0))) := by
      refine ⟨_, true, rfl, fun h => ?_⟩
      simp only [decide_eq_true_eq] at h
      have h : 0 < b.op.length := by omega
      exact ⟨h, by rw [getD_int h]⟩
    obtain ⟨gg, _, hd0, hgd⟩ := hd0
    have hom : ∀ s, b.op.map (LV.int .i64) ++ [.int .i64 s] = (b.op ++ [s]).map (LV.int .i64) := fun s => by simp
    have hol : ∀ s, b.op.length + 1 = (b.op ++ [s]).length := fun s => by simp
    cases hP : pend b.pd
    · rw [hP] at hB
      simp only [Bool.false_eq_true, if_false, Int.add_zero, if_true] at hB
      repeat' (first | (simp (disch := first | omega | (simp only [List.length_cons, List.length_nil]; first | done | omega)) only [go_sem, Nat.reduceAdd, Nat.reduceMul, Nat.reduceSub, Nat.reduceEqDiff, Nat.reduceLeDiff, Nat.reduceMod, Nat.reduceLT, Int.reduceToNat, Int.reduceAdd, Int.reduceSub, Int.reduceMul, Int.reduceNeg, Int.reduceLE, Int.reduceLT, Int.toNat_natCast, Int.cast_ofNat_Int, Int.reduceNe, Int.reduceEq, Int.reduceBEq, Int.reduceBNe, not_false_eq_true, ne_eq, Int.reduceTMod, Int.reduceTDiv, beq_self_eq_true, bne_self_eq_false, List.contains_cons, List.contains_nil, Nat.reduceBEq, hw, Int.add_zero]) | (refine allI (fun b => ?_)) | (refine allT (fun τ => ?_)) | (refine brP (fun h => ?_) (fun h => ?_) <;> (try simp only [Bool.and_eq_true, Bool.and_eq_false_iff, Bool.or_eq_true, Bool.or_eq_false_iff, Bool.not_eq_true', Bool.not_eq_false', decide_eq_true_eq, decide_eq_false_iff_not, beq_iff_eq, beq_eq_false_iff_ne, ne_eq, bne_iff_ne, Int.not_lt, Int.not_le] at h)))
      · have hR : refuse b (b.ser + 1) t n = 1 := by rw [refuse, if_pos (by simp only [ne_eq]; omega)]
        first | refine acts2_U (hl1 _ _ _ _) (by omega) rfl rfl ?_ | refine acts2_T (hl1 _ _ _ _) (by omega) rfl rfl ?_ | refine acts2_N (hl1 _ _ _ _) (by omega) rfl rfl ?_ | refine acts2_of (hl1 _ _ _ _) (by omega) rfl rfl ?_
        rintro _ _ _ ⟨t3', rfl, rfl⟩
        simp (disch := first | omega | (simp only [List.length_cons, List.length_nil]; first | done | omega)) only [go_sem, Nat.reduceAdd, Nat.reduceMul, Nat.reduceSub, Nat.reduceEqDiff, Nat.reduceLeDiff, Nat.reduceMod, Nat.reduceLT, Int.reduceToNat, Int.reduceAdd, Int.reduceSub, Int.reduceMul, Int.reduceNeg, Int.reduceLE, Int.reduceLT, Int.toNat_natCast, Int.cast_ofNat_Int, Int.reduceNe, Int.reduceEq, Int.reduceBEq, Int.reduceBNe, not_false_eq_true, ne_eq, Int.reduceTMod, Int.reduceTDiv, beq_self_eq_true, bne_self_eq_false, List.contains_cons, List.contains_nil, Nat.reduceBEq]
        rw [hR, if_pos (by omega)] at hB
        cases hB
        subst hX
        exact view_sub (leV.tup ⟨leV.agg (BlT_le (loseB b 1 t) t1 t2 t3'), leV.refl _, leV.refl _, trivial⟩) (List.nil_sublist _)
      · have hR : refuse b (b.ser + 1) t n = 2 := by
          rename_i h2
          rw [refuse, if_neg (by simp only [ne_eq, bne_eq_false_iff_eq] at h2 ⊢; omega), if_pos (by simp only [hP, if_true, Bool.false_eq_true, if_false]; omega)]
        first | refine acts2_U (hl2 _ _ _ _) (by omega) rfl rfl ?_ | refine acts2_T (hl2 _ _ _ _) (by omega) rfl rfl ?_ | refine acts2_N (hl2 _ _ _ _) (by omega) rfl rfl ?_ | refine acts2_of (hl2 _ _ _ _) (by omega) rfl rfl ?_
        rintro _ _ _ ⟨t3', rfl, rfl⟩
        simp (disch := first | omega | (simp only [List.length_cons, List.length_nil]; first | done | omega)) only [go_sem, Nat.reduceAdd, Nat.reduceMul, Nat.reduceSub, Nat.reduceEqDiff, Nat.reduceLeDiff, Nat.reduceMod, Nat.reduceLT, Int.reduceToNat, Int.reduceAdd, Int.reduceSub, Int.reduceMul, Int.reduceNeg, Int.reduceLE, Int.reduceLT, Int.toNat_natCast, Int.cast_ofNat_Int, Int.reduceNe, Int.reduceEq, Int.reduceBEq, Int.reduceBNe, not_false_eq_true, ne_eq, Int.reduceTMod, Int.reduceTDiv, beq_self_eq_true, bne_self_eq_false, List.contains_cons, List.contains_nil, Nat.reduceBEq]
        rw [hR, if_pos (by omega)] at hB
        cases hB
        subst hX
        exact view_sub (leV.tup ⟨leV.agg (BlT_le (loseB b 2 t) t1 t2 t3'), leV.refl _, leV.refl _, trivial⟩) (List.nil_sublist _)
      · rename_i h2
        have e1 : ¬ (b.rate ≠ 0 ∧ t.tdiv 1000 = b.win ∧ b.rate ≤ b.used) := by simp only [ne_eq, bne_eq_false_iff_eq] at h2 ⊢; omega
        have e2 : ¬ (b.lim < b.qu.length + b.res + n + (if pend b.pd then 1 else 0)) := by simp only [hP, if_true, Bool.false_eq_true, if_false]; omega
        have e3 : refuse b (b.ser + 1) t n = if 0 < b.op.length ∧ 64 ≤ (b.ser + 1) - b.op.getD 0 0 then 3 else 0 := by rw [refuse, if_neg e1, if_neg e2]
        clear h2 e1 e2
        rw [hd0]
        have hacc : refuse b (b.ser + 1) t n = 0 → accB b (b.ser + 1) t n = B ∧ (b.ser + 1) = S ∧ true = A := fun h0 => by
          rw [h0, if_neg (by simp)] at hB
          simpa using hB
        cases gg with
        | false =>
          simp only [decide_eq_false_iff_not] at hd0
          have h0 : b.op = [] := List.length_eq_zero_iff.1 (by omega)
          have h1 : (b.op.map (LV.int .i64)).getD 0 .any = .any := by rw [h0]; rfl
          rw [h1]
          have hacc := hacc (by rw [e3, if_neg]; omega)
          repeat' (first | (simp (disch := first | omega | (simp only [List.length_cons, List.length_nil]; first | done | omega)) only [go_sem, Nat.reduceAdd, Nat.reduceMul, Nat.reduceSub, Nat.reduceEqDiff, Nat.reduceLeDiff, Nat.reduceMod, Nat.reduceLT, Int.reduceToNat, Int.reduceAdd, Int.reduceSub, Int.reduceMul, Int.reduceNeg, Int.reduceLE, Int.reduceLT, Int.toNat_natCast, Int.cast_ofNat_Int, Int.reduceNe, Int.reduceEq, Int.reduceBEq, Int.reduceBNe, not_false_eq_true, ne_eq, Int.reduceTMod, Int.reduceTDiv, beq_self_eq_true, bne_self_eq_false, List.contains_cons, List.contains_nil, Nat.reduceBEq, Bool.false_eq_true, false_implies, true_and, bin_anyR, bin_anyL, pick_0a0]) | (refine allI (fun b => ?_)) | (refine allT (fun τ => ?_)) | (refine brP (fun h => ?_) (fun h => ?_) <;> (try simp only [Bool.and_eq_true, Bool.and_eq_false_iff, Bool.or_eq_true, Bool.or_eq_false_iff, Bool.not_eq_true', Bool.not_eq_false', decide_eq_true_eq, decide_eq_false_iff_not, beq_iff_eq, beq_eq_false_iff_ne, ne_eq, bne_iff_ne, Int.not_lt, Int.not_le] at h)))
          skip
          refine ⟨by simp only [roomy]; omega, fun t1' => ?_⟩
          rw [hom, hol (b.ser + 1)]
          repeat' (first | (simp (disch := first | omega | (simp only [List.length_cons, List.length_nil]; first | done | omega)) only [go_sem, Nat.reduceAdd, Nat.reduceMul, Nat.reduceSub, Nat.reduceEqDiff, Nat.reduceLeDiff, Nat.reduceMod, Nat.reduceLT, Int.reduceToNat, Int.reduceAdd, Int.reduceSub, Int.reduceMul, Int.reduceNeg, Int.reduceLE, Int.reduceLT, Int.toNat_natCast, Int.cast_ofNat_Int, Int.reduceNe, Int.reduceEq, Int.reduceBEq, Int.reduceBNe, not_false_eq_true, ne_eq, Int.reduceTMod, Int.reduceTDiv, beq_self_eq_true, bne_self_eq_false, List.contains_cons, List.contains_nil, Nat.reduceBEq, hw]) | (refine allI (fun b => ?_)) | (refine allT (fun τ => ?_)) | (refine brP (fun h => ?_) (fun h => ?_) <;> (try simp only [Bool.and_eq_true, Bool.and_eq_false_iff, Bool.or_eq_true, Bool.or_eq_false_iff, Bool.not_eq_true', Bool.not_eq_false', decide_eq_true_eq, decide_eq_false_iff_not, beq_iff_eq, beq_eq_false_iff_ne, ne_eq, bne_iff_ne, Int.not_lt, Int.not_le] at h)))
          · have h' : ¬ t.tdiv 1000 = b.win := by simpa using h
            have hA : accB b (b.ser + 1) t n = { b with ser := (b.ser + 1), res := b.res + n, op := b.op ++ [(b.ser + 1)], win := t.tdiv 1000, used := 1 } := by simp [accB, reportB, h']
            rw [hA] at hacc
            obtain ⟨rfl, rfl, rfl⟩ := hacc
            subst hX
            exact view_sub (leV.tup ⟨leV.agg (BlT_le { b with ser := (b.ser + 1), res := b.res + n, op := b.op ++ [(b.ser + 1)], win := t.tdiv 1000, used := 1 } t1' t2 t3), leV.refl _, leV.refl _, trivial⟩) (List.nil_sublist _)
          · have h' : t.tdiv 1000 = b.win := by simpa using h
            have hA : accB b (b.ser + 1) t n = { b with ser := (b.ser + 1), res := b.res + n, op := b.op ++ [(b.ser + 1)], used := b.used + 1 } := by simp [accB, reportB, h']
            rw [hA] at hacc
            obtain ⟨rfl, rfl, rfl⟩ := hacc
            subst hX
            exact view_sub (leV.tup ⟨leV.agg (BlT_le { b with ser := (b.ser + 1), res := b.res + n, op := b.op ++ [(b.ser + 1)], used := b.used + 1 } t1' t2 t3), leV.refl _, leV.refl _, trivial⟩) (List.nil_sublist _)
        | true =>
          obtain ⟨h0, h1⟩ := hgd rfl
          have h2 : 0 ≤ b.op.getD 0 0 ∧ b.op.getD 0 0 ≤ 2 * k := k7 _ (getD_mem h0)
          rw [h1]
          repeat' (first | (simp (disch := first | omega | (simp only [List.length_cons, List.length_nil]; first | done | omega)) only [go_sem, Nat.reduceAdd, Nat.reduceMul, Nat.reduceSub, Nat.reduceEqDiff, Nat.reduceLeDiff, Nat.reduceMod, Nat.reduceLT, Int.reduceToNat, Int.reduceAdd, Int.reduceSub, Int.reduceMul, Int.reduceNeg, Int.reduceLE, Int.reduceLT, Int.toNat_natCast, Int.cast_ofNat_Int, Int.reduceNe, Int.reduceEq, Int.reduceBEq, Int.reduceBNe, not_false_eq_true, ne_eq, Int.reduceTMod, Int.reduceTDiv, beq_self_eq_true, bne_self_eq_false, List.contains_cons, List.contains_nil, Nat.reduceBEq, forall_const, true_and, List.length_map]) | (refine allI (fun b => ?_)) | (refine allT (fun τ => ?_)) | (refine brP (fun h => ?_) (fun h => ?_) <;> (try simp only [Bool.and_eq_true, Bool.and_eq_false_iff, Bool.or_eq_true, Bool.or_eq_false_iff, Bool.not_eq_true', Bool.not_eq_false', decide_eq_true_eq, decide_eq_false_iff_not, beq_iff_eq, beq_eq_false_iff_ne, ne_eq, bne_iff_ne, Int.not_lt, Int.not_le] at h)))
          refine ⟨by omega, by omega, ?_⟩
          repeat' (first | (simp (disch := first | omega | (simp only [List.length_cons, List.length_nil]; first | done | omega)) only [go_sem, Nat.reduceAdd, Nat.reduceMul, Nat.reduceSub, Nat.reduceEqDiff, Nat.reduceLeDiff, Nat.reduceMod, Nat.reduceLT, Int.reduceToNat, Int.reduceAdd, Int.reduceSub, Int.reduceMul, Int.reduceNeg, Int.reduceLE, Int.reduceLT, Int.toNat_natCast, Int.cast_ofNat_Int, Int.reduceNe, Int.reduceEq, Int.reduceBEq, Int.reduceBNe, not_false_eq_true, ne_eq, Int.reduceTMod, Int.reduceTDiv, beq_self_eq_true, bne_self_eq_false, List.contains_cons, List.contains_nil, Nat.reduceBEq]) | (refine allI (fun b => ?_)) | (refine allT (fun τ => ?_)) | (refine brP (fun h => ?_) (fun h => ?_) <;> (try simp only [Bool.and_eq_true, Bool.and_eq_false_iff, Bool.or_eq_true, Bool.or_eq_false_iff, Bool.not_eq_true', Bool.not_eq_false', decide_eq_true_eq, decide_eq_false_iff_not, beq_iff_eq, beq_eq_false_iff_ne, ne_eq, bne_iff_ne, Int.not_lt, Int.not_le] at h)))
          · have hR : refuse b (b.ser + 1) t n = 3 := by rw [e3, if_pos (by omega)]
            first | refine acts2_U (hl3 _ _ _ _) (by omega) rfl rfl ?_ | refine acts2_T (hl3 _ _ _ _) (by omega) rfl rfl ?_ | refine acts2_N (hl3 _ _ _ _) (by omega) rfl rfl ?_ | refine acts2_of (hl3 _ _ _ _) (by omega) rfl rfl ?_
            rintro _ _ _ ⟨t3', rfl, rfl⟩
            simp (disch := first | omega | (simp only [List.length_cons, List.length_nil]; first | done | omega)) only [go_sem, Nat.reduceAdd, Nat.reduceMul, Nat.reduceSub, Nat.reduceEqDiff, Nat.reduceLeDiff, Nat.reduceMod, Nat.reduceLT, Int.reduceToNat, Int.reduceAdd, Int.reduceSub, Int.reduceMul, Int.reduceNeg, Int.reduceLE, Int.reduceLT, Int.toNat_natCast, Int.cast_ofNat_Int, Int.reduceNe, Int.reduceEq, Int.reduceBEq, Int.reduceBNe, not_false_eq_true, ne_eq, Int.reduceTMod, Int.reduceTDiv, beq_self_eq_true, bne_self_eq_false, List.contains_cons, List.contains_nil, Nat.reduceBEq]
            rw [hR, if_pos (by omega)] at hB
            cases hB
            subst hX
            exact view_sub (leV.tup ⟨leV.agg (BlT_le (loseB b 3 t) t1 t2 t3'), leV.refl _, leV.refl _, trivial⟩) (List.nil_sublist _)
          · have hacc := hacc (by rw [e3, if_neg (by omega)])
            skip
            refine ⟨by simp only [roomy]; omega, fun t1' => ?_⟩
            rw [hom, hol (b.ser + 1)]
            repeat' (first | (simp (disch := first | omega | (simp only [List.length_cons, List.length_nil]; first | done | omega)) only [go_sem, Nat.reduceAdd, Nat.reduceMul, Nat.reduceSub, Nat.reduceEqDiff, Nat.reduceLeDiff, Nat.reduceMod, Nat.reduceLT, Int.reduceToNat, Int.reduceAdd, Int.reduceSub, Int.reduceMul, Int.reduceNeg, Int.reduceLE, Int.reduceLT, Int.toNat_natCast, Int.cast_ofNat_Int, Int.reduceNe, Int.reduceEq, Int.reduceBEq, Int.reduceBNe, not_false_eq_true, ne_eq, Int.reduceTMod, Int.reduceTDiv, beq_self_eq_true, bne_self_eq_false, List.contains_cons, List.contains_nil, Nat.reduceBEq, hw]) | (refine allI (fun b => ?_)) | (refine allT (fun τ => ?_)) | (refine brP (fun h => ?_) (fun h => ?_) <;> (try simp only [Bool.and_eq_true, Bool.and_eq_false_iff, Bool.or_eq_true, Bool.or_eq_false_iff, Bool.not_eq_true', Bool.not_eq_false', decide_eq_true_eq, decide_eq_false_iff_not, beq_iff_eq, beq_eq_false_iff_ne, ne_eq, bne_iff_ne, Int.not_lt, Int.not_le] at h)))
            · have h' : ¬ t.tdiv 1000 = b.win := by simpa using h
              have hA : accB b (b.ser + 1) t n = { b with ser := (b.ser + 1), res := b.res + n, op := b.op ++ [(b.ser + 1)], win := t.tdiv 1000, used := 1 } := by simp [accB, reportB, h']
              rw [hA] at hacc
              obtain ⟨rfl, rfl, rfl⟩ := hacc
              subst hX
              exact view_sub (leV.tup ⟨leV.agg (BlT_le { b with ser := (b.ser + 1), res := b.res + n, op := b.op ++ [(b.ser + 1)], win := t.tdiv 1000, used := 1 } t1' t2 t3), leV.refl _, leV.refl _, trivial⟩) (List.nil_sublist _)
            · have h' : t.tdiv 1000 = b.win := by simpa using h
              have hA : accB b (b.ser + 1) t n = { b with ser := (b.ser + 1), res := b.res + n, op := b.op ++ [(b.ser + 1)], used := b.used + 1 } := by simp [accB, reportB, h']
              rw [hA] at hacc
              obtain ⟨rfl, rfl, rfl⟩ := hacc
              subst hX
              exact view_sub (leV.tup ⟨leV.agg (BlT_le { b with ser := (b.ser + 1), res := b.res + n, op := b.op ++ [(b.ser + 1)], used := b.used + 1 } t1' t2 t3), leV.refl _, leV.refl _, trivial⟩) (List.nil_sublist _)
    · rw [hP] at hB
      simp only [Bool.false_eq_true, if_false, Int.add_zero, if_true] at hB
      repeat' (first | (simp (disch := first | omega | (simp only [List.length_cons, List.length_nil]; first | done | omega)) only [go_sem, Nat.reduceAdd, Nat.reduceMul, Nat.reduceSub, Nat.reduceEqDiff, Nat.reduceLeDiff, Nat.reduceMod, Nat.reduceLT, Int.reduceToNat, Int.reduceAdd, Int.reduceSub, Int.reduceMul, Int.reduceNeg, Int.reduceLE, Int.reduceLT, Int.toNat_natCast, Int.cast_ofNat_Int, Int.reduceNe, Int.reduceEq, Int.reduceBEq, Int.reduceBNe, not_false_eq_true, ne_eq, Int.reduceTMod, Int.reduceTDiv, beq_self_eq_true, bne_self_eq_false, List.contains_cons, List.contains_nil, Nat.reduceBEq, hw, Int.add_zero]) | (refine allI (fun b => ?_)) | (refine allT (fun τ => ?_)) | (refine brP (fun h => ?_) (fun h => ?_) <;> (try simp only [Bool.and_eq_true, Bool.and_eq_false_iff, Bool.or_eq_true, Bool.or_eq_false_iff, Bool.not_eq_true', Bool.not_eq_false', decide_eq_true_eq, decide_eq_false_iff_not, beq_iff_eq, beq_eq_false_iff_ne, ne_eq, bne_iff_ne, Int.not_lt, Int.not_le] at h)))
      · have hR : refuse b (b.ser + 1 + 1) t n = 1 := by rw [refuse, if_pos (by simp only [ne_eq]; omega)]
        first | refine acts2_U (hl1 _ _ _ _) (by omega) rfl rfl ?_ | refine acts2_T (hl1 _ _ _ _) (by omega) rfl rfl ?_ | refine acts2_N (hl1 _ _ _ _) (by omega) rfl rfl ?_ | refine acts2_of (hl1 _ _ _ _) (by omega) rfl rfl ?_
        rintro _ _ _ ⟨t3', rfl, rfl⟩
        simp (disch := first | omega | (simp only [List.length_cons, List.length_nil]; first | done | omega)) only [go_sem, Nat.reduceAdd, Nat.reduceMul, Nat.reduceSub, Nat.reduceEqDiff, Nat.reduceLeDiff, Nat.reduceMod, Nat.reduceLT, Int.reduceToNat, Int.reduceAdd, Int.reduceSub, Int.reduceMul, Int.reduceNeg, Int.reduceLE, Int.reduceLT, Int.toNat_natCast, Int.cast_ofNat_Int, Int.reduceNe, Int.reduceEq, Int.reduceBEq, Int.reduceBNe, not_false_eq_true, ne_eq, Int.reduceTMod, Int.reduceTDiv, beq_self_eq_true, bne_self_eq_false, List.contains_cons, List.contains_nil, Nat.reduceBEq]
        rw [hR, if_pos (by omega)] at hB
        cases hB
        subst hX
        exact view_sub (leV.tup ⟨leV.agg (BlT_le (loseB b 1 t) t1 t2 t3'), leV.refl _, leV.refl _, trivial⟩) (List.nil_sublist _)
      · have hR : refuse b (b.ser + 1 + 1) t n = 2 := by
          rename_i h2
          rw [refuse, if_neg (by simp only [ne_eq, bne_eq_false_iff_eq] at h2 ⊢; omega), if_pos (by simp only [hP, if_true, Bool.false_eq_true, if_false]; omega)]
        first | refine acts2_U (hl2 _ _ _ _) (by omega) rfl rfl ?_ | refine acts2_T (hl2 _ _ _ _) (by omega) rfl rfl ?_ | refine acts2_N (hl2 _ _ _ _) (by omega) rfl rfl ?_ | refine acts2_of (hl2 _ _ _ _) (by omega) rfl rfl ?_
        rintro _ _ _ ⟨t3', rfl, rfl⟩
        simp (disch := first | omega | (simp only [List.length_cons, List.length_nil]; first | done | omega)) only [go_sem, Nat.reduceAdd, Nat.reduceMul, Nat.reduceSub, Nat.reduceEqDiff, Nat.reduceLeDiff, Nat.reduceMod, Nat.reduceLT, Int.reduceToNat, Int.reduceAdd, Int.reduceSub, Int.reduceMul, Int.reduceNeg, Int.reduceLE, Int.reduceLT, Int.toNat_natCast, Int.cast_ofNat_Int, Int.reduceNe, Int.reduceEq, Int.reduceBEq, Int.reduceBNe, not_false_eq_true, ne_eq, Int.reduceTMod, Int.reduceTDiv, beq_self_eq_true, bne_self_eq_false, List.contains_cons, List.contains_nil, Nat.reduceBEq]
        rw [hR, if_pos (by omega)] at hB
        cases hB
        subst hX
        exact view_sub (leV.tup ⟨leV.agg (BlT_le (loseB b 2 t) t1 t2 t3'), leV.refl _, leV.refl _, trivial⟩) (List.nil_sublist _)
      · rename_i h2
        have e1 : ¬ (b.rate ≠ 0 ∧ t.tdiv 1000 = b.win ∧ b.rate ≤ b.used) := by simp only [ne_eq, bne_eq_false_iff_eq] at h2 ⊢; omega
        have e2 : ¬ (b.lim < b.qu.length + b.res + n + (if pend b.pd then 1 else 0)) := by simp only [hP, if_true, Bool.false_eq_true, if_false]; omega
        have e3 : refuse b (b.ser + 1 + 1) t n = if 0 < b.op.length ∧ 64 ≤ (b.ser + 1 + 1) - b.op.getD 0 0 then 3 else 0 := by rw [refuse, if_neg e1, if_neg e2]
        clear h2 e1 e2
        rw [hd0]
        have hacc : refuse b (b.ser + 1 + 1) t n = 0 → accB (reportB b t) (b.ser + 1 + 1) t n = B ∧ (b.ser + 1 + 1) = S ∧ true = A := fun h0 => by
          rw [h0, if_neg (by simp)] at hB
          simpa using hB
        cases gg with
        | false =>
          simp only [decide_eq_false_iff_not] at hd0
          have h0 : b.op = [] := List.length_eq_zero_iff.1 (by omega)
          have h1 : (b.op.map (LV.int .i64)).getD 0 .any = .any := by rw [h0]; rfl
          rw [h1]
          have hacc := hacc (by rw [e3, if_neg]; omega)
          repeat' (first | (simp (disch := first | omega | (simp only [List.length_cons, List.length_nil]; first | done | omega)) only [go_sem, Nat.reduceAdd, Nat.reduceMul, Nat.reduceSub, Nat.reduceEqDiff, Nat.reduceLeDiff, Nat.reduceMod, Nat.reduceLT, Int.reduceToNat, Int.reduceAdd, Int.reduceSub, Int.reduceMul, Int.reduceNeg, Int.reduceLE, Int.reduceLT, Int.toNat_natCast, Int.cast_ofNat_Int, Int.reduceNe, Int.reduceEq, Int.reduceBEq, Int.reduceBNe, not_false_eq_true, ne_eq, Int.reduceTMod, Int.reduceTDiv, beq_self_eq_true, bne_self_eq_false, List.contains_cons, List.contains_nil, Nat.reduceBEq, Bool.false_eq_true, false_implies, true_and, bin_anyR, bin_anyL, pick_0a0]) | (refine allI (fun b => ?_)) | (refine allT (fun τ => ?_)) | (refine brP (fun h => ?_) (fun h => ?_) <;> (try simp only [Bool.and_eq_true, Bool.and_eq_false_iff, Bool.or_eq_true, Bool.or_eq_false_iff, Bool.not_eq_true', Bool.not_eq_false', decide_eq_true_eq, decide_eq_false_iff_not, beq_iff_eq, beq_eq_false_iff_ne, ne_eq, bne_iff_ne, Int.not_lt, Int.not_le] at h)))
          first | refine acts2_U (hrt _ _ _ _) (by omega) rfl rfl ?_ | refine acts2_T (hrt _ _ _ _) (by omega) rfl rfl ?_ | refine acts2_N (hrt _ _ _ _) (by omega) rfl rfl ?_ | refine acts2_of (hrt _ _ _ _) (by omega) rfl rfl ?_
          rintro _ _ _ ⟨t2', rfl, rfl⟩
          simp only [reportB]
          simp (disch := first | omega | (simp only [List.length_cons, List.length_nil]; first | done | omega)) only [go_sem, Nat.reduceAdd, Nat.reduceMul, Nat.reduceSub, Nat.reduceEqDiff, Nat.reduceLeDiff, Nat.reduceMod, Nat.reduceLT, Int.reduceToNat, Int.reduceAdd, Int.reduceSub, Int.reduceMul, Int.reduceNeg, Int.reduceLE, Int.reduceLT, Int.toNat_natCast, Int.cast_ofNat_Int, Int.reduceNe, Int.reduceEq, Int.reduceBEq, Int.reduceBNe, not_false_eq_true, ne_eq, Int.reduceTMod, Int.reduceTDiv, beq_self_eq_true, bne_self_eq_false, List.contains_cons, List.contains_nil, Nat.reduceBEq]
          refine ⟨by simp only [roomy]; omega, fun t1' => ?_⟩
          rw [hom, hol (b.ser + 1 + 1)]
          repeat' (first | (simp (disch := first | omega | (simp only [List.length_cons, List.length_nil]; first | done | omega)) only [go_sem, Nat.reduceAdd, Nat.reduceMul, Nat.reduceSub, Nat.reduceEqDiff, Nat.reduceLeDiff, Nat.reduceMod, Nat.reduceLT, Int.reduceToNat, Int.reduceAdd, Int.reduceSub, Int.reduceMul, Int.reduceNeg, Int.reduceLE, Int.reduceLT, Int.toNat_natCast, Int.cast_ofNat_Int, Int.reduceNe, Int.reduceEq, Int.reduceBEq, Int.reduceBNe, not_false_eq_true, ne_eq, Int.reduceTMod, Int.reduceTDiv, beq_self_eq_true, bne_self_eq_false, List.contains_cons, List.contains_nil, Nat.reduceBEq, hw]) | (refine allI (fun b => ?_)) | (refine allT (fun τ => ?_)) | (refine brP (fun h => ?_) (fun h => ?_) <;> (try simp only [Bool.and_eq_true, Bool.and_eq_false_iff, Bool.or_eq_true, Bool.or_eq_false_iff, Bool.not_eq_true', Bool.not_eq_false', decide_eq_true_eq, decide_eq_false_iff_not, beq_iff_eq, beq_eq_false_iff_ne, ne_eq, bne_iff_ne, Int.not_lt, Int.not_le] at h)))
          · have h' : ¬ t.tdiv 1000 = b.win := by simpa using h
            have hA : accB (reportB b t) (b.ser + 1 + 1) t n = { (reportB b t) with ser := (b.ser + 1 + 1), res := b.res + n, op := b.op ++ [(b.ser + 1 + 1)], win := t.tdiv 1000, used := 1 } := by simp [accB, reportB, h']
            rw [hA] at hacc
            obtain ⟨rfl, rfl, rfl⟩ := hacc
            subst hX
            exact view_sub (leV.tup ⟨leV.agg (BlT_le { (reportB b t) with ser := (b.ser + 1 + 1), res := b.res + n, op := b.op ++ [(b.ser + 1 + 1)], win := t.tdiv 1000, used := 1 } t1' t2' t3), leV.refl _, leV.refl _, trivial⟩) (List.nil_sublist _)
          · have h' : t.tdiv 1000 = b.win := by simpa using h
            have hA : accB (reportB b t) (b.ser + 1 + 1) t n = { (reportB b t) with ser := (b.ser + 1 + 1), res := b.res + n, op := b.op ++ [(b.ser + 1 + 1)], used := b.used + 1 } := by simp [accB, reportB, h']
            rw [hA] at hacc
            obtain ⟨rfl, rfl, rfl⟩ := hacc
            subst hX
            exact view_sub (leV.tup ⟨leV.agg (BlT_le { (reportB b t) with ser := (b.ser + 1 + 1), res := b.res + n, op := b.op ++ [(b.ser + 1 + 1)], used := b.used + 1 } t1' t2' t3), leV.refl _, leV.refl _, trivial⟩) (List.nil_sublist _)
        | true =>
          obtain ⟨h0, h1⟩ := hgd rfl
          have h2 : 0 ≤ b.op.getD 0 0 ∧ b.op.getD 0 0 ≤ 2 * k := k7 _ (getD_mem h0)
          rw [h1]
          repeat' (first | (simp (disch := first | omega | (simp only [List.length_cons, List.length_nil]; first | done | omega)) only [go_sem, Nat.reduceAdd, Nat.reduceMul, Nat.reduceSub, Nat.reduceEqDiff, Nat.reduceLeDiff, Nat.reduceMod, Nat.reduceLT, Int.reduceToNat, Int.reduceAdd, Int.reduceSub, Int.reduceMul, Int.reduceNeg, Int.reduceLE, Int.reduceLT, Int.toNat_natCast, Int.cast_ofNat_Int, Int.reduceNe, Int.reduceEq, Int.reduceBEq, Int.reduceBNe, not_false_eq_true, ne_eq, Int.reduceTMod, Int.reduceTDiv, beq_self_eq_true, bne_self_eq_false, List.contains_cons, List.contains_nil, Nat.reduceBEq, forall_const, true_and, List.length_map]) | (refine allI (fun b => ?_)) | (refine allT (fun τ => ?_)) | (refine brP (fun h => ?_) (fun h => ?_) <;> (try simp only [Bool.and_eq_true, Bool.and_eq_false_iff, Bool.or_eq_true, Bool.or_eq_false_iff, Bool.not_eq_true', Bool.not_eq_false', decide_eq_true_eq, decide_eq_false_iff_not, beq_iff_eq, beq_eq_false_iff_ne, ne_eq, bne_iff_ne, Int.not_lt, Int.not_le] at h)))
          refine ⟨by omega, by omega, ?_⟩
          repeat' (first | (simp (disch := first | omega | (simp only [List.length_cons, List.length_nil]; first | done | omega)) only [go_sem, Nat.reduceAdd, Nat.reduceMul, Nat.reduceSub, Nat.reduceEqDiff, Nat.reduceLeDiff, Nat.reduceMod, Nat.reduceLT, Int.reduceToNat, Int.reduceAdd, Int.reduceSub, Int.reduceMul, Int.reduceNeg, Int.reduceLE, Int.reduceLT, Int.toNat_natCast, Int.cast_ofNat_Int, Int.reduceNe, Int.reduceEq, Int.reduceBEq, Int.reduceBNe, not_false_eq_true, ne_eq, Int.reduceTMod, Int.reduceTDiv, beq_self_eq_true, bne_self_eq_false, List.contains_cons, List.contains_nil, Nat.reduceBEq]) | (refine allI (fun b => ?_)) | (refine allT (fun τ => ?_)) | (refine brP (fun h => ?_) (fun h => ?_) <;> (try simp only [Bool.and_eq_true, Bool.and_eq_false_iff, Bool.or_eq_true, Bool.or_eq_false_iff, Bool.not_eq_true', Bool.not_eq_false', decide_eq_true_eq, decide_eq_false_iff_not, beq_iff_eq, beq_eq_false_iff_ne, ne_eq, bne_iff_ne, Int.not_lt, Int.not_le] at h)))
          · have hR : refuse b (b.ser + 1 + 1) t n = 3 := by rw [e3, if_pos (by omega)]
            first | refine acts2_U (hl3 _ _ _ _) (by omega) rfl rfl ?_ | refine acts2_T (hl3 _ _ _ _) (by omega) rfl rfl ?_ | refine acts2_N (hl3 _ _ _ _) (by omega) rfl rfl ?_ | refine acts2_of (hl3 _ _ _ _) (by omega) rfl rfl ?_
            rintro _ _ _ ⟨t3', rfl, rfl⟩
            simp (disch := first | omega | (simp only [List.length_cons, List.length_nil]; first | done | omega)) only [go_sem, Nat.reduceAdd, Nat.reduceMul, Nat.reduceSub, Nat.reduceEqDiff, Nat.reduceLeDiff, Nat.reduceMod, Nat.reduceLT, Int.reduceToNat, Int.reduceAdd, Int.reduceSub, Int.reduceMul, Int.reduceNeg, Int.reduceLE, Int.reduceLT, Int.toNat_natCast, Int.cast_ofNat_Int, Int.reduceNe, Int.reduceEq, Int.reduceBEq, Int.reduceBNe, not_false_eq_true, ne_eq, Int.reduceTMod, Int.reduceTDiv, beq_self_eq_true, bne_self_eq_false, List.contains_cons, List.contains_nil, Nat.reduceBEq]
            rw [hR, if_pos (by omega)] at hB
            cases hB
            subst hX
            exact view_sub (leV.tup ⟨leV.agg (BlT_le (loseB b 3 t) t1 t2 t3'), leV.refl _, leV.refl _, trivial⟩) (List.nil_sublist _)
          · have hacc := hacc (by rw [e3, if_neg (by omega)])
            first | refine acts2_U (hrt _ _ _ _) (by omega) rfl rfl ?_ | refine acts2_T (hrt _ _ _ _) (by omega) rfl rfl ?_ | refine acts2_N (hrt _ _ _ _) (by omega) rfl rfl ?_ | refine acts2_of (hrt _ _ _ _) (by omega) rfl rfl ?_
            rintro _ _ _ ⟨t2', rfl, rfl⟩
            simp only [reportB]
            simp (disch := first | omega | (simp only [List.length_cons, List.length_nil]; first | done | omega)) only [go_sem, Nat.reduceAdd, Nat.reduceMul, Nat.reduceSub, Nat.reduceEqDiff, Nat.reduceLeDiff, Nat.reduceMod, Nat.reduceLT, Int.reduceToNat, Int.reduceAdd, Int.reduceSub, Int.reduceMul, Int.reduceNeg, Int.reduceLE, Int.reduceLT, Int.toNat_natCast, Int.cast_ofNat_Int, Int.reduceNe, Int.reduceEq, Int.reduceBEq, Int.reduceBNe, not_false_eq_true, ne_eq, Int.reduceTMod, Int.reduceTDiv, beq_self_eq_true, bne_self_eq_false, List.contains_cons, List.contains_nil, Nat.reduceBEq]
            refine ⟨by simp only [roomy]; omega, fun t1' => ?_⟩
            rw [hom, hol (b.ser + 1 + 1)]
            repeat' (first | (simp (disch := first | omega | (simp only [List.length_cons, List.length_nil]; first | done | omega)) only [go_sem, Nat.reduceAdd, Nat.reduceMul, Nat.reduceSub, Nat.reduceEqDiff, Nat.reduceLeDiff, Nat.reduceMod, Nat.reduceLT, Int.reduceToNat, Int.reduceAdd, Int.reduceSub, Int.reduceMul, Int.reduceNeg, Int.reduceLE, Int.reduceLT, Int.toNat_natCast, Int.cast_ofNat_Int, Int.reduceNe, Int.reduceEq, Int.reduceBEq, Int.reduceBNe, not_false_eq_true, ne_eq, Int.reduceTMod, Int.reduceTDiv, beq_self_eq_true, bne_self_eq_false, List.contains_cons, List.contains_nil, Nat.reduceBEq, hw]) | (refine allI (fun b => ?_)) | (refine allT (fun τ => ?_)) | (refine brP (fun h => ?_) (fun h => ?_) <;> (try simp only [Bool.and_eq_true, Bool.and_eq_false_iff, Bool.or_eq_true, Bool.or_eq_false_iff, Bool.not_eq_true', Bool.not_eq_false', decide_eq_true_eq, decide_eq_false_iff_not, beq_iff_eq, beq_eq_false_iff_ne, ne_eq, bne_iff_ne, Int.not_lt, Int.not_le] at h)))
            · have h' : ¬ t.tdiv 1000 = b.win := by simpa using h
              have hA : accB (reportB b t) (b.ser + 1 + 1) t n = { (reportB b t) with ser := (b.ser + 1 + 1), res := b.res + n, op := b.op ++ [(b.ser + 1 + 1)], win := t.tdiv 1000, used := 1 } := by simp [accB, reportB, h']
              rw [hA] at hacc
              obtain ⟨rfl, rfl, rfl⟩ := hacc
              subst hX
              exact view_sub (leV.tup ⟨leV.agg (BlT_le { (reportB b t) with ser := (b.ser + 1 + 1), res := b.res + n, op := b.op ++ [(b.ser + 1 + 1)], win := t.tdiv 1000, used := 1 } t1' t2' t3), leV.refl _, leV.refl _, trivial⟩) (List.nil_sublist _)
            · have h' : t.tdiv 1000 = b.win := by simpa using h
              have hA : accB (reportB b t) (b.ser + 1 + 1) t n = { (reportB b t) with ser := (b.ser + 1 + 1), res := b.res + n, op := b.op ++ [(b.ser + 1 + 1)], used := b.used + 1 } := by simp [accB, reportB, h']
              rw [hA] at hacc
              obtain ⟨rfl, rfl, rfl⟩ := hacc
              subst hX
              exact view_sub (leV.tup ⟨leV.agg (BlT_le { (reportB b t) with ser := (b.ser + 1 + 1), res := b.res + n, op := b.op ++ [(b.ser + 1 + 1)], used := b.used + 1 } t1' t2' t3), leV.refl _, leV.refl _, trivial⟩) (List.nil_sublist _)
end Go.Proofs.Ytofpepjehiohcaa
