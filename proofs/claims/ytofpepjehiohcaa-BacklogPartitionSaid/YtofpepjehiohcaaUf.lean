/- Layer 20: backlog: reports, offers. -/
import Derived.Test.YtofpepjehiohcaaUe
namespace Go.Proofs.Ytofpepjehiohcaa
open Go Go.Lx
set_option linter.unusedSimpArgs false
set_option linter.unusedVariables false
set_option maxRecDepth 100000
set_option maxHeartbeats 1000000

def reportB (b : Bl) (t : Int) : Bl := { b with ser := b.ser + 1, qu := b.qu ++ [lossR b.pd t (b.ser + 1)], pd := lo0 }
theorem report (b : Bl) (k : Nat) (hk : okK k b) (p b2 c2 : Nat) (hc2 : b.qu.length ≤ c2) (o n : LV) (t : Int) :
    Acts2 Try.prog gl 45 [.ptr 3 p 0, .int .i64 t] 3 (.blk p (BlC b o (.msl 2002 4 b2 0 b.qu.length c2) n)) 2002 (.blk b2 (Sp (b.qu.flatMap RcC) ((c2 - b.qu.length) * 4)))
      fun r e1 e2 => ∃ b2' c2', (reportB b t).qu.length ≤ c2' ∧ e1 = .blk p (BlC (reportB b t) o (.msl 2002 4 b2' 0 (reportB b t).qu.length c2') n) ∧ e2 = .blk b2' (Sp ((reportB b t).qu.flatMap RcC) ((c2' - (reportB b t).qu.length) * 4)) := by
  refine fn_viewT Try.func45 t45 Try.ntmps45 (by simp) ?_
  obtain ⟨k0, k1_, k2, k3, k4, k5, k6, k7, k8, k9, k10, k11, k12, k13, k14⟩ := hk
  have hlen := len_rc b.qu
  have hl := loss b.pd t
  rw [RcC_eq, PaS_eq] at hl
  unfold LoC at hl
  unfold c45 r45 BlC
  simp (disch := first | omega | (simp only [List.length_cons, List.length_nil]; first | done | omega)) only [go_sem, Nat.reduceAdd, Nat.reduceMul, Nat.reduceSub, Nat.reduceEqDiff, Nat.reduceLeDiff, Nat.reduceMod, Nat.reduceLT, Int.reduceToNat, Int.reduceAdd, Int.reduceSub, Int.reduceMul, Int.reduceNeg, Int.reduceLE, Int.reduceLT, Int.toNat_natCast, Int.cast_ofNat_Int, Int.reduceNe, Int.reduceEq, Int.reduceBEq, Int.reduceBNe, not_false_eq_true, ne_eq, Int.reduceTMod, Int.reduceTDiv, beq_self_eq_true, bne_self_eq_false, List.contains_cons, List.contains_nil, Nat.reduceBEq]
  first | refine call_U (hl) ?_ | refine call_T (hl) ?_ | refine call_N (hl) ?_ | refine call_of (hl) ?_
  simp (disch := first | omega | (simp only [List.length_cons, List.length_nil]; first | done | omega)) only [go_sem, Nat.reduceAdd, Nat.reduceMul, Nat.reduceSub, Nat.reduceEqDiff, Nat.reduceLeDiff, Nat.reduceMod, Nat.reduceLT, Int.reduceToNat, Int.reduceAdd, Int.reduceSub, Int.reduceMul, Int.reduceNeg, Int.reduceLE, Int.reduceLT, Int.toNat_natCast, Int.cast_ofNat_Int, Int.reduceNe, Int.reduceEq, Int.reduceBEq, Int.reduceBNe, not_false_eq_true, ne_eq, Int.reduceTMod, Int.reduceTDiv, beq_self_eq_true, bne_self_eq_false, List.contains_cons, List.contains_nil, Nat.reduceBEq]
  intro bb
  simp (disch := first | omega | (simp only [List.length_cons, List.length_nil]; first | done | omega)) only [go_sem, Nat.reduceAdd, Nat.reduceMul, Nat.reduceSub, Nat.reduceEqDiff, Nat.reduceLeDiff, Nat.reduceMod, Nat.reduceLT, Int.reduceToNat, Int.reduceAdd, Int.reduceSub, Int.reduceMul, Int.reduceNeg, Int.reduceLE, Int.reduceLT, Int.toNat_natCast, Int.cast_ofNat_Int, Int.reduceNe, Int.reduceEq, Int.reduceBEq, Int.reduceBNe, not_false_eq_true, ne_eq, Int.reduceTMod, Int.reduceTDiv, beq_self_eq_true, bne_self_eq_false, List.contains_cons, List.contains_nil, Nat.reduceBEq, zR]
  refine ⟨rfl, .inl ⟨by rw [length_Sp]; omega, by rw [length_Sp]; omega, by simp only [roomy]; omega, fun b2' c2' h2 => ?_⟩⟩
  rw [take_Sp _ hlen]
  have hq : (reportB b t).qu.length = b.qu.length + 1 := by simp [reportB]
  refine ⟨_, _, leVH.of (leV.refl _) ⟨_, List.Sublist.cons_cons _ (List.Sublist.cons _ (List.Sublist.refl _)), List.Perm.swap _ _ _⟩, _, _, rfl, b2', c2', by rw [hq]; exact h2, by rw [hq]; rfl, ?_⟩
  rw [hq, ← Sp, show (reportB b t).qu.flatMap RcC = b.qu.flatMap RcC ++ [.int .i64 (lossR b.pd t 0).ty, .int .i64 (lossR b.pd t 0).ti, .int .i64 (b.ser + 1), .sl 4 (lossR b.pd t 0).ps.length (List.flatMap PaC (lossR b.pd t 0).ps)] by simp [reportB, RcC, PaS, lossR]]
theorem okK.okB {k : Nat} {b : Bl} (h : okK k b) : okB b := by
  obtain ⟨k0, k1_, k2, k3, k4, k5, k6, k7, k8, k9, k10, k11, k12, k13, k14⟩ := h
  exact ⟨by omega, ⟨by omega, fun r hr => Nat.le_trans (k3 r hr) (by omega)⟩, by omega⟩
/-- an event that is accepted -/
def accB (b : Bl) (s t n : Int) : Bl := { b with ser := s, res := b.res + n, op := b.op ++ [s], win := if t.tdiv 1000 = b.win then b.win else t.tdiv 1000, used := if t.tdiv 1000 = b.win then b.used + 1 else 1 }
def offB (b : Bl) (t n : Int) : Bl × Int × Bool :=
  if n < 1 ∨ 64 < n ∨ t < 0 ∨ 1099511627776 < t ∨ 1073741821 < b.ser then (b, 0, false)
  else
    let s := b.ser + 1 + (if pend b.pd then 1 else 0)
    let why := refuse b s t n
    if why ≠ 0 then (loseB b why t, b.ser + 1, false)
    else (accB (if pend b.pd then reportB b t else b) s t n, s, true)
theorem refuse_cases (b : Bl) (s t n : Int) : refuse b s t n = 0 ∨ (refuse b s t n = 1 ∨ refuse b s t n = 2 ∨ refuse b s t n = 3) := by
  unfold refuse
  split
  · omega
  · split
    · omega
    · split <;> omega
theorem offer (b : Bl) (k : Nat) (hk : okK k b) (t n : Int) : Pure Try.prog gl 24 [BlL b, .int .i64 t, .int .i64 n] (.tup [BlL (offB b t n).1, .int .i64 (offB b t n).2.1, .bool (offB b t n).2.2]) := by
  refine fn_viewT Try.func24 t24 Try.ntmps24 (by simp) ?_
  have hc := clone b hk.okB
  have hk' := hk
  obtain ⟨k0, k1_, k2, k3, k4, k5, k6, k7, k8, k9, k10, k11, k12, k13, k14⟩ := hk'
  generalize hB : offB b t n = B
  obtain ⟨B, S, A⟩ := B
  dsimp only
  rw [show BlL B = .agg (BlC B (InS B.op) (RcS B.qu) (NoS B.no)) from rfl]
  generalize hX : LV.agg (BlC B (InS B.op) (RcS B.qu) (NoS B.no)) = X
  unfold BlL BlC InS RcS NoS at hc
  unfold c24 r24 BlL BlC InS RcS NoS
  simp (disch := first | omega | (simp only [List.length_cons, List.length_nil]; first | done | omega)) only [go_sem, Nat.reduceAdd, Nat.reduceMul, Nat.reduceSub, Nat.reduceEqDiff, Nat.reduceLeDiff, Nat.reduceMod, Nat.reduceLT, Int.reduceToNat, Int.reduceAdd, Int.reduceSub, Int.reduceMul, Int.reduceNeg, Int.reduceLE, Int.reduceLT, Int.toNat_natCast, Int.cast_ofNat_Int, Int.reduceNe, Int.reduceEq, Int.reduceBEq, Int.reduceBNe, not_false_eq_true, ne_eq, Int.reduceTMod, Int.reduceTDiv, beq_self_eq_true, bne_self_eq_false, List.contains_cons, List.contains_nil, Nat.reduceBEq]
  intro p3 p6
  first | refine newsQ_U (hc) ?_ | refine newsQ_T (hc) ?_ | refine newsQ_of (hc) ?_
  rintro _ _ ⟨b1, c1, b2, c2, b3, c3, g, rfl, rfl⟩
  unfold BlO BlH BlC
  simp (disch := first | omega | (simp only [List.length_cons, List.length_nil]; first | done | omega)) only [go_sem, Nat.reduceAdd, Nat.reduceMul, Nat.reduceSub, Nat.reduceEqDiff, Nat.reduceLeDiff, Nat.reduceMod, Nat.reduceLT, Int.reduceToNat, Int.reduceAdd, Int.reduceSub, Int.reduceMul, Int.reduceNeg, Int.reduceLE, Int.reduceLT, Int.toNat_natCast, Int.cast_ofNat_Int, Int.reduceNe, Int.reduceEq, Int.reduceBEq, Int.reduceBNe, not_false_eq_true, ne_eq, Int.reduceTMod, Int.reduceTDiv, beq_self_eq_true, bne_self_eq_false, List.contains_cons, List.contains_nil, Nat.reduceBEq]
  have hr := fun s hs ht hn => refusal b k hk b1 c1 b2 c2 b3 c3 ((c1 - b.op.length) * 1) s t n hs ht hn
  unfold BlO BlC at hr
  have hR := fun s => refuse_cases b s t n
  have hl := fun why hw => lose b k hk p3 b3 c3 g.2.2 (.msl 2001 1 b1 0 b.op.length c1) (.msl 2002 4 b2 0 b.qu.length c2) why t hw
  have hp := report b k hk p3 b2 c2 g.2.1 (.msl 2001 1 b1 0 b.op.length c1) (.msl 2003 2 b3 0 b.no.length c3) t
  have hwr : 0 ≤ t → t ≤ 1099511627776 → IntKind.i64.wrap (t.tdiv 1000) = t.tdiv 1000 := fun h1 h2 => by
    have h1 : t.tdiv 1000 = t / 1000 := Int.tdiv_eq_ediv_of_nonneg h1
    rw [h1]; exact wrap_i64 (by omega) (by omega)
  have hlo : (b.op.map (LV.int .i64)).length = b.op.length := by simp
  cases hP : pend b.pd
  · repeat' (first | (simp (disch := first | omega | (simp only [List.length_cons, List.length_nil]; first | done | omega)) only [go_sem, Nat.reduceAdd, Nat.reduceMul, Nat.reduceSub, Nat.reduceEqDiff, Nat.reduceLeDiff, Nat.reduceMod, Nat.reduceLT, Int.reduceToNat, Int.reduceAdd, Int.reduceSub, Int.reduceMul, Int.reduceNeg, Int.reduceLE, Int.reduceLT, Int.toNat_natCast, Int.cast_ofNat_Int, Int.reduceNe, Int.reduceEq, Int.reduceBEq, Int.reduceBNe, not_false_eq_true, ne_eq, Int.reduceTMod, Int.reduceTDiv, beq_self_eq_true, bne_self_eq_false, List.contains_cons, List.contains_nil, Nat.reduceBEq, pend_eq, hP]) | (refine allI (fun b => ?_)) | (refine allT (fun τ => ?_)) | (refine brP (fun h => ?_) (fun h => ?_) <;> (try simp only [Bool.and_eq_true, Bool.and_eq_false_iff, Bool.or_eq_true, Bool.or_eq_false_iff, Bool.not_eq_true', Bool.not_eq_false', decide_eq_true_eq, decide_eq_false_iff_not, beq_iff_eq, beq_eq_false_iff_ne, ne_eq, bne_iff_ne, Int.not_lt, Int.not_le] at h)))
    · rw [offB, if_pos (by omega)] at hB
      cases hB
      subst hX
      exact view_end (pubB (b := b) (rest := [.int .i64 0, .bool false]) (fun _ _ _ => by simp only [pubAs, pubA, pubC, and_self]) g rfl rfl rfl)
    · have hw := hwr (by omega) (by omega)
      rw [offB, if_neg (by omega), hP] at hB
      simp only [Bool.false_eq_true, if_false, Int.add_zero, if_true] at hB
      first | refine actsE_U (hr _ (by omega) (by omega) (by omega)) (by first | rfl | simp only [getH, if_true]) ?_ | refine actsE_T (hr _ (by omega) (by omega) (by omega)) (by first | rfl | simp only [getH, if_true]) ?_ | refine actsE_N (hr _ (by omega) (by omega) (by omega)) (by first | rfl | simp only [getH, if_true]) ?_ | refine actsE_of (hr _ (by omega) (by omega) (by omega)) (by first | rfl | simp only [getH, if_true]) ?_
      rintro r e ⟨rfl, rfl⟩
      have hRs := hR (b.ser + 1)
      have hom : b.op.map (LV.int .i64) ++ [.int .i64 (b.ser + 1)] = (b.op ++ [(b.ser + 1)]).map (LV.int .i64) := by simp
      have hol : b.op.length + 1 = (b.op ++ [(b.ser + 1)]).length := by simp
      repeat' (first | (simp (disch := first | omega | (simp only [List.length_cons, List.length_nil]; first | done | omega)) only [go_sem, Nat.reduceAdd, Nat.reduceMul, Nat.reduceSub, Nat.reduceEqDiff, Nat.reduceLeDiff, Nat.reduceMod, Nat.reduceLT, Int.reduceToNat, Int.reduceAdd, Int.reduceSub, Int.reduceMul, Int.reduceNeg, Int.reduceLE, Int.reduceLT, Int.toNat_natCast, Int.cast_ofNat_Int, Int.reduceNe, Int.reduceEq, Int.reduceBEq, Int.reduceBNe, not_false_eq_true, ne_eq, Int.reduceTMod, Int.reduceTDiv, beq_self_eq_true, bne_self_eq_false, List.contains_cons, List.contains_nil, Nat.reduceBEq, pend_eq, hP]) | (refine allI (fun b => ?_)) | (refine allT (fun τ => ?_)) | (refine brP (fun h => ?_) (fun h => ?_) <;> (try simp only [Bool.and_eq_true, Bool.and_eq_false_iff, Bool.or_eq_true, Bool.or_eq_false_iff, Bool.not_eq_true', Bool.not_eq_false', decide_eq_true_eq, decide_eq_false_iff_not, beq_iff_eq, beq_eq_false_iff_ne, ne_eq, bne_iff_ne, Int.not_lt, Int.not_le] at h)))
      · first | refine acts2_U (hl _ (by omega)) (by omega) rfl rfl ?_ | refine acts2_T (hl _ (by omega)) (by omega) rfl rfl ?_ | refine acts2_N (hl _ (by omega)) (by omega) rfl rfl ?_ | refine acts2_of (hl _ (by omega)) (by omega) rfl rfl ?_
        rintro r e1 e2 ⟨b3', c3', g3, rfl, rfl⟩
        simp only [BlC]
        simp (disch := first | omega | (simp only [List.length_cons, List.length_nil]; first | done | omega)) only [go_sem, Nat.reduceAdd, Nat.reduceMul, Nat.reduceSub, Nat.reduceEqDiff, Nat.reduceLeDiff, Nat.reduceMod, Nat.reduceLT, Int.reduceToNat, Int.reduceAdd, Int.reduceSub, Int.reduceMul, Int.reduceNeg, Int.reduceLE, Int.reduceLT, Int.toNat_natCast, Int.cast_ofNat_Int, Int.reduceNe, Int.reduceEq, Int.reduceBEq, Int.reduceBNe, not_false_eq_true, ne_eq, Int.reduceTMod, Int.reduceTDiv, beq_self_eq_true, bne_self_eq_false, List.contains_cons, List.contains_nil, Nat.reduceBEq]
        rw [if_pos h] at hB
        cases hB
        subst hX
        exact view_end (pubB (b := loseB b (refuse b (b.ser + 1) t n) t) (rest := [.int .i64 (b.ser + 1), .bool false]) (fun _ _ _ => by simp only [pubAs, pubA, pubC, and_self]) ⟨g.1, g.2.1, g3⟩ rfl rfl rfl)
      · rw [if_neg (by simpa using h)] at hB
        skip
        refine ⟨rfl, .inl ⟨by rw [length_Sp, hlo]; omega, by rw [length_Sp, hlo]; omega, by simp only [roomy]; omega, fun b1' c1' g1 => ?_⟩⟩
        rw [take_Sp _ (by rw [hlo, Nat.mul_one]), ← Sp]
        repeat' (first | (simp (disch := first | omega | (simp only [List.length_cons, List.length_nil]; first | done | omega)) only [go_sem, Nat.reduceAdd, Nat.reduceMul, Nat.reduceSub, Nat.reduceEqDiff, Nat.reduceLeDiff, Nat.reduceMod, Nat.reduceLT, Int.reduceToNat, Int.reduceAdd, Int.reduceSub, Int.reduceMul, Int.reduceNeg, Int.reduceLE, Int.reduceLT, Int.toNat_natCast, Int.cast_ofNat_Int, Int.reduceNe, Int.reduceEq, Int.reduceBEq, Int.reduceBNe, not_false_eq_true, ne_eq, Int.reduceTMod, Int.reduceTDiv, beq_self_eq_true, bne_self_eq_false, List.contains_cons, List.contains_nil, Nat.reduceBEq, hw]) | (refine allI (fun b => ?_)) | (refine allT (fun τ => ?_)) | (refine brP (fun h => ?_) (fun h => ?_) <;> (try simp only [Bool.and_eq_true, Bool.and_eq_false_iff, Bool.or_eq_true, Bool.or_eq_false_iff, Bool.not_eq_true', Bool.not_eq_false', decide_eq_true_eq, decide_eq_false_iff_not, beq_iff_eq, beq_eq_false_iff_ne, ne_eq, bne_iff_ne, Int.not_lt, Int.not_le] at h)))
        · have h' : ¬ t.tdiv 1000 = b.win := by simpa using h
          have hA : accB b (b.ser + 1) t n = { b with ser := (b.ser + 1), res := b.res + n, op := b.op ++ [(b.ser + 1)], win := t.tdiv 1000, used := 1 } := by simp [accB, reportB, h']
          rw [hA] at hB
          cases hB
          subst hX
          rw [hom, hol]
          exact view_end (pubB (b := { b with ser := (b.ser + 1), res := b.res + n, op := b.op ++ [(b.ser + 1)], win := t.tdiv 1000, used := 1 }) (rest := [.int .i64 (b.ser + 1), .bool true]) (fun _ _ _ => by simp only [pubAs, pubA, pubC, and_self]) ⟨by simpa using g1, g.2.1, g.2.2⟩ rfl rfl rfl)
        · have h' : t.tdiv 1000 = b.win := by simpa using h
          have hA : accB b (b.ser + 1) t n = { b with ser := (b.ser + 1), res := b.res + n, op := b.op ++ [(b.ser + 1)], used := b.used + 1 } := by simp [accB, reportB, h']
          rw [hA] at hB
          cases hB
          subst hX
          rw [hom, hol]
          exact view_end (pubB (b := { b with ser := (b.ser + 1), res := b.res + n, op := b.op ++ [(b.ser + 1)], used := b.used + 1 }) (rest := [.int .i64 (b.ser + 1), .bool true]) (fun _ _ _ => by simp only [pubAs, pubA, pubC, and_self]) ⟨by simpa using g1, g.2.1, g.2.2⟩ rfl rfl rfl)
  · repeat' (first | (simp (disch := first | omega | (simp only [List.length_cons, List.length_nil]; first | done | omega)) only [go_sem, Nat.reduceAdd, Nat.reduceMul, Nat.reduceSub, Nat.reduceEqDiff, Nat.reduceLeDiff, Nat.reduceMod, Nat.reduceLT, Int.reduceToNat, Int.reduceAdd, Int.reduceSub, Int.reduceMul, Int.reduceNeg, Int.reduceLE, Int.reduceLT, Int.toNat_natCast, Int.cast_ofNat_Int, Int.reduceNe, Int.reduceEq, Int.reduceBEq, Int.reduceBNe, not_false_eq_true, ne_eq, Int.reduceTMod, Int.reduceTDiv, beq_self_eq_true, bne_self_eq_false, List.contains_cons, List.contains_nil, Nat.reduceBEq, pend_eq, hP]) | (refine allI (fun b => ?_)) | (refine allT (fun τ => ?_)) | (refine brP (fun h => ?_) (fun h => ?_) <;> (try simp only [Bool.and_eq_true, Bool.and_eq_false_iff, Bool.or_eq_true, Bool.or_eq_false_iff, Bool.not_eq_true', Bool.not_eq_false', decide_eq_true_eq, decide_eq_false_iff_not, beq_iff_eq, beq_eq_false_iff_ne, ne_eq, bne_iff_ne, Int.not_lt, Int.not_le] at h)))
    · rw [offB, if_pos (by omega)] at hB
      cases hB
      subst hX
      exact view_end (pubB (b := b) (rest := [.int .i64 0, .bool false]) (fun _ _ _ => by simp only [pubAs, pubA, pubC, and_self]) g rfl rfl rfl)
    · have hw := hwr (by omega) (by omega)
      rw [offB, if_neg (by omega), hP] at hB
      simp only [Bool.false_eq_true, if_false, Int.add_zero, if_true] at hB
      first | refine actsE_U (hr _ (by omega) (by omega) (by omega)) (by first | rfl | simp only [getH, if_true]) ?_ | refine actsE_T (hr _ (by omega) (by omega) (by omega)) (by first | rfl | simp only [getH, if_true]) ?_ | refine actsE_N (hr _ (by omega) (by omega) (by omega)) (by first | rfl | simp only [getH, if_true]) ?_ | refine actsE_of (hr _ (by omega) (by omega) (by omega)) (by first | rfl | simp only [getH, if_true]) ?_
      rintro r e ⟨rfl, rfl⟩
      have hRs := hR (b.ser + 1 + 1)
      have hom : b.op.map (LV.int .i64) ++ [.int .i64 (b.ser + 1 + 1)] = (b.op ++ [(b.ser + 1 + 1)]).map (LV.int .i64) := by simp
      have hol : b.op.length + 1 = (b.op ++ [(b.ser + 1 + 1)]).length := by simp
      repeat' (first | (simp (disch := first | omega | (simp only [List.length_cons, List.length_nil]; first | done | omega)) only [go_sem, Nat.reduceAdd, Nat.reduceMul, Nat.reduceSub, Nat.reduceEqDiff, Nat.reduceLeDiff, Nat.reduceMod, Nat.reduceLT, Int.reduceToNat, Int.reduceAdd, Int.reduceSub, Int.reduceMul, Int.reduceNeg, Int.reduceLE, Int.reduceLT, Int.toNat_natCast, Int.cast_ofNat_Int, Int.reduceNe, Int.reduceEq, Int.reduceBEq, Int.reduceBNe, not_false_eq_true, ne_eq, Int.reduceTMod, Int.reduceTDiv, beq_self_eq_true, bne_self_eq_false, List.contains_cons, List.contains_nil, Nat.reduceBEq, pend_eq, hP]) | (refine allI (fun b => ?_)) | (refine allT (fun τ => ?_)) | (refine brP (fun h => ?_) (fun h => ?_) <;> (try simp only [Bool.and_eq_true, Bool.and_eq_false_iff, Bool.or_eq_true, Bool.or_eq_false_iff, Bool.not_eq_true', Bool.not_eq_false', decide_eq_true_eq, decide_eq_false_iff_not, beq_iff_eq, beq_eq_false_iff_ne, ne_eq, bne_iff_ne, Int.not_lt, Int.not_le] at h)))
      · first | refine acts2_U (hl _ (by omega)) (by omega) rfl rfl ?_ | refine acts2_T (hl _ (by omega)) (by omega) rfl rfl ?_ | refine acts2_N (hl _ (by omega)) (by omega) rfl rfl ?_ | refine acts2_of (hl _ (by omega)) (by omega) rfl rfl ?_
        rintro r e1 e2 ⟨b3', c3', g3, rfl, rfl⟩
        simp only [BlC]
        simp (disch := first | omega | (simp only [List.length_cons, List.length_nil]; first | done | omega)) only [go_sem, Nat.reduceAdd, Nat.reduceMul, Nat.reduceSub, Nat.reduceEqDiff, Nat.reduceLeDiff, Nat.reduceMod, Nat.reduceLT, Int.reduceToNat, Int.reduceAdd, Int.reduceSub, Int.reduceMul, Int.reduceNeg, Int.reduceLE, Int.reduceLT, Int.toNat_natCast, Int.cast_ofNat_Int, Int.reduceNe, Int.reduceEq, Int.reduceBEq, Int.reduceBNe, not_false_eq_true, ne_eq, Int.reduceTMod, Int.reduceTDiv, beq_self_eq_true, bne_self_eq_false, List.contains_cons, List.contains_nil, Nat.reduceBEq]
        rw [if_pos h] at hB
        cases hB
        subst hX
        exact view_end (pubB (b := loseB b (refuse b (b.ser + 1 + 1) t n) t) (rest := [.int .i64 (b.ser + 1), .bool false]) (fun _ _ _ => by simp only [pubAs, pubA, pubC, and_self]) ⟨g.1, g.2.1, g3⟩ rfl rfl rfl)
      · rw [if_neg (by simpa using h)] at hB
        first | refine acts2_U (hp) (by omega) rfl rfl ?_ | refine acts2_T (hp) (by omega) rfl rfl ?_ | refine acts2_N (hp) (by omega) rfl rfl ?_ | refine acts2_of (hp) (by omega) rfl rfl ?_
        rintro r e1 e2 ⟨b2', c2', g2, rfl, rfl⟩
        simp only [BlC, reportB]
        repeat' (first | (simp (disch := first | omega | (simp only [List.length_cons, List.length_nil]; first | done | omega)) only [go_sem, Nat.reduceAdd, Nat.reduceMul, Nat.reduceSub, Nat.reduceEqDiff, Nat.reduceLeDiff, Nat.reduceMod, Nat.reduceLT, Int.reduceToNat, Int.reduceAdd, Int.reduceSub, Int.reduceMul, Int.reduceNeg, Int.reduceLE, Int.reduceLT, Int.toNat_natCast, Int.cast_ofNat_Int, Int.reduceNe, Int.reduceEq, Int.reduceBEq, Int.reduceBNe, not_false_eq_true, ne_eq, Int.reduceTMod, Int.reduceTDiv, beq_self_eq_true, bne_self_eq_false, List.contains_cons, List.contains_nil, Nat.reduceBEq, pend_eq, hP]) | (refine allI (fun b => ?_)) | (refine allT (fun τ => ?_)) | (refine brP (fun h => ?_) (fun h => ?_) <;> (try simp only [Bool.and_eq_true, Bool.and_eq_false_iff, Bool.or_eq_true, Bool.or_eq_false_iff, Bool.not_eq_true', Bool.not_eq_false', decide_eq_true_eq, decide_eq_false_iff_not, beq_iff_eq, beq_eq_false_iff_ne, ne_eq, bne_iff_ne, Int.not_lt, Int.not_le] at h)))
        refine ⟨rfl, .inl ⟨by rw [length_Sp, hlo]; omega, by rw [length_Sp, hlo]; omega, by simp only [roomy]; omega, fun b1' c1' g1 => ?_⟩⟩
        rw [take_Sp _ (by rw [hlo, Nat.mul_one]), ← Sp]
        repeat' (first | (simp (disch := first | omega | (simp only [List.length_cons, List.length_nil]; first | done | omega)) only [go_sem, Nat.reduceAdd, Nat.reduceMul, Nat.reduceSub, Nat.reduceEqDiff, Nat.reduceLeDiff, Nat.reduceMod, Nat.reduceLT, Int.reduceToNat, Int.reduceAdd, Int.reduceSub, Int.reduceMul, Int.reduceNeg, Int.reduceLE, Int.reduceLT, Int.toNat_natCast, Int.cast_ofNat_Int, Int.reduceNe, Int.reduceEq, Int.reduceBEq, Int.reduceBNe, not_false_eq_true, ne_eq, Int.reduceTMod, Int.reduceTDiv, beq_self_eq_true, bne_self_eq_false, List.contains_cons, List.contains_nil, Nat.reduceBEq, hw]) | (refine allI (fun b => ?_)) | (refine allT (fun τ => ?_)) | (refine brP (fun h => ?_) (fun h => ?_) <;> (try simp only [Bool.and_eq_true, Bool.and_eq_false_iff, Bool.or_eq_true, Bool.or_eq_false_iff, Bool.not_eq_true', Bool.not_eq_false', decide_eq_true_eq, decide_eq_false_iff_not, beq_iff_eq, beq_eq_false_iff_ne, ne_eq, bne_iff_ne, Int.not_lt, Int.not_le] at h)))
        · have h' : ¬ t.tdiv 1000 = b.win := by simpa using h
          have hA : accB (reportB b t) (b.ser + 1 + 1) t n = { (reportB b t) with ser := (b.ser + 1 + 1), res := b.res + n, op := b.op ++ [(b.ser + 1 + 1)], win := t.tdiv 1000, used := 1 } := by simp [accB, reportB, h']
          rw [hA] at hB
          cases hB
          subst hX
          rw [hom, hol]
          exact view_end (pubB (b := { (reportB b t) with ser := (b.ser + 1 + 1), res := b.res + n, op := b.op ++ [(b.ser + 1 + 1)], win := t.tdiv 1000, used := 1 }) (rest := [.int .i64 (b.ser + 1 + 1), .bool true]) (fun _ _ _ => by simp only [pubAs, pubA, pubC, and_self]) ⟨by simpa using g1, g2, g.2.2⟩ rfl rfl rfl)
        · have h' : t.tdiv 1000 = b.win := by simpa using h
          have hA : accB (reportB b t) (b.ser + 1 + 1) t n = { (reportB b t) with ser := (b.ser + 1 + 1), res := b.res + n, op := b.op ++ [(b.ser + 1 + 1)], used := b.used + 1 } := by simp [accB, reportB, h']
          rw [hA] at hB
          cases hB
          subst hX
          rw [hom, hol]
          exact view_end (pubB (b := { (reportB b t) with ser := (b.ser + 1 + 1), res := b.res + n, op := b.op ++ [(b.ser + 1 + 1)], used := b.used + 1 }) (rest := [.int .i64 (b.ser + 1 + 1), .bool true]) (fun _ _ _ => by simp only [pubAs, pubA, pubC, and_self]) ⟨by simpa using g1, g2, g.2.2⟩ rfl rfl rfl)
end Go.Proofs.Ytofpepjehiohcaa
