/- Layer 20: backlog: a copy of a backlog; settings. -/
import Derived.Test.YtofpepjehiohcaaUa
namespace Go.Proofs.Ytofpepjehiohcaa
open Go Go.Lx
set_option linter.unusedSimpArgs false
set_option linter.unusedVariables false
set_option maxRecDepth 100000
set_option maxHeartbeats 1000000

/-- a backlog of bounded size -/
def okB (b : Bl) : Prop := b.op.length ≤ 1000000000 ∧ okR b.qu ∧ b.no.length ≤ 1000000000
/-- a backlog, with its three lists in blocks of their own -/
def BlO (b : Bl) (b1 c1 b2 c2 b3 c3 : Nat) : LV := .agg (BlC b (.msl 2001 1 b1 0 b.op.length c1) (.msl 2002 4 b2 0 b.qu.length c2) (.msl 2003 2 b3 0 b.no.length c3))
def BlH (b : Bl) (b1 c1 b2 c2 b3 c3 : Nat) : Heap :=
  [(2003, .blk b3 (Sp (b.no.flatMap NoC) ((c3 - b.no.length) * 2))), (2002, .blk b2 (Sp (b.qu.flatMap RcC) ((c2 - b.qu.length) * 4))), (2001, .blk b1 (Sp (b.op.map (LV.int .i64)) ((c1 - b.op.length) * 1)))]
def Cl (b : Bl) (r : LV) (H : Heap) : Prop := ∃ b1 c1 b2 c2 b3 c3, (b.op.length ≤ c1 ∧ b.qu.length ≤ c2 ∧ b.no.length ≤ c3) ∧ r = BlO b b1 c1 b2 c2 b3 c3 ∧ H = BlH b b1 c1 b2 c2 b3 c3
theorem len_no (l : List (Int × Int)) : (l.flatMap NoC).length = l.length * 2 := length_rows (f := NoC) (w := 2) (fun _ => rfl) l
theorem clone (b : Bl) (hb : okB b) : LCalls Try.prog gl 39 [BlL b] [] (Cl b) := by
  refine fn_viewT Try.func39 t39 Try.ntmps39 (by simp) ?_
  obtain ⟨h1, h2, h3⟩ := hb
  have k1 : Copies _ 1 2001 _ _ _ := (clonei b.op.length (b.op.map (LV.int .i64)) h1 (by simp)).name
  have k2 : Copies _ 4 2002 _ _ _ := (crecs b.qu h2).name
  have k3 : Copies _ 2 2003 _ _ _ := (clonen b.no.length (b.no.flatMap NoC) h3 (len_no _)).name
  unfold Copies RcS at *
  unfold c39 r39 BlL BlC InS RcS NoS
  simp (disch := first | omega | (simp only [List.length_cons, List.length_nil]; first | done | omega)) only [go_sem, Nat.reduceAdd, Nat.reduceMul, Nat.reduceSub, Nat.reduceEqDiff, Nat.reduceLeDiff, Nat.reduceMod, Nat.reduceLT, Int.reduceToNat, Int.reduceAdd, Int.reduceSub, Int.reduceMul, Int.reduceNeg, Int.reduceLE, Int.reduceLT, Int.toNat_natCast, Int.cast_ofNat_Int, Int.reduceNe, Int.reduceEq, Int.reduceBEq, Int.reduceBNe, not_false_eq_true, ne_eq, Int.reduceTMod, Int.reduceTDiv, beq_self_eq_true, bne_self_eq_false, List.contains_cons, List.contains_nil, Nat.reduceBEq]
  intro ba bb
  first | refine newsE_U (k1) ?_ | refine newsE_T (k1) ?_ | refine newsE_of (k1) ?_
  rintro _ _ ⟨b1, c1, g1, rfl, rfl⟩
  simp (disch := first | omega | (simp only [List.length_cons, List.length_nil]; first | done | omega)) only [go_sem, Nat.reduceAdd, Nat.reduceMul, Nat.reduceSub, Nat.reduceEqDiff, Nat.reduceLeDiff, Nat.reduceMod, Nat.reduceLT, Int.reduceToNat, Int.reduceAdd, Int.reduceSub, Int.reduceMul, Int.reduceNeg, Int.reduceLE, Int.reduceLT, Int.toNat_natCast, Int.cast_ofNat_Int, Int.reduceNe, Int.reduceEq, Int.reduceBEq, Int.reduceBNe, not_false_eq_true, ne_eq, Int.reduceTMod, Int.reduceTDiv, beq_self_eq_true, bne_self_eq_false, List.contains_cons, List.contains_nil, Nat.reduceBEq]
  first | refine newsE_U (k2) ?_ | refine newsE_T (k2) ?_ | refine newsE_of (k2) ?_
  rintro _ _ ⟨b2, c2, g2, rfl, rfl⟩
  simp (disch := first | omega | (simp only [List.length_cons, List.length_nil]; first | done | omega)) only [go_sem, Nat.reduceAdd, Nat.reduceMul, Nat.reduceSub, Nat.reduceEqDiff, Nat.reduceLeDiff, Nat.reduceMod, Nat.reduceLT, Int.reduceToNat, Int.reduceAdd, Int.reduceSub, Int.reduceMul, Int.reduceNeg, Int.reduceLE, Int.reduceLT, Int.toNat_natCast, Int.cast_ofNat_Int, Int.reduceNe, Int.reduceEq, Int.reduceBEq, Int.reduceBNe, not_false_eq_true, ne_eq, Int.reduceTMod, Int.reduceTDiv, beq_self_eq_true, bne_self_eq_false, List.contains_cons, List.contains_nil, Nat.reduceBEq]
  first | refine newsE_U (k3) ?_ | refine newsE_T (k3) ?_ | refine newsE_of (k3) ?_
  rintro _ _ ⟨b3, c3, g3, rfl, rfl⟩
  simp (disch := first | omega | (simp only [List.length_cons, List.length_nil]; first | done | omega)) only [go_sem, Nat.reduceAdd, Nat.reduceMul, Nat.reduceSub, Nat.reduceEqDiff, Nat.reduceLeDiff, Nat.reduceMod, Nat.reduceLT, Int.reduceToNat, Int.reduceAdd, Int.reduceSub, Int.reduceMul, Int.reduceNeg, Int.reduceLE, Int.reduceLT, Int.toNat_natCast, Int.cast_ofNat_Int, Int.reduceNe, Int.reduceEq, Int.reduceBEq, Int.reduceBNe, not_false_eq_true, ne_eq, Int.reduceTMod, Int.reduceTDiv, beq_self_eq_true, bne_self_eq_false, List.contains_cons, List.contains_nil, Nat.reduceBEq]
  exact ⟨_, _, leVH.of (leV.refl _) ⟨BlH b b1 c1 b2 c2 b3 c3, List.Sublist.cons_cons _ (List.Sublist.cons_cons _ (List.Sublist.cons_cons _ (List.nil_sublist _))), List.Perm.refl _⟩, b1, c1, b2, c2, b3, c3, ⟨g1, g2, g3⟩, rfl, rfl⟩
theorem pubB {b : Bl} {b1 c1 k1 b2 c2 k2 b3 c3 k3 : Nat} {rest : List LV} {H : Heap} (hr : Dry rest) (hc : b.op.length ≤ c1 ∧ b.qu.length ≤ c2 ∧ b.no.length ≤ c3) (h1 : getH H 2001 = some (.blk b1 (Sp (b.op.map (LV.int .i64)) k1))) (h2 : getH H 2002 = some (.blk b2 (Sp (b.qu.flatMap RcC) k2))) (h3 : getH H 2003 = some (.blk b3 (Sp (b.no.flatMap NoC) k3))) :
    leVH gl (.tup (BlO b b1 c1 b2 c2 b3 c3 :: rest)) H (.tup (BlL b :: rest)) [] := by
  refine leVH.pub 2001 h1 ?_ (leVH.pub 2002 (by rw [getH_del (by omega)]; exact h2) ?_ (leVH.pub 2003 (by rw [getH_del (by omega), getH_del (by omega)]; exact h3) ?_ ?_))
  · simp only [pubV, pubAs, hr _ _ _, BlO, BlC, pubA, pubCs, pubC, if_true, and_true, true_and, Nat.reduceEqDiff, if_false]
    refine ⟨by rw [length_Sp]; simp, hc.1⟩
  · simp only [pubV, pubAs, hr _ _ _, BlO, BlC, pubA, pubCs, pubC, if_true, and_true, true_and, Nat.reduceEqDiff, if_false]
    refine ⟨by rw [length_Sp, len_rc]; omega, hc.2.1⟩
  · simp only [pubV, pubAs, hr _ _ _, BlO, BlC, pubA, pubCs, pubC, if_true, and_true, true_and, Nat.reduceEqDiff, if_false]
    refine ⟨by rw [length_Sp, len_no]; omega, hc.2.2⟩
  · simp only [pubV, pubAs, hr _ _ _, BlO, BlC, pubA, pubCs, pubC, if_true, and_true, true_and, Nat.reduceEqDiff, if_false]
    rw [sp_take _ (by simp), sp_take _ (len_rc _), sp_take _ (len_no _)]
    exact leVH.of (leV.refl _) ⟨[], List.nil_sublist _, List.Perm.refl _⟩
theorem pubB1 {b : Bl} {b1 c1 k1 b2 c2 k2 b3 c3 k3 : Nat} {H : Heap} (hc : b.op.length ≤ c1 ∧ b.qu.length ≤ c2 ∧ b.no.length ≤ c3) (h1 : getH H 2001 = some (.blk b1 (Sp (b.op.map (LV.int .i64)) k1))) (h2 : getH H 2002 = some (.blk b2 (Sp (b.qu.flatMap RcC) k2))) (h3 : getH H 2003 = some (.blk b3 (Sp (b.no.flatMap NoC) k3))) :
    leVH gl (BlO b b1 c1 b2 c2 b3 c3) H (BlL b) [] := by
  refine leVH.pub 2001 h1 ?_ (leVH.pub 2002 (by rw [getH_del (by omega)]; exact h2) ?_ (leVH.pub 2003 (by rw [getH_del (by omega), getH_del (by omega)]; exact h3) ?_ ?_))
  · simp only [pubV, BlO, BlC, pubA, pubCs, pubC, if_true, and_true, true_and, Nat.reduceEqDiff, if_false]
    refine ⟨by rw [length_Sp]; simp, hc.1⟩
  · simp only [pubV, BlO, BlC, pubA, pubCs, pubC, if_true, and_true, true_and, Nat.reduceEqDiff, if_false]
    refine ⟨by rw [length_Sp, len_rc]; omega, hc.2.1⟩
  · simp only [pubV, BlO, BlC, pubA, pubCs, pubC, if_true, and_true, true_and, Nat.reduceEqDiff, if_false]
    refine ⟨by rw [length_Sp, len_no]; omega, hc.2.2⟩
  · simp only [pubV, BlO, BlC, pubA, pubCs, pubC, if_true, and_true, true_and, Nat.reduceEqDiff, if_false]
    rw [sp_take _ (by simp), sp_take _ (len_rc _), sp_take _ (len_no _)]
    exact leVH.of (leV.refl _) ⟨[], List.nil_sublist _, List.Perm.refl _⟩
def lo0 : Lo := ⟨0, 0, 0, 0, 0⟩
def bl0 : Bl := ⟨0, 0, 0, 0, 0, [], [], lo0, 0, 0, 0, false, []⟩
def setOk (l r f : Int) : Bool := decide (1 ≤ l ∧ l ≤ 64 ∧ 0 ≤ r ∧ r ≤ 1000 ∧ 1 ≤ f ∧ f ≤ 3)
def confB (b : Bl) (l r f : Int) : Bl := if setOk l r f then { b with lim := l, rate := r, fail := f } else bl0
def confE (l r f : Int) : Int := if setOk l r f then 0 else 200
def bl0F : List LV := [.int .i64 0, .int .i64 0, .int .i64 0, .int .i64 0, .int .i64 0, .fsl 1 0 [], .fsl 1 0 [], .int .i64 0, .int .i64 0, .int .i64 0, .int .i64 0, .int .i64 0, .int .i64 0, .int .i64 0, .int .i64 0, .bool false, .fsl 1 0 []]
theorem bl0_le : leVs bl0F (BlC bl0 (InS bl0.op) (RcS bl0.qu) (NoS bl0.no)) :=
  ⟨leV.refl _, leV.refl _, leV.refl _, leV.refl _, leV.refl _, leV.nil_sl _ _, leV.nil_sl _ _, leV.refl _, leV.refl _, leV.refl _, leV.refl _, leV.refl _, leV.refl _, leV.refl _, leV.refl _, leV.refl _, leV.nil_sl _ _, trivial⟩
theorem conf (b : Bl) (hb : okB b) (l r f : Int) : Pure Try.prog gl 16 [BlL b, .int .i64 l, .int .i64 r, .int .i64 f] (.tup [BlL (confB b l r f), .int .i64 (confE l r f)]) := by
  refine fn_viewT Try.func16 t16 Try.ntmps16 (by simp) ?_
  have hc := clone b hb
  rw [show BlL (confB b l r f) = .agg (BlC (confB b l r f) (InS (confB b l r f).op) (RcS (confB b l r f).qu) (NoS (confB b l r f).no)) from rfl]
  generalize hB : confB b l r f = B
  unfold c16 r16 BlL BlC InS RcS NoS
  simp (disch := first | omega | (simp only [List.length_cons, List.length_nil]; first | done | omega)) only [go_sem, Nat.reduceAdd, Nat.reduceMul, Nat.reduceSub, Nat.reduceEqDiff, Nat.reduceLeDiff, Nat.reduceMod, Nat.reduceLT, Int.reduceToNat, Int.reduceAdd, Int.reduceSub, Int.reduceMul, Int.reduceNeg, Int.reduceLE, Int.reduceLT, Int.toNat_natCast, Int.cast_ofNat_Int, Int.reduceNe, Int.reduceEq, Int.reduceBEq, Int.reduceBNe, not_false_eq_true, ne_eq, Int.reduceTMod, Int.reduceTDiv, beq_self_eq_true, bne_self_eq_false, List.contains_cons, List.contains_nil, Nat.reduceBEq]
  intro b4 b8
  repeat' (first | (simp (disch := first | omega | (simp only [List.length_cons, List.length_nil]; first | done | omega)) only [go_sem, Nat.reduceAdd, Nat.reduceMul, Nat.reduceSub, Nat.reduceEqDiff, Nat.reduceLeDiff, Nat.reduceMod, Nat.reduceLT, Int.reduceToNat, Int.reduceAdd, Int.reduceSub, Int.reduceMul, Int.reduceNeg, Int.reduceLE, Int.reduceLT, Int.toNat_natCast, Int.cast_ofNat_Int, Int.reduceNe, Int.reduceEq, Int.reduceBEq, Int.reduceBNe, not_false_eq_true, ne_eq, Int.reduceTMod, Int.reduceTDiv, beq_self_eq_true, bne_self_eq_false, List.contains_cons, List.contains_nil, Nat.reduceBEq]) | (refine allI (fun b => ?_)) | (refine allT (fun τ => ?_)) | (refine brP (fun h => ?_) (fun h => ?_) <;> (try simp only [Bool.and_eq_true, Bool.and_eq_false_iff, Bool.or_eq_true, Bool.or_eq_false_iff, Bool.not_eq_true', Bool.not_eq_false', decide_eq_true_eq, decide_eq_false_iff_not, beq_iff_eq, beq_eq_false_iff_ne, ne_eq, bne_iff_ne, Int.not_lt, Int.not_le] at h)))
  · have h0 : setOk l r f = false := by simp only [setOk, decide_eq_false_iff_not]; omega
    rw [confB, h0] at hB
    rw [confE, h0]
    subst hB
    exact view_sub (leV.tup ⟨leV.agg bl0_le, leV.refl _, trivial⟩) (List.nil_sublist _)
  · have h0 : setOk l r f = true := by simp only [setOk, decide_eq_true_eq]; omega
    rw [confB, h0] at hB
    rw [confE, h0]
    subst hB
    unfold BlL BlC InS RcS NoS at hc
    first | refine newsQ_U (hc) ?_ | refine newsQ_T (hc) ?_ | refine newsQ_of (hc) ?_
    rintro _ _ ⟨b1, c1, b2, c2, b3, c3, g, rfl, rfl⟩
    unfold BlO BlH BlC
    simp (disch := first | omega | (simp only [List.length_cons, List.length_nil]; first | done | omega)) only [go_sem, Nat.reduceAdd, Nat.reduceMul, Nat.reduceSub, Nat.reduceEqDiff, Nat.reduceLeDiff, Nat.reduceMod, Nat.reduceLT, Int.reduceToNat, Int.reduceAdd, Int.reduceSub, Int.reduceMul, Int.reduceNeg, Int.reduceLE, Int.reduceLT, Int.toNat_natCast, Int.cast_ofNat_Int, Int.reduceNe, Int.reduceEq, Int.reduceBEq, Int.reduceBNe, not_false_eq_true, ne_eq, Int.reduceTMod, Int.reduceTDiv, beq_self_eq_true, bne_self_eq_false, List.contains_cons, List.contains_nil, Nat.reduceBEq]
    exact view_end (pubB (b := { b with lim := l, rate := r, fail := f }) (rest := [.int .i64 0]) (fun _ _ _ => by simp only [pubAs, pubA, pubC, and_self]) g rfl rfl rfl)
theorem new (l r f : Int) : Pure Try.prog gl 15 [.int .i64 l, .int .i64 r, .int .i64 f] (.tup [BlL (confB bl0 l r f), .int .i64 (confE l r f)]) := by
  refine fn_pureT Try.func15 t15 Try.ntmps15 (by simp) ?_
  have hc := conf bl0 (by simp [okB, okR, bl0]) l r f
  have hc' : Pure Try.prog gl 16 [.agg bl0F, .int .i64 l, .int .i64 r, .int .i64 f] (.tup [BlL (confB bl0 l r f), .int .i64 (confE l r f)]) :=
    LCalls.args hc ⟨leV.agg bl0_le, leV.refl _, leV.refl _, leV.refl _, trivial⟩
  unfold bl0F at hc'
  unfold c15 r15 BlL BlC InS RcS NoS at *
  simp (disch := first | omega | (simp only [List.length_cons, List.length_nil]; first | done | omega)) only [go_sem, Nat.reduceAdd, Nat.reduceMul, Nat.reduceSub, Nat.reduceEqDiff, Nat.reduceLeDiff, Nat.reduceMod, Nat.reduceLT, Int.reduceToNat, Int.reduceAdd, Int.reduceSub, Int.reduceMul, Int.reduceNeg, Int.reduceLE, Int.reduceLT, Int.toNat_natCast, Int.cast_ofNat_Int, Int.reduceNe, Int.reduceEq, Int.reduceBEq, Int.reduceBNe, not_false_eq_true, ne_eq, Int.reduceTMod, Int.reduceTDiv, beq_self_eq_true, bne_self_eq_false, List.contains_cons, List.contains_nil, Nat.reduceBEq]
  intro b3
  first | refine call_U (hc') ?_ | refine call_T (hc') ?_ | refine call_N (hc') ?_ | refine call_of (hc') ?_
  simp (disch := first | omega | (simp only [List.length_cons, List.length_nil]; first | done | omega)) only [go_sem, Nat.reduceAdd, Nat.reduceMul, Nat.reduceSub, Nat.reduceEqDiff, Nat.reduceLeDiff, Nat.reduceMod, Nat.reduceLT, Int.reduceToNat, Int.reduceAdd, Int.reduceSub, Int.reduceMul, Int.reduceNeg, Int.reduceLE, Int.reduceLT, Int.toNat_natCast, Int.cast_ofNat_Int, Int.reduceNe, Int.reduceEq, Int.reduceBEq, Int.reduceBNe, not_false_eq_true, ne_eq, Int.reduceTMod, Int.reduceTDiv, beq_self_eq_true, bne_self_eq_false, List.contains_cons, List.contains_nil, Nat.reduceBEq]
end Go.Proofs.Ytofpepjehiohcaa
