/- Layer 20: plays: records that are put and taken. -/
import Derived.Test.YtofpepjehiohcaaUr
namespace Go.Proofs.Ytofpepjehiohcaa
open Go Go.Lx
set_option linter.unusedSimpArgs false
set_option linter.unusedVariables false
set_option maxRecDepth 100000
set_option maxHeartbeats 2000000

def takP (x : Pl) (n : Int) : Pl := { x with b := takeB x.b x.ti n, tk := x.tk ++ x.b.qu.take (takeN x.b n) }
theorem ptake (x : Pl) (k : Nat) (hx : okP k x) (hk : k + 1 ≤ 1000) (p b1 c1 b2 c2 b3 c3 : Nat) (hc : x.op.length ≤ c1 ∧ x.tk.length ≤ c2 ∧ x.gv.length ≤ c3) (n : Int) :
    LCalls Try.prog gl 33 [.ptr 5000 p 0, .int .i64 n] (PlH x p b1 c1 b2 c2 b3 c3) (PlQ (takP x n) p (.bool true)) := by
  refine fn_viewT Try.func33 t33 Try.ntmps33 (by simp) ?_
  obtain ⟨h0, h1, h2, h3, h4, h5, h6, h7⟩ := hx
  have ho := takeR x.b k h1 x.ti n
  have hr := rtake x.b k h1 x.ti n
  have hP : takP x n = { x with b := takeB x.b x.ti n, tk := x.tk ++ x.b.qu.take (takeN x.b n) } := rfl
  have hT : okR (x.b.qu.take (takeN x.b n)) := ⟨by have := h1.qu; rw [List.length_take]; omega, fun r hr => by have := h1.ps r (List.mem_of_mem_take hr); omega⟩
  have hTl : (x.b.qu.take (takeN x.b n)).length ≤ k := by have := h1.qu; rw [List.length_take]; omega
  have hs := sameRs _ hT
  have hTc := len_rc (x.b.qu.take (takeN x.b n))
  have htc := len_rc x.tk
  generalize takeB x.b x.ti n = B at *
  generalize x.b.qu.take (takeN x.b n) = T at *
  rw [hP]
  unfold BlL BlC InS RcS NoS at ho hr
  unfold RcS at hs
  unfold c33 r33 PlH PlC
  simp only [BlC, InS, RcS, NoS, List.cons_append, List.nil_append]
  simp (disch := first | omega | (simp only [List.length_cons, List.length_nil]; first | done | omega)) only [go_sem, Nat.reduceAdd, Nat.reduceMul, Nat.reduceSub, Nat.reduceEqDiff, Nat.reduceLeDiff, Nat.reduceMod, Nat.reduceLT, Int.reduceToNat, Int.reduceAdd, Int.reduceSub, Int.reduceMul, Int.reduceNeg, Int.reduceLE, Int.reduceLT, Int.toNat_natCast, Int.cast_ofNat_Int, Int.reduceNe, Int.reduceEq, Int.reduceBEq, Int.reduceBNe, not_false_eq_true, ne_eq, Int.reduceTMod, Int.reduceTDiv, beq_self_eq_true, bne_self_eq_false, List.contains_cons, List.contains_nil, Nat.reduceBEq]
  first | refine call_U (ho) ?_ | refine call_T (ho) ?_ | refine call_N (ho) ?_ | refine call_of (ho) ?_
  simp (disch := first | omega | (simp only [List.length_cons, List.length_nil]; first | done | omega)) only [go_sem, Nat.reduceAdd, Nat.reduceMul, Nat.reduceSub, Nat.reduceEqDiff, Nat.reduceLeDiff, Nat.reduceMod, Nat.reduceLT, Int.reduceToNat, Int.reduceAdd, Int.reduceSub, Int.reduceMul, Int.reduceNeg, Int.reduceLE, Int.reduceLT, Int.toNat_natCast, Int.cast_ofNat_Int, Int.reduceNe, Int.reduceEq, Int.reduceBEq, Int.reduceBNe, not_false_eq_true, ne_eq, Int.reduceTMod, Int.reduceTDiv, beq_self_eq_true, bne_self_eq_false, List.contains_cons, List.contains_nil, Nat.reduceBEq]
  intro p5
  first | refine call_U (hr) ?_ | refine call_T (hr) ?_ | refine call_N (hr) ?_ | refine call_of (hr) ?_
  simp (disch := first | omega | (simp only [List.length_cons, List.length_nil]; first | done | omega)) only [go_sem, Nat.reduceAdd, Nat.reduceMul, Nat.reduceSub, Nat.reduceEqDiff, Nat.reduceLeDiff, Nat.reduceMod, Nat.reduceLT, Int.reduceToNat, Int.reduceAdd, Int.reduceSub, Int.reduceMul, Int.reduceNeg, Int.reduceLE, Int.reduceLT, Int.toNat_natCast, Int.cast_ofNat_Int, Int.reduceNe, Int.reduceEq, Int.reduceBEq, Int.reduceBNe, not_false_eq_true, ne_eq, Int.reduceTMod, Int.reduceTDiv, beq_self_eq_true, bne_self_eq_false, List.contains_cons, List.contains_nil, Nat.reduceBEq]
  intro p7
  refine ⟨rfl, .inl ⟨by rw [length_Sp, htc]; omega, by rw [length_Sp, htc]; omega, by simp only [roomy]; omega, fun b2' c2' g2 => ?_⟩⟩
  rw [take_Sp _ htc]
  first | refine call_U (hs) ?_ | refine call_T (hs) ?_ | refine call_N (hs) ?_ | refine call_of (hs) ?_
  simp (disch := first | omega | (simp only [List.length_cons, List.length_nil]; first | done | omega)) only [go_sem, Nat.reduceAdd, Nat.reduceMul, Nat.reduceSub, Nat.reduceEqDiff, Nat.reduceLeDiff, Nat.reduceMod, Nat.reduceLT, Int.reduceToNat, Int.reduceAdd, Int.reduceSub, Int.reduceMul, Int.reduceNeg, Int.reduceLE, Int.reduceLT, Int.toNat_natCast, Int.cast_ofNat_Int, Int.reduceNe, Int.reduceEq, Int.reduceBEq, Int.reduceBNe, not_false_eq_true, ne_eq, Int.reduceTMod, Int.reduceTDiv, beq_self_eq_true, bne_self_eq_false, List.contains_cons, List.contains_nil, Nat.reduceBEq]
  refine ⟨.bool true, PlH { x with b := B, tk := x.tk ++ T } p b1 c1 b2' c2' b3 c3, leVH.pickd (H2 := [(5000, _), (5001, _), (5002, _), (5003, _)]) (leV.refl _) (pick_perm rfl (pick_perm rfl (pick_perm rfl (pick_perm rfl (List.Perm.refl _))))) ?_, b1, c1, b2', c2', b3, c3, ⟨hc.1, by simpa using g2, hc.2.2⟩, rfl, rfl⟩
  have e1 : x.tk.length + T.length = (x.tk ++ T).length := by simp
  rw [e1, ← List.flatMap_append, ← Sp]
  exact ⟨⟨rfl, leVs.refl _⟩, ⟨rfl, leVs.refl _⟩, ⟨rfl, leVs.refl _⟩, ⟨rfl, leVs.refl _⟩, trivial⟩
def putP (x : Pl) (i : Nat) : Pl :=
  let l := x.op.getD i []
  if l.length = 1 then { x with b := putB x.b (l.getD 0 rc0) true, op := x.op.take i ++ x.op.drop (i + 1) } else { x with b := putB x.b (l.getD 0 rc0) false, op := x.op.set i (l.drop 1) }
theorem pput (x : Pl) (k : Nat) (hx : okP k x) (hk : k + 1 ≤ 1000) (p b1 c1 b2 c2 b3 c3 : Nat) (hc : x.op.length ≤ c1 ∧ x.tk.length ≤ c2 ∧ x.gv.length ≤ c3) (i : Nat) (hi : i < x.op.length) :
    LCalls Try.prog gl 32 [.ptr 5000 p 0, .int .i64 i] (PlH x p b1 c1 b2 c2 b3 c3) fun r H => ∃ r0, PlQ (putP x i) p r0 r H := by
  refine fn_viewT Try.func32 t32 Try.ntmps32 (by simp) ?_
  obtain ⟨h0, h1, h2, h3, h4, h5, h6, h7⟩ := hx
  obtain ⟨l0, l1, l2⟩ := h5 _ (getD_memA [] hi)
  have hP : putP x i = if (x.op.getD i []).length = 1 then { x with b := putB x.b ((x.op.getD i []).getD 0 rc0) true, op := x.op.take i ++ x.op.drop (i + 1) } else { x with b := putB x.b ((x.op.getD i []).getD 0 rc0) false, op := x.op.set i ((x.op.getD i []).drop 1) } := rfl
  have hcell : (Sp (x.op.map RcS) ((c1 - x.op.length) * 1)).getD (i * 1) .any = RcS (x.op.getD i []) := by
    rw [Nat.mul_one, getD_Sp (by simpa using hi)]
    simp [List.getD, hi]
  generalize hl : x.op.getD i [] = l at *
  have hl0 : 0 < l.length := List.length_pos_iff.2 l0
  have hr0 := l2 _ (getD_memA rc0 hl0)
  have hpt := fun last => put x.b k h1 (l.getD 0 rc0) hr0 last
  have hrp := fun last => rput x.b k h1 h2.nd (l.getD 0 rc0) hr0 last
  have hlen := len_rc l
  rw [hP]
  unfold BlL BlC InS RcS NoS at hpt hrp
  rw [RcC_eq, PaS_eq] at hpt hrp
  unfold c32 r32 PlH PlC
  simp only [BlC, InS, RcS_eq, NoS, List.cons_append, List.nil_append]
  have htk4 : List.take 4 (List.flatMap RcC l) = RcC (l.getD 0 rc0) := by simpa using take_rc l hl0
  have hdrp : List.take ((l.length - 1) * 4) (List.drop 4 (List.flatMap RcC l)) = (l.drop 1).flatMap RcC := by
    have := drop_rc l 1
    rw [Nat.one_mul] at this
    rw [this, List.take_of_length_le (by rw [len_rc]; simp)]
  have hset : ∀ kk, (Sp (x.op.map RcS) kk).take (i * 1) ++ [.sl 4 (l.length - 1) ((l.drop 1).flatMap RcC)] ++ (Sp (x.op.map RcS) kk).drop (i * 1 + 1) = Sp ((x.op.set i (l.drop 1)).map RcS) kk := fun kk => by
    rw [Nat.mul_one, take_Sp_le (by simp; omega), Sp, Sp, List.drop_append_of_le_length (by simp; omega), List.set_eq_take_append_cons_drop, if_pos hi, List.map_append, List.map_cons, List.map_take, List.map_drop]
    simp [RcS]
  have hcell2 : ∀ kk, (Sp ((x.op.set i (l.drop 1)).map RcS) kk).getD (i * 1) .any = .sl 4 (l.length - 1) ((l.drop 1).flatMap RcC) := fun kk => by
    rw [Nat.mul_one, getD_Sp (by simpa using hi)]
    simp [List.getD, hi, RcS]
  have hol : ∀ l', (x.op.set i l').length = x.op.length := fun l' => by simp
  have hsl : ∀ kk, (Sp (x.op.map RcS) kk).length = x.op.length + kk := fun kk => by rw [length_Sp]; simp
  have hsl2 : ∀ kk, (Sp ((x.op.set i (l.drop 1)).map RcS) kk).length = x.op.length + kk := fun kk => by rw [length_Sp]; simp
  simp (disch := first | omega | (simp only [List.length_cons, List.length_nil]; first | done | omega)) only [go_sem, Nat.reduceAdd, Nat.reduceMul, Nat.reduceSub, Nat.reduceEqDiff, Nat.reduceLeDiff, Nat.reduceMod, Nat.reduceLT, Int.reduceToNat, Int.reduceAdd, Int.reduceSub, Int.reduceMul, Int.reduceNeg, Int.reduceLE, Int.reduceLT, Int.toNat_natCast, Int.cast_ofNat_Int, Int.reduceNe, Int.reduceEq, Int.reduceBEq, Int.reduceBNe, not_false_eq_true, ne_eq, Int.reduceTMod, Int.reduceTDiv, beq_self_eq_true, bne_self_eq_false, List.contains_cons, List.contains_nil, Nat.reduceBEq, hcell, RcS_eq, htk4, hdrp, hset, hcell2, RcC_eq, PaS_eq]
  refine ⟨by omega, by rw [hsl]; omega, by omega, by omega, fun p4 => ⟨by omega, by rw [hsl]; omega, by omega, by omega, by rw [hsl]; omega, by omega, by rw [hsl2]; omega, ?_⟩⟩
  by_cases hone : l.length = 1
  · have hz : (((l.length - 1 : Nat) : Int) == 0) = true := by simp; omega
    rw [hz, if_pos hone]
    have hpt := hpt true
    have hrp := hrp true
    generalize putB x.b (l.getD 0 rc0) true = B at *
    first | refine call_U (hpt) ?_ | refine call_T (hpt) ?_ | refine call_N (hpt) ?_ | refine call_of (hpt) ?_
    simp (disch := first | omega | (simp only [List.length_cons, List.length_nil]; first | done | omega)) only [go_sem, Nat.reduceAdd, Nat.reduceMul, Nat.reduceSub, Nat.reduceEqDiff, Nat.reduceLeDiff, Nat.reduceMod, Nat.reduceLT, Int.reduceToNat, Int.reduceAdd, Int.reduceSub, Int.reduceMul, Int.reduceNeg, Int.reduceLE, Int.reduceLT, Int.toNat_natCast, Int.cast_ofNat_Int, Int.reduceNe, Int.reduceEq, Int.reduceBEq, Int.reduceBNe, not_false_eq_true, ne_eq, Int.reduceTMod, Int.reduceTDiv, beq_self_eq_true, bne_self_eq_false, List.contains_cons, List.contains_nil, Nat.reduceBEq]
    first | refine call_U (hrp) ?_ | refine call_T (hrp) ?_ | refine call_N (hrp) ?_ | refine call_of (hrp) ?_
    simp (disch := first | omega | (simp only [List.length_cons, List.length_nil]; first | done | omega)) only [go_sem, Nat.reduceAdd, Nat.reduceMul, Nat.reduceSub, Nat.reduceEqDiff, Nat.reduceLeDiff, Nat.reduceMod, Nat.reduceLT, Int.reduceToNat, Int.reduceAdd, Int.reduceSub, Int.reduceMul, Int.reduceNeg, Int.reduceLE, Int.reduceLT, Int.toNat_natCast, Int.cast_ofNat_Int, Int.reduceNe, Int.reduceEq, Int.reduceBEq, Int.reduceBNe, not_false_eq_true, ne_eq, Int.reduceTMod, Int.reduceTDiv, beq_self_eq_true, bne_self_eq_false, List.contains_cons, List.contains_nil, Nat.reduceBEq]
    have e0 : (if c1 = 0 then 0 else 0) = 0 := by split <;> rfl
    have e1 : ((i : Int) + 1).toNat = i + 1 := by omega
    have e2 : ∀ kk, List.take (i * 1) (Sp ((x.op.set i (l.drop 1)).map RcS) kk) = (x.op.take i).map RcS := fun kk => by
      rw [Nat.mul_one, take_Sp_le (by simp; omega), ← List.map_take, List.take_set_of_le (by omega)]
    have e3 : ∀ kk, List.take ((x.op.length - (i + 1)) * 1) (List.drop (if c1 = i + 1 then 0 else (i + 1) * 1) (Sp ((x.op.set i (l.drop 1)).map RcS) kk)) = (x.op.drop (i + 1)).map RcS := fun kk => by
      rw [take_drop_Sp (w := 1) (n := x.op.length) (by simp) (by omega) hc.1, Nat.mul_one, ← List.map_drop, List.drop_set_of_lt (by omega)]
    have e4 : ((x.op.take i).map RcS).length = i * 1 := by simp; omega
    rw [e0, e1, Nat.sub_zero, List.drop_zero, e2]
    simp only [e3]
    refine ⟨by omega, by omega, by rw [hsl2]; omega, by simp only [roomy]; omega, fun b4 c4 g4 => ⟨?_, rfl, .inl ⟨?_, ?_, by simp only [roomy]; omega, fun b5 c5 g5 => ?_⟩⟩⟩
    · rw [hsl2]; split <;> omega
    · rw [List.length_append, e4]; omega
    · rw [List.length_append, e4, List.length_replicate]; omega
    rw [List.take_left' e4]
    refine ⟨_, PlH { x with b := B, op := x.op.take i ++ x.op.drop (i + 1) } p b5 c5 b2 c2 b3 c3, leVH.pickd (H2 := [(5000, _), (66, _), (5002, _), (5003, _)]) (leV.refl _) (pick_perm rfl (pick_perm rfl (pick_perm rfl (pick_perm rfl (List.Perm.refl _))))) ?_, _, b5, c5, b2, c2, b3, c3, ⟨by simp; omega, hc.2.1, hc.2.2⟩, rfl, rfl⟩
    have e5 : i + (x.op.length - (i + 1)) = (x.op.take i ++ x.op.drop (i + 1)).length := by simp; omega
    rw [e5, ← List.map_append, ← Sp]
    refine ⟨⟨rfl, ?_⟩, ⟨rfl, leVs.refl _⟩, ⟨rfl, leVs.refl _⟩, ⟨rfl, leVs.refl _⟩, trivial⟩
    exact leVs.app (leVs.refl (BlC B (InS B.op) (RcS B.qu) (NoS B.no))) (leVs.app (leVs.refl (BlC B (InS B.op) (RcS B.qu) (NoS B.no))) ⟨leV.msl_name _ 5001 _ _ _ _ _, leV.refl _, leV.refl _, leV.refl _, trivial⟩)
  · have hz : (((l.length - 1 : Nat) : Int) == 0) = false := by simp; omega
    rw [hz, if_neg hone]
    have hpt := hpt false
    have hrp := hrp false
    generalize putB x.b (l.getD 0 rc0) false = B at *
    first | refine call_U (hpt) ?_ | refine call_T (hpt) ?_ | refine call_N (hpt) ?_ | refine call_of (hpt) ?_
    simp (disch := first | omega | (simp only [List.length_cons, List.length_nil]; first | done | omega)) only [go_sem, Nat.reduceAdd, Nat.reduceMul, Nat.reduceSub, Nat.reduceEqDiff, Nat.reduceLeDiff, Nat.reduceMod, Nat.reduceLT, Int.reduceToNat, Int.reduceAdd, Int.reduceSub, Int.reduceMul, Int.reduceNeg, Int.reduceLE, Int.reduceLT, Int.toNat_natCast, Int.cast_ofNat_Int, Int.reduceNe, Int.reduceEq, Int.reduceBEq, Int.reduceBNe, not_false_eq_true, ne_eq, Int.reduceTMod, Int.reduceTDiv, beq_self_eq_true, bne_self_eq_false, List.contains_cons, List.contains_nil, Nat.reduceBEq]
    first | refine call_U (hrp) ?_ | refine call_T (hrp) ?_ | refine call_N (hrp) ?_ | refine call_of (hrp) ?_
    simp (disch := first | omega | (simp only [List.length_cons, List.length_nil]; first | done | omega)) only [go_sem, Nat.reduceAdd, Nat.reduceMul, Nat.reduceSub, Nat.reduceEqDiff, Nat.reduceLeDiff, Nat.reduceMod, Nat.reduceLT, Int.reduceToNat, Int.reduceAdd, Int.reduceSub, Int.reduceMul, Int.reduceNeg, Int.reduceLE, Int.reduceLT, Int.toNat_natCast, Int.cast_ofNat_Int, Int.reduceNe, Int.reduceEq, Int.reduceBEq, Int.reduceBNe, not_false_eq_true, ne_eq, Int.reduceTMod, Int.reduceTDiv, beq_self_eq_true, bne_self_eq_false, List.contains_cons, List.contains_nil, Nat.reduceBEq]
    refine ⟨_, PlH { x with b := B, op := x.op.set i (l.drop 1) } p b1 c1 b2 c2 b3 c3, leVH.pickd (H2 := [(5000, _), (5001, _), (5002, _), (5003, _)]) (leV.refl _) (pick_perm rfl (pick_perm rfl (pick_perm rfl (pick_perm rfl (List.Perm.refl _))))) ?_, _, b1, c1, b2, c2, b3, c3, ⟨by simpa using hc.1, hc.2.1, hc.2.2⟩, rfl, rfl⟩
    unfold PlH PlC
    dsimp only
    rw [hol]
    exact ⟨⟨rfl, leVs.refl _⟩, ⟨rfl, leVs.refl _⟩, ⟨rfl, leVs.refl _⟩, ⟨rfl, leVs.refl _⟩, trivial⟩
end Go.Proofs.Ytofpepjehiohcaa
