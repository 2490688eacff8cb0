/- Layer 20: backlog: what is lost, what is reported. -/
import Derived.Test.YtofpepjehiohcaaUd
namespace Go.Proofs.Ytofpepjehiohcaa
open Go Go.Lx
set_option linter.unusedSimpArgs false
set_option linter.unusedVariables false
set_option maxRecDepth 100000
set_option maxHeartbeats 1000000

def bump (why k x : Int) : Int := if why = k then x + 1 else x
def trim (l : List (Int × Int)) : List (Int × Int) := l.drop (l.length - 16)
def losePd (b : Bl) (why : Int) : Lo := ⟨if pend b.pd then b.pd.f else b.ser + 1, b.ser + 1, bump why 1 b.pd.r, bump why 2 b.pd.u, bump why 3 b.pd.s⟩
def loseB (b : Bl) (why t : Int) : Bl :=
  { b with ser := b.ser + 1, pd := losePd b why, lost := b.lost + 1, no := if b.fail = 2 then trim (b.no ++ [(t, b.ser + 1)]) else b.no, hal := if b.fail = 3 then true else b.hal }
theorem zN : zeros ([.int .i64 0, .int .i64 0] : List LV) 2 = [.int .i64 0, .int .i64 0] := Eq.trans rfl rfl
theorem drop_no (l : List (Int × Int)) (m : Nat) : (l.flatMap NoC).drop (m * 2) = (l.drop m).flatMap NoC := by
  induction l generalizing m with
  | nil => simp
  | cons x l ih =>
    cases m with
    | zero => simp
    | succ m =>
      rw [List.flatMap_cons, List.drop_succ_cons, ← ih m, show (m + 1) * 2 = (NoC x).length + m * 2 by simp [NoC]; omega, List.drop_append, List.drop_eq_nil_of_le (by omega), List.nil_append, Nat.add_sub_cancel_left]
theorem lose (b : Bl) (k : Nat) (hk : okK k b) (p b3 c3 : Nat) (hc3 : b.no.length ≤ c3) (o q : LV) (why t : Int) (hw : why = 1 ∨ why = 2 ∨ why = 3) :
    Acts2 Try.prog gl 44 [.ptr 3 p 0, .int .i64 why, .int .i64 t] 3 (.blk p (BlC b o q (.msl 2003 2 b3 0 b.no.length c3))) 2003 (.blk b3 (Sp (b.no.flatMap NoC) ((c3 - b.no.length) * 2)))
      fun r e1 e2 => ∃ b3' c3', (loseB b why t).no.length ≤ c3' ∧ e1 = .blk p (BlC (loseB b why t) o q (.msl 2003 2 b3' 0 (loseB b why t).no.length c3')) ∧ e2 = .blk b3' (Sp ((loseB b why t).no.flatMap NoC) ((c3' - (loseB b why t).no.length) * 2)) := by
  refine fn_viewT Try.func44 t44 Try.ntmps44 (by simp) ?_
  obtain ⟨k0, k1_, k2, k3, k4, k5, k6, k7, k8, k9, k10, k11, k12, k13, k14⟩ := hk
  have hlen := len_no b.no
  unfold c44 r44 BlC
  simp (disch := first | omega | (simp only [List.length_cons, List.length_nil]; first | done | omega)) only [go_sem, Nat.reduceAdd, Nat.reduceMul, Nat.reduceSub, Nat.reduceEqDiff, Nat.reduceLeDiff, Nat.reduceMod, Nat.reduceLT, Int.reduceToNat, Int.reduceAdd, Int.reduceSub, Int.reduceMul, Int.reduceNeg, Int.reduceLE, Int.reduceLT, Int.toNat_natCast, Int.cast_ofNat_Int, Int.reduceNe, Int.reduceEq, Int.reduceBEq, Int.reduceBNe, not_false_eq_true, ne_eq, Int.reduceTMod, Int.reduceTDiv, beq_self_eq_true, bne_self_eq_false, List.contains_cons, List.contains_nil, Nat.reduceBEq]
  have e1 : losePd b why = losePd b why := rfl
  have hP0 : (b.pd.f == 0 && (b.pd.l == 0 && (b.pd.r == 0 && (b.pd.u == 0 && b.pd.s == 0)))) = !pend b.pd := by simp [pend]
  rw [hP0]
  cases hP : pend b.pd
  all_goals
    rcases hw with rfl | rfl | rfl
    all_goals
      repeat' (first | (simp (disch := first | omega | (simp only [List.length_cons, List.length_nil]; first | done | omega)) only [go_sem, Nat.reduceAdd, Nat.reduceMul, Nat.reduceSub, Nat.reduceEqDiff, Nat.reduceLeDiff, Nat.reduceMod, Nat.reduceLT, Int.reduceToNat, Int.reduceAdd, Int.reduceSub, Int.reduceMul, Int.reduceNeg, Int.reduceLE, Int.reduceLT, Int.toNat_natCast, Int.cast_ofNat_Int, Int.reduceNe, Int.reduceEq, Int.reduceBEq, Int.reduceBNe, not_false_eq_true, ne_eq, Int.reduceTMod, Int.reduceTDiv, beq_self_eq_true, bne_self_eq_false, List.contains_cons, List.contains_nil, Nat.reduceBEq, zN]) | (refine allI (fun b => ?_)) | (refine allT (fun τ => ?_)) | (refine brP (fun h => ?_) (fun h => ?_) <;> (try simp only [Bool.and_eq_true, Bool.and_eq_false_iff, Bool.or_eq_true, Bool.or_eq_false_iff, Bool.not_eq_true', Bool.not_eq_false', decide_eq_true_eq, decide_eq_false_iff_not, beq_iff_eq, beq_eq_false_iff_ne, ne_eq, bne_iff_ne, Int.not_lt, Int.not_le] at h)))
      · have hF : b.fail = 2 := h
        have hno : ∀ w, (loseB b w t).no = trim (b.no ++ [(t, b.ser + 1)]) := fun w => by simp [loseB, h]
        refine ⟨rfl, .inl ⟨by rw [length_Sp]; omega, by rw [length_Sp]; omega, by simp only [roomy]; omega, fun b2 c2 h2 => ?_⟩⟩
        rw [take_Sp _ hlen]
        have hcs : b.no.flatMap NoC ++ [.int .i64 t, .int .i64 (b.ser + 1)] = (b.no ++ [(t, b.ser + 1)]).flatMap NoC := by simp [NoC]
        rw [hcs, ← Sp]
        have hln : (b.no ++ [(t, b.ser + 1)]).length = b.no.length + 1 := by simp
        repeat' (first | (simp (disch := first | omega | (simp only [List.length_cons, List.length_nil]; first | done | omega)) only [go_sem, Nat.reduceAdd, Nat.reduceMul, Nat.reduceSub, Nat.reduceEqDiff, Nat.reduceLeDiff, Nat.reduceMod, Nat.reduceLT, Int.reduceToNat, Int.reduceAdd, Int.reduceSub, Int.reduceMul, Int.reduceNeg, Int.reduceLE, Int.reduceLT, Int.toNat_natCast, Int.cast_ofNat_Int, Int.reduceNe, Int.reduceEq, Int.reduceBEq, Int.reduceBNe, not_false_eq_true, ne_eq, Int.reduceTMod, Int.reduceTDiv, beq_self_eq_true, bne_self_eq_false, List.contains_cons, List.contains_nil, Nat.reduceBEq]) | (refine allI (fun b => ?_)) | (refine allT (fun τ => ?_)) | (refine brP (fun h => ?_) (fun h => ?_) <;> (try simp only [Bool.and_eq_true, Bool.and_eq_false_iff, Bool.or_eq_true, Bool.or_eq_false_iff, Bool.not_eq_true', Bool.not_eq_false', decide_eq_true_eq, decide_eq_false_iff_not, beq_iff_eq, beq_eq_false_iff_ne, ne_eq, bne_iff_ne, Int.not_lt, Int.not_le] at h)))
        · have hd := deln b2 (b.no.length + 1) c2 0 (b.no.length + 1 - 16) ((b.no ++ [(t, b.ser + 1)]).flatMap NoC) (by rw [len_no, hln]) h2 (by omega) (by omega) (by omega)
          rw [show ((b.no.length + 1 - 16 : Nat) : Int) = ((b.no.length + 1 : Nat) : Int) - 16 by omega] at hd
          first | refine actsE_U (hd) (by first | rfl | simp only [getH, if_true]) ?_ | refine actsE_T (hd) (by first | rfl | simp only [getH, if_true]) ?_ | refine actsE_N (hd) (by first | rfl | simp only [getH, if_true]) ?_ | refine actsE_of (hd) (by first | rfl | simp only [getH, if_true]) ?_
          rintro r e ⟨rfl, rfl⟩
          simp (disch := first | omega | (simp only [List.length_cons, List.length_nil]; first | done | omega)) only [go_sem, Nat.reduceAdd, Nat.reduceMul, Nat.reduceSub, Nat.reduceEqDiff, Nat.reduceLeDiff, Nat.reduceMod, Nat.reduceLT, Int.reduceToNat, Int.reduceAdd, Int.reduceSub, Int.reduceMul, Int.reduceNeg, Int.reduceLE, Int.reduceLT, Int.toNat_natCast, Int.cast_ofNat_Int, Int.reduceNe, Int.reduceEq, Int.reduceBEq, Int.reduceBNe, not_false_eq_true, ne_eq, Int.reduceTMod, Int.reduceTDiv, beq_self_eq_true, bne_self_eq_false, List.contains_cons, List.contains_nil, Nat.reduceBEq]
          refine ⟨_, _, leVH.of (leV.refl _) ⟨_, List.Sublist.refl _, List.Perm.swap _ _ _⟩, _, _, rfl, b2, c2, ?_, ?_, ?_⟩
          · rw [hno, trim, hln, List.length_drop, hln]; omega
          · rw [hno, trim, hln, List.length_drop, hln]; simp [loseB, losePd, bump, hP, hF]
          · rw [hno, trim, hln, List.length_drop, hln, drop_no, Nat.sub_zero]
        · have ht : trim (b.no ++ [(t, b.ser + 1)]) = b.no ++ [(t, b.ser + 1)] := by rw [trim, hln, show b.no.length + 1 - 16 = 0 by omega, List.drop_zero]
          refine ⟨_, _, leVH.of (leV.refl _) ⟨_, List.Sublist.refl _, List.Perm.swap _ _ _⟩, _, _, rfl, b2, c2, ?_, ?_, ?_⟩
          · rw [hno, ht, hln]; omega
          · rw [hno, ht, hln]; simp [loseB, losePd, bump, hP, hF]
          · rw [hno, ht, hln]
      all_goals
        rename_i h2
        refine ⟨_, _, leVH.self _ _, _, _, rfl, b3, c3, ?_, ?_, ?_⟩
        · simpa [loseB, h2] using hc3
        · simp [loseB, losePd, bump, hP, h, h2]
        · simp [loseB, h2]
end Go.Proofs.Ytofpepjehiohcaa
