/- Layer 9: the check of each law. -/
import Derived.Test.YtkdblnejpmbnfaaPf
namespace Go.Proofs.Ytkdblnejpmbnfaa
open Go Go.Lx
set_option linter.unusedSimpArgs false
set_option linter.unusedVariables false
set_option maxRecDepth 100000
set_option maxHeartbeats 4000000

def ta : Tb := tnew 0 1
def tb : Tb := (fkR ta 1).2
def tc : Tb := (suR tb 2 5).2
theorem fk_ta : fkR ta 1 = (0, tb) := by rfl
theorem su_tb : suR tb 2 5 = (0, tc) := by rfl
theorem su_tc : suR tc 2 0 = (1, tb0) := by rfl
theorem get_tc : (getR tc 2).2 = true ∧ (getR tc 2).1.uid = 5 ∧ (getR tc 2).1.ppid = 1 := by refine ⟨rfl, rfl, rfl⟩
theorem ok_ta : okT ta := by
  refine ⟨by decide, fun p hp => ?_⟩
  simp only [ta, tnew, List.mem_singleton] at hp
  subst hp
  simp [p1]
theorem ok_tb : okT tb := by
  refine ⟨by decide, fun p hp => ?_⟩
  have : tb.ps = [p1 0 1, { p1 0 1 with pid := 2, ppid := 1 }] := rfl
  rw [this] at hp
  simp only [List.mem_cons, List.not_mem_nil, or_false] at hp
  rcases hp with rfl | rfl <;> simp [p1]
theorem ok_tc : okT tc := by
  refine ⟨by decide, fun p hp => ?_⟩
  have : tc.ps = [p1 0 1, { p1 0 1 with pid := 2, ppid := 1, uid := 5, euid := 5 }] := rfl
  rw [this] at hp
  simp only [List.mem_cons, List.not_mem_nil, or_false] at hp
  rcases hp with rfl | rfl <;> simp [p1]
theorem awake : Pure Try.prog gl 15 [] (.bool true) := by
  refine fn_pureT Try.func15 t15 Try.ntmps15 (by simp) ?_
  have h1 : Pure Try.prog gl 9 [.agg [.int .i64 0, .int .i64 1]] (TbL ta) := new9 0 1
  have h2 := fk ta 1 ok_ta (by decide)
  have h3 := su tb 2 5 ok_tb
  have h4 := su tc 2 0 ok_tc
  have h5 := get_ tc 2 ok_tc
  have n1 : ta.nx = 2 := rfl
  rw [fk_ta, n1] at h2
  rw [su_tb] at h3
  rw [su_tc] at h4
  obtain ⟨g1, g2, g3⟩ := get_tc
  rw [g1, PsC_eq, g2, g3] at h5
  simp only [if_true] at h2
  rw [TbL_eq, TbL_eq] at h2 h3
  rw [TbL_eq] at h1 h5
  rw [TbL_eq, TbL_eq] at h4
  generalize (getR tc 2).1 = q at *
  unfold c15 r15
  repeat' (first | (simp (disch := first | omega | (simp only [List.length_cons, List.length_nil]; first | done | omega)) only [go_sem, Nat.reduceAdd, Nat.reduceMul, Nat.reduceSub, Nat.reduceEqDiff, Nat.reduceLeDiff, Nat.reduceMod, Nat.reduceLT, Int.reduceToNat, Int.reduceAdd, Int.reduceSub, Int.reduceMul, Int.reduceNeg, Int.reduceLE, Int.reduceLT, Int.toNat_natCast, Int.cast_ofNat_Int, Int.reduceNe, Int.reduceEq, Int.reduceBEq, Int.reduceBNe, not_false_eq_true, ne_eq, Int.reduceTMod, Int.reduceTDiv, beq_self_eq_true, bne_self_eq_false, List.contains_cons, List.contains_nil, Nat.reduceBEq]) | (refine allI (fun b => ?_)) | (refine allT (fun τ => ?_)) | (refine brP (fun h => ?_) (fun h => ?_) <;> (try simp only [Bool.and_eq_true, Bool.and_eq_false_iff, Bool.or_eq_true, Bool.or_eq_false_iff, Bool.not_eq_true', Bool.not_eq_false', decide_eq_true_eq, decide_eq_false_iff_not, beq_iff_eq, beq_eq_false_iff_ne, ne_eq, bne_iff_ne, Int.not_lt, Int.not_le] at h)) | refine call_U (h1) ?_ | refine callG_U (fun _ => h1) ?_ | refine call_T (h1) ?_ | refine callG_T (fun _ => h1) ?_ | refine call_U (h2) ?_ | refine callG_U (fun _ => h2) ?_ | refine call_T (h2) ?_ | refine callG_T (fun _ => h2) ?_ | refine call_U (h3) ?_ | refine callG_U (fun _ => h3) ?_ | refine call_T (h3) ?_ | refine callG_T (fun _ => h3) ?_ | refine call_U (h4) ?_ | refine callG_U (fun _ => h4) ?_ | refine call_T (h4) ?_ | refine callG_T (fun _ => h4) ?_ | refine call_U (h5) ?_ | refine callG_U (fun _ => h5) ?_ | refine call_T (h5) ?_ | refine callG_T (fun _ => h5) ?_ | refine call_N (h1) ?_ | refine call_of (h1) ?_ | refine callG_of (fun _ => h1) ?_ | refine call_N (h2) ?_ | refine call_of (h2) ?_ | refine callG_of (fun _ => h2) ?_ | refine call_N (h3) ?_ | refine call_of (h3) ?_ | refine callG_of (fun _ => h3) ?_ | refine call_N (h4) ?_ | refine call_of (h4) ?_ | refine callG_of (fun _ => h4) ?_ | refine call_N (h5) ?_ | refine call_of (h5) ?_ | refine callG_of (fun _ => h5) ?_ | (apply And.intro; focus (first | omega | (simp; done) | (simp +contextual; done) | (intros; and_intros <;> first | assumption | omega) | (intros; simp_all; done) | (intro hgd; refine ⟨hgd, ?_⟩; simp [hgd]; done) | (intro hgd; simp only [beq_eq_false_iff_ne, beq_iff_eq, decide_eq_true_eq, decide_eq_false_iff_not, bne_iff_ne, ne_eq, Bool.and_eq_true, Bool.or_eq_false_iff, Bool.or_eq_true, Bool.and_eq_false_iff] at hgd ⊢; omega))) | fail)
end Go.Proofs.Ytkdblnejpmbnfaa
