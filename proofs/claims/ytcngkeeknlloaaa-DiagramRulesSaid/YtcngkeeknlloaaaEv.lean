/- Tests: which are tests of a list; the reference and the program. -/
import Derived.Test.YtcngkeeknlloaaaCodg
import Derived.Test.YtcngkeeknlloaaaRtm
namespace Go.Proofs.Ytcngkeeknlloaaa
open Go Go.Lx
set_option linter.unusedSimpArgs false
set_option linter.unusedVariables false
set_option maxRecDepth 100000
set_option maxHeartbeats 4000000

def allowF (l f : Int) : Bool := decide (1 ≤ f ∧ f ≤ 22 ∧ ((l = 1 ∨ l = 4) ∧ (f ≤ 8 ∨ f = 13 ∨ f = 14) ∨ l = 2 ∧ f ≤ 14 ∨ l = 3 ∧ f < 22 ∨ l = 5 ∧ (f ≤ 8 ∨ f = 13 ∨ f = 14 ∨ f = 22)))
def cmpF (f : Int) : Bool := decide (f = 3 ∨ f = 4 ∨ f = 5 ∨ f = 6 ∨ f = 7 ∨ f = 19 ∨ f = 20)
def textF (f : Int) : Bool := decide (f = 13 ∨ f = 14)
def itmF (f : Int) : Bool := decide (17 ≤ f ∧ f ≤ 21)
theorem rallow (l f : Int) : Pure Try.prog gl 95 [.int .i64 l, .int .i64 f] (.bool (allowF l f)) := by
  refine fn_pureT Try.func95 t95 Try.ntmps95 (by simp) ?_
  unfold c95 r95
  repeat' (first | (simp (disch := first | omega | (simp only [List.length_cons, List.length_nil]; first | done | omega)) only [go_sem, Nat.reduceAdd, Nat.reduceMul, Nat.reduceSub, Nat.reduceEqDiff, Nat.reduceLeDiff, Nat.reduceMod, Nat.reduceLT, Int.reduceToNat, Int.reduceAdd, Int.reduceSub, Int.reduceMul, Int.reduceNeg, Int.reduceLE, Int.reduceLT, Int.reduceNe, Int.reduceEq, Int.reduceBEq, Int.reduceBNe, Int.reduceTMod, Int.reduceTDiv, Nat.reduceBEq]) | (refine allI (fun b => ?_)) | (refine allT (fun τ => ?_)) | (refine brP (fun h => ?_) (fun h => ?_) <;> (try simp only [zgx, zbx] at h)))
  all_goals
    simp only [allowF]
    try rw [Bool.eq_iff_iff]
    try simp only [Bool.or_eq_true, Bool.and_eq_true, decide_eq_true_eq, beq_iff_eq, Bool.false_eq_true, iff_true, true_iff, iff_false, false_iff]
    try omega
theorem pallow (l f : Int) : Pure Try.prog gl 90 [.int .i64 l, .int .i64 f] (.bool (allowF l f)) := by
  refine fn_pureT Try.func90 t90 Try.ntmps90 (by simp) ?_
  unfold c90 r90
  repeat' (first | (simp (disch := first | omega | (simp only [List.length_cons, List.length_nil]; first | done | omega)) only [go_sem, Nat.reduceAdd, Nat.reduceMul, Nat.reduceSub, Nat.reduceEqDiff, Nat.reduceLeDiff, Nat.reduceMod, Nat.reduceLT, Int.reduceToNat, Int.reduceAdd, Int.reduceSub, Int.reduceMul, Int.reduceNeg, Int.reduceLE, Int.reduceLT, Int.reduceNe, Int.reduceEq, Int.reduceBEq, Int.reduceBNe, Int.reduceTMod, Int.reduceTDiv, Nat.reduceBEq]) | (refine allI (fun b => ?_)) | (refine allT (fun τ => ?_)) | (refine brP (fun h => ?_) (fun h => ?_) <;> (try simp only [zgx, zbx] at h)))
  all_goals
    simp only [allowF]
    try rw [Bool.eq_iff_iff]
    try simp only [Bool.or_eq_true, Bool.and_eq_true, decide_eq_true_eq, beq_iff_eq, Bool.false_eq_true, iff_true, true_iff, iff_false, false_iff]
    try omega
theorem rcmp (f : Int) : Pure Try.prog gl 96 [.int .i64 f] (.bool (cmpF f)) := by
  refine fn_pureT Try.func96 t96 Try.ntmps96 (by simp) ?_
  unfold c96 r96
  repeat' (first | (simp (disch := first | omega | (simp only [List.length_cons, List.length_nil]; first | done | omega)) only [go_sem, Nat.reduceAdd, Nat.reduceMul, Nat.reduceSub, Nat.reduceEqDiff, Nat.reduceLeDiff, Nat.reduceMod, Nat.reduceLT, Int.reduceToNat, Int.reduceAdd, Int.reduceSub, Int.reduceMul, Int.reduceNeg, Int.reduceLE, Int.reduceLT, Int.reduceNe, Int.reduceEq, Int.reduceBEq, Int.reduceBNe, Int.reduceTMod, Int.reduceTDiv, Nat.reduceBEq]) | (refine allI (fun b => ?_)) | (refine allT (fun τ => ?_)) | (refine brP (fun h => ?_) (fun h => ?_) <;> (try simp only [zgx, zbx] at h)))
  all_goals
    simp only [cmpF]
    try rw [Bool.eq_iff_iff]
    try simp only [Bool.or_eq_true, Bool.and_eq_true, decide_eq_true_eq, beq_iff_eq, Bool.false_eq_true, iff_true, true_iff, iff_false, false_iff]
    try omega
theorem pcmp (f : Int) : Pure Try.prog gl 91 [.int .i64 f] (.bool (cmpF f)) := by
  refine fn_pureT Try.func91 t91 Try.ntmps91 (by simp) ?_
  unfold c91 r91
  repeat' (first | (simp (disch := first | omega | (simp only [List.length_cons, List.length_nil]; first | done | omega)) only [go_sem, Nat.reduceAdd, Nat.reduceMul, Nat.reduceSub, Nat.reduceEqDiff, Nat.reduceLeDiff, Nat.reduceMod, Nat.reduceLT, Int.reduceToNat, Int.reduceAdd, Int.reduceSub, Int.reduceMul, Int.reduceNeg, Int.reduceLE, Int.reduceLT, Int.reduceNe, Int.reduceEq, Int.reduceBEq, Int.reduceBNe, Int.reduceTMod, Int.reduceTDiv, Nat.reduceBEq]) | (refine allI (fun b => ?_)) | (refine allT (fun τ => ?_)) | (refine brP (fun h => ?_) (fun h => ?_) <;> (try simp only [zgx, zbx] at h)))
  all_goals
    simp only [cmpF]
    try rw [Bool.eq_iff_iff]
    try simp only [Bool.or_eq_true, Bool.and_eq_true, decide_eq_true_eq, beq_iff_eq, Bool.false_eq_true, iff_true, true_iff, iff_false, false_iff]
    try omega
theorem rtext (f : Int) : Pure Try.prog gl 83 [.int .i64 f] (.bool (textF f)) := by
  refine fn_pureT Try.func83 t83 Try.ntmps83 (by simp) ?_
  unfold c83 r83
  repeat' (first | (simp (disch := first | omega | (simp only [List.length_cons, List.length_nil]; first | done | omega)) only [go_sem, Nat.reduceAdd, Nat.reduceMul, Nat.reduceSub, Nat.reduceEqDiff, Nat.reduceLeDiff, Nat.reduceMod, Nat.reduceLT, Int.reduceToNat, Int.reduceAdd, Int.reduceSub, Int.reduceMul, Int.reduceNeg, Int.reduceLE, Int.reduceLT, Int.reduceNe, Int.reduceEq, Int.reduceBEq, Int.reduceBNe, Int.reduceTMod, Int.reduceTDiv, Nat.reduceBEq]) | (refine allI (fun b => ?_)) | (refine allT (fun τ => ?_)) | (refine brP (fun h => ?_) (fun h => ?_) <;> (try simp only [zgx, zbx] at h)))
  all_goals
    simp only [textF]
    try rw [Bool.eq_iff_iff]
    try simp only [Bool.or_eq_true, Bool.and_eq_true, decide_eq_true_eq, beq_iff_eq, Bool.false_eq_true, iff_true, true_iff, iff_false, false_iff]
    try omega
theorem ptext (f : Int) : Pure Try.prog gl 92 [.int .i64 f] (.bool (textF f)) := by
  refine fn_pureT Try.func92 t92 Try.ntmps92 (by simp) ?_
  unfold c92 r92
  repeat' (first | (simp (disch := first | omega | (simp only [List.length_cons, List.length_nil]; first | done | omega)) only [go_sem, Nat.reduceAdd, Nat.reduceMul, Nat.reduceSub, Nat.reduceEqDiff, Nat.reduceLeDiff, Nat.reduceMod, Nat.reduceLT, Int.reduceToNat, Int.reduceAdd, Int.reduceSub, Int.reduceMul, Int.reduceNeg, Int.reduceLE, Int.reduceLT, Int.reduceNe, Int.reduceEq, Int.reduceBEq, Int.reduceBNe, Int.reduceTMod, Int.reduceTDiv, Nat.reduceBEq]) | (refine allI (fun b => ?_)) | (refine allT (fun τ => ?_)) | (refine brP (fun h => ?_) (fun h => ?_) <;> (try simp only [zgx, zbx] at h)))
  all_goals
    simp only [textF]
    try rw [Bool.eq_iff_iff]
    try simp only [Bool.or_eq_true, Bool.and_eq_true, decide_eq_true_eq, beq_iff_eq, Bool.false_eq_true, iff_true, true_iff, iff_false, false_iff]
    try omega
theorem ritem (f : Int) : Pure Try.prog gl 63 [.int .i64 f] (.bool (itmF f)) := by
  refine fn_pureT Try.func63 t63 Try.ntmps63 (by simp) ?_
  unfold c63 r63
  repeat' (first | (simp (disch := first | omega | (simp only [List.length_cons, List.length_nil]; first | done | omega)) only [go_sem, Nat.reduceAdd, Nat.reduceMul, Nat.reduceSub, Nat.reduceEqDiff, Nat.reduceLeDiff, Nat.reduceMod, Nat.reduceLT, Int.reduceToNat, Int.reduceAdd, Int.reduceSub, Int.reduceMul, Int.reduceNeg, Int.reduceLE, Int.reduceLT, Int.reduceNe, Int.reduceEq, Int.reduceBEq, Int.reduceBNe, Int.reduceTMod, Int.reduceTDiv, Nat.reduceBEq]) | (refine allI (fun b => ?_)) | (refine allT (fun τ => ?_)) | (refine brP (fun h => ?_) (fun h => ?_) <;> (try simp only [zgx, zbx] at h)))
  all_goals
    simp only [itmF]
    try rw [Bool.eq_iff_iff]
    try simp only [Bool.or_eq_true, Bool.and_eq_true, decide_eq_true_eq, beq_iff_eq, Bool.false_eq_true, iff_true, true_iff, iff_false, false_iff]
    try omega
theorem pitem (f : Int) : Pure Try.prog gl 80 [.int .i64 f] (.bool (itmF f)) := by
  refine fn_pureT Try.func80 t80 Try.ntmps80 (by simp) ?_
  unfold c80 r80
  repeat' (first | (simp (disch := first | omega | (simp only [List.length_cons, List.length_nil]; first | done | omega)) only [go_sem, Nat.reduceAdd, Nat.reduceMul, Nat.reduceSub, Nat.reduceEqDiff, Nat.reduceLeDiff, Nat.reduceMod, Nat.reduceLT, Int.reduceToNat, Int.reduceAdd, Int.reduceSub, Int.reduceMul, Int.reduceNeg, Int.reduceLE, Int.reduceLT, Int.reduceNe, Int.reduceEq, Int.reduceBEq, Int.reduceBNe, Int.reduceTMod, Int.reduceTDiv, Nat.reduceBEq]) | (refine allI (fun b => ?_)) | (refine allT (fun τ => ?_)) | (refine brP (fun h => ?_) (fun h => ?_) <;> (try simp only [zgx, zbx] at h)))
  all_goals
    simp only [itmF]
    try rw [Bool.eq_iff_iff]
    try simp only [Bool.or_eq_true, Bool.and_eq_true, decide_eq_true_eq, beq_iff_eq, Bool.false_eq_true, iff_true, true_iff, iff_false, false_iff]
    try omega
/-- the first error of a test in a rule of a list -/
def chkT (t : Te) (l : Int) : Int :=
  if allowF l t.f = false ∨ t.x ≠ 0 ∧ (allowF l t.x = false ∨ cmpF t.f = false ∨ cmpF t.x = false) then 120
  else if t.o < 1 ∨ 8 < t.o ∨ 2 < t.o ∧ (textF t.f = true ∨ t.x ≠ 0) then 121
  else if t.x ≠ 0 ∧ (t.n ≠ 0 ∨ t.t.length ≠ 0) ∨ t.x = 0 ∧ textF t.f = true ∧ (t.n ≠ 0 ∨ t.t.length = 0 ∨ 640 < t.t.length) ∨ textF t.f = false ∧ t.t.length ≠ 0 then 122 else 0
theorem beq_nil_len (s : List UInt8) : (s == []) = decide (s.length = 0) := by cases s <;> simp
theorem bne_nil_len (s : List UInt8) : (s != []) = decide (s.length ≠ 0) := by cases s <;> simp
theorem rchk (t : Te) (l : Int) : Pure Try.prog gl 82 [.agg (TeC t), .int .i64 l] (.int .i64 (chkT t l)) := by
  refine fn_pureT Try.func82 t82 Try.ntmps82 (by simp) ?_
  unfold c82 r82 TeC
  repeat' (first | (simp (disch := first | omega | (simp only [List.length_cons, List.length_nil]; first | done | omega)) only [go_sem, Nat.reduceAdd, Nat.reduceMul, Nat.reduceSub, Nat.reduceEqDiff, Nat.reduceLeDiff, Nat.reduceMod, Nat.reduceLT, Int.reduceToNat, Int.reduceAdd, Int.reduceSub, Int.reduceMul, Int.reduceNeg, Int.reduceLE, Int.reduceLT, Int.reduceNe, Int.reduceEq, Int.reduceBEq, Int.reduceBNe, Int.reduceTMod, Int.reduceTDiv, Nat.reduceBEq, bne_nil_len]) | (refine allI (fun b => ?_)) | (refine allT (fun τ => ?_)) | (refine brP (fun h => ?_) (fun h => ?_) <;> (try simp only [zgx, zbx] at h)) | refine call_U (rallow _ _) ?_ | refine callG_U (fun _ => rallow _ _) ?_ | refine call_T (rallow _ _) ?_ | refine callG_T (fun _ => rallow _ _) ?_ | refine call_U (rcmp _) ?_ | refine callG_U (fun _ => rcmp _) ?_ | refine call_T (rcmp _) ?_ | refine callG_T (fun _ => rcmp _) ?_ | refine call_U (rtext _) ?_ | refine callG_U (fun _ => rtext _) ?_ | refine call_T (rtext _) ?_ | refine callG_T (fun _ => rtext _) ?_ | refine call_N (rallow _ _) ?_ | refine call_of (rallow _ _) ?_ | refine callG_of (fun _ => rallow _ _) ?_ | refine call_N (rcmp _) ?_ | refine call_of (rcmp _) ?_ | refine callG_of (fun _ => rcmp _) ?_ | refine call_N (rtext _) ?_ | refine call_of (rtext _) ?_ | refine callG_of (fun _ => rtext _) ?_ | (apply And.intro; focus (first | omega | (simp; done) | (simp +contextual; done) | (intros; and_intros <;> first | assumption | omega) | (intros; simp_all; done) | (intro hgd; refine ⟨hgd, ?_⟩; simp [hgd]; done) | (intro hgd; simp only [zgx] at hgd ⊢; omega))) | fail)
  all_goals
    simp only [chkT, List.length_eq_zero_iff, ne_eq]
    grind
theorem pchk (t : Te) (l : Int) : Pure Try.prog gl 79 [.agg (TeC t), .int .i64 l] (.int .i64 (chkT t l)) := by
  refine fn_pureT Try.func79 t79 Try.ntmps79 (by simp) ?_
  unfold c79 r79 TeC
  repeat' (first | (simp (disch := first | omega | (simp only [List.length_cons, List.length_nil]; first | done | omega)) only [go_sem, Nat.reduceAdd, Nat.reduceMul, Nat.reduceSub, Nat.reduceEqDiff, Nat.reduceLeDiff, Nat.reduceMod, Nat.reduceLT, Int.reduceToNat, Int.reduceAdd, Int.reduceSub, Int.reduceMul, Int.reduceNeg, Int.reduceLE, Int.reduceLT, Int.reduceNe, Int.reduceEq, Int.reduceBEq, Int.reduceBNe, Int.reduceTMod, Int.reduceTDiv, Nat.reduceBEq, bne_nil_len]) | (refine allI (fun b => ?_)) | (refine allT (fun τ => ?_)) | (refine brP (fun h => ?_) (fun h => ?_) <;> (try simp only [zgx, zbx] at h)) | refine call_U (pallow _ _) ?_ | refine callG_U (fun _ => pallow _ _) ?_ | refine call_T (pallow _ _) ?_ | refine callG_T (fun _ => pallow _ _) ?_ | refine call_U (pcmp _) ?_ | refine callG_U (fun _ => pcmp _) ?_ | refine call_T (pcmp _) ?_ | refine callG_T (fun _ => pcmp _) ?_ | refine call_U (ptext _) ?_ | refine callG_U (fun _ => ptext _) ?_ | refine call_T (ptext _) ?_ | refine callG_T (fun _ => ptext _) ?_ | refine call_N (pallow _ _) ?_ | refine call_of (pallow _ _) ?_ | refine callG_of (fun _ => pallow _ _) ?_ | refine call_N (pcmp _) ?_ | refine call_of (pcmp _) ?_ | refine callG_of (fun _ => pcmp _) ?_ | refine call_N (ptext _) ?_ | refine call_of (ptext _) ?_ | refine callG_of (fun _ => ptext _) ?_ | (apply And.intro; focus (first | omega | (simp; done) | (simp +contextual; done) | (intros; and_intros <;> first | assumption | omega) | (intros; simp_all; done) | (intro hgd; refine ⟨hgd, ?_⟩; simp [hgd]; done) | (intro hgd; simp only [zgx] at hgd ⊢; omega))) | fail)
  all_goals
    have hct : cmpF t.f = true → textF t.f = false := by
      intro h; simp only [cmpF, textF, decide_eq_true_eq, decide_eq_false_iff_not] at *; omega
    simp only [chkT, List.length_eq_zero_iff, ne_eq]
    grind
/-- a test of some list -/
def soundT (t : Te) : Bool := chkT t 1 == 0 || chkT t 2 == 0 || chkT t 3 == 0 || chkT t 4 == 0 || chkT t 5 == 0
theorem soundT_of {t : Te} {k : Int} (h1 : 1 ≤ k) (h2 : k ≤ 5) (h : chkT t k = 0) : soundT t = true := by
  rcases (by omega : k = 1 ∨ k = 2 ∨ k = 3 ∨ k = 4 ∨ k = 5) with rfl | rfl | rfl | rfl | rfl <;> simp [soundT, h]
theorem soundT_not {t : Te} (h : ∀ j, 1 ≤ j → j < 6 → chkT t j ≠ 0) : soundT t = false := by
  simp [soundT, h 1 (by omega) (by omega), h 2 (by omega) (by omega), h 3 (by omega) (by omega), h 4 (by omega) (by omega), h 5 (by omega) (by omega)]
theorem rsound (t : Te) : Pure Try.prog gl 61 [.agg (TeC t)] (.bool (soundT t)) := by
  refine fn_pureT Try.func61 t61 Try.ntmps61 (by simp) ?_
  unfold c61 r61 TeC
  simp (disch := first | omega | (simp only [List.length_cons, List.length_nil]; first | done | omega)) only [go_sem, Nat.reduceAdd, Nat.reduceMul, Nat.reduceSub, Nat.reduceEqDiff, Nat.reduceLeDiff, Nat.reduceMod, Nat.reduceLT, Int.reduceToNat, Int.reduceAdd, Int.reduceSub, Int.reduceMul, Int.reduceNeg, Int.reduceLE, Int.reduceLT, Int.reduceNe, Int.reduceEq, Int.reduceBEq, Int.reduceBNe, Int.reduceTMod, Int.reduceTDiv, Nat.reduceBEq]
  intro b1
  refine loopI (ι := Int) (fun k => 1 ≤ k ∧ k ≤ 6 ∧ ∀ j, 1 ≤ j → j < k → chkT t j ≠ 0) (fun k => (3, .int .i64 k) :: _) (fun _ => _) (fun k => (6 - k).toNat) 1 ⟨by omega, by omega, fun j h1 h2 => absurd h1 (by omega)⟩ Ents.same ?_
  intro k hk
  repeat' (first | (simp (disch := first | omega | (simp only [List.length_cons, List.length_nil]; first | done | omega)) only [go_sem, Nat.reduceAdd, Nat.reduceMul, Nat.reduceSub, Nat.reduceEqDiff, Nat.reduceLeDiff, Nat.reduceMod, Nat.reduceLT, Int.reduceToNat, Int.reduceAdd, Int.reduceSub, Int.reduceMul, Int.reduceNeg, Int.reduceLE, Int.reduceLT, Int.reduceNe, Int.reduceEq, Int.reduceBEq, Int.reduceBNe, Int.reduceTMod, Int.reduceTDiv, Nat.reduceBEq]) | (refine allI (fun b => ?_)) | (refine allT (fun τ => ?_)) | (refine brP (fun h => ?_) (fun h => ?_) <;> (try simp only [zgx, zbx] at h)) | refine call_U (rchk t k) ?_ | refine callG_U (fun _ => rchk t k) ?_ | refine call_T (rchk t k) ?_ | refine callG_T (fun _ => rchk t k) ?_ | refine call_N (rchk t k) ?_ | refine call_of (rchk t k) ?_ | refine callG_of (fun _ => rchk t k) ?_ | (apply And.intro; focus (first | omega | (simp; done) | (simp +contextual; done) | (intros; and_intros <;> first | assumption | omega) | (intros; simp_all; done) | (intro hgd; refine ⟨hgd, ?_⟩; simp [hgd]; done) | (intro hgd; simp only [zgx] at hgd ⊢; omega))) | fail)
  · exact soundT_of hk.1 (by omega) h
  · exact ⟨⟨k + 1, by omega, by omega, fun j h1 h2 => (by omega : j < k ∨ j = k).elim (fun h3 => hk.2.2 j h1 h3) (fun h3 => h3 ▸ h)⟩, by dsimp only; omega, Ents.envH (by simp [go_sem]) rfl⟩
  · exact (soundT_not fun j h1 h2 => hk.2.2 j h1 (by omega)).symm
def hasF (f : Int) (x : Cx) : Bool := decide (if 15 ≤ f ∧ f ≤ 21 then x.ph = 2 else f ≠ 22 ∨ x.ty ≠ 0)
theorem rhas (f : Int) (x : Cx) : Pure Try.prog gl 62 [.int .i64 f, .agg (CxC x)] (.bool (hasF f x)) := by
  refine fn_pureT Try.func62 t62 Try.ntmps62 (by simp) ?_
  unfold c62 r62 CxC
  repeat' (first | (simp (disch := first | omega | (simp only [List.length_cons, List.length_nil]; first | done | omega)) only [go_sem, Nat.reduceAdd, Nat.reduceMul, Nat.reduceSub, Nat.reduceEqDiff, Nat.reduceLeDiff, Nat.reduceMod, Nat.reduceLT, Int.reduceToNat, Int.reduceAdd, Int.reduceSub, Int.reduceMul, Int.reduceNeg, Int.reduceLE, Int.reduceLT, Int.reduceNe, Int.reduceEq, Int.reduceBEq, Int.reduceBNe, Int.reduceTMod, Int.reduceTDiv, Nat.reduceBEq]) | (refine allI (fun b => ?_)) | (refine allT (fun τ => ?_)) | (refine brP (fun h => ?_) (fun h => ?_) <;> (try simp only [zgx, zbx] at h)) | (apply And.intro; focus (first | omega | (simp; done) | (simp +contextual; done) | (intros; and_intros <;> first | assumption | omega) | (intros; simp_all; done) | (intro hgd; refine ⟨hgd, ?_⟩; simp [hgd]; done) | (intro hgd; simp only [zgx] at hgd ⊢; omega))) | fail)
  all_goals
    simp only [hasF]
    grind
def numT (f : Int) (x : Cx) (y : It) : Int :=
  if f = 1 then x.pid else if f = 2 then x.ppid else if f = 3 then x.uid else if f = 4 then x.euid else if f = 5 then x.gid else if f = 6 then x.egid else if f = 7 then x.auid else if f = 8 then x.ses
  else if f = 9 then x.a0 else if f = 10 then x.a1 else if f = 11 then x.a2 else if f = 12 then x.a3 else if f = 15 then x.ex else if f = 16 then (if 0 ≤ x.ex then 1 else 0)
  else if f = 17 then y.i else if f = 18 then y.d else if f = 19 then y.u else if f = 20 then y.g else if f = 21 then y.ki else x.ty
theorem rnum (f : Int) (x : Cx) (y : It) : Pure Try.prog gl 84 [.int .i64 f, .agg (CxC x), .agg (ItC y)] (.int .i64 (numT f x y)) := by
  refine fn_pureT Try.func84 t84 Try.ntmps84 (by simp) ?_
  unfold c84 r84 CxC ItC
  repeat' (first | (simp (disch := first | omega | (simp only [List.length_cons, List.length_nil]; first | done | omega)) only [go_sem, Nat.reduceAdd, Nat.reduceMul, Nat.reduceSub, Nat.reduceEqDiff, Nat.reduceLeDiff, Nat.reduceMod, Nat.reduceLT, Int.reduceToNat, Int.reduceAdd, Int.reduceSub, Int.reduceMul, Int.reduceNeg, Int.reduceLE, Int.reduceLT, Int.reduceNe, Int.reduceEq, Int.reduceBEq, Int.reduceBNe, Int.reduceTMod, Int.reduceTDiv, Nat.reduceBEq]) | (refine allI (fun b => ?_)) | (refine allT (fun τ => ?_)) | (refine brP (fun h => ?_) (fun h => ?_) <;> (try simp only [zgx, zbx] at h)) | (apply And.intro; focus (first | omega | (simp; done) | (simp +contextual; done) | (intros; and_intros <;> first | assumption | omega) | (intros; simp_all; done) | (intro hgd; refine ⟨hgd, ?_⟩; simp [hgd]; done) | (intro hgd; simp only [zgx] at hgd ⊢; omega))) | fail)
  all_goals try subst h
  repeat' (first | (simp (disch := first | omega | (simp only [List.length_cons, List.length_nil]; first | done | omega)) only [go_sem, Nat.reduceAdd, Nat.reduceMul, Nat.reduceSub, Nat.reduceEqDiff, Nat.reduceLeDiff, Nat.reduceMod, Nat.reduceLT, Int.reduceToNat, Int.reduceAdd, Int.reduceSub, Int.reduceMul, Int.reduceNeg, Int.reduceLE, Int.reduceLT, Int.reduceNe, Int.reduceEq, Int.reduceBEq, Int.reduceBNe, Int.reduceTMod, Int.reduceTDiv, Nat.reduceBEq]) | (refine allI (fun b => ?_)) | (refine allT (fun τ => ?_)) | (refine brP (fun h => ?_) (fun h => ?_) <;> (try simp only [zgx, zbx] at h)) | (apply And.intro; focus (first | omega | (simp; done) | (simp +contextual; done) | (intros; and_intros <;> first | assumption | omega) | (intros; simp_all; done) | (intro hgd; refine ⟨hgd, ?_⟩; simp [hgd]; done) | (intro hgd; simp only [zgx] at hgd ⊢; omega))) | fail)
  all_goals
    simp only [numT]
    first | done | (simp; done) | grind
def hldR (o a b : Int) : Bool := if o = 1 then a == b else if o = 2 then a != b else if o = 3 then decide (a < b) else if o = 4 then decide (a ≤ b) else if o = 5 then decide (b < a) else if o = 6 then decide (b ≤ a) else if o = 7 then bitop .and .i64 a b != 0 else bitop .and .i64 a b == b
theorem rhold (o a b : Int) : Pure Try.prog gl 85 [.int .i64 o, .int .i64 a, .int .i64 b] (.bool (hldR o a b)) := by
  refine fn_pureT Try.func85 t85 Try.ntmps85 (by simp) ?_
  unfold c85 r85
  repeat' (first | (simp (disch := first | omega | (simp only [List.length_cons, List.length_nil]; first | done | omega)) only [go_sem, Nat.reduceAdd, Nat.reduceMul, Nat.reduceSub, Nat.reduceEqDiff, Nat.reduceLeDiff, Nat.reduceMod, Nat.reduceLT, Int.reduceToNat, Int.reduceAdd, Int.reduceSub, Int.reduceMul, Int.reduceNeg, Int.reduceLE, Int.reduceLT, Int.reduceNe, Int.reduceEq, Int.reduceBEq, Int.reduceBNe, Int.reduceTMod, Int.reduceTDiv, Nat.reduceBEq]) | (refine allI (fun b => ?_)) | (refine allT (fun τ => ?_)) | (refine brP (fun h => ?_) (fun h => ?_) <;> (try simp only [zgx, zbx] at h)) | (apply And.intro; focus (first | omega | (simp; done) | (simp +contextual; done) | (intros; and_intros <;> first | assumption | omega) | (intros; simp_all; done) | (intro hgd; refine ⟨hgd, ?_⟩; simp [hgd]; done) | (intro hgd; simp only [zgx] at hgd ⊢; omega))) | fail)
  all_goals
    simp only [hldR]
    grind
theorem pcomp (o a b : Int) : Pure Try.prog gl 94 [.int .i64 o, .int .i64 a, .int .i64 b] (.bool (decide (1 ≤ o ∧ o ≤ 8) && hldR o a b)) := by
  refine fn_pureT Try.func94 t94 Try.ntmps94 (by simp) ?_
  unfold c94 r94
  repeat' (first | (simp (disch := first | omega | (simp only [List.length_cons, List.length_nil]; first | done | omega)) only [go_sem, Nat.reduceAdd, Nat.reduceMul, Nat.reduceSub, Nat.reduceEqDiff, Nat.reduceLeDiff, Nat.reduceMod, Nat.reduceLT, Int.reduceToNat, Int.reduceAdd, Int.reduceSub, Int.reduceMul, Int.reduceNeg, Int.reduceLE, Int.reduceLT, Int.reduceNe, Int.reduceEq, Int.reduceBEq, Int.reduceBNe, Int.reduceTMod, Int.reduceTDiv, Nat.reduceBEq]) | (refine allI (fun b => ?_)) | (refine allT (fun τ => ?_)) | (refine brP (fun h => ?_) (fun h => ?_) <;> (try simp only [zgx, zbx] at h)) | (apply And.intro; focus (first | omega | (simp; done) | (simp +contextual; done) | (intros; and_intros <;> first | assumption | omega) | (intros; simp_all; done) | (intro hgd; refine ⟨hgd, ?_⟩; simp [hgd]; done) | (intro hgd; simp only [zgx] at hgd ⊢; omega))) | fail)
  all_goals
    simp only [hldR]
    grind
def hasP (f : Int) (x : Cx) : Bool := decide (1 ≤ f ∧ f ≤ 12 ∨ f = 22 ∧ x.ty ≠ 0 ∨ x.ph = 2 ∧ 15 ≤ f ∧ f ≤ 21)
def valP (f : Int) (x : Cx) (y : It) : Int := if hasP f x = true then numT f x y else 0
theorem pexit (f : Int) (x : Cx) (y : It) : Pure Try.prog gl 101 [.int .i64 f, .agg (CxC x), .agg (ItC y)] (.tup [.int .i64 (if 15 ≤ f ∧ f ≤ 21 then numT f x y else 0), .bool (decide (15 ≤ f ∧ f ≤ 21))]) := by
  refine fn_pureT Try.func101 t101 Try.ntmps101 (by simp) ?_
  unfold c101 r101 CxC ItC
  repeat' (first | (simp (disch := first | omega | (simp only [List.length_cons, List.length_nil]; first | done | omega)) only [go_sem, Nat.reduceAdd, Nat.reduceMul, Nat.reduceSub, Nat.reduceEqDiff, Nat.reduceLeDiff, Nat.reduceMod, Nat.reduceLT, Int.reduceToNat, Int.reduceAdd, Int.reduceSub, Int.reduceMul, Int.reduceNeg, Int.reduceLE, Int.reduceLT, Int.reduceNe, Int.reduceEq, Int.reduceBEq, Int.reduceBNe, Int.reduceTMod, Int.reduceTDiv, Nat.reduceBEq]) | (refine allI (fun b => ?_)) | (refine allT (fun τ => ?_)) | (refine brP (fun h => ?_) (fun h => ?_) <;> (try simp only [zgx, zbx] at h)) | (apply And.intro; focus (first | omega | (simp; done) | (simp +contextual; done) | (intros; and_intros <;> first | assumption | omega) | (intros; simp_all; done) | (intro hgd; refine ⟨hgd, ?_⟩; simp [hgd]; done) | (intro hgd; simp only [zgx] at hgd ⊢; omega))) | fail)
  all_goals
    refine leV.of_eq ?_
    simp only [LV.tup.injEq, List.cons.injEq, LV.int.injEq, LV.bool.injEq, and_true, true_and, numT]
    first | (subst h; simp; done) | (simp_all; done) | grind
theorem pnum (f : Int) (x : Cx) (y : It) : Pure Try.prog gl 93 [.int .i64 f, .agg (CxC x), .agg (ItC y)] (.tup [.int .i64 (valP f x y), .bool (hasP f x)]) := by
  refine fn_pureT Try.func93 t93 Try.ntmps93 (by simp) ?_
  have hx := pexit f x y
  unfold c93 r93
  unfold CxC ItC at *
  repeat' (first | (simp (disch := first | omega | (simp only [List.length_cons, List.length_nil]; first | done | omega)) only [go_sem, Nat.reduceAdd, Nat.reduceMul, Nat.reduceSub, Nat.reduceEqDiff, Nat.reduceLeDiff, Nat.reduceMod, Nat.reduceLT, Int.reduceToNat, Int.reduceAdd, Int.reduceSub, Int.reduceMul, Int.reduceNeg, Int.reduceLE, Int.reduceLT, Int.reduceNe, Int.reduceEq, Int.reduceBEq, Int.reduceBNe, Int.reduceTMod, Int.reduceTDiv, Nat.reduceBEq]) | (refine allI (fun b => ?_)) | (refine allT (fun τ => ?_)) | (refine brP (fun h => ?_) (fun h => ?_) <;> (try simp only [zgx, zbx] at h)) | refine call_U (hx) ?_ | refine callG_U (fun _ => hx) ?_ | refine call_T (hx) ?_ | refine callG_T (fun _ => hx) ?_ | refine call_N (hx) ?_ | refine call_of (hx) ?_ | refine callG_of (fun _ => hx) ?_ | (apply And.intro; focus (first | omega | (simp; done) | (simp +contextual; done) | (intros; and_intros <;> first | assumption | omega) | (intros; simp_all; done) | (intro hgd; refine ⟨hgd, ?_⟩; simp [hgd]; done) | (intro hgd; simp only [zgx] at hgd ⊢; omega))) | fail)
  all_goals try subst h
  repeat' (first | (simp (disch := first | omega | (simp only [List.length_cons, List.length_nil]; first | done | omega)) only [go_sem, Nat.reduceAdd, Nat.reduceMul, Nat.reduceSub, Nat.reduceEqDiff, Nat.reduceLeDiff, Nat.reduceMod, Nat.reduceLT, Int.reduceToNat, Int.reduceAdd, Int.reduceSub, Int.reduceMul, Int.reduceNeg, Int.reduceLE, Int.reduceLT, Int.reduceNe, Int.reduceEq, Int.reduceBEq, Int.reduceBNe, Int.reduceTMod, Int.reduceTDiv, Nat.reduceBEq]) | (refine allI (fun b => ?_)) | (refine allT (fun τ => ?_)) | (refine brP (fun h => ?_) (fun h => ?_) <;> (try simp only [zgx, zbx] at h)) | (apply And.intro; focus (first | omega | (simp; done) | (simp +contextual; done) | (intros; and_intros <;> first | assumption | omega) | (intros; simp_all; done) | (intro hgd; refine ⟨hgd, ?_⟩; simp [hgd]; done) | (intro hgd; simp only [zgx] at hgd ⊢; omega))) | fail)
  all_goals
    refine leV.of_eq ?_
    simp only [LV.tup.injEq, List.cons.injEq, LV.int.injEq, LV.bool.injEq, and_true, true_and, valP, hasP, numT]
    first | (simp_all; done) | grind
end Go.Proofs.Ytcngkeeknlloaaa
