/- Tests: their values in a context; rules that match. -/
import Derived.Test.YtcngkeeknlloaaaEv
namespace Go.Proofs.Ytcngkeeknlloaaa
open Go Go.Lx
set_option linter.unusedSimpArgs false
set_option linter.unusedVariables false
set_option maxRecDepth 100000
set_option maxHeartbeats 4000000

def oneT (t : Te) (x : Cx) (y : It) : Bool :=
  if textF t.f = true then ((if t.f = 14 then x.comm else x.exe) == t.t) == (t.o == 1) else hldR t.o (numT t.f x y) (if t.x ≠ 0 then numT t.x x y else t.n)
theorem rone (t : Te) (x : Cx) (y : It) : Pure Try.prog gl 64 [.agg (TeC t), .agg (CxC x), .agg (ItC y)] (.bool (oneT t x y)) := by
  refine fn_pureT Try.func64 t64 Try.ntmps64 (by simp) ?_
  have h1 := rnum t.f x y
  have h2 := rnum t.x x y
  unfold c64 r64
  unfold TeC CxC ItC at *
  repeat' (first | (simp (disch := first | omega | (simp only [List.length_cons, List.length_nil]; first | done | omega)) only [go_sem, Nat.reduceAdd, Nat.reduceMul, Nat.reduceSub, Nat.reduceEqDiff, Nat.reduceLeDiff, Nat.reduceMod, Nat.reduceLT, Int.reduceToNat, Int.reduceAdd, Int.reduceSub, Int.reduceMul, Int.reduceNeg, Int.reduceLE, Int.reduceLT, Int.reduceNe, Int.reduceEq, Int.reduceBEq, Int.reduceBNe, Int.reduceTMod, Int.reduceTDiv, Nat.reduceBEq]) | (refine allI (fun b => ?_)) | (refine allT (fun τ => ?_)) | (refine brP (fun h => ?_) (fun h => ?_) <;> (try simp only [zgx, zbx] at h)) | refine call_U (rtext t.f) ?_ | refine callG_U (fun _ => rtext t.f) ?_ | refine call_T (rtext t.f) ?_ | refine callG_T (fun _ => rtext t.f) ?_ | refine call_U (h1) ?_ | refine callG_U (fun _ => h1) ?_ | refine call_T (h1) ?_ | refine callG_T (fun _ => h1) ?_ | refine call_U (h2) ?_ | refine callG_U (fun _ => h2) ?_ | refine call_T (h2) ?_ | refine callG_T (fun _ => h2) ?_ | refine call_U (rhold _ _ _) ?_ | refine callG_U (fun _ => rhold _ _ _) ?_ | refine call_T (rhold _ _ _) ?_ | refine callG_T (fun _ => rhold _ _ _) ?_ | refine call_N (rtext t.f) ?_ | refine call_of (rtext t.f) ?_ | refine callG_of (fun _ => rtext t.f) ?_ | refine call_N (h1) ?_ | refine call_of (h1) ?_ | refine callG_of (fun _ => h1) ?_ | refine call_N (h2) ?_ | refine call_of (h2) ?_ | refine callG_of (fun _ => h2) ?_ | refine call_N (rhold _ _ _) ?_ | refine call_of (rhold _ _ _) ?_ | refine callG_of (fun _ => rhold _ _ _) ?_ | (apply And.intro; focus (first | omega | (simp; done) | (simp +contextual; done) | (intros; and_intros <;> first | assumption | omega) | (intros; simp_all; done) | (intro hgd; refine ⟨hgd, ?_⟩; simp [hgd]; done) | (intro hgd; simp only [zgx] at hgd ⊢; omega))) | fail)
  all_goals
    simp only [oneT]
    first | (simp_all; done) | grind
def oneP (t : Te) (x : Cx) (y : It) : Bool :=
  if textF t.f = true then ((if t.f = 14 then x.comm else x.exe) == t.t) == (t.o == 1)
  else if hasP t.f x = false then false else if t.x ≠ 0 ∧ hasP t.x x = false then false
  else decide (1 ≤ t.o ∧ t.o ≤ 8) && hldR t.o (valP t.f x y) (if t.x ≠ 0 then valP t.x x y else t.n)
theorem pholds (t : Te) (x : Cx) (y : It) : Pure Try.prog gl 81 [.agg (TeC t), .agg (CxC x), .agg (ItC y)] (.bool (oneP t x y)) := by
  refine fn_pureT Try.func81 t81 Try.ntmps81 (by simp) ?_
  have h1 := pnum t.f x y
  have h2 := pnum t.x x y
  unfold c81 r81
  unfold TeC CxC ItC at *
  repeat' (first | (simp (disch := first | omega | (simp only [List.length_cons, List.length_nil]; first | done | omega)) only [go_sem, Nat.reduceAdd, Nat.reduceMul, Nat.reduceSub, Nat.reduceEqDiff, Nat.reduceLeDiff, Nat.reduceMod, Nat.reduceLT, Int.reduceToNat, Int.reduceAdd, Int.reduceSub, Int.reduceMul, Int.reduceNeg, Int.reduceLE, Int.reduceLT, Int.reduceNe, Int.reduceEq, Int.reduceBEq, Int.reduceBNe, Int.reduceTMod, Int.reduceTDiv, Nat.reduceBEq]) | (refine allI (fun b => ?_)) | (refine allT (fun τ => ?_)) | (refine brP (fun h => ?_) (fun h => ?_) <;> (try simp only [zgx, zbx] at h)) | refine call_U (ptext t.f) ?_ | refine callG_U (fun _ => ptext t.f) ?_ | refine call_T (ptext t.f) ?_ | refine callG_T (fun _ => ptext t.f) ?_ | refine call_U (h1) ?_ | refine callG_U (fun _ => h1) ?_ | refine call_T (h1) ?_ | refine callG_T (fun _ => h1) ?_ | refine call_U (h2) ?_ | refine callG_U (fun _ => h2) ?_ | refine call_T (h2) ?_ | refine callG_T (fun _ => h2) ?_ | refine call_U (pcomp _ _ _) ?_ | refine callG_U (fun _ => pcomp _ _ _) ?_ | refine call_T (pcomp _ _ _) ?_ | refine callG_T (fun _ => pcomp _ _ _) ?_ | refine call_N (ptext t.f) ?_ | refine call_of (ptext t.f) ?_ | refine callG_of (fun _ => ptext t.f) ?_ | refine call_N (h1) ?_ | refine call_of (h1) ?_ | refine callG_of (fun _ => h1) ?_ | refine call_N (h2) ?_ | refine call_of (h2) ?_ | refine callG_of (fun _ => h2) ?_ | refine call_N (pcomp _ _ _) ?_ | refine call_of (pcomp _ _ _) ?_ | refine callG_of (fun _ => pcomp _ _ _) ?_ | (apply And.intro; focus (first | omega | (simp; done) | (simp +contextual; done) | (intros; and_intros <;> first | assumption | omega) | (intros; simp_all; done) | (intro hgd; refine ⟨hgd, ?_⟩; simp [hgd]; done) | (intro hgd; simp only [zgx] at hgd ⊢; omega))) | fail)
  all_goals
    simp only [oneP]
    first | (simp_all; done) | grind
def notF (y : It) : Bool := y.d == 0 && y.i == 0
/-- the value of a test -/
def evT (t : Te) (x : Cx) : Bool :=
  soundT t && hasF t.f x && (t.x == 0 || hasF t.x x) && (if itmF t.f = false ∧ itmF t.x = false then oneT t x it0 else x.its.any fun y => !notF y && oneT t x y)
def evP (t : Te) (x : Cx) : Bool := soundT t && (if itmF t.f = false ∧ itmF t.x = false then oneP t x it0 else x.its.any fun y => !notF y && oneP t x y)
theorem any_take {α : Type} (p : α → Bool) (d : α) (l : List α) {i : Nat} (h : i < l.length) : (l.take (i + 1)).any p = ((l.take i).any p || p (l.getD i d)) := by
  rw [take_succ_getD d l h]; simp
theorem take_part {α : Type} {f : α → List LV} {w : Nat} (hw : ∀ x, (f x).length = w) (d : α) (l : List α) {i j m : Nat} (h : i < l.length) (hj : j + m ≤ w) : ((l.flatMap f).drop (i * w + j)).take m = ((f (l.getD i d)).drop j).take m := by
  rw [← take_rows hw d l h, ← List.drop_drop, List.drop_take, List.take_take, Nat.min_eq_left (by omega)]
theorem reval (t : Te) (x : Cx) (hx : x.its.length ≤ 1000000) : Pure Try.prog gl 37 [.agg (TeC t), .agg (CxC x)] (.bool (evT t x)) := by
  refine fn_pureT Try.func37 t37 Try.ntmps37 (by simp) ?_
  have h0 := rone t x it0
  have h1 := rsound t
  have h2 := rhas t.f x
  have h3 := rhas t.x x
  have hC := CxC_eq x
  have hl := len_it x.its
  have hI : ItC it0 = [.str [], .str [], .int .i64 0, .int .i64 0, .str [], .int .i64 0, .int .i64 0, .int .i64 0, .int .i64 0, .int .i64 0, .int .i64 0, .int .i64 0, .int .i64 0] := rfl
  rw [hI] at h0
  unfold c37 r37
  rw [ItS_eq] at hC
  rw [hC]
  unfold TeC at *
  repeat' (first | (simp (disch := first | omega | (simp only [List.length_cons, List.length_nil]; first | done | omega)) only [go_sem, Nat.reduceAdd, Nat.reduceMul, Nat.reduceSub, Nat.reduceEqDiff, Nat.reduceLeDiff, Nat.reduceMod, Nat.reduceLT, Int.reduceToNat, Int.reduceAdd, Int.reduceSub, Int.reduceMul, Int.reduceNeg, Int.reduceLE, Int.reduceLT, Int.reduceNe, Int.reduceEq, Int.reduceBEq, Int.reduceBNe, Int.reduceTMod, Int.reduceTDiv, Nat.reduceBEq]) | (refine allI (fun b => ?_)) | (refine allT (fun τ => ?_)) | (refine brP (fun h => ?_) (fun h => ?_) <;> (try simp only [zgx, zbx] at h)) | refine call_U (h1) ?_ | refine callG_U (fun _ => h1) ?_ | refine call_T (h1) ?_ | refine callG_T (fun _ => h1) ?_ | refine call_U (h2) ?_ | refine callG_U (fun _ => h2) ?_ | refine call_T (h2) ?_ | refine callG_T (fun _ => h2) ?_ | refine call_U (h3) ?_ | refine callG_U (fun _ => h3) ?_ | refine call_T (h3) ?_ | refine callG_T (fun _ => h3) ?_ | refine call_U (ritem _) ?_ | refine callG_U (fun _ => ritem _) ?_ | refine call_T (ritem _) ?_ | refine callG_T (fun _ => ritem _) ?_ | refine call_U (h0) ?_ | refine callG_U (fun _ => h0) ?_ | refine call_T (h0) ?_ | refine callG_T (fun _ => h0) ?_ | refine call_N (h1) ?_ | refine call_of (h1) ?_ | refine callG_of (fun _ => h1) ?_ | refine call_N (h2) ?_ | refine call_of (h2) ?_ | refine callG_of (fun _ => h2) ?_ | refine call_N (h3) ?_ | refine call_of (h3) ?_ | refine callG_of (fun _ => h3) ?_ | refine call_N (ritem _) ?_ | refine call_of (ritem _) ?_ | refine callG_of (fun _ => ritem _) ?_ | refine call_N (h0) ?_ | refine call_of (h0) ?_ | refine callG_of (fun _ => h0) ?_ | (apply And.intro; focus (first | omega | (simp; done) | (simp +contextual; done) | (intros; and_intros <;> first | assumption | omega) | (intros; simp_all; done) | (intro hgd; refine ⟨hgd, ?_⟩; simp [hgd]; done) | (intro hgd; simp only [zgx] at hgd ⊢; omega))) | fail)
  · simp only [evT]; grind
  · simp only [evT]; simp_all
  · refine loopI (ι := Nat) (fun i => i ≤ x.its.length ∧ (x.its.take i).any (fun y => !notF y && oneT t x y) = false) (fun i => (5, .int .i64 i) :: _) (fun _ => _) (fun i => x.its.length - i) 0 ⟨by omega, by simp⟩ Ents.same ?_
    intro i hi
    have hiB := hi.1
    have hry := rone t x (x.its.getD i it0)
    rw [ItC_eq, hC, TeC_eq] at hry
    have ha := any_take (fun y => !notF y && oneT t x y) it0 x.its (i := i)
    simp (disch := first | omega | (simp only [List.length_cons, List.length_nil]; first | done | omega)) only [go_sem, Nat.reduceAdd, Nat.reduceMul, Nat.reduceSub, Nat.reduceEqDiff, Nat.reduceLeDiff, Nat.reduceMod, Nat.reduceLT, Int.reduceToNat, Int.reduceAdd, Int.reduceSub, Int.reduceMul, Int.reduceNeg, Int.reduceLE, Int.reduceLT, Int.reduceNe, Int.reduceEq, Int.reduceBEq, Int.reduceBNe, Int.reduceTMod, Int.reduceTDiv, Nat.reduceBEq]
    refine brP (fun hb => ?_) (fun hb => ?_)
    · have hlt : i < x.its.length := by simpa using hb
      have e1 : ((x.its.flatMap ItC).drop (i * 13 + 5)).take 2 = [.int .i64 (x.its.getD i it0).d, .int .i64 (x.its.getD i it0).i] := by
        rw [take_part (f := ItC) (w := 13) (fun _ => rfl) it0 x.its hlt (by omega)]; rfl
      have e2 : ((x.its.flatMap ItC).drop (i * 13)).take 13 = ItC (x.its.getD i it0) := take_rows (f := ItC) (fun _ => rfl) it0 _ hlt
      rw [ItC_eq] at e2
      have ha := ha hlt
      generalize x.its.getD i it0 = y at *
      repeat' (first | (simp (disch := first | omega | (simp only [List.length_cons, List.length_nil]; first | done | omega)) only [go_sem, Nat.reduceAdd, Nat.reduceMul, Nat.reduceSub, Nat.reduceEqDiff, Nat.reduceLeDiff, Nat.reduceMod, Nat.reduceLT, Int.reduceToNat, Int.reduceAdd, Int.reduceSub, Int.reduceMul, Int.reduceNeg, Int.reduceLE, Int.reduceLT, Int.reduceNe, Int.reduceEq, Int.reduceBEq, Int.reduceBNe, Int.reduceTMod, Int.reduceTDiv, Nat.reduceBEq, e1, e2]) | (refine allI (fun b => ?_)) | (refine allT (fun τ => ?_)) | (refine brP (fun h => ?_) (fun h => ?_) <;> (try simp only [zgx, zbx] at h)) | refine call_U (hry) ?_ | refine callG_U (fun _ => hry) ?_ | refine call_T (hry) ?_ | refine callG_T (fun _ => hry) ?_ | refine call_N (hry) ?_ | refine call_of (hry) ?_ | refine callG_of (fun _ => hry) ?_ | (apply And.intro; focus (first | omega | (simp; done) | (simp +contextual; done) | (intros; and_intros <;> first | assumption | omega) | (intros; simp_all; done) | (intro hgd; refine ⟨hgd, ?_⟩; simp [hgd]; done) | (intro hgd; simp only [zgx] at hgd ⊢; omega))) | fail)
      · have hp : (!notF y && oneT t x y) = true := by simp only [notF]; grind
        have h5 := ha
        rw [hp, Bool.or_true] at h5
        have h6 : x.its.any (fun y => !notF y && oneT t x y) = true := by
          rw [List.any_eq_true] at h5 ⊢
          obtain ⟨z, hz, hz2⟩ := h5
          exact ⟨z, List.mem_of_mem_take hz, hz2⟩
        simp only [evT]; grind
      · have hp : (!notF y && oneT t x y) = false := by simp only [notF]; grind
        refine ⟨⟨i + 1, by omega, ?_⟩, by dsimp only; omega, Ents.envH (by simp [go_sem]) rfl⟩
        rw [ha, hp, hi.2]; rfl
    · have hlen : i = x.its.length := by simp only [decide_eq_false_iff_not] at hb; omega
      have h5 := hi.2
      rw [hlen, List.take_length] at h5
      repeat' (first | (simp (disch := first | omega | (simp only [List.length_cons, List.length_nil]; first | done | omega)) only [go_sem, Nat.reduceAdd, Nat.reduceMul, Nat.reduceSub, Nat.reduceEqDiff, Nat.reduceLeDiff, Nat.reduceMod, Nat.reduceLT, Int.reduceToNat, Int.reduceAdd, Int.reduceSub, Int.reduceMul, Int.reduceNeg, Int.reduceLE, Int.reduceLT, Int.reduceNe, Int.reduceEq, Int.reduceBEq, Int.reduceBNe, Int.reduceTMod, Int.reduceTDiv, Nat.reduceBEq]) | (refine allI (fun b => ?_)) | (refine allT (fun τ => ?_)) | (refine brP (fun h => ?_) (fun h => ?_) <;> (try simp only [zgx, zbx] at h)) | (apply And.intro; focus (first | omega | (simp; done) | (simp +contextual; done) | (intros; and_intros <;> first | assumption | omega) | (intros; simp_all; done) | (intro hgd; refine ⟨hgd, ?_⟩; simp [hgd]; done) | (intro hgd; simp only [zgx] at hgd ⊢; omega))) | fail)
      simp only [evT]; grind
theorem peval (t : Te) (x : Cx) (hx : x.its.length ≤ 1000000) : Pure Try.prog gl 59 [.agg (TeC t), .agg (CxC x)] (.bool (evP t x)) := by
  refine fn_pureT Try.func59 t59 Try.ntmps59 (by simp) ?_
  have h0 := pholds t x it0
  have hC := CxC_eq x
  have hl := len_it x.its
  have hI : ItC it0 = [.str [], .str [], .int .i64 0, .int .i64 0, .str [], .int .i64 0, .int .i64 0, .int .i64 0, .int .i64 0, .int .i64 0, .int .i64 0, .int .i64 0, .int .i64 0] := rfl
  rw [hI] at h0
  unfold c59 r59
  rw [ItS_eq] at hC
  rw [hC]
  unfold TeC at *
  simp (disch := first | omega | (simp only [List.length_cons, List.length_nil]; first | done | omega)) only [go_sem, Nat.reduceAdd, Nat.reduceMul, Nat.reduceSub, Nat.reduceEqDiff, Nat.reduceLeDiff, Nat.reduceMod, Nat.reduceLT, Int.reduceToNat, Int.reduceAdd, Int.reduceSub, Int.reduceMul, Int.reduceNeg, Int.reduceLE, Int.reduceLT, Int.reduceNe, Int.reduceEq, Int.reduceBEq, Int.reduceBNe, Int.reduceTMod, Int.reduceTDiv, Nat.reduceBEq]
  intro b2 b3
  refine loopI (ι := Int × Bool) (fun k => 1 ≤ k.1 ∧ k.1 ≤ 6 ∧ (k.2 = true ↔ ∃ j, 1 ≤ j ∧ j < k.1 ∧ chkT t j = 0)) (fun k => (6, .int .i64 k.1) :: (5, .bool k.2) :: _) (fun _ => _) (fun k => (6 - k.1).toNat) (1, false) ⟨by dsimp only; omega, by dsimp only; omega, by simp only [Bool.false_eq_true, false_iff]; rintro ⟨j, h1, h2, _⟩; omega⟩ Ents.same ?_
  rintro ⟨k, g⟩ ⟨hk1, hk2, hg⟩
  dsimp only at hk1 hk2 hg ⊢
  repeat' (first | (simp (disch := first | omega | (simp only [List.length_cons, List.length_nil]; first | done | omega)) only [go_sem, Nat.reduceAdd, Nat.reduceMul, Nat.reduceSub, Nat.reduceEqDiff, Nat.reduceLeDiff, Nat.reduceMod, Nat.reduceLT, Int.reduceToNat, Int.reduceAdd, Int.reduceSub, Int.reduceMul, Int.reduceNeg, Int.reduceLE, Int.reduceLT, Int.reduceNe, Int.reduceEq, Int.reduceBEq, Int.reduceBNe, Int.reduceTMod, Int.reduceTDiv, Nat.reduceBEq]) | (refine allI (fun b => ?_)) | (refine allT (fun τ => ?_)) | (refine brP (fun h => ?_) (fun h => ?_) <;> (try simp only [zgx, zbx] at h)) | refine call_U (pchk t k) ?_ | refine callG_U (fun _ => pchk t k) ?_ | refine call_T (pchk t k) ?_ | refine callG_T (fun _ => pchk t k) ?_ | refine call_U (pitem _) ?_ | refine callG_U (fun _ => pitem _) ?_ | refine call_T (pitem _) ?_ | refine callG_T (fun _ => pitem _) ?_ | refine call_U (h0) ?_ | refine callG_U (fun _ => h0) ?_ | refine call_T (h0) ?_ | refine callG_T (fun _ => h0) ?_ | refine call_N (pchk t k) ?_ | refine call_of (pchk t k) ?_ | refine callG_of (fun _ => pchk t k) ?_ | refine call_N (pitem _) ?_ | refine call_of (pitem _) ?_ | refine callG_of (fun _ => pitem _) ?_ | refine call_N (h0) ?_ | refine call_of (h0) ?_ | refine callG_of (fun _ => h0) ?_ | (apply And.intro; focus (first | omega | (simp; done) | (simp +contextual; done) | (intros; and_intros <;> first | assumption | omega) | (intros; simp_all; done) | (intro hgd; refine ⟨hgd, ?_⟩; simp [hgd]; done) | (intro hgd; simp only [zgx] at hgd ⊢; omega))) | fail)
  · refine ⟨⟨(k + 1, g || chkT t k == 0), by dsimp only; omega, by dsimp only; omega, ?_⟩, by dsimp only; omega, Ents.envH (by simp [go_sem]) rfl⟩
    dsimp only
    rw [Bool.or_eq_true, beq_iff_eq, hg]
    constructor
    · rintro (⟨j, h1, h2, h3⟩ | h1)
      · exact ⟨j, h1, by omega, h3⟩
      · exact ⟨k, hk1, by omega, h1⟩
    · rintro ⟨j, h1, h2, h3⟩
      rcases (by omega : j < k ∨ j = k) with h4 | rfl
      · exact .inl ⟨j, h1, h4, h3⟩
      · exact .inr h3
  · have hs : soundT t = false := soundT_not fun j h1 h2 h3 => by
      rw [hg.2 ⟨j, h1, by omega, h3⟩] at h; cases h
    simp only [evP, hs, Bool.false_and]
  · have hs : soundT t = true := by
      obtain ⟨j, h1, h2, h3⟩ := hg.1 (by assumption)
      exact soundT_of h1 (by omega) h3
    simp only [evP, hs, Bool.true_and, h, and_self, if_true]
  · have hs : soundT t = true := by
      obtain ⟨j, h1, h2, h3⟩ := hg.1 (by assumption)
      exact soundT_of h1 (by omega) h3
    have hn : ¬ (itmF t.f = false ∧ itmF t.x = false) := by
      rcases h with h | h <;> simp [h]
    have hE : evP t x = x.its.any (fun y => !notF y && oneP t x y) := by simp only [evP, hs, Bool.true_and, if_neg hn]
    refine loopI (ι := Nat) (fun i => i ≤ x.its.length ∧ (x.its.take i).any (fun y => !notF y && oneP t x y) = false) (fun i => (39, .int .i64 i) :: _) (fun _ => _) (fun i => x.its.length - i) 0 ⟨by omega, by simp⟩ Ents.same ?_
    intro i hi
    have hiB := hi.1
    have hry := pholds t x (x.its.getD i it0)
    rw [ItC_eq, hC, TeC_eq] at hry
    have ha := any_take (fun y => !notF y && oneP t x y) it0 x.its (i := i)
    simp (disch := first | omega | (simp only [List.length_cons, List.length_nil]; first | done | omega)) only [go_sem, Nat.reduceAdd, Nat.reduceMul, Nat.reduceSub, Nat.reduceEqDiff, Nat.reduceLeDiff, Nat.reduceMod, Nat.reduceLT, Int.reduceToNat, Int.reduceAdd, Int.reduceSub, Int.reduceMul, Int.reduceNeg, Int.reduceLE, Int.reduceLT, Int.reduceNe, Int.reduceEq, Int.reduceBEq, Int.reduceBNe, Int.reduceTMod, Int.reduceTDiv, Nat.reduceBEq]
    refine brP (fun hb => ?_) (fun hb => ?_)
    · have hlt : i < x.its.length := by simpa using hb
      have e2 : ((x.its.flatMap ItC).drop (i * 13)).take 13 = ItC (x.its.getD i it0) := take_rows (f := ItC) (fun _ => rfl) it0 _ hlt
      rw [ItC_eq] at e2
      have ha := ha hlt
      generalize x.its.getD i it0 = y at *
      repeat' (first | (simp (disch := first | omega | (simp only [List.length_cons, List.length_nil]; first | done | omega)) only [go_sem, Nat.reduceAdd, Nat.reduceMul, Nat.reduceSub, Nat.reduceEqDiff, Nat.reduceLeDiff, Nat.reduceMod, Nat.reduceLT, Int.reduceToNat, Int.reduceAdd, Int.reduceSub, Int.reduceMul, Int.reduceNeg, Int.reduceLE, Int.reduceLT, Int.reduceNe, Int.reduceEq, Int.reduceBEq, Int.reduceBNe, Int.reduceTMod, Int.reduceTDiv, Nat.reduceBEq, e2]) | (refine allI (fun b => ?_)) | (refine allT (fun τ => ?_)) | (refine brP (fun h => ?_) (fun h => ?_) <;> (try simp only [zgx, zbx] at h)) | refine call_U (hry) ?_ | refine callG_U (fun _ => hry) ?_ | refine call_T (hry) ?_ | refine callG_T (fun _ => hry) ?_ | refine call_N (hry) ?_ | refine call_of (hry) ?_ | refine callG_of (fun _ => hry) ?_ | (apply And.intro; focus (first | omega | (simp; done) | (simp +contextual; done) | (intros; and_intros <;> first | assumption | omega) | (intros; simp_all; done) | (intro hgd; refine ⟨hgd, ?_⟩; simp [hgd]; done) | (intro hgd; simp only [zgx] at hgd ⊢; omega))) | fail)
      · have hp : (!notF y && oneP t x y) = true := by simp only [notF]; grind
        have h5 := ha
        rw [hp, Bool.or_true] at h5
        rw [hE, List.any_eq_true]
        rw [List.any_eq_true] at h5
        obtain ⟨z, hz, hz2⟩ := h5
        exact ⟨z, List.mem_of_mem_take hz, hz2⟩
      · have hp : (!notF y && oneP t x y) = false := by simp only [notF]; grind
        refine ⟨⟨i + 1, by omega, ?_⟩, by dsimp only; omega, Ents.sub (by simp [go_sem]) ⟨_, List.Sublist.cons _ (List.Sublist.refl _), List.Perm.refl _⟩⟩
        rw [ha, hp, hi.2]; rfl
    · have hlen : i = x.its.length := by simp only [decide_eq_false_iff_not] at hb; omega
      have h5 := hi.2
      rw [hlen, List.take_length] at h5
      repeat' (first | (simp (disch := first | omega | (simp only [List.length_cons, List.length_nil]; first | done | omega)) only [go_sem, Nat.reduceAdd, Nat.reduceMul, Nat.reduceSub, Nat.reduceEqDiff, Nat.reduceLeDiff, Nat.reduceMod, Nat.reduceLT, Int.reduceToNat, Int.reduceAdd, Int.reduceSub, Int.reduceMul, Int.reduceNeg, Int.reduceLE, Int.reduceLT, Int.reduceNe, Int.reduceEq, Int.reduceBEq, Int.reduceBNe, Int.reduceTMod, Int.reduceTDiv, Nat.reduceBEq]) | (refine allI (fun b => ?_)) | (refine allT (fun τ => ?_)) | (refine brP (fun h => ?_) (fun h => ?_) <;> (try simp only [zgx, zbx] at h)) | (apply And.intro; focus (first | omega | (simp; done) | (simp +contextual; done) | (intros; and_intros <;> first | assumption | omega) | (intros; simp_all; done) | (intro hgd; refine ⟨hgd, ?_⟩; simp [hgd]; done) | (intro hgd; simp only [zgx] at hgd ⊢; omega))) | fail)
      rw [hE, h5]
/-- the two are the same -/
theorem allowF_ok {l f : Int} (h : allowF l f = true) : 1 ≤ f ∧ f ≤ 22 := by
  simp only [allowF, decide_eq_true_eq] at h; exact ⟨h.1, h.2.1⟩
theorem chkT_ok {t : Te} {l : Int} (h : chkT t l = 0) : (1 ≤ t.f ∧ t.f ≤ 22) ∧ (1 ≤ t.o ∧ t.o ≤ 8) ∧ (t.x ≠ 0 → (1 ≤ t.x ∧ t.x ≤ 22) ∧ cmpF t.f = true ∧ cmpF t.x = true) := by
  unfold chkT at h
  split at h
  · omega
  · rename_i h1
    split at h
    · omega
    · rename_i h2
      have hA : allowF l t.f = true := by
        cases hh : allowF l t.f
        · exact absurd (.inl hh) h1
        · rfl
      refine ⟨allowF_ok hA, by omega, fun hx => ?_⟩
      have h3 : ¬ (allowF l t.x = false ∨ cmpF t.f = false ∨ cmpF t.x = false) := fun h3 => h1 (.inr ⟨hx, h3⟩)
      simp only [not_or, Bool.not_eq_false] at h3
      exact ⟨allowF_ok h3.1, h3.2.1, h3.2.2⟩
theorem soundT_ok {t : Te} (h : soundT t = true) : (1 ≤ t.f ∧ t.f ≤ 22) ∧ (1 ≤ t.o ∧ t.o ≤ 8) ∧ (t.x ≠ 0 → (1 ≤ t.x ∧ t.x ≤ 22) ∧ cmpF t.f = true ∧ cmpF t.x = true) := by
  simp only [soundT, Bool.or_eq_true, beq_iff_eq] at h
  rcases h with (((h | h) | h) | h) | h <;> exact chkT_ok h
theorem hasP_eq {f : Int} {x : Cx} (h : 1 ≤ f ∧ f ≤ 22) (ht : textF f = false) : hasP f x = hasF f x := by
  simp only [textF, decide_eq_false_iff_not] at ht
  simp only [hasP, hasF, decide_eq_decide]
  split <;> omega
theorem evP_eq (t : Te) (x : Cx) : evP t x = evT t x := by
  unfold evP evT
  cases hs : soundT t with
  | false => rfl
  | true =>
    obtain ⟨hf, ho, hx⟩ := soundT_ok hs
    have hone : ∀ y, oneP t x y = (hasF t.f x && (t.x == 0 || hasF t.x x) && oneT t x y) := fun y => by
      unfold oneP oneT
      cases ht : textF t.f with
      | true =>
        have h0 : t.x = 0 := by
          by_cases h0 : t.x = 0
          · exact h0
          · have := (hx h0).2.1
            simp only [cmpF, textF, decide_eq_true_eq] at this ht
            omega
        have hh : hasF t.f x = true := by
          simp only [textF, decide_eq_true_eq] at ht
          simp only [hasF, decide_eq_true_eq]
          rw [if_neg (by omega)]; omega
        simp [hh, h0]
      | false =>
        have h1 := hasP_eq (x := x) hf ht
        have h2 : t.x ≠ 0 → hasP t.x x = hasF t.x x := fun h0 => by
          have h3 := hx h0
          refine hasP_eq h3.1 ?_
          have h4 := h3.2.2
          simp only [cmpF, textF, decide_eq_true_eq, decide_eq_false_iff_not] at h4 ⊢
          omega
        have h3 : decide (1 ≤ t.o ∧ t.o ≤ 8) = true := decide_eq_true ho
        simp only [valP]
        by_cases h0 : t.x = 0 <;> cases hA : hasF t.f x <;> cases hB : hasF t.x x <;> simp_all
    simp only [hone, Bool.true_and]
    cases hasF t.f x <;> cases (t.x == 0 || hasF t.x x) <;> simp
end Go.Proofs.Ytcngkeeknlloaaa
