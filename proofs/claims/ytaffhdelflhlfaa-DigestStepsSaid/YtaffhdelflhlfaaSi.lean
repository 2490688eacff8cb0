/- Layer 23: digest: the words. -/
import Derived.Test.YtaffhdelflhlfaaGl
import Derived.Test.YtaffhdelflhlfaaLxO
namespace Go.Proofs.Ytaffhdelflhlfaa
open Go Go.Lx
set_option linter.unusedSimpArgs false
set_option linter.unusedVariables false
set_option maxRecDepth 100000
set_option maxHeartbeats 1000000

def rot (x n : Int) : Int := bitop .or .u64 (shl .u64 x n) (shr .u64 x (64 - n))
theorem and63 (n : Int) (hn : 0 < n ∧ n < 64) : bitop .and .u64 n 63 = n := by
  have h : ∀ k : Fin 64, bitop .and .u64 (k.val : Int) 63 = k.val := by decide
  have := h ⟨n.toNat, by omega⟩
  simp only at this
  rw [Int.toNat_of_nonneg (by omega)] at this
  exact this
theorem turn34 (x n : Int) (hn : 0 < n ∧ n < 64) : Pure Try.prog gl 34 [.int .u64 x, .int .i64 n] (.int .u64 (rot x n)) := by
  refine fn_pureT Try.func34 t34 Try.ntmps34 (by simp) ?_
  unfold c34 r34
  simp (disch := first | omega | (simp only [List.length_cons, List.length_nil]; first | done | omega)) only [go_sem, Nat.reduceAdd, Nat.reduceMul, Nat.reduceSub, Nat.reduceEqDiff, Nat.reduceLeDiff, Nat.reduceMod, Nat.reduceLT, Int.reduceToNat, Int.reduceAdd, Int.reduceSub, Int.reduceMul, Int.reduceNeg, Int.reduceLE, Int.reduceLT, Int.toNat_natCast, Int.cast_ofNat_Int, Int.reduceNe, Int.reduceEq, Int.reduceBEq, Int.reduceBNe, not_false_eq_true, ne_eq, Int.reduceTMod, Int.reduceTDiv, beq_self_eq_true, bne_self_eq_false, List.contains_cons, List.contains_nil, Nat.reduceBEq]
  exact ⟨by omega, by omega, rfl⟩
theorem rot35 (x n : Int) (hn : 0 < n ∧ n < 64) : Pure Try.prog gl 35 [.int .u64 x, .int .i64 n] (.int .u64 (rot x n)) := by
  refine fn_pureT Try.func35 t35 Try.ntmps35 (by simp) ?_
  unfold c35 r35
  simp (disch := first | omega | (simp only [List.length_cons, List.length_nil]; first | done | omega)) only [go_sem, Nat.reduceAdd, Nat.reduceMul, Nat.reduceSub, Nat.reduceEqDiff, Nat.reduceLeDiff, Nat.reduceMod, Nat.reduceLT, Int.reduceToNat, Int.reduceAdd, Int.reduceSub, Int.reduceMul, Int.reduceNeg, Int.reduceLE, Int.reduceLT, Int.toNat_natCast, Int.cast_ofNat_Int, Int.reduceNe, Int.reduceEq, Int.reduceBEq, Int.reduceBNe, not_false_eq_true, ne_eq, Int.reduceTMod, Int.reduceTDiv, beq_self_eq_true, bne_self_eq_false, List.contains_cons, List.contains_nil, Nat.reduceBEq]
  rw [and63 n hn, wrap_u64 (by omega) (by omega)]
  exact ⟨by omega, by omega, rfl⟩

/-- the four words -/
structure W4 where
  a : Int
  b : Int
  c : Int
  d : Int
def add6 (x y : Int) : Int := IntKind.u64.wrap (x + y)
def xor6 (x y : Int) : Int := bitop .xor .u64 x y
def rnd (w : W4) : W4 :=
  let a := add6 w.a w.b
  let b := xor6 (rot w.b 13) a
  let a := rot a 32
  let c := add6 w.c w.d
  let d := xor6 (rot w.d 16) c
  let a := add6 a d
  let d := xor6 (rot d 21) a
  let c := add6 c b
  let b := xor6 (rot b 17) c
  let c := rot c 32
  ⟨a, b, c, d⟩
def wrd (w : W4) (m : Int) : W4 :=
  let u := rnd (rnd ⟨w.a, w.b, w.c, xor6 w.d m⟩)
  ⟨xor6 u.a m, u.b, u.c, u.d⟩
def WL (w : W4) : List LV := [.int .u64 w.a, .int .u64 w.b, .int .u64 w.c, .int .u64 w.d]

theorem round33 (id b : Nat) (w : W4) : ActsE Try.prog gl 33 [.ptr id b 0] id (.blk b (WL w)) fun r e => r = .tup [] ∧ e = .blk b (WL (rnd w)) := by
  refine ActsE.name (i := 1000) (args := [.ptr 1000 b 0]) ?_ ⟨leV.ptr_name _ _ _ _, trivial⟩
  refine fn_viewT Try.func33 t33 Try.ntmps33 (by simp) ?_
  unfold c33 r33 WL
  simp (disch := first | omega | (simp only [List.length_cons, List.length_nil]; first | done | omega)) only [go_sem, Nat.reduceAdd, Nat.reduceMul, Nat.reduceSub, Nat.reduceEqDiff, Nat.reduceLeDiff, Nat.reduceMod, Nat.reduceLT, Int.reduceToNat, Int.reduceAdd, Int.reduceSub, Int.reduceMul, Int.reduceNeg, Int.reduceLE, Int.reduceLT, Int.toNat_natCast, Int.cast_ofNat_Int, Int.reduceNe, Int.reduceEq, Int.reduceBEq, Int.reduceBNe, not_false_eq_true, ne_eq, Int.reduceTMod, Int.reduceTDiv, beq_self_eq_true, bne_self_eq_false, List.contains_cons, List.contains_nil, Nat.reduceBEq]
  first | refine call_U (rot35 _ _ (by omega)) ?_ | refine call_T (rot35 _ _ (by omega)) ?_ | refine call_N (rot35 _ _ (by omega)) ?_ | refine call_of (rot35 _ _ (by omega)) ?_
  simp (disch := first | omega | (simp only [List.length_cons, List.length_nil]; first | done | omega)) only [go_sem, Nat.reduceAdd, Nat.reduceMul, Nat.reduceSub, Nat.reduceEqDiff, Nat.reduceLeDiff, Nat.reduceMod, Nat.reduceLT, Int.reduceToNat, Int.reduceAdd, Int.reduceSub, Int.reduceMul, Int.reduceNeg, Int.reduceLE, Int.reduceLT, Int.toNat_natCast, Int.cast_ofNat_Int, Int.reduceNe, Int.reduceEq, Int.reduceBEq, Int.reduceBNe, not_false_eq_true, ne_eq, Int.reduceTMod, Int.reduceTDiv, beq_self_eq_true, bne_self_eq_false, List.contains_cons, List.contains_nil, Nat.reduceBEq]
  first | refine call_U (rot35 _ _ (by omega)) ?_ | refine call_T (rot35 _ _ (by omega)) ?_ | refine call_N (rot35 _ _ (by omega)) ?_ | refine call_of (rot35 _ _ (by omega)) ?_
  simp (disch := first | omega | (simp only [List.length_cons, List.length_nil]; first | done | omega)) only [go_sem, Nat.reduceAdd, Nat.reduceMul, Nat.reduceSub, Nat.reduceEqDiff, Nat.reduceLeDiff, Nat.reduceMod, Nat.reduceLT, Int.reduceToNat, Int.reduceAdd, Int.reduceSub, Int.reduceMul, Int.reduceNeg, Int.reduceLE, Int.reduceLT, Int.toNat_natCast, Int.cast_ofNat_Int, Int.reduceNe, Int.reduceEq, Int.reduceBEq, Int.reduceBNe, not_false_eq_true, ne_eq, Int.reduceTMod, Int.reduceTDiv, beq_self_eq_true, bne_self_eq_false, List.contains_cons, List.contains_nil, Nat.reduceBEq]
  first | refine call_U (rot35 _ _ (by omega)) ?_ | refine call_T (rot35 _ _ (by omega)) ?_ | refine call_N (rot35 _ _ (by omega)) ?_ | refine call_of (rot35 _ _ (by omega)) ?_
  simp (disch := first | omega | (simp only [List.length_cons, List.length_nil]; first | done | omega)) only [go_sem, Nat.reduceAdd, Nat.reduceMul, Nat.reduceSub, Nat.reduceEqDiff, Nat.reduceLeDiff, Nat.reduceMod, Nat.reduceLT, Int.reduceToNat, Int.reduceAdd, Int.reduceSub, Int.reduceMul, Int.reduceNeg, Int.reduceLE, Int.reduceLT, Int.toNat_natCast, Int.cast_ofNat_Int, Int.reduceNe, Int.reduceEq, Int.reduceBEq, Int.reduceBNe, not_false_eq_true, ne_eq, Int.reduceTMod, Int.reduceTDiv, beq_self_eq_true, bne_self_eq_false, List.contains_cons, List.contains_nil, Nat.reduceBEq]
  first | refine call_U (rot35 _ _ (by omega)) ?_ | refine call_T (rot35 _ _ (by omega)) ?_ | refine call_N (rot35 _ _ (by omega)) ?_ | refine call_of (rot35 _ _ (by omega)) ?_
  simp (disch := first | omega | (simp only [List.length_cons, List.length_nil]; first | done | omega)) only [go_sem, Nat.reduceAdd, Nat.reduceMul, Nat.reduceSub, Nat.reduceEqDiff, Nat.reduceLeDiff, Nat.reduceMod, Nat.reduceLT, Int.reduceToNat, Int.reduceAdd, Int.reduceSub, Int.reduceMul, Int.reduceNeg, Int.reduceLE, Int.reduceLT, Int.toNat_natCast, Int.cast_ofNat_Int, Int.reduceNe, Int.reduceEq, Int.reduceBEq, Int.reduceBNe, not_false_eq_true, ne_eq, Int.reduceTMod, Int.reduceTDiv, beq_self_eq_true, bne_self_eq_false, List.contains_cons, List.contains_nil, Nat.reduceBEq]
  first | refine call_U (rot35 _ _ (by omega)) ?_ | refine call_T (rot35 _ _ (by omega)) ?_ | refine call_N (rot35 _ _ (by omega)) ?_ | refine call_of (rot35 _ _ (by omega)) ?_
  simp (disch := first | omega | (simp only [List.length_cons, List.length_nil]; first | done | omega)) only [go_sem, Nat.reduceAdd, Nat.reduceMul, Nat.reduceSub, Nat.reduceEqDiff, Nat.reduceLeDiff, Nat.reduceMod, Nat.reduceLT, Int.reduceToNat, Int.reduceAdd, Int.reduceSub, Int.reduceMul, Int.reduceNeg, Int.reduceLE, Int.reduceLT, Int.toNat_natCast, Int.cast_ofNat_Int, Int.reduceNe, Int.reduceEq, Int.reduceBEq, Int.reduceBNe, not_false_eq_true, ne_eq, Int.reduceTMod, Int.reduceTDiv, beq_self_eq_true, bne_self_eq_false, List.contains_cons, List.contains_nil, Nat.reduceBEq]
  first | refine call_U (rot35 _ _ (by omega)) ?_ | refine call_T (rot35 _ _ (by omega)) ?_ | refine call_N (rot35 _ _ (by omega)) ?_ | refine call_of (rot35 _ _ (by omega)) ?_
  simp (disch := first | omega | (simp only [List.length_cons, List.length_nil]; first | done | omega)) only [go_sem, Nat.reduceAdd, Nat.reduceMul, Nat.reduceSub, Nat.reduceEqDiff, Nat.reduceLeDiff, Nat.reduceMod, Nat.reduceLT, Int.reduceToNat, Int.reduceAdd, Int.reduceSub, Int.reduceMul, Int.reduceNeg, Int.reduceLE, Int.reduceLT, Int.toNat_natCast, Int.cast_ofNat_Int, Int.reduceNe, Int.reduceEq, Int.reduceBEq, Int.reduceBNe, not_false_eq_true, ne_eq, Int.reduceTMod, Int.reduceTDiv, beq_self_eq_true, bne_self_eq_false, List.contains_cons, List.contains_nil, Nat.reduceBEq]
  exact viewE_end (leV.refl _) (List.Sublist.refl _) ⟨rfl, rfl⟩
theorem word31 (id b : Nat) (w : W4) (m : Int) : ActsE Try.prog gl 31 [.ptr id b 0, .int .u64 m] id (.blk b (WL w)) fun r e => r = .tup [] ∧ e = .blk b (WL (wrd w m)) := by
  refine ActsE.name (i := 1000) (args := [.ptr 1000 b 0, .int .u64 m]) ?_ ⟨leV.ptr_name _ _ _ _, leV.refl _, trivial⟩
  refine fn_viewT Try.func31 t31 Try.ntmps31 (by simp) ?_
  unfold c31 r31 WL
  simp (disch := first | omega | (simp only [List.length_cons, List.length_nil]; first | done | omega)) only [go_sem, Nat.reduceAdd, Nat.reduceMul, Nat.reduceSub, Nat.reduceEqDiff, Nat.reduceLeDiff, Nat.reduceMod, Nat.reduceLT, Int.reduceToNat, Int.reduceAdd, Int.reduceSub, Int.reduceMul, Int.reduceNeg, Int.reduceLE, Int.reduceLT, Int.toNat_natCast, Int.cast_ofNat_Int, Int.reduceNe, Int.reduceEq, Int.reduceBEq, Int.reduceBNe, not_false_eq_true, ne_eq, Int.reduceTMod, Int.reduceTDiv, beq_self_eq_true, bne_self_eq_false, List.contains_cons, List.contains_nil, Nat.reduceBEq]
  first | refine actsE_U (round33 1000 b ⟨w.a, w.b, w.c, xor6 w.d m⟩) (by simp (disch := first | omega | (simp only [List.length_cons, List.length_nil]; first | done | omega)) only [go_sem, Nat.reduceAdd, Nat.reduceMul, Nat.reduceSub, Nat.reduceEqDiff, Nat.reduceLeDiff, Nat.reduceMod, Nat.reduceLT, Int.reduceToNat, Int.reduceAdd, Int.reduceSub, Int.reduceMul, Int.reduceNeg, Int.reduceLE, Int.reduceLT, Int.toNat_natCast, Int.cast_ofNat_Int, Int.reduceNe, Int.reduceEq, Int.reduceBEq, Int.reduceBNe, not_false_eq_true, ne_eq, Int.reduceTMod, Int.reduceTDiv, beq_self_eq_true, bne_self_eq_false, List.contains_cons, List.contains_nil, Nat.reduceBEq]; try rfl) ?_ | refine actsE_T (round33 1000 b ⟨w.a, w.b, w.c, xor6 w.d m⟩) (by simp (disch := first | omega | (simp only [List.length_cons, List.length_nil]; first | done | omega)) only [go_sem, Nat.reduceAdd, Nat.reduceMul, Nat.reduceSub, Nat.reduceEqDiff, Nat.reduceLeDiff, Nat.reduceMod, Nat.reduceLT, Int.reduceToNat, Int.reduceAdd, Int.reduceSub, Int.reduceMul, Int.reduceNeg, Int.reduceLE, Int.reduceLT, Int.toNat_natCast, Int.cast_ofNat_Int, Int.reduceNe, Int.reduceEq, Int.reduceBEq, Int.reduceBNe, not_false_eq_true, ne_eq, Int.reduceTMod, Int.reduceTDiv, beq_self_eq_true, bne_self_eq_false, List.contains_cons, List.contains_nil, Nat.reduceBEq]; try rfl) ?_ | refine actsE_N (round33 1000 b ⟨w.a, w.b, w.c, xor6 w.d m⟩) (by simp (disch := first | omega | (simp only [List.length_cons, List.length_nil]; first | done | omega)) only [go_sem, Nat.reduceAdd, Nat.reduceMul, Nat.reduceSub, Nat.reduceEqDiff, Nat.reduceLeDiff, Nat.reduceMod, Nat.reduceLT, Int.reduceToNat, Int.reduceAdd, Int.reduceSub, Int.reduceMul, Int.reduceNeg, Int.reduceLE, Int.reduceLT, Int.toNat_natCast, Int.cast_ofNat_Int, Int.reduceNe, Int.reduceEq, Int.reduceBEq, Int.reduceBNe, not_false_eq_true, ne_eq, Int.reduceTMod, Int.reduceTDiv, beq_self_eq_true, bne_self_eq_false, List.contains_cons, List.contains_nil, Nat.reduceBEq]; try rfl) ?_ | refine actsE_of (round33 1000 b ⟨w.a, w.b, w.c, xor6 w.d m⟩) (by simp (disch := first | omega | (simp only [List.length_cons, List.length_nil]; first | done | omega)) only [go_sem, Nat.reduceAdd, Nat.reduceMul, Nat.reduceSub, Nat.reduceEqDiff, Nat.reduceLeDiff, Nat.reduceMod, Nat.reduceLT, Int.reduceToNat, Int.reduceAdd, Int.reduceSub, Int.reduceMul, Int.reduceNeg, Int.reduceLE, Int.reduceLT, Int.toNat_natCast, Int.cast_ofNat_Int, Int.reduceNe, Int.reduceEq, Int.reduceBEq, Int.reduceBNe, not_false_eq_true, ne_eq, Int.reduceTMod, Int.reduceTDiv, beq_self_eq_true, bne_self_eq_false, List.contains_cons, List.contains_nil, Nat.reduceBEq]; try rfl) ?_
  rintro r e ⟨rfl, rfl⟩
  simp (disch := first | omega | (simp only [List.length_cons, List.length_nil]; first | done | omega)) only [go_sem, Nat.reduceAdd, Nat.reduceMul, Nat.reduceSub, Nat.reduceEqDiff, Nat.reduceLeDiff, Nat.reduceMod, Nat.reduceLT, Int.reduceToNat, Int.reduceAdd, Int.reduceSub, Int.reduceMul, Int.reduceNeg, Int.reduceLE, Int.reduceLT, Int.toNat_natCast, Int.cast_ofNat_Int, Int.reduceNe, Int.reduceEq, Int.reduceBEq, Int.reduceBNe, not_false_eq_true, ne_eq, Int.reduceTMod, Int.reduceTDiv, beq_self_eq_true, bne_self_eq_false, List.contains_cons, List.contains_nil, Nat.reduceBEq]
  first | refine actsE_U (round33 1000 b (rnd ⟨w.a, w.b, w.c, xor6 w.d m⟩)) (by simp (disch := first | omega | (simp only [List.length_cons, List.length_nil]; first | done | omega)) only [go_sem, Nat.reduceAdd, Nat.reduceMul, Nat.reduceSub, Nat.reduceEqDiff, Nat.reduceLeDiff, Nat.reduceMod, Nat.reduceLT, Int.reduceToNat, Int.reduceAdd, Int.reduceSub, Int.reduceMul, Int.reduceNeg, Int.reduceLE, Int.reduceLT, Int.toNat_natCast, Int.cast_ofNat_Int, Int.reduceNe, Int.reduceEq, Int.reduceBEq, Int.reduceBNe, not_false_eq_true, ne_eq, Int.reduceTMod, Int.reduceTDiv, beq_self_eq_true, bne_self_eq_false, List.contains_cons, List.contains_nil, Nat.reduceBEq]; try rfl) ?_ | refine actsE_T (round33 1000 b (rnd ⟨w.a, w.b, w.c, xor6 w.d m⟩)) (by simp (disch := first | omega | (simp only [List.length_cons, List.length_nil]; first | done | omega)) only [go_sem, Nat.reduceAdd, Nat.reduceMul, Nat.reduceSub, Nat.reduceEqDiff, Nat.reduceLeDiff, Nat.reduceMod, Nat.reduceLT, Int.reduceToNat, Int.reduceAdd, Int.reduceSub, Int.reduceMul, Int.reduceNeg, Int.reduceLE, Int.reduceLT, Int.toNat_natCast, Int.cast_ofNat_Int, Int.reduceNe, Int.reduceEq, Int.reduceBEq, Int.reduceBNe, not_false_eq_true, ne_eq, Int.reduceTMod, Int.reduceTDiv, beq_self_eq_true, bne_self_eq_false, List.contains_cons, List.contains_nil, Nat.reduceBEq]; try rfl) ?_ | refine actsE_N (round33 1000 b (rnd ⟨w.a, w.b, w.c, xor6 w.d m⟩)) (by simp (disch := first | omega | (simp only [List.length_cons, List.length_nil]; first | done | omega)) only [go_sem, Nat.reduceAdd, Nat.reduceMul, Nat.reduceSub, Nat.reduceEqDiff, Nat.reduceLeDiff, Nat.reduceMod, Nat.reduceLT, Int.reduceToNat, Int.reduceAdd, Int.reduceSub, Int.reduceMul, Int.reduceNeg, Int.reduceLE, Int.reduceLT, Int.toNat_natCast, Int.cast_ofNat_Int, Int.reduceNe, Int.reduceEq, Int.reduceBEq, Int.reduceBNe, not_false_eq_true, ne_eq, Int.reduceTMod, Int.reduceTDiv, beq_self_eq_true, bne_self_eq_false, List.contains_cons, List.contains_nil, Nat.reduceBEq]; try rfl) ?_ | refine actsE_of (round33 1000 b (rnd ⟨w.a, w.b, w.c, xor6 w.d m⟩)) (by simp (disch := first | omega | (simp only [List.length_cons, List.length_nil]; first | done | omega)) only [go_sem, Nat.reduceAdd, Nat.reduceMul, Nat.reduceSub, Nat.reduceEqDiff, Nat.reduceLeDiff, Nat.reduceMod, Nat.reduceLT, Int.reduceToNat, Int.reduceAdd, Int.reduceSub, Int.reduceMul, Int.reduceNeg, Int.reduceLE, Int.reduceLT, Int.toNat_natCast, Int.cast_ofNat_Int, Int.reduceNe, Int.reduceEq, Int.reduceBEq, Int.reduceBNe, not_false_eq_true, ne_eq, Int.reduceTMod, Int.reduceTDiv, beq_self_eq_true, bne_self_eq_false, List.contains_cons, List.contains_nil, Nat.reduceBEq]; try rfl) ?_
  rintro r e ⟨rfl, rfl⟩
  unfold WL
  simp (disch := first | omega | (simp only [List.length_cons, List.length_nil]; first | done | omega)) only [go_sem, Nat.reduceAdd, Nat.reduceMul, Nat.reduceSub, Nat.reduceEqDiff, Nat.reduceLeDiff, Nat.reduceMod, Nat.reduceLT, Int.reduceToNat, Int.reduceAdd, Int.reduceSub, Int.reduceMul, Int.reduceNeg, Int.reduceLE, Int.reduceLT, Int.toNat_natCast, Int.cast_ofNat_Int, Int.reduceNe, Int.reduceEq, Int.reduceBEq, Int.reduceBNe, not_false_eq_true, ne_eq, Int.reduceTMod, Int.reduceTDiv, beq_self_eq_true, bne_self_eq_false, List.contains_cons, List.contains_nil, Nat.reduceBEq]
  exact viewE_end (leV.refl _) (List.Sublist.refl _) ⟨rfl, rfl⟩
def rep : Nat → W4 → W4
  | 0, w => w
  | n + 1, w => rep n (rnd w)
theorem rounds30 (w : W4) (n : Int) (hn : 0 ≤ n ∧ n ≤ 100) : Pure Try.prog gl 30 [.agg (WL w), .int .i64 n] (.agg (WL (rep n.toNat w))) := by
  refine fn_pureT Try.func30 t30 Try.ntmps30 (by simp) ?_
  unfold c30 r30 WL
  simp (disch := first | omega | (simp only [List.length_cons, List.length_nil]; first | done | omega)) only [go_sem, Nat.reduceAdd, Nat.reduceMul, Nat.reduceSub, Nat.reduceEqDiff, Nat.reduceLeDiff, Nat.reduceMod, Nat.reduceLT, Int.reduceToNat, Int.reduceAdd, Int.reduceSub, Int.reduceMul, Int.reduceNeg, Int.reduceLE, Int.reduceLT, Int.toNat_natCast, Int.cast_ofNat_Int, Int.reduceNe, Int.reduceEq, Int.reduceBEq, Int.reduceBNe, not_false_eq_true, ne_eq, Int.reduceTMod, Int.reduceTDiv, beq_self_eq_true, bne_self_eq_false, List.contains_cons, List.contains_nil, Nat.reduceBEq]
  intro b b2
  refine loopI (ι := Int × W4) (fun x => (0 ≤ x.1 ∧ x.1 ≤ 100) ∧ rep x.1.toNat x.2 = rep n.toNat w) (fun x => (4, _) :: (2, _) :: (0, _) :: (1, .int .i64 x.1) :: _) (fun x => (4, _) :: (2, .blk b (WL x.2)) :: _) (fun x => x.1.toNat) (n, w) ⟨hn, rfl⟩ Ents.same ?_
  rintro ⟨k, u⟩ ⟨hk, hu⟩
  dsimp only at hk hu ⊢
  unfold WL
  repeat' (first | (simp (disch := first | omega | (simp only [List.length_cons, List.length_nil]; first | done | omega)) only [go_sem, Nat.reduceAdd, Nat.reduceMul, Nat.reduceSub, Nat.reduceEqDiff, Nat.reduceLeDiff, Nat.reduceMod, Nat.reduceLT, Int.reduceToNat, Int.reduceAdd, Int.reduceSub, Int.reduceMul, Int.reduceNeg, Int.reduceLE, Int.reduceLT, Int.toNat_natCast, Int.cast_ofNat_Int, Int.reduceNe, Int.reduceEq, Int.reduceBEq, Int.reduceBNe, not_false_eq_true, ne_eq, Int.reduceTMod, Int.reduceTDiv, beq_self_eq_true, bne_self_eq_false, List.contains_cons, List.contains_nil, Nat.reduceBEq]) | (refine allI (fun b => ?_)) | (refine allT (fun τ => ?_)) | (refine brP (fun h => ?_) (fun h => ?_) <;> (try simp only [Bool.and_eq_true, Bool.and_eq_false_iff, Bool.or_eq_true, Bool.or_eq_false_iff, Bool.not_eq_true', Bool.not_eq_false', decide_eq_true_eq, decide_eq_false_iff_not, beq_iff_eq, beq_eq_false_iff_ne, ne_eq, bne_iff_ne, Int.not_lt, Int.not_le] at h)))
  · first | refine call_U (turn34 _ _ (by omega)) ?_ | refine call_T (turn34 _ _ (by omega)) ?_ | refine call_N (turn34 _ _ (by omega)) ?_ | refine call_of (turn34 _ _ (by omega)) ?_
    simp (disch := first | omega | (simp only [List.length_cons, List.length_nil]; first | done | omega)) only [go_sem, Nat.reduceAdd, Nat.reduceMul, Nat.reduceSub, Nat.reduceEqDiff, Nat.reduceLeDiff, Nat.reduceMod, Nat.reduceLT, Int.reduceToNat, Int.reduceAdd, Int.reduceSub, Int.reduceMul, Int.reduceNeg, Int.reduceLE, Int.reduceLT, Int.toNat_natCast, Int.cast_ofNat_Int, Int.reduceNe, Int.reduceEq, Int.reduceBEq, Int.reduceBNe, not_false_eq_true, ne_eq, Int.reduceTMod, Int.reduceTDiv, beq_self_eq_true, bne_self_eq_false, List.contains_cons, List.contains_nil, Nat.reduceBEq]
    first | refine call_U (turn34 _ _ (by omega)) ?_ | refine call_T (turn34 _ _ (by omega)) ?_ | refine call_N (turn34 _ _ (by omega)) ?_ | refine call_of (turn34 _ _ (by omega)) ?_
    simp (disch := first | omega | (simp only [List.length_cons, List.length_nil]; first | done | omega)) only [go_sem, Nat.reduceAdd, Nat.reduceMul, Nat.reduceSub, Nat.reduceEqDiff, Nat.reduceLeDiff, Nat.reduceMod, Nat.reduceLT, Int.reduceToNat, Int.reduceAdd, Int.reduceSub, Int.reduceMul, Int.reduceNeg, Int.reduceLE, Int.reduceLT, Int.toNat_natCast, Int.cast_ofNat_Int, Int.reduceNe, Int.reduceEq, Int.reduceBEq, Int.reduceBNe, not_false_eq_true, ne_eq, Int.reduceTMod, Int.reduceTDiv, beq_self_eq_true, bne_self_eq_false, List.contains_cons, List.contains_nil, Nat.reduceBEq]
    first | refine call_U (turn34 _ _ (by omega)) ?_ | refine call_T (turn34 _ _ (by omega)) ?_ | refine call_N (turn34 _ _ (by omega)) ?_ | refine call_of (turn34 _ _ (by omega)) ?_
    simp (disch := first | omega | (simp only [List.length_cons, List.length_nil]; first | done | omega)) only [go_sem, Nat.reduceAdd, Nat.reduceMul, Nat.reduceSub, Nat.reduceEqDiff, Nat.reduceLeDiff, Nat.reduceMod, Nat.reduceLT, Int.reduceToNat, Int.reduceAdd, Int.reduceSub, Int.reduceMul, Int.reduceNeg, Int.reduceLE, Int.reduceLT, Int.toNat_natCast, Int.cast_ofNat_Int, Int.reduceNe, Int.reduceEq, Int.reduceBEq, Int.reduceBNe, not_false_eq_true, ne_eq, Int.reduceTMod, Int.reduceTDiv, beq_self_eq_true, bne_self_eq_false, List.contains_cons, List.contains_nil, Nat.reduceBEq]
    first | refine call_U (turn34 _ _ (by omega)) ?_ | refine call_T (turn34 _ _ (by omega)) ?_ | refine call_N (turn34 _ _ (by omega)) ?_ | refine call_of (turn34 _ _ (by omega)) ?_
    simp (disch := first | omega | (simp only [List.length_cons, List.length_nil]; first | done | omega)) only [go_sem, Nat.reduceAdd, Nat.reduceMul, Nat.reduceSub, Nat.reduceEqDiff, Nat.reduceLeDiff, Nat.reduceMod, Nat.reduceLT, Int.reduceToNat, Int.reduceAdd, Int.reduceSub, Int.reduceMul, Int.reduceNeg, Int.reduceLE, Int.reduceLT, Int.toNat_natCast, Int.cast_ofNat_Int, Int.reduceNe, Int.reduceEq, Int.reduceBEq, Int.reduceBNe, not_false_eq_true, ne_eq, Int.reduceTMod, Int.reduceTDiv, beq_self_eq_true, bne_self_eq_false, List.contains_cons, List.contains_nil, Nat.reduceBEq]
    first | refine call_U (turn34 _ _ (by omega)) ?_ | refine call_T (turn34 _ _ (by omega)) ?_ | refine call_N (turn34 _ _ (by omega)) ?_ | refine call_of (turn34 _ _ (by omega)) ?_
    simp (disch := first | omega | (simp only [List.length_cons, List.length_nil]; first | done | omega)) only [go_sem, Nat.reduceAdd, Nat.reduceMul, Nat.reduceSub, Nat.reduceEqDiff, Nat.reduceLeDiff, Nat.reduceMod, Nat.reduceLT, Int.reduceToNat, Int.reduceAdd, Int.reduceSub, Int.reduceMul, Int.reduceNeg, Int.reduceLE, Int.reduceLT, Int.toNat_natCast, Int.cast_ofNat_Int, Int.reduceNe, Int.reduceEq, Int.reduceBEq, Int.reduceBNe, not_false_eq_true, ne_eq, Int.reduceTMod, Int.reduceTDiv, beq_self_eq_true, bne_self_eq_false, List.contains_cons, List.contains_nil, Nat.reduceBEq]
    first | refine call_U (turn34 _ _ (by omega)) ?_ | refine call_T (turn34 _ _ (by omega)) ?_ | refine call_N (turn34 _ _ (by omega)) ?_ | refine call_of (turn34 _ _ (by omega)) ?_
    simp (disch := first | omega | (simp only [List.length_cons, List.length_nil]; first | done | omega)) only [go_sem, Nat.reduceAdd, Nat.reduceMul, Nat.reduceSub, Nat.reduceEqDiff, Nat.reduceLeDiff, Nat.reduceMod, Nat.reduceLT, Int.reduceToNat, Int.reduceAdd, Int.reduceSub, Int.reduceMul, Int.reduceNeg, Int.reduceLE, Int.reduceLT, Int.toNat_natCast, Int.cast_ofNat_Int, Int.reduceNe, Int.reduceEq, Int.reduceBEq, Int.reduceBNe, not_false_eq_true, ne_eq, Int.reduceTMod, Int.reduceTDiv, beq_self_eq_true, bne_self_eq_false, List.contains_cons, List.contains_nil, Nat.reduceBEq]
    refine ⟨⟨(k - 1, rnd u), ⟨by dsimp only; omega, ?_⟩⟩, by dsimp only; omega, Ents.envH (by simp [go_sem]) rfl⟩
    dsimp only
    rw [← hu, show k.toNat = (k - 1).toNat + 1 by omega]
    rfl
  · have : k = 0 := by omega
    subst this
    refine leV.of_eq ?_
    rw [← hu]
    rfl
theorem take29 (w : W4) (m : Int) : Pure Try.prog gl 29 [.agg (WL w), .int .u64 m] (.agg (WL (wrd w m))) := by
  refine fn_pureT Try.func29 t29 Try.ntmps29 (by simp) ?_
  unfold c29 r29 WL
  simp (disch := first | omega | (simp only [List.length_cons, List.length_nil]; first | done | omega)) only [go_sem, Nat.reduceAdd, Nat.reduceMul, Nat.reduceSub, Nat.reduceEqDiff, Nat.reduceLeDiff, Nat.reduceMod, Nat.reduceLT, Int.reduceToNat, Int.reduceAdd, Int.reduceSub, Int.reduceMul, Int.reduceNeg, Int.reduceLE, Int.reduceLT, Int.toNat_natCast, Int.cast_ofNat_Int, Int.reduceNe, Int.reduceEq, Int.reduceBEq, Int.reduceBNe, not_false_eq_true, ne_eq, Int.reduceTMod, Int.reduceTDiv, beq_self_eq_true, bne_self_eq_false, List.contains_cons, List.contains_nil, Nat.reduceBEq]
  intro b b2
  first | refine call_U (rounds30 ⟨w.a, w.b, w.c, xor6 w.d m⟩ 2 (by omega)) ?_ | refine call_T (rounds30 ⟨w.a, w.b, w.c, xor6 w.d m⟩ 2 (by omega)) ?_ | refine call_N (rounds30 ⟨w.a, w.b, w.c, xor6 w.d m⟩ 2 (by omega)) ?_ | refine call_of (rounds30 ⟨w.a, w.b, w.c, xor6 w.d m⟩ 2 (by omega)) ?_
  unfold WL
  simp (disch := first | omega | (simp only [List.length_cons, List.length_nil]; first | done | omega)) only [go_sem, Nat.reduceAdd, Nat.reduceMul, Nat.reduceSub, Nat.reduceEqDiff, Nat.reduceLeDiff, Nat.reduceMod, Nat.reduceLT, Int.reduceToNat, Int.reduceAdd, Int.reduceSub, Int.reduceMul, Int.reduceNeg, Int.reduceLE, Int.reduceLT, Int.toNat_natCast, Int.cast_ofNat_Int, Int.reduceNe, Int.reduceEq, Int.reduceBEq, Int.reduceBNe, not_false_eq_true, ne_eq, Int.reduceTMod, Int.reduceTDiv, beq_self_eq_true, bne_self_eq_false, List.contains_cons, List.contains_nil, Nat.reduceBEq]
  exact leV.of_eq rfl
/-- little end first, from the place i on -/
def lit (m i : Int) : List Int → Int
  | [] => m
  | c :: l => lit (bitop .or .u64 m (shl .u64 c (8 * i))) (i + 1) l
theorem drop_getD (l : List Int) {k : Int} (h : 0 ≤ k) (h' : k < l.length) : l.drop k.toNat = l.getD k.toNat 0 :: l.drop (k + 1).toNat := by
  have h2 : k.toNat < l.length := by omega
  rw [List.drop_eq_getElem_cons h2, show (k + 1).toNat = k.toNat + 1 by omega]
  simp [List.getD, h2]
theorem little32 (l : List Int) (hl : ∀ c ∈ l, 0 ≤ c ∧ c ≤ 255) (h8 : l.length ≤ 8) : Pure Try.prog gl 32 [.sl 1 l.length (l.map (LV.int .u8))] (.int .u64 (lit 0 0 l)) := by
  refine fn_pureT Try.func32 t32 Try.ntmps32 (by simp) ?_
  unfold c32 r32
  simp (disch := first | omega | (simp only [List.length_cons, List.length_nil]; first | done | omega)) only [go_sem, Nat.reduceAdd, Nat.reduceMul, Nat.reduceSub, Nat.reduceEqDiff, Nat.reduceLeDiff, Nat.reduceMod, Nat.reduceLT, Int.reduceToNat, Int.reduceAdd, Int.reduceSub, Int.reduceMul, Int.reduceNeg, Int.reduceLE, Int.reduceLT, Int.toNat_natCast, Int.cast_ofNat_Int, Int.reduceNe, Int.reduceEq, Int.reduceBEq, Int.reduceBNe, not_false_eq_true, ne_eq, Int.reduceTMod, Int.reduceTDiv, beq_self_eq_true, bne_self_eq_false, List.contains_cons, List.contains_nil, Nat.reduceBEq]
  refine loopI (ι := Int × Int) (fun x => (0 ≤ x.1 ∧ x.1 ≤ l.length) ∧ lit x.2 x.1 (l.drop x.1.toNat) = lit 0 0 l) (fun x => (8, .int .i64 x.1) :: (7, _) :: (6, _) :: (3, .int .u64 x.2) :: _) (fun x => _) (fun x => l.length - x.1.toNat) (0, 0) ⟨by dsimp only; omega, rfl⟩ Ents.same ?_
  rintro ⟨k, m⟩ ⟨hk, hu⟩
  dsimp only at hk hu ⊢
  repeat' (first | (simp (disch := first | omega | (simp only [List.length_cons, List.length_nil]; first | done | omega)) only [go_sem, Nat.reduceAdd, Nat.reduceMul, Nat.reduceSub, Nat.reduceEqDiff, Nat.reduceLeDiff, Nat.reduceMod, Nat.reduceLT, Int.reduceToNat, Int.reduceAdd, Int.reduceSub, Int.reduceMul, Int.reduceNeg, Int.reduceLE, Int.reduceLT, Int.toNat_natCast, Int.cast_ofNat_Int, Int.reduceNe, Int.reduceEq, Int.reduceBEq, Int.reduceBNe, not_false_eq_true, ne_eq, Int.reduceTMod, Int.reduceTDiv, beq_self_eq_true, bne_self_eq_false, List.contains_cons, List.contains_nil, Nat.reduceBEq, getD_int, Nat.mul_one, List.length_map]) | (refine allI (fun b => ?_)) | (refine allT (fun τ => ?_)) | (refine brP (fun h => ?_) (fun h => ?_) <;> (try simp only [Bool.and_eq_true, Bool.and_eq_false_iff, Bool.or_eq_true, Bool.or_eq_false_iff, Bool.not_eq_true', Bool.not_eq_false', decide_eq_true_eq, decide_eq_false_iff_not, beq_iff_eq, beq_eq_false_iff_ne, ne_eq, bne_iff_ne, Int.not_lt, Int.not_le] at h)))
  · have hc := hl _ (getD_mem (l := l) (i := k.toNat) (by omega))
    rw [drop_getD l (by omega) (by omega)] at hu
    rw [wrap_u64 (by omega) (by omega)]
    refine ⟨by omega, by omega, by omega, ⟨(k + 1, bitop .or .u64 m (shl .u64 (l.getD k.toNat 0) (8 * k))), ⟨by dsimp only; omega, hu⟩⟩, by dsimp only; omega, Ents.envH (by simp [go_sem]) rfl⟩
  · rw [List.drop_eq_nil_of_le (by omega)] at hu
    exact hu
def fd (s : W4 × Int × Nat) (c : Int) : W4 × Int × Nat :=
  if s.2.2 = 7 then (wrd s.1 (bitop .or .u64 s.2.1 (shl .u64 c (8 * (s.2.2 : Int)))), 0, 0) else (s.1, bitop .or .u64 s.2.1 (shl .u64 c (8 * (s.2.2 : Int))), s.2.2 + 1)
def fds (s : W4 × Int × Nat) (l : List Int) : W4 × Int × Nat := l.foldl fd s
theorem fds_8 (w : W4) (l : List Int) (h : 8 ≤ l.length) : fds (w, 0, 0) l = fds (wrd w (lit 0 0 (l.take 8)), 0, 0) (l.drop 8) := by
  obtain _ | ⟨a, l⟩ := l
  · simp at h
  obtain _ | ⟨b, l⟩ := l
  · simp at h
  obtain _ | ⟨c, l⟩ := l
  · simp at h
  obtain _ | ⟨d, l⟩ := l
  · simp at h
  obtain _ | ⟨e, l⟩ := l
  · simp at h
  obtain _ | ⟨f, l⟩ := l
  · simp at h
  obtain _ | ⟨g, l⟩ := l
  · simp at h
  obtain _ | ⟨i, l⟩ := l
  · simp at h
  rfl
theorem fds_lt (w : W4) (l : List Int) (h : l.length < 8) : (fds (w, 0, 0) l).1 = w ∧ (fds (w, 0, 0) l).2.1 = lit 0 0 l := by
  obtain _ | ⟨a, l⟩ := l
  · exact ⟨rfl, rfl⟩
  obtain _ | ⟨b, l⟩ := l
  · exact ⟨rfl, rfl⟩
  obtain _ | ⟨c, l⟩ := l
  · exact ⟨rfl, rfl⟩
  obtain _ | ⟨d, l⟩ := l
  · exact ⟨rfl, rfl⟩
  obtain _ | ⟨e, l⟩ := l
  · exact ⟨rfl, rfl⟩
  obtain _ | ⟨f, l⟩ := l
  · exact ⟨rfl, rfl⟩
  obtain _ | ⟨g, l⟩ := l
  · exact ⟨rfl, rfl⟩
  obtain _ | ⟨i, l⟩ := l
  · exact ⟨rfl, rfl⟩
  simp at h
  omega
def fin (w : W4) (m : Int) (n : Int) : Int :=
  let u := wrd w (bitop .or .u64 m (shl .u64 (IntKind.u64.wrap (n.tmod 256)) 56))
  let v := rep 4 ⟨u.a, u.b, xor6 u.c 255, u.d⟩
  xor6 (xor6 (xor6 v.a v.b) v.c) v.d
def ini (a b : Int) : W4 := ⟨xor6 a 8317987319222330741, xor6 b 7237128888997146477, xor6 a 7816392313619706465, xor6 b 8387220255154660723⟩
def sip (a b : Int) (l : List Int) : Int := fin (fds (ini a b, 0, 0) l).1 (fds (ini a b, 0, 0) l).2.1 l.length
def Bs (l : List Int) : LV := .sl 1 l.length (l.map (LV.int .u8))
def okB (l : List Int) : Prop := (∀ c ∈ l, 0 ≤ c ∧ c ≤ 255) ∧ l.length ≤ 1152921504606846976
theorem sum28 (a b : Int) (l : List Int) (hl : okB l) : Pure Try.prog gl 28 [.agg [.int .u64 a, .int .u64 b], Bs l] (.int .u64 (sip a b l)) := by
  refine fn_pureT Try.func28 t28 Try.ntmps28 (by simp) ?_
  obtain ⟨hl, hn⟩ := hl
  unfold c28 r28 Bs
  simp (disch := first | omega | (simp only [List.length_cons, List.length_nil]; first | done | omega)) only [go_sem, Nat.reduceAdd, Nat.reduceMul, Nat.reduceSub, Nat.reduceEqDiff, Nat.reduceLeDiff, Nat.reduceMod, Nat.reduceLT, Int.reduceToNat, Int.reduceAdd, Int.reduceSub, Int.reduceMul, Int.reduceNeg, Int.reduceLE, Int.reduceLT, Int.toNat_natCast, Int.cast_ofNat_Int, Int.reduceNe, Int.reduceEq, Int.reduceBEq, Int.reduceBNe, not_false_eq_true, ne_eq, Int.reduceTMod, Int.reduceTDiv, beq_self_eq_true, bne_self_eq_false, List.contains_cons, List.contains_nil, Nat.reduceBEq]
  intro b1 b2
  refine loopI (ι := Int × W4) (fun x => (0 ≤ x.1 ∧ x.1 ≤ l.length) ∧ fds (x.2, 0, 0) (l.drop x.1.toNat) = fds (ini a b, 0, 0) l) (fun x => (6, .int .i64 x.1) :: _) (fun x => (5, .blk b2 (WL x.2)) :: _) (fun x => l.length - x.1.toNat) (0, ini a b) ⟨by dsimp only; omega, rfl⟩ Ents.same ?_
  rintro ⟨k, w⟩ ⟨hk, hu⟩
  dsimp only at hk hu ⊢
  repeat' (first | (simp (disch := first | omega | (simp only [List.length_cons, List.length_nil]; first | done | omega)) only [go_sem, Nat.reduceAdd, Nat.reduceMul, Nat.reduceSub, Nat.reduceEqDiff, Nat.reduceLeDiff, Nat.reduceMod, Nat.reduceLT, Int.reduceToNat, Int.reduceAdd, Int.reduceSub, Int.reduceMul, Int.reduceNeg, Int.reduceLE, Int.reduceLT, Int.toNat_natCast, Int.cast_ofNat_Int, Int.reduceNe, Int.reduceEq, Int.reduceBEq, Int.reduceBNe, not_false_eq_true, ne_eq, Int.reduceTMod, Int.reduceTDiv, beq_self_eq_true, bne_self_eq_false, List.contains_cons, List.contains_nil, Nat.reduceBEq]) | (refine allI (fun b => ?_)) | (refine allT (fun τ => ?_)) | (refine brP (fun h => ?_) (fun h => ?_) <;> (try simp only [Bool.and_eq_true, Bool.and_eq_false_iff, Bool.or_eq_true, Bool.or_eq_false_iff, Bool.not_eq_true', Bool.not_eq_false', decide_eq_true_eq, decide_eq_false_iff_not, beq_iff_eq, beq_eq_false_iff_ne, ne_eq, bne_iff_ne, Int.not_lt, Int.not_le] at h)))
  · refine ⟨by omega, ?_⟩
    have e : LV.sl 1 ((k + 8).toNat - k.toNat) (List.take (((k + 8).toNat - k.toNat) * 1) (List.drop (k.toNat * 1) (List.map (LV.int .u8) l))) = .sl 1 ((l.drop k.toNat).take 8).length (((l.drop k.toNat).take 8).map (LV.int .u8)) := by
      have h1 : (k + 8).toNat - k.toNat = 8 := by omega
      have h2 : ((l.drop k.toNat).take 8).length = 8 := by simp; omega
      rw [h1, h2]; simp [List.map_take, List.map_drop]
    rw [e]
    first | refine call_U (little32 ((l.drop k.toNat).take 8) (fun c hc => hl c (List.mem_of_mem_drop (List.mem_of_mem_take hc))) (by simp; omega)) ?_ | refine call_T (little32 ((l.drop k.toNat).take 8) (fun c hc => hl c (List.mem_of_mem_drop (List.mem_of_mem_take hc))) (by simp; omega)) ?_ | refine call_N (little32 ((l.drop k.toNat).take 8) (fun c hc => hl c (List.mem_of_mem_drop (List.mem_of_mem_take hc))) (by simp; omega)) ?_ | refine call_of (little32 ((l.drop k.toNat).take 8) (fun c hc => hl c (List.mem_of_mem_drop (List.mem_of_mem_take hc))) (by simp; omega)) ?_
    simp (disch := first | omega | (simp only [List.length_cons, List.length_nil]; first | done | omega)) only [go_sem, Nat.reduceAdd, Nat.reduceMul, Nat.reduceSub, Nat.reduceEqDiff, Nat.reduceLeDiff, Nat.reduceMod, Nat.reduceLT, Int.reduceToNat, Int.reduceAdd, Int.reduceSub, Int.reduceMul, Int.reduceNeg, Int.reduceLE, Int.reduceLT, Int.toNat_natCast, Int.cast_ofNat_Int, Int.reduceNe, Int.reduceEq, Int.reduceBEq, Int.reduceBNe, not_false_eq_true, ne_eq, Int.reduceTMod, Int.reduceTDiv, beq_self_eq_true, bne_self_eq_false, List.contains_cons, List.contains_nil, Nat.reduceBEq]
    first | refine actsE_U (word31 _ _ _ _) (by simp (disch := first | omega | (simp only [List.length_cons, List.length_nil]; first | done | omega)) only [go_sem, Nat.reduceAdd, Nat.reduceMul, Nat.reduceSub, Nat.reduceEqDiff, Nat.reduceLeDiff, Nat.reduceMod, Nat.reduceLT, Int.reduceToNat, Int.reduceAdd, Int.reduceSub, Int.reduceMul, Int.reduceNeg, Int.reduceLE, Int.reduceLT, Int.toNat_natCast, Int.cast_ofNat_Int, Int.reduceNe, Int.reduceEq, Int.reduceBEq, Int.reduceBNe, not_false_eq_true, ne_eq, Int.reduceTMod, Int.reduceTDiv, beq_self_eq_true, bne_self_eq_false, List.contains_cons, List.contains_nil, Nat.reduceBEq]; try rfl) ?_ | refine actsE_T (word31 _ _ _ _) (by simp (disch := first | omega | (simp only [List.length_cons, List.length_nil]; first | done | omega)) only [go_sem, Nat.reduceAdd, Nat.reduceMul, Nat.reduceSub, Nat.reduceEqDiff, Nat.reduceLeDiff, Nat.reduceMod, Nat.reduceLT, Int.reduceToNat, Int.reduceAdd, Int.reduceSub, Int.reduceMul, Int.reduceNeg, Int.reduceLE, Int.reduceLT, Int.toNat_natCast, Int.cast_ofNat_Int, Int.reduceNe, Int.reduceEq, Int.reduceBEq, Int.reduceBNe, not_false_eq_true, ne_eq, Int.reduceTMod, Int.reduceTDiv, beq_self_eq_true, bne_self_eq_false, List.contains_cons, List.contains_nil, Nat.reduceBEq]; try rfl) ?_ | refine actsE_N (word31 _ _ _ _) (by simp (disch := first | omega | (simp only [List.length_cons, List.length_nil]; first | done | omega)) only [go_sem, Nat.reduceAdd, Nat.reduceMul, Nat.reduceSub, Nat.reduceEqDiff, Nat.reduceLeDiff, Nat.reduceMod, Nat.reduceLT, Int.reduceToNat, Int.reduceAdd, Int.reduceSub, Int.reduceMul, Int.reduceNeg, Int.reduceLE, Int.reduceLT, Int.toNat_natCast, Int.cast_ofNat_Int, Int.reduceNe, Int.reduceEq, Int.reduceBEq, Int.reduceBNe, not_false_eq_true, ne_eq, Int.reduceTMod, Int.reduceTDiv, beq_self_eq_true, bne_self_eq_false, List.contains_cons, List.contains_nil, Nat.reduceBEq]; try rfl) ?_ | refine actsE_of (word31 _ _ _ _) (by simp (disch := first | omega | (simp only [List.length_cons, List.length_nil]; first | done | omega)) only [go_sem, Nat.reduceAdd, Nat.reduceMul, Nat.reduceSub, Nat.reduceEqDiff, Nat.reduceLeDiff, Nat.reduceMod, Nat.reduceLT, Int.reduceToNat, Int.reduceAdd, Int.reduceSub, Int.reduceMul, Int.reduceNeg, Int.reduceLE, Int.reduceLT, Int.toNat_natCast, Int.cast_ofNat_Int, Int.reduceNe, Int.reduceEq, Int.reduceBEq, Int.reduceBNe, not_false_eq_true, ne_eq, Int.reduceTMod, Int.reduceTDiv, beq_self_eq_true, bne_self_eq_false, List.contains_cons, List.contains_nil, Nat.reduceBEq]; try rfl) ?_
    rintro r e ⟨rfl, rfl⟩
    simp (disch := first | omega | (simp only [List.length_cons, List.length_nil]; first | done | omega)) only [go_sem, Nat.reduceAdd, Nat.reduceMul, Nat.reduceSub, Nat.reduceEqDiff, Nat.reduceLeDiff, Nat.reduceMod, Nat.reduceLT, Int.reduceToNat, Int.reduceAdd, Int.reduceSub, Int.reduceMul, Int.reduceNeg, Int.reduceLE, Int.reduceLT, Int.toNat_natCast, Int.cast_ofNat_Int, Int.reduceNe, Int.reduceEq, Int.reduceBEq, Int.reduceBNe, not_false_eq_true, ne_eq, Int.reduceTMod, Int.reduceTDiv, beq_self_eq_true, bne_self_eq_false, List.contains_cons, List.contains_nil, Nat.reduceBEq]
    refine ⟨⟨(k + 8, wrd w (lit 0 0 ((l.drop k.toNat).take 8))), ⟨by dsimp only; omega, ?_⟩⟩, by dsimp only; omega, Ents.envH (by simp [go_sem]) rfl⟩
    dsimp only
    rw [← hu, fds_8 w _ (by simp; omega), List.drop_drop, show (k + 8).toNat = k.toNat + 8 by omega]
  · refine ⟨by omega, ?_⟩
    have e : LV.sl 1 (l.length - k.toNat) (List.take ((l.length - k.toNat) * 1) (List.drop (k.toNat * 1) (List.map (LV.int .u8) l))) = .sl 1 (l.drop k.toNat).length ((l.drop k.toNat).map (LV.int .u8)) := by
      simp [List.map_drop, List.take_of_length_le]
    rw [e]
    first | refine call_U (little32 (l.drop k.toNat) (fun c hc => hl c (List.mem_of_mem_drop hc)) (by simp; omega)) ?_ | refine call_T (little32 (l.drop k.toNat) (fun c hc => hl c (List.mem_of_mem_drop hc)) (by simp; omega)) ?_ | refine call_N (little32 (l.drop k.toNat) (fun c hc => hl c (List.mem_of_mem_drop hc)) (by simp; omega)) ?_ | refine call_of (little32 (l.drop k.toNat) (fun c hc => hl c (List.mem_of_mem_drop hc)) (by simp; omega)) ?_
    simp (disch := first | omega | (simp only [List.length_cons, List.length_nil]; first | done | omega)) only [go_sem, Nat.reduceAdd, Nat.reduceMul, Nat.reduceSub, Nat.reduceEqDiff, Nat.reduceLeDiff, Nat.reduceMod, Nat.reduceLT, Int.reduceToNat, Int.reduceAdd, Int.reduceSub, Int.reduceMul, Int.reduceNeg, Int.reduceLE, Int.reduceLT, Int.toNat_natCast, Int.cast_ofNat_Int, Int.reduceNe, Int.reduceEq, Int.reduceBEq, Int.reduceBNe, not_false_eq_true, ne_eq, Int.reduceTMod, Int.reduceTDiv, beq_self_eq_true, bne_self_eq_false, List.contains_cons, List.contains_nil, Nat.reduceBEq]
    first | refine actsE_U (word31 _ _ _ _) (by simp (disch := first | omega | (simp only [List.length_cons, List.length_nil]; first | done | omega)) only [go_sem, Nat.reduceAdd, Nat.reduceMul, Nat.reduceSub, Nat.reduceEqDiff, Nat.reduceLeDiff, Nat.reduceMod, Nat.reduceLT, Int.reduceToNat, Int.reduceAdd, Int.reduceSub, Int.reduceMul, Int.reduceNeg, Int.reduceLE, Int.reduceLT, Int.toNat_natCast, Int.cast_ofNat_Int, Int.reduceNe, Int.reduceEq, Int.reduceBEq, Int.reduceBNe, not_false_eq_true, ne_eq, Int.reduceTMod, Int.reduceTDiv, beq_self_eq_true, bne_self_eq_false, List.contains_cons, List.contains_nil, Nat.reduceBEq]; try rfl) ?_ | refine actsE_T (word31 _ _ _ _) (by simp (disch := first | omega | (simp only [List.length_cons, List.length_nil]; first | done | omega)) only [go_sem, Nat.reduceAdd, Nat.reduceMul, Nat.reduceSub, Nat.reduceEqDiff, Nat.reduceLeDiff, Nat.reduceMod, Nat.reduceLT, Int.reduceToNat, Int.reduceAdd, Int.reduceSub, Int.reduceMul, Int.reduceNeg, Int.reduceLE, Int.reduceLT, Int.toNat_natCast, Int.cast_ofNat_Int, Int.reduceNe, Int.reduceEq, Int.reduceBEq, Int.reduceBNe, not_false_eq_true, ne_eq, Int.reduceTMod, Int.reduceTDiv, beq_self_eq_true, bne_self_eq_false, List.contains_cons, List.contains_nil, Nat.reduceBEq]; try rfl) ?_ | refine actsE_N (word31 _ _ _ _) (by simp (disch := first | omega | (simp only [List.length_cons, List.length_nil]; first | done | omega)) only [go_sem, Nat.reduceAdd, Nat.reduceMul, Nat.reduceSub, Nat.reduceEqDiff, Nat.reduceLeDiff, Nat.reduceMod, Nat.reduceLT, Int.reduceToNat, Int.reduceAdd, Int.reduceSub, Int.reduceMul, Int.reduceNeg, Int.reduceLE, Int.reduceLT, Int.toNat_natCast, Int.cast_ofNat_Int, Int.reduceNe, Int.reduceEq, Int.reduceBEq, Int.reduceBNe, not_false_eq_true, ne_eq, Int.reduceTMod, Int.reduceTDiv, beq_self_eq_true, bne_self_eq_false, List.contains_cons, List.contains_nil, Nat.reduceBEq]; try rfl) ?_ | refine actsE_of (word31 _ _ _ _) (by simp (disch := first | omega | (simp only [List.length_cons, List.length_nil]; first | done | omega)) only [go_sem, Nat.reduceAdd, Nat.reduceMul, Nat.reduceSub, Nat.reduceEqDiff, Nat.reduceLeDiff, Nat.reduceMod, Nat.reduceLT, Int.reduceToNat, Int.reduceAdd, Int.reduceSub, Int.reduceMul, Int.reduceNeg, Int.reduceLE, Int.reduceLT, Int.toNat_natCast, Int.cast_ofNat_Int, Int.reduceNe, Int.reduceEq, Int.reduceBEq, Int.reduceBNe, not_false_eq_true, ne_eq, Int.reduceTMod, Int.reduceTDiv, beq_self_eq_true, bne_self_eq_false, List.contains_cons, List.contains_nil, Nat.reduceBEq]; try rfl) ?_
    rintro r e ⟨rfl, rfl⟩
    obtain ⟨f1, f2⟩ := fds_lt w (l.drop k.toNat) (by simp; omega)
    rw [hu] at f1 f2
    rw [← f2]
    have f3 := f1.symm
    generalize hw : wrd w _ = w1
    unfold WL
    simp (disch := first | omega | (simp only [List.length_cons, List.length_nil]; first | done | omega)) only [go_sem, Nat.reduceAdd, Nat.reduceMul, Nat.reduceSub, Nat.reduceEqDiff, Nat.reduceLeDiff, Nat.reduceMod, Nat.reduceLT, Int.reduceToNat, Int.reduceAdd, Int.reduceSub, Int.reduceMul, Int.reduceNeg, Int.reduceLE, Int.reduceLT, Int.toNat_natCast, Int.cast_ofNat_Int, Int.reduceNe, Int.reduceEq, Int.reduceBEq, Int.reduceBNe, not_false_eq_true, ne_eq, Int.reduceTMod, Int.reduceTDiv, beq_self_eq_true, bne_self_eq_false, List.contains_cons, List.contains_nil, Nat.reduceBEq]
    refine loopI (ι := Int × W4) (fun x => (0 ≤ x.1 ∧ x.1 ≤ 4) ∧ rep (4 - x.1).toNat x.2 = rep 4 ⟨w1.a, w1.b, xor6 w1.c 255, w1.d⟩) (fun x => (49, .int .i64 x.1) :: _) (fun x => (5, .blk b2 (WL x.2)) :: _) (fun x => 4 - x.1.toNat) (0, ⟨w1.a, w1.b, xor6 w1.c 255, w1.d⟩) ⟨by dsimp only; omega, rfl⟩ Ents.same ?_
    rintro ⟨j, u⟩ ⟨hj, hv⟩
    dsimp only at hj hv ⊢
    repeat' (first | (simp (disch := first | omega | (simp only [List.length_cons, List.length_nil]; first | done | omega)) only [go_sem, Nat.reduceAdd, Nat.reduceMul, Nat.reduceSub, Nat.reduceEqDiff, Nat.reduceLeDiff, Nat.reduceMod, Nat.reduceLT, Int.reduceToNat, Int.reduceAdd, Int.reduceSub, Int.reduceMul, Int.reduceNeg, Int.reduceLE, Int.reduceLT, Int.toNat_natCast, Int.cast_ofNat_Int, Int.reduceNe, Int.reduceEq, Int.reduceBEq, Int.reduceBNe, not_false_eq_true, ne_eq, Int.reduceTMod, Int.reduceTDiv, beq_self_eq_true, bne_self_eq_false, List.contains_cons, List.contains_nil, Nat.reduceBEq]) | (refine allI (fun b => ?_)) | (refine allT (fun τ => ?_)) | (refine brP (fun h => ?_) (fun h => ?_) <;> (try simp only [Bool.and_eq_true, Bool.and_eq_false_iff, Bool.or_eq_true, Bool.or_eq_false_iff, Bool.not_eq_true', Bool.not_eq_false', decide_eq_true_eq, decide_eq_false_iff_not, beq_iff_eq, beq_eq_false_iff_ne, ne_eq, bne_iff_ne, Int.not_lt, Int.not_le] at h)))
    · first | refine actsE_U (round33 _ _ _) (by simp (disch := first | omega | (simp only [List.length_cons, List.length_nil]; first | done | omega)) only [go_sem, Nat.reduceAdd, Nat.reduceMul, Nat.reduceSub, Nat.reduceEqDiff, Nat.reduceLeDiff, Nat.reduceMod, Nat.reduceLT, Int.reduceToNat, Int.reduceAdd, Int.reduceSub, Int.reduceMul, Int.reduceNeg, Int.reduceLE, Int.reduceLT, Int.toNat_natCast, Int.cast_ofNat_Int, Int.reduceNe, Int.reduceEq, Int.reduceBEq, Int.reduceBNe, not_false_eq_true, ne_eq, Int.reduceTMod, Int.reduceTDiv, beq_self_eq_true, bne_self_eq_false, List.contains_cons, List.contains_nil, Nat.reduceBEq]; try rfl) ?_ | refine actsE_T (round33 _ _ _) (by simp (disch := first | omega | (simp only [List.length_cons, List.length_nil]; first | done | omega)) only [go_sem, Nat.reduceAdd, Nat.reduceMul, Nat.reduceSub, Nat.reduceEqDiff, Nat.reduceLeDiff, Nat.reduceMod, Nat.reduceLT, Int.reduceToNat, Int.reduceAdd, Int.reduceSub, Int.reduceMul, Int.reduceNeg, Int.reduceLE, Int.reduceLT, Int.toNat_natCast, Int.cast_ofNat_Int, Int.reduceNe, Int.reduceEq, Int.reduceBEq, Int.reduceBNe, not_false_eq_true, ne_eq, Int.reduceTMod, Int.reduceTDiv, beq_self_eq_true, bne_self_eq_false, List.contains_cons, List.contains_nil, Nat.reduceBEq]; try rfl) ?_ | refine actsE_N (round33 _ _ _) (by simp (disch := first | omega | (simp only [List.length_cons, List.length_nil]; first | done | omega)) only [go_sem, Nat.reduceAdd, Nat.reduceMul, Nat.reduceSub, Nat.reduceEqDiff, Nat.reduceLeDiff, Nat.reduceMod, Nat.reduceLT, Int.reduceToNat, Int.reduceAdd, Int.reduceSub, Int.reduceMul, Int.reduceNeg, Int.reduceLE, Int.reduceLT, Int.toNat_natCast, Int.cast_ofNat_Int, Int.reduceNe, Int.reduceEq, Int.reduceBEq, Int.reduceBNe, not_false_eq_true, ne_eq, Int.reduceTMod, Int.reduceTDiv, beq_self_eq_true, bne_self_eq_false, List.contains_cons, List.contains_nil, Nat.reduceBEq]; try rfl) ?_ | refine actsE_of (round33 _ _ _) (by simp (disch := first | omega | (simp only [List.length_cons, List.length_nil]; first | done | omega)) only [go_sem, Nat.reduceAdd, Nat.reduceMul, Nat.reduceSub, Nat.reduceEqDiff, Nat.reduceLeDiff, Nat.reduceMod, Nat.reduceLT, Int.reduceToNat, Int.reduceAdd, Int.reduceSub, Int.reduceMul, Int.reduceNeg, Int.reduceLE, Int.reduceLT, Int.toNat_natCast, Int.cast_ofNat_Int, Int.reduceNe, Int.reduceEq, Int.reduceBEq, Int.reduceBNe, not_false_eq_true, ne_eq, Int.reduceTMod, Int.reduceTDiv, beq_self_eq_true, bne_self_eq_false, List.contains_cons, List.contains_nil, Nat.reduceBEq]; try rfl) ?_
      rintro r e ⟨rfl, rfl⟩
      simp (disch := first | omega | (simp only [List.length_cons, List.length_nil]; first | done | omega)) only [go_sem, Nat.reduceAdd, Nat.reduceMul, Nat.reduceSub, Nat.reduceEqDiff, Nat.reduceLeDiff, Nat.reduceMod, Nat.reduceLT, Int.reduceToNat, Int.reduceAdd, Int.reduceSub, Int.reduceMul, Int.reduceNeg, Int.reduceLE, Int.reduceLT, Int.toNat_natCast, Int.cast_ofNat_Int, Int.reduceNe, Int.reduceEq, Int.reduceBEq, Int.reduceBNe, not_false_eq_true, ne_eq, Int.reduceTMod, Int.reduceTDiv, beq_self_eq_true, bne_self_eq_false, List.contains_cons, List.contains_nil, Nat.reduceBEq]
      refine ⟨⟨(j + 1, rnd u), ⟨by dsimp only; omega, ?_⟩⟩, by dsimp only; omega, Ents.envH (by simp [go_sem]) rfl⟩
      dsimp only
      rw [← hv, show (4 - j).toNat = (4 - (j + 1)).toNat + 1 by omega]
      rfl
    · have : j = 4 := by omega
      subst this
      unfold WL
      simp (disch := first | omega | (simp only [List.length_cons, List.length_nil]; first | done | omega)) only [go_sem, Nat.reduceAdd, Nat.reduceMul, Nat.reduceSub, Nat.reduceEqDiff, Nat.reduceLeDiff, Nat.reduceMod, Nat.reduceLT, Int.reduceToNat, Int.reduceAdd, Int.reduceSub, Int.reduceMul, Int.reduceNeg, Int.reduceLE, Int.reduceLT, Int.toNat_natCast, Int.cast_ofNat_Int, Int.reduceNe, Int.reduceEq, Int.reduceBEq, Int.reduceBNe, not_false_eq_true, ne_eq, Int.reduceTMod, Int.reduceTDiv, beq_self_eq_true, bne_self_eq_false, List.contains_cons, List.contains_nil, Nat.reduceBEq]
      have hv' : u = rep 4 ⟨w1.a, w1.b, xor6 w1.c 255, w1.d⟩ := hv
      subst hw
      rw [hv', f3]
      rfl
end Go.Proofs.Ytaffhdelflhlfaa
