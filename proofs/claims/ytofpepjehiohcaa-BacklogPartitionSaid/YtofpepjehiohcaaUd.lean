/- Layer 20: backlog: why an event is refused, what is lost, what is reported. -/
import Derived.Test.YtofpepjehiohcaaUc
namespace Go.Proofs.Ytofpepjehiohcaa
open Go Go.Lx
set_option linter.unusedSimpArgs false
set_option linter.unusedVariables false
set_option maxRecDepth 100000
set_option maxHeartbeats 1000000

def numP (s : List UInt8) (n : Int) : Pa := ⟨s, 1, n, []⟩
theorem num (s : List UInt8) (n : Int) : Pure Try.prog gl 60 [.str s, .int .i64 n] (.agg [.str s, .int .i64 1, .int .i64 n, .str []]) := by
  refine fn_pureT Try.func60 t60 Try.ntmps60 (by simp) ?_
  unfold c60 r60
  simp (disch := first | omega | (simp only [List.length_cons, List.length_nil]; first | done | omega)) only [go_sem, Nat.reduceAdd, Nat.reduceMul, Nat.reduceSub, Nat.reduceEqDiff, Nat.reduceLeDiff, Nat.reduceMod, Nat.reduceLT, Int.reduceToNat, Int.reduceAdd, Int.reduceSub, Int.reduceMul, Int.reduceNeg, Int.reduceLE, Int.reduceLT, Int.toNat_natCast, Int.cast_ofNat_Int, Int.reduceNe, Int.reduceEq, Int.reduceBEq, Int.reduceBNe, not_false_eq_true, ne_eq, Int.reduceTMod, Int.reduceTDiv, beq_self_eq_true, bne_self_eq_false, List.contains_cons, List.contains_nil, Nat.reduceBEq]
theorem rnum (s : List UInt8) (n : Int) : Pure Try.prog gl 52 [.str s, .int .i64 n] (.agg [.str s, .int .i64 1, .int .i64 n, .str []]) := by
  refine fn_pureT Try.func52 t52 Try.ntmps52 (by simp) ?_
  unfold c52 r52
  simp (disch := first | omega | (simp only [List.length_cons, List.length_nil]; first | done | omega)) only [go_sem, Nat.reduceAdd, Nat.reduceMul, Nat.reduceSub, Nat.reduceEqDiff, Nat.reduceLeDiff, Nat.reduceMod, Nat.reduceLT, Int.reduceToNat, Int.reduceAdd, Int.reduceSub, Int.reduceMul, Int.reduceNeg, Int.reduceLE, Int.reduceLT, Int.toNat_natCast, Int.cast_ofNat_Int, Int.reduceNe, Int.reduceEq, Int.reduceBEq, Int.reduceBNe, not_false_eq_true, ne_eq, Int.reduceTMod, Int.reduceTDiv, beq_self_eq_true, bne_self_eq_false, List.contains_cons, List.contains_nil, Nat.reduceBEq]
def lossP (p : Lo) : List Pa := [numP [102, 105, 114, 115, 116] p.f, numP [108, 97, 115, 116] p.l, numP [114, 97, 116, 101, 100] p.r, numP [102, 117, 108, 108] p.u, numP [115, 116, 97, 108, 108, 101, 100] p.s]
def lossR (p : Lo) (t s : Int) : Rc := ⟨1331, t, s, lossP p⟩
theorem zP : zeros ([.str [], .int .i64 0, .int .i64 0, .str []] : List LV) 20 = [.str [], .int .i64 0, .int .i64 0, .str [], .str [], .int .i64 0, .int .i64 0, .str [], .str [], .int .i64 0, .int .i64 0, .str [], .str [], .int .i64 0, .int .i64 0, .str [], .str [], .int .i64 0, .int .i64 0, .str []] := Eq.trans rfl rfl
theorem loss (p : Lo) (t : Int) : Pure Try.prog gl 58 [.agg (LoC p), .int .i64 t] (.agg (RcC (lossR p t 0))) := by
  refine fn_pureT Try.func58 t58 Try.ntmps58 (by simp) ?_
  unfold c58 r58 LoC
  simp (disch := first | omega | (simp only [List.length_cons, List.length_nil]; first | done | omega)) only [go_sem, Nat.reduceAdd, Nat.reduceMul, Nat.reduceSub, Nat.reduceEqDiff, Nat.reduceLeDiff, Nat.reduceMod, Nat.reduceLT, Int.reduceToNat, Int.reduceAdd, Int.reduceSub, Int.reduceMul, Int.reduceNeg, Int.reduceLE, Int.reduceLT, Int.toNat_natCast, Int.cast_ofNat_Int, Int.reduceNe, Int.reduceEq, Int.reduceBEq, Int.reduceBNe, not_false_eq_true, ne_eq, Int.reduceTMod, Int.reduceTDiv, beq_self_eq_true, bne_self_eq_false, List.contains_cons, List.contains_nil, Nat.reduceBEq]
  intro b b2
  first | refine call_U (num [102, 105, 114, 115, 116] p.f) ?_ | refine call_T (num [102, 105, 114, 115, 116] p.f) ?_ | refine call_N (num [102, 105, 114, 115, 116] p.f) ?_ | refine call_of (num [102, 105, 114, 115, 116] p.f) ?_
  simp (disch := first | omega | (simp only [List.length_cons, List.length_nil]; first | done | omega)) only [go_sem, Nat.reduceAdd, Nat.reduceMul, Nat.reduceSub, Nat.reduceEqDiff, Nat.reduceLeDiff, Nat.reduceMod, Nat.reduceLT, Int.reduceToNat, Int.reduceAdd, Int.reduceSub, Int.reduceMul, Int.reduceNeg, Int.reduceLE, Int.reduceLT, Int.toNat_natCast, Int.cast_ofNat_Int, Int.reduceNe, Int.reduceEq, Int.reduceBEq, Int.reduceBNe, not_false_eq_true, ne_eq, Int.reduceTMod, Int.reduceTDiv, beq_self_eq_true, bne_self_eq_false, List.contains_cons, List.contains_nil, Nat.reduceBEq]
  first | refine call_U (num [108, 97, 115, 116] p.l) ?_ | refine call_T (num [108, 97, 115, 116] p.l) ?_ | refine call_N (num [108, 97, 115, 116] p.l) ?_ | refine call_of (num [108, 97, 115, 116] p.l) ?_
  simp (disch := first | omega | (simp only [List.length_cons, List.length_nil]; first | done | omega)) only [go_sem, Nat.reduceAdd, Nat.reduceMul, Nat.reduceSub, Nat.reduceEqDiff, Nat.reduceLeDiff, Nat.reduceMod, Nat.reduceLT, Int.reduceToNat, Int.reduceAdd, Int.reduceSub, Int.reduceMul, Int.reduceNeg, Int.reduceLE, Int.reduceLT, Int.toNat_natCast, Int.cast_ofNat_Int, Int.reduceNe, Int.reduceEq, Int.reduceBEq, Int.reduceBNe, not_false_eq_true, ne_eq, Int.reduceTMod, Int.reduceTDiv, beq_self_eq_true, bne_self_eq_false, List.contains_cons, List.contains_nil, Nat.reduceBEq]
  first | refine call_U (num [114, 97, 116, 101, 100] p.r) ?_ | refine call_T (num [114, 97, 116, 101, 100] p.r) ?_ | refine call_N (num [114, 97, 116, 101, 100] p.r) ?_ | refine call_of (num [114, 97, 116, 101, 100] p.r) ?_
  simp (disch := first | omega | (simp only [List.length_cons, List.length_nil]; first | done | omega)) only [go_sem, Nat.reduceAdd, Nat.reduceMul, Nat.reduceSub, Nat.reduceEqDiff, Nat.reduceLeDiff, Nat.reduceMod, Nat.reduceLT, Int.reduceToNat, Int.reduceAdd, Int.reduceSub, Int.reduceMul, Int.reduceNeg, Int.reduceLE, Int.reduceLT, Int.toNat_natCast, Int.cast_ofNat_Int, Int.reduceNe, Int.reduceEq, Int.reduceBEq, Int.reduceBNe, not_false_eq_true, ne_eq, Int.reduceTMod, Int.reduceTDiv, beq_self_eq_true, bne_self_eq_false, List.contains_cons, List.contains_nil, Nat.reduceBEq]
  first | refine call_U (num [102, 117, 108, 108] p.u) ?_ | refine call_T (num [102, 117, 108, 108] p.u) ?_ | refine call_N (num [102, 117, 108, 108] p.u) ?_ | refine call_of (num [102, 117, 108, 108] p.u) ?_
  simp (disch := first | omega | (simp only [List.length_cons, List.length_nil]; first | done | omega)) only [go_sem, Nat.reduceAdd, Nat.reduceMul, Nat.reduceSub, Nat.reduceEqDiff, Nat.reduceLeDiff, Nat.reduceMod, Nat.reduceLT, Int.reduceToNat, Int.reduceAdd, Int.reduceSub, Int.reduceMul, Int.reduceNeg, Int.reduceLE, Int.reduceLT, Int.toNat_natCast, Int.cast_ofNat_Int, Int.reduceNe, Int.reduceEq, Int.reduceBEq, Int.reduceBNe, not_false_eq_true, ne_eq, Int.reduceTMod, Int.reduceTDiv, beq_self_eq_true, bne_self_eq_false, List.contains_cons, List.contains_nil, Nat.reduceBEq]
  first | refine call_U (num [115, 116, 97, 108, 108, 101, 100] p.s) ?_ | refine call_T (num [115, 116, 97, 108, 108, 101, 100] p.s) ?_ | refine call_N (num [115, 116, 97, 108, 108, 101, 100] p.s) ?_ | refine call_of (num [115, 116, 97, 108, 108, 101, 100] p.s) ?_
  simp (disch := first | omega | (simp only [List.length_cons, List.length_nil]; first | done | omega)) only [go_sem, Nat.reduceAdd, Nat.reduceMul, Nat.reduceSub, Nat.reduceEqDiff, Nat.reduceLeDiff, Nat.reduceMod, Nat.reduceLT, Int.reduceToNat, Int.reduceAdd, Int.reduceSub, Int.reduceMul, Int.reduceNeg, Int.reduceLE, Int.reduceLT, Int.toNat_natCast, Int.cast_ofNat_Int, Int.reduceNe, Int.reduceEq, Int.reduceBEq, Int.reduceBNe, not_false_eq_true, ne_eq, Int.reduceTMod, Int.reduceTDiv, beq_self_eq_true, bne_self_eq_false, List.contains_cons, List.contains_nil, Nat.reduceBEq, zP]
  exact leV.agg ⟨leV.refl _, leV.refl _, leV.refl _, leV.fsl_sl _ _ _, trivial⟩
theorem rloss (p : Lo) (t : Int) : Pure Try.prog gl 29 [.agg (LoC p), .int .i64 t] (.agg (RcC (lossR p t 0))) := by
  refine fn_pureT Try.func29 t29 Try.ntmps29 (by simp) ?_
  unfold c29 r29 LoC
  simp (disch := first | omega | (simp only [List.length_cons, List.length_nil]; first | done | omega)) only [go_sem, Nat.reduceAdd, Nat.reduceMul, Nat.reduceSub, Nat.reduceEqDiff, Nat.reduceLeDiff, Nat.reduceMod, Nat.reduceLT, Int.reduceToNat, Int.reduceAdd, Int.reduceSub, Int.reduceMul, Int.reduceNeg, Int.reduceLE, Int.reduceLT, Int.toNat_natCast, Int.cast_ofNat_Int, Int.reduceNe, Int.reduceEq, Int.reduceBEq, Int.reduceBNe, not_false_eq_true, ne_eq, Int.reduceTMod, Int.reduceTDiv, beq_self_eq_true, bne_self_eq_false, List.contains_cons, List.contains_nil, Nat.reduceBEq]
  intro b b2
  first | refine call_U (rnum [102, 105, 114, 115, 116] p.f) ?_ | refine call_T (rnum [102, 105, 114, 115, 116] p.f) ?_ | refine call_N (rnum [102, 105, 114, 115, 116] p.f) ?_ | refine call_of (rnum [102, 105, 114, 115, 116] p.f) ?_
  simp (disch := first | omega | (simp only [List.length_cons, List.length_nil]; first | done | omega)) only [go_sem, Nat.reduceAdd, Nat.reduceMul, Nat.reduceSub, Nat.reduceEqDiff, Nat.reduceLeDiff, Nat.reduceMod, Nat.reduceLT, Int.reduceToNat, Int.reduceAdd, Int.reduceSub, Int.reduceMul, Int.reduceNeg, Int.reduceLE, Int.reduceLT, Int.toNat_natCast, Int.cast_ofNat_Int, Int.reduceNe, Int.reduceEq, Int.reduceBEq, Int.reduceBNe, not_false_eq_true, ne_eq, Int.reduceTMod, Int.reduceTDiv, beq_self_eq_true, bne_self_eq_false, List.contains_cons, List.contains_nil, Nat.reduceBEq]
  first | refine call_U (rnum [108, 97, 115, 116] p.l) ?_ | refine call_T (rnum [108, 97, 115, 116] p.l) ?_ | refine call_N (rnum [108, 97, 115, 116] p.l) ?_ | refine call_of (rnum [108, 97, 115, 116] p.l) ?_
  simp (disch := first | omega | (simp only [List.length_cons, List.length_nil]; first | done | omega)) only [go_sem, Nat.reduceAdd, Nat.reduceMul, Nat.reduceSub, Nat.reduceEqDiff, Nat.reduceLeDiff, Nat.reduceMod, Nat.reduceLT, Int.reduceToNat, Int.reduceAdd, Int.reduceSub, Int.reduceMul, Int.reduceNeg, Int.reduceLE, Int.reduceLT, Int.toNat_natCast, Int.cast_ofNat_Int, Int.reduceNe, Int.reduceEq, Int.reduceBEq, Int.reduceBNe, not_false_eq_true, ne_eq, Int.reduceTMod, Int.reduceTDiv, beq_self_eq_true, bne_self_eq_false, List.contains_cons, List.contains_nil, Nat.reduceBEq]
  first | refine call_U (rnum [114, 97, 116, 101, 100] p.r) ?_ | refine call_T (rnum [114, 97, 116, 101, 100] p.r) ?_ | refine call_N (rnum [114, 97, 116, 101, 100] p.r) ?_ | refine call_of (rnum [114, 97, 116, 101, 100] p.r) ?_
  simp (disch := first | omega | (simp only [List.length_cons, List.length_nil]; first | done | omega)) only [go_sem, Nat.reduceAdd, Nat.reduceMul, Nat.reduceSub, Nat.reduceEqDiff, Nat.reduceLeDiff, Nat.reduceMod, Nat.reduceLT, Int.reduceToNat, Int.reduceAdd, Int.reduceSub, Int.reduceMul, Int.reduceNeg, Int.reduceLE, Int.reduceLT, Int.toNat_natCast, Int.cast_ofNat_Int, Int.reduceNe, Int.reduceEq, Int.reduceBEq, Int.reduceBNe, not_false_eq_true, ne_eq, Int.reduceTMod, Int.reduceTDiv, beq_self_eq_true, bne_self_eq_false, List.contains_cons, List.contains_nil, Nat.reduceBEq]
  first | refine call_U (rnum [102, 117, 108, 108] p.u) ?_ | refine call_T (rnum [102, 117, 108, 108] p.u) ?_ | refine call_N (rnum [102, 117, 108, 108] p.u) ?_ | refine call_of (rnum [102, 117, 108, 108] p.u) ?_
  simp (disch := first | omega | (simp only [List.length_cons, List.length_nil]; first | done | omega)) only [go_sem, Nat.reduceAdd, Nat.reduceMul, Nat.reduceSub, Nat.reduceEqDiff, Nat.reduceLeDiff, Nat.reduceMod, Nat.reduceLT, Int.reduceToNat, Int.reduceAdd, Int.reduceSub, Int.reduceMul, Int.reduceNeg, Int.reduceLE, Int.reduceLT, Int.toNat_natCast, Int.cast_ofNat_Int, Int.reduceNe, Int.reduceEq, Int.reduceBEq, Int.reduceBNe, not_false_eq_true, ne_eq, Int.reduceTMod, Int.reduceTDiv, beq_self_eq_true, bne_self_eq_false, List.contains_cons, List.contains_nil, Nat.reduceBEq]
  first | refine call_U (rnum [115, 116, 97, 108, 108, 101, 100] p.s) ?_ | refine call_T (rnum [115, 116, 97, 108, 108, 101, 100] p.s) ?_ | refine call_N (rnum [115, 116, 97, 108, 108, 101, 100] p.s) ?_ | refine call_of (rnum [115, 116, 97, 108, 108, 101, 100] p.s) ?_
  simp (disch := first | omega | (simp only [List.length_cons, List.length_nil]; first | done | omega)) only [go_sem, Nat.reduceAdd, Nat.reduceMul, Nat.reduceSub, Nat.reduceEqDiff, Nat.reduceLeDiff, Nat.reduceMod, Nat.reduceLT, Int.reduceToNat, Int.reduceAdd, Int.reduceSub, Int.reduceMul, Int.reduceNeg, Int.reduceLE, Int.reduceLT, Int.toNat_natCast, Int.cast_ofNat_Int, Int.reduceNe, Int.reduceEq, Int.reduceBEq, Int.reduceBNe, not_false_eq_true, ne_eq, Int.reduceTMod, Int.reduceTDiv, beq_self_eq_true, bne_self_eq_false, List.contains_cons, List.contains_nil, Nat.reduceBEq, zP]
  exact leV.agg ⟨leV.refl _, leV.refl _, leV.refl _, leV.fsl_sl _ _ _, trivial⟩
def pend (p : Lo) : Bool := !(p.f == 0 && (p.l == 0 && (p.r == 0 && (p.u == 0 && p.s == 0))))
theorem pend_eq (p : Lo) : (!(p.f == 0 && (p.l == 0 && (p.r == 0 && (p.u == 0 && p.s == 0))))) = pend p := rfl
def refuse (b : Bl) (s t n : Int) : Int :=
  if b.rate ≠ 0 ∧ t.tdiv 1000 = b.win ∧ b.rate ≤ b.used then 1
  else if b.lim < b.qu.length + b.res + n + (if pend b.pd then 1 else 0) then 2
  else if 0 < b.op.length ∧ 64 ≤ s - b.op.getD 0 0 then 3 else 0
/-- the sizes after k steps -/
structure okK (k : Nat) (b : Bl) : Prop where
  kk : k ≤ 1000000
  op : b.op.length ≤ k
  qu : b.qu.length ≤ k
  ps : ∀ r ∈ b.qu, r.ps.length ≤ 1000
  no : b.no.length ≤ 16
  res : -64 * k ≤ b.res ∧ b.res ≤ 64 * k
  ser : 0 ≤ b.ser ∧ b.ser ≤ 2 * k
  opn : ∀ x ∈ b.op, 0 ≤ x ∧ x ≤ 2 * k
  pf : 0 ≤ b.pd.f ∧ b.pd.f ≤ 2 * k
  pl : 0 ≤ b.pd.l ∧ b.pd.l ≤ 2 * k
  pr : 0 ≤ b.pd.r ∧ b.pd.r ≤ 2 * k
  pu : 0 ≤ b.pd.u ∧ b.pd.u ≤ 2 * k
  pss : 0 ≤ b.pd.s ∧ b.pd.s ≤ 2 * k
  used : 0 ≤ b.used ∧ b.used ≤ k
  lost : 0 ≤ b.lost ∧ b.lost ≤ k
theorem refusal (b : Bl) (k : Nat) (hk : okK k b) (b1 c1 b2 c2 b3 c3 k1 : Nat) (s t n : Int) (hs : 0 ≤ s ∧ s ≤ 100000000) (ht : 0 ≤ t ∧ t ≤ 1099511627776) (hn : 1 ≤ n ∧ n ≤ 64) :
    ActsE Try.prog gl 43 [BlO b b1 c1 b2 c2 b3 c3, .int .i64 s, .int .i64 t, .int .i64 n] 2001 (.blk b1 (Sp (b.op.map (LV.int .i64)) k1)) fun r e => r = .int .i64 (refuse b s t n) ∧ e = .blk b1 (Sp (b.op.map (LV.int .i64)) k1) := by
  refine fn_viewT Try.func43 t43 Try.ntmps43 (by simp) ?_
  obtain ⟨k0, k1_, k2, k3, k4, k5, k6, k7, k8, k9, k10, k11, k12, k13, k14⟩ := hk
  unfold c43 r43 BlO BlC
  simp (disch := first | omega | (simp only [List.length_cons, List.length_nil]; first | done | omega)) only [go_sem, Nat.reduceAdd, Nat.reduceMul, Nat.reduceSub, Nat.reduceEqDiff, Nat.reduceLeDiff, Nat.reduceMod, Nat.reduceLT, Int.reduceToNat, Int.reduceAdd, Int.reduceSub, Int.reduceMul, Int.reduceNeg, Int.reduceLE, Int.reduceLT, Int.toNat_natCast, Int.cast_ofNat_Int, Int.reduceNe, Int.reduceEq, Int.reduceBEq, Int.reduceBNe, not_false_eq_true, ne_eq, Int.reduceTMod, Int.reduceTDiv, beq_self_eq_true, bne_self_eq_false, List.contains_cons, List.contains_nil, Nat.reduceBEq]
  intro bb
  have hw : IntKind.i64.wrap (t.tdiv 1000) = t.tdiv 1000 := by
    have h1 : t.tdiv 1000 = t / 1000 := Int.tdiv_eq_ediv_of_nonneg ht.1
    rw [h1]; exact wrap_i64 (by omega) (by omega)
  have hg : b.op.length = 0 ∨ (0 < b.op.length ∧ (0 ≤ b.op.getD 0 0 ∧ b.op.getD 0 0 ≤ 2 * k)) := by
    rcases Nat.eq_zero_or_pos b.op.length with h | h
    · exact .inl h
    · exact .inr ⟨h, k7 _ (getD_mem h)⟩
  have hd0 : ∃ g x : Bool, decide ((0 : Int) < b.op.length) = g ∧ (g = true → (0 < b.op.length ∧ (Sp (b.op.map (LV.int .i64)) k1).getD 0 .any = .int .i64 (b.op.getD 0 0))) := by
    refine ⟨_, true, rfl, fun h => ?_⟩
    simp only [decide_eq_true_eq] at h
    have h : 0 < b.op.length := by omega
    exact ⟨h, by rw [getD_Sp (by simpa using h), getD_int h]⟩
  rw [pend_eq]
  have hfin : ∀ r : Int, r = refuse b s t n → ∀ (e0 : Nat × Ent), ∃ r' H', leVH gl (.int .i64 r) [e0, (2001, .blk b1 (Sp (b.op.map (LV.int .i64)) k1))] r' H' ∧ ∃ e', H' = [(2001, e')] ∧ r' = .int .i64 (refuse b s t n) ∧ e' = .blk b1 (Sp (b.op.map (LV.int .i64)) k1) :=
    fun r hr e0 => viewE_end (leV.refl _) (List.Sublist.cons _ (List.Sublist.refl _)) ⟨by rw [hr], rfl⟩
  obtain ⟨g, _, hd0, hgd⟩ := hd0
  cases hP : pend b.pd
  all_goals
    repeat' (first | (simp (disch := first | omega | (simp only [List.length_cons, List.length_nil]; first | done | omega)) only [go_sem, Nat.reduceAdd, Nat.reduceMul, Nat.reduceSub, Nat.reduceEqDiff, Nat.reduceLeDiff, Nat.reduceMod, Nat.reduceLT, Int.reduceToNat, Int.reduceAdd, Int.reduceSub, Int.reduceMul, Int.reduceNeg, Int.reduceLE, Int.reduceLT, Int.toNat_natCast, Int.cast_ofNat_Int, Int.reduceNe, Int.reduceEq, Int.reduceBEq, Int.reduceBNe, not_false_eq_true, ne_eq, Int.reduceTMod, Int.reduceTDiv, beq_self_eq_true, bne_self_eq_false, List.contains_cons, List.contains_nil, Nat.reduceBEq, hw]) | (refine allI (fun b => ?_)) | (refine allT (fun τ => ?_)) | (refine brP (fun h => ?_) (fun h => ?_) <;> (try simp only [Bool.and_eq_true, Bool.and_eq_false_iff, Bool.or_eq_true, Bool.or_eq_false_iff, Bool.not_eq_true', Bool.not_eq_false', decide_eq_true_eq, decide_eq_false_iff_not, beq_iff_eq, beq_eq_false_iff_ne, ne_eq, bne_iff_ne, Int.not_lt, Int.not_le] at h)))
    · refine hfin _ ?_ _
      rw [refuse, if_pos (by simp only [ne_eq]; omega)]
    · refine hfin _ ?_ _
      rename_i h2
      rw [refuse, if_neg (by simp only [ne_eq, bne_eq_false_iff_eq] at h2 ⊢; omega), if_pos (by simp only [hP, if_true, Bool.false_eq_true, if_false]; omega)]
    · rename_i h2
      have e1 : ¬ (b.rate ≠ 0 ∧ t.tdiv 1000 = b.win ∧ b.rate ≤ b.used) := by simp only [ne_eq, bne_eq_false_iff_eq] at h2 ⊢; omega
      have e2 : ¬ (b.lim < b.qu.length + b.res + n + (if pend b.pd then 1 else 0)) := by simp only [hP, if_true, Bool.false_eq_true, if_false]; omega
      have e3 : refuse b s t n = if 0 < b.op.length ∧ 64 ≤ s - b.op.getD 0 0 then 3 else 0 := by rw [refuse, if_neg e1, if_neg e2]
      clear h2 e1 e2
      rw [hd0]
      cases g with
      | false =>
        simp only [decide_eq_false_iff_not] at hd0
        have h0 : b.op = [] := List.length_eq_zero_iff.1 (by omega)
        have h1 : (Sp (b.op.map (LV.int .i64)) k1).getD 0 .any = .any := by rw [h0]; cases k1 <;> rfl
        rw [h1]
        repeat' (first | (simp (disch := first | omega | (simp only [List.length_cons, List.length_nil]; first | done | omega)) only [go_sem, Nat.reduceAdd, Nat.reduceMul, Nat.reduceSub, Nat.reduceEqDiff, Nat.reduceLeDiff, Nat.reduceMod, Nat.reduceLT, Int.reduceToNat, Int.reduceAdd, Int.reduceSub, Int.reduceMul, Int.reduceNeg, Int.reduceLE, Int.reduceLT, Int.toNat_natCast, Int.cast_ofNat_Int, Int.reduceNe, Int.reduceEq, Int.reduceBEq, Int.reduceBNe, not_false_eq_true, ne_eq, Int.reduceTMod, Int.reduceTDiv, beq_self_eq_true, bne_self_eq_false, List.contains_cons, List.contains_nil, Nat.reduceBEq, Bool.false_eq_true, false_implies, true_and, bin_anyR, bin_anyL, pick_0a0]) | (refine allI (fun b => ?_)) | (refine allT (fun τ => ?_)) | (refine brP (fun h => ?_) (fun h => ?_) <;> (try simp only [Bool.and_eq_true, Bool.and_eq_false_iff, Bool.or_eq_true, Bool.or_eq_false_iff, Bool.not_eq_true', Bool.not_eq_false', decide_eq_true_eq, decide_eq_false_iff_not, beq_iff_eq, beq_eq_false_iff_ne, ne_eq, bne_iff_ne, Int.not_lt, Int.not_le] at h)))
        refine hfin _ ?_ _
        rw [e3, if_neg]
        omega
      | true =>
        obtain ⟨h0, h1⟩ := hgd rfl
        have h2 : 0 ≤ b.op.getD 0 0 ∧ b.op.getD 0 0 ≤ 2 * k := k7 _ (getD_mem h0)
        rw [h1]
        repeat' (first | (simp (disch := first | omega | (simp only [List.length_cons, List.length_nil]; first | done | omega)) only [go_sem, Nat.reduceAdd, Nat.reduceMul, Nat.reduceSub, Nat.reduceEqDiff, Nat.reduceLeDiff, Nat.reduceMod, Nat.reduceLT, Int.reduceToNat, Int.reduceAdd, Int.reduceSub, Int.reduceMul, Int.reduceNeg, Int.reduceLE, Int.reduceLT, Int.toNat_natCast, Int.cast_ofNat_Int, Int.reduceNe, Int.reduceEq, Int.reduceBEq, Int.reduceBNe, not_false_eq_true, ne_eq, Int.reduceTMod, Int.reduceTDiv, beq_self_eq_true, bne_self_eq_false, List.contains_cons, List.contains_nil, Nat.reduceBEq, forall_const, true_and, length_Sp, List.length_map]) | (refine allI (fun b => ?_)) | (refine allT (fun τ => ?_)) | (refine brP (fun h => ?_) (fun h => ?_) <;> (try simp only [Bool.and_eq_true, Bool.and_eq_false_iff, Bool.or_eq_true, Bool.or_eq_false_iff, Bool.not_eq_true', Bool.not_eq_false', decide_eq_true_eq, decide_eq_false_iff_not, beq_iff_eq, beq_eq_false_iff_ne, ne_eq, bne_iff_ne, Int.not_lt, Int.not_le] at h)))
        · refine ⟨by omega, by omega, ?_⟩
          repeat' (first | (simp (disch := first | omega | (simp only [List.length_cons, List.length_nil]; first | done | omega)) only [go_sem, Nat.reduceAdd, Nat.reduceMul, Nat.reduceSub, Nat.reduceEqDiff, Nat.reduceLeDiff, Nat.reduceMod, Nat.reduceLT, Int.reduceToNat, Int.reduceAdd, Int.reduceSub, Int.reduceMul, Int.reduceNeg, Int.reduceLE, Int.reduceLT, Int.toNat_natCast, Int.cast_ofNat_Int, Int.reduceNe, Int.reduceEq, Int.reduceBEq, Int.reduceBNe, not_false_eq_true, ne_eq, Int.reduceTMod, Int.reduceTDiv, beq_self_eq_true, bne_self_eq_false, List.contains_cons, List.contains_nil, Nat.reduceBEq]) | (refine allI (fun b => ?_)) | (refine allT (fun τ => ?_)) | (refine brP (fun h => ?_) (fun h => ?_) <;> (try simp only [Bool.and_eq_true, Bool.and_eq_false_iff, Bool.or_eq_true, Bool.or_eq_false_iff, Bool.not_eq_true', Bool.not_eq_false', decide_eq_true_eq, decide_eq_false_iff_not, beq_iff_eq, beq_eq_false_iff_ne, ne_eq, bne_iff_ne, Int.not_lt, Int.not_le] at h)))
          · refine hfin _ ?_ _
            rw [e3, if_pos (by omega)]
          · refine hfin _ ?_ _
            rw [e3, if_neg (by omega)]
end Go.Proofs.Ytofpepjehiohcaa
