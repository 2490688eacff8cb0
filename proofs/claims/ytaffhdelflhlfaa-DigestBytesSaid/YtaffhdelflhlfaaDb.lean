/- Layer 23: the law of bytes. -/
import Derived.Test.YtaffhdelflhlfaaSm
namespace Go.Proofs.Ytaffhdelflhlfaa
open Go Go.Lx
set_option linter.unusedSimpArgs false
set_option linter.unusedVariables false
set_option maxRecDepth 100000
set_option maxHeartbeats 1000000

theorem take17o (i : Nat) (τ : Tok) (l : List Int) (hl : okB l) : Pure Try.prog gl 17 [.osl i τ 1 l.length (l.map (LV.int .u8))] (tkR l) :=
  LCalls.args (take17 l hl) ⟨leV.osl_sl _ _ _ _ _, trivial⟩
theorem bytesL (d : Int) (l : List Int) (hd : 0 ≤ d ∧ d ≤ 18446744073709551615) (hl : okB l) (hr : l.length ≤ 200000000000000) : Pure Try.prog gl 6 [.int .u64 d, Bs l] (.bool true) := by
  refine fn_pureT Try.func6 t6 Try.ntmps6 (by simp) ?_
  have ho := by8_ok d l hl hr
  have hx : tkR (by8 d ++ l) = .tup [.int .u64 d, .bool true] := by
    have h1 : ¬ (by8 d ++ l).length < 8 := by simp [by8]
    have h2 : 8 ≤ (by8 d ++ l).length := by simp [by8]
    have h3 : (by8 d ++ l).take 8 = by8 d := rfl
    simp only [tkR, h1, h2, if_false, decide_true, h3, tk_by8 d hd.1 hd.2]
  have hB : ∀ c ∈ (by8 d).map (LV.int .u8), isByte c = true := fun c hc => by
    obtain ⟨n, hn, rfl⟩ := List.mem_map.1 hc
    rfl
  unfold c6 r6 Bs
  simp (disch := first | omega | (simp only [List.length_cons, List.length_nil]; first | done | omega)) only [go_sem, Nat.reduceAdd, Nat.reduceMul, Nat.reduceSub, Nat.reduceEqDiff, Nat.reduceLeDiff, Nat.reduceMod, Nat.reduceLT, Int.reduceToNat, Int.reduceAdd, Int.reduceSub, Int.reduceMul, Int.reduceNeg, Int.reduceLE, Int.reduceLT, Int.toNat_natCast, Int.cast_ofNat_Int, Int.reduceNe, Int.reduceEq, Int.reduceBEq, Int.reduceBNe, not_false_eq_true, ne_eq, Int.reduceTMod, Int.reduceTDiv, beq_self_eq_true, bne_self_eq_false, List.contains_cons, List.contains_nil, Nat.reduceBEq]
  first | refine call_U (put14 d) ?_ | refine call_T (put14 d) ?_ | refine call_N (put14 d) ?_ | refine call_of (put14 d) ?_
  simp (disch := first | omega | (simp only [List.length_cons, List.length_nil]; first | done | omega)) only [go_sem, Nat.reduceAdd, Nat.reduceMul, Nat.reduceSub, Nat.reduceEqDiff, Nat.reduceLeDiff, Nat.reduceMod, Nat.reduceLT, Int.reduceToNat, Int.reduceAdd, Int.reduceSub, Int.reduceMul, Int.reduceNeg, Int.reduceLE, Int.reduceLT, Int.toNat_natCast, Int.cast_ofNat_Int, Int.reduceNe, Int.reduceEq, Int.reduceBEq, Int.reduceBNe, not_false_eq_true, ne_eq, Int.reduceTMod, Int.reduceTDiv, beq_self_eq_true, bne_self_eq_false, List.contains_cons, List.contains_nil, Nat.reduceBEq]
  refine ⟨by simp only [roomy]; omega, fun τ_ => ?_⟩
  rw [← List.map_append, show 8 + l.length = (by8 d ++ l).length by simp [by8]; omega]
  first | refine call_U (take17o _ τ_ _ ho) ?_ | refine call_T (take17o _ τ_ _ ho) ?_ | refine call_N (take17o _ τ_ _ ho) ?_ | refine call_of (take17o _ τ_ _ ho) ?_
  rw [hx]
  simp (disch := first | omega | (simp only [List.length_cons, List.length_nil]; first | done | omega)) only [go_sem, Nat.reduceAdd, Nat.reduceMul, Nat.reduceSub, Nat.reduceEqDiff, Nat.reduceLeDiff, Nat.reduceMod, Nat.reduceLT, Int.reduceToNat, Int.reduceAdd, Int.reduceSub, Int.reduceMul, Int.reduceNeg, Int.reduceLE, Int.reduceLT, Int.toNat_natCast, Int.cast_ofNat_Int, Int.reduceNe, Int.reduceEq, Int.reduceBEq, Int.reduceBNe, not_false_eq_true, ne_eq, Int.reduceTMod, Int.reduceTDiv, beq_self_eq_true, bne_self_eq_false, List.contains_cons, List.contains_nil, Nat.reduceBEq]
  first | refine call_U (take17 l hl) ?_ | refine call_T (take17 l hl) ?_ | refine call_N (take17 l hl) ?_ | refine call_of (take17 l hl) ?_
  unfold tkR
  simp (disch := first | omega | (simp only [List.length_cons, List.length_nil]; first | done | omega)) only [go_sem, Nat.reduceAdd, Nat.reduceMul, Nat.reduceSub, Nat.reduceEqDiff, Nat.reduceLeDiff, Nat.reduceMod, Nat.reduceLT, Int.reduceToNat, Int.reduceAdd, Int.reduceSub, Int.reduceMul, Int.reduceNeg, Int.reduceLE, Int.reduceLT, Int.toNat_natCast, Int.cast_ofNat_Int, Int.reduceNe, Int.reduceEq, Int.reduceBEq, Int.reduceBNe, not_false_eq_true, ne_eq, Int.reduceTMod, Int.reduceTDiv, beq_self_eq_true, bne_self_eq_false, List.contains_cons, List.contains_nil, Nat.reduceBEq]
  first | refine call_U (take18 l hl) ?_ | refine call_T (take18 l hl) ?_ | refine call_N (take18 l hl) ?_ | refine call_of (take18 l hl) ?_
  unfold tkR
  simp (disch := first | omega | (simp only [List.length_cons, List.length_nil]; first | done | omega)) only [go_sem, Nat.reduceAdd, Nat.reduceMul, Nat.reduceSub, Nat.reduceEqDiff, Nat.reduceLeDiff, Nat.reduceMod, Nat.reduceLT, Int.reduceToNat, Int.reduceAdd, Int.reduceSub, Int.reduceMul, Int.reduceNeg, Int.reduceLE, Int.reduceLT, Int.toNat_natCast, Int.cast_ofNat_Int, Int.reduceNe, Int.reduceEq, Int.reduceBEq, Int.reduceBNe, not_false_eq_true, ne_eq, Int.reduceTMod, Int.reduceTDiv, beq_self_eq_true, bne_self_eq_false, List.contains_cons, List.contains_nil, Nat.reduceBEq]
  first | refine callG_U (fun hg => put14 d) ?_ | refine callG_T (fun hg => put14 d) ?_ | refine callG_of (fun hg => put14 d) ?_
  simp (disch := first | omega | (simp only [List.length_cons, List.length_nil]; first | done | omega)) only [go_sem, Nat.reduceAdd, Nat.reduceMul, Nat.reduceSub, Nat.reduceEqDiff, Nat.reduceLeDiff, Nat.reduceMod, Nat.reduceLT, Int.reduceToNat, Int.reduceAdd, Int.reduceSub, Int.reduceMul, Int.reduceNeg, Int.reduceLE, Int.reduceLT, Int.toNat_natCast, Int.cast_ofNat_Int, Int.reduceNe, Int.reduceEq, Int.reduceBEq, Int.reduceBNe, not_false_eq_true, ne_eq, Int.reduceTMod, Int.reduceTDiv, beq_self_eq_true, bne_self_eq_false, List.contains_cons, List.contains_nil, Nat.reduceBEq]
  repeat (refine ⟨hB, ?_⟩)
  first | refine callG_U (fun hg => put19p d) ?_ | refine callG_T (fun hg => put19p d) ?_ | refine callG_of (fun hg => put19p d) ?_
  simp (disch := first | omega | (simp only [List.length_cons, List.length_nil]; first | done | omega)) only [go_sem, Nat.reduceAdd, Nat.reduceMul, Nat.reduceSub, Nat.reduceEqDiff, Nat.reduceLeDiff, Nat.reduceMod, Nat.reduceLT, Int.reduceToNat, Int.reduceAdd, Int.reduceSub, Int.reduceMul, Int.reduceNeg, Int.reduceLE, Int.reduceLT, Int.toNat_natCast, Int.cast_ofNat_Int, Int.reduceNe, Int.reduceEq, Int.reduceBEq, Int.reduceBNe, not_false_eq_true, ne_eq, Int.reduceTMod, Int.reduceTDiv, beq_self_eq_true, bne_self_eq_false, List.contains_cons, List.contains_nil, Nat.reduceBEq]
  repeat (refine ⟨hB, ?_⟩)
  first | refine callG_U (fun hg => begun13) ?_ | refine callG_T (fun hg => begun13) ?_ | refine callG_of (fun hg => begun13) ?_
  simp (disch := first | omega | (simp only [List.length_cons, List.length_nil]; first | done | omega)) only [go_sem, Nat.reduceAdd, Nat.reduceMul, Nat.reduceSub, Nat.reduceEqDiff, Nat.reduceLeDiff, Nat.reduceMod, Nat.reduceLT, Int.reduceToNat, Int.reduceAdd, Int.reduceSub, Int.reduceMul, Int.reduceNeg, Int.reduceLE, Int.reduceLT, Int.toNat_natCast, Int.cast_ofNat_Int, Int.reduceNe, Int.reduceEq, Int.reduceBEq, Int.reduceBNe, not_false_eq_true, ne_eq, Int.reduceTMod, Int.reduceTDiv, beq_self_eq_true, bne_self_eq_false, List.contains_cons, List.contains_nil, Nat.reduceBEq]
  first | done | exact hB | exact ⟨hB, hB⟩ | trace_state
end Go.Proofs.Ytaffhdelflhlfaa
