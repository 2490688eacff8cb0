/- Layer 16: awake. -/
import Derived.Test.YtcngkeeknlloaaaDg
namespace Go.Proofs.Ytcngkeeknlloaaa
open Go Go.Lx
set_option linter.unusedSimpArgs false
set_option linter.unusedVariables false
set_option maxRecDepth 100000
set_option maxHeartbeats 4000000

def rlA : Rl := { rl0 with l := 3, a := 2, c := 1, ts := [{ te0 with f := 3, o := 1 }] }
def rlB : Rl := { rl0 with l := 3, a := 1, c := 1 }
def dgA : Dg := ⟨[tAt { te0 with f := 3, o := 1 }], [⟨0, -3, -2⟩], 0⟩
theorem dgA_is : dgR [rlA, rlB] [0, 1] = (dgA, 0) := by kernel_rfl
theorem dgA_t : decS dgA [true] = 0 := by kernel_rfl
theorem dgA_f : decS dgA [false] = 1 := by kernel_rfl
theorem zRl2 : zeros ([.int .i64 0, .int .i64 0, .int .u64 0, .fsl 1 0 [], .int .i64 0, .str [], .int .i64 0, .str []] : List LV) 16 = [.int .i64 0, .int .i64 0, .int .u64 0, .fsl 1 0 [], .int .i64 0, .str [], .int .i64 0, .str [], .int .i64 0, .int .i64 0, .int .u64 0, .fsl 1 0 [], .int .i64 0, .str [], .int .i64 0, .str []] := Eq.trans rfl rfl
/-- a literal slice that is made under a guard -/
theorem x_mkSgU {P : Program} {gl : Glob} (d sz m : Nat) (z : List LV) (ps : List (Nat × Nat × X)) (sg : X) (wt : Bool) (r : List LOper) (K : Env → Heap → Prop) (env tmp : Env) (H : Heap) : execL P gl (⟨some d, false, some (sg, wt), .mkS sz m z ps⟩ :: r) K env tmp H = Branch (gBool (ev gl env tmp sg) wt) (Bd (gParts (ev gl env tmp) ps ∧ z.length = sz ∧ (fillQ (zeros z (m * sz)) (vParts (ev gl env tmp) ps)).1, (fillQ (zeros z (m * sz)) (vParts (ev gl env tmp) ps)).2) (kS sz m (kU (execL P gl r K) d env tmp H))) (kU (execL P gl r K) d env tmp H (.opt false .any)) := Eq.trans rfl rfl
theorem awake : Pure Try.prog gl 14 [] (.bool true) := by
  refine fn_pureT Try.func14 t14 Try.ntmps14 (by simp) ?_
  have h1 := buildP [rlA, rlB] [0, 1] ⟨by simp, by simp, by simp [rlA, rlB, rl0]⟩
  rw [dgA_is] at h1
  have h2 := decide_ dgA [true] (by simp [dgA]) (by simp [dgA]) (by simp [dgA, brW, Lit.wf, IntKind.min, IntKind.max, IntKind.signed, IntKind.bits]) (by simp [dgA, Lit.wf, IntKind.min, IntKind.max, IntKind.signed, IntKind.bits]) (by simp)
  have h3 := decide_ dgA [false] (by simp [dgA]) (by simp [dgA]) (by simp [dgA, brW, Lit.wf, IntKind.min, IntKind.max, IntKind.signed, IntKind.bits]) (by simp [dgA, Lit.wf, IntKind.min, IntKind.max, IntKind.signed, IntKind.bits]) (by simp)
  rw [dgA_t] at h2
  rw [dgA_f] at h3
  rw [DgC_eq] at h1
  have h4 : Pure Try.prog gl _ [.fsl 8 2 [.int .i64 3, .int .i64 2, .int .u64 1, .fsl 5 1 [.int .i64 3, .int .i64 1, .int .i64 0, .str [], .int .i64 0], .int .i64 0, .str [], .int .i64 0, .str [], .int .i64 3, .int .i64 1, .int .u64 1, .fsl 1 0 [], .int .i64 0, .str [], .int .i64 0, .str []], .fsl 1 2 [.int .i64 0, .int .i64 1]] _ := LCalls.args h1 ⟨(leV.fsl_sl _ _ _).trans (leV.sl ⟨leV.refl _, leV.refl _, leV.refl _, leV.fsl_sl _ _ _, leV.refl _, leV.refl _, leV.refl _, leV.refl _, leV.refl _, leV.refl _, leV.refl _, leV.nil_sl _ _, leV.refl _, leV.refl _, leV.refl _, leV.refl _, trivial⟩), leV.fsl_sl _ _ _, trivial⟩
  have h5 : Pure Try.prog gl _ [_, .fsl 1 1 [.bool true]] _ := LCalls.args h2 ⟨leV.refl _, leV.fsl_sl _ _ _, trivial⟩
  have h6 : Pure Try.prog gl _ [_, .fsl 1 1 [.bool false]] _ := LCalls.args h3 ⟨leV.refl _, leV.fsl_sl _ _ _, trivial⟩
  rw [DgC_eq, BlS_eq] at h2 h3
  have d9 : ((dgA.ns.length : Int) == 1) = true := by simp [dgA]
  rw [DgC_eq] at h5 h6
  unfold c14 r14
  repeat' (first | (simp (disch := first | omega | (simp only [List.length_cons, List.length_nil]; first | done | omega)) only [go_sem, Nat.reduceAdd, Nat.reduceMul, Nat.reduceSub, Nat.reduceEqDiff, Nat.reduceLeDiff, Nat.reduceMod, Nat.reduceLT, Int.reduceToNat, Int.reduceAdd, Int.reduceSub, Int.reduceMul, Int.reduceNeg, Int.reduceLE, Int.reduceLT, Int.reduceNe, Int.reduceEq, Int.reduceBEq, Int.reduceBNe, Int.reduceTMod, Int.reduceTDiv, Nat.reduceBEq, zTe, zRl2, d9, ↓x_mkSgU]) | (refine allI (fun b => ?_)) | (refine allT (fun τ => ?_)) | (refine brP (fun h => ?_) (fun h => ?_) <;> (try simp only [zgx, zbx] at h)) | refine call_U (h4) ?_ | refine callG_U (fun _ => h4) ?_ | refine call_T (h4) ?_ | refine callG_T (fun _ => h4) ?_ | refine call_U (h5) ?_ | refine callG_U (fun _ => h5) ?_ | refine call_T (h5) ?_ | refine callG_T (fun _ => h5) ?_ | refine call_U (h6) ?_ | refine callG_U (fun _ => h6) ?_ | refine call_T (h6) ?_ | refine callG_T (fun _ => h6) ?_ | refine call_N (h4) ?_ | refine call_of (h4) ?_ | refine callG_of (fun _ => h4) ?_ | refine call_N (h5) ?_ | refine call_of (h5) ?_ | refine callG_of (fun _ => h5) ?_ | refine call_N (h6) ?_ | refine call_of (h6) ?_ | refine callG_of (fun _ => h6) ?_ | (apply And.intro; focus (first | omega | (simp; done) | (simp +contextual; done) | (intros; and_intros <;> first | assumption | omega) | (intros; simp_all; done) | (intro hgd; refine ⟨hgd, ?_⟩; simp [hgd]; done) | (intro hgd; simp only [zgx] at hgd ⊢; omega))) | fail)
  all_goals skip
end Go.Proofs.Ytcngkeeknlloaaa
