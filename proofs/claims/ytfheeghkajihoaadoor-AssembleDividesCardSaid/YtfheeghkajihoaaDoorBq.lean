/- Layer 22: awake (the laws). -/
import Derived.Test.YtfheeghkajihoaaDoorBp
namespace Go.Proofs.YtfheeghkajihoaaDoor
open Go Go.Lx
set_option linter.unusedSimpArgs false
set_option linter.unusedVariables false
set_option maxRecDepth 100000
set_option maxHeartbeats 4000000

def as0 (bo : Int) : As := ⟨bo, 1, 0, [], [], [], 0⟩
theorem okA0 (bo : Int) : okA (as0 bo) 0 := ⟨Nat.le_refl _, fun e he => absurd he (by simp [as0]), Nat.le_refl _, fun x hx => absurd hx (by simp [as0]), fun x hx => absurd hx (by simp [as0]), by simp [as0], by simp [as0], by simp [as0], by simp [as0]⟩
def l4 : List Rc := [⟨1300, 0, 2, []⟩, ⟨1300, 0, 1, []⟩, ⟨1320, 0, 2, []⟩, ⟨1320, 0, 1, []⟩]
theorem out4 : (feedS (as0 3) l4).2 = [⟨3, 1, 0, [⟨1300, 0, 1, []⟩, ⟨1320, 0, 1, []⟩], true⟩, ⟨3, 2, 0, [⟨1300, 0, 2, []⟩, ⟨1320, 0, 2, []⟩], true⟩] := by kernel_rfl
theorem z16 : zeros ([.int .i64 0, .int .i64 0, .int .i64 0, .fsl 1 0 []] : List LV) 16 = [.int .i64 0, .int .i64 0, .int .i64 0, .fsl 1 0 [], .int .i64 0, .int .i64 0, .int .i64 0, .fsl 1 0 [], .int .i64 0, .int .i64 0, .int .i64 0, .fsl 1 0 [], .int .i64 0, .int .i64 0, .int .i64 0, .fsl 1 0 []] := Eq.trans rfl rfl
theorem awake : Pure Tryd.prog gl 9 [] (.bool true) := by
  refine fn_viewT Tryd.func9 t9 Tryd.ntmps9 (by simp) ?_
  have hn := new 3
  have hf := LCalls.args (args' := [.agg (AsC (as0 3)), .fsl 4 4 [.int .i64 1300, .int .i64 0, .int .i64 2, .fsl 1 0 [], .int .i64 1300, .int .i64 0, .int .i64 1, .fsl 1 0 [], .int .i64 1320, .int .i64 0, .int .i64 2, .fsl 1 0 [], .int .i64 1320, .int .i64 0, .int .i64 1, .fsl 1 0 []]]) (feed (as0 3) 0 (okA0 3) l4 (by simp [l4]) (by simp [l4])) ⟨leV.refl _, (leV.fsl_sl _ _ _).trans (leV.sl ⟨leV.refl _, leV.refl _, leV.refl _, leV.nil_sl _ _, leV.refl _, leV.refl _, leV.refl _, leV.nil_sl _ _, leV.refl _, leV.refl _, leV.refl _, leV.nil_sl _ _, leV.refl _, leV.refl _, leV.refl _, leV.nil_sl _ _, trivial⟩), trivial⟩
  rw [out4] at hf
  generalize (feedS (as0 3) l4).1 = A at *
  unfold c9 r9
  simp only [as0, AsC_eq, RcC_eq, EvC_eq, List.flatMap_cons, List.flatMap_nil, List.cons_append, List.nil_append, List.append_nil, List.length_cons, List.length_nil, Nat.zero_add, Nat.reduceAdd] at hn hf
  repeat' (first | (simp (disch := first | omega | (simp only [List.length_cons, List.length_nil]; first | done | omega)) only [go_sem, Nat.reduceAdd, Nat.reduceMul, Nat.reduceSub, Nat.reduceEqDiff, Nat.reduceLeDiff, Nat.reduceMod, Nat.reduceLT, Int.reduceToNat, Int.reduceAdd, Int.reduceSub, Int.reduceMul, Int.reduceNeg, Int.reduceLE, Int.reduceLT, Int.reduceNe, Int.reduceEq, Int.reduceBEq, Int.reduceBNe, Int.reduceTMod, Int.reduceTDiv, Nat.reduceBEq, z16]) | (refine allI (fun b => ?_)) | (refine allT (fun τ => ?_)) | (refine brP (fun h => ?_) (fun h => ?_) <;> (try simp only [zgx, zbx] at h)) | refine call_U (hn) ?_ | refine callG_U (fun _ => hn) ?_ | refine call_T (hn) ?_ | refine callG_T (fun _ => hn) ?_ | refine call_U (hf) ?_ | refine callG_U (fun _ => hf) ?_ | refine call_T (hf) ?_ | refine callG_T (fun _ => hf) ?_ | refine call_N (hn) ?_ | refine call_of (hn) ?_ | refine callG_of (fun _ => hn) ?_ | refine call_N (hf) ?_ | refine call_of (hf) ?_ | refine callG_of (fun _ => hf) ?_ | (apply And.intro; focus (first | omega | (simp; done) | (simp +contextual; done) | (intros; and_intros <;> first | assumption | omega) | (intros; simp_all; done) | (intro hgd; refine ⟨hgd, ?_⟩; simp [hgd]; done) | (intro hgd; simp only [zgx] at hgd ⊢; omega))) | fail)
  exact view_sub (leV.refl _) (List.nil_sublist _)
end Go.Proofs.YtfheeghkajihoaaDoor
