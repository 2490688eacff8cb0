/- Proved: for every file, kauditlaw09.ProcessNew returns true and its arguments read behind the call as they did before. Conditions: none. -/
import Derived.Test.YtkdblnejpmbnfaaRowD
import Derived.Test.YtkdblnejpmbnfaaPj
namespace Go.Proofs.Ytkdblnejpmbnfaa.processNew
open Go.ChangeShapes Go.WideShapes Go.ChangeAt Go.RowKit Go.Lx
set_option linter.unusedSimpArgs false
set_option linter.unusedVariables false
set_option linter.unusedVariables false
set_option maxRecDepth 100000

theorem shapes : Try.f5.params.toList.mapM (shArg Try.prog) = some [(true, [.int .i64, .int .i64])] := by kernel_rfl

theorem contract (H : Type) (enc : TypeId × Value → H) (W : World) (base : Nat) (args : Array Value) (ds gs : List (DataW H)) (before : List MemPlace)
    (hval : ∀ (j : Nat) t v, Try.f5.params[j]? = some t → args[j]? = some v → Value.okWide Try.prog W .any base t v)
    (hW : DataW.Whole enc Try.prog Try.f5.params.toList Rows.processNewSpec.vars false W args.toList ds gs before) (hw : (DataW.weightsEach Try.prog (Try.f5.params.toList ++ []) (ds ++ gs)).all (· ≤ reachBytes) = true) (hL : laidMetH Try.prog Rows.processNewRow.laid W) :
    Calls Try.prog 5 args W fun e W' => ∃ v, e = .returned v ∧ Rows.processNewSpec.post enc Try.prog Try.f5 false true false false W args v W' := by
  refine law_of (tb := tyBool) rfl (by kernel_rfl) undBool laidOut (by kernel_rfl) shapes hval hW ?_ glob hw ?_
  · obtain ⟨p, q, hA, hV, _⟩ := hW
    rw [Try.params5] at hA
    obtain ⟨v0, vs0, d0, ds0, p0, q0, _, rfl, rfl, _, r0⟩ := trodAll_cons hA
    obtain ⟨_, rfl, _⟩ := trodAll_nil r0
    obtain ⟨rfl, rfl⟩ := trodVars_none hV
    exact ⟨rfl, rfl, rfl⟩
  · intro l hl
    simp only [FitsAll, FitsA, FitsL, Fits] at hl
    obtain ⟨_, _, rfl, ⟨_, rfl, _, _, rfl, ⟨n0_0, rfl, w0_0⟩, _, _, rfl, ⟨n0_1, rfl, w0_1⟩, rfl⟩, rfl⟩ := hl
    exact newL n0_0 n0_1

theorem laid_met (os : Os) : laidMet Try.prog Rows.processNewRow.laid ((laidWorld os).forCall (fun _ _ => 0) ⟨#[], #[.agg #[.int .i64 0, .int .i64 0]], []⟩).memory := ⟨[], rfl, by simp, fun _ _ h => by cases h⟩
theorem reads (os : Os) {H : Type} (enc : TypeId × Value → H) : ∃ places, DataW.whole enc Try.prog ((laidWorld os).forCall (fun _ _ => 0) ⟨#[], #[.agg #[.int .i64 0, .int .i64 0]], []⟩).memory Try.f5.params.toList Rows.processNewSpec.vars false #[Value.agg #[.int .i64 0, .int .i64 0]].toList 8 =
    some ([.agg [.lit (.int .i64 0), .lit (.int .i64 0)]], [], places) :=
  ⟨[], by kernel_rfl⟩

set_option maxRecDepth 100000 in
theorem lifted (os : Os) (started : os.Started) (H : Type) (enc : TypeId × Value → H) (F : Stop.Interp) :
    ReturnsInHanded {} Try.checked os 5 .any ((OpenSpec.ofChange Rows.processNewSpec).preRow enc Try.prog Try.f5 Rows.processNewRow.domain false Rows.processNewRow.laid) (((OpenSpec.ofChange Rows.processNewSpec).at F).post enc Try.prog Try.f5 false true false false) := by
  obtain ⟨places, hx⟩ := reads os enc
  refine returnsInHanded_of_row (C := Try.checked) (s := OpenSpec.ofChange Rows.processNewSpec) own started (by kernel_rfl) Try.func5
    (witness_row_at (enc := enc) (C := Try.checked) false (laidWorld os) #[.agg #[.int .i64 0, .int .i64 0]] rfl (by kernel_rfl) (by kernel_rfl) (by kernel_rfl)
      (OpenSpec.preRow_of_cond 8 hx (by kernel_rfl) (fun k hk => by cases hk) (by kernel_rfl) (laid_met os))) ?_
  intro W base args ds gs before hval hW _ hc hw hL _ _
  exact contract H enc W base args ds gs before hval hW hw hL

theorem said : Rows.ProcessNewSaid :=
  OpenClaim.holds_of_cond 5 Try.f5 rfl rfl rfl rfl rfl rfl rfl ⟨rfl, rfl, rfl, rfl, rfl⟩ rfl rfl rfl rfl rfl (by kernel_rfl) Try.func5 (by kernel_rfl)
    (of_decide_eq_true (by kernel_rfl)) (by unfold Func.isWrapper; first | (rw [if_pos (by decide +kernel)]; kernel_rfl) | (rw [if_neg (by decide +kernel)]; exact ⟨rfl, rfl⟩))
    (fun os started H enc _ F => by rw [OpenClaim.pre_eq_preRow]; exact lifted os started H enc F)

end Go.Proofs.Ytkdblnejpmbnfaa.processNew
