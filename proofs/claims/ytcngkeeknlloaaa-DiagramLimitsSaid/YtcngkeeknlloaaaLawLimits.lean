/- Proved: the limits, kauditlaw16.DiagramLimits returns true and its arguments read behind the call as they did before. Conditions: none. -/
import Derived.Test.YtcngkeeknlloaaaRowD
import Derived.Test.YtcngkeeknlloaaaDi
namespace Go.Proofs.Ytcngkeeknlloaaa.diagramLimits
open Go.ChangeShapes Go.WideShapes Go.ChangeAt Go.RowKit Go.Lx
set_option linter.unusedSimpArgs false
set_option linter.unusedVariables false
set_option linter.unusedVariables false

theorem shapes : Try.f5.params.toList.mapM (shArg Try.prog) = some [(false, [.int .u8]), (false, [.int .u8])] := by kernel_rfl

set_option maxRecDepth 100000 in
theorem contract (H : Type) (enc : TypeId × Value → H) (W : World) (base : Nat) (args : Array Value) (ds gs : List (DataW H)) (before : List MemPlace)
    (hval : ∀ (j : Nat) t v, Try.f5.params[j]? = some t → args[j]? = some v → Value.okWide Try.prog W .any base t v)
    (hW : DataW.Whole enc Try.prog Try.f5.params.toList Rows.diagramLimitsSpec.vars false W args.toList ds gs before) (hw : (DataW.weightsEach Try.prog (Try.f5.params.toList ++ []) (ds ++ gs)).all (· ≤ reachBytes) = true) (hL : laidMetH Try.prog Rows.diagramLimitsRow.laid W) :
    Calls Try.prog 5 args W fun e W' => ∃ v, e = .returned v ∧ Rows.diagramLimitsSpec.post enc Try.prog Try.f5 false true false false W args v W' := by
  refine law_of (tb := tyBool) rfl (by kernel_rfl) undBool laidOut (by kernel_rfl) shapes hval hW ?_ glob hw ?_
  · obtain ⟨p, q, hA, hV, _⟩ := hW
    rw [Try.params5] at hA
    obtain ⟨v0, vs0, d0, ds0, p0, q0, _, rfl, rfl, _, r0⟩ := trodAll_cons hA
    obtain ⟨v1, vs1, d1, ds1, p1, q1, _, rfl, rfl, _, r1⟩ := trodAll_cons r0
    obtain ⟨_, rfl, _⟩ := trodAll_nil r1
    obtain ⟨rfl, rfl⟩ := trodVars_none hV
    exact ⟨rfl, rfl, rfl⟩
  · intro l hl
    simp only [FitsAll, FitsA, FitsL, Fits] at hl
    obtain ⟨_, _, rfl, ⟨_, _, h0, ⟨n0, rfl, w0⟩, rfl⟩, _, _, rfl, ⟨_, _, h1, ⟨n1, rfl, w1⟩, rfl⟩, rfl⟩ := hl
    cases h0
    cases h1
    exact limC n0 n1 (wf_u8 w0) (wf_u8 w1)

theorem laid_met (os : Os) : laidMet Try.prog Rows.diagramLimitsRow.laid ((laidWorld os).forCall (fun _ _ => 0) ⟨#[], #[.int .u8 0, .int .u8 0], []⟩).memory := ⟨[], rfl, by simp, fun _ _ h => by cases h⟩
theorem reads (os : Os) {H : Type} (enc : TypeId × Value → H) : ∃ places, DataW.whole enc Try.prog ((laidWorld os).forCall (fun _ _ => 0) ⟨#[], #[.int .u8 0, .int .u8 0], []⟩).memory Try.f5.params.toList Rows.diagramLimitsSpec.vars false #[Value.int .u8 0, .int .u8 0].toList 8 =
    some ([.lit (.int .u8 0), .lit (.int .u8 0)], [], places) :=
  ⟨[], by kernel_rfl⟩

set_option maxRecDepth 100000 in
theorem lifted (os : Os) (started : os.Started) (H : Type) (enc : TypeId × Value → H) (F : Stop.Interp) :
    ReturnsInHanded {} Try.checked os 5 .any ((OpenSpec.ofChange Rows.diagramLimitsSpec).preRow enc Try.prog Try.f5 Rows.diagramLimitsRow.domain false Rows.diagramLimitsRow.laid) (((OpenSpec.ofChange Rows.diagramLimitsSpec).at F).post enc Try.prog Try.f5 false true false false) := by
  obtain ⟨places, hx⟩ := reads os enc
  refine returnsInHanded_of_row (C := Try.checked) (s := OpenSpec.ofChange Rows.diagramLimitsSpec) own started (by kernel_rfl) Try.func5
    (witness_row_at (enc := enc) (C := Try.checked) false (laidWorld os) #[.int .u8 0, .int .u8 0] rfl (by kernel_rfl) (by kernel_rfl) (by kernel_rfl)
      (OpenSpec.preRow_of_cond 8 hx (by kernel_rfl) (fun k hk => by cases hk) (by kernel_rfl) (laid_met os))) ?_
  intro W base args ds gs before hval hW _ hc hw hL _ _
  exact contract H enc W base args ds gs before hval hW hw hL

theorem said : Rows.DiagramLimitsSaid :=
  OpenClaim.holds_of_cond 5 Try.f5 rfl rfl rfl rfl rfl rfl rfl ⟨rfl, rfl, rfl, rfl, rfl⟩ rfl rfl rfl rfl rfl (by kernel_rfl) Try.func5 (by kernel_rfl)
    (of_decide_eq_true (by kernel_rfl)) (by unfold Func.isWrapper; first | (rw [if_pos (by decide +kernel)]; kernel_rfl) | (rw [if_neg (by decide +kernel)]; exact ⟨rfl, rfl⟩))
    (fun os started H enc _ F => by rw [OpenClaim.pre_eq_preRow]; exact lifted os started H enc F)

end Go.Proofs.Ytcngkeeknlloaaa.diagramLimits
