/- Proved: the rules, kauditlaw16.DiagramRules returns true and its arguments read behind the call as they did before. Conditions: none. -/
import Derived.Test.YtcngkeeknlloaaaRowD
import Derived.Test.YtcngkeeknlloaaaGd
namespace Go.Proofs.Ytcngkeeknlloaaa.diagramRules
open Go.ChangeShapes Go.WideShapes Go.ChangeAt Go.RowKit Go.Lx
set_option linter.unusedSimpArgs false
set_option linter.unusedVariables false
set_option linter.unusedVariables false

theorem shapes : Try.f9.params.toList.mapM (shArg Try.prog) = some [(false, [.sl 8 [.int .i64]]), (false, [.int .i64])] := by kernel_rfl

set_option maxRecDepth 100000 in
theorem contract (H : Type) (enc : TypeId × Value → H) (W : World) (base : Nat) (args : Array Value) (ds gs : List (DataW H)) (before : List MemPlace)
    (hval : ∀ (j : Nat) t v, Try.f9.params[j]? = some t → args[j]? = some v → Value.okWide Try.prog W .any base t v)
    (hW : DataW.Whole enc Try.prog Try.f9.params.toList Rows.diagramRulesSpec.vars false W args.toList ds gs before) (hw : (DataW.weightsEach Try.prog (Try.f9.params.toList ++ []) (ds ++ gs)).all (· ≤ reachBytes) = true) (hL : laidMetH Try.prog Rows.diagramRulesRow.laid W) :
    Calls Try.prog 9 args W fun e W' => ∃ v, e = .returned v ∧ Rows.diagramRulesSpec.post enc Try.prog Try.f9 false true false false W args v W' := by
  refine law_of (tb := tyBool) rfl (by kernel_rfl) undBool laidOut (by kernel_rfl) shapes hval hW ?_ glob hw ?_
  · obtain ⟨p, q, hA, hV, _⟩ := hW
    rw [Try.params9] at hA
    obtain ⟨v0, vs0, d0, ds0, p0, q0, _, rfl, rfl, _, r0⟩ := trodAll_cons hA
    obtain ⟨v1, vs1, d1, ds1, p1, q1, _, rfl, rfl, _, r1⟩ := trodAll_cons r0
    obtain ⟨_, rfl, _⟩ := trodAll_nil r1
    obtain ⟨rfl, rfl⟩ := trodVars_none hV
    exact ⟨rfl, rfl, rfl⟩
  · intro l hl
    simp only [FitsAll, FitsA, FitsL, Fits] at hl
    obtain ⟨_, _, rfl, ⟨_, _, h0, ⟨rows0, rfl, len0, wt0, el0⟩, rfl⟩, _, _, rfl, ⟨_, _, h1, ⟨n1, rfl, w1⟩, rfl⟩, rfl⟩ := hl
    cases h0
    cases h1
    obtain ⟨l0, e0, g0, b0⟩ := rows_int el0
    rw [e0, ← g0]
    simp only [reachBytes] at wt0
    exact rulesL l0 n1 ⟨by omega, fun n hn => wf_i64 (b0 n hn), by omega, by omega⟩

theorem laid_met (os : Os) : laidMet Try.prog Rows.diagramRulesRow.laid ((laidWorld os).forCall (fun _ _ => 0) ⟨#[], #[.slice none 0 0, .int .i64 0], []⟩).memory := ⟨[], rfl, by simp, fun _ _ h => by cases h⟩
theorem reads (os : Os) {H : Type} (enc : TypeId × Value → H) : ∃ places, DataW.whole enc Try.prog ((laidWorld os).forCall (fun _ _ => 0) ⟨#[], #[.slice none 0 0, .int .i64 0], []⟩).memory Try.f9.params.toList Rows.diagramRulesSpec.vars false #[Value.slice none 0 0, .int .i64 0].toList 8 =
    some ([.nil, .lit (.int .i64 0)], [], places) :=
  ⟨[], by kernel_rfl⟩

set_option maxRecDepth 100000 in
theorem lifted (os : Os) (started : os.Started) (H : Type) (enc : TypeId × Value → H) (F : Stop.Interp) :
    ReturnsInHanded {} Try.checked os 9 .any ((OpenSpec.ofChange Rows.diagramRulesSpec).preRow enc Try.prog Try.f9 Rows.diagramRulesRow.domain false Rows.diagramRulesRow.laid) (((OpenSpec.ofChange Rows.diagramRulesSpec).at F).post enc Try.prog Try.f9 false true false false) := by
  obtain ⟨places, hx⟩ := reads os enc
  refine returnsInHanded_of_row (C := Try.checked) (s := OpenSpec.ofChange Rows.diagramRulesSpec) own started (by kernel_rfl) Try.func9
    (witness_row_at (enc := enc) (C := Try.checked) false (laidWorld os) #[.slice none 0 0, .int .i64 0] rfl (by kernel_rfl) (by kernel_rfl) (by kernel_rfl)
      (OpenSpec.preRow_of_cond 8 hx (by kernel_rfl) (fun k hk => by cases hk) (by kernel_rfl) (laid_met os))) ?_
  intro W base args ds gs before hval hW _ hc hw hL _ _
  exact contract H enc W base args ds gs before hval hW hw hL

theorem said : Rows.DiagramRulesSaid :=
  OpenClaim.holds_of_cond 9 Try.f9 rfl rfl rfl rfl rfl rfl rfl ⟨rfl, rfl, rfl, rfl, rfl⟩ rfl rfl rfl rfl rfl (by kernel_rfl) Try.func9 (by kernel_rfl)
    (of_decide_eq_true (by kernel_rfl)) (by unfold Func.isWrapper; first | (rw [if_pos (by decide +kernel)]; kernel_rfl) | (rw [if_neg (by decide +kernel)]; exact ⟨rfl, rfl⟩))
    (fun os started H enc _ F => by rw [OpenClaim.pre_eq_preRow]; exact lifted os started H enc F)

end Go.Proofs.Ytcngkeeknlloaaa.diagramRules
