/- Proved: for every list of numbers and every number, kauditlaw09.ProcessPlays returns true and its arguments read behind the call as they did before. Conditions: none. -/
import Derived.Test.YtkdblnejpmbnfaaGreatW09
import Derived.Test.YtkdblnejpmbnfaaGreatW20
namespace Go.Proofs.YtkdblnejpmbnfaaGreat.processPlays
open Go.ChangeShapes Go.WideShapes Go.ChangeAt Go.RowKit Go.Lx
set_option linter.unusedSimpArgs false
set_option linter.unusedVariables false
set_option linter.unusedVariables false
theorem shapes : Tryz.f5.params.toList.mapM (shArg Tryz.prog) = some [(false, [.sl 8 [.int .i64]]), (false, [.int .i64])] := by kernel_rfl
set_option maxRecDepth 100000 in
theorem contract (H : Type) (enc : TypeId × Value → H) (W : World) (base : Nat) (args : Array Value) (ds gs : List (DataW H)) (before : List MemPlace)
    (hval : ∀ (j : Nat) t v, Tryz.f5.params[j]? = some t → args[j]? = some v → Value.okWide Tryz.prog W .any base t v)
    (hW : DataW.Whole enc Tryz.prog Tryz.f5.params.toList Rows.processPlaysSpec.vars false W args.toList ds gs before) (hw : (DataW.weightsEach Tryz.prog (Tryz.f5.params.toList ++ []) (ds ++ gs)).all (· ≤ reachBytes) = true) (hL : laidMetH Tryz.prog Rows.processPlaysRow.laid W) :
    Calls Tryz.prog 5 args W fun e W' => ∃ v, e = .returned v ∧ Rows.processPlaysSpec.post enc Tryz.prog Tryz.f5 false true false false W args v W' := by
  refine law_of (tb := tyBool) (by kernel_rfl) rfl (by kernel_rfl) undBool laidOut (by kernel_rfl) shapes hval hW ?_ glob hw ?_
  · obtain ⟨p, q, hA, hV, _⟩ := hW
    rw [Tryz.params5] at hA
    obtain ⟨v0, vs0, d0, ds0, p0, q0, _, rfl, rfl, _, r0⟩ := trodAll_cons hA
    obtain ⟨v1, vs1, d1, ds1, p1, q1, _, rfl, rfl, _, r1⟩ := trodAll_cons r0
    obtain ⟨_, rfl, _⟩ := trodAll_nil r1
    obtain ⟨rfl, rfl⟩ := trodVars_none hV
    exact ⟨rfl, rfl, rfl⟩
  · intro l hl
    simp only [FitsAll, FitsA, FitsL, Fits] at hl
    obtain ⟨_, _, rfl, ⟨_, _, h0, ⟨rows0, rfl, len0, wt0, el0⟩, rfl⟩, _, _, rfl, ⟨_, _, h1, ⟨n1, rfl, w1⟩, rfl⟩, rfl⟩ := hl
    cases h0
    cases h1
    obtain ⟨l0, e0, g0, h0⟩ := rows_int el0
    rw [e0, ← g0]
    simp only [reachBytes] at wt0
    exact playsL l0 ⟨by omega, fun n hn => wf_i64 (h0 n hn), by omega, by omega⟩ _
theorem laid_met (os : Os) : laidMet Tryz.prog Rows.processPlaysRow.laid ((laidWorld os).forCall (fun _ _ => 0) ⟨#[], #[.slice none 0 0, .int .i64 0], []⟩).memory := ⟨[], rfl, by simp, fun _ _ h => by cases h⟩
theorem reads (os : Os) {H : Type} (enc : TypeId × Value → H) : ∃ places, DataW.whole enc Tryz.prog ((laidWorld os).forCall (fun _ _ => 0) ⟨#[], #[.slice none 0 0, .int .i64 0], []⟩).memory Tryz.f5.params.toList Rows.processPlaysSpec.vars false #[Value.slice none 0 0, .int .i64 0].toList 8 =
    some ([.nil, .lit (.int .i64 0)], [], places) :=
  ⟨[], by kernel_rfl⟩
set_option maxRecDepth 100000 in
theorem lifted (os : Os) (started : os.Started) (H : Type) (enc : TypeId × Value → H) (F : Stop.Interp) :
    ReturnsInHanded {} Tryz.checked os 5 .any ((OpenSpec.ofChange Rows.processPlaysSpec).preRow enc Tryz.prog Tryz.f5 Rows.processPlaysRow.domain false Rows.processPlaysRow.laid) (((OpenSpec.ofChange Rows.processPlaysSpec).at F).post enc Tryz.prog Tryz.f5 false true false false) := by
  obtain ⟨places, hx⟩ := reads os enc
  refine returnsInHanded_of_row (C := Tryz.checked) (s := OpenSpec.ofChange Rows.processPlaysSpec) own started (by kernel_rfl) Tryz.func5
    (witness_row_at (enc := enc) (C := Tryz.checked) false (laidWorld os) #[.slice none 0 0, .int .i64 0] rfl (by kernel_rfl) (by kernel_rfl) (by kernel_rfl)
      (OpenSpec.preRow_of_cond 8 hx (by kernel_rfl) (fun k hk => by cases hk) (by kernel_rfl) (laid_met os))) ?_
  intro W base args ds gs before hval hW _ hc hw hL _ _
  exact contract H enc W base args ds gs before hval hW hw hL
theorem said : Rows.ProcessPlaysSaid :=
  OpenClaim.holds_of_cond 5 Tryz.f5 rfl rfl rfl rfl rfl rfl rfl ⟨rfl, rfl, rfl, rfl, rfl⟩ rfl rfl rfl rfl rfl (by kernel_rfl) Tryz.func5 (by kernel_rfl)
    (of_decide_eq_true (by kernel_rfl)) (by unfold Func.isWrapper; first | (rw [if_pos (by decide +kernel)]; kernel_rfl) | (rw [if_neg (by decide +kernel)]; exact ⟨rfl, rfl⟩))
    (fun os started H enc _ F => by rw [OpenClaim.pre_eq_preRow]; exact lifted os started H enc F)
end Go.Proofs.YtkdblnejpmbnfaaGreat.processPlays
