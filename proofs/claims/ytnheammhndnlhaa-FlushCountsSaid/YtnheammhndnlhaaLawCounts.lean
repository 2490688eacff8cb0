/- Proved: for every list of bytes, mode, state and time, kauditlaw28.FlushCounts returns true and its arguments read behind the call as they did before. Conditions: none. -/
import Derived.Test.YtnheammhndnlhaaRowD
import Derived.Test.YtnheammhndnlhaaLwCounts
namespace Go.Proofs.Ytnheammhndnlhaa.flushCounts
open Go.ChangeShapes Go.WideShapes Go.ChangeAt Go.RowKit Go.Lx
set_option linter.unusedSimpArgs false
set_option linter.unusedVariables false
set_option linter.unusedVariables false

theorem shapes : Try.f4.params.toList.mapM (shArg Try.prog) = some [(false, [.sl [.int .u8]]), (true, [.int .i64, .int .i64]), (true, [.int .i64, .int .i64]), (false, [.int .i64])] := by kernel_rfl

theorem contract (H : Type) (enc : TypeId × Value → H) (W : World) (base : Nat) (args : Array Value) (ds gs : List (DataW H)) (before : List MemPlace)
    (hval : ∀ (j : Nat) t v, Try.f4.params[j]? = some t → args[j]? = some v → Value.okWide Try.prog W .any base t v)
    (hW : DataW.Whole enc Try.prog Try.f4.params.toList Rows.flushCountsSpec.vars false W args.toList ds gs before) (hL : laidMetH Try.prog Rows.flushCountsRow.laid W) :
    Calls Try.prog 4 args W fun e W' => ∃ v, e = .returned v ∧ Rows.flushCountsSpec.post enc Try.prog Try.f4 false true false false W args v W' := by
  refine law_of (tb := tyBool) rfl (by kernel_rfl) undBool laidOut (by kernel_rfl) shapes hval hW ?_ glob ?_
  · obtain ⟨p, q, hA, hV, _⟩ := hW
    rw [Try.params4] at hA
    obtain ⟨v0, vs0, d0, ds0, p0, q0, _, rfl, rfl, _, r0⟩ := trodAll_cons hA
    obtain ⟨v1, vs1, d1, ds1, p1, q1, _, rfl, rfl, _, r1⟩ := trodAll_cons r0
    obtain ⟨v2, vs2, d2, ds2, p2, q2, _, rfl, rfl, _, r2⟩ := trodAll_cons r1
    obtain ⟨v3, vs3, d3, ds3, p3, q3, _, rfl, rfl, _, r3⟩ := trodAll_cons r2
    obtain ⟨_, rfl, _⟩ := trodAll_nil r3
    obtain ⟨rfl, rfl⟩ := trodVars_none hV
    exact ⟨rfl, rfl, rfl⟩
  · intro l hl
    simp only [FitsAll, FitsA, FitsL, Fits] at hl
    obtain ⟨_, _, rfl, ⟨_, _, h0, ⟨rows0, rfl, len0, el0⟩, rfl⟩, _, _, rfl, ⟨_, rfl, _, _, rfl, ⟨n1_0, rfl, w1_0⟩, _, _, rfl, ⟨n1_1, rfl, w1_1⟩, rfl⟩, _, _, rfl, ⟨_, rfl, _, _, rfl, ⟨n2_0, rfl, w2_0⟩, _, _, rfl, ⟨n2_1, rfl, w2_1⟩, rfl⟩, _, _, rfl, ⟨_, _, h3, ⟨n3, rfl, w3⟩, rfl⟩, rfl⟩ := hl
    cases h0
    cases h3
    obtain ⟨l0, e0, g0, h0⟩ := rows_int el0
    rw [e0, ← g0]
    exact countsL l0 (fun n hn => wf_u8 (h0 n hn)) _ _ _ _ _ (wf_i64 w2_1) (wf_i64 w3)

theorem laid_met (os : Os) : laidMet Try.prog Rows.flushCountsRow.laid ((laidWorld os).forCall (fun _ _ => 0) ⟨#[], #[.slice none 0 0, .agg #[.int .i64 0, .int .i64 0], .agg #[.int .i64 0, .int .i64 0], .int .i64 0], []⟩).memory := ⟨[], rfl, by simp, fun _ _ h => by cases h⟩
theorem reads (os : Os) {H : Type} (enc : TypeId × Value → H) : ∃ places, DataW.whole enc Try.prog ((laidWorld os).forCall (fun _ _ => 0) ⟨#[], #[.slice none 0 0, .agg #[.int .i64 0, .int .i64 0], .agg #[.int .i64 0, .int .i64 0], .int .i64 0], []⟩).memory Try.f4.params.toList Rows.flushCountsSpec.vars false #[Value.slice none 0 0, .agg #[.int .i64 0, .int .i64 0], .agg #[.int .i64 0, .int .i64 0], .int .i64 0].toList 8 =
    some ([.nil, .agg [.lit (.int .i64 0), .lit (.int .i64 0)], .agg [.lit (.int .i64 0), .lit (.int .i64 0)], .lit (.int .i64 0)], [], places) :=
  ⟨[], by kernel_rfl⟩

set_option maxRecDepth 100000 in
theorem lifted (os : Os) (started : os.Started) (H : Type) (enc : TypeId × Value → H) (F : Stop.Interp) :
    ReturnsInHanded {} Try.checked os 4 .any ((OpenSpec.ofChange Rows.flushCountsSpec).preRow enc Try.prog Try.f4 Rows.flushCountsRow.domain false Rows.flushCountsRow.laid) (((OpenSpec.ofChange Rows.flushCountsSpec).at F).post enc Try.prog Try.f4 false true false false) := by
  obtain ⟨places, hx⟩ := reads os enc
  refine returnsInHanded_of_row (C := Try.checked) (s := OpenSpec.ofChange Rows.flushCountsSpec) own started (by kernel_rfl) Try.func4
    (witness_row_at (enc := enc) (C := Try.checked) false (laidWorld os) #[.slice none 0 0, .agg #[.int .i64 0, .int .i64 0], .agg #[.int .i64 0, .int .i64 0], .int .i64 0] rfl (by kernel_rfl) (by kernel_rfl) (by kernel_rfl)
      (OpenSpec.preRow_of_cond 8 hx (by kernel_rfl) (fun k hk => by cases hk) (by kernel_rfl) (laid_met os))) ?_
  intro W base args ds gs before hval hW _ _ _ hL _ _
  exact contract H enc W base args ds gs before hval hW hL

theorem said : Rows.FlushCountsSaid :=
  OpenClaim.holds_of_cond 4 Try.f4 rfl rfl rfl rfl rfl rfl rfl ⟨rfl, rfl, rfl, rfl, rfl⟩ rfl rfl rfl rfl rfl (by kernel_rfl) Try.func4 (by kernel_rfl)
    (of_decide_eq_true (by kernel_rfl)) (by unfold Func.isWrapper; first | (rw [if_pos (by decide +kernel)]; kernel_rfl) | (rw [if_neg (by decide +kernel)]; exact ⟨rfl, rfl⟩))
    (fun os started H enc _ F => by rw [OpenClaim.pre_eq_preRow]; exact lifted os started H enc F)

end Go.Proofs.Ytnheammhndnlhaa.flushCounts
