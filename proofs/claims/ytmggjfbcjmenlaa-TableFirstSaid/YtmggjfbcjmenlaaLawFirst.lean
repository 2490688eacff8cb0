/- Proved: for every index, every list of numbers and every number, kauditlaw15.TableFirst returns true and its arguments read behind the call as they did before. Conditions: none. -/
import Derived.Test.YtmggjfbcjmenlaaRowD
import Derived.Test.YtmggjfbcjmenlaaTg
import Derived.Test.YtmggjfbcjmenlaaTm
namespace Go.Proofs.Ytmggjfbcjmenlaa.tableFirst
open Go.ChangeShapes Go.WideShapes Go.ChangeAt Go.RowKit Go.Lx
set_option linter.unusedSimpArgs false
set_option linter.unusedVariables false
set_option linter.unusedVariables false
set_option maxRecDepth 100000

theorem shapes : Try.f7.params.toList.mapM (shArg Try.prog) = some [(true, [.int .u64, .sl 24 [.sl 8 [.int .i64]]]), (false, [.sl 8 [.int .i64]]), (false, [.int .i64])] := by kernel_rfl

theorem contract (H : Type) (enc : TypeId × Value → H) (W : World) (base : Nat) (args : Array Value) (ds gs : List (DataW H)) (before : List MemPlace)
    (hval : ∀ (j : Nat) t v, Try.f7.params[j]? = some t → args[j]? = some v → Value.okWide Try.prog W .any base t v)
    (hW : DataW.Whole enc Try.prog Try.f7.params.toList Rows.tableFirstSpec.vars false W args.toList ds gs before) (hw : (DataW.weightsEach Try.prog (Try.f7.params.toList ++ []) (ds ++ gs)).all (· ≤ reachBytes) = true) (hL : laidMetH Try.prog Rows.tableFirstRow.laid W) :
    Calls Try.prog 7 args W fun e W' => ∃ v, e = .returned v ∧ Rows.tableFirstSpec.post enc Try.prog Try.f7 false true false false W args v W' := by
  refine law_of (tb := tyBool) rfl (by kernel_rfl) undBool laidOut (by kernel_rfl) shapes hval hW ?_ glob hw ?_
  · obtain ⟨p, q, hA, hV, _⟩ := hW
    rw [Try.params7] at hA
    obtain ⟨v0, vs0, d0, ds0, p0, q0, _, rfl, rfl, _, r0⟩ := trodAll_cons hA
    obtain ⟨v1, vs1, d1, ds1, p1, q1, _, rfl, rfl, _, r1⟩ := trodAll_cons r0
    obtain ⟨v2, vs2, d2, ds2, p2, q2, _, rfl, rfl, _, r2⟩ := trodAll_cons r1
    obtain ⟨_, rfl, _⟩ := trodAll_nil r2
    obtain ⟨rfl, rfl⟩ := trodVars_none hV
    exact ⟨rfl, rfl, rfl⟩
  · intro l hl
    simp only [FitsAll, FitsA, FitsL, Fits] at hl
    obtain ⟨_, _, rfl, ⟨_, rfl, _, _, rfl, ⟨n0_0, rfl, w0_0⟩, _, _, rfl, ⟨rows0_1, rfl, len0_1, wt0_1, el0_1⟩, rfl⟩, _, _, rfl, ⟨_, _, h1, ⟨rows1, rfl, len1, wt1, el1⟩, rfl⟩, _, _, rfl, ⟨_, _, h2, ⟨n2, rfl, w2⟩, rfl⟩, rfl⟩ := hl
    cases h1
    cases h2
    obtain ⟨rs, e, g, hr⟩ := rows_is (B := maxLen) el0_1
    rw [e, ← g]
    obtain ⟨l0, e0, g0, h0⟩ := rows_int el1
    rw [e0, ← g0]
    simp only [reachBytes] at wt1
    exact firstL _ rs l0 n2 hr ⟨by omega, fun n hn => wf_i64 (h0 n hn), by omega, by omega⟩

theorem laid_met (os : Os) : laidMet Try.prog Rows.tableFirstRow.laid ((laidWorld os).forCall (fun _ _ => 0) ⟨#[], #[.agg #[.int .u64 0, .slice none 0 0], .slice none 0 0, .int .i64 0], []⟩).memory := ⟨[], rfl, by simp, fun _ _ h => by cases h⟩
theorem reads (os : Os) {H : Type} (enc : TypeId × Value → H) : ∃ places, DataW.whole enc Try.prog ((laidWorld os).forCall (fun _ _ => 0) ⟨#[], #[.agg #[.int .u64 0, .slice none 0 0], .slice none 0 0, .int .i64 0], []⟩).memory Try.f7.params.toList Rows.tableFirstSpec.vars false #[Value.agg #[.int .u64 0, .slice none 0 0], .slice none 0 0, .int .i64 0].toList 8 =
    some ([.agg [.lit (.int .u64 0), .nil], .nil, .lit (.int .i64 0)], [], places) :=
  ⟨[], by kernel_rfl⟩

set_option maxRecDepth 100000 in
theorem lifted (os : Os) (started : os.Started) (H : Type) (enc : TypeId × Value → H) (F : Stop.Interp) :
    ReturnsInHanded {} Try.checked os 7 .any ((OpenSpec.ofChange Rows.tableFirstSpec).preRow enc Try.prog Try.f7 Rows.tableFirstRow.domain false Rows.tableFirstRow.laid) (((OpenSpec.ofChange Rows.tableFirstSpec).at F).post enc Try.prog Try.f7 false true false false) := by
  obtain ⟨places, hx⟩ := reads os enc
  refine returnsInHanded_of_row (C := Try.checked) (s := OpenSpec.ofChange Rows.tableFirstSpec) own started (by kernel_rfl) Try.func7
    (witness_row_at (enc := enc) (C := Try.checked) false (laidWorld os) #[.agg #[.int .u64 0, .slice none 0 0], .slice none 0 0, .int .i64 0] rfl (by kernel_rfl) (by kernel_rfl) (by kernel_rfl)
      (OpenSpec.preRow_of_cond 8 hx (by kernel_rfl) (fun k hk => by cases hk) (by kernel_rfl) (laid_met os))) ?_
  intro W base args ds gs before hval hW _ hc hw hL _ _
  exact contract H enc W base args ds gs before hval hW hw hL

theorem said : Rows.TableFirstSaid :=
  OpenClaim.holds_of_cond 7 Try.f7 rfl rfl rfl rfl rfl rfl rfl ⟨rfl, rfl, rfl, rfl, rfl⟩ rfl rfl rfl rfl rfl (by kernel_rfl) Try.func7 (by kernel_rfl)
    (of_decide_eq_true (by kernel_rfl)) (by unfold Func.isWrapper; first | (rw [if_pos (by decide +kernel)]; kernel_rfl) | (rw [if_neg (by decide +kernel)]; exact ⟨rfl, rfl⟩))
    (fun os started H enc _ F => by rw [OpenClaim.pre_eq_preRow]; exact lifted os started H enc F)

end Go.Proofs.Ytmggjfbcjmenlaa.tableFirst
