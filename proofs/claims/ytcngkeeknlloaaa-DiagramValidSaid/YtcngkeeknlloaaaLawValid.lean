/- Proved: valid and changed diagrams, kauditlaw16.DiagramValid returns true and its arguments read behind the call as they did before. Conditions: none. -/
import Derived.Test.YtcngkeeknlloaaaRowD
import Derived.Test.YtcngkeeknlloaaaEf
namespace Go.Proofs.Ytcngkeeknlloaaa.diagramValid
open Go.ChangeShapes Go.WideShapes Go.ChangeAt Go.RowKit Go.Lx
set_option linter.unusedSimpArgs false
set_option linter.unusedVariables false
set_option linter.unusedVariables false

theorem shapes : Try.f6.params.toList.mapM (shArg Try.prog) = some [(true, [.sl 80 [.int .i64, .int .i64, .int .i64, .str, .int .i64, .int .i64, .str, .int .i64], .sl 24 [.int .i64, .int .i64, .int .i64], .int .i64]), (false, [.sl 8 [.int .i64]]), (false, [.sl 1 [.bool]])] := by kernel_rfl

set_option maxRecDepth 100000 in
theorem contract (H : Type) (enc : TypeId × Value → H) (W : World) (base : Nat) (args : Array Value) (ds gs : List (DataW H)) (before : List MemPlace)
    (hval : ∀ (j : Nat) t v, Try.f6.params[j]? = some t → args[j]? = some v → Value.okWide Try.prog W .any base t v)
    (hW : DataW.Whole enc Try.prog Try.f6.params.toList Rows.diagramValidSpec.vars false W args.toList ds gs before) (hw : (DataW.weightsEach Try.prog (Try.f6.params.toList ++ []) (ds ++ gs)).all (· ≤ reachBytes) = true) (hL : laidMetH Try.prog Rows.diagramValidRow.laid W) :
    Calls Try.prog 6 args W fun e W' => ∃ v, e = .returned v ∧ Rows.diagramValidSpec.post enc Try.prog Try.f6 false true false false W args v W' := by
  refine law_of (tb := tyBool) rfl (by kernel_rfl) undBool laidOut (by kernel_rfl) shapes hval hW ?_ glob hw ?_
  · obtain ⟨p, q, hA, hV, _⟩ := hW
    rw [Try.params6] at hA
    obtain ⟨v0, vs0, d0, ds0, p0, q0, _, rfl, rfl, _, r0⟩ := trodAll_cons hA
    obtain ⟨v1, vs1, d1, ds1, p1, q1, _, rfl, rfl, _, r1⟩ := trodAll_cons r0
    obtain ⟨v2, vs2, d2, ds2, p2, q2, _, rfl, rfl, _, r2⟩ := trodAll_cons r1
    obtain ⟨_, rfl, _⟩ := trodAll_nil r2
    obtain ⟨rfl, rfl⟩ := trodVars_none hV
    exact ⟨rfl, rfl, rfl⟩
  · intro l hl
    simp only [FitsAll, FitsA, FitsL, Fits] at hl
    obtain ⟨_, _, rfl, ⟨_, rfl, _, _, rfl, ⟨rows0_0, rfl, len0_0, wt0_0, el0_0⟩, _, _, rfl, ⟨rows0_1, rfl, len0_1, wt0_1, el0_1⟩, _, _, rfl, ⟨n0_2, rfl, w0_2⟩, rfl⟩, _, _, rfl, ⟨_, _, h1, ⟨rows1, rfl, len1, wt1, el1⟩, rfl⟩, _, _, rfl, ⟨_, _, h2, ⟨rows2, rfl, len2, wt2, el2⟩, rfl⟩, rfl⟩ := hl
    cases h1
    cases h2
    obtain ⟨tb, e0, g0⟩ := rows_at (B := maxLen) el0_0
    obtain ⟨ns, e1, g1, b1⟩ := rows_br (B := 0) el0_1
    obtain ⟨l1, e2, g2, b2⟩ := rows_int el1
    obtain ⟨l2, e3, g3⟩ := rows_bool el2
    rw [e0, ← g0, e1, ← g1, e2, ← g2, e3, ← g3]
    simp only [reachBytes] at wt0_0 wt0_1 wt1 wt2
    exact validL ⟨tb, ns, n0_2⟩ l1 l2 ⟨by omega, fun n hn => wf_i64 (b2 n hn), by omega, by omega⟩ (by dsimp only; omega) (by dsimp only; omega) b1 w0_2 (by omega)

theorem laid_met (os : Os) : laidMet Try.prog Rows.diagramValidRow.laid ((laidWorld os).forCall (fun _ _ => 0) ⟨#[], #[.agg #[.slice none 0 0, .slice none 0 0, .int .i64 0], .slice none 0 0, .slice none 0 0], []⟩).memory := ⟨[], rfl, by simp, fun _ _ h => by cases h⟩
theorem reads (os : Os) {H : Type} (enc : TypeId × Value → H) : ∃ places, DataW.whole enc Try.prog ((laidWorld os).forCall (fun _ _ => 0) ⟨#[], #[.agg #[.slice none 0 0, .slice none 0 0, .int .i64 0], .slice none 0 0, .slice none 0 0], []⟩).memory Try.f6.params.toList Rows.diagramValidSpec.vars false #[Value.agg #[.slice none 0 0, .slice none 0 0, .int .i64 0], .slice none 0 0, .slice none 0 0].toList 8 =
    some ([.agg [.nil, .nil, .lit (.int .i64 0)], .nil, .nil], [], places) :=
  ⟨[], by kernel_rfl⟩

set_option maxRecDepth 100000 in
theorem lifted (os : Os) (started : os.Started) (H : Type) (enc : TypeId × Value → H) (F : Stop.Interp) :
    ReturnsInHanded {} Try.checked os 6 .any ((OpenSpec.ofChange Rows.diagramValidSpec).preRow enc Try.prog Try.f6 Rows.diagramValidRow.domain false Rows.diagramValidRow.laid) (((OpenSpec.ofChange Rows.diagramValidSpec).at F).post enc Try.prog Try.f6 false true false false) := by
  obtain ⟨places, hx⟩ := reads os enc
  refine returnsInHanded_of_row (C := Try.checked) (s := OpenSpec.ofChange Rows.diagramValidSpec) own started (by kernel_rfl) Try.func6
    (witness_row_at (enc := enc) (C := Try.checked) false (laidWorld os) #[.agg #[.slice none 0 0, .slice none 0 0, .int .i64 0], .slice none 0 0, .slice none 0 0] rfl (by kernel_rfl) (by kernel_rfl) (by kernel_rfl)
      (OpenSpec.preRow_of_cond 8 hx (by kernel_rfl) (fun k hk => by cases hk) (by kernel_rfl) (laid_met os))) ?_
  intro W base args ds gs before hval hW _ hc hw hL _ _
  exact contract H enc W base args ds gs before hval hW hw hL

theorem said : Rows.DiagramValidSaid :=
  OpenClaim.holds_of_cond 6 Try.f6 rfl rfl rfl rfl rfl rfl rfl ⟨rfl, rfl, rfl, rfl, rfl⟩ rfl rfl rfl rfl rfl (by kernel_rfl) Try.func6 (by kernel_rfl)
    (of_decide_eq_true (by kernel_rfl)) (by unfold Func.isWrapper; first | (rw [if_pos (by decide +kernel)]; kernel_rfl) | (rw [if_neg (by decide +kernel)]; exact ⟨rfl, rfl⟩))
    (fun os started H enc _ F => by rw [OpenClaim.pre_eq_preRow]; exact lifted os started H enc F)

end Go.Proofs.Ytcngkeeknlloaaa.diagramValid
