/- Proved: for every list of bytes, thresholds, level and number of free bytes, kauditlaw27.SpaceLooks returns true and its arguments read behind the call as they did before. Conditions: the package-level tables hold what their own initialisers lay (tied to the program's text by the card). -/
import Derived.Test.YtphjbikodkomnaaDoorSpD
import Derived.Test.YtphjbikodkomnaaDoorLw
namespace Go.Proofs.YtphjbikodkomnaaDoor.spaceLooks
open Go.ChangeShapes Go.WideShapes Go.ChangeAt Go.RowKit Go.Lx
set_option linter.unusedSimpArgs false
set_option linter.unusedVariables false
set_option linter.unusedVariables false

theorem shapes : Tryd.f3.params.toList.mapM (shArg Tryd.prog) = some [(false, [.sl [.int .u8]]), (true, [.int .i64, .int .i64, .int .i64, .int .i64, .int .i64, .int .i64]), (false, [.int .i64]), (false, [.int .i64])] := by kernel_rfl

theorem contract (H : Type) (enc : TypeId × Value → H) (W : World) (base : Nat) (args : Array Value) (ds gs : List (DataW H)) (before : List MemPlace)
    (hval : ∀ (j : Nat) t v, Tryd.f3.params[j]? = some t → args[j]? = some v → Value.okWide Tryd.prog W .any base t v)
    (hW : DataW.Whole enc Tryd.prog Tryd.f3.params.toList Rows.spaceLooksSpec.vars false W args.toList ds gs before) (hL : laidMetH Tryd.prog Rows.spaceLooksRow.laid W) :
    Calls Tryd.prog 3 args W fun e W' => ∃ v, e = .returned v ∧ Rows.spaceLooksSpec.post enc Tryd.prog Tryd.f3 false true false false W args v W' := by
  refine law_of (tb := tyBool) rfl (by kernel_rfl) undBool laidOut (by kernel_rfl) shapes hval hW ?_ (glob hL) ?_
  · obtain ⟨p, q, hA, hV, _⟩ := hW
    rw [Tryd.params3] at hA
    obtain ⟨v0, vs0, d0, ds0, p0, q0, _, rfl, rfl, _, r0⟩ := trodAll_cons hA
    obtain ⟨v1, vs1, d1, ds1, p1, q1, _, rfl, rfl, _, r1⟩ := trodAll_cons r0
    obtain ⟨v2, vs2, d2, ds2, p2, q2, _, rfl, rfl, _, r2⟩ := trodAll_cons r1
    obtain ⟨v3, vs3, d3, ds3, p3, q3, _, rfl, rfl, _, r3⟩ := trodAll_cons r2
    obtain ⟨_, rfl, _⟩ := trodAll_nil r3
    obtain ⟨rfl, rfl⟩ := trodVars_none hV
    exact ⟨rfl, rfl, rfl⟩
  · intro l hl
    simp only [FitsAll, FitsA, FitsL, Fits] at hl
    obtain ⟨_, _, rfl, ⟨_, _, h0, ⟨rows0, rfl, len0, el0⟩, rfl⟩, _, _, rfl, ⟨_, rfl, _, _, rfl, ⟨n1_0, rfl, w1_0⟩, _, _, rfl, ⟨n1_1, rfl, w1_1⟩, _, _, rfl, ⟨n1_2, rfl, w1_2⟩, _, _, rfl, ⟨n1_3, rfl, w1_3⟩, _, _, rfl, ⟨n1_4, rfl, w1_4⟩, _, _, rfl, ⟨n1_5, rfl, w1_5⟩, rfl⟩, _, _, rfl, ⟨_, _, h2, ⟨n2, rfl, w2⟩, rfl⟩, _, _, rfl, ⟨_, _, h3, ⟨n3, rfl, w3⟩, rfl⟩, rfl⟩ := hl
    cases h0
    cases h2
    cases h3
    obtain ⟨l0, e0, g0, h0⟩ := rows_int el0
    rw [e0, ← g0]
    exact looksL l0 (fun n hn => wf_u8 (h0 n hn)) _ _ _ _ _ _ _ _

theorem laid_met (os : Os) : laidMet Tryd.prog Rows.spaceLooksRow.laid ((laidWorld os).forCall (fun _ _ => 0) ⟨#[], #[.slice none 0 0, .agg #[.int .i64 0, .int .i64 0, .int .i64 0, .int .i64 0, .int .i64 0, .int .i64 0], .int .i64 0, .int .i64 0], []⟩).memory :=
  laidMet_of_run' 8 (by kernel_rfl) (by kernel_rfl)
theorem reads (os : Os) {H : Type} (enc : TypeId × Value → H) : ∃ places, DataW.whole enc Tryd.prog ((laidWorld os).forCall (fun _ _ => 0) ⟨#[], #[.slice none 0 0, .agg #[.int .i64 0, .int .i64 0, .int .i64 0, .int .i64 0, .int .i64 0, .int .i64 0], .int .i64 0, .int .i64 0], []⟩).memory Tryd.f3.params.toList Rows.spaceLooksSpec.vars false #[Value.slice none 0 0, .agg #[.int .i64 0, .int .i64 0, .int .i64 0, .int .i64 0, .int .i64 0, .int .i64 0], .int .i64 0, .int .i64 0].toList 8 =
    some ([.nil, .agg [.lit (.int .i64 0), .lit (.int .i64 0), .lit (.int .i64 0), .lit (.int .i64 0), .lit (.int .i64 0), .lit (.int .i64 0)], .lit (.int .i64 0), .lit (.int .i64 0)], [], places) :=
  ⟨[], by kernel_rfl⟩

set_option maxRecDepth 100000 in
theorem lifted (os : Os) (started : os.Started) (H : Type) (enc : TypeId × Value → H) (F : Stop.Interp) :
    ReturnsInHanded {} Tryd.checked os 3 .any ((OpenSpec.ofChange Rows.spaceLooksSpec).preRow enc Tryd.prog Tryd.f3 Rows.spaceLooksRow.domain false Rows.spaceLooksRow.laid) (((OpenSpec.ofChange Rows.spaceLooksSpec).at F).post enc Tryd.prog Tryd.f3 false true false false) := by
  obtain ⟨places, hx⟩ := reads os enc
  refine returnsInHanded_of_row (C := Tryd.checked) (s := OpenSpec.ofChange Rows.spaceLooksSpec) own started (by kernel_rfl) Tryd.func3
    (witness_row_at (enc := enc) (C := Tryd.checked) false (laidWorld os) #[.slice none 0 0, .agg #[.int .i64 0, .int .i64 0, .int .i64 0, .int .i64 0, .int .i64 0, .int .i64 0], .int .i64 0, .int .i64 0] rfl (by kernel_rfl) (by kernel_rfl) (by kernel_rfl)
      (OpenSpec.preRow_of_cond 8 hx (by kernel_rfl) (fun k hk => by cases hk) (by kernel_rfl) (laid_met os))) ?_
  intro W base args ds gs before hval hW _ _ _ hL _ _
  exact contract H enc W base args ds gs before hval hW hL

theorem said : Rows.SpaceLooksSaid :=
  OpenClaim.holds_of_cond 3 Tryd.f3 rfl rfl rfl rfl rfl rfl rfl ⟨rfl, rfl, rfl, rfl, rfl⟩ rfl rfl rfl rfl rfl (by kernel_rfl) Tryd.func3 (by kernel_rfl)
    (of_decide_eq_true (by kernel_rfl)) (by unfold Func.isWrapper; first | (rw [if_pos (by decide +kernel)]; kernel_rfl) | (rw [if_neg (by decide +kernel)]; exact ⟨rfl, rfl⟩))
    (fun os started H enc _ F => by rw [OpenClaim.pre_eq_preRow]; exact lifted os started H enc F)

theorem plain (f : FuncId) (fn : Func) (hf : Tryd.pinned.checked.prog.funcNamed "kaudit/kauditlaw27.SpaceLooks" = some f) (hfn : Tryd.pinned.checked.prog.funcs[f]? = some fn) :
    false = Tryd.pinned.checked.prog.looks [] ∧ ∀ (j : Nat) t, fn.params[j]? = some t → Tryd.pinned.checked.prog.wantsStandIn t = false := by
  obtain rfl : f = 3 := Option.some.inj ((show Tryd.prog.funcNamed "kaudit/kauditlaw27.SpaceLooks" = some 3 by kernel_rfl).symm.trans hf) |>.symm
  obtain rfl : fn = Tryd.f3 := (Option.some.inj (Tryd.func3.symm.trans hfn)).symm
  refine ⟨by kernel_rfl, fun j t ht => ?_⟩
  have h : Tryd.f3.params.toList.all (fun t => !Tryd.prog.wantsStandIn t) = true := by kernel_rfl
  have := List.all_eq_true.1 h t (by simpa using Array.mem_of_getElem? ht)
  exact (show Tryd.prog.wantsStandIn t = false by simpa using this)

/-- ████ THE CARD ████ -/
theorem card : Rows.SpaceLooksCardSaid :=
  Claim7.holds_tied_plain_at .later [] _ _ _ _ said (fun _ h => by cases h) (by kernel_rfl) (fun _ h => by cases h) spaceLooks_row_tie rfl ⟨rfl, rfl⟩ (by kernel_rfl) rfl plain (by kernel_rfl)
end Go.Proofs.YtphjbikodkomnaaDoor.spaceLooks
