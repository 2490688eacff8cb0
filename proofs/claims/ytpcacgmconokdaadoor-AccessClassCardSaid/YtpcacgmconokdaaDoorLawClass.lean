/- Proved: for every node, identities, other number and permissions, kauditlaw08.AccessClass returns true and its arguments read behind the call as they did before. Conditions: the package's table kaudit/access.letters holds what its own initialiser lays (tied to the program's text by the card). -/
import Derived.Test.YtpcacgmconokdaaDoorAccD
import Derived.Test.YtpcacgmconokdaaDoorAccC
namespace Go.Proofs.YtpcacgmconokdaaDoor.accessClass
open Go.ChangeShapes Go.WideShapes Go.ChangeAt Go.RowKit Go.Lx

theorem shapes : Tryd.f5.params.toList.mapM (shArg Tryd.prog) = some [(true, [.int .i64, .int .i64, .int .i64, .int .i64, .int .i64, .int .i64, .str, .any]), (false, [.int .i64]), (false, [.int .i64]), (false, [.int .i64]), (false, [.int .u8])] := by kernel_rfl

theorem contract (H : Type) (enc : TypeId × Value → H) (W : World) (base : Nat) (args : Array Value) (ds gs : List (DataW H)) (before : List MemPlace)
    (hval : ∀ (j : Nat) t v, Tryd.f5.params[j]? = some t → args[j]? = some v → Value.okWide Tryd.prog W .any base t v)
    (hW : DataW.Whole enc Tryd.prog Tryd.f5.params.toList Rows.accessClassSpec.vars false W args.toList ds gs before) (hL : laidMetH Tryd.prog Rows.accessClassRow.laid W) :
    Calls Tryd.prog 5 args W fun e W' => ∃ v, e = .returned v ∧ Rows.accessClassSpec.post enc Tryd.prog Tryd.f5 false true false false W args v W' := by
  refine law_of (tb := 4) rfl (by kernel_rfl) Tryd.underlying4 laidOut (by kernel_rfl) shapes hval hW ?_ (glob hL) ?_
  · obtain ⟨p, q, hA, hV, _⟩ := hW
    rw [Tryd.params5] at hA
    obtain ⟨v0, vs0, d0, ds0, p0, q0, _, rfl, rfl, _, r0⟩ := trodAll_cons hA
    obtain ⟨v1, vs1, d1, ds1, p1, q1, _, rfl, rfl, _, r1⟩ := trodAll_cons r0
    obtain ⟨v2, vs2, d2, ds2, p2, q2, _, rfl, rfl, _, r2⟩ := trodAll_cons r1
    obtain ⟨v3, vs3, d3, ds3, p3, q3, _, rfl, rfl, _, r3⟩ := trodAll_cons r2
    obtain ⟨v4, vs4, d4, ds4, p4, q4, _, rfl, rfl, _, r4⟩ := trodAll_cons r3
    obtain ⟨_, rfl, _⟩ := trodAll_nil r4
    obtain ⟨rfl, rfl⟩ := trodVars_none hV
    exact ⟨rfl, rfl, rfl⟩
  · rintro l ⟨x0, _, rfl, ⟨_, rfl, _, _, rfl, ⟨i0, rfl, _⟩, _, _, rfl, ⟨i1, rfl, _⟩, _, _, rfl, ⟨i2, rfl, _⟩, _, _, rfl, ⟨i3, rfl, _⟩, _, _, rfl, ⟨i4, rfl, _⟩, _, _, rfl, ⟨i5, rfl, _⟩, tg, _, rfl, _, en, _, rfl, _, rfl⟩,
      _, _, rfl, ⟨_, _, h1, ⟨j1, rfl, _⟩, rfl⟩, _, _, rfl, ⟨_, _, h2, ⟨j2, rfl, _⟩, rfl⟩, _, _, rfl, ⟨_, _, h3, ⟨j3, rfl, _⟩, rfl⟩, _, _, rfl, ⟨_, _, h4, ⟨j4, rfl, w4⟩, rfl⟩, rfl⟩
    cases h1; cases h2; cases h3; cases h4
    have b4 := wf_int w4
    exact class5 _ _ _ _ _ _ _ _ _ _ _ _ b4.1 b4.2

theorem laid_met (os : Os) : laidMet Tryd.prog Rows.accessClassRow.laid ((laidWorld os).forCall (fun _ _ => 0) ⟨#[], #[.agg #[.int .i64 0, .int .i64 0, .int .i64 0, .int .i64 0, .int .i64 0, .int .i64 0, .string ⟨#[]⟩, .slice none 0 0], .int .i64 0, .int .i64 0, .int .i64 0, .int .u8 0], []⟩).memory :=
  laidMet_of_run' 8 (by kernel_rfl) (by kernel_rfl)
theorem reads (os : Os) {H : Type} (enc : TypeId × Value → H) : ∃ places, DataW.whole enc Tryd.prog ((laidWorld os).forCall (fun _ _ => 0) ⟨#[], #[.agg #[.int .i64 0, .int .i64 0, .int .i64 0, .int .i64 0, .int .i64 0, .int .i64 0, .string ⟨#[]⟩, .slice none 0 0], .int .i64 0, .int .i64 0, .int .i64 0, .int .u8 0], []⟩).memory Tryd.f5.params.toList Rows.accessClassSpec.vars false #[Value.agg #[.int .i64 0, .int .i64 0, .int .i64 0, .int .i64 0, .int .i64 0, .int .i64 0, .string ⟨#[]⟩, .slice none 0 0], .int .i64 0, .int .i64 0, .int .i64 0, .int .u8 0].toList 8 =
    some ([.agg [.lit (.int .i64 0), .lit (.int .i64 0), .lit (.int .i64 0), .lit (.int .i64 0), .lit (.int .i64 0), .lit (.int .i64 0), .lit (.string []), .nil], .lit (.int .i64 0), .lit (.int .i64 0), .lit (.int .i64 0), .lit (.int .u8 0)], [], places) :=
  ⟨[], by kernel_rfl⟩

set_option maxRecDepth 100000 in
theorem lifted (os : Os) (started : os.Started) (H : Type) (enc : TypeId × Value → H) (F : Stop.Interp) :
    ReturnsInHanded {} Tryd.checked os 5 .any ((OpenSpec.ofChange Rows.accessClassSpec).preRow enc Tryd.prog Tryd.f5 Rows.accessClassRow.domain false Rows.accessClassRow.laid) (((OpenSpec.ofChange Rows.accessClassSpec).at F).post enc Tryd.prog Tryd.f5 false true false false) := by
  obtain ⟨places, hx⟩ := reads os enc
  refine returnsInHanded_of_row (C := Tryd.checked) (s := OpenSpec.ofChange Rows.accessClassSpec) own started (by kernel_rfl) Tryd.func5
    (witness_row_at (enc := enc) (C := Tryd.checked) false (laidWorld os) #[.agg #[.int .i64 0, .int .i64 0, .int .i64 0, .int .i64 0, .int .i64 0, .int .i64 0, .string ⟨#[]⟩, .slice none 0 0], .int .i64 0, .int .i64 0, .int .i64 0, .int .u8 0] rfl (by kernel_rfl) (by kernel_rfl) (by kernel_rfl)
      (OpenSpec.preRow_of_cond 8 hx (by kernel_rfl) (fun k hk => by cases hk) (by kernel_rfl) (laid_met os))) ?_
  intro W base args ds gs before hval hW _ _ _ hL _ _
  exact contract H enc W base args ds gs before hval hW hL

theorem said : Rows.AccessClassSaid :=
  OpenClaim.holds_of_cond 5 Tryd.f5 rfl rfl rfl rfl rfl rfl rfl ⟨rfl, rfl, rfl, rfl, rfl⟩ rfl rfl rfl rfl rfl (by kernel_rfl) Tryd.func5 (by kernel_rfl)
    (of_decide_eq_true (by kernel_rfl)) (by unfold Func.isWrapper; first | (rw [if_pos (by decide +kernel)]; kernel_rfl) | (rw [if_neg (by decide +kernel)]; exact ⟨rfl, rfl⟩))
    (fun os started H enc _ F => by rw [OpenClaim.pre_eq_preRow]; exact lifted os started H enc F)

theorem plain (f : FuncId) (fn : Func) (hf : Tryd.pinned.checked.prog.funcNamed "kaudit/kauditlaw08.AccessClass" = some f) (hfn : Tryd.pinned.checked.prog.funcs[f]? = some fn) :
    false = Tryd.pinned.checked.prog.looks [] ∧ ∀ (j : Nat) t, fn.params[j]? = some t → Tryd.pinned.checked.prog.wantsStandIn t = false := by
  obtain rfl : f = 5 := Option.some.inj ((show Tryd.prog.funcNamed "kaudit/kauditlaw08.AccessClass" = some 5 by kernel_rfl).symm.trans hf) |>.symm
  obtain rfl : fn = Tryd.f5 := (Option.some.inj (Tryd.func5.symm.trans hfn)).symm
  refine ⟨by kernel_rfl, fun j t ht => ?_⟩
  have h : Tryd.f5.params.toList.all (fun t => !Tryd.prog.wantsStandIn t) = true := by kernel_rfl
  have := List.all_eq_true.1 h t (by simpa using Array.mem_of_getElem? ht)
  exact (show Tryd.prog.wantsStandIn t = false by simpa using this)

/-- ████ THE CARD ████ -/
theorem card : Rows.AccessClassCardSaid :=
  Claim7.holds_tied_plain_at .later [] _ _ _ _ said (fun _ h => by cases h) (by kernel_rfl) (fun _ h => by cases h) accessClass_row_tie rfl ⟨rfl, rfl⟩ (by kernel_rfl) rfl plain (by kernel_rfl)
end Go.Proofs.YtpcacgmconokdaaDoor.accessClass
