/- Layer 22: a LOSS record, a record that is stamped (the reference). -/
import Derived.Test.YtfheeghkajihoaaDoorCa
namespace Go.Proofs.YtfheeghkajihoaaDoor
open Go Go.Lx
set_option linter.unusedSimpArgs false
set_option linter.unusedVariables false
set_option maxRecDepth 100000
set_option maxHeartbeats 4000000

theorem num (nm : List UInt8) (v : Int) : Pure Tryd.prog gl 39 [.str nm, .int .i64 v] (.agg (PrC ⟨nm, 1, v, []⟩)) := by
  refine fn_pureT Tryd.func39 t39 Tryd.ntmps39 (by simp) ?_
  unfold c39 r39
  rw [PrC_eq]
  repeat' (first | (simp (disch := first | omega | (simp only [List.length_cons, List.length_nil]; first | done | omega)) only [go_sem, Nat.reduceAdd, Nat.reduceMul, Nat.reduceSub, Nat.reduceEqDiff, Nat.reduceLeDiff, Nat.reduceMod, Nat.reduceLT, Int.reduceToNat, Int.reduceAdd, Int.reduceSub, Int.reduceMul, Int.reduceNeg, Int.reduceLE, Int.reduceLT, Int.reduceNe, Int.reduceEq, Int.reduceBEq, Int.reduceBNe, Int.reduceTMod, Int.reduceTDiv, Nat.reduceBEq, zPr]) | (refine allI (fun b => ?_)) | (refine allT (fun τ => ?_)) | (refine brP (fun h => ?_) (fun h => ?_) <;> (try simp only [zgx, zbx] at h)) | (apply And.intro; focus (first | omega | (simp; done) | (simp +contextual; done) | (intros; and_intros <;> first | assumption | omega) | (intros; simp_all; done) | (intro hgd; refine ⟨hgd, ?_⟩; simp [hgd]; done) | (intro hgd; simp only [zgx] at hgd ⊢; omega))) | fail)
/-- the pairs of a LOSS record -/
def lossP (x : Ls) : List Pr := [⟨nFirst, 1, x.f, []⟩, ⟨nLast, 1, x.l, []⟩, ⟨nRated, 1, x.ra, []⟩, ⟨nFull, 1, x.fu, []⟩, ⟨nStalled, 1, x.sd, []⟩]
theorem z20p : zeros ([.str [], .int .i64 0, .int .i64 0, .str []] : List LV) 20 = [.str [], .int .i64 0, .int .i64 0, .str [], .str [], .int .i64 0, .int .i64 0, .str [], .str [], .int .i64 0, .int .i64 0, .str [], .str [], .int .i64 0, .int .i64 0, .str [], .str [], .int .i64 0, .int .i64 0, .str []] := Eq.trans rfl rfl
theorem loss (x : Ls) (ti : Int) : Pure Tryd.prog gl 27 [.agg (LsC x), .int .i64 ti] (.agg (RcC ⟨1331, ti, 0, lossP x⟩)) := by
  refine fn_pureT Tryd.func27 t27 Tryd.ntmps27 (by simp) ?_
  have h1 := num nFirst x.f
  have h2 := num nLast x.l
  have h3 := num nRated x.ra
  have h4 := num nFull x.fu
  have h5 := num nStalled x.sd
  unfold c27 r27
  unfold nFirst nLast nRated nFull nStalled at *
  rw [RcC_eq, LsC_eq]
  simp only [PrC_eq] at *
  repeat' (first | (simp (disch := first | omega | (simp only [List.length_cons, List.length_nil]; first | done | omega)) only [go_sem, Nat.reduceAdd, Nat.reduceMul, Nat.reduceSub, Nat.reduceEqDiff, Nat.reduceLeDiff, Nat.reduceMod, Nat.reduceLT, Int.reduceToNat, Int.reduceAdd, Int.reduceSub, Int.reduceMul, Int.reduceNeg, Int.reduceLE, Int.reduceLT, Int.reduceNe, Int.reduceEq, Int.reduceBEq, Int.reduceBNe, Int.reduceTMod, Int.reduceTDiv, Nat.reduceBEq, zRc, z20p]) | (refine allI (fun b => ?_)) | (refine allT (fun τ => ?_)) | (refine brP (fun h => ?_) (fun h => ?_) <;> (try simp only [zgx, zbx] at h)) | refine call_U (h1) ?_ | refine callG_U (fun _ => h1) ?_ | refine call_T (h1) ?_ | refine callG_T (fun _ => h1) ?_ | refine call_U (h2) ?_ | refine callG_U (fun _ => h2) ?_ | refine call_T (h2) ?_ | refine callG_T (fun _ => h2) ?_ | refine call_U (h3) ?_ | refine callG_U (fun _ => h3) ?_ | refine call_T (h3) ?_ | refine callG_T (fun _ => h3) ?_ | refine call_U (h4) ?_ | refine callG_U (fun _ => h4) ?_ | refine call_T (h4) ?_ | refine callG_T (fun _ => h4) ?_ | refine call_U (h5) ?_ | refine callG_U (fun _ => h5) ?_ | refine call_T (h5) ?_ | refine callG_T (fun _ => h5) ?_ | refine call_N (h1) ?_ | refine call_of (h1) ?_ | refine callG_of (fun _ => h1) ?_ | refine call_N (h2) ?_ | refine call_of (h2) ?_ | refine callG_of (fun _ => h2) ?_ | refine call_N (h3) ?_ | refine call_of (h3) ?_ | refine callG_of (fun _ => h3) ?_ | refine call_N (h4) ?_ | refine call_of (h4) ?_ | refine callG_of (fun _ => h4) ?_ | refine call_N (h5) ?_ | refine call_of (h5) ?_ | refine callG_of (fun _ => h5) ?_ | (apply And.intro; focus (first | omega | (simp; done) | (simp +contextual; done) | (intros; and_intros <;> first | assumption | omega) | (intros; simp_all; done) | (intro hgd; refine ⟨hgd, ?_⟩; simp [hgd]; done) | (intro hgd; simp only [zgx] at hgd ⊢; omega))) | fail)
  exact leV.agg ⟨leV.refl _, leV.refl _, leV.refl _, (leV.fsl_sl _ _ _).trans (leV.of_eq rfl), trivial⟩
theorem stamp (r : Rc) (hr : r.ps.length ≤ 1000000000) (s : Int) : LCalls Tryd.prog gl 26 [.sl 4 1 (RcC r), .int .i64 s] [] fun v H => ∃ b c b2 c2, (1 ≤ c ∧ r.ps.length ≤ c2) ∧ v = .msl 80 4 b 0 1 c ∧ H = [(80, .blk b ([.int .i64 r.ty, .int .i64 r.ti, .int .i64 s, .msl 81 4 b2 0 r.ps.length c2] ++ List.replicate ((c - 1) * 4) .any)), (81, .blk b2 (Sp (r.ps.flatMap PrC) ((c2 - r.ps.length) * 4)))] := by
  refine fn_viewT Tryd.func26 t26 Tryd.ntmps26 (by simp) ?_
  have hle := len_pr r.ps
  unfold c26 r26
  rw [RcC_eq]
  repeat' (first | (simp (disch := first | omega | (simp only [List.length_cons, List.length_nil]; first | done | omega)) only [go_sem, Nat.reduceAdd, Nat.reduceMul, Nat.reduceSub, Nat.reduceEqDiff, Nat.reduceLeDiff, Nat.reduceMod, Nat.reduceLT, Int.reduceToNat, Int.reduceAdd, Int.reduceSub, Int.reduceMul, Int.reduceNeg, Int.reduceLE, Int.reduceLT, Int.reduceNe, Int.reduceEq, Int.reduceBEq, Int.reduceBNe, Int.reduceTMod, Int.reduceTDiv, Nat.reduceBEq]) | (refine allI (fun b => ?_)) | (refine allT (fun τ => ?_)) | (refine brP (fun h => ?_) (fun h => ?_) <;> (try simp only [zgx, zbx] at h)) | (apply And.intro; focus (first | omega | (simp; done) | (simp +contextual; done) | (intros; and_intros <;> first | assumption | omega) | (intros; simp_all; done) | (intro hgd; refine ⟨hgd, ?_⟩; simp [hgd]; done) | (intro hgd; simp only [zgx] at hgd ⊢; omega))) | fail)
  refine loopI (ι := Option (Nat × Nat × Nat × Nat)) (fun y => match y with
    | none => True
    | some (_, c, _, c2) => 1 ≤ c ∧ r.ps.length ≤ c2) (fun y => match y with
    | none => [(6, .int .i64 0), (5, .fsl 1 0 []), (4, .fsl 1 0 []), (0, .sl 4 1 [.int .i64 r.ty, .int .i64 r.ti, .int .i64 r.se, .sl 4 r.ps.length (r.ps.flatMap PrC)]), (1, .int .i64 s)]
    | some (b, c, _, _) => [(6, .int .i64 1), (5, .msl 27 4 b 0 1 c), (4, .fsl 1 0 []), (0, .sl 4 1 [.int .i64 r.ty, .int .i64 r.ti, .int .i64 r.se, .sl 4 r.ps.length (r.ps.flatMap PrC)]), (1, .int .i64 s)]) (fun y => match y with
    | none => []
    | some (b, c, b2, c2) => [(27, .blk b ([.int .i64 r.ty, .int .i64 r.ti, .int .i64 s, .msl 20 4 b2 0 r.ps.length c2] ++ List.replicate ((c - 1) * 4) .any)), (20, .blk b2 (Sp (r.ps.flatMap PrC) ((c2 - r.ps.length) * 4)))]) (fun y => if y = none then 1 else 0) none trivial Ents.same ?_
  rintro (_ | ⟨b, c, b2, c2⟩) hp
  · dsimp only
    repeat' (first | (simp (disch := first | omega | (simp only [List.length_cons, List.length_nil]; first | done | omega)) only [go_sem, Nat.reduceAdd, Nat.reduceMul, Nat.reduceSub, Nat.reduceEqDiff, Nat.reduceLeDiff, Nat.reduceMod, Nat.reduceLT, Int.reduceToNat, Int.reduceAdd, Int.reduceSub, Int.reduceMul, Int.reduceNeg, Int.reduceLE, Int.reduceLT, Int.reduceNe, Int.reduceEq, Int.reduceBEq, Int.reduceBNe, Int.reduceTMod, Int.reduceTDiv, Nat.reduceBEq, zRc]) | (refine allI (fun b => ?_)) | (refine allT (fun τ => ?_)) | (refine brP (fun h => ?_) (fun h => ?_) <;> (try simp only [zgx, zbx] at h)) | (apply And.intro; focus (first | omega | (simp; done) | (simp +contextual; done) | (intros; and_intros <;> first | assumption | omega) | (intros; simp_all; done) | (intro hgd; refine ⟨hgd, ?_⟩; simp [hgd]; done) | (intro hgd; simp only [zgx] at hgd ⊢; omega))) | fail)
    refine ⟨by simp only [roomy]; omega, fun b2 c2 hc2 => ⟨by simp only [roomy]; omega, fun b3 c hc => ⟨⟨some (b3, c, b2, c2), ⟨hc, hc2⟩⟩, by simp, ?_⟩⟩⟩
    first
      | exact Ents.sub (by simp [go_sem]) ⟨_, .cons_cons _ (.cons_cons _ (List.nil_sublist _)), List.Perm.refl _⟩
      | exact Ents.sub (by simp [go_sem]) ⟨_, .cons_cons _ (.cons _ (.cons_cons _ (List.nil_sublist _))), List.Perm.refl _⟩
      | skip
    all_goals trace_state
  · dsimp only at hp ⊢
    repeat' (first | (simp (disch := first | omega | (simp only [List.length_cons, List.length_nil]; first | done | omega)) only [go_sem, Nat.reduceAdd, Nat.reduceMul, Nat.reduceSub, Nat.reduceEqDiff, Nat.reduceLeDiff, Nat.reduceMod, Nat.reduceLT, Int.reduceToNat, Int.reduceAdd, Int.reduceSub, Int.reduceMul, Int.reduceNeg, Int.reduceLE, Int.reduceLT, Int.reduceNe, Int.reduceEq, Int.reduceBEq, Int.reduceBNe, Int.reduceTMod, Int.reduceTDiv, Nat.reduceBEq]) | (refine allI (fun b => ?_)) | (refine allT (fun τ => ?_)) | (refine brP (fun h => ?_) (fun h => ?_) <;> (try simp only [zgx, zbx] at h)) | (apply And.intro; focus (first | omega | (simp; done) | (simp +contextual; done) | (intros; and_intros <;> first | assumption | omega) | (intros; simp_all; done) | (intro hgd; refine ⟨hgd, ?_⟩; simp [hgd]; done) | (intro hgd; simp only [zgx] at hgd ⊢; omega))) | fail)
    refine ⟨_, _, fun w0 M HF w v hI hv => ⟨M, MLe.refl M, leV.msl_name _ 80 _ _ _ _ _ M v hv, ?_⟩, b, c, b2, c2, hp, rfl, rfl⟩
    have h2 : Lx.Inv gl w0 M ([(80, .blk b (.int .i64 r.ty :: .int .i64 r.ti :: .int .i64 s :: .msl 20 4 b2 0 r.ps.length c2 :: List.replicate ((c - 1) * 4) .any)), (81, .blk b2 (Sp (r.ps.flatMap PrC) ((c2 - r.ps.length) * 4)))] ++ HF) w := hI.names (by simp)
    have h3 : heapLe [(80, .blk b (.int .i64 r.ty :: .int .i64 r.ti :: .int .i64 s :: .msl 20 4 b2 0 r.ps.length c2 :: List.replicate ((c - 1) * 4) .any)), (81, .blk b2 (Sp (r.ps.flatMap PrC) ((c2 - r.ps.length) * 4)))] [(80, .blk b (.int .i64 r.ty :: .int .i64 r.ti :: .int .i64 s :: .msl 81 4 b2 0 r.ps.length c2 :: List.replicate ((c - 1) * 4) .any)), (81, .blk b2 (Sp (r.ps.flatMap PrC) ((c2 - r.ps.length) * 4)))] :=
      ⟨⟨rfl, leV.refl _, leV.refl _, leV.refl _, leV.msl_name _ _ _ _ _ _ _, leVs.refl _⟩, ⟨rfl, leVs.refl _⟩, trivial⟩
    exact h3.inv h2
end Go.Proofs.YtfheeghkajihoaaDoor
