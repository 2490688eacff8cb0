/- Checks of rules (the reference): that they end, and what their success tells. -/
import Derived.Test.YtcngkeeknlloaaaEv
import Derived.Test.YtcngkeeknlloaaaLxW
import Derived.Test.YtcngkeeknlloaaaMkN
import Derived.Test.YtcngkeeknlloaaaCodh
namespace Go.Proofs.Ytcngkeeknlloaaa
open Go Go.Lx
set_option linter.unusedSimpArgs false
set_option linter.unusedVariables false
set_option maxRecDepth 100000
set_option maxHeartbeats 4000000

def SplQ (s : List UInt8) (r : LV) : Prop := ∃ (ws : List (List UInt8)) (b1 b2 : Bool), (ws.length ≤ s.length + 1 ∧ ∀ w ∈ ws, w.length ≤ s.length) ∧ r = .tup [StS ws, .bool b1, .bool b2]
theorem split (s : List UInt8) (hs : s.length ≤ 1000000) : PureE Try.prog gl 97 [.str s] (SplQ s) := by
  refine fn_viewT Try.func97 t97 Try.ntmps97 (by simp) ?_
  unfold c97 r97
  simp (disch := first | omega | (simp only [List.length_cons, List.length_nil]; first | done | omega)) only [go_sem, Nat.reduceAdd, Nat.reduceMul, Nat.reduceSub, Nat.reduceEqDiff, Nat.reduceLeDiff, Nat.reduceMod, Nat.reduceLT, Int.reduceToNat, Int.reduceAdd, Int.reduceSub, Int.reduceMul, Int.reduceNeg, Int.reduceLE, Int.reduceLT, Int.reduceNe, Int.reduceEq, Int.reduceBEq, Int.reduceBNe, Int.reduceTMod, Int.reduceTDiv, Nat.reduceBEq]
  refine loopI (ι := Nat × Nat × List (List UInt8) × Tok) (fun y => y.1 ≤ s.length + 1 ∧ y.2.1 ≤ y.1 ∧ y.2.2.1.length ≤ y.1 ∧ ∀ w ∈ y.2.2.1, w.length ≤ s.length) (fun y => [(7, .int .i64 y.1), (6, .int .i64 y.2.1), (5, .osl 33 y.2.2.2 1 y.2.2.1.length (y.2.2.1.map LV.str)), (4, .bool false), (3, .bool false), (2, .fsl 1 0 []), (0, .str s)]) (fun y => [(33, .tok y.2.2.2)]) (fun y => s.length + 1 - y.1) (0, 0, [], ⟨0, 0, 0⟩) (by simp) (Ents.dummyE 33 (by simp [go_sem, envLe, leV.nil_osl])) ?_
  rintro ⟨i, f, ws, τ⟩ ⟨h1, h2, h3, h4⟩
  dsimp only at h1 h2 h3 h4 ⊢
  repeat' (first | (simp (disch := first | omega | (simp only [List.length_cons, List.length_nil]; first | done | omega)) only [go_sem, Nat.reduceAdd, Nat.reduceMul, Nat.reduceSub, Nat.reduceEqDiff, Nat.reduceLeDiff, Nat.reduceMod, Nat.reduceLT, Int.reduceToNat, Int.reduceAdd, Int.reduceSub, Int.reduceMul, Int.reduceNeg, Int.reduceLE, Int.reduceLT, Int.reduceNe, Int.reduceEq, Int.reduceBEq, Int.reduceBNe, Int.reduceTMod, Int.reduceTDiv, Nat.reduceBEq]) | (refine allI (fun b => ?_)) | (refine allT (fun τ => ?_)) | (refine brP (fun h => ?_) (fun h => ?_) <;> (try simp only [zgx, zbx] at h)) | (apply And.intro; focus (first | omega | (simp; done) | (simp +contextual; done) | (intros; and_intros <;> first | assumption | omega) | (intros; simp_all; done) | (intro hgd; refine ⟨hgd, ?_⟩; simp [hgd]; done) | (intro hgd; simp only [zgx] at hgd ⊢; omega))) | fail)
  · exact ⟨by simp only [roomy]; omega, fun t => ⟨⟨(i + 1, i + 1, ws ++ [(s.drop f).take (i - f)], t), by dsimp only; omega, by dsimp only; omega, by simp; omega, fun w hw => by
      rcases List.mem_append.1 hw with hw | hw
      · exact h4 w hw
      · simp only [List.mem_singleton] at hw
        rw [hw, List.length_take, List.length_drop]; omega⟩, by dsimp only; omega, Ents.envH ⟨leV.refl _, leV.refl _, leV.of_eq (by simp [go_sem]), leV.refl _, leV.refl _, leV.refl _, leV.refl _, trivial⟩ rfl⟩⟩
  · exact ⟨⟨(i + 1, i + 1, ws, τ), by dsimp only; omega, by dsimp only; omega, by dsimp only; omega, h4⟩, by dsimp only; omega, Ents.envH ⟨leV.refl _, leV.refl _, leV.refl _, leV.refl _, leV.refl _, leV.refl _, leV.refl _, trivial⟩ rfl⟩
  · exact ⟨⟨(i + 1, f, ws, τ), by dsimp only; omega, by dsimp only; omega, by dsimp only; omega, h4⟩, by dsimp only; omega, Ents.envH ⟨leV.refl _, leV.refl _, leV.refl _, leV.refl _, leV.refl _, leV.refl _, leV.refl _, trivial⟩ rfl⟩
  · exact pureE_end (leV.tup3 (leV.osl_sl _ _ _ _ _)) ⟨ws, _, _, ⟨by omega, h4⟩, rfl⟩
theorem name4 (s : List UInt8) : PureE Try.prog gl 98 [.str s] fun r => ∃ b, (b = true → s.length ≤ 12) ∧ r = .bool b := by
  refine fn_viewT Try.func98 t98 Try.ntmps98 (by simp) ?_
  unfold c98 r98
  repeat' (first | (simp (disch := first | omega | (simp only [List.length_cons, List.length_nil]; first | done | omega)) only [go_sem, Nat.reduceAdd, Nat.reduceMul, Nat.reduceSub, Nat.reduceEqDiff, Nat.reduceLeDiff, Nat.reduceMod, Nat.reduceLT, Int.reduceToNat, Int.reduceAdd, Int.reduceSub, Int.reduceMul, Int.reduceNeg, Int.reduceLE, Int.reduceLT, Int.reduceNe, Int.reduceEq, Int.reduceBEq, Int.reduceBNe, Int.reduceTMod, Int.reduceTDiv, Nat.reduceBEq]) | (refine allI (fun b => ?_)) | (refine allT (fun τ => ?_)) | (refine brP (fun h => ?_) (fun h => ?_) <;> (try simp only [zgx, zbx] at h)) | (apply And.intro; focus (first | omega | (simp; done) | (simp +contextual; done) | (intros; and_intros <;> first | assumption | omega) | (intros; simp_all; done) | (intro hgd; refine ⟨hgd, ?_⟩; simp [hgd]; done) | (intro hgd; simp only [zgx] at hgd ⊢; omega))) | fail)
  · exact pureE_end (leV.refl _) ⟨_, by simp, rfl⟩
  · refine loopI (ι := Nat) (fun i => i ≤ s.length) (fun i => (3, .int .i64 i) :: _) (fun _ => _) (fun i => s.length - i) 0 (by omega) Ents.same ?_
    intro i hi
    repeat' (first | (simp (disch := first | omega | (simp only [List.length_cons, List.length_nil]; first | done | omega)) only [go_sem, Nat.reduceAdd, Nat.reduceMul, Nat.reduceSub, Nat.reduceEqDiff, Nat.reduceLeDiff, Nat.reduceMod, Nat.reduceLT, Int.reduceToNat, Int.reduceAdd, Int.reduceSub, Int.reduceMul, Int.reduceNeg, Int.reduceLE, Int.reduceLT, Int.reduceNe, Int.reduceEq, Int.reduceBEq, Int.reduceBNe, Int.reduceTMod, Int.reduceTDiv, Nat.reduceBEq]) | (refine allI (fun b => ?_)) | (refine allT (fun τ => ?_)) | (refine brP (fun h => ?_) (fun h => ?_) <;> (try simp only [zgx, zbx] at h)) | (apply And.intro; focus (first | omega | (simp; done) | (simp +contextual; done) | (intros; and_intros <;> first | assumption | omega) | (intros; simp_all; done) | (intro hgd; refine ⟨hgd, ?_⟩; simp [hgd]; done) | (intro hgd; simp only [zgx] at hgd ⊢; omega))) | fail)
    · exact pureE_end (leV.refl _) ⟨_, by simp, rfl⟩
    · exact ⟨⟨i + 1, by omega⟩, by dsimp only; omega, Ents.envH (by simp [go_sem]) rfl⟩
    · exact pureE_end (leV.refl _) ⟨_, fun _ => by omega, rfl⟩
theorem clean4 (s : List UInt8) (hs : s.length ≤ 1000) : PureE Try.prog gl 87 [.str s] fun r => ∃ b, r = .bool b := by
  refine fn_viewT Try.func87 t87 Try.ntmps87 (by simp) ?_
  unfold c87 r87
  simp (disch := first | omega | (simp only [List.length_cons, List.length_nil]; first | done | omega)) only [go_sem, Nat.reduceAdd, Nat.reduceMul, Nat.reduceSub, Nat.reduceEqDiff, Nat.reduceLeDiff, Nat.reduceMod, Nat.reduceLT, Int.reduceToNat, Int.reduceAdd, Int.reduceSub, Int.reduceMul, Int.reduceNeg, Int.reduceLE, Int.reduceLT, Int.reduceNe, Int.reduceEq, Int.reduceBEq, Int.reduceBNe, Int.reduceTMod, Int.reduceTDiv, Nat.reduceBEq]
  first | refine pureE_U (split s (by omega)) ?_ | refine pureE_T (split s (by omega)) ?_ | refine pureE_of (split s (by omega)) ?_
  rintro _ ⟨ws, b1, b2, ⟨h1, h2⟩, rfl⟩
  unfold StS
  simp (disch := first | omega | (simp only [List.length_cons, List.length_nil]; first | done | omega)) only [go_sem, Nat.reduceAdd, Nat.reduceMul, Nat.reduceSub, Nat.reduceEqDiff, Nat.reduceLeDiff, Nat.reduceMod, Nat.reduceLT, Int.reduceToNat, Int.reduceAdd, Int.reduceSub, Int.reduceMul, Int.reduceNeg, Int.reduceLE, Int.reduceLT, Int.reduceNe, Int.reduceEq, Int.reduceBEq, Int.reduceBNe, Int.reduceTMod, Int.reduceTDiv, Nat.reduceBEq]
  refine loopI (ι := Nat × List UInt8) (fun y => y.1 ≤ ws.length ∧ y.2.length ≤ 13 * y.1) (fun y => [(7, .int .i64 y.1), (6, .str y.2), (3, .sl 1 ws.length (ws.map LV.str)), (2, .bool false), (0, .str s)]) (fun _ => []) (fun y => ws.length - y.1) (0, []) (by simp) (Ents.envH (by simp [go_sem]) rfl) ?_
  rintro ⟨i, t⟩ ⟨h3, h4⟩
  dsimp only at h3 h4 ⊢
  simp (disch := first | omega | (simp only [List.length_cons, List.length_nil]; first | done | omega)) only [go_sem, Nat.reduceAdd, Nat.reduceMul, Nat.reduceSub, Nat.reduceEqDiff, Nat.reduceLeDiff, Nat.reduceMod, Nat.reduceLT, Int.reduceToNat, Int.reduceAdd, Int.reduceSub, Int.reduceMul, Int.reduceNeg, Int.reduceLE, Int.reduceLT, Int.reduceNe, Int.reduceEq, Int.reduceBEq, Int.reduceBNe, Int.reduceTMod, Int.reduceTDiv, Nat.reduceBEq]
  refine brP (fun hb => ?_) (fun hb => ?_)
  · have hlt : i < ws.length := by simpa using hb
    have e1 : (ws.map LV.str).getD (i * 1) .any = .str (ws.getD i []) := by simp [List.getD, hlt]
    have hw := h2 _ (getD_memA [] hlt)
    have hml : (ws.map LV.str).length = ws.length := by simp
    generalize ws.getD i [] = w at *
    simp (disch := first | omega | (simp only [List.length_cons, List.length_nil]; first | done | omega)) only [go_sem, Nat.reduceAdd, Nat.reduceMul, Nat.reduceSub, Nat.reduceEqDiff, Nat.reduceLeDiff, Nat.reduceMod, Nat.reduceLT, Int.reduceToNat, Int.reduceAdd, Int.reduceSub, Int.reduceMul, Int.reduceNeg, Int.reduceLE, Int.reduceLT, Int.reduceNe, Int.reduceEq, Int.reduceBEq, Int.reduceBNe, Int.reduceTMod, Int.reduceTDiv, Nat.reduceBEq, e1]
    refine ⟨by omega, by omega, ?_⟩
    first | refine pureE_U (name4 w) ?_ | refine pureE_T (name4 w) ?_ | refine pureE_of (name4 w) ?_
    rintro _ ⟨b, hb2, rfl⟩
    repeat' (first | (simp (disch := first | omega | (simp only [List.length_cons, List.length_nil]; first | done | omega)) only [go_sem, Nat.reduceAdd, Nat.reduceMul, Nat.reduceSub, Nat.reduceEqDiff, Nat.reduceLeDiff, Nat.reduceMod, Nat.reduceLT, Int.reduceToNat, Int.reduceAdd, Int.reduceSub, Int.reduceMul, Int.reduceNeg, Int.reduceLE, Int.reduceLT, Int.reduceNe, Int.reduceEq, Int.reduceBEq, Int.reduceBNe, Int.reduceTMod, Int.reduceTDiv, Nat.reduceBEq, e1]) | (refine allI (fun b => ?_)) | (refine allT (fun τ => ?_)) | (refine brP (fun h => ?_) (fun h => ?_) <;> (try simp only [zgx, zbx] at h)) | (apply And.intro; focus (first | omega | (simp; done) | (simp +contextual; done) | (intros; and_intros <;> first | assumption | omega) | (intros; simp_all; done) | (intro hgd; refine ⟨hgd, ?_⟩; simp [hgd]; done) | (intro hgd; simp only [zgx] at hgd ⊢; omega))) | fail)
    · exact pureE_end (leV.refl _) ⟨_, rfl⟩
    · have hb3 := hb2 h
      exact ⟨⟨(i + 1, t ++ 47 :: w), by dsimp only; omega, by simp only [List.length_append, List.length_cons]; omega⟩, by dsimp only; omega, Ents.envH ⟨leV.refl _, leV.refl _, leV.refl _, leV.refl _, leV.refl _, trivial⟩ rfl⟩
  · repeat' (first | (simp (disch := first | omega | (simp only [List.length_cons, List.length_nil]; first | done | omega)) only [go_sem, Nat.reduceAdd, Nat.reduceMul, Nat.reduceSub, Nat.reduceEqDiff, Nat.reduceLeDiff, Nat.reduceMod, Nat.reduceLT, Int.reduceToNat, Int.reduceAdd, Int.reduceSub, Int.reduceMul, Int.reduceNeg, Int.reduceLE, Int.reduceLT, Int.reduceNe, Int.reduceEq, Int.reduceBEq, Int.reduceBNe, Int.reduceTMod, Int.reduceTDiv, Nat.reduceBEq]) | (refine allI (fun b => ?_)) | (refine allT (fun τ => ?_)) | (refine brP (fun h => ?_) (fun h => ?_) <;> (try simp only [zgx, zbx] at h)) | (apply And.intro; focus (first | omega | (simp; done) | (simp +contextual; done) | (intros; and_intros <;> first | assumption | omega) | (intros; simp_all; done) | (intro hgd; refine ⟨hgd, ?_⟩; simp [hgd]; done) | (intro hgd; simp only [zgx] at hgd ⊢; omega))) | fail)
    exact pureE_end (leV.refl _) ⟨_, rfl⟩
theorem valid1 (m : Int) : Pure Try.prog gl 86 [.int .u64 m] (.bool (shr .u64 m 32 == 0)) := by
  refine fn_pureT Try.func86 t86 Try.ntmps86 (by simp) ?_
  unfold c86 r86
  repeat' (first | (simp (disch := first | omega | (simp only [List.length_cons, List.length_nil]; first | done | omega)) only [go_sem, Nat.reduceAdd, Nat.reduceMul, Nat.reduceSub, Nat.reduceEqDiff, Nat.reduceLeDiff, Nat.reduceMod, Nat.reduceLT, Int.reduceToNat, Int.reduceAdd, Int.reduceSub, Int.reduceMul, Int.reduceNeg, Int.reduceLE, Int.reduceLT, Int.reduceNe, Int.reduceEq, Int.reduceBEq, Int.reduceBNe, Int.reduceTMod, Int.reduceTDiv, Nat.reduceBEq]) | (refine allI (fun b => ?_)) | (refine allT (fun τ => ?_)) | (refine brP (fun h => ?_) (fun h => ?_) <;> (try simp only [zgx, zbx] at h)) | (apply And.intro; focus (first | omega | (simp; done) | (simp +contextual; done) | (intros; and_intros <;> first | assumption | omega) | (intros; simp_all; done) | (intro hgd; refine ⟨hgd, ?_⟩; simp [hgd]; done) | (intro hgd; simp only [zgx] at hgd ⊢; omega))) | fail)
  all_goals rfl
/-- what a rule that is checked has -/
def sndR (r : Rl) : Prop := (1 ≤ r.l ∧ r.l ≤ 5) ∧ ((r.l = 2 ∨ r.l = 3) → r.c ≠ 0) ∧ (¬ (r.l = 2 ∨ r.l = 3) → r.c = 0) ∧ r.ts.length ≤ 8 ∧ (0 ≤ r.c ∧ r.c < 4294967296)
theorem shr32 {a : Int} (h : shr .u64 a 32 = 0) : 0 ≤ a ∧ a < 4294967296 := by
  have h2 : a.fdiv 4294967296 = 0 := h
  rw [Int.fdiv_eq_ediv_of_nonneg _ (by omega)] at h2
  omega
def smlR (r : Rl) : Prop := r.ts.length ≤ 1000 ∧ r.p.length ≤ 1000 ∧ r.k.length ≤ 1000
theorem chk13 (r : Rl) (hr : smlR r) : PureE Try.prog gl 70 [.agg (RlC r)] fun v => ∃ e, (e = 0 → sndR r) ∧ v = .int .i64 e := by
  refine fn_viewT Try.func70 t70 Try.ntmps70 (by simp) ?_
  obtain ⟨hr1, hr2, hr3⟩ := hr
  have hl := len_te r.ts
  unfold c70 r70 RlC TsS
  repeat' (first | (simp (disch := first | omega | (simp only [List.length_cons, List.length_nil]; first | done | omega)) only [go_sem, Nat.reduceAdd, Nat.reduceMul, Nat.reduceSub, Nat.reduceEqDiff, Nat.reduceLeDiff, Nat.reduceMod, Nat.reduceLT, Int.reduceToNat, Int.reduceAdd, Int.reduceSub, Int.reduceMul, Int.reduceNeg, Int.reduceLE, Int.reduceLT, Int.reduceNe, Int.reduceEq, Int.reduceBEq, Int.reduceBNe, Int.reduceTMod, Int.reduceTDiv, Nat.reduceBEq]) | (refine allI (fun b => ?_)) | (refine allT (fun τ => ?_)) | (refine brP (fun h => ?_) (fun h => ?_) <;> (try simp only [zgx, zbx] at h)) | refine call_U (valid1 _) ?_ | refine callG_U (fun _ => valid1 _) ?_ | refine call_T (valid1 _) ?_ | refine callG_T (fun _ => valid1 _) ?_ | refine call_N (valid1 _) ?_ | refine call_of (valid1 _) ?_ | refine callG_of (fun _ => valid1 _) ?_ | (apply And.intro; focus (first | omega | (simp; done) | (simp +contextual; done) | (intros; and_intros <;> first | assumption | omega) | (intros; simp_all; done) | (intro hgd; refine ⟨hgd, ?_⟩; simp [hgd]; done) | (intro hgd; simp only [zgx] at hgd ⊢; omega))) | fail)
  · exact pureE_end (leV.refl _) ⟨_, fun h => absurd h (by decide), rfl⟩
  · exact pureE_end (leV.refl _) ⟨_, fun h => absurd h (by decide), rfl⟩
  · exact pureE_end (leV.refl _) ⟨_, fun h => absurd h (by decide), rfl⟩
  · exact pureE_end (leV.refl _) ⟨_, fun h => absurd h (by decide), rfl⟩
  · rename_i h1 h2 h3
    have hS : sndR r := by
      simp only [sndR]
      simp only [Bool.or_eq_false_iff, Bool.and_eq_false_iff, Bool.or_eq_true, bne_eq_false_iff_eq, beq_iff_eq, beq_eq_false_iff_ne, Bool.not_eq_false', Bool.not_eq_true', ne_eq, not_or] at h1 h2 h3
      have h5 : (r.l = 2 ∨ r.l = 3) → 0 ≤ r.c ∧ r.c < 4294967296 := fun h5 => shr32 (by
        rcases h3.1 with h6 | h6
        · exact absurd h5 (by omega)
        · exact h6.2)
      omega
    refine loopI (ι := Nat) (fun i => i ≤ r.ts.length) (fun i => (4, .int .i64 i) :: _) (fun _ => _) (fun i => r.ts.length - i) 0 (by omega) Ents.same ?_
    intro i hi
    simp (disch := first | omega | (simp only [List.length_cons, List.length_nil]; first | done | omega)) only [go_sem, Nat.reduceAdd, Nat.reduceMul, Nat.reduceSub, Nat.reduceEqDiff, Nat.reduceLeDiff, Nat.reduceMod, Nat.reduceLT, Int.reduceToNat, Int.reduceAdd, Int.reduceSub, Int.reduceMul, Int.reduceNeg, Int.reduceLE, Int.reduceLT, Int.reduceNe, Int.reduceEq, Int.reduceBEq, Int.reduceBNe, Int.reduceTMod, Int.reduceTDiv, Nat.reduceBEq]
    refine brP (fun hb => ?_) (fun hb => ?_)
    · have hlt : i < r.ts.length := by simpa using hb
      have e2 : ((r.ts.flatMap TeC).drop (i * 5)).take 5 = TeC (r.ts.getD i te0) := take_rows (f := TeC) (fun _ => rfl) te0 _ hlt
      generalize r.ts.getD i te0 = y at *
      repeat' (first | (simp (disch := first | omega | (simp only [List.length_cons, List.length_nil]; first | done | omega)) only [go_sem, Nat.reduceAdd, Nat.reduceMul, Nat.reduceSub, Nat.reduceEqDiff, Nat.reduceLeDiff, Nat.reduceMod, Nat.reduceLT, Int.reduceToNat, Int.reduceAdd, Int.reduceSub, Int.reduceMul, Int.reduceNeg, Int.reduceLE, Int.reduceLT, Int.reduceNe, Int.reduceEq, Int.reduceBEq, Int.reduceBNe, Int.reduceTMod, Int.reduceTDiv, Nat.reduceBEq, e2]) | (refine allI (fun b => ?_)) | (refine allT (fun τ => ?_)) | (refine brP (fun h => ?_) (fun h => ?_) <;> (try simp only [zgx, zbx] at h)) | refine call_U (rchk y r.l) ?_ | refine callG_U (fun _ => rchk y r.l) ?_ | refine call_T (rchk y r.l) ?_ | refine callG_T (fun _ => rchk y r.l) ?_ | refine call_N (rchk y r.l) ?_ | refine call_of (rchk y r.l) ?_ | refine callG_of (fun _ => rchk y r.l) ?_ | (apply And.intro; focus (first | omega | (simp; done) | (simp +contextual; done) | (intros; and_intros <;> first | assumption | omega) | (intros; simp_all; done) | (intro hgd; refine ⟨hgd, ?_⟩; simp [hgd]; done) | (intro hgd; simp only [zgx] at hgd ⊢; omega))) | fail)
      · exact pureE_end (leV.refl _) ⟨_, fun _ => hS, rfl⟩
      · exact ⟨⟨i + 1, by omega⟩, by dsimp only; omega, Ents.envH (by simp [go_sem]) rfl⟩
    · repeat' (first | (simp (disch := first | omega | (simp only [List.length_cons, List.length_nil]; first | done | omega)) only [go_sem, Nat.reduceAdd, Nat.reduceMul, Nat.reduceSub, Nat.reduceEqDiff, Nat.reduceLeDiff, Nat.reduceMod, Nat.reduceLT, Int.reduceToNat, Int.reduceAdd, Int.reduceSub, Int.reduceMul, Int.reduceNeg, Int.reduceLE, Int.reduceLT, Int.reduceNe, Int.reduceEq, Int.reduceBEq, Int.reduceBNe, Int.reduceTMod, Int.reduceTDiv, Nat.reduceBEq]) | (refine allI (fun b => ?_)) | (refine allT (fun τ => ?_)) | (refine brP (fun h => ?_) (fun h => ?_) <;> (try simp only [zgx, zbx] at h)) | (apply And.intro; focus (first | omega | (simp; done) | (simp +contextual; done) | (intros; and_intros <;> first | assumption | omega) | (intros; simp_all; done) | (intro hgd; refine ⟨hgd, ?_⟩; simp [hgd]; done) | (intro hgd; simp only [zgx] at hgd ⊢; omega))) | fail)
      all_goals first
        | exact pureE_end (leV.refl _) ⟨_, fun _ => hS, rfl⟩
        | exact pureE_end (leV.refl _) ⟨_, hS, rfl⟩
        | refine callG_LU (fun hg => ?_) (fun hg => ?_)
      all_goals
        first
        | (have hg2 : (r.l != 3) = false := by simpa using hg
           first | refine pureE_U (clean4 r.p (by omega)) ?_ | refine pureE_T (clean4 r.p (by omega)) ?_ | refine pureE_of (clean4 r.p (by omega)) ?_
           rintro _ ⟨b, rfl⟩
           repeat' (first | (simp (disch := first | omega | (simp only [List.length_cons, List.length_nil]; first | done | omega)) only [go_sem, Nat.reduceAdd, Nat.reduceMul, Nat.reduceSub, Nat.reduceEqDiff, Nat.reduceLeDiff, Nat.reduceMod, Nat.reduceLT, Int.reduceToNat, Int.reduceAdd, Int.reduceSub, Int.reduceMul, Int.reduceNeg, Int.reduceLE, Int.reduceLT, Int.reduceNe, Int.reduceEq, Int.reduceBEq, Int.reduceBNe, Int.reduceTMod, Int.reduceTDiv, Nat.reduceBEq, hg2]) | (refine allI (fun b => ?_)) | (refine allT (fun τ => ?_)) | (refine brP (fun h => ?_) (fun h => ?_) <;> (try simp only [zgx, zbx] at h)) | (apply And.intro; focus (first | omega | (simp; done) | (simp +contextual; done) | (intros; and_intros <;> first | assumption | omega) | (intros; simp_all; done) | (intro hgd; refine ⟨hgd, ?_⟩; simp [hgd]; done) | (intro hgd; simp only [zgx] at hgd ⊢; omega))) | fail))
        | (have hg2 : (r.l != 3) = true := by simpa using hg
           repeat' (first | (simp (disch := first | omega | (simp only [List.length_cons, List.length_nil]; first | done | omega)) only [go_sem, Nat.reduceAdd, Nat.reduceMul, Nat.reduceSub, Nat.reduceEqDiff, Nat.reduceLeDiff, Nat.reduceMod, Nat.reduceLT, Int.reduceToNat, Int.reduceAdd, Int.reduceSub, Int.reduceMul, Int.reduceNeg, Int.reduceLE, Int.reduceLT, Int.reduceNe, Int.reduceEq, Int.reduceBEq, Int.reduceBNe, Int.reduceTMod, Int.reduceTDiv, Nat.reduceBEq, hg2, Bool.not_true, un_any, pick_00a]) | (refine allI (fun b => ?_)) | (refine allT (fun τ => ?_)) | (refine brP (fun h => ?_) (fun h => ?_) <;> (try simp only [zgx, zbx] at h)) | (apply And.intro; focus (first | omega | (simp; done) | (simp +contextual; done) | (intros; and_intros <;> first | assumption | omega) | (intros; simp_all; done) | (intro hgd; refine ⟨hgd, ?_⟩; simp [hgd]; done) | (intro hgd; simp only [zgx] at hgd ⊢; omega))) | fail))
      all_goals exact pureE_end (leV.refl _) ⟨_, fun _ => hS, rfl⟩
end Go.Proofs.Ytcngkeeknlloaaa
