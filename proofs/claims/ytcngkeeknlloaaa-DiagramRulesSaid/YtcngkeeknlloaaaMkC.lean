/- Lists of rules (the reference): Find, Check, Add. -/
import Derived.Test.YtcngkeeknlloaaaMkB
import Derived.Test.YtcngkeeknlloaaaCl28
namespace Go.Proofs.Ytcngkeeknlloaaa
open Go Go.Lx
set_option linter.unusedSimpArgs false
set_option linter.unusedVariables false
set_option maxRecDepth 100000
set_option maxHeartbeats 4000000

theorem zRl : zeros ([.int .i64 0, .int .i64 0, .int .u64 0, .fsl 1 0 [], .int .i64 0, .str [], .int .i64 0, .str []] : List LV) 8 = [.int .i64 0, .int .i64 0, .int .u64 0, .fsl 1 0 [], .int .i64 0, .str [], .int .i64 0, .str []] := Eq.trans rfl rfl
theorem eq13 (r q : Rl) (hr : smlR r) : PureE Try.prog gl 28 [.agg (RlC r), .agg (RlC q)] fun v => ∃ b, v = .bool b := by
  refine fn_viewT Try.func28 t28 Try.ntmps28 (by simp) ?_
  have hl := len_te r.ts
  have hl2 := len_te q.ts
  have hr1 := hr.1
  unfold c28 r28 RlC TsS
  repeat' (first | (simp (disch := first | omega | (simp only [List.length_cons, List.length_nil]; first | done | omega)) only [go_sem, Nat.reduceAdd, Nat.reduceMul, Nat.reduceSub, Nat.reduceEqDiff, Nat.reduceLeDiff, Nat.reduceMod, Nat.reduceLT, Int.reduceToNat, Int.reduceAdd, Int.reduceSub, Int.reduceMul, Int.reduceNeg, Int.reduceLE, Int.reduceLT, Int.reduceNe, Int.reduceEq, Int.reduceBEq, Int.reduceBNe, Int.reduceTMod, Int.reduceTDiv, Nat.reduceBEq]) | (refine allI (fun b => ?_)) | (refine allT (fun τ => ?_)) | (refine brP (fun h => ?_) (fun h => ?_) <;> (try simp only [zgx, zbx] at h)) | (apply And.intro; focus (first | omega | (simp; done) | (simp +contextual; done) | (intros; and_intros <;> first | assumption | omega) | (intros; simp_all; done) | (intro hgd; refine ⟨hgd, ?_⟩; simp [hgd]; done) | (intro hgd; simp only [zgx] at hgd ⊢; omega))) | fail)
  · exact pureE_end (leV.refl _) ⟨_, rfl⟩
  · have hlq : r.ts.length = q.ts.length := by
      rename_i h
      simp only [bne_eq_false_iff_eq] at h
      omega
    refine loopI (ι := Nat) (fun i => i ≤ r.ts.length) (fun i => (5, .int .i64 i) :: _) (fun _ => _) (fun i => r.ts.length - i) 0 (by omega) Ents.same ?_
    intro i hi
    simp (disch := first | omega | (simp only [List.length_cons, List.length_nil]; first | done | omega)) only [go_sem, Nat.reduceAdd, Nat.reduceMul, Nat.reduceSub, Nat.reduceEqDiff, Nat.reduceLeDiff, Nat.reduceMod, Nat.reduceLT, Int.reduceToNat, Int.reduceAdd, Int.reduceSub, Int.reduceMul, Int.reduceNeg, Int.reduceLE, Int.reduceLT, Int.reduceNe, Int.reduceEq, Int.reduceBEq, Int.reduceBNe, Int.reduceTMod, Int.reduceTDiv, Nat.reduceBEq]
    refine brP (fun hb => ?_) (fun hb => ?_)
    · have hlt : i < r.ts.length := by simpa using hb
      have e2 : ((r.ts.flatMap TeC).drop (i * 5)).take 5 = TeC (r.ts.getD i te0) := take_rows (f := TeC) (fun _ => rfl) te0 _ hlt
      have e3 : ((q.ts.flatMap TeC).drop (i * 5)).take 5 = TeC (q.ts.getD i te0) := take_rows (f := TeC) (fun _ => rfl) te0 _ (by omega)
      rw [TeC_eq] at e2 e3
      repeat' (first | (simp (disch := first | omega | (simp only [List.length_cons, List.length_nil]; first | done | omega)) only [go_sem, Nat.reduceAdd, Nat.reduceMul, Nat.reduceSub, Nat.reduceEqDiff, Nat.reduceLeDiff, Nat.reduceMod, Nat.reduceLT, Int.reduceToNat, Int.reduceAdd, Int.reduceSub, Int.reduceMul, Int.reduceNeg, Int.reduceLE, Int.reduceLT, Int.reduceNe, Int.reduceEq, Int.reduceBEq, Int.reduceBNe, Int.reduceTMod, Int.reduceTDiv, Nat.reduceBEq, e2, e3]) | (refine allI (fun b => ?_)) | (refine allT (fun τ => ?_)) | (refine brP (fun h => ?_) (fun h => ?_) <;> (try simp only [zgx, zbx] at h)) | (apply And.intro; focus (first | omega | (simp; done) | (simp +contextual; done) | (intros; and_intros <;> first | assumption | omega) | (intros; simp_all; done) | (intro hgd; refine ⟨hgd, ?_⟩; simp [hgd]; done) | (intro hgd; simp only [zgx] at hgd ⊢; omega))) | fail)
      · exact pureE_end (leV.refl _) ⟨_, rfl⟩
      · exact ⟨⟨i + 1, by omega⟩, by dsimp only; omega, Ents.envH (by simp [go_sem]) rfl⟩
    · repeat' (first | (simp (disch := first | omega | (simp only [List.length_cons, List.length_nil]; first | done | omega)) only [go_sem, Nat.reduceAdd, Nat.reduceMul, Nat.reduceSub, Nat.reduceEqDiff, Nat.reduceLeDiff, Nat.reduceMod, Nat.reduceLT, Int.reduceToNat, Int.reduceAdd, Int.reduceSub, Int.reduceMul, Int.reduceNeg, Int.reduceLE, Int.reduceLT, Int.reduceNe, Int.reduceEq, Int.reduceBEq, Int.reduceBNe, Int.reduceTMod, Int.reduceTDiv, Nat.reduceBEq]) | (refine allI (fun b => ?_)) | (refine allT (fun τ => ?_)) | (refine brP (fun h => ?_) (fun h => ?_) <;> (try simp only [zgx, zbx] at h)) | (apply And.intro; focus (first | omega | (simp; done) | (simp +contextual; done) | (intros; and_intros <;> first | assumption | omega) | (intros; simp_all; done) | (intro hgd; refine ⟨hgd, ?_⟩; simp [hgd]; done) | (intro hgd; simp only [zgx] at hgd ⊢; omega))) | fail)
      exact pureE_end (leV.refl _) ⟨_, rfl⟩
theorem crul (r : Rl) (hr : smlR r) : Pure Try.prog gl 72 [.agg (RlC r)] (.agg (RlC r)) := by
  refine fn_pureT Try.func72 t72 Try.ntmps72 (by simp) ?_
  have hl := len_te r.ts
  have hr1 := hr.1
  unfold c72 r72 RlC TsS
  repeat' (first | (simp (disch := first | omega | (simp only [List.length_cons, List.length_nil]; first | done | omega)) only [go_sem, Nat.reduceAdd, Nat.reduceMul, Nat.reduceSub, Nat.reduceEqDiff, Nat.reduceLeDiff, Nat.reduceMod, Nat.reduceLT, Int.reduceToNat, Int.reduceAdd, Int.reduceSub, Int.reduceMul, Int.reduceNeg, Int.reduceLE, Int.reduceLT, Int.reduceNe, Int.reduceEq, Int.reduceBEq, Int.reduceBNe, Int.reduceTMod, Int.reduceTDiv, Nat.reduceBEq]) | (refine allI (fun b => ?_)) | (refine allT (fun τ => ?_)) | (refine brP (fun h => ?_) (fun h => ?_) <;> (try simp only [zgx, zbx] at h)) | (apply And.intro; focus (first | omega | (simp; done) | (simp +contextual; done) | (intros; and_intros <;> first | assumption | omega) | (intros; simp_all; done) | (intro hgd; refine ⟨hgd, ?_⟩; simp [hgd]; done) | (intro hgd; simp only [zgx] at hgd ⊢; omega))) | fail)
  exact ⟨by simp only [roomy]; omega, fun τ => leV.agg ⟨leV.refl _, leV.refl _, leV.refl _, leV.osl_sl _ _ _ _ _, leV.refl _, leV.refl _, leV.refl _, leV.refl _, trivial⟩⟩
def smlRs (l : List Rl) : Prop := l.length ≤ 1000 ∧ ∀ r ∈ l, smlR r
theorem find14 (l : List Rl) (r : Rl) (hl : smlRs l) : PureE Try.prog gl 71 [RlS l, .agg (RlC r)] fun v => ∃ i, (-1 ≤ i) ∧ v = .int .i64 i := by
  refine fn_viewT Try.func71 t71 Try.ntmps71 (by simp) ?_
  obtain ⟨hl1, hl2⟩ := hl
  have hle := len_rl l
  unfold c71 r71 RlS
  simp (disch := first | omega | (simp only [List.length_cons, List.length_nil]; first | done | omega)) only [go_sem, Nat.reduceAdd, Nat.reduceMul, Nat.reduceSub, Nat.reduceEqDiff, Nat.reduceLeDiff, Nat.reduceMod, Nat.reduceLT, Int.reduceToNat, Int.reduceAdd, Int.reduceSub, Int.reduceMul, Int.reduceNeg, Int.reduceLE, Int.reduceLT, Int.reduceNe, Int.reduceEq, Int.reduceBEq, Int.reduceBNe, Int.reduceTMod, Int.reduceTDiv, Nat.reduceBEq]
  intro b
  refine loopI (ι := Nat) (fun i => i ≤ l.length) (fun i => (5, .int .i64 i) :: _) (fun _ => _) (fun i => l.length - i) 0 (by omega) Ents.same ?_
  intro i hi
  simp (disch := first | omega | (simp only [List.length_cons, List.length_nil]; first | done | omega)) only [go_sem, Nat.reduceAdd, Nat.reduceMul, Nat.reduceSub, Nat.reduceEqDiff, Nat.reduceLeDiff, Nat.reduceMod, Nat.reduceLT, Int.reduceToNat, Int.reduceAdd, Int.reduceSub, Int.reduceMul, Int.reduceNeg, Int.reduceLE, Int.reduceLT, Int.reduceNe, Int.reduceEq, Int.reduceBEq, Int.reduceBNe, Int.reduceTMod, Int.reduceTDiv, Nat.reduceBEq]
  refine brP (fun hb => ?_) (fun hb => ?_)
  · have hlt : i < l.length := by simpa using hb
    have e2 : ((l.flatMap RlC).drop (i * 8)).take 8 = RlC (l.getD i rl0) := take_rows (f := RlC) (fun _ => rfl) rl0 _ hlt
    have he := eq13 (l.getD i rl0) r (hl2 _ (getD_memA rl0 hlt))
    generalize l.getD i rl0 = q at *
    rw [RlC_eq, RlC_eq r] at *
    repeat' (first | (simp (disch := first | omega | (simp only [List.length_cons, List.length_nil]; first | done | omega)) only [go_sem, Nat.reduceAdd, Nat.reduceMul, Nat.reduceSub, Nat.reduceEqDiff, Nat.reduceLeDiff, Nat.reduceMod, Nat.reduceLT, Int.reduceToNat, Int.reduceAdd, Int.reduceSub, Int.reduceMul, Int.reduceNeg, Int.reduceLE, Int.reduceLT, Int.reduceNe, Int.reduceEq, Int.reduceBEq, Int.reduceBNe, Int.reduceTMod, Int.reduceTDiv, Nat.reduceBEq, e2]) | (refine allI (fun b => ?_)) | (refine allT (fun τ => ?_)) | (refine brP (fun h => ?_) (fun h => ?_) <;> (try simp only [zgx, zbx] at h)) | (apply And.intro; focus (first | omega | (simp; done) | (simp +contextual; done) | (intros; and_intros <;> first | assumption | omega) | (intros; simp_all; done) | (intro hgd; refine ⟨hgd, ?_⟩; simp [hgd]; done) | (intro hgd; simp only [zgx] at hgd ⊢; omega))) | fail)
    first | refine pureE_U (he) ?_ | refine pureE_T (he) ?_ | refine pureE_of (he) ?_
    rintro _ ⟨b, rfl⟩
    repeat' (first | (simp (disch := first | omega | (simp only [List.length_cons, List.length_nil]; first | done | omega)) only [go_sem, Nat.reduceAdd, Nat.reduceMul, Nat.reduceSub, Nat.reduceEqDiff, Nat.reduceLeDiff, Nat.reduceMod, Nat.reduceLT, Int.reduceToNat, Int.reduceAdd, Int.reduceSub, Int.reduceMul, Int.reduceNeg, Int.reduceLE, Int.reduceLT, Int.reduceNe, Int.reduceEq, Int.reduceBEq, Int.reduceBNe, Int.reduceTMod, Int.reduceTDiv, Nat.reduceBEq]) | (refine allI (fun b => ?_)) | (refine allT (fun τ => ?_)) | (refine brP (fun h => ?_) (fun h => ?_) <;> (try simp only [zgx, zbx] at h)) | (apply And.intro; focus (first | omega | (simp; done) | (simp +contextual; done) | (intros; and_intros <;> first | assumption | omega) | (intros; simp_all; done) | (intro hgd; refine ⟨hgd, ?_⟩; simp [hgd]; done) | (intro hgd; simp only [zgx] at hgd ⊢; omega))) | fail)
    · exact pureE_end (leV.refl _) ⟨_, by omega, rfl⟩
    · exact ⟨⟨i + 1, by omega⟩, by dsimp only; omega, Ents.envH (by simp [go_sem]) rfl⟩
  · repeat' (first | (simp (disch := first | omega | (simp only [List.length_cons, List.length_nil]; first | done | omega)) only [go_sem, Nat.reduceAdd, Nat.reduceMul, Nat.reduceSub, Nat.reduceEqDiff, Nat.reduceLeDiff, Nat.reduceMod, Nat.reduceLT, Int.reduceToNat, Int.reduceAdd, Int.reduceSub, Int.reduceMul, Int.reduceNeg, Int.reduceLE, Int.reduceLT, Int.reduceNe, Int.reduceEq, Int.reduceBEq, Int.reduceBNe, Int.reduceTMod, Int.reduceTDiv, Nat.reduceBEq]) | (refine allI (fun b => ?_)) | (refine allT (fun τ => ?_)) | (refine brP (fun h => ?_) (fun h => ?_) <;> (try simp only [zgx, zbx] at h)) | (apply And.intro; focus (first | omega | (simp; done) | (simp +contextual; done) | (intros; and_intros <;> first | assumption | omega) | (intros; simp_all; done) | (intro hgd; refine ⟨hgd, ?_⟩; simp [hgd]; done) | (intro hgd; simp only [zgx] at hgd ⊢; omega))) | fail)
    exact pureE_end (leV.refl _) ⟨_, by omega, rfl⟩
theorem copy14 (l : List Rl) (hl : smlRs l) : NewsE Try.prog gl 73 [RlS l] 3100 fun r e => ∃ τ, r = .osl 3100 τ 8 l.length (l.flatMap RlC) ∧ e = .tok τ := by
  refine NewsE.name (i := 18) (Q := fun r e => ∃ τ, r = .osl 18 τ 8 l.length (l.flatMap RlC) ∧ e = .tok τ) ?_ fun r e ⟨τ, h1, h2⟩ => ⟨.osl 3100 τ 8 l.length (l.flatMap RlC), by subst h1; exact leV.osl_name _ _ _ _ _ _, τ, rfl, h2⟩
  refine fn_viewT Try.func73 t73 Try.ntmps73 (by simp) ?_
  obtain ⟨hl1, hl2⟩ := hl
  have hle := len_rl l
  unfold c73 r73 RlS
  simp (disch := first | omega | (simp only [List.length_cons, List.length_nil]; first | done | omega)) only [go_sem, Nat.reduceAdd, Nat.reduceMul, Nat.reduceSub, Nat.reduceEqDiff, Nat.reduceLeDiff, Nat.reduceMod, Nat.reduceLT, Int.reduceToNat, Int.reduceAdd, Int.reduceSub, Int.reduceMul, Int.reduceNeg, Int.reduceLE, Int.reduceLT, Int.reduceNe, Int.reduceEq, Int.reduceBEq, Int.reduceBNe, Int.reduceTMod, Int.reduceTDiv, Nat.reduceBEq]
  refine loopI (ι := Nat × Tok) (fun y => y.1 ≤ l.length) (fun y => [(4, .int .i64 y.1), (3, .osl 18 y.2 8 y.1 ((l.take y.1).flatMap RlC)), (2, .fsl 1 0 []), (0, .sl 8 l.length (l.flatMap RlC))]) (fun y => [(18, .tok y.2)]) (fun y => l.length - y.1) (0, ⟨0, 0, 0⟩) (by simp) (Ents.dummyE 18 (by simp [go_sem, envLe, leV.nil_osl])) ?_
  rintro ⟨i, τ⟩ hi
  dsimp only at hi ⊢
  simp (disch := first | omega | (simp only [List.length_cons, List.length_nil]; first | done | omega)) only [go_sem, Nat.reduceAdd, Nat.reduceMul, Nat.reduceSub, Nat.reduceEqDiff, Nat.reduceLeDiff, Nat.reduceMod, Nat.reduceLT, Int.reduceToNat, Int.reduceAdd, Int.reduceSub, Int.reduceMul, Int.reduceNeg, Int.reduceLE, Int.reduceLT, Int.reduceNe, Int.reduceEq, Int.reduceBEq, Int.reduceBNe, Int.reduceTMod, Int.reduceTDiv, Nat.reduceBEq]
  refine brP (fun hb => ?_) (fun hb => ?_)
  · have hlt : i < l.length := by simpa using hb
    have e2 : ((l.flatMap RlC).drop (i * 8)).take 8 = RlC (l.getD i rl0) := take_rows (f := RlC) (fun _ => rfl) rl0 _ hlt
    have hc := crul (l.getD i rl0) (hl2 _ (getD_memA rl0 hlt))
    have hts := take_succ_getD rl0 l hlt
    generalize l.getD i rl0 = r at *
    rw [RlC_eq] at e2 hc
    repeat' (first | (simp (disch := first | omega | (simp only [List.length_cons, List.length_nil]; first | done | omega)) only [go_sem, Nat.reduceAdd, Nat.reduceMul, Nat.reduceSub, Nat.reduceEqDiff, Nat.reduceLeDiff, Nat.reduceMod, Nat.reduceLT, Int.reduceToNat, Int.reduceAdd, Int.reduceSub, Int.reduceMul, Int.reduceNeg, Int.reduceLE, Int.reduceLT, Int.reduceNe, Int.reduceEq, Int.reduceBEq, Int.reduceBNe, Int.reduceTMod, Int.reduceTDiv, Nat.reduceBEq, e2, zRl]) | (refine allI (fun b => ?_)) | (refine allT (fun τ => ?_)) | (refine brP (fun h => ?_) (fun h => ?_) <;> (try simp only [zgx, zbx] at h)) | refine call_U (hc) ?_ | refine callG_U (fun _ => hc) ?_ | refine call_T (hc) ?_ | refine callG_T (fun _ => hc) ?_ | refine call_N (hc) ?_ | refine call_of (hc) ?_ | refine callG_of (fun _ => hc) ?_ | (apply And.intro; focus (first | omega | (simp; done) | (simp +contextual; done) | (intros; and_intros <;> first | assumption | omega) | (intros; simp_all; done) | (intro hgd; refine ⟨hgd, ?_⟩; simp [hgd]; done) | (intro hgd; simp only [zgx] at hgd ⊢; omega))) | fail)
    refine ⟨by simp only [roomy]; omega, fun t => ⟨⟨(i + 1, t), by dsimp only; omega⟩, by dsimp only; omega, Ents.envH ⟨leV.refl _, leV.of_eq ?_, leV.refl _, leV.refl _, trivial⟩ rfl⟩⟩
    simp [go_sem, hts, List.flatMap_append, RlC_eq]
  · have hlen : i = l.length := by simp only [decide_eq_false_iff_not] at hb; omega
    repeat' (first | (simp (disch := first | omega | (simp only [List.length_cons, List.length_nil]; first | done | omega)) only [go_sem, Nat.reduceAdd, Nat.reduceMul, Nat.reduceSub, Nat.reduceEqDiff, Nat.reduceLeDiff, Nat.reduceMod, Nat.reduceLT, Int.reduceToNat, Int.reduceAdd, Int.reduceSub, Int.reduceMul, Int.reduceNeg, Int.reduceLE, Int.reduceLT, Int.reduceNe, Int.reduceEq, Int.reduceBEq, Int.reduceBNe, Int.reduceTMod, Int.reduceTDiv, Nat.reduceBEq]) | (refine allI (fun b => ?_)) | (refine allT (fun τ => ?_)) | (refine brP (fun h => ?_) (fun h => ?_) <;> (try simp only [zgx, zbx] at h)) | (apply And.intro; focus (first | omega | (simp; done) | (simp +contextual; done) | (intros; and_intros <;> first | assumption | omega) | (intros; simp_all; done) | (intro hgd; refine ⟨hgd, ?_⟩; simp [hgd]; done) | (intro hgd; simp only [zgx] at hgd ⊢; omega))) | fail)
    exact viewE_end (leV.refl _) (List.Sublist.refl _) ⟨τ, by rw [hlen, List.take_length], rfl⟩
theorem smlRs.take {l : List Rl} (h : smlRs l) (i : Nat) : smlRs (l.take i) := ⟨by rw [List.length_take]; have := h.1; omega, fun r hr => h.2 r (List.mem_of_mem_take hr)⟩
theorem chk14 (l : List Rl) (hl : smlRs l) : PureE Try.prog gl 69 [RlS l] fun v => ∃ e, (e = 0 → l.length ≤ 24) ∧ v = .int .i64 e := by
  refine fn_viewT Try.func69 t69 Try.ntmps69 (by simp) ?_
  have hls := hl
  obtain ⟨hl1, hl2⟩ := hl
  have hle := len_rl l
  unfold c69 r69 RlS
  repeat' (first | (simp (disch := first | omega | (simp only [List.length_cons, List.length_nil]; first | done | omega)) only [go_sem, Nat.reduceAdd, Nat.reduceMul, Nat.reduceSub, Nat.reduceEqDiff, Nat.reduceLeDiff, Nat.reduceMod, Nat.reduceLT, Int.reduceToNat, Int.reduceAdd, Int.reduceSub, Int.reduceMul, Int.reduceNeg, Int.reduceLE, Int.reduceLT, Int.reduceNe, Int.reduceEq, Int.reduceBEq, Int.reduceBNe, Int.reduceTMod, Int.reduceTDiv, Nat.reduceBEq]) | (refine allI (fun b => ?_)) | (refine allT (fun τ => ?_)) | (refine brP (fun h => ?_) (fun h => ?_) <;> (try simp only [zgx, zbx] at h)) | (apply And.intro; focus (first | omega | (simp; done) | (simp +contextual; done) | (intros; and_intros <;> first | assumption | omega) | (intros; simp_all; done) | (intro hgd; refine ⟨hgd, ?_⟩; simp [hgd]; done) | (intro hgd; simp only [zgx] at hgd ⊢; omega))) | fail)
  · exact pureE_end (leV.refl _) ⟨_, fun h => absurd h (by decide), rfl⟩
  · refine loopI (ι := Nat) (fun i => i ≤ l.length) (fun i => (3, .int .i64 i) :: _) (fun _ => _) (fun i => l.length - i) 0 (by omega) Ents.same ?_
    intro i hi
    simp (disch := first | omega | (simp only [List.length_cons, List.length_nil]; first | done | omega)) only [go_sem, Nat.reduceAdd, Nat.reduceMul, Nat.reduceSub, Nat.reduceEqDiff, Nat.reduceLeDiff, Nat.reduceMod, Nat.reduceLT, Int.reduceToNat, Int.reduceAdd, Int.reduceSub, Int.reduceMul, Int.reduceNeg, Int.reduceLE, Int.reduceLT, Int.reduceNe, Int.reduceEq, Int.reduceBEq, Int.reduceBNe, Int.reduceTMod, Int.reduceTDiv, Nat.reduceBEq]
    refine brP (fun hb => ?_) (fun hb => ?_)
    · have hlt : i < l.length := by simpa using hb
      have e2 : ((l.flatMap RlC).drop (i * 8)).take 8 = RlC (l.getD i rl0) := take_rows (f := RlC) (fun _ => rfl) rl0 _ hlt
      have hc := chk13 (l.getD i rl0) (hl2 _ (getD_memA rl0 hlt))
      have hf := find14 (l.take i) (l.getD i rl0) (hls.take i)
      have htl : (l.flatMap RlC).take (i * 8) = (l.take i).flatMap RlC := taken_rows (f := RlC) (fun _ => rfl) l i
      have hln : (l.take i).length = i := by rw [List.length_take]; omega
      rw [RlS_eq, hln] at hf
      generalize l.getD i rl0 = q at *
      rw [RlC_eq] at *
      repeat' (first | (simp (disch := first | omega | (simp only [List.length_cons, List.length_nil]; first | done | omega)) only [go_sem, Nat.reduceAdd, Nat.reduceMul, Nat.reduceSub, Nat.reduceEqDiff, Nat.reduceLeDiff, Nat.reduceMod, Nat.reduceLT, Int.reduceToNat, Int.reduceAdd, Int.reduceSub, Int.reduceMul, Int.reduceNeg, Int.reduceLE, Int.reduceLT, Int.reduceNe, Int.reduceEq, Int.reduceBEq, Int.reduceBNe, Int.reduceTMod, Int.reduceTDiv, Nat.reduceBEq, e2]) | (refine allI (fun b => ?_)) | (refine allT (fun τ => ?_)) | (refine brP (fun h => ?_) (fun h => ?_) <;> (try simp only [zgx, zbx] at h)) | (apply And.intro; focus (first | omega | (simp; done) | (simp +contextual; done) | (intros; and_intros <;> first | assumption | omega) | (intros; simp_all; done) | (intro hgd; refine ⟨hgd, ?_⟩; simp [hgd]; done) | (intro hgd; simp only [zgx] at hgd ⊢; omega))) | fail)
      first | refine pureE_U (hc) ?_ | refine pureE_T (hc) ?_ | refine pureE_of (hc) ?_
      rintro _ ⟨e, he, rfl⟩
      repeat' (first | (simp (disch := first | omega | (simp only [List.length_cons, List.length_nil]; first | done | omega)) only [go_sem, Nat.reduceAdd, Nat.reduceMul, Nat.reduceSub, Nat.reduceEqDiff, Nat.reduceLeDiff, Nat.reduceMod, Nat.reduceLT, Int.reduceToNat, Int.reduceAdd, Int.reduceSub, Int.reduceMul, Int.reduceNeg, Int.reduceLE, Int.reduceLT, Int.reduceNe, Int.reduceEq, Int.reduceBEq, Int.reduceBNe, Int.reduceTMod, Int.reduceTDiv, Nat.reduceBEq, e2, htl, Nat.sub_zero]) | (refine allI (fun b => ?_)) | (refine allT (fun τ => ?_)) | (refine brP (fun h => ?_) (fun h => ?_) <;> (try simp only [zgx, zbx] at h)) | (apply And.intro; focus (first | omega | (simp; done) | (simp +contextual; done) | (intros; and_intros <;> first | assumption | omega) | (intros; simp_all; done) | (intro hgd; refine ⟨hgd, ?_⟩; simp [hgd]; done) | (intro hgd; simp only [zgx] at hgd ⊢; omega))) | fail)
      · exact pureE_end (leV.refl _) ⟨_, by omega, rfl⟩
      · first | refine pureE_U (hf) ?_ | refine pureE_T (hf) ?_ | refine pureE_of (hf) ?_
        rintro _ ⟨k, hk, rfl⟩
        repeat' (first | (simp (disch := first | omega | (simp only [List.length_cons, List.length_nil]; first | done | omega)) only [go_sem, Nat.reduceAdd, Nat.reduceMul, Nat.reduceSub, Nat.reduceEqDiff, Nat.reduceLeDiff, Nat.reduceMod, Nat.reduceLT, Int.reduceToNat, Int.reduceAdd, Int.reduceSub, Int.reduceMul, Int.reduceNeg, Int.reduceLE, Int.reduceLT, Int.reduceNe, Int.reduceEq, Int.reduceBEq, Int.reduceBNe, Int.reduceTMod, Int.reduceTDiv, Nat.reduceBEq]) | (refine allI (fun b => ?_)) | (refine allT (fun τ => ?_)) | (refine brP (fun h => ?_) (fun h => ?_) <;> (try simp only [zgx, zbx] at h)) | (apply And.intro; focus (first | omega | (simp; done) | (simp +contextual; done) | (intros; and_intros <;> first | assumption | omega) | (intros; simp_all; done) | (intro hgd; refine ⟨hgd, ?_⟩; simp [hgd]; done) | (intro hgd; simp only [zgx] at hgd ⊢; omega))) | fail)
        · exact pureE_end (leV.refl _) ⟨_, by omega, rfl⟩
        · exact ⟨⟨i + 1, by omega⟩, by dsimp only; omega, Ents.envH (by simp [go_sem]) rfl⟩
    · repeat' (first | (simp (disch := first | omega | (simp only [List.length_cons, List.length_nil]; first | done | omega)) only [go_sem, Nat.reduceAdd, Nat.reduceMul, Nat.reduceSub, Nat.reduceEqDiff, Nat.reduceLeDiff, Nat.reduceMod, Nat.reduceLT, Int.reduceToNat, Int.reduceAdd, Int.reduceSub, Int.reduceMul, Int.reduceNeg, Int.reduceLE, Int.reduceLT, Int.reduceNe, Int.reduceEq, Int.reduceBEq, Int.reduceBNe, Int.reduceTMod, Int.reduceTDiv, Nat.reduceBEq]) | (refine allI (fun b => ?_)) | (refine allT (fun τ => ?_)) | (refine brP (fun h => ?_) (fun h => ?_) <;> (try simp only [zgx, zbx] at h)) | (apply And.intro; focus (first | omega | (simp; done) | (simp +contextual; done) | (intros; and_intros <;> first | assumption | omega) | (intros; simp_all; done) | (intro hgd; refine ⟨hgd, ?_⟩; simp [hgd]; done) | (intro hgd; simp only [zgx] at hgd ⊢; omega))) | fail)
      exact pureE_end (leV.refl _) ⟨_, by omega, rfl⟩
def AddQ (l : List Rl) (r : Rl) (v : LV) : Prop := ∃ rs e, (e = 0 → (rs = r :: l ∨ rs = l ++ [r])) ∧ v = .tup [RlS rs, .int .i64 e]
theorem add_err (l : List Rl) (r : Rl) (e : Int) (he : e ≠ 0) (H : Heap) : ∃ r' H', leVH gl (.tup [.fsl 1 0 [], .int .i64 e]) H r' H' ∧ H' = [] ∧ AddQ l r r' :=
  pureE_end (r := .tup [RlS [], .int .i64 e]) (leV.tup ⟨leV.nil_sl _ _, leV.refl _, trivial⟩) ⟨[], e, fun h => absurd h he, rfl⟩
theorem add14 (l : List Rl) (r : Rl) (hl : smlRs l) (hr : smlR r) (b : Bool) : PureE Try.prog gl 53 [RlS l, .agg (RlC r), .bool b] (AddQ l r) := by
  refine fn_viewT Try.func53 t53 Try.ntmps53 (by simp) ?_
  have h1 := chk14 l hl
  have h2 := chk13 r hr
  have h3 := find14 l r hl
  have h4 := copy14 l hl
  have h5 := crul r hr
  have hle := len_rl l
  have hl1 := hl.1
  have hRl : RlC r = _ := RlC_eq r
  unfold c53 r53
  rw [RlS_eq, RlC_eq] at *
  simp (disch := first | omega | (simp only [List.length_cons, List.length_nil]; first | done | omega)) only [go_sem, Nat.reduceAdd, Nat.reduceMul, Nat.reduceSub, Nat.reduceEqDiff, Nat.reduceLeDiff, Nat.reduceMod, Nat.reduceLT, Int.reduceToNat, Int.reduceAdd, Int.reduceSub, Int.reduceMul, Int.reduceNeg, Int.reduceLE, Int.reduceLT, Int.reduceNe, Int.reduceEq, Int.reduceBEq, Int.reduceBNe, Int.reduceTMod, Int.reduceTDiv, Nat.reduceBEq]
  intro b4
  first | refine pureE_U (h1) ?_ | refine pureE_T (h1) ?_ | refine pureE_of (h1) ?_
  rintro _ ⟨e, he, rfl⟩
  repeat' (first | (simp (disch := first | omega | (simp only [List.length_cons, List.length_nil]; first | done | omega)) only [go_sem, Nat.reduceAdd, Nat.reduceMul, Nat.reduceSub, Nat.reduceEqDiff, Nat.reduceLeDiff, Nat.reduceMod, Nat.reduceLT, Int.reduceToNat, Int.reduceAdd, Int.reduceSub, Int.reduceMul, Int.reduceNeg, Int.reduceLE, Int.reduceLT, Int.reduceNe, Int.reduceEq, Int.reduceBEq, Int.reduceBNe, Int.reduceTMod, Int.reduceTDiv, Nat.reduceBEq]) | (refine allI (fun b => ?_)) | (refine allT (fun τ => ?_)) | (refine brP (fun h => ?_) (fun h => ?_) <;> (try simp only [zgx, zbx] at h)) | (apply And.intro; focus (first | omega | (simp; done) | (simp +contextual; done) | (intros; and_intros <;> first | assumption | omega) | (intros; simp_all; done) | (intro hgd; refine ⟨hgd, ?_⟩; simp [hgd]; done) | (intro hgd; simp only [zgx] at hgd ⊢; omega))) | fail)
  · exact add_err l r _ (by assumption) _
  · first | refine pureE_U (h2) ?_ | refine pureE_T (h2) ?_ | refine pureE_of (h2) ?_
    rintro _ ⟨e2, he2, rfl⟩
    repeat' (first | (simp (disch := first | omega | (simp only [List.length_cons, List.length_nil]; first | done | omega)) only [go_sem, Nat.reduceAdd, Nat.reduceMul, Nat.reduceSub, Nat.reduceEqDiff, Nat.reduceLeDiff, Nat.reduceMod, Nat.reduceLT, Int.reduceToNat, Int.reduceAdd, Int.reduceSub, Int.reduceMul, Int.reduceNeg, Int.reduceLE, Int.reduceLT, Int.reduceNe, Int.reduceEq, Int.reduceBEq, Int.reduceBNe, Int.reduceTMod, Int.reduceTDiv, Nat.reduceBEq]) | (refine allI (fun b => ?_)) | (refine allT (fun τ => ?_)) | (refine brP (fun h => ?_) (fun h => ?_) <;> (try simp only [zgx, zbx] at h)) | (apply And.intro; focus (first | omega | (simp; done) | (simp +contextual; done) | (intros; and_intros <;> first | assumption | omega) | (intros; simp_all; done) | (intro hgd; refine ⟨hgd, ?_⟩; simp [hgd]; done) | (intro hgd; simp only [zgx] at hgd ⊢; omega))) | fail)
    · exact add_err l r _ (by assumption) _
    · first | refine pureE_U (h3) ?_ | refine pureE_T (h3) ?_ | refine pureE_of (h3) ?_
      rintro _ ⟨k, hk, rfl⟩
      repeat' (first | (simp (disch := first | omega | (simp only [List.length_cons, List.length_nil]; first | done | omega)) only [go_sem, Nat.reduceAdd, Nat.reduceMul, Nat.reduceSub, Nat.reduceEqDiff, Nat.reduceLeDiff, Nat.reduceMod, Nat.reduceLT, Int.reduceToNat, Int.reduceAdd, Int.reduceSub, Int.reduceMul, Int.reduceNeg, Int.reduceLE, Int.reduceLT, Int.reduceNe, Int.reduceEq, Int.reduceBEq, Int.reduceBNe, Int.reduceTMod, Int.reduceTDiv, Nat.reduceBEq, zRl]) | (refine allI (fun b => ?_)) | (refine allT (fun τ => ?_)) | (refine brP (fun h => ?_) (fun h => ?_) <;> (try simp only [zgx, zbx] at h)) | refine call_U (h5) ?_ | refine callG_U (fun _ => h5) ?_ | refine call_T (h5) ?_ | refine callG_T (fun _ => h5) ?_ | refine call_N (h5) ?_ | refine call_of (h5) ?_ | refine callG_of (fun _ => h5) ?_ | (apply And.intro; focus (first | omega | (simp; done) | (simp +contextual; done) | (intros; and_intros <;> first | assumption | omega) | (intros; simp_all; done) | (intro hgd; refine ⟨hgd, ?_⟩; simp [hgd]; done) | (intro hgd; simp only [zgx] at hgd ⊢; omega))) | fail)
      · exact add_err l r _ (by decide) _
      · exact add_err l r _ (by decide) _
      · first | refine newsE_U (h4) ?_ | refine newsE_T (h4) ?_ | refine newsE_of (h4) ?_
        rintro _ _ ⟨τ, rfl, rfl⟩
        repeat' (first | (simp (disch := first | omega | (simp only [List.length_cons, List.length_nil]; first | done | omega)) only [go_sem, Nat.reduceAdd, Nat.reduceMul, Nat.reduceSub, Nat.reduceEqDiff, Nat.reduceLeDiff, Nat.reduceMod, Nat.reduceLT, Int.reduceToNat, Int.reduceAdd, Int.reduceSub, Int.reduceMul, Int.reduceNeg, Int.reduceLE, Int.reduceLT, Int.reduceNe, Int.reduceEq, Int.reduceBEq, Int.reduceBNe, Int.reduceTMod, Int.reduceTDiv, Nat.reduceBEq, zRl]) | (refine allI (fun b => ?_)) | (refine allT (fun τ => ?_)) | (refine brP (fun h => ?_) (fun h => ?_) <;> (try simp only [zgx, zbx] at h)) | refine call_U (h5) ?_ | refine callG_U (fun _ => h5) ?_ | refine call_T (h5) ?_ | refine callG_T (fun _ => h5) ?_ | refine call_N (h5) ?_ | refine call_of (h5) ?_ | refine callG_of (fun _ => h5) ?_ | (apply And.intro; focus (first | omega | (simp; done) | (simp +contextual; done) | (intros; and_intros <;> first | assumption | omega) | (intros; simp_all; done) | (intro hgd; refine ⟨hgd, ?_⟩; simp [hgd]; done) | (intro hgd; simp only [zgx] at hgd ⊢; omega))) | fail)
        refine ⟨by simp only [roomy]; omega, fun τ1 => pureE_end (r := .tup [RlS (r :: l), .int .i64 0]) (leV.tup ⟨(leV.osl_sl _ _ _ _ _).trans (leV.of_eq ?_), leV.refl _, trivial⟩) ⟨_, _, fun _ => .inl rfl, rfl⟩⟩
        simp [RlS, RlC_eq, Nat.add_comm]
      · try first | refine newsE_U (h4) ?_ | refine newsE_T (h4) ?_ | refine newsE_of (h4) ?_
        rintro _ _ ⟨τ, rfl, rfl⟩
        repeat' (first | (simp (disch := first | omega | (simp only [List.length_cons, List.length_nil]; first | done | omega)) only [go_sem, Nat.reduceAdd, Nat.reduceMul, Nat.reduceSub, Nat.reduceEqDiff, Nat.reduceLeDiff, Nat.reduceMod, Nat.reduceLT, Int.reduceToNat, Int.reduceAdd, Int.reduceSub, Int.reduceMul, Int.reduceNeg, Int.reduceLE, Int.reduceLT, Int.reduceNe, Int.reduceEq, Int.reduceBEq, Int.reduceBNe, Int.reduceTMod, Int.reduceTDiv, Nat.reduceBEq, zRl]) | (refine allI (fun b => ?_)) | (refine allT (fun τ => ?_)) | (refine brP (fun h => ?_) (fun h => ?_) <;> (try simp only [zgx, zbx] at h)) | refine call_U (h5) ?_ | refine callG_U (fun _ => h5) ?_ | refine call_T (h5) ?_ | refine callG_T (fun _ => h5) ?_ | refine call_N (h5) ?_ | refine call_of (h5) ?_ | refine callG_of (fun _ => h5) ?_ | (apply And.intro; focus (first | omega | (simp; done) | (simp +contextual; done) | (intros; and_intros <;> first | assumption | omega) | (intros; simp_all; done) | (intro hgd; refine ⟨hgd, ?_⟩; simp [hgd]; done) | (intro hgd; simp only [zgx] at hgd ⊢; omega))) | fail)
        refine ⟨by simp only [roomy]; omega, fun τ1 => pureE_end (r := .tup [RlS (l ++ [r]), .int .i64 0]) (leV.tup ⟨(leV.osl_sl _ _ _ _ _).trans (leV.of_eq ?_), leV.refl _, trivial⟩) ⟨_, _, fun _ => .inr rfl, rfl⟩⟩
        simp [RlS, RlC_eq]
end Go.Proofs.Ytcngkeeknlloaaa
