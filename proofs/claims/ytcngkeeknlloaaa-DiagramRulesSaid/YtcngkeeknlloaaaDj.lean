/- Layer 16: the reference's Atoms. -/
import Derived.Test.YtcngkeeknlloaaaDc
namespace Go.Proofs.Ytcngkeeknlloaaa
open Go Go.Lx
set_option linter.unusedSimpArgs false
set_option linter.unusedVariables false
set_option maxRecDepth 100000
set_option maxHeartbeats 4000000

theorem ratoms (l : List Rl) (wh : List Int) (h1 : l.length ≤ 1000000) (h2 : wh.length ≤ 1000000) (h4 : ∀ r ∈ l, r.ts.length ≤ 1000000) : Pure Try.prog gl 24 [RlS l, WhS wh] (.tup [AtS (atomsR l wh).1, .int .i64 (atomsR l wh).2]) := by
  refine fn_pureT Try.func24 t24 Try.ntmps24 (by simp) ?_
  have hlr := len_rl l
  have hlm : (wh.map (LV.int .i64)).length = wh.length := List.length_map _
  have hR : atomsR l wh = if goodW l.length wh then (match gather [] (allA l wh) with
    | some x => (x, (0 : Int))
    | none => ([], (161 : Int))) else ([], (160 : Int)) := rfl
  unfold c24 r24
  rw [RlS_eq, WhS_eq]
  repeat' (first | (simp (disch := first | omega | (simp only [List.length_cons, List.length_nil]; first | done | omega)) only [go_sem, Nat.reduceAdd, Nat.reduceMul, Nat.reduceSub, Nat.reduceEqDiff, Nat.reduceLeDiff, Nat.reduceMod, Nat.reduceLT, Int.reduceToNat, Int.reduceAdd, Int.reduceSub, Int.reduceMul, Int.reduceNeg, Int.reduceLE, Int.reduceLT, Int.reduceNe, Int.reduceEq, Int.reduceBEq, Int.reduceBNe, Int.reduceTMod, Int.reduceTDiv, Nat.reduceBEq]) | (refine allI (fun b => ?_)) | (refine allT (fun τ => ?_)) | (refine brP (fun h => ?_) (fun h => ?_) <;> (try simp only [zgx, zbx] at h)) | (apply And.intro; focus (first | omega | (simp; done) | (simp +contextual; done) | (intros; and_intros <;> first | assumption | omega) | (intros; simp_all; done) | (intro hgd; refine ⟨hgd, ?_⟩; simp [hgd]; done) | (intro hgd; simp only [zgx] at hgd ⊢; omega))) | fail)
  refine loopI (ι := Nat) (fun i => i ≤ wh.length ∧ ∀ k, k < i → (0 ≤ wh.getD k 0 ∧ wh.getD k 0 < l.length) ∧ wh.getD k 0 ∉ wh.take k) (fun i => [(6, .int .i64 i), (0, .sl 8 l.length (l.flatMap RlC)), (1, .sl 1 wh.length (wh.map (LV.int .i64)))]) (fun i => []) (fun i => wh.length - i) 0 ⟨by omega, fun k hk => absurd hk (by omega)⟩ (Ents.envH (by simp [go_sem]) rfl) ?_
  rintro i ⟨hi, hg⟩
  simp (disch := first | omega | (simp only [List.length_cons, List.length_nil]; first | done | omega)) only [go_sem, Nat.reduceAdd, Nat.reduceMul, Nat.reduceSub, Nat.reduceEqDiff, Nat.reduceLeDiff, Nat.reduceMod, Nat.reduceLT, Int.reduceToNat, Int.reduceAdd, Int.reduceSub, Int.reduceMul, Int.reduceNeg, Int.reduceLE, Int.reduceLT, Int.reduceNe, Int.reduceEq, Int.reduceBEq, Int.reduceBNe, Int.reduceTMod, Int.reduceTDiv, Nat.reduceBEq]
  refine brP (fun hb => ?_) (fun hb => ?_)
  · have hlt : i < wh.length := by simpa using hb
    have g1 : (wh.map (LV.int .i64)).getD i .any = .int .i64 (wh.getD i 0) := by simp [List.getD, hlt]
    have hnot := goodW_not (n := l.length) hlt
    generalize hw : wh.getD i 0 = w at *
    repeat' (first | (simp (disch := first | omega | (simp only [List.length_cons, List.length_nil]; first | done | omega)) only [go_sem, Nat.reduceAdd, Nat.reduceMul, Nat.reduceSub, Nat.reduceEqDiff, Nat.reduceLeDiff, Nat.reduceMod, Nat.reduceLT, Int.reduceToNat, Int.reduceAdd, Int.reduceSub, Int.reduceMul, Int.reduceNeg, Int.reduceLE, Int.reduceLT, Int.reduceNe, Int.reduceEq, Int.reduceBEq, Int.reduceBNe, Int.reduceTMod, Int.reduceTDiv, Nat.reduceBEq, g1, Nat.mul_one]) | (refine allI (fun b => ?_)) | (refine allT (fun τ => ?_)) | (refine brP (fun h => ?_) (fun h => ?_) <;> (try simp only [zgx, zbx] at h)) | (apply And.intro; focus (first | omega | (simp; done) | (simp +contextual; done) | (intros; and_intros <;> first | assumption | omega) | (intros; simp_all; done) | (intro hgd; refine ⟨hgd, ?_⟩; simp [hgd]; done) | (intro hgd; simp only [zgx] at hgd ⊢; omega))) | fail)
    · rw [hR, hnot (.inl (by omega))]
      exact leV.tup ⟨leV.nil_sl _ _, leV.refl _, trivial⟩
    · refine loopI (ι := Nat) (fun k => k ≤ i ∧ ∀ m, m < k → wh.getD m 0 ≠ w) (fun k => [(7, .int .i64 k), (6, .int .i64 i), (0, .sl 8 l.length (l.flatMap RlC)), (1, .sl 1 wh.length (wh.map (LV.int .i64)))]) (fun k => []) (fun k => i - k) 0 ⟨by omega, fun m hm => absurd hm (by omega)⟩ (Ents.envH (by simp [go_sem]) rfl) ?_
      rintro k ⟨hk, hgk⟩
      simp (disch := first | omega | (simp only [List.length_cons, List.length_nil]; first | done | omega)) only [go_sem, Nat.reduceAdd, Nat.reduceMul, Nat.reduceSub, Nat.reduceEqDiff, Nat.reduceLeDiff, Nat.reduceMod, Nat.reduceLT, Int.reduceToNat, Int.reduceAdd, Int.reduceSub, Int.reduceMul, Int.reduceNeg, Int.reduceLE, Int.reduceLT, Int.reduceNe, Int.reduceEq, Int.reduceBEq, Int.reduceBNe, Int.reduceTMod, Int.reduceTDiv, Nat.reduceBEq]
      refine brP (fun hb2 => ?_) (fun hb2 => ?_)
      · have hkl : k < i := by simpa using hb2
        have g2 : (wh.map (LV.int .i64)).getD k .any = .int .i64 (wh.getD k 0) := by simp [List.getD, show k < wh.length by omega]
        repeat' (first | (simp (disch := first | omega | (simp only [List.length_cons, List.length_nil]; first | done | omega)) only [go_sem, Nat.reduceAdd, Nat.reduceMul, Nat.reduceSub, Nat.reduceEqDiff, Nat.reduceLeDiff, Nat.reduceMod, Nat.reduceLT, Int.reduceToNat, Int.reduceAdd, Int.reduceSub, Int.reduceMul, Int.reduceNeg, Int.reduceLE, Int.reduceLT, Int.reduceNe, Int.reduceEq, Int.reduceBEq, Int.reduceBNe, Int.reduceTMod, Int.reduceTDiv, Nat.reduceBEq, g1, g2, Nat.mul_one]) | (refine allI (fun b => ?_)) | (refine allT (fun τ => ?_)) | (refine brP (fun h => ?_) (fun h => ?_) <;> (try simp only [zgx, zbx] at h)) | (apply And.intro; focus (first | omega | (simp; done) | (simp +contextual; done) | (intros; and_intros <;> first | assumption | omega) | (intros; simp_all; done) | (intro hgd; refine ⟨hgd, ?_⟩; simp [hgd]; done) | (intro hgd; simp only [zgx] at hgd ⊢; omega))) | fail)
        · rw [hR, hnot (.inr ?_)]
          · exact leV.tup ⟨leV.nil_sl _ _, leV.refl _, trivial⟩
          · rw [List.mem_take_iff_getElem]
            refine ⟨k, by omega, ?_⟩
            rw [← h]
            simp [List.getD, show k < wh.length by omega]
        · exact ⟨⟨k + 1, by omega, fun m hm => (by omega : m < k ∨ m = k).elim (hgk m) fun e => by rw [e]; exact h⟩, by dsimp only; omega, Ents.envH (by simp [go_sem]) rfl⟩
      · have hke : k = i := by simp only [decide_eq_false_iff_not] at hb2; omega
        repeat' (first | (simp (disch := first | omega | (simp only [List.length_cons, List.length_nil]; first | done | omega)) only [go_sem, Nat.reduceAdd, Nat.reduceMul, Nat.reduceSub, Nat.reduceEqDiff, Nat.reduceLeDiff, Nat.reduceMod, Nat.reduceLT, Int.reduceToNat, Int.reduceAdd, Int.reduceSub, Int.reduceMul, Int.reduceNeg, Int.reduceLE, Int.reduceLT, Int.reduceNe, Int.reduceEq, Int.reduceBEq, Int.reduceBNe, Int.reduceTMod, Int.reduceTDiv, Nat.reduceBEq]) | (refine allI (fun b => ?_)) | (refine allT (fun τ => ?_)) | (refine brP (fun h => ?_) (fun h => ?_) <;> (try simp only [zgx, zbx] at h)) | (apply And.intro; focus (first | omega | (simp; done) | (simp +contextual; done) | (intros; and_intros <;> first | assumption | omega) | (intros; simp_all; done) | (intro hgd; refine ⟨hgd, ?_⟩; simp [hgd]; done) | (intro hgd; simp only [zgx] at hgd ⊢; omega))) | fail)
        refine ⟨⟨i + 1, by omega, fun m hm => ?_⟩, by dsimp only; omega, Ents.envH (by simp [go_sem]) rfl⟩
        rcases (by omega : m < i ∨ m = i) with h9 | h9
        · exact hg m h9
        · rw [h9, hw]
          refine ⟨by omega, fun hmm => ?_⟩
          obtain ⟨q, hq1, hq2⟩ := List.mem_take_iff_getElem.1 hmm
          refine hgk q (by omega) ?_
          rw [← hq2]
          simp [List.getD, show q < wh.length by omega]
  · have hlen : i = wh.length := by simp only [decide_eq_false_iff_not] at hb; omega
    subst hlen
    have hgood := goodW_all hg
    rw [if_pos hgood] at hR
    have hgr : ∀ k, k < wh.length → 0 ≤ wh.getD k 0 ∧ wh.getD k 0 < l.length := fun k hk => (hg k hk).1
    repeat' (first | (simp (disch := first | omega | (simp only [List.length_cons, List.length_nil]; first | done | omega)) only [go_sem, Nat.reduceAdd, Nat.reduceMul, Nat.reduceSub, Nat.reduceEqDiff, Nat.reduceLeDiff, Nat.reduceMod, Nat.reduceLT, Int.reduceToNat, Int.reduceAdd, Int.reduceSub, Int.reduceMul, Int.reduceNeg, Int.reduceLE, Int.reduceLT, Int.reduceNe, Int.reduceEq, Int.reduceBEq, Int.reduceBNe, Int.reduceTMod, Int.reduceTDiv, Nat.reduceBEq]) | (refine allI (fun b => ?_)) | (refine allT (fun τ => ?_)) | (refine brP (fun h => ?_) (fun h => ?_) <;> (try simp only [zgx, zbx] at h)) | (apply And.intro; focus (first | omega | (simp; done) | (simp +contextual; done) | (intros; and_intros <;> first | assumption | omega) | (intros; simp_all; done) | (intro hgd; refine ⟨hgd, ?_⟩; simp [hgd]; done) | (intro hgd; simp only [zgx] at hgd ⊢; omega))) | fail)
    refine loopI (ι := Nat × List At × Tok) (fun y => y.1 ≤ wh.length ∧ y.2.1.length ≤ 12 ∧ gather [] (allA l wh) = gather y.2.1 (allA l (wh.drop y.1))) (fun y => [(9, .int .i64 y.1), (8, .osl 82 y.2.2 8 y.2.1.length (y.2.1.flatMap AtC)), (0, .sl 8 l.length (l.flatMap RlC)), (1, .sl 1 wh.length (wh.map (LV.int .i64)))]) (fun y => [(82, .tok y.2.2)]) (fun y => wh.length - y.1) (0, [], ⟨0, 0, 0⟩) ⟨by dsimp only; omega, by simp, by simp⟩ (Ents.dum 82 (Ents.sub (by simp [go_sem, leV.nil_osl]) ⟨_, List.Sublist.refl _, List.Perm.refl _⟩)) ?_
    rintro ⟨i, acc, τ⟩ ⟨hi, hac, hga⟩
    dsimp only at hi hac hga ⊢
    simp (disch := first | omega | (simp only [List.length_cons, List.length_nil]; first | done | omega)) only [go_sem, Nat.reduceAdd, Nat.reduceMul, Nat.reduceSub, Nat.reduceEqDiff, Nat.reduceLeDiff, Nat.reduceMod, Nat.reduceLT, Int.reduceToNat, Int.reduceAdd, Int.reduceSub, Int.reduceMul, Int.reduceNeg, Int.reduceLE, Int.reduceLT, Int.reduceNe, Int.reduceEq, Int.reduceBEq, Int.reduceBNe, Int.reduceTMod, Int.reduceTDiv, Nat.reduceBEq]
    refine brP (fun hb => ?_) (fun hb => ?_)
    · have hlt : i < wh.length := by simpa using hb
      have g1 : (wh.map (LV.int .i64)).getD i .any = .int .i64 (wh.getD i 0) := by simp [List.getD, hlt]
      have hx := hgr i hlt
      have hst := allA_step (l := l) hlt
      generalize wh.getD i 0 = w at *
      obtain ⟨n, rfl⟩ : ∃ n : Nat, w = (n : Int) := ⟨w.toNat, by omega⟩
      have hn : n < l.length := by omega
      have e1 : ((n : Int)).toNat = n := Int.toNat_natCast n
      have e2 : ((l.flatMap RlC).drop (n * 8)).take 8 = RlC (l.getD n rl0) := take_rows (f := RlC) (fun _ => rfl) rl0 _ hn
      have ha := own_ (l.getD n rl0) (h4 _ (getD_memA rl0 hn))
      have hlo := ownA_len (l.getD n rl0)
      have hlt2 := h4 _ (getD_memA rl0 hn)
      rw [e1] at hst
      generalize l.getD n rl0 = r at *
      rw [RlC_eq] at ha e2
      rw [AtS_eq] at ha
      repeat' (first | (simp (disch := first | omega | (simp only [List.length_cons, List.length_nil]; first | done | omega)) only [go_sem, Nat.reduceAdd, Nat.reduceMul, Nat.reduceSub, Nat.reduceEqDiff, Nat.reduceLeDiff, Nat.reduceMod, Nat.reduceLT, Int.reduceToNat, Int.reduceAdd, Int.reduceSub, Int.reduceMul, Int.reduceNeg, Int.reduceLE, Int.reduceLT, Int.reduceNe, Int.reduceEq, Int.reduceBEq, Int.reduceBNe, Int.reduceTMod, Int.reduceTDiv, Nat.reduceBEq, e1, e2, g1, Nat.mul_one]) | (refine allI (fun b => ?_)) | (refine allT (fun τ => ?_)) | (refine brP (fun h => ?_) (fun h => ?_) <;> (try simp only [zgx, zbx] at h)) | refine call_U (ha) ?_ | refine callG_U (fun _ => ha) ?_ | refine call_T (ha) ?_ | refine callG_T (fun _ => ha) ?_ | refine call_N (ha) ?_ | refine call_of (ha) ?_ | refine callG_of (fun _ => ha) ?_ | (apply And.intro; focus (first | omega | (simp; done) | (simp +contextual; done) | (intros; and_intros <;> first | assumption | omega) | (intros; simp_all; done) | (intro hgd; refine ⟨hgd, ?_⟩; simp [hgd]; done) | (intro hgd; simp only [zgx] at hgd ⊢; omega))) | fail)
      have hlo2 := len_at (ownA r)
      generalize hown : ownA r = own at *
      rw [hst] at hga
      refine loopI (ι := Nat × List At × Tok) (fun y => y.1 ≤ own.length ∧ y.2.1.length ≤ 12 ∧ gather [] (allA l wh) = gather y.2.1 (own.drop y.1 ++ allA l (wh.drop (i + 1)))) (fun y => [(11, .int .i64 y.1), (10, .sl 8 own.length (own.flatMap AtC)), (8, .osl 82 y.2.2 8 y.2.1.length (y.2.1.flatMap AtC)), (9, .int .i64 i), (0, .sl 8 l.length (l.flatMap RlC)), (1, .sl 1 wh.length (wh.map (LV.int .i64)))]) (fun y => [(82, .tok y.2.2)]) (fun y => own.length - y.1) (0, acc, τ) ⟨by dsimp only; omega, hac, by simpa using hga⟩ (Ents.envH (by simp [go_sem]) rfl) ?_
      rintro ⟨j, acc2, τ2⟩ ⟨hj, hac2, hga2⟩
      dsimp only at hj hac2 hga2 ⊢
      simp (disch := first | omega | (simp only [List.length_cons, List.length_nil]; first | done | omega)) only [go_sem, Nat.reduceAdd, Nat.reduceMul, Nat.reduceSub, Nat.reduceEqDiff, Nat.reduceLeDiff, Nat.reduceMod, Nat.reduceLT, Int.reduceToNat, Int.reduceAdd, Int.reduceSub, Int.reduceMul, Int.reduceNeg, Int.reduceLE, Int.reduceLT, Int.reduceNe, Int.reduceEq, Int.reduceBEq, Int.reduceBNe, Int.reduceTMod, Int.reduceTDiv, Nat.reduceBEq]
      refine brP (fun hb2 => ?_) (fun hb2 => ?_)
      · have hjl : j < own.length := by simp only [decide_eq_true_eq] at hb2; omega
        have e3 : ((own.flatMap AtC).drop (j * 8)).take 8 = AtC (own.getD j at0) := take_rows (f := AtC) (fun _ => rfl) at0 _ hjl
        have hdr : own.drop j = own.getD j at0 :: own.drop (j + 1) := by rw [List.drop_eq_getElem_cons hjl]; simp [List.getD, hjl]
        have hct : Pure Try.prog gl _ [.osl 82 τ2 8 acc2.length (acc2.flatMap AtC), .agg (AtC (own.getD j at0))] _ := LCalls.args (place acc2 (own.getD j at0) (by omega)) ⟨leV.osl_sl _ _ _ _ _, leV.refl _, trivial⟩
        rw [hdr, List.cons_append, gather] at hga2
        generalize own.getD j at0 = a at *
        rw [AtC_eq] at e3 hct
        repeat' (first | (simp (disch := first | omega | (simp only [List.length_cons, List.length_nil]; first | done | omega)) only [go_sem, Nat.reduceAdd, Nat.reduceMul, Nat.reduceSub, Nat.reduceEqDiff, Nat.reduceLeDiff, Nat.reduceMod, Nat.reduceLT, Int.reduceToNat, Int.reduceAdd, Int.reduceSub, Int.reduceMul, Int.reduceNeg, Int.reduceLE, Int.reduceLT, Int.reduceNe, Int.reduceEq, Int.reduceBEq, Int.reduceBNe, Int.reduceTMod, Int.reduceTDiv, Nat.reduceBEq, e3, zAt]) | (refine allI (fun b => ?_)) | (refine allT (fun τ => ?_)) | (refine brP (fun h => ?_) (fun h => ?_) <;> (try simp only [zgx, zbx] at h)) | refine call_U (hct) ?_ | refine callG_U (fun _ => hct) ?_ | refine call_T (hct) ?_ | refine callG_T (fun _ => hct) ?_ | refine call_N (hct) ?_ | refine call_of (hct) ?_ | refine callG_of (fun _ => hct) ?_ | (apply And.intro; focus (first | omega | (simp; done) | (simp +contextual; done) | (intros; and_intros <;> first | assumption | omega) | (intros; simp_all; done) | (intro hgd; refine ⟨hgd, ?_⟩; simp [hgd]; done) | (intro hgd; simp only [zgx] at hgd ⊢; omega))) | fail)
        · rw [if_neg (fun hm => by have := idxA_mem.2 hm; omega), if_pos (by omega)] at hga2
          rw [hR, hga2]
          exact leV.tup ⟨leV.nil_sl _ _, leV.refl _, trivial⟩
        · rw [if_neg (fun hm => by have := idxA_mem.2 hm; omega), if_neg (by omega)] at hga2
          refine ⟨by simp only [roomy]; omega, fun τ' => ⟨⟨(j + 1, acc2 ++ [a], τ'), by dsimp only; omega, by simp; omega, hga2⟩, by dsimp only; omega, Ents.sub ⟨leV.refl _, leV.refl _, leV.of_eq ?_, leV.refl _, leV.refl _, leV.refl _, trivial⟩ ⟨_, List.Sublist.refl _, List.Perm.refl _⟩⟩⟩
          simp [go_sem, AtC_eq]
        · rw [if_pos (idxA_mem.1 (by omega))] at hga2
          exact ⟨⟨(j + 1, acc2, τ2), by dsimp only; omega, hac2, hga2⟩, by dsimp only; omega, Ents.envH (by simp [go_sem]) rfl⟩
      · have hje : j = own.length := by simp only [decide_eq_false_iff_not] at hb2; omega
        rw [hje, List.drop_length, List.nil_append] at hga2
        repeat' (first | (simp (disch := first | omega | (simp only [List.length_cons, List.length_nil]; first | done | omega)) only [go_sem, Nat.reduceAdd, Nat.reduceMul, Nat.reduceSub, Nat.reduceEqDiff, Nat.reduceLeDiff, Nat.reduceMod, Nat.reduceLT, Int.reduceToNat, Int.reduceAdd, Int.reduceSub, Int.reduceMul, Int.reduceNeg, Int.reduceLE, Int.reduceLT, Int.reduceNe, Int.reduceEq, Int.reduceBEq, Int.reduceBNe, Int.reduceTMod, Int.reduceTDiv, Nat.reduceBEq]) | (refine allI (fun b => ?_)) | (refine allT (fun τ => ?_)) | (refine brP (fun h => ?_) (fun h => ?_) <;> (try simp only [zgx, zbx] at h)) | (apply And.intro; focus (first | omega | (simp; done) | (simp +contextual; done) | (intros; and_intros <;> first | assumption | omega) | (intros; simp_all; done) | (intro hgd; refine ⟨hgd, ?_⟩; simp [hgd]; done) | (intro hgd; simp only [zgx] at hgd ⊢; omega))) | fail)
        exact ⟨⟨(i + 1, acc2, τ2), by dsimp only; omega, hac2, hga2⟩, by dsimp only; omega, Ents.envH (by simp [go_sem]) rfl⟩
    · have hie : i = wh.length := by simp only [decide_eq_false_iff_not] at hb; omega
      rw [hie, List.drop_length] at hga
      repeat' (first | (simp (disch := first | omega | (simp only [List.length_cons, List.length_nil]; first | done | omega)) only [go_sem, Nat.reduceAdd, Nat.reduceMul, Nat.reduceSub, Nat.reduceEqDiff, Nat.reduceLeDiff, Nat.reduceMod, Nat.reduceLT, Int.reduceToNat, Int.reduceAdd, Int.reduceSub, Int.reduceMul, Int.reduceNeg, Int.reduceLE, Int.reduceLT, Int.reduceNe, Int.reduceEq, Int.reduceBEq, Int.reduceBNe, Int.reduceTMod, Int.reduceTDiv, Nat.reduceBEq]) | (refine allI (fun b => ?_)) | (refine allT (fun τ => ?_)) | (refine brP (fun h => ?_) (fun h => ?_) <;> (try simp only [zgx, zbx] at h)) | (apply And.intro; focus (first | omega | (simp; done) | (simp +contextual; done) | (intros; and_intros <;> first | assumption | omega) | (intros; simp_all; done) | (intro hgd; refine ⟨hgd, ?_⟩; simp [hgd]; done) | (intro hgd; simp only [zgx] at hgd ⊢; omega))) | fail)
      rw [hR, hga]
      exact leV.tup ⟨leV.osl_sl _ _ _ _ _, leV.refl _, trivial⟩
end Go.Proofs.Ytcngkeeknlloaaa
