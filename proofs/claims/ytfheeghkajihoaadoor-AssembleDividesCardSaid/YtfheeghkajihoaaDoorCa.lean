/- Layer 22: the types of records, and complete events (the reference). -/
import Derived.Test.YtfheeghkajihoaaDoorBc
import Derived.Test.YtfheeghkajihoaaDoorCodr
namespace Go.Proofs.YtfheeghkajihoaaDoor
open Go Go.Lx
set_option linter.unusedSimpArgs false
set_option linter.unusedVariables false
set_option maxRecDepth 100000
set_option maxHeartbeats 4000000

theorem z30 : zeros ([.str [], .int .i64 0, .bool false] : List LV) 30 = [.str [], .int .i64 0, .bool false, .str [], .int .i64 0, .bool false, .str [], .int .i64 0, .bool false, .str [], .int .i64 0, .bool false, .str [], .int .i64 0, .bool false, .str [], .int .i64 0, .bool false, .str [], .int .i64 0, .bool false, .str [], .int .i64 0, .bool false, .str [], .int .i64 0, .bool false, .str [], .int .i64 0, .bool false] := Eq.trans rfl rfl
theorem kinds : Pure Tryd.prog gl 68 [] (.fsl 3 10 types) := by
  refine fn_pureT Tryd.func68 t68 Tryd.ntmps68 (by simp) ?_
  unfold c68 r68
  repeat' (first | (simp (disch := first | omega | (simp only [List.length_cons, List.length_nil]; first | done | omega)) only [go_sem, Nat.reduceAdd, Nat.reduceMul, Nat.reduceSub, Nat.reduceEqDiff, Nat.reduceLeDiff, Nat.reduceMod, Nat.reduceLT, Int.reduceToNat, Int.reduceAdd, Int.reduceSub, Int.reduceMul, Int.reduceNeg, Int.reduceLE, Int.reduceLT, Int.reduceNe, Int.reduceEq, Int.reduceBEq, Int.reduceBNe, Int.reduceTMod, Int.reduceTDiv, Nat.reduceBEq, z30, zTy]) | (refine allI (fun b => ?_)) | (refine allT (fun τ => ?_)) | (refine brP (fun h => ?_) (fun h => ?_) <;> (try simp only [zgx, zbx] at h)) | (apply And.intro; focus (first | omega | (simp; done) | (simp +contextual; done) | (intros; and_intros <;> first | assumption | omega) | (intros; simp_all; done) | (intro hgd; refine ⟨hgd, ?_⟩; simp [hgd]; done) | (intro hgd; simp only [zgx] at hgd ⊢; omega))) | fail)
  exact leV.of_eq rfl
theorem find (t : Int) : ∃ b, Pure Tryd.prog gl 40 [.int .i64 t] (.tup [.agg (TyC (rowT t)), .bool b]) := by
  refine ⟨(tyT.find? fun x => x.2.1 == t).isSome, ?_⟩
  refine fn_pureT Tryd.func40 t40 Tryd.ntmps40 (by simp) ?_
  have hk := kinds
  have htl := types_len
  unfold c40 r40
  rw [TyC_eq (rowT t)]
  repeat' (first | (simp (disch := first | omega | (simp only [List.length_cons, List.length_nil]; first | done | omega)) only [go_sem, Nat.reduceAdd, Nat.reduceMul, Nat.reduceSub, Nat.reduceEqDiff, Nat.reduceLeDiff, Nat.reduceMod, Nat.reduceLT, Int.reduceToNat, Int.reduceAdd, Int.reduceSub, Int.reduceMul, Int.reduceNeg, Int.reduceLE, Int.reduceLT, Int.reduceNe, Int.reduceEq, Int.reduceBEq, Int.reduceBNe, Int.reduceTMod, Int.reduceTDiv, Nat.reduceBEq, zTy]) | (refine allI (fun b => ?_)) | (refine allT (fun τ => ?_)) | (refine brP (fun h => ?_) (fun h => ?_) <;> (try simp only [zgx, zbx] at h)) | refine call_U (hk) ?_ | refine callG_U (fun _ => hk) ?_ | refine call_T (hk) ?_ | refine callG_T (fun _ => hk) ?_ | refine call_N (hk) ?_ | refine call_of (hk) ?_ | refine callG_of (fun _ => hk) ?_ | (apply And.intro; focus (first | omega | (simp; done) | (simp +contextual; done) | (intros; and_intros <;> first | assumption | omega) | (intros; simp_all; done) | (intro hgd; refine ⟨hgd, ?_⟩; simp [hgd]; done) | (intro hgd; simp only [zgx] at hgd ⊢; omega))) | fail)
  refine loopI (ι := Nat) (fun k => k ≤ 10 ∧ ∀ j, j < k → (tyT.getD j ty0).2.1 ≠ t) (fun k => (5, .int .i64 k) :: _) (fun _ => _) (fun k => 10 - k) 0 ⟨by omega, fun j hj => absurd hj (by omega)⟩ Ents.same ?_
  rintro k ⟨hk, hn⟩
  simp (disch := first | omega | (simp only [List.length_cons, List.length_nil]; first | done | omega)) only [go_sem, Nat.reduceAdd, Nat.reduceMul, Nat.reduceSub, Nat.reduceEqDiff, Nat.reduceLeDiff, Nat.reduceMod, Nat.reduceLT, Int.reduceToNat, Int.reduceAdd, Int.reduceSub, Int.reduceMul, Int.reduceNeg, Int.reduceLE, Int.reduceLT, Int.reduceNe, Int.reduceEq, Int.reduceBEq, Int.reduceBNe, Int.reduceTMod, Int.reduceTDiv, Nat.reduceBEq]
  refine brP (fun hb => ?_) (fun hb => ?_)
  · have hk2 : k < 10 := by simp only [decide_eq_true_eq] at hb; omega
    have e2 := ty_at hk2
    have hi := rowT_is (t := t) (k := k) (by simpa [tyT] using hk2)
    generalize hx : tyT.getD k ty0 = x at *
    rw [TyC_eq] at e2
    have g1 : types.getD (k * 3 + 1) .any = .int .i64 x.2.1 := by
      have := congrArg (fun z => z.getD 1 .any) e2
      simpa [List.getD, List.getElem?_take, List.getElem?_drop] using this
    repeat' (first | (simp (disch := first | omega | (simp only [List.length_cons, List.length_nil]; first | done | omega)) only [go_sem, Nat.reduceAdd, Nat.reduceMul, Nat.reduceSub, Nat.reduceEqDiff, Nat.reduceLeDiff, Nat.reduceMod, Nat.reduceLT, Int.reduceToNat, Int.reduceAdd, Int.reduceSub, Int.reduceMul, Int.reduceNeg, Int.reduceLE, Int.reduceLT, Int.reduceNe, Int.reduceEq, Int.reduceBEq, Int.reduceBNe, Int.reduceTMod, Int.reduceTDiv, Nat.reduceBEq, e2, g1, zTy]) | (refine allI (fun b => ?_)) | (refine allT (fun τ => ?_)) | (refine brP (fun h => ?_) (fun h => ?_) <;> (try simp only [zgx, zbx] at h)) | (apply And.intro; focus (first | omega | (simp; done) | (simp +contextual; done) | (intros; and_intros <;> first | assumption | omega) | (intros; simp_all; done) | (intro hgd; refine ⟨hgd, ?_⟩; simp [hgd]; done) | (intro hgd; simp only [zgx] at hgd ⊢; omega))) | fail)
    · have hs : (tyT.find? fun x => x.2.1 == t).isSome = true := by
        rw [List.find?_isSome]
        refine ⟨tyT.getD k ty0, getD_memA ty0 (by simpa [tyT] using hk2), ?_⟩
        rw [hx]; simpa using h
      rw [hi h hn, hs]
      exact leV.refl _
    · exact ⟨⟨k + 1, by omega, fun j hj => (by omega : j < k ∨ j = k).elim (hn j) fun e => by rw [e, hx]; exact h⟩, by dsimp only; omega, Ents.envH (by simp [go_sem]) rfl⟩
  · have hke : k = 10 := by simp only [decide_eq_false_iff_not] at hb; omega
    have hno := rowT_no (t := t) fun j hj => hn j (by rw [hke]; simpa [tyT] using hj)
    have hs : (tyT.find? fun x => x.2.1 == t).isSome = false := by
      rw [Bool.eq_false_iff]
      intro hc
      rw [List.find?_isSome] at hc
      obtain ⟨x, hx, hxt⟩ := hc
      obtain ⟨j, hj, rfl⟩ := List.getElem_of_mem hx
      refine hn j (by rw [hke]; simpa [tyT] using hj) ?_
      simpa [List.getD, hj] using hxt
    repeat' (first | (simp (disch := first | omega | (simp only [List.length_cons, List.length_nil]; first | done | omega)) only [go_sem, Nat.reduceAdd, Nat.reduceMul, Nat.reduceSub, Nat.reduceEqDiff, Nat.reduceLeDiff, Nat.reduceMod, Nat.reduceLT, Int.reduceToNat, Int.reduceAdd, Int.reduceSub, Int.reduceMul, Int.reduceNeg, Int.reduceLE, Int.reduceLT, Int.reduceNe, Int.reduceEq, Int.reduceBEq, Int.reduceBNe, Int.reduceTMod, Int.reduceTDiv, Nat.reduceBEq, zTy]) | (refine allI (fun b => ?_)) | (refine allT (fun τ => ?_)) | (refine brP (fun h => ?_) (fun h => ?_) <;> (try simp only [zgx, zbx] at h)) | (apply And.intro; focus (first | omega | (simp; done) | (simp +contextual; done) | (intros; and_intros <;> first | assumption | omega) | (intros; simp_all; done) | (intro hgd; refine ⟨hgd, ?_⟩; simp [hgd]; done) | (intro hgd; simp only [zgx] at hgd ⊢; omega))) | fail)
    rw [hno, hs]
    exact leV.refl _
theorem rname (t : Int) : Pure Tryd.prog gl 31 [.int .i64 t] (.str (nameS t)) := by
  refine fn_pureT Tryd.func31 t31 Tryd.ntmps31 (by simp) ?_
  obtain ⟨b0, hf⟩ := find t
  unfold c31 r31
  rw [TyC_eq] at hf
  repeat' (first | (simp (disch := first | omega | (simp only [List.length_cons, List.length_nil]; first | done | omega)) only [go_sem, Nat.reduceAdd, Nat.reduceMul, Nat.reduceSub, Nat.reduceEqDiff, Nat.reduceLeDiff, Nat.reduceMod, Nat.reduceLT, Int.reduceToNat, Int.reduceAdd, Int.reduceSub, Int.reduceMul, Int.reduceNeg, Int.reduceLE, Int.reduceLT, Int.reduceNe, Int.reduceEq, Int.reduceBEq, Int.reduceBNe, Int.reduceTMod, Int.reduceTDiv, Nat.reduceBEq, zTy]) | (refine allI (fun b => ?_)) | (refine allT (fun τ => ?_)) | (refine brP (fun h => ?_) (fun h => ?_) <;> (try simp only [zgx, zbx] at h)) | refine call_U (hf) ?_ | refine callG_U (fun _ => hf) ?_ | refine call_T (hf) ?_ | refine callG_T (fun _ => hf) ?_ | refine call_N (hf) ?_ | refine call_of (hf) ?_ | refine callG_of (fun _ => hf) ?_ | (apply And.intro; focus (first | omega | (simp; done) | (simp +contextual; done) | (intros; and_intros <;> first | assumption | omega) | (intros; simp_all; done) | (intro hgd; refine ⟨hgd, ?_⟩; simp [hgd]; done) | (intro hgd; simp only [zgx] at hgd ⊢; omega))) | fail)
  rfl
theorem rsingle (t : Int) : Pure Tryd.prog gl 30 [.int .i64 t] (.bool (singS t)) := by
  refine fn_pureT Tryd.func30 t30 Tryd.ntmps30 (by simp) ?_
  obtain ⟨b0, hf⟩ := find t
  unfold c30 r30
  rw [TyC_eq] at hf
  repeat' (first | (simp (disch := first | omega | (simp only [List.length_cons, List.length_nil]; first | done | omega)) only [go_sem, Nat.reduceAdd, Nat.reduceMul, Nat.reduceSub, Nat.reduceEqDiff, Nat.reduceLeDiff, Nat.reduceMod, Nat.reduceLT, Int.reduceToNat, Int.reduceAdd, Int.reduceSub, Int.reduceMul, Int.reduceNeg, Int.reduceLE, Int.reduceLT, Int.reduceNe, Int.reduceEq, Int.reduceBEq, Int.reduceBNe, Int.reduceTMod, Int.reduceTDiv, Nat.reduceBEq, zTy]) | (refine allI (fun b => ?_)) | (refine allT (fun τ => ?_)) | (refine brP (fun h => ?_) (fun h => ?_) <;> (try simp only [zgx, zbx] at h)) | refine call_U (hf) ?_ | refine callG_U (fun _ => hf) ?_ | refine call_T (hf) ?_ | refine callG_T (fun _ => hf) ?_ | refine call_N (hf) ?_ | refine call_of (hf) ?_ | refine callG_of (fun _ => hf) ?_ | (apply And.intro; focus (first | omega | (simp; done) | (simp +contextual; done) | (intros; and_intros <;> first | assumption | omega) | (intros; simp_all; done) | (intro hgd; refine ⟨hgd, ?_⟩; simp [hgd]; done) | (intro hgd; simp only [zgx] at hgd ⊢; omega))) | fail)
  rfl
theorem rcomp (e : Ev) (he : e.rs.length ≤ 281474976710656) : Pure Tryd.prog gl 14 [.agg (EvC e)] (.bool (compS e.rs)) := by
  refine fn_pureT Tryd.func14 t14 Tryd.ntmps14 (by simp) ?_
  have hle := len_rc e.rs
  have hsg := fun t => rsingle t
  have hnm := fun t => rname t
  unfold c14 r14
  rw [EvC_eq]
  by_cases h0 : e.rs.length = 0
  · have d0 : ((e.rs.length : Int) == 0) = true := by simp [h0]
    repeat' (first | (simp (disch := first | omega | (simp only [List.length_cons, List.length_nil]; first | done | omega)) only [go_sem, Nat.reduceAdd, Nat.reduceMul, Nat.reduceSub, Nat.reduceEqDiff, Nat.reduceLeDiff, Nat.reduceMod, Nat.reduceLT, Int.reduceToNat, Int.reduceAdd, Int.reduceSub, Int.reduceMul, Int.reduceNeg, Int.reduceLE, Int.reduceLT, Int.reduceNe, Int.reduceEq, Int.reduceBEq, Int.reduceBNe, Int.reduceTMod, Int.reduceTDiv, Nat.reduceBEq, d0]) | (refine allI (fun b => ?_)) | (refine allT (fun τ => ?_)) | (refine brP (fun h => ?_) (fun h => ?_) <;> (try simp only [zgx, zbx] at h)) | (apply And.intro; focus (first | omega | (simp; done) | (simp +contextual; done) | (intros; and_intros <;> first | assumption | omega) | (intros; simp_all; done) | (intro hgd; refine ⟨hgd, ?_⟩; simp [hgd]; done) | (intro hgd; simp only [zgx] at hgd ⊢; omega))) | fail)
    have : e.rs = [] := List.length_eq_zero_iff.1 h0
    rw [this]; rfl
  · have d0 : ((e.rs.length : Int) == 0) = false := by
      rw [beq_eq_false_iff_ne]; omega
    have g0 : (e.rs.flatMap RcC).getD 0 .any = .int .i64 (e.rs.getD 0 rc0).ty := by
      have := getD_rows (f := RcC) (w := 4) (fun _ => rfl) (j := 0) (by omega) rc0 e.rs 0 (by omega)
      simpa [RcC] using this
    have hcs : compS e.rs = ((e.rs.length == 1 && singS (e.rs.getD 0 rc0).ty) || (decide (0 < e.rs.length) && (List.range e.rs.length).all fun i => okRec e.rs.length i (e.rs.getD i rc0))) := rfl
    have hs0 : singS (e.rs.getD 0 rc0).ty = true → okRec e.rs.length 0 (e.rs.getD 0 rc0) = false := fun h => by unfold okRec; rw [h]; simp only [Bool.not_true, Bool.false_and, Bool.and_false]
    have hs1 := rng_false (p := fun i => okRec e.rs.length i (e.rs.getD i rc0)) (n := e.rs.length) (i := 0) (by omega)
    by_cases hsi : singS (e.rs.getD 0 rc0).ty = true
    · have h2 := hsg (e.rs.getD 0 rc0).ty
      rw [hsi] at h2
      repeat' (first | (simp (disch := first | omega | (simp only [List.length_cons, List.length_nil]; first | done | omega)) only [go_sem, Nat.reduceAdd, Nat.reduceMul, Nat.reduceSub, Nat.reduceEqDiff, Nat.reduceLeDiff, Nat.reduceMod, Nat.reduceLT, Int.reduceToNat, Int.reduceAdd, Int.reduceSub, Int.reduceMul, Int.reduceNeg, Int.reduceLE, Int.reduceLT, Int.reduceNe, Int.reduceEq, Int.reduceBEq, Int.reduceBNe, Int.reduceTMod, Int.reduceTDiv, Nat.reduceBEq, d0, g0]) | (refine allI (fun b => ?_)) | (refine allT (fun τ => ?_)) | (refine brP (fun h => ?_) (fun h => ?_) <;> (try simp only [zgx, zbx] at h)) | refine call_U (h2) ?_ | refine callG_U (fun _ => h2) ?_ | refine call_T (h2) ?_ | refine callG_T (fun _ => h2) ?_ | refine call_N (h2) ?_ | refine call_of (h2) ?_ | refine callG_of (fun _ => h2) ?_ | (apply And.intro; focus (first | omega | (simp; done) | (simp +contextual; done) | (intros; and_intros <;> first | assumption | omega) | (intros; simp_all; done) | (intro hgd; refine ⟨hgd, ?_⟩; simp [hgd]; done) | (intro hgd; simp only [zgx] at hgd ⊢; omega))) | fail)
      rw [hcs, hsi, hs1 (hs0 hsi)]
      simp only [Bool.and_true, Bool.and_false, Bool.or_false]
      rw [Bool.eq_iff_iff]
      simp only [beq_iff_eq]
      omega
    · have h2 := hsg (e.rs.getD 0 rc0).ty
      rw [show singS (e.rs.getD 0 rc0).ty = false by simpa using hsi] at h2
      repeat' (first | (simp (disch := first | omega | (simp only [List.length_cons, List.length_nil]; first | done | omega)) only [go_sem, Nat.reduceAdd, Nat.reduceMul, Nat.reduceSub, Nat.reduceEqDiff, Nat.reduceLeDiff, Nat.reduceMod, Nat.reduceLT, Int.reduceToNat, Int.reduceAdd, Int.reduceSub, Int.reduceMul, Int.reduceNeg, Int.reduceLE, Int.reduceLT, Int.reduceNe, Int.reduceEq, Int.reduceBEq, Int.reduceBNe, Int.reduceTMod, Int.reduceTDiv, Nat.reduceBEq, d0, g0]) | (refine allI (fun b => ?_)) | (refine allT (fun τ => ?_)) | (refine brP (fun h => ?_) (fun h => ?_) <;> (try simp only [zgx, zbx] at h)) | refine call_U (h2) ?_ | refine callG_U (fun _ => h2) ?_ | refine call_T (h2) ?_ | refine callG_T (fun _ => h2) ?_ | refine call_N (h2) ?_ | refine call_of (h2) ?_ | refine callG_of (fun _ => h2) ?_ | (apply And.intro; focus (first | omega | (simp; done) | (simp +contextual; done) | (intros; and_intros <;> first | assumption | omega) | (intros; simp_all; done) | (intro hgd; refine ⟨hgd, ?_⟩; simp [hgd]; done) | (intro hgd; simp only [zgx] at hgd ⊢; omega))) | fail)
      have hcs2 : compS e.rs = (List.range e.rs.length).all fun i => okRec e.rs.length i (e.rs.getD i rc0) := by
        rw [hcs, show singS (e.rs.getD 0 rc0).ty = false by simpa using hsi, show decide (0 < e.rs.length) = true from decide_eq_true (by omega)]
        simp only [Bool.and_false, Bool.false_or, Bool.true_and]
      refine loopI (ι := Nat) (fun k => k ≤ e.rs.length ∧ (List.range k).all (fun i => okRec e.rs.length i (e.rs.getD i rc0)) = true) (fun k => (4, .int .i64 k) :: _) (fun _ => _) (fun k => e.rs.length - k) 0 ⟨by omega, rfl⟩ Ents.same ?_
      rintro k ⟨hk, hall⟩
      simp (disch := first | omega | (simp only [List.length_cons, List.length_nil]; first | done | omega)) only [go_sem, Nat.reduceAdd, Nat.reduceMul, Nat.reduceSub, Nat.reduceEqDiff, Nat.reduceLeDiff, Nat.reduceMod, Nat.reduceLT, Int.reduceToNat, Int.reduceAdd, Int.reduceSub, Int.reduceMul, Int.reduceNeg, Int.reduceLE, Int.reduceLT, Int.reduceNe, Int.reduceEq, Int.reduceBEq, Int.reduceBNe, Int.reduceTMod, Int.reduceTDiv, Nat.reduceBEq]
      refine brP (fun hb => ?_) (fun hb => ?_)
      · have hlt : k < e.rs.length := by simpa using hb
        have g1 : (e.rs.flatMap RcC).getD (k * 4) .any = .int .i64 (e.rs.getD k rc0).ty := by
          have := getD_rows (f := RcC) (w := 4) (fun _ => rfl) (j := 0) (by omega) rc0 e.rs k hlt
          simpa [RcC] using this
        have hrn := rng_all (fun i => okRec e.rs.length i (e.rs.getD i rc0)) k
        have hrf := rng_false (p := fun i => okRec e.rs.length i (e.rs.getD i rc0)) hlt
        have hok : okRec e.rs.length k (e.rs.getD k rc0) = (decide (nameS (e.rs.getD k rc0).ty ≠ []) && (!singS (e.rs.getD k rc0).ty && (((e.rs.getD k rc0).ty == 1320) == (k + 1 == e.rs.length)))) := rfl
        have h3 := hnm (e.rs.getD k rc0).ty
        have h4 := hsg (e.rs.getD k rc0).ty
        generalize e.rs.getD k rc0 = r at *
        have hkk : ((k : Int) == (e.rs.length : Int) - 1) = (k + 1 == e.rs.length) := by
          rw [Bool.eq_iff_iff]
          simp only [beq_iff_eq]
          omega
        repeat' (first | (simp (disch := first | omega | (simp only [List.length_cons, List.length_nil]; first | done | omega)) only [go_sem, Nat.reduceAdd, Nat.reduceMul, Nat.reduceSub, Nat.reduceEqDiff, Nat.reduceLeDiff, Nat.reduceMod, Nat.reduceLT, Int.reduceToNat, Int.reduceAdd, Int.reduceSub, Int.reduceMul, Int.reduceNeg, Int.reduceLE, Int.reduceLT, Int.reduceNe, Int.reduceEq, Int.reduceBEq, Int.reduceBNe, Int.reduceTMod, Int.reduceTDiv, Nat.reduceBEq, g1, hkk]) | (refine allI (fun b => ?_)) | (refine allT (fun τ => ?_)) | (refine brP (fun h => ?_) (fun h => ?_) <;> (try simp only [zgx, zbx] at h)) | refine call_U (h3) ?_ | refine callG_U (fun _ => h3) ?_ | refine call_T (h3) ?_ | refine callG_T (fun _ => h3) ?_ | refine call_U (h4) ?_ | refine callG_U (fun _ => h4) ?_ | refine call_T (h4) ?_ | refine callG_T (fun _ => h4) ?_ | refine call_N (h3) ?_ | refine call_of (h3) ?_ | refine callG_of (fun _ => h3) ?_ | refine call_N (h4) ?_ | refine call_of (h4) ?_ | refine callG_of (fun _ => h4) ?_ | (apply And.intro; focus (first | omega | (simp; done) | (simp +contextual; done) | (intros; and_intros <;> first | assumption | omega) | (intros; simp_all; done) | (intro hgd; refine ⟨hgd, ?_⟩; simp [hgd]; done) | (intro hgd; simp only [zgx] at hgd ⊢; omega))) | fail)
        · rw [hcs2, hrf (by rw [hok]; grind)]
        · exact ⟨⟨k + 1, by omega, by rw [hrn, hall, hok]; grind⟩, by dsimp only; omega, Ents.envH (by simp [go_sem]) rfl⟩
      · have hke : k = e.rs.length := by simp only [decide_eq_false_iff_not] at hb; omega
        subst hke
        repeat' (first | (simp (disch := first | omega | (simp only [List.length_cons, List.length_nil]; first | done | omega)) only [go_sem, Nat.reduceAdd, Nat.reduceMul, Nat.reduceSub, Nat.reduceEqDiff, Nat.reduceLeDiff, Nat.reduceMod, Nat.reduceLT, Int.reduceToNat, Int.reduceAdd, Int.reduceSub, Int.reduceMul, Int.reduceNeg, Int.reduceLE, Int.reduceLT, Int.reduceNe, Int.reduceEq, Int.reduceBEq, Int.reduceBNe, Int.reduceTMod, Int.reduceTDiv, Nat.reduceBEq]) | (refine allI (fun b => ?_)) | (refine allT (fun τ => ?_)) | (refine brP (fun h => ?_) (fun h => ?_) <;> (try simp only [zgx, zbx] at h)) | (apply And.intro; focus (first | omega | (simp; done) | (simp +contextual; done) | (intros; and_intros <;> first | assumption | omega) | (intros; simp_all; done) | (intro hgd; refine ⟨hgd, ?_⟩; simp [hgd]; done) | (intro hgd; simp only [zgx] at hgd ⊢; omega))) | fail)
        rw [hcs2, hall]
end Go.Proofs.YtfheeghkajihoaaDoor
