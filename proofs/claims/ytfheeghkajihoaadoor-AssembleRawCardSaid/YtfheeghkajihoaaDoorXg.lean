/- Layer 22: the types of records, and complete events (the reference). -/
import Derived.Test.YtfheeghkajihoaaDoorBc
import Derived.Test.YtfheeghkajihoaaDoorCoda
namespace Go.Proofs.YtfheeghkajihoaaDoor
open Go Go.Lx
set_option linter.unusedSimpArgs false
set_option linter.unusedVariables false
set_option maxRecDepth 100000
set_option maxHeartbeats 4000000

theorem z30 : zeros ([.str [], .int .i64 0, .bool false] : List LV) 30 = [.str [], .int .i64 0, .bool false, .str [], .int .i64 0, .bool false, .str [], .int .i64 0, .bool false, .str [], .int .i64 0, .bool false, .str [], .int .i64 0, .bool false, .str [], .int .i64 0, .bool false, .str [], .int .i64 0, .bool false, .str [], .int .i64 0, .bool false, .str [], .int .i64 0, .bool false, .str [], .int .i64 0, .bool false] := Eq.trans rfl rfl
theorem kinds : Pure Tryd.prog gl 68 [] (.fsl 3 10 types) := by
  refine fn_pureT Tryd.func68 t68 Tryd.ntmps68 (by simp) ?_
  unfold c68 r68
  repeat' (first | (simp (disch := first | omega | (simp only [List.length_cons, List.length_nil]; first | done | omega)) only [go_sem, z30, zTy]) | (refine allI (fun b => ?_)) | (refine allT (fun τ => ?_)) | (refine brP (fun h => ?_) (fun h => ?_) <;> (try simp only [zgx, zbx] at h)) | (apply And.intro; focus (first | omega | (simp; done) | (simp +contextual; done) | (intros; and_intros <;> first | assumption | omega) | (intros; simp_all; done) | (intro hgd; refine ⟨hgd, ?_⟩; simp [hgd]; done) | (intro hgd; simp only [zgx] at hgd ⊢; omega))) | fail)
  exact leV.of_eq rfl
theorem findB (t : Int) : Pure Tryd.prog gl 40 [.int .i64 t] (.tup [.agg (TyC (rowT t)), .bool (tyT.find? fun x => x.2.1 == t).isSome]) := by
  refine fn_pureT Tryd.func40 t40 Tryd.ntmps40 (by simp) ?_
  have hk := kinds
  have htl := types_len
  unfold c40 r40
  rw [TyC_eq (rowT t)]
  repeat' (first | (simp (disch := first | omega | (simp only [List.length_cons, List.length_nil]; first | done | omega)) only [go_sem, zTy]) | (refine allI (fun b => ?_)) | (refine allT (fun τ => ?_)) | (refine brP (fun h => ?_) (fun h => ?_) <;> (try simp only [zgx, zbx] at h)) | refine call_U (hk) ?_ | refine callG_U (fun _ => hk) ?_ | refine call_T (hk) ?_ | refine callG_T (fun _ => hk) ?_ | refine call_N (hk) ?_ | refine call_of (hk) ?_ | refine callG_of (fun _ => hk) ?_ | (apply And.intro; focus (first | omega | (simp; done) | (simp +contextual; done) | (intros; and_intros <;> first | assumption | omega) | (intros; simp_all; done) | (intro hgd; refine ⟨hgd, ?_⟩; simp [hgd]; done) | (intro hgd; simp only [zgx] at hgd ⊢; omega))) | fail)
  refine loopI (ι := Nat) (fun k => k ≤ 10 ∧ ∀ j, j < k → (tyT.getD j ty0).2.1 ≠ t) (fun k => (5, .int .i64 k) :: _) (fun _ => _) (fun k => 10 - k) 0 ⟨by omega, fun j hj => absurd hj (by omega)⟩ Ents.same ?_
  rintro k ⟨hk, hn⟩
  simp (disch := first | omega | (simp only [List.length_cons, List.length_nil]; first | done | omega)) only [go_sem]
  refine brP (fun hb => ?_) (fun hb => ?_)
  · have hk2 : k < 10 := by simp only [decide_eq_true_eq] at hb; omega
    have e2 := ty_at hk2
    have hi := rowT_is (t := t) (k := k) (by simpa [tyT] using hk2)
    generalize hx : tyT.getD k ty0 = x at *
    rw [TyC_eq] at e2
    have g1 : types.getD (k * 3 + 1) .any = .int .i64 x.2.1 := by
      have := congrArg (fun z => z.getD 1 .any) e2
      simpa [List.getD, List.getElem?_take, List.getElem?_drop] using this
    repeat' (first | (simp (disch := first | omega | (simp only [List.length_cons, List.length_nil]; first | done | omega)) only [go_sem, e2, g1, zTy]) | (refine allI (fun b => ?_)) | (refine allT (fun τ => ?_)) | (refine brP (fun h => ?_) (fun h => ?_) <;> (try simp only [zgx, zbx] at h)) | (apply And.intro; focus (first | omega | (simp; done) | (simp +contextual; done) | (intros; and_intros <;> first | assumption | omega) | (intros; simp_all; done) | (intro hgd; refine ⟨hgd, ?_⟩; simp [hgd]; done) | (intro hgd; simp only [zgx] at hgd ⊢; omega))) | fail)
    · have hs : (tyT.find? fun x => x.2.1 == t).isSome = true := by
        rw [List.find?_isSome]
        refine ⟨tyT.getD k ty0, getD_memA ty0 (by simpa [tyT] using hk2), ?_⟩
        rw [hx]; simpa using h
      rw [hi h hn, hs]
      exact leV.refl _
    · exact ⟨⟨k + 1, by omega, fun j hj => (by omega : j < k ∨ j = k).elim (hn j) fun e => by rw [e, hx]; exact h⟩, by dsimp only; omega, Ents.envH (by simp [go_sem]) rfl⟩
  · have hke : k = 10 := by simp only [decide_eq_false_iff_not] at hb; omega
    have hno := rowT_no (t := t) fun j hj => hn j (by rw [hke]; simpa [tyT] using hj)
    have hs : (tyT.find? fun x => x.2.1 == t).isSome = false := by
      rw [Bool.eq_false_iff]
      intro hc
      rw [List.find?_isSome] at hc
      obtain ⟨x, hx, hxt⟩ := hc
      obtain ⟨j, hj, rfl⟩ := List.getElem_of_mem hx
      refine hn j (by rw [hke]; simpa [tyT] using hj) ?_
      simpa [List.getD, hj] using hxt
    repeat' (first | (simp (disch := first | omega | (simp only [List.length_cons, List.length_nil]; first | done | omega)) only [go_sem, zTy]) | (refine allI (fun b => ?_)) | (refine allT (fun τ => ?_)) | (refine brP (fun h => ?_) (fun h => ?_) <;> (try simp only [zgx, zbx] at h)) | (apply And.intro; focus (first | omega | (simp; done) | (simp +contextual; done) | (intros; and_intros <;> first | assumption | omega) | (intros; simp_all; done) | (intro hgd; refine ⟨hgd, ?_⟩; simp [hgd]; done) | (intro hgd; simp only [zgx] at hgd ⊢; omega))) | fail)
    rw [hno, hs]
    exact leV.refl _
theorem find (t : Int) : ∃ b, Pure Tryd.prog gl 40 [.int .i64 t] (.tup [.agg (TyC (rowT t)), .bool b]) := ⟨_, findB t⟩
theorem rname (t : Int) : Pure Tryd.prog gl 31 [.int .i64 t] (.str (nameS t)) := by
  refine fn_pureT Tryd.func31 t31 Tryd.ntmps31 (by simp) ?_
  obtain ⟨b0, hf⟩ := find t
  unfold c31 r31
  rw [TyC_eq] at hf
  repeat' (first | (simp (disch := first | omega | (simp only [List.length_cons, List.length_nil]; first | done | omega)) only [go_sem, zTy]) | (refine allI (fun b => ?_)) | (refine allT (fun τ => ?_)) | (refine brP (fun h => ?_) (fun h => ?_) <;> (try simp only [zgx, zbx] at h)) | refine call_U (hf) ?_ | refine callG_U (fun _ => hf) ?_ | refine call_T (hf) ?_ | refine callG_T (fun _ => hf) ?_ | refine call_N (hf) ?_ | refine call_of (hf) ?_ | refine callG_of (fun _ => hf) ?_ | (apply And.intro; focus (first | omega | (simp; done) | (simp +contextual; done) | (intros; and_intros <;> first | assumption | omega) | (intros; simp_all; done) | (intro hgd; refine ⟨hgd, ?_⟩; simp [hgd]; done) | (intro hgd; simp only [zgx] at hgd ⊢; omega))) | fail)
  rfl
theorem rsingle (t : Int) : Pure Tryd.prog gl 30 [.int .i64 t] (.bool (singS t)) := by
  refine fn_pureT Tryd.func30 t30 Tryd.ntmps30 (by simp) ?_
  obtain ⟨b0, hf⟩ := find t
  unfold c30 r30
  rw [TyC_eq] at hf
  repeat' (first | (simp (disch := first | omega | (simp only [List.length_cons, List.length_nil]; first | done | omega)) only [go_sem, zTy]) | (refine allI (fun b => ?_)) | (refine allT (fun τ => ?_)) | (refine brP (fun h => ?_) (fun h => ?_) <;> (try simp only [zgx, zbx] at h)) | refine call_U (hf) ?_ | refine callG_U (fun _ => hf) ?_ | refine call_T (hf) ?_ | refine callG_T (fun _ => hf) ?_ | refine call_N (hf) ?_ | refine call_of (hf) ?_ | refine callG_of (fun _ => hf) ?_ | (apply And.intro; focus (first | omega | (simp; done) | (simp +contextual; done) | (intros; and_intros <;> first | assumption | omega) | (intros; simp_all; done) | (intro hgd; refine ⟨hgd, ?_⟩; simp [hgd]; done) | (intro hgd; simp only [zgx] at hgd ⊢; omega))) | fail)
  rfl
theorem rcomp (e : Ev) (he : e.rs.length ≤ 281474976710656) : Pure Tryd.prog gl 14 [.agg (EvC e)] (.bool (compS e.rs)) := by
  refine fn_pureT Tryd.func14 t14 Tryd.ntmps14 (by simp) ?_
  have hle := len_rc e.rs
  have hsg := fun t => rsingle t
  have hnm := fun t => rname t
  unfold c14 r14
  rw [EvC_eq]
  by_cases h0 : e.rs.length = 0
  · have d0 : ((e.rs.length : Int) == 0) = true := by simp [h0]
    repeat' (first | (simp (disch := first | omega | (simp only [List.length_cons, List.length_nil]; first | done | omega)) only [go_sem, d0]) | (refine allI (fun b => ?_)) | (refine allT (fun τ => ?_)) | (refine brP (fun h => ?_) (fun h => ?_) <;> (try simp only [zgx, zbx] at h)) | (apply And.intro; focus (first | omega | (simp; done) | (simp +contextual; done) | (intros; and_intros <;> first | assumption | omega) | (intros; simp_all; done) | (intro hgd; refine ⟨hgd, ?_⟩; simp [hgd]; done) | (intro hgd; simp only [zgx] at hgd ⊢; omega))) | fail)
    have : e.rs = [] := List.length_eq_zero_iff.1 h0
    rw [this]; rfl
  · have d0 : ((e.rs.length : Int) == 0) = false := by
      rw [beq_eq_false_iff_ne]; omega
    have g0 : (e.rs.flatMap RcC).getD 0 .any = .int .i64 (e.rs.getD 0 rc0).ty := by
      have := getD_rows (f := RcC) (w := 4) (fun _ => rfl) (j := 0) (by omega) rc0 e.rs 0 (by omega)
      simpa [RcC] using this
    have hcs : compS e.rs = ((e.rs.length == 1 && singS (e.rs.getD 0 rc0).ty) || (decide (0 < e.rs.length) && (List.range e.rs.length).all fun i => okRec e.rs.length i (e.rs.getD i rc0))) := rfl
    have hs0 : singS (e.rs.getD 0 rc0).ty = true → okRec e.rs.length 0 (e.rs.getD 0 rc0) = false := fun h => by unfold okRec; rw [h]; simp only [Bool.not_true, Bool.false_and, Bool.and_false]
    have hs1 := rng_false (p := fun i => okRec e.rs.length i (e.rs.getD i rc0)) (n := e.rs.length) (i := 0) (by omega)
    by_cases hsi : singS (e.rs.getD 0 rc0).ty = true
    · have h2 := hsg (e.rs.getD 0 rc0).ty
      rw [hsi] at h2
      repeat' (first | (simp (disch := first | omega | (simp only [List.length_cons, List.length_nil]; first | done | omega)) only [go_sem, d0, g0]) | (refine allI (fun b => ?_)) | (refine allT (fun τ => ?_)) | (refine brP (fun h => ?_) (fun h => ?_) <;> (try simp only [zgx, zbx] at h)) | refine call_U (h2) ?_ | refine callG_U (fun _ => h2) ?_ | refine call_T (h2) ?_ | refine callG_T (fun _ => h2) ?_ | refine call_N (h2) ?_ | refine call_of (h2) ?_ | refine callG_of (fun _ => h2) ?_ | (apply And.intro; focus (first | omega | (simp; done) | (simp +contextual; done) | (intros; and_intros <;> first | assumption | omega) | (intros; simp_all; done) | (intro hgd; refine ⟨hgd, ?_⟩; simp [hgd]; done) | (intro hgd; simp only [zgx] at hgd ⊢; omega))) | fail)
      rw [hcs, hsi, hs1 (hs0 hsi)]
      simp only [Bool.and_true, Bool.and_false, Bool.or_false]
      rw [Bool.eq_iff_iff]
      simp only [beq_iff_eq]
      omega
    · have h2 := hsg (e.rs.getD 0 rc0).ty
      rw [show singS (e.rs.getD 0 rc0).ty = false by simpa using hsi] at h2
      repeat' (first | (simp (disch := first | omega | (simp only [List.length_cons, List.length_nil]; first | done | omega)) only [go_sem, d0, g0]) | (refine allI (fun b => ?_)) | (refine allT (fun τ => ?_)) | (refine brP (fun h => ?_) (fun h => ?_) <;> (try simp only [zgx, zbx] at h)) | refine call_U (h2) ?_ | refine callG_U (fun _ => h2) ?_ | refine call_T (h2) ?_ | refine callG_T (fun _ => h2) ?_ | refine call_N (h2) ?_ | refine call_of (h2) ?_ | refine callG_of (fun _ => h2) ?_ | (apply And.intro; focus (first | omega | (simp; done) | (simp +contextual; done) | (intros; and_intros <;> first | assumption | omega) | (intros; simp_all; done) | (intro hgd; refine ⟨hgd, ?_⟩; simp [hgd]; done) | (intro hgd; simp only [zgx] at hgd ⊢; omega))) | fail)
      have hcs2 : compS e.rs = (List.range e.rs.length).all fun i => okRec e.rs.length i (e.rs.getD i rc0) := by
        rw [hcs, show singS (e.rs.getD 0 rc0).ty = false by simpa using hsi, show decide (0 < e.rs.length) = true from decide_eq_true (by omega)]
        simp only [Bool.and_false, Bool.false_or, Bool.true_and]
      refine loopI (ι := Nat) (fun k => k ≤ e.rs.length ∧ (List.range k).all (fun i => okRec e.rs.length i (e.rs.getD i rc0)) = true) (fun k => (4, .int .i64 k) :: _) (fun _ => _) (fun k => e.rs.length - k) 0 ⟨by omega, rfl⟩ Ents.same ?_
      rintro k ⟨hk, hall⟩
      simp (disch := first | omega | (simp only [List.length_cons, List.length_nil]; first | done | omega)) only [go_sem]
      refine brP (fun hb => ?_) (fun hb => ?_)
      · have hlt : k < e.rs.length := by simpa using hb
        have g1 : (e.rs.flatMap RcC).getD (k * 4) .any = .int .i64 (e.rs.getD k rc0).ty := by
          have := getD_rows (f := RcC) (w := 4) (fun _ => rfl) (j := 0) (by omega) rc0 e.rs k hlt
          simpa [RcC] using this
        have hrn := rng_all (fun i => okRec e.rs.length i (e.rs.getD i rc0)) k
        have hrf := rng_false (p := fun i => okRec e.rs.length i (e.rs.getD i rc0)) hlt
        have hok : okRec e.rs.length k (e.rs.getD k rc0) = (decide (nameS (e.rs.getD k rc0).ty ≠ []) && (!singS (e.rs.getD k rc0).ty && (((e.rs.getD k rc0).ty == 1320) == (k + 1 == e.rs.length)))) := rfl
        have h3 := hnm (e.rs.getD k rc0).ty
        have h4 := hsg (e.rs.getD k rc0).ty
        generalize e.rs.getD k rc0 = r at *
        have hkk : ((k : Int) == (e.rs.length : Int) - 1) = (k + 1 == e.rs.length) := by
          rw [Bool.eq_iff_iff]
          simp only [beq_iff_eq]
          omega
        repeat' (first | (simp (disch := first | omega | (simp only [List.length_cons, List.length_nil]; first | done | omega)) only [go_sem, g1, hkk]) | (refine allI (fun b => ?_)) | (refine allT (fun τ => ?_)) | (refine brP (fun h => ?_) (fun h => ?_) <;> (try simp only [zgx, zbx] at h)) | refine call_U (h3) ?_ | refine callG_U (fun _ => h3) ?_ | refine call_T (h3) ?_ | refine callG_T (fun _ => h3) ?_ | refine call_U (h4) ?_ | refine callG_U (fun _ => h4) ?_ | refine call_T (h4) ?_ | refine callG_T (fun _ => h4) ?_ | refine call_N (h3) ?_ | refine call_of (h3) ?_ | refine callG_of (fun _ => h3) ?_ | refine call_N (h4) ?_ | refine call_of (h4) ?_ | refine callG_of (fun _ => h4) ?_ | (apply And.intro; focus (first | omega | (simp; done) | (simp +contextual; done) | (intros; and_intros <;> first | assumption | omega) | (intros; simp_all; done) | (intro hgd; refine ⟨hgd, ?_⟩; simp [hgd]; done) | (intro hgd; simp only [zgx] at hgd ⊢; omega))) | fail)
        · rw [hcs2, hrf (by rw [hok]; grind)]
        · exact ⟨⟨k + 1, by omega, by rw [hrn, hall, hok]; grind⟩, by dsimp only; omega, Ents.envH (by simp [go_sem]) rfl⟩
      · have hke : k = e.rs.length := by simp only [decide_eq_false_iff_not] at hb; omega
        subst hke
        repeat' (first | (simp (disch := first | omega | (simp only [List.length_cons, List.length_nil]; first | done | omega)) only [go_sem]) | (refine allI (fun b => ?_)) | (refine allT (fun τ => ?_)) | (refine brP (fun h => ?_) (fun h => ?_) <;> (try simp only [zgx, zbx] at h)) | (apply And.intro; focus (first | omega | (simp; done) | (simp +contextual; done) | (intros; and_intros <;> first | assumption | omega) | (intros; simp_all; done) | (intro hgd; refine ⟨hgd, ?_⟩; simp [hgd]; done) | (intro hgd; simp only [zgx] at hgd ⊢; omega))) | fail)
        rw [hcs2, hall]
end Go.Proofs.YtfheeghkajihoaaDoor

/- Layer 22: a LOSS record, a record that is stamped (the reference). -/
namespace Go.Proofs.YtfheeghkajihoaaDoor
open Go Go.Lx
set_option linter.unusedSimpArgs false
set_option linter.unusedVariables false
set_option maxRecDepth 100000
set_option maxHeartbeats 4000000

theorem num (nm : List UInt8) (v : Int) : Pure Tryd.prog gl 39 [.str nm, .int .i64 v] (.agg (PrC ⟨nm, 1, v, []⟩)) := by
  refine fn_pureT Tryd.func39 t39 Tryd.ntmps39 (by simp) ?_
  unfold c39 r39
  rw [PrC_eq]
  repeat' (first | (simp (disch := first | omega | (simp only [List.length_cons, List.length_nil]; first | done | omega)) only [go_sem, zPr]) | (refine allI (fun b => ?_)) | (refine allT (fun τ => ?_)) | (refine brP (fun h => ?_) (fun h => ?_) <;> (try simp only [zgx, zbx] at h)) | (apply And.intro; focus (first | omega | (simp; done) | (simp +contextual; done) | (intros; and_intros <;> first | assumption | omega) | (intros; simp_all; done) | (intro hgd; refine ⟨hgd, ?_⟩; simp [hgd]; done) | (intro hgd; simp only [zgx] at hgd ⊢; omega))) | fail)
/-- the pairs of a LOSS record -/
def lossP (x : Ls) : List Pr := [⟨nFirst, 1, x.f, []⟩, ⟨nLast, 1, x.l, []⟩, ⟨nRated, 1, x.ra, []⟩, ⟨nFull, 1, x.fu, []⟩, ⟨nStalled, 1, x.sd, []⟩]
theorem z20p : zeros ([.str [], .int .i64 0, .int .i64 0, .str []] : List LV) 20 = [.str [], .int .i64 0, .int .i64 0, .str [], .str [], .int .i64 0, .int .i64 0, .str [], .str [], .int .i64 0, .int .i64 0, .str [], .str [], .int .i64 0, .int .i64 0, .str [], .str [], .int .i64 0, .int .i64 0, .str []] := Eq.trans rfl rfl
theorem loss (x : Ls) (ti : Int) : Pure Tryd.prog gl 27 [.agg (LsC x), .int .i64 ti] (.agg (RcC ⟨1331, ti, 0, lossP x⟩)) := by
  refine fn_pureT Tryd.func27 t27 Tryd.ntmps27 (by simp) ?_
  have h1 := num nFirst x.f
  have h2 := num nLast x.l
  have h3 := num nRated x.ra
  have h4 := num nFull x.fu
  have h5 := num nStalled x.sd
  unfold c27 r27
  unfold nFirst nLast nRated nFull nStalled at *
  rw [RcC_eq, LsC_eq]
  simp only [PrC_eq] at *
  repeat' (first | (simp (disch := first | omega | (simp only [List.length_cons, List.length_nil]; first | done | omega)) only [go_sem, zRc, z20p]) | (refine allI (fun b => ?_)) | (refine allT (fun τ => ?_)) | (refine brP (fun h => ?_) (fun h => ?_) <;> (try simp only [zgx, zbx] at h)) | refine call_U (h1) ?_ | refine callG_U (fun _ => h1) ?_ | refine call_T (h1) ?_ | refine callG_T (fun _ => h1) ?_ | refine call_U (h2) ?_ | refine callG_U (fun _ => h2) ?_ | refine call_T (h2) ?_ | refine callG_T (fun _ => h2) ?_ | refine call_U (h3) ?_ | refine callG_U (fun _ => h3) ?_ | refine call_T (h3) ?_ | refine callG_T (fun _ => h3) ?_ | refine call_U (h4) ?_ | refine callG_U (fun _ => h4) ?_ | refine call_T (h4) ?_ | refine callG_T (fun _ => h4) ?_ | refine call_U (h5) ?_ | refine callG_U (fun _ => h5) ?_ | refine call_T (h5) ?_ | refine callG_T (fun _ => h5) ?_ | refine call_N (h1) ?_ | refine call_of (h1) ?_ | refine callG_of (fun _ => h1) ?_ | refine call_N (h2) ?_ | refine call_of (h2) ?_ | refine callG_of (fun _ => h2) ?_ | refine call_N (h3) ?_ | refine call_of (h3) ?_ | refine callG_of (fun _ => h3) ?_ | refine call_N (h4) ?_ | refine call_of (h4) ?_ | refine callG_of (fun _ => h4) ?_ | refine call_N (h5) ?_ | refine call_of (h5) ?_ | refine callG_of (fun _ => h5) ?_ | (apply And.intro; focus (first | omega | (simp; done) | (simp +contextual; done) | (intros; and_intros <;> first | assumption | omega) | (intros; simp_all; done) | (intro hgd; refine ⟨hgd, ?_⟩; simp [hgd]; done) | (intro hgd; simp only [zgx] at hgd ⊢; omega))) | fail)
  exact leV.agg ⟨leV.refl _, leV.refl _, leV.refl _, (leV.fsl_sl _ _ _).trans (leV.of_eq rfl), trivial⟩
theorem stamp (r : Rc) (hr : r.ps.length ≤ 1000000000) (s : Int) : LCalls Tryd.prog gl 26 [.sl 4 1 (RcC r), .int .i64 s] [] fun v H => ∃ b c b2 c2, (1 ≤ c ∧ r.ps.length ≤ c2) ∧ v = .msl 80 4 b 0 1 c ∧ H = [(80, .blk b ([.int .i64 r.ty, .int .i64 r.ti, .int .i64 s, .msl 81 4 b2 0 r.ps.length c2] ++ List.replicate ((c - 1) * 4) .any)), (81, .blk b2 (Sp (r.ps.flatMap PrC) ((c2 - r.ps.length) * 4)))] := by
  refine fn_viewT Tryd.func26 t26 Tryd.ntmps26 (by simp) ?_
  have hle := len_pr r.ps
  unfold c26 r26
  rw [RcC_eq]
  repeat' (first | (simp (disch := first | omega | (simp only [List.length_cons, List.length_nil]; first | done | omega)) only [go_sem]) | (refine allI (fun b => ?_)) | (refine allT (fun τ => ?_)) | (refine brP (fun h => ?_) (fun h => ?_) <;> (try simp only [zgx, zbx] at h)) | (apply And.intro; focus (first | omega | (simp; done) | (simp +contextual; done) | (intros; and_intros <;> first | assumption | omega) | (intros; simp_all; done) | (intro hgd; refine ⟨hgd, ?_⟩; simp [hgd]; done) | (intro hgd; simp only [zgx] at hgd ⊢; omega))) | fail)
  refine loopI (ι := Option (Nat × Nat × Nat × Nat)) (fun y => match y with
    | none => True
    | some (_, c, _, c2) => 1 ≤ c ∧ r.ps.length ≤ c2) (fun y => match y with
    | none => [(6, .int .i64 0), (5, .fsl 1 0 []), (4, .fsl 1 0 []), (0, .sl 4 1 [.int .i64 r.ty, .int .i64 r.ti, .int .i64 r.se, .sl 4 r.ps.length (r.ps.flatMap PrC)]), (1, .int .i64 s)]
    | some (b, c, _, _) => [(6, .int .i64 1), (5, .msl 27 4 b 0 1 c), (4, .fsl 1 0 []), (0, .sl 4 1 [.int .i64 r.ty, .int .i64 r.ti, .int .i64 r.se, .sl 4 r.ps.length (r.ps.flatMap PrC)]), (1, .int .i64 s)]) (fun y => match y with
    | none => []
    | some (b, c, b2, c2) => [(27, .blk b ([.int .i64 r.ty, .int .i64 r.ti, .int .i64 s, .msl 20 4 b2 0 r.ps.length c2] ++ List.replicate ((c - 1) * 4) .any)), (20, .blk b2 (Sp (r.ps.flatMap PrC) ((c2 - r.ps.length) * 4)))]) (fun y => if y = none then 1 else 0) none trivial Ents.same ?_
  rintro (_ | ⟨b, c, b2, c2⟩) hp
  · dsimp only
    repeat' (first | (simp (disch := first | omega | (simp only [List.length_cons, List.length_nil]; first | done | omega)) only [go_sem, zRc]) | (refine allI (fun b => ?_)) | (refine allT (fun τ => ?_)) | (refine brP (fun h => ?_) (fun h => ?_) <;> (try simp only [zgx, zbx] at h)) | (apply And.intro; focus (first | omega | (simp; done) | (simp +contextual; done) | (intros; and_intros <;> first | assumption | omega) | (intros; simp_all; done) | (intro hgd; refine ⟨hgd, ?_⟩; simp [hgd]; done) | (intro hgd; simp only [zgx] at hgd ⊢; omega))) | fail)
    refine ⟨by simp only [roomy]; omega, fun b2 c2 hc2 => ⟨by simp only [roomy]; omega, fun b3 c hc => ⟨⟨some (b3, c, b2, c2), ⟨hc, hc2⟩⟩, by simp, ?_⟩⟩⟩
    first
      | exact Ents.sub (by simp [go_sem]) ⟨_, .cons_cons _ (.cons_cons _ (List.nil_sublist _)), List.Perm.refl _⟩
      | exact Ents.sub (by simp [go_sem]) ⟨_, .cons_cons _ (.cons _ (.cons_cons _ (List.nil_sublist _))), List.Perm.refl _⟩
      | skip
    all_goals trace_state
  · dsimp only at hp ⊢
    repeat' (first | (simp (disch := first | omega | (simp only [List.length_cons, List.length_nil]; first | done | omega)) only [go_sem]) | (refine allI (fun b => ?_)) | (refine allT (fun τ => ?_)) | (refine brP (fun h => ?_) (fun h => ?_) <;> (try simp only [zgx, zbx] at h)) | (apply And.intro; focus (first | omega | (simp; done) | (simp +contextual; done) | (intros; and_intros <;> first | assumption | omega) | (intros; simp_all; done) | (intro hgd; refine ⟨hgd, ?_⟩; simp [hgd]; done) | (intro hgd; simp only [zgx] at hgd ⊢; omega))) | fail)
    refine ⟨_, _, fun w0 M HF w v hI hv => ⟨M, MLe.refl M, leV.msl_name _ 80 _ _ _ _ _ M v hv, ?_⟩, b, c, b2, c2, hp, rfl, rfl⟩
    have h2 : Lx.Inv gl w0 M ([(80, .blk b (.int .i64 r.ty :: .int .i64 r.ti :: .int .i64 s :: .msl 20 4 b2 0 r.ps.length c2 :: List.replicate ((c - 1) * 4) .any)), (81, .blk b2 (Sp (r.ps.flatMap PrC) ((c2 - r.ps.length) * 4)))] ++ HF) w := hI.names (by simp)
    have h3 : heapLe [(80, .blk b (.int .i64 r.ty :: .int .i64 r.ti :: .int .i64 s :: .msl 20 4 b2 0 r.ps.length c2 :: List.replicate ((c - 1) * 4) .any)), (81, .blk b2 (Sp (r.ps.flatMap PrC) ((c2 - r.ps.length) * 4)))] [(80, .blk b (.int .i64 r.ty :: .int .i64 r.ti :: .int .i64 s :: .msl 81 4 b2 0 r.ps.length c2 :: List.replicate ((c - 1) * 4) .any)), (81, .blk b2 (Sp (r.ps.flatMap PrC) ((c2 - r.ps.length) * 4)))] :=
      ⟨⟨rfl, leV.refl _, leV.refl _, leV.refl _, leV.msl_name _ _ _ _ _ _ _, leVs.refl _⟩, ⟨rfl, leVs.refl _⟩, trivial⟩
    exact h3.inv h2
end Go.Proofs.YtfheeghkajihoaaDoor
