/- Layer 22: lists of records at random (the laws). -/
import Derived.Test.YtfheeghkajihoaaDoorXf
import Derived.Test.YtfheeghkajihoaaDoorCc
namespace Go.Proofs.YtfheeghkajihoaaDoor
open Go Go.Lx
set_option linter.unusedSimpArgs false
set_option linter.unusedVariables false
set_option maxRecDepth 100000
set_option maxHeartbeats 4000000

theorem records (b : Nat) (l : List Int) (a : Int) (n : Nat) (hl : okS l a) (ha : a ≤ 999999990000) (hn : n ≤ 30) : ActsE Tryd.prog gl 15 [.ptr 3000 b 0, .int .i64 n] 3000 (SB b l a) fun v e => ∃ (rs : List Rc) (a' : Int), v = .sl 4 rs.length (rs.flatMap RcC) ∧ rs.length = n ∧ (∀ r ∈ rs, r.ps.length ≤ 5) ∧ (a ≤ a' ∧ a' ≤ a + 1 + 12 * n) ∧ e = SB b l a' := by
  refine fn_viewT Tryd.func15 t15 Tryd.ntmps15 (by simp) ?_
  have hok : ∀ k : Int, 0 ≤ k → k ≤ 1000 → okS l (a + k) := fun k h0 h1 => ⟨hl.1, hl.2.1, by have := hl.2.2; omega, by have := hl.2.2; omega⟩
  have p1 := pick_ 3000 b l a [3, 6, 12, 80] hl (by simp) (by simp)
  have hpm := pickV_mem l a [3, 6, 12, 80] (by simp)
  simp only [List.map_cons, List.map_nil, List.length_cons, List.length_nil, Nat.zero_add, Nat.reduceAdd] at p1
  generalize pickV l a [3, 6, 12, 80] = most at *
  have hms : 1 ≤ most ∧ most ≤ 1000 := by simp at hpm; omega
  unfold c15 r15
  repeat' (first | (simp (disch := first | omega | (simp only [List.length_cons, List.length_nil]; first | done | omega)) only [go_sem]) | (refine allI (fun b => ?_)) | (refine allT (fun τ => ?_)) | (refine brP (fun h => ?_) (fun h => ?_) <;> (try simp only [zgx, zbx] at h)) | (apply And.intro; focus (first | omega | (simp; done) | (simp +contextual; done) | (intros; and_intros <;> first | assumption | omega) | (intros; simp_all; done) | (intro hgd; refine ⟨hgd, ?_⟩; simp [hgd]; done) | (intro hgd; simp only [zgx] at hgd ⊢; omega))) | fail)
  first | refine actsE_U (p1) (by first | rfl | simp only [getH, if_true]) ?_ | refine actsE_T (p1) (by first | rfl | simp only [getH, if_true]) ?_ | refine actsE_N (p1) (by first | rfl | simp only [getH, if_true]) ?_ | refine actsE_of (p1) (by first | rfl | simp only [getH, if_true]) ?_
  rintro _ _ ⟨rfl, rfl⟩
  repeat' (first | (simp (disch := first | omega | (simp only [List.length_cons, List.length_nil]; first | done | omega)) only [go_sem]) | (refine allI (fun b => ?_)) | (refine allT (fun τ => ?_)) | (refine brP (fun h => ?_) (fun h => ?_) <;> (try simp only [zgx, zbx] at h)) | (apply And.intro; focus (first | omega | (simp; done) | (simp +contextual; done) | (intros; and_intros <;> first | assumption | omega) | (intros; simp_all; done) | (intro hgd; refine ⟨hgd, ?_⟩; simp [hgd]; done) | (intro hgd; simp only [zgx] at hgd ⊢; omega))) | fail)
  refine loopI (ι := List Rc × Int × Tok) (fun y => (y.1.length ≤ n ∧ ∀ r ∈ y.1, r.ps.length ≤ 5) ∧ (a + 1 ≤ y.2.1 ∧ y.2.1 ≤ a + 1 + 12 * y.1.length)) (fun y => [(7, .int .i64 y.1.length), (6, .osl 21 y.2.2 4 y.1.length (y.1.flatMap RcC)), (5, .int .i64 most), (0, .ptr 3000 b 0), (1, .int .i64 n)]) (fun y => [(21, .tok y.2.2), (3000, SB b l y.2.1)]) (fun y => n - y.1.length) ([], a + 1, ⟨0, 0, 0⟩) ⟨⟨by simp, by simp⟩, by dsimp only; simp⟩ (Ents.dum 21 (Ents.envH ?_ rfl)) ?_
  · simp only [envLe, Lx.get, if_true, Nat.reduceEqDiff, if_false]
    exact ⟨leV.refl _, leV.nil_osl _ _ _ _, leV.refl _, leV.refl _, leV.refl _, trivial⟩
  rintro ⟨rs, a1, τ⟩ ⟨⟨h1, h2⟩, h3, h4⟩
  dsimp only at h1 h2 h3 h4 ⊢
  have hlr := len_rc rs
  have hk1 : okS l a1 := by have := hok (a1 - a) (by omega) (by omega); rwa [show a + (a1 - a) = a1 by omega] at this
  simp (disch := first | omega | (simp only [List.length_cons, List.length_nil]; first | done | omega)) only [go_sem]
  refine brP (fun hb => ?_) (fun hb => ?_)
  · have hlt : rs.length < n := by simpa using hb
    repeat' (first | (simp (disch := first | omega | (simp only [List.length_cons, List.length_nil]; first | done | omega)) only [go_sem]) | (refine allI (fun b => ?_)) | (refine allT (fun τ => ?_)) | (refine brP (fun h => ?_) (fun h => ?_) <;> (try simp only [zgx, zbx] at h)) | (apply And.intro; focus (first | omega | (simp; done) | (simp +contextual; done) | (intros; and_intros <;> first | assumption | omega) | (intros; simp_all; done) | (intro hgd; refine ⟨hgd, ?_⟩; simp [hgd]; done) | (intro hgd; simp only [zgx] at hgd ⊢; omega))) | fail)
    first | refine actsE_U (record b l a1 most hk1 (by omega) hms) (by first | rfl | simp only [getH, if_true]) ?_ | refine actsE_T (record b l a1 most hk1 (by omega) hms) (by first | rfl | simp only [getH, if_true]) ?_ | refine actsE_N (record b l a1 most hk1 (by omega) hms) (by first | rfl | simp only [getH, if_true]) ?_ | refine actsE_of (record b l a1 most hk1 (by omega) hms) (by first | rfl | simp only [getH, if_true]) ?_
    rintro _ _ ⟨r, a2, rfl, hr, ha2, rfl⟩
    rw [RcC_eq]
    repeat' (first | (simp (disch := first | omega | (simp only [List.length_cons, List.length_nil]; first | done | omega)) only [go_sem, zRc]) | (refine allI (fun b => ?_)) | (refine allT (fun τ => ?_)) | (refine brP (fun h => ?_) (fun h => ?_) <;> (try simp only [zgx, zbx] at h)) | (apply And.intro; focus (first | omega | (simp; done) | (simp +contextual; done) | (intros; and_intros <;> first | assumption | omega) | (intros; simp_all; done) | (intro hgd; refine ⟨hgd, ?_⟩; simp [hgd]; done) | (intro hgd; simp only [zgx] at hgd ⊢; omega))) | fail)
    refine ⟨by simp only [roomy]; omega, fun τ1 => ⟨⟨(rs ++ [r], a2, τ1), ⟨⟨by dsimp only; simp; omega, fun q hq => ?_⟩, by dsimp only; simp; omega⟩⟩, by dsimp only; simp; omega, ?_⟩⟩
    · rcases List.mem_append.1 hq with hq | hq
      · exact h2 q hq
      · simp only [List.mem_singleton] at hq
        rw [hq]; exact hr
    · dsimp only
      rw [List.length_append, List.length_singleton, List.flatMap_append, List.flatMap_singleton, RcC_eq, show ((rs.length + 1 : Nat) : Int) = (rs.length : Int) + 1 by omega]
      exact Ents.envH (by simp [go_sem]) rfl
  · have hre : rs.length = n := by simp only [decide_eq_false_iff_not] at hb; omega
    repeat' (first | (simp (disch := first | omega | (simp only [List.length_cons, List.length_nil]; first | done | omega)) only [go_sem]) | (refine allI (fun b => ?_)) | (refine allT (fun τ => ?_)) | (refine brP (fun h => ?_) (fun h => ?_) <;> (try simp only [zgx, zbx] at h)) | (apply And.intro; focus (first | omega | (simp; done) | (simp +contextual; done) | (intros; and_intros <;> first | assumption | omega) | (intros; simp_all; done) | (intro hgd; refine ⟨hgd, ?_⟩; simp [hgd]; done) | (intro hgd; simp only [zgx] at hgd ⊢; omega))) | fail)
    exact ⟨_, _, leVH.of (leV.osl_sl _ _ _ _ _) ⟨_, .cons _ (List.Sublist.refl _), List.Perm.refl _⟩, _, rfl, rs, a1, rfl, hre, h2, by omega, rfl⟩
end Go.Proofs.YtfheeghkajihoaaDoor
