/- Layer 22: copies (the program). -/
import Derived.Test.YtfheeghkajihoaaDoorBg
namespace Go.Proofs.YtfheeghkajihoaaDoor
open Go Go.Lx
set_option linter.unusedSimpArgs false
set_option linter.unusedVariables false
set_option maxRecDepth 100000
set_option maxHeartbeats 4000000

theorem clnO (n : Nat) (xs : List LV) (hx : xs.length = n * 5) (hn : n ≤ 1073741900) : NewsE Tryd.prog gl 41 [.sl 5 n xs] 60 fun r e => ∃ b c, n ≤ c ∧ r = .msl 60 5 b 0 n c ∧ e = .blk b (Sp xs ((c - n) * 5)) := by
  refine fn_viewT Tryd.func41 t41 Tryd.ntmps41 (by simp) ?_
  unfold c41 r41
  repeat' (first | (simp (disch := first | omega | (simp only [List.length_cons, List.length_nil]; first | done | omega)) only [go_sem]) | (refine allI (fun b => ?_)) | (refine allT (fun τ => ?_)) | (refine brP (fun h => ?_) (fun h => ?_) <;> (try simp only [zgx, zbx] at h)) | (apply And.intro; focus (first | omega | (simp; done) | (simp +contextual; done) | (intros; and_intros <;> first | assumption | omega) | (intros; simp_all; done) | (intro hgd; refine ⟨hgd, ?_⟩; simp [hgd]; done) | (intro hgd; simp only [zgx] at hgd ⊢; omega))) | fail)
  intro r0 hr0
  repeat' (first | (simp (disch := first | omega | (simp only [List.length_cons, List.length_nil]; first | done | omega)) only [go_sem]) | (refine allI (fun b => ?_)) | (refine allT (fun τ => ?_)) | (refine brP (fun h => ?_) (fun h => ?_) <;> (try simp only [zgx, zbx] at h)) | (apply And.intro; focus (first | omega | (simp; done) | (simp +contextual; done) | (intros; and_intros <;> first | assumption | omega) | (intros; simp_all; done) | (intro hgd; refine ⟨hgd, ?_⟩; simp [hgd]; done) | (intro hgd; simp only [zgx] at hgd ⊢; omega))) | fail)
  · obtain rfl : n = 0 := hr0 (by simpa using h)
    obtain rfl : xs = [] := List.length_eq_zero_iff.1 (by omega)
    exact ⟨_, _, leVH.ofNil 60 _ 5, _, rfl, 0, 0, Nat.le_refl _, rfl, rfl⟩
  · refine ⟨by simp only [roomy]; omega, fun b2 c2 hc2 => ?_⟩
    refine ⟨_, _, leVH.ren 60 (leV.msl_name _ 60 _ _ _ _ _) sub1, _, rfl, b2, c2, hc2, rfl, rfl⟩
theorem clnR (n : Nat) (xs : List LV) (hx : xs.length = n * 4) (hn : n ≤ 1073741900) : NewsE Tryd.prog gl 42 [.sl 4 n xs] 61 fun r e => ∃ b c, n ≤ c ∧ r = .msl 61 4 b 0 n c ∧ e = .blk b (Sp xs ((c - n) * 4)) := by
  refine fn_viewT Tryd.func42 t42 Tryd.ntmps42 (by simp) ?_
  unfold c42 r42
  repeat' (first | (simp (disch := first | omega | (simp only [List.length_cons, List.length_nil]; first | done | omega)) only [go_sem]) | (refine allI (fun b => ?_)) | (refine allT (fun τ => ?_)) | (refine brP (fun h => ?_) (fun h => ?_) <;> (try simp only [zgx, zbx] at h)) | (apply And.intro; focus (first | omega | (simp; done) | (simp +contextual; done) | (intros; and_intros <;> first | assumption | omega) | (intros; simp_all; done) | (intro hgd; refine ⟨hgd, ?_⟩; simp [hgd]; done) | (intro hgd; simp only [zgx] at hgd ⊢; omega))) | fail)
  intro r0 hr0
  repeat' (first | (simp (disch := first | omega | (simp only [List.length_cons, List.length_nil]; first | done | omega)) only [go_sem]) | (refine allI (fun b => ?_)) | (refine allT (fun τ => ?_)) | (refine brP (fun h => ?_) (fun h => ?_) <;> (try simp only [zgx, zbx] at h)) | (apply And.intro; focus (first | omega | (simp; done) | (simp +contextual; done) | (intros; and_intros <;> first | assumption | omega) | (intros; simp_all; done) | (intro hgd; refine ⟨hgd, ?_⟩; simp [hgd]; done) | (intro hgd; simp only [zgx] at hgd ⊢; omega))) | fail)
  · obtain rfl : n = 0 := hr0 (by simpa using h)
    obtain rfl : xs = [] := List.length_eq_zero_iff.1 (by omega)
    exact ⟨_, _, leVH.ofNil 61 _ 4, _, rfl, 0, 0, Nat.le_refl _, rfl, rfl⟩
  · refine ⟨by simp only [roomy]; omega, fun b2 c2 hc2 => ?_⟩
    refine ⟨_, _, leVH.ren 61 (leV.msl_name _ 61 _ _ _ _ _) sub1, _, rfl, b2, c2, hc2, rfl, rfl⟩
theorem clnL (n : Nat) (xs : List LV) (hx : xs.length = n * 5) (hn : n ≤ 1073741900) : NewsE Tryd.prog gl 44 [.sl 5 n xs] 62 fun r e => ∃ b c, n ≤ c ∧ r = .msl 62 5 b 0 n c ∧ e = .blk b (Sp xs ((c - n) * 5)) := by
  refine fn_viewT Tryd.func44 t44 Tryd.ntmps44 (by simp) ?_
  unfold c44 r44
  repeat' (first | (simp (disch := first | omega | (simp only [List.length_cons, List.length_nil]; first | done | omega)) only [go_sem]) | (refine allI (fun b => ?_)) | (refine allT (fun τ => ?_)) | (refine brP (fun h => ?_) (fun h => ?_) <;> (try simp only [zgx, zbx] at h)) | (apply And.intro; focus (first | omega | (simp; done) | (simp +contextual; done) | (intros; and_intros <;> first | assumption | omega) | (intros; simp_all; done) | (intro hgd; refine ⟨hgd, ?_⟩; simp [hgd]; done) | (intro hgd; simp only [zgx] at hgd ⊢; omega))) | fail)
  intro r0 hr0
  repeat' (first | (simp (disch := first | omega | (simp only [List.length_cons, List.length_nil]; first | done | omega)) only [go_sem]) | (refine allI (fun b => ?_)) | (refine allT (fun τ => ?_)) | (refine brP (fun h => ?_) (fun h => ?_) <;> (try simp only [zgx, zbx] at h)) | (apply And.intro; focus (first | omega | (simp; done) | (simp +contextual; done) | (intros; and_intros <;> first | assumption | omega) | (intros; simp_all; done) | (intro hgd; refine ⟨hgd, ?_⟩; simp [hgd]; done) | (intro hgd; simp only [zgx] at hgd ⊢; omega))) | fail)
  · obtain rfl : n = 0 := hr0 (by simpa using h)
    obtain rfl : xs = [] := List.length_eq_zero_iff.1 (by omega)
    exact ⟨_, _, leVH.ofNil 62 _ 5, _, rfl, 0, 0, Nat.le_refl _, rfl, rfl⟩
  · refine ⟨by simp only [roomy]; omega, fun b2 c2 hc2 => ?_⟩
    refine ⟨_, _, leVH.ren 62 (leV.msl_name _ 62 _ _ _ _ _) sub1, _, rfl, b2, c2, hc2, rfl, rfl⟩
theorem clnG (n : Nat) (xs : List LV) (hx : xs.length = n * 2) (hn : n ≤ 1073741900) : NewsE Tryd.prog gl 45 [.sl 2 n xs] 63 fun r e => ∃ b c, n ≤ c ∧ r = .msl 63 2 b 0 n c ∧ e = .blk b (Sp xs ((c - n) * 2)) := by
  refine fn_viewT Tryd.func45 t45 Tryd.ntmps45 (by simp) ?_
  unfold c45 r45
  repeat' (first | (simp (disch := first | omega | (simp only [List.length_cons, List.length_nil]; first | done | omega)) only [go_sem]) | (refine allI (fun b => ?_)) | (refine allT (fun τ => ?_)) | (refine brP (fun h => ?_) (fun h => ?_) <;> (try simp only [zgx, zbx] at h)) | (apply And.intro; focus (first | omega | (simp; done) | (simp +contextual; done) | (intros; and_intros <;> first | assumption | omega) | (intros; simp_all; done) | (intro hgd; refine ⟨hgd, ?_⟩; simp [hgd]; done) | (intro hgd; simp only [zgx] at hgd ⊢; omega))) | fail)
  intro r0 hr0
  repeat' (first | (simp (disch := first | omega | (simp only [List.length_cons, List.length_nil]; first | done | omega)) only [go_sem]) | (refine allI (fun b => ?_)) | (refine allT (fun τ => ?_)) | (refine brP (fun h => ?_) (fun h => ?_) <;> (try simp only [zgx, zbx] at h)) | (apply And.intro; focus (first | omega | (simp; done) | (simp +contextual; done) | (intros; and_intros <;> first | assumption | omega) | (intros; simp_all; done) | (intro hgd; refine ⟨hgd, ?_⟩; simp [hgd]; done) | (intro hgd; simp only [zgx] at hgd ⊢; omega))) | fail)
  · obtain rfl : n = 0 := hr0 (by simpa using h)
    obtain rfl : xs = [] := List.length_eq_zero_iff.1 (by omega)
    exact ⟨_, _, leVH.ofNil 63 _ 2, _, rfl, 0, 0, Nat.le_refl _, rfl, rfl⟩
  · refine ⟨by simp only [roomy]; omega, fun b2 c2 hc2 => ?_⟩
    refine ⟨_, _, leVH.ren 63 (leV.msl_name _ 63 _ _ _ _ _) sub1, _, rfl, b2, c2, hc2, rfl, rfl⟩
theorem clnP (n : Nat) (xs : List LV) (hx : xs.length = n * 4) (hn : n ≤ 1073741900) : Pure Tryd.prog gl 69 [.sl 4 n xs] (.sl 4 n xs) := by
  refine fn_viewT Tryd.func69 t69 Tryd.ntmps69 (by simp) ?_
  unfold c69 r69
  repeat' (first | (simp (disch := first | omega | (simp only [List.length_cons, List.length_nil]; first | done | omega)) only [go_sem]) | (refine allI (fun b => ?_)) | (refine allT (fun τ => ?_)) | (refine brP (fun h => ?_) (fun h => ?_) <;> (try simp only [zgx, zbx] at h)) | (apply And.intro; focus (first | omega | (simp; done) | (simp +contextual; done) | (intros; and_intros <;> first | assumption | omega) | (intros; simp_all; done) | (intro hgd; refine ⟨hgd, ?_⟩; simp [hgd]; done) | (intro hgd; simp only [zgx] at hgd ⊢; omega))) | fail)
  intro r0 hr0
  repeat' (first | (simp (disch := first | omega | (simp only [List.length_cons, List.length_nil]; first | done | omega)) only [go_sem]) | (refine allI (fun b => ?_)) | (refine allT (fun τ => ?_)) | (refine brP (fun h => ?_) (fun h => ?_) <;> (try simp only [zgx, zbx] at h)) | (apply And.intro; focus (first | omega | (simp; done) | (simp +contextual; done) | (intros; and_intros <;> first | assumption | omega) | (intros; simp_all; done) | (intro hgd; refine ⟨hgd, ?_⟩; simp [hgd]; done) | (intro hgd; simp only [zgx] at hgd ⊢; omega))) | fail)
  · obtain rfl : n = 0 := hr0 (by simpa using h)
    obtain rfl : xs = [] := List.length_eq_zero_iff.1 (by omega)
    exact view_sub (leV.nil_sl _ _) (List.Sublist.refl _)
  · exact ⟨by simp only [roomy]; omega, fun τ => view_sub (leV.osl_sl _ _ _ _ _) (List.nil_sublist _)⟩
theorem clrec (r : Rc) (hn : r.ps.length ≤ 1073741900) : Pure Tryd.prog gl 43 [.agg (RcC r)] (.agg (RcC r)) := by
  refine fn_viewT Tryd.func43 t43 Tryd.ntmps43 (by simp) ?_
  have ha := clnP r.ps.length (r.ps.flatMap PrC) (len_pr _) hn
  unfold c43 r43
  rw [RcC_eq]
  repeat' (first | (simp (disch := first | omega | (simp only [List.length_cons, List.length_nil]; first | done | omega)) only [go_sem]) | (refine allI (fun b => ?_)) | (refine allT (fun τ => ?_)) | (refine brP (fun h => ?_) (fun h => ?_) <;> (try simp only [zgx, zbx] at h)) | refine call_U (ha) ?_ | refine callG_U (fun _ => ha) ?_ | refine call_T (ha) ?_ | refine callG_T (fun _ => ha) ?_ | refine call_N (ha) ?_ | refine call_of (ha) ?_ | refine callG_of (fun _ => ha) ?_ | (apply And.intro; focus (first | omega | (simp; done) | (simp +contextual; done) | (intros; and_intros <;> first | assumption | omega) | (intros; simp_all; done) | (intro hgd; refine ⟨hgd, ?_⟩; simp [hgd]; done) | (intro hgd; simp only [zgx] at hgd ⊢; omega))) | fail)
  exact view_sub (leV.refl _) (List.nil_sublist _)
end Go.Proofs.YtfheeghkajihoaaDoor
