/- Layer 22: records at random (the laws). -/
import Derived.Test.YtfheeghkajihoaaDoorXg
import Derived.Test.YtfheeghkajihoaaDoorCoda
import Derived.Test.YtfheeghkajihoaaDoorMake
namespace Go.Proofs.YtfheeghkajihoaaDoor
open Go Go.Lx
set_option linter.unusedSimpArgs false
set_option linter.unusedVariables false
set_option maxRecDepth 100000
set_option maxHeartbeats 4000000

/-- what is handed back -/
theorem recN (b : Nat) (l : List Int) (a a' ty ti se : Int) (H : Heap) (hs : [(3000, SB b l a')].Sublist H) (h : a ≤ a' ∧ a' ≤ a + 12) : ∃ r' H', leVH gl (.agg [.int .i64 ty, .int .i64 ti, .int .i64 se, .fsl 1 0 []]) H r' H' ∧ ∃ e', H' = [(3000, e')] ∧ ∃ (r : Rc) (a' : Int), r' = .agg (RcC r) ∧ r.ps.length ≤ 5 ∧ (a ≤ a' ∧ a' ≤ a + 12) ∧ e' = SB b l a' :=
  ⟨.agg (RcC ⟨ty, ti, se, []⟩), _, leVH.of (leV.agg ⟨leV.refl _, leV.refl _, leV.refl _, leV.nil_sl _ _, trivial⟩) ⟨_, hs, List.Perm.refl _⟩, _, rfl, ⟨ty, ti, se, []⟩, a', rfl, by simp, h, rfl⟩
theorem recL (b : Nat) (l : List Int) (a a' ty ti se : Int) (lp : List Pr) (b81 c81 : Nat) (H : Heap) (hl : lp.length ≤ 5) (hc : lp.length ≤ c81) (h81 : getH H 81 = some (.blk b81 (Sp (lp.flatMap PrC) ((c81 - lp.length) * 4)))) (hs : [(3000, SB b l a')].Sublist (delH H 81)) (h : a ≤ a' ∧ a' ≤ a + 12) : ∃ r' H', leVH gl (.agg [.int .i64 ty, .int .i64 ti, .int .i64 se, .msl 81 4 b81 0 lp.length c81]) H r' H' ∧ ∃ e', H' = [(3000, e')] ∧ ∃ (r : Rc) (a' : Int), r' = .agg (RcC r) ∧ r.ps.length ≤ 5 ∧ (a ≤ a' ∧ a' ≤ a + 12) ∧ e' = SB b l a' := by
  have hlq := len_pr lp
  refine ⟨.agg (RcC ⟨ty, ti, se, lp⟩), _, leVH.pub 81 h81 ?_ (leVH.of ?_ ⟨_, hs, List.Perm.refl _⟩), _, rfl, ⟨ty, ti, se, lp⟩, a', rfl, hl, h, rfl⟩
  · simp only [pubV, pubA, pubCs, pubC, if_true]
    exact ⟨trivial, trivial, trivial, ⟨trivial, by rw [length_Sp]; omega, hc⟩, trivial⟩
  · simp only [pubV, pubA, pubCs, pubC, if_true]
    exact leV.of_eq (by rw [sp_take _ hlq, RcC_eq])
theorem pr_set (l : List Pr) (i m : Nat) (x : Pr) (h : i < l.length) : List.take (i * 4) (Sp (l.flatMap PrC) m) ++ PrC x ++ List.drop (i * 4 + 4) (Sp (l.flatMap PrC) m) = Sp ((l.set i x).flatMap PrC) m := by
  have e : l = l.take i ++ l.getD i pr0 :: l.drop (i + 1) := by
    conv => lhs; rw [← List.take_append_drop i l, List.drop_eq_getElem_cons h]
    simp [List.getD, h]
  have hp : ((l.take i).flatMap PrC).length = i * 4 := by rw [len_pr, List.length_take, Nat.min_eq_left (by omega)]
  have e2 : Sp (l.flatMap PrC) m = (l.take i).flatMap PrC ++ (PrC (l.getD i pr0) ++ ((l.drop (i + 1)).flatMap PrC ++ List.replicate m .any)) := by
    conv => lhs; rw [e]
    rw [Sp, List.flatMap_append, List.flatMap_cons]
    simp only [List.append_assoc]
  rw [e2, List.take_left' hp, ← hp, List.drop_length_add_append, List.set_eq_take_append_cons_drop, if_pos h]
  simp [Sp, PrC_eq]
theorem record (b : Nat) (l : List Int) (a most : Int) (hl : okS l a) (ha : a ≤ 999999999900) (hm : 1 ≤ most ∧ most ≤ 1000) : ActsE Tryd.prog gl 12 [.ptr 3000 b 0, .int .i64 most] 3000 (SB b l a) fun v e => ∃ (r : Rc) (a' : Int), v = .agg (RcC r) ∧ r.ps.length ≤ 5 ∧ (a ≤ a' ∧ a' ≤ a + 12) ∧ e = SB b l a' := by
  refine fn_viewT Tryd.func12 t12 Tryd.ntmps12 (by simp) ?_
  obtain ⟨hl1, hl2, hl3, hl4⟩ := hl
  have hok : ∀ k : Int, 0 ≤ k → k ≤ 20 → okS l (a + k) := fun k h0 h1 => ⟨hl1, hl2, by omega, by omega⟩
  have p1 := pick_ 3000 b l a [1300, 1300, 1302, 1307, 1320, 1320, 1005, 1331] ⟨hl1, hl2, hl3, hl4⟩ (by simp) (by simp)
  simp only [List.map_cons, List.map_nil, List.length_cons, List.length_nil, Nat.zero_add, Nat.reduceAdd] at p1
  unfold c12 r12
  repeat' (first | (simp (disch := first | omega | (simp only [List.length_cons, List.length_nil]; first | done | omega)) only [go_sem, zRc]) | (refine allI (fun b => ?_)) | (refine allT (fun τ => ?_)) | (refine brP (fun h => ?_) (fun h => ?_) <;> (try simp only [zgx, zbx] at h)) | (apply And.intro; focus (first | omega | (simp; done) | (simp +contextual; done) | (intros; and_intros <;> first | assumption | omega) | (intros; simp_all; done) | (intro hgd; refine ⟨hgd, ?_⟩; simp [hgd]; done) | (intro hgd; simp only [zgx] at hgd ⊢; omega))) | fail)
  first | refine actsE_U (p1) (by first | rfl | simp only [getH, if_true]) ?_ | refine actsE_T (p1) (by first | rfl | simp only [getH, if_true]) ?_ | refine actsE_N (p1) (by first | rfl | simp only [getH, if_true]) ?_ | refine actsE_of (p1) (by first | rfl | simp only [getH, if_true]) ?_
  rintro _ _ ⟨rfl, rfl⟩
  repeat' (first | (simp (disch := first | omega | (simp only [List.length_cons, List.length_nil]; first | done | omega)) only [go_sem]) | (refine allI (fun b => ?_)) | (refine allT (fun τ => ?_)) | (refine brP (fun h => ?_) (fun h => ?_) <;> (try simp only [zgx, zbx] at h)) | (apply And.intro; focus (first | omega | (simp; done) | (simp +contextual; done) | (intros; and_intros <;> first | assumption | omega) | (intros; simp_all; done) | (intro hgd; refine ⟨hgd, ?_⟩; simp [hgd]; done) | (intro hgd; simp only [zgx] at hgd ⊢; omega))) | fail)
  first | refine actsE_U (n_ 3000 _ l _ 5 (hok 1 (by omega) (by omega)) (by omega)) (by first | rfl | simp only [getH, if_true]) ?_ | refine actsE_T (n_ 3000 _ l _ 5 (hok 1 (by omega) (by omega)) (by omega)) (by first | rfl | simp only [getH, if_true]) ?_ | refine actsE_N (n_ 3000 _ l _ 5 (hok 1 (by omega) (by omega)) (by omega)) (by first | rfl | simp only [getH, if_true]) ?_ | refine actsE_of (n_ 3000 _ l _ 5 (hok 1 (by omega) (by omega)) (by omega)) (by first | rfl | simp only [getH, if_true]) ?_
  rintro _ _ ⟨rfl, rfl⟩
  repeat' (first | (simp (disch := first | omega | (simp only [List.length_cons, List.length_nil]; first | done | omega)) only [go_sem]) | (refine allI (fun b => ?_)) | (refine allT (fun τ => ?_)) | (refine brP (fun h => ?_) (fun h => ?_) <;> (try simp only [zgx, zbx] at h)) | (apply And.intro; focus (first | omega | (simp; done) | (simp +contextual; done) | (intros; and_intros <;> first | assumption | omega) | (intros; simp_all; done) | (intro hgd; refine ⟨hgd, ?_⟩; simp [hgd]; done) | (intro hgd; simp only [zgx] at hgd ⊢; omega))) | fail)
  first | refine actsE_U (range_ 3000 _ l _ 1 most (by have := hok 2 (by omega) (by omega); rwa [show a + 2 = a + 1 + 1 by omega] at this) (by omega) (by omega)) (by first | rfl | simp only [getH, if_true]) ?_ | refine actsE_T (range_ 3000 _ l _ 1 most (by have := hok 2 (by omega) (by omega); rwa [show a + 2 = a + 1 + 1 by omega] at this) (by omega) (by omega)) (by first | rfl | simp only [getH, if_true]) ?_ | refine actsE_N (range_ 3000 _ l _ 1 most (by have := hok 2 (by omega) (by omega); rwa [show a + 2 = a + 1 + 1 by omega] at this) (by omega) (by omega)) (by first | rfl | simp only [getH, if_true]) ?_ | refine actsE_of (range_ 3000 _ l _ 1 most (by have := hok 2 (by omega) (by omega); rwa [show a + 2 = a + 1 + 1 by omega] at this) (by omega) (by omega)) (by first | rfl | simp only [getH, if_true]) ?_
  rintro _ _ ⟨rfl, rfl⟩
  generalize pickV l a [1300, 1300, 1302, 1307, 1320, 1320, 1005, 1331] = ty at *
  generalize nV l (a + 1) 5 = ti at *
  generalize nV l (a + 1 + 1) _ = se at *
  repeat' (first | (simp (disch := first | omega | (simp only [List.length_cons, List.length_nil]; first | done | omega)) only [go_sem, zRc]) | (refine allI (fun b => ?_)) | (refine allT (fun τ => ?_)) | (refine brP (fun h => ?_) (fun h => ?_) <;> (try simp only [zgx, zbx] at h)) | (apply And.intro; focus (first | omega | (simp; done) | (simp +contextual; done) | (intros; and_intros <;> first | assumption | omega) | (intros; simp_all; done) | (intro hgd; refine ⟨hgd, ?_⟩; simp [hgd]; done) | (intro hgd; simp only [zgx] at hgd ⊢; omega))) | fail)
  · rename_i b4 b5
    generalize b = b6 at *
    have hk3 : okS l (a + 1 + 1 + 1) := by have := hok 3 (by omega) (by omega); rwa [show a + 3 = a + 1 + 1 + 1 by omega] at this
    have hk4 : okS l (a + 1 + 1 + 1 + 1) := by have := hok 4 (by omega) (by omega); rwa [show a + 4 = a + 1 + 1 + 1 + 1 by omega] at this
    have hk5 : okS l (a + 1 + 1 + 1 + 1 + 1) := by have := hok 5 (by omega) (by omega); rwa [show a + 5 = a + 1 + 1 + 1 + 1 + 1 by omega] at this
    first | refine actsE_U (range_ 3000 _ l _ 0 most hk3 (by omega) (by omega)) (by first | rfl | simp only [getH, if_true]) ?_ | refine actsE_T (range_ 3000 _ l _ 0 most hk3 (by omega) (by omega)) (by first | rfl | simp only [getH, if_true]) ?_ | refine actsE_N (range_ 3000 _ l _ 0 most hk3 (by omega) (by omega)) (by first | rfl | simp only [getH, if_true]) ?_ | refine actsE_of (range_ 3000 _ l _ 0 most hk3 (by omega) (by omega)) (by first | rfl | simp only [getH, if_true]) ?_
    rintro _ _ ⟨rfl, rfl⟩
    have hv1 := nV_range l (a + 1 + 1 + 1) (n := most - 0 + 1) (by omega)
    generalize nV l (a + 1 + 1 + 1) (most - 0 + 1) = v1 at *
    repeat' (first | (simp (disch := first | omega | (simp only [List.length_cons, List.length_nil]; first | done | omega)) only [go_sem]) | (refine allI (fun b => ?_)) | (refine allT (fun τ => ?_)) | (refine brP (fun h => ?_) (fun h => ?_) <;> (try simp only [zgx, zbx] at h)) | (apply And.intro; focus (first | omega | (simp; done) | (simp +contextual; done) | (intros; and_intros <;> first | assumption | omega) | (intros; simp_all; done) | (intro hgd; refine ⟨hgd, ?_⟩; simp [hgd]; done) | (intro hgd; simp only [zgx] at hgd ⊢; omega))) | fail)
    first | refine actsE_U (n_ 3000 _ l _ 4 hk4 (by omega)) (by first | rfl | simp only [getH, if_true]) ?_ | refine actsE_T (n_ 3000 _ l _ 4 hk4 (by omega)) (by first | rfl | simp only [getH, if_true]) ?_ | refine actsE_N (n_ 3000 _ l _ 4 hk4 (by omega)) (by first | rfl | simp only [getH, if_true]) ?_ | refine actsE_of (n_ 3000 _ l _ 4 hk4 (by omega)) (by first | rfl | simp only [getH, if_true]) ?_
    rintro _ _ ⟨rfl, rfl⟩
    have hv2 := nV_range l (a + 1 + 1 + 1 + 1) (n := 4) (by omega)
    generalize nV l (a + 1 + 1 + 1 + 1) 4 = v2 at *
    repeat' (first | (simp (disch := first | omega | (simp only [List.length_cons, List.length_nil]; first | done | omega)) only [go_sem]) | (refine allI (fun b => ?_)) | (refine allT (fun τ => ?_)) | (refine brP (fun h => ?_) (fun h => ?_) <;> (try simp only [zgx, zbx] at h)) | (apply And.intro; focus (first | omega | (simp; done) | (simp +contextual; done) | (intros; and_intros <;> first | assumption | omega) | (intros; simp_all; done) | (intro hgd; refine ⟨hgd, ?_⟩; simp [hgd]; done) | (intro hgd; simp only [zgx] at hgd ⊢; omega))) | fail)
    first | refine actsE_U (n_ 3000 _ l _ 3 hk5 (by omega)) (by first | rfl | simp only [getH, if_true]) ?_ | refine actsE_T (n_ 3000 _ l _ 3 hk5 (by omega)) (by first | rfl | simp only [getH, if_true]) ?_ | refine actsE_N (n_ 3000 _ l _ 3 hk5 (by omega)) (by first | rfl | simp only [getH, if_true]) ?_ | refine actsE_of (n_ 3000 _ l _ 3 hk5 (by omega)) (by first | rfl | simp only [getH, if_true]) ?_
    rintro _ _ ⟨rfl, rfl⟩
    generalize nV l (a + 1 + 1 + 1 + 1 + 1) 3 = v3 at *
    have hls := loss ⟨0 + v1, 0 + v1 + v2, 0, v3, 0⟩ ti
    have hlp : (lossP ⟨0 + v1, 0 + v1 + v2, 0, v3, 0⟩).length = 5 := rfl
    rw [LsC_eq, RcC_eq] at hls
    dsimp only at hls
    generalize lossP ⟨0 + v1, 0 + v1 + v2, 0, v3, 0⟩ = lp at *
    have hlq := len_pr lp
    have hst := LCalls.args (args' := [.fsl 4 1 [.int .i64 1331, .int .i64 ti, .int .i64 0, .sl 4 lp.length (lp.flatMap PrC)], .int .i64 (1 + se)]) (stamp ⟨1331, ti, 0, lp⟩ (by dsimp only; omega) (1 + se)) ⟨leV.fsl_sl _ _ _, leV.refl _, trivial⟩
    dsimp only at hst
    have hk6 : okS l (a + 1 + 1 + 1 + 1 + 1 + 1) := by have := hok 6 (by omega) (by omega); rwa [show a + 6 = a + 1 + 1 + 1 + 1 + 1 + 1 by omega] at this
    have hk7 : okS l (a + 1 + 1 + 1 + 1 + 1 + 1 + 1) := by have := hok 7 (by omega) (by omega); rwa [show a + 7 = a + 1 + 1 + 1 + 1 + 1 + 1 + 1 by omega] at this
    repeat' (first | (simp (disch := first | omega | (simp only [List.length_cons, List.length_nil]; first | done | omega)) only [go_sem, zLs, zRc]) | (refine allI (fun b => ?_)) | (refine allT (fun τ => ?_)) | (refine brP (fun h => ?_) (fun h => ?_) <;> (try simp only [zgx, zbx] at h)) | refine call_U (hls) ?_ | refine callG_U (fun _ => hls) ?_ | refine call_T (hls) ?_ | refine callG_T (fun _ => hls) ?_ | refine call_N (hls) ?_ | refine call_of (hls) ?_ | refine callG_of (fun _ => hls) ?_ | (apply And.intro; focus (first | omega | (simp; done) | (simp +contextual; done) | (intros; and_intros <;> first | assumption | omega) | (intros; simp_all; done) | (intro hgd; refine ⟨hgd, ?_⟩; simp [hgd]; done) | (intro hgd; simp only [zgx] at hgd ⊢; omega))) | fail)
    have hk8 : okS l (a + 1 + 1 + 1 + 1 + 1 + 1 + 1 + 1) := by have := hok 8 (by omega) (by omega); rwa [show a + 8 = a + 1 + 1 + 1 + 1 + 1 + 1 + 1 + 1 by omega] at this
    have hk9 : okS l (a + 1 + 1 + 1 + 1 + 1 + 1 + 1 + 1 + 1) := by have := hok 9 (by omega) (by omega); rwa [show a + 9 = a + 1 + 1 + 1 + 1 + 1 + 1 + 1 + 1 + 1 by omega] at this
    first | refine actsQ_U (hst) (List.Perm.refl _) ?_ | refine actsQ_T (hst) (List.Perm.refl _) ?_ | refine actsQ_N (hst) (List.Perm.refl _) ?_ | refine actsQ_of (hst) (List.Perm.refl _) ?_
    rintro _ _ ⟨b80, c80, b81, c81, ⟨hc80, hc81⟩, rfl, rfl⟩
    repeat' (first | (simp (disch := first | omega | (simp only [List.length_cons, List.length_nil]; first | done | omega)) only [go_sem, zRc]) | (refine allI (fun b => ?_)) | (refine allT (fun τ => ?_)) | (refine brP (fun h => ?_) (fun h => ?_) <;> (try simp only [zgx, zbx] at h)) | (apply And.intro; focus (first | omega | (simp; done) | (simp +contextual; done) | (intros; and_intros <;> first | assumption | omega) | (intros; simp_all; done) | (intro hgd; refine ⟨hgd, ?_⟩; simp [hgd]; done) | (intro hgd; simp only [zgx] at hgd ⊢; omega))) | fail)
    first | refine actsE_U (n_ 3000 _ l _ 8 hk6 (by omega)) (by first | rfl | simp only [getH, if_true]) ?_ | refine actsE_T (n_ 3000 _ l _ 8 hk6 (by omega)) (by first | rfl | simp only [getH, if_true]) ?_ | refine actsE_N (n_ 3000 _ l _ 8 hk6 (by omega)) (by first | rfl | simp only [getH, if_true]) ?_ | refine actsE_of (n_ 3000 _ l _ 8 hk6 (by omega)) (by first | rfl | simp only [getH, if_true]) ?_
    rintro _ _ ⟨rfl, rfl⟩
    generalize nV l (a + 1 + 1 + 1 + 1 + 1 + 1) 8 = v4 at *
    repeat' (first | (simp (disch := first | omega | (simp only [List.length_cons, List.length_nil]; first | done | omega)) only [go_sem]) | (refine allI (fun b => ?_)) | (refine allT (fun τ => ?_)) | (refine brP (fun h => ?_) (fun h => ?_) <;> (try simp only [zgx, zbx] at h)) | (apply And.intro; focus (first | omega | (simp; done) | (simp +contextual; done) | (intros; and_intros <;> first | assumption | omega) | (intros; simp_all; done) | (intro hgd; refine ⟨hgd, ?_⟩; simp [hgd]; done) | (intro hgd; simp only [zgx] at hgd ⊢; omega))) | fail)
    · first | refine actsE_U (n_ 3000 _ l _ 2 hk7 (by omega)) (by first | rfl | simp only [getH, if_true]) ?_ | refine actsE_T (n_ 3000 _ l _ 2 hk7 (by omega)) (by first | rfl | simp only [getH, if_true]) ?_ | refine actsE_N (n_ 3000 _ l _ 2 hk7 (by omega)) (by first | rfl | simp only [getH, if_true]) ?_ | refine actsE_of (n_ 3000 _ l _ 2 hk7 (by omega)) (by first | rfl | simp only [getH, if_true]) ?_
      rintro _ _ ⟨rfl, rfl⟩
      have hv5 := nV_range l (a + 1 + 1 + 1 + 1 + 1 + 1 + 1) (n := 2) (by omega)
      generalize nV l (a + 1 + 1 + 1 + 1 + 1 + 1 + 1) 2 = v5 at *
      obtain ⟨j, rfl⟩ : ∃ j : Nat, v5 = (j : Int) := ⟨v5.toNat, by omega⟩
      have hset := pr_set lp j ((c81 - lp.length) * 4) ⟨nFirst, 2, 0, [120]⟩ (by omega)
      have hlS := length_Sp (lp.flatMap PrC) ((c81 - lp.length) * 4)
      rw [PrC_eq] at hset
      unfold nFirst at hset
      dsimp only at hset
      repeat' (first | (simp (disch := first | omega | (simp only [List.length_cons, List.length_nil]; first | done | omega)) only [go_sem, zPr]) | (refine allI (fun b => ?_)) | (refine allT (fun τ => ?_)) | (refine brP (fun h => ?_) (fun h => ?_) <;> (try simp only [zgx, zbx] at h)) | (apply And.intro; focus (first | omega | (simp; done) | (simp +contextual; done) | (intros; and_intros <;> first | assumption | omega) | (intros; simp_all; done) | (intro hgd; refine ⟨hgd, ?_⟩; simp [hgd]; done) | (intro hgd; simp only [zgx] at hgd ⊢; omega))) | fail)
      rw [hset]
      have hll : (lp.set j ⟨[102, 105, 114, 115, 116], 2, 0, [120]⟩).length = lp.length := List.length_set ..
      rw [← hll] at hlp hc81 ⊢
      generalize lp.set j ⟨[102, 105, 114, 115, 116], 2, 0, [120]⟩ = lq at *
      first | refine actsE_U (n_ 3000 _ l _ 24 hk8 (by omega)) (by first | rfl | simp only [getH, if_true]) ?_ | refine actsE_T (n_ 3000 _ l _ 24 hk8 (by omega)) (by first | rfl | simp only [getH, if_true]) ?_ | refine actsE_N (n_ 3000 _ l _ 24 hk8 (by omega)) (by first | rfl | simp only [getH, if_true]) ?_ | refine actsE_of (n_ 3000 _ l _ 24 hk8 (by omega)) (by first | rfl | simp only [getH, if_true]) ?_
      rintro _ _ ⟨rfl, rfl⟩
      generalize nV l (a + 1 + 1 + 1 + 1 + 1 + 1 + 1 + 1) 24 = sw at *
      repeat' (first | (simp (disch := first | omega | (simp only [List.length_cons, List.length_nil]; first | done | omega)) only [go_sem]) | (refine allI (fun b => ?_)) | (refine allT (fun τ => ?_)) | (refine brP (fun h => ?_) (fun h => ?_) <;> (try simp only [zgx, zbx] at h)) | (apply And.intro; focus (first | omega | (simp; done) | (simp +contextual; done) | (intros; and_intros <;> first | assumption | omega) | (intros; simp_all; done) | (intro hgd; refine ⟨hgd, ?_⟩; simp [hgd]; done) | (intro hgd; simp only [zgx] at hgd ⊢; omega))) | fail)
      · have p7 := fun bb => pick_ 3000 bb l ((a + 1 + 1 + 1 + 1 + 1 + 1 + 1 + 1) + 1) [0, -1, 1073741824, 1073741825, 1073741754, most + 64, most + 200] hk9 (by simp) (by simp)
        simp only [List.map_cons, List.map_nil, List.length_cons, List.length_nil, Nat.zero_add, Nat.reduceAdd] at p7
        first | refine actsE_U (p7 _) (by first | rfl | simp only [getH, if_true]) ?_ | refine actsE_T (p7 _) (by first | rfl | simp only [getH, if_true]) ?_ | refine actsE_N (p7 _) (by first | rfl | simp only [getH, if_true]) ?_ | refine actsE_of (p7 _) (by first | rfl | simp only [getH, if_true]) ?_
        rintro _ _ ⟨rfl, rfl⟩
        repeat' (first | (simp (disch := first | omega | (simp only [List.length_cons, List.length_nil]; first | done | omega)) only [go_sem, zRc]) | (refine allI (fun b => ?_)) | (refine allT (fun τ => ?_)) | (refine brP (fun h => ?_) (fun h => ?_) <;> (try simp only [zgx, zbx] at h)) | (apply And.intro; focus (first | omega | (simp; done) | (simp +contextual; done) | (intros; and_intros <;> first | assumption | omega) | (intros; simp_all; done) | (intro hgd; refine ⟨hgd, ?_⟩; simp [hgd]; done) | (intro hgd; simp only [zgx] at hgd ⊢; omega))) | fail)
        exact recL b4 l a _ _ _ _ lq b81 c81 _ (by omega) (by omega) (by first | rfl | simp [getH]) (.cons _ (.cons _ (.cons _ sub1))) (by omega)
      · repeat' (first | (simp (disch := first | omega | (simp only [List.length_cons, List.length_nil]; first | done | omega)) only [go_sem, zRc]) | (refine allI (fun b => ?_)) | (refine allT (fun τ => ?_)) | (refine brP (fun h => ?_) (fun h => ?_) <;> (try simp only [zgx, zbx] at h)) | (apply And.intro; focus (first | omega | (simp; done) | (simp +contextual; done) | (intros; and_intros <;> first | assumption | omega) | (intros; simp_all; done) | (intro hgd; refine ⟨hgd, ?_⟩; simp [hgd]; done) | (intro hgd; simp only [zgx] at hgd ⊢; omega))) | fail)
        exact recL b4 l a _ _ _ _ lq b81 c81 _ (by omega) (by omega) (by first | rfl | simp [getH]) (.cons _ (.cons _ (.cons _ sub1))) (by omega)
      · repeat' (first | (simp (disch := first | omega | (simp only [List.length_cons, List.length_nil]; first | done | omega)) only [go_sem, zRc]) | (refine allI (fun b => ?_)) | (refine allT (fun τ => ?_)) | (refine brP (fun h => ?_) (fun h => ?_) <;> (try simp only [zgx, zbx] at h)) | (apply And.intro; focus (first | omega | (simp; done) | (simp +contextual; done) | (intros; and_intros <;> first | assumption | omega) | (intros; simp_all; done) | (intro hgd; refine ⟨hgd, ?_⟩; simp [hgd]; done) | (intro hgd; simp only [zgx] at hgd ⊢; omega))) | fail)
        exact recL b4 l a _ _ _ _ lq b81 c81 _ (by omega) (by omega) (by first | rfl | simp [getH]) (.cons _ (.cons _ (.cons _ sub1))) (by omega)
    · first | refine actsE_U (n_ 3000 _ l _ 24 hk7 (by omega)) (by first | rfl | simp only [getH, if_true]) ?_ | refine actsE_T (n_ 3000 _ l _ 24 hk7 (by omega)) (by first | rfl | simp only [getH, if_true]) ?_ | refine actsE_N (n_ 3000 _ l _ 24 hk7 (by omega)) (by first | rfl | simp only [getH, if_true]) ?_ | refine actsE_of (n_ 3000 _ l _ 24 hk7 (by omega)) (by first | rfl | simp only [getH, if_true]) ?_
      rintro _ _ ⟨rfl, rfl⟩
      generalize nV l (a + 1 + 1 + 1 + 1 + 1 + 1 + 1) 24 = sw at *
      repeat' (first | (simp (disch := first | omega | (simp only [List.length_cons, List.length_nil]; first | done | omega)) only [go_sem]) | (refine allI (fun b => ?_)) | (refine allT (fun τ => ?_)) | (refine brP (fun h => ?_) (fun h => ?_) <;> (try simp only [zgx, zbx] at h)) | (apply And.intro; focus (first | omega | (simp; done) | (simp +contextual; done) | (intros; and_intros <;> first | assumption | omega) | (intros; simp_all; done) | (intro hgd; refine ⟨hgd, ?_⟩; simp [hgd]; done) | (intro hgd; simp only [zgx] at hgd ⊢; omega))) | fail)
      · have p7 := fun bb => pick_ 3000 bb l ((a + 1 + 1 + 1 + 1 + 1 + 1 + 1) + 1) [0, -1, 1073741824, 1073741825, 1073741754, most + 64, most + 200] hk8 (by simp) (by simp)
        simp only [List.map_cons, List.map_nil, List.length_cons, List.length_nil, Nat.zero_add, Nat.reduceAdd] at p7
        first | refine actsE_U (p7 _) (by first | rfl | simp only [getH, if_true]) ?_ | refine actsE_T (p7 _) (by first | rfl | simp only [getH, if_true]) ?_ | refine actsE_N (p7 _) (by first | rfl | simp only [getH, if_true]) ?_ | refine actsE_of (p7 _) (by first | rfl | simp only [getH, if_true]) ?_
        rintro _ _ ⟨rfl, rfl⟩
        repeat' (first | (simp (disch := first | omega | (simp only [List.length_cons, List.length_nil]; first | done | omega)) only [go_sem, zRc]) | (refine allI (fun b => ?_)) | (refine allT (fun τ => ?_)) | (refine brP (fun h => ?_) (fun h => ?_) <;> (try simp only [zgx, zbx] at h)) | (apply And.intro; focus (first | omega | (simp; done) | (simp +contextual; done) | (intros; and_intros <;> first | assumption | omega) | (intros; simp_all; done) | (intro hgd; refine ⟨hgd, ?_⟩; simp [hgd]; done) | (intro hgd; simp only [zgx] at hgd ⊢; omega))) | fail)
        exact recL b4 l a _ _ _ _ lp b81 c81 _ (by omega) (by omega) (by first | rfl | simp [getH]) (.cons _ (.cons _ (.cons _ sub1))) (by omega)
      · repeat' (first | (simp (disch := first | omega | (simp only [List.length_cons, List.length_nil]; first | done | omega)) only [go_sem, zRc]) | (refine allI (fun b => ?_)) | (refine allT (fun τ => ?_)) | (refine brP (fun h => ?_) (fun h => ?_) <;> (try simp only [zgx, zbx] at h)) | (apply And.intro; focus (first | omega | (simp; done) | (simp +contextual; done) | (intros; and_intros <;> first | assumption | omega) | (intros; simp_all; done) | (intro hgd; refine ⟨hgd, ?_⟩; simp [hgd]; done) | (intro hgd; simp only [zgx] at hgd ⊢; omega))) | fail)
        exact recL b4 l a _ _ _ _ lp b81 c81 _ (by omega) (by omega) (by first | rfl | simp [getH]) (.cons _ (.cons _ (.cons _ sub1))) (by omega)
      · repeat' (first | (simp (disch := first | omega | (simp only [List.length_cons, List.length_nil]; first | done | omega)) only [go_sem, zRc]) | (refine allI (fun b => ?_)) | (refine allT (fun τ => ?_)) | (refine brP (fun h => ?_) (fun h => ?_) <;> (try simp only [zgx, zbx] at h)) | (apply And.intro; focus (first | omega | (simp; done) | (simp +contextual; done) | (intros; and_intros <;> first | assumption | omega) | (intros; simp_all; done) | (intro hgd; refine ⟨hgd, ?_⟩; simp [hgd]; done) | (intro hgd; simp only [zgx] at hgd ⊢; omega))) | fail)
        exact recL b4 l a _ _ _ _ lp b81 c81 _ (by omega) (by omega) (by first | rfl | simp [getH]) (.cons _ (.cons _ (.cons _ sub1))) (by omega)

  · rename_i b4 b5
    first | refine actsE_U (n_ 3000 _ l _ 24 (by have := hok 3 (by omega) (by omega); rwa [show a + 3 = a + 1 + 1 + 1 by omega] at this) (by omega)) (by first | rfl | simp only [getH, if_true]) ?_ | refine actsE_T (n_ 3000 _ l _ 24 (by have := hok 3 (by omega) (by omega); rwa [show a + 3 = a + 1 + 1 + 1 by omega] at this) (by omega)) (by first | rfl | simp only [getH, if_true]) ?_ | refine actsE_N (n_ 3000 _ l _ 24 (by have := hok 3 (by omega) (by omega); rwa [show a + 3 = a + 1 + 1 + 1 by omega] at this) (by omega)) (by first | rfl | simp only [getH, if_true]) ?_ | refine actsE_of (n_ 3000 _ l _ 24 (by have := hok 3 (by omega) (by omega); rwa [show a + 3 = a + 1 + 1 + 1 by omega] at this) (by omega)) (by first | rfl | simp only [getH, if_true]) ?_
    rintro _ _ ⟨rfl, rfl⟩
    generalize nV l (a + 1 + 1 + 1) 24 = sw at *
    repeat' (first | (simp (disch := first | omega | (simp only [List.length_cons, List.length_nil]; first | done | omega)) only [go_sem]) | (refine allI (fun b => ?_)) | (refine allT (fun τ => ?_)) | (refine brP (fun h => ?_) (fun h => ?_) <;> (try simp only [zgx, zbx] at h)) | (apply And.intro; focus (first | omega | (simp; done) | (simp +contextual; done) | (intros; and_intros <;> first | assumption | omega) | (intros; simp_all; done) | (intro hgd; refine ⟨hgd, ?_⟩; simp [hgd]; done) | (intro hgd; simp only [zgx] at hgd ⊢; omega))) | fail)
    · have p7 := fun bb => pick_ 3000 bb l (a + 1 + 1 + 1 + 1) [0, -1, 1073741824, 1073741825, 1073741754, most + 64, most + 200] (by have := hok 4 (by omega) (by omega); rwa [show a + 4 = a + 1 + 1 + 1 + 1 by omega] at this) (by simp) (by simp)
      simp only [List.map_cons, List.map_nil, List.length_cons, List.length_nil, Nat.zero_add, Nat.reduceAdd] at p7
      first | refine actsE_U (p7 _) (by first | rfl | simp only [getH, if_true]) ?_ | refine actsE_T (p7 _) (by first | rfl | simp only [getH, if_true]) ?_ | refine actsE_N (p7 _) (by first | rfl | simp only [getH, if_true]) ?_ | refine actsE_of (p7 _) (by first | rfl | simp only [getH, if_true]) ?_
      rintro _ _ ⟨rfl, rfl⟩
      repeat' (first | (simp (disch := first | omega | (simp only [List.length_cons, List.length_nil]; first | done | omega)) only [go_sem, zRc]) | (refine allI (fun b => ?_)) | (refine allT (fun τ => ?_)) | (refine brP (fun h => ?_) (fun h => ?_) <;> (try simp only [zgx, zbx] at h)) | (apply And.intro; focus (first | omega | (simp; done) | (simp +contextual; done) | (intros; and_intros <;> first | assumption | omega) | (intros; simp_all; done) | (intro hgd; refine ⟨hgd, ?_⟩; simp [hgd]; done) | (intro hgd; simp only [zgx] at hgd ⊢; omega))) | fail)
      exact recN b4 l a _ _ _ _ _ (.cons _ (.cons _ sub1)) (by omega)
    · repeat' (first | (simp (disch := first | omega | (simp only [List.length_cons, List.length_nil]; first | done | omega)) only [go_sem, zRc]) | (refine allI (fun b => ?_)) | (refine allT (fun τ => ?_)) | (refine brP (fun h => ?_) (fun h => ?_) <;> (try simp only [zgx, zbx] at h)) | (apply And.intro; focus (first | omega | (simp; done) | (simp +contextual; done) | (intros; and_intros <;> first | assumption | omega) | (intros; simp_all; done) | (intro hgd; refine ⟨hgd, ?_⟩; simp [hgd]; done) | (intro hgd; simp only [zgx] at hgd ⊢; omega))) | fail)
      exact recN b4 l a _ _ _ _ _ (.cons _ (.cons _ sub1)) (by omega)
    · repeat' (first | (simp (disch := first | omega | (simp only [List.length_cons, List.length_nil]; first | done | omega)) only [go_sem, zRc]) | (refine allI (fun b => ?_)) | (refine allT (fun τ => ?_)) | (refine brP (fun h => ?_) (fun h => ?_) <;> (try simp only [zgx, zbx] at h)) | (apply And.intro; focus (first | omega | (simp; done) | (simp +contextual; done) | (intros; and_intros <;> first | assumption | omega) | (intros; simp_all; done) | (intro hgd; refine ⟨hgd, ?_⟩; simp [hgd]; done) | (intro hgd; simp only [zgx] at hgd ⊢; omega))) | fail)
      exact recN b4 l a _ _ _ _ _ (.cons _ (.cons _ sub1)) (by omega)
end Go.Proofs.YtfheeghkajihoaaDoor
