/- Layer 22: records in any order, in several calls (the law). -/
import Derived.Test.YtfheeghkajihoaaDoorDk
import Derived.Test.YtfheeghkajihoaaDoorCf
import Derived.Test.YtfheeghkajihoaaDoorCl6
namespace Go.Proofs.YtfheeghkajihoaaDoor
open Go Go.Lx
set_option linter.unusedSimpArgs false
set_option linter.unusedVariables false
set_option maxRecDepth 100000
set_option maxHeartbeats 4000000

theorem feedsL (l : List Int) (bo : Int) (hl : l.length ≤ 200000000000000 ∧ ∀ n ∈ l, -9223372036854775808 ≤ n ∧ n ≤ 9223372036854775807) : Pure Tryd.prog gl 6 [Ms l, .int .i64 bo] (.bool true) := by
  refine fn_viewT Tryd.func6 t6 Tryd.ntmps6 (by simp) ?_
  have hnw := new_ l
  have hok : ∀ k : Int, 0 ≤ k → k ≤ 10000 → okS l k := fun k h0 h1 => ⟨hl.1, hl.2, by omega, by omega⟩
  have hn := new bo
  have hrn := rnew bo
  have ok0 := okA0 bo
  have hs0 := settled0 bo
  change Pure _ _ _ _ (.agg (AsC (as0 bo))) at hn
  generalize as0 bo = A0 at *
  have hsa0 := sameA A0 0 ok0 (by omega)
  unfold c6 r6
  rw [Ms] at hnw ⊢
  simp only [AsC_eq] at hn hrn hsa0
  repeat' (first | (simp (disch := first | omega | (simp only [List.length_cons, List.length_nil]; first | done | omega)) only [go_sem]) | (refine allI (fun b => ?_)) | (refine allT (fun τ => ?_)) | (refine brP (fun h => ?_) (fun h => ?_) <;> (try simp only [zgx, zbx] at h)) | (apply And.intro; focus (first | omega | (simp; done) | (simp +contextual; done) | (intros; and_intros <;> first | assumption | omega) | (intros; simp_all; done) | (intro hgd; refine ⟨hgd, ?_⟩; simp [hgd]; done) | (intro hgd; simp only [zgx] at hgd ⊢; omega))) | fail)
  first | refine newsE_U (hnw) ?_ | refine newsE_T (hnw) ?_ | refine newsE_of (hnw) ?_
  rintro _ _ ⟨BS, rfl, rfl⟩
  repeat' (first | (simp (disch := first | omega | (simp only [List.length_cons, List.length_nil]; first | done | omega)) only [go_sem, bne_self_eq_false, Bool.not_true]) | (refine allI (fun b => ?_)) | (refine allT (fun τ => ?_)) | (refine brP (fun h => ?_) (fun h => ?_) <;> (try simp only [zgx, zbx] at h)) | refine call_U (hn) ?_ | refine callG_U (fun _ => hn) ?_ | refine call_T (hn) ?_ | refine callG_T (fun _ => hn) ?_ | refine call_U (hrn) ?_ | refine callG_U (fun _ => hrn) ?_ | refine call_T (hrn) ?_ | refine callG_T (fun _ => hrn) ?_ | refine call_U (hsa0) ?_ | refine callG_U (fun _ => hsa0) ?_ | refine call_T (hsa0) ?_ | refine callG_T (fun _ => hsa0) ?_ | refine call_N (hn) ?_ | refine call_of (hn) ?_ | refine callG_of (fun _ => hn) ?_ | refine call_N (hrn) ?_ | refine call_of (hrn) ?_ | refine callG_of (fun _ => hrn) ?_ | refine call_N (hsa0) ?_ | refine call_of (hsa0) ?_ | refine callG_of (fun _ => hsa0) ?_ | (apply And.intro; focus (first | omega | (simp; done) | (simp +contextual; done) | (intros; and_intros <;> first | assumption | omega) | (intros; simp_all; done) | (intro hgd; refine ⟨hgd, ?_⟩; simp [hgd]; done) | (intro hgd; simp only [zgx] at hgd ⊢; omega))) | fail)
  rename_i b6
  generalize b = b7 at *
  refine loopI (ι := Nat × As × Int) (fun y => (y.1 ≤ 4 ∧ (0 ≤ y.2.2 ∧ y.2.2 ≤ 200 * y.1)) ∧ okA y.2.1 (13 * y.1) ∧ Settled (y.2.1, [])) (fun y => [(8, .int .i64 y.1), (7, .ptr 7 b7 0), (6, .ptr 6 b6 0), (5, .ptr 3000 BS 0)]) (fun y => [(7, .blk b7 (AsC y.2.1)), (6, .blk b6 (AsC y.2.1)), (3000, SB BS l y.2.2)]) (fun y => 4 - y.1) (0, A0, 0) ⟨⟨by omega, by dsimp only; omega⟩, ok0, hs0⟩ (Ents.envH (by simp [go_sem]) (by simp only [AsC_eq])) ?_
  rintro ⟨i, A, a⟩ ⟨⟨hi, ha1, ha2⟩, okA1, hset⟩
  dsimp only at hi ha1 ha2 okA1 hset ⊢
  rw [AsC_eq]
  simp (disch := first | omega | (simp only [List.length_cons, List.length_nil]; first | done | omega)) only [go_sem]
  refine brP (fun hb => ?_) (fun hb => ?_)
  · have hlt : i < 4 := by simp only [decide_eq_true_eq] at hb; omega
    repeat' (first | (simp (disch := first | omega | (simp only [List.length_cons, List.length_nil]; first | done | omega)) only [go_sem]) | (refine allI (fun b => ?_)) | (refine allT (fun τ => ?_)) | (refine brP (fun h => ?_) (fun h => ?_) <;> (try simp only [zgx, zbx] at h)) | (apply And.intro; focus (first | omega | (simp; done) | (simp +contextual; done) | (intros; and_intros <;> first | assumption | omega) | (intros; simp_all; done) | (intro hgd; refine ⟨hgd, ?_⟩; simp [hgd]; done) | (intro hgd; simp only [zgx] at hgd ⊢; omega))) | fail)
    first | refine actsE_U (n_ 3000 _ l _ 14 (hok a (by omega) (by omega)) (by omega)) (by first | rfl | simp only [getH, if_true]) ?_ | refine actsE_T (n_ 3000 _ l _ 14 (hok a (by omega) (by omega)) (by omega)) (by first | rfl | simp only [getH, if_true]) ?_ | refine actsE_N (n_ 3000 _ l _ 14 (hok a (by omega) (by omega)) (by omega)) (by first | rfl | simp only [getH, if_true]) ?_ | refine actsE_of (n_ 3000 _ l _ 14 (hok a (by omega) (by omega)) (by omega)) (by first | rfl | simp only [getH, if_true]) ?_
    rintro _ _ ⟨rfl, rfl⟩
    have hv := nV_range l a (n := 14) (by omega)
    generalize nV l a 14 = v0 at *
    obtain ⟨n, rfl⟩ : ∃ n : Nat, v0 = (n : Int) := ⟨v0.toNat, by omega⟩
    repeat' (first | (simp (disch := first | omega | (simp only [List.length_cons, List.length_nil]; first | done | omega)) only [go_sem]) | (refine allI (fun b => ?_)) | (refine allT (fun τ => ?_)) | (refine brP (fun h => ?_) (fun h => ?_) <;> (try simp only [zgx, zbx] at h)) | (apply And.intro; focus (first | omega | (simp; done) | (simp +contextual; done) | (intros; and_intros <;> first | assumption | omega) | (intros; simp_all; done) | (intro hgd; refine ⟨hgd, ?_⟩; simp [hgd]; done) | (intro hgd; simp only [zgx] at hgd ⊢; omega))) | fail)
    first | refine actsE_U (records BS l (a + 1) n (hok (a + 1) (by omega) (by omega)) (by omega) (by omega)) (by first | rfl | simp only [getH, if_true]) ?_ | refine actsE_T (records BS l (a + 1) n (hok (a + 1) (by omega) (by omega)) (by omega) (by omega)) (by first | rfl | simp only [getH, if_true]) ?_ | refine actsE_N (records BS l (a + 1) n (hok (a + 1) (by omega) (by omega)) (by omega) (by omega)) (by first | rfl | simp only [getH, if_true]) ?_ | refine actsE_of (records BS l (a + 1) n (hok (a + 1) (by omega) (by omega)) (by omega) (by omega)) (by first | rfl | simp only [getH, if_true]) ?_
    rintro _ _ ⟨rs, a2, rfl, hnr, hps, ha3, rfl⟩
    have hp2 : ∀ r ∈ rs, r.ps.length ≤ 1000000 := fun r hr => by have := hps r hr; omega
    have hf := feed A _ okA1 rs (by omega) hp2
    have hrf := rfeed A _ okA1 hset rs (by omega) hp2
    have ok1 := okA_feedS okA1 rs hp2
    have hset1 := set_feedS hset okA1 rs hp2
    have hsa := sameA _ _ ok1 (by omega)
    have hse := sameEs (feedS A rs).2 (by have := cap_feedS A rs; have := okA1.op; omega) (okO_feedS okA1 rs hp2 (by omega))
    generalize feedS A rs = S at *
    have hg := flush S.1 _ ok1 (by omega)
    have hrg := rflush S.1 _ ok1 (by omega)
    have ok2 := okA_flushS ok1
    have hset2 := set_flushS ok1
    have hta := sameA _ _ ok2 (by omega)
    have hte := sameEs (flushS S.1).2 (by have := cap_flushS S.1; have := ok1.op; omega) (okO_flushS ok1 (by omega))
    generalize flushS S.1 = T at *
    simp only [AsC_eq] at hf hrf hsa hg hrg hta
    repeat' (first | (simp (disch := first | omega | (simp only [List.length_cons, List.length_nil]; first | done | omega)) only [go_sem, Bool.not_true]) | (refine allI (fun b => ?_)) | (refine allT (fun τ => ?_)) | (refine brP (fun h => ?_) (fun h => ?_) <;> (try simp only [zgx, zbx] at h)) | refine call_U (hf) ?_ | refine callG_U (fun _ => hf) ?_ | refine call_T (hf) ?_ | refine callG_T (fun _ => hf) ?_ | refine call_U (hrf) ?_ | refine callG_U (fun _ => hrf) ?_ | refine call_T (hrf) ?_ | refine callG_T (fun _ => hrf) ?_ | refine call_U (hsa) ?_ | refine callG_U (fun _ => hsa) ?_ | refine call_T (hsa) ?_ | refine callG_T (fun _ => hsa) ?_ | refine call_U (hse) ?_ | refine callG_U (fun _ => hse) ?_ | refine call_T (hse) ?_ | refine callG_T (fun _ => hse) ?_ | refine call_N (hf) ?_ | refine call_of (hf) ?_ | refine callG_of (fun _ => hf) ?_ | refine call_N (hrf) ?_ | refine call_of (hrf) ?_ | refine callG_of (fun _ => hrf) ?_ | refine call_N (hsa) ?_ | refine call_of (hsa) ?_ | refine callG_of (fun _ => hsa) ?_ | refine call_N (hse) ?_ | refine call_of (hse) ?_ | refine callG_of (fun _ => hse) ?_ | (apply And.intro; focus (first | omega | (simp; done) | (simp +contextual; done) | (intros; and_intros <;> first | assumption | omega) | (intros; simp_all; done) | (intro hgd; refine ⟨hgd, ?_⟩; simp [hgd]; done) | (intro hgd; simp only [zgx] at hgd ⊢; omega))) | fail)
    first | refine actsE_U (n_ 3000 _ l _ 4 (hok a2 (by omega) (by omega)) (by omega)) (by first | rfl | simp only [getH, if_true]) ?_ | refine actsE_T (n_ 3000 _ l _ 4 (hok a2 (by omega) (by omega)) (by omega)) (by first | rfl | simp only [getH, if_true]) ?_ | refine actsE_N (n_ 3000 _ l _ 4 (hok a2 (by omega) (by omega)) (by omega)) (by first | rfl | simp only [getH, if_true]) ?_ | refine actsE_of (n_ 3000 _ l _ 4 (hok a2 (by omega) (by omega)) (by omega)) (by first | rfl | simp only [getH, if_true]) ?_
    rintro _ _ ⟨rfl, rfl⟩
    generalize nV l a2 4 = v2 at *
    rcases Bool.eq_false_or_eq_true (v2 == 0) with d2 | d2
    · repeat' (first | (simp (disch := first | omega | (simp only [List.length_cons, List.length_nil]; first | done | omega)) only [go_sem, d2, Bool.not_true]) | (refine allI (fun b => ?_)) | (refine allT (fun τ => ?_)) | (refine brP (fun h => ?_) (fun h => ?_) <;> (try simp only [zgx, zbx] at h)) | refine call_U (hg) ?_ | refine callG_U (fun _ => hg) ?_ | refine call_T (hg) ?_ | refine callG_T (fun _ => hg) ?_ | refine call_U (hrg) ?_ | refine callG_U (fun _ => hrg) ?_ | refine call_T (hrg) ?_ | refine callG_T (fun _ => hrg) ?_ | refine call_U (hta) ?_ | refine callG_U (fun _ => hta) ?_ | refine call_T (hta) ?_ | refine callG_T (fun _ => hta) ?_ | refine call_U (hte) ?_ | refine callG_U (fun _ => hte) ?_ | refine call_T (hte) ?_ | refine callG_T (fun _ => hte) ?_ | refine call_N (hg) ?_ | refine call_of (hg) ?_ | refine callG_of (fun _ => hg) ?_ | refine call_N (hrg) ?_ | refine call_of (hrg) ?_ | refine callG_of (fun _ => hrg) ?_ | refine call_N (hta) ?_ | refine call_of (hta) ?_ | refine callG_of (fun _ => hta) ?_ | refine call_N (hte) ?_ | refine call_of (hte) ?_ | refine callG_of (fun _ => hte) ?_ | (apply And.intro; focus (first | omega | (simp; done) | (simp +contextual; done) | (intros; and_intros <;> first | assumption | omega) | (intros; simp_all; done) | (intro hgd; refine ⟨hgd, ?_⟩; simp [hgd]; done) | (intro hgd; simp only [zgx] at hgd ⊢; omega))) | fail)
      refine ⟨⟨(i + 1, T.1, a2 + 1), ⟨⟨by dsimp only; omega, by dsimp only; omega⟩, ok2.mono (by dsimp only; omega), hset2⟩⟩, by dsimp only; omega, ?_⟩
      dsimp only
      rw [AsC_eq]
      exact Ents.sub (by simp [go_sem]) ⟨_, .cons _ (.cons _ (List.Sublist.refl _)), List.Perm.refl _⟩
    · repeat' (first | (simp (disch := first | omega | (simp only [List.length_cons, List.length_nil]; first | done | omega)) only [go_sem, d2]) | (refine allI (fun b => ?_)) | (refine allT (fun τ => ?_)) | (refine brP (fun h => ?_) (fun h => ?_) <;> (try simp only [zgx, zbx] at h)) | (apply And.intro; focus (first | omega | (simp; done) | (simp +contextual; done) | (intros; and_intros <;> first | assumption | omega) | (intros; simp_all; done) | (intro hgd; refine ⟨hgd, ?_⟩; simp [hgd]; done) | (intro hgd; simp only [zgx] at hgd ⊢; omega))) | fail)
      refine ⟨⟨(i + 1, S.1, a2 + 1), ⟨⟨by dsimp only; omega, by dsimp only; omega⟩, ok1.mono (by dsimp only; omega), hset1⟩⟩, by dsimp only; omega, ?_⟩
      dsimp only
      rw [AsC_eq]
      exact Ents.sub (by simp [go_sem]) ⟨_, .cons _ (.cons _ (List.Sublist.refl _)), List.Perm.refl _⟩
  · have hie : i = 4 := by simp only [decide_eq_false_iff_not] at hb; omega
    subst hie
    have hg := flush A _ okA1 (by omega)
    have hrg := rflush A _ okA1 (by omega)
    have hta := sameA _ _ (okA_flushS okA1) (by omega)
    have hte := sameEs (flushS A).2 (by have := cap_flushS A; have := okA1.op; omega) (okO_flushS okA1 (by omega))
    generalize flushS A = T at *
    simp only [AsC_eq] at hg hrg hta
    repeat' (first | (simp (disch := first | omega | (simp only [List.length_cons, List.length_nil]; first | done | omega)) only [go_sem]) | (refine allI (fun b => ?_)) | (refine allT (fun τ => ?_)) | (refine brP (fun h => ?_) (fun h => ?_) <;> (try simp only [zgx, zbx] at h)) | refine call_U (hg) ?_ | refine callG_U (fun _ => hg) ?_ | refine call_T (hg) ?_ | refine callG_T (fun _ => hg) ?_ | refine call_U (hrg) ?_ | refine callG_U (fun _ => hrg) ?_ | refine call_T (hrg) ?_ | refine callG_T (fun _ => hrg) ?_ | refine call_U (hta) ?_ | refine callG_U (fun _ => hta) ?_ | refine call_T (hta) ?_ | refine callG_T (fun _ => hta) ?_ | refine call_U (hte) ?_ | refine callG_U (fun _ => hte) ?_ | refine call_T (hte) ?_ | refine callG_T (fun _ => hte) ?_ | refine call_U (awake) ?_ | refine callG_U (fun _ => awake) ?_ | refine call_T (awake) ?_ | refine callG_T (fun _ => awake) ?_ | refine call_N (hg) ?_ | refine call_of (hg) ?_ | refine callG_of (fun _ => hg) ?_ | refine call_N (hrg) ?_ | refine call_of (hrg) ?_ | refine callG_of (fun _ => hrg) ?_ | refine call_N (hta) ?_ | refine call_of (hta) ?_ | refine callG_of (fun _ => hta) ?_ | refine call_N (hte) ?_ | refine call_of (hte) ?_ | refine callG_of (fun _ => hte) ?_ | refine call_N (awake) ?_ | refine call_of (awake) ?_ | refine callG_of (fun _ => awake) ?_ | (apply And.intro; focus (first | omega | (simp; done) | (simp +contextual; done) | (intros; and_intros <;> first | assumption | omega) | (intros; simp_all; done) | (intro hgd; refine ⟨hgd, ?_⟩; simp [hgd]; done) | (intro hgd; simp only [zgx] at hgd ⊢; omega))) | fail)
    exact view_sub (leV.refl _) (List.nil_sublist _)
end Go.Proofs.YtfheeghkajihoaaDoor
