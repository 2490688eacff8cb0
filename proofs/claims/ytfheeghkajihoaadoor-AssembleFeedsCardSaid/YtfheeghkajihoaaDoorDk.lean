/- Layer 22: how much feeding gives out; arbitrary records (the law). -/
import Derived.Test.YtfheeghkajihoaaDoorXd
import Derived.Test.YtfheeghkajihoaaDoorCl7
namespace Go.Proofs.YtfheeghkajihoaaDoor
open Go Go.Lx
set_option linter.unusedSimpArgs false
set_option linter.unusedVariables false
set_option maxRecDepth 100000
set_option maxHeartbeats 4000000

theorem cap_step {e : Int} {s s' : St} (h : stepS e s = some s') : s'.2.length + s'.1.op.length ≤ s.2.length + s.1.op.length := by
  rcases stepS_cases h with ⟨j, hj, _, rfl⟩ | ⟨_, z, _, _, h4⟩
  · dsimp only
    rw [List.length_append, List.length_singleton, List.length_eraseIdx_of_lt hj]
    omega
  · rcases h4 with rfl | rfl <;> exact Nat.le_refl _
theorem cap_runs {e : Int} {s r : St} (h : Runs e s r) : r.2.length + r.1.op.length ≤ s.2.length + s.1.op.length := by
  induction h with
  | stop _ => exact Nat.le_refl _
  | step h _ ih => exact Nat.le_trans ih (cap_step h)
theorem cap_settle (e : Int) (s : St) : (settleS e s).2.length + (settleS e s).1.op.length ≤ s.2.length + s.1.op.length := by
  unfold settleS
  exact cap_runs (r := runS e (1073741825 - s.1.nx).toNat s) (runs_ex e _ s (Int.self_le_toNat _))
theorem cap_take (a : As) (r : Rc) : (takeS a r).1.op.length ≤ a.op.length + 1 := by
  unfold takeS
  split
  · exact Nat.le_succ _
  · simp only [putE]
    split
    · rw [List.length_set]; omega
    · simp; omega
theorem cap_feedR (s : St) (r : Rc) : (feedR s r).2.length + (feedR s r).1.op.length ≤ s.2.length + s.1.op.length + 1 := by
  have h := cap_take s.1 r
  unfold feedR
  split
  · have h2 := cap_settle ((takeS s.1 r).1.la - 64) ((takeS s.1 r).1, s.2)
    dsimp only at h2
    omega
  · dsimp only; omega
theorem cap_fold : ∀ (l : List Rc) (s : St), (l.foldl feedR s).2.length + (l.foldl feedR s).1.op.length ≤ s.2.length + s.1.op.length + l.length
  | [], _ => Nat.le_refl _
  | r :: l, s => by
    have h1 := cap_fold l (feedR s r)
    have h2 := cap_feedR s r
    rw [List.foldl_cons, List.length_cons]
    omega
theorem cap_feedS (a : As) (l : List Rc) : (feedS a l).2.length ≤ a.op.length + l.length := by
  have h := cap_fold l (a, [])
  change (feedS a l).2.length + (feedS a l).1.op.length ≤ 0 + a.op.length + l.length at h
  omega
theorem cap_flushS (a : As) : (flushS a).2.length ≤ a.op.length := by
  have h := cap_settle a.la (a, [])
  change (flushS a).2.length + (flushS a).1.op.length ≤ 0 + a.op.length at h
  omega
theorem okO_flushS {a : As} {m : Nat} (ok : okA a m) (hm : m ≤ 1000000000) : ∀ e ∈ (flushS a).2, okE e := fun e he => by
  have h := okO_settle (s := (a, [])) (m := m) (edge := a.la) (by have := ok.la; omega) ok (fun e he => absurd he List.not_mem_nil) e he
  exact ⟨by omega, h.2⟩
theorem set_fold : ∀ (l : List Rc) (s : St) (m : Nat), Settled s → okA s.1 m → (∀ r ∈ l, r.ps.length ≤ 1000000) → Settled (l.foldl feedR s)
  | [], _, _, h, _, _ => h
  | r :: l, s, m, h, ok, hl => set_fold l (feedR s r) (m + 1) (feedQ_eq h ok).2 (okA_feedR ok (hl r (by simp))) fun q hq => hl q (by simp [hq])
theorem set_nil {s : St} (h : Settled s) : Settled (s.1, []) := by
  refine ⟨?_, h.ls⟩
  have h2 := stepS_pre (s.1.la - 64) s.2 (s.1, [])
  rw [show pre s.2 (s.1, []) = s by simp [pre], h.none] at h2
  cases h3 : stepS (s.1.la - 64) (s.1, []) with
  | none => rfl
  | some x => rw [h3] at h2; cases h2
theorem set_feedS {a : As} {m : Nat} (h : Settled (a, [])) (ok : okA a m) (l : List Rc) (hl : ∀ r ∈ l, r.ps.length ≤ 1000000) : Settled ((feedS a l).1, []) := set_nil (set_fold l (a, []) m h ok hl)
theorem set_flushS {a : As} {m : Nat} (ok : okA a m) : Settled ((flushS a).1, []) := set_nil (settled_settle (e := a.la) (s := (a, [])) ok.ls (by dsimp only; omega))
theorem rawL (l : List Rc) (bo : Int) (hl : l.length ≤ 200000000000000) : Pure Tryd.prog gl 7 [.sl 4 l.length (l.flatMap RcC), .int .i64 bo] (.bool true) := by
  refine fn_viewT Tryd.func7 t7 Tryd.ntmps7 (by simp) ?_
  have hll := len_rc l
  unfold c7 r7
  by_cases h20 : 20 < l.length
  · have d0 : decide (20 < (l.length : Int)) = true := decide_eq_true (by omega)
    repeat' (first | (simp (disch := first | omega | (simp only [List.length_cons, List.length_nil]; first | done | omega)) only [go_sem, d0]) | (refine allI (fun b => ?_)) | (refine allT (fun τ => ?_)) | (refine brP (fun h => ?_) (fun h => ?_) <;> (try simp only [zgx, zbx] at h)) | refine call_U (awake) ?_ | refine callG_U (fun _ => awake) ?_ | refine call_T (awake) ?_ | refine callG_T (fun _ => awake) ?_ | refine call_N (awake) ?_ | refine call_of (awake) ?_ | refine callG_of (fun _ => awake) ?_ | (apply And.intro; focus (first | omega | (simp; done) | (simp +contextual; done) | (intros; and_intros <;> first | assumption | omega) | (intros; simp_all; done) | (intro hgd; refine ⟨hgd, ?_⟩; simp [hgd]; done) | (intro hgd; simp only [zgx] at hgd ⊢; omega))) | fail)
    exact view_sub (leV.refl _) (List.nil_sublist _)
  have d0 : decide (20 < (l.length : Int)) = false := decide_eq_false (by omega)
  repeat' (first | (simp (disch := first | omega | (simp only [List.length_cons, List.length_nil]; first | done | omega)) only [go_sem, d0]) | (refine allI (fun b => ?_)) | (refine allT (fun τ => ?_)) | (refine brP (fun h => ?_) (fun h => ?_) <;> (try simp only [zgx, zbx] at h)) | (apply And.intro; focus (first | omega | (simp; done) | (simp +contextual; done) | (intros; and_intros <;> first | assumption | omega) | (intros; simp_all; done) | (intro hgd; refine ⟨hgd, ?_⟩; simp [hgd]; done) | (intro hgd; simp only [zgx] at hgd ⊢; omega))) | fail)
  refine loopI (ι := Nat) (fun i => i ≤ l.length ∧ ∀ j, j < i → (l.getD j rc0).ps.length ≤ 30) (fun i => [(5, .int .i64 i), (0, .sl 4 l.length (l.flatMap RcC)), (1, .int .i64 bo)]) (fun _ => []) (fun i => l.length - i) 0 ⟨Nat.zero_le _, fun j hj => by omega⟩ (Ents.envH (by simp [go_sem]) rfl) ?_
  rintro i ⟨hi, hps⟩
  simp (disch := first | omega | (simp only [List.length_cons, List.length_nil]; first | done | omega)) only [go_sem]
  refine brP (fun hb => ?_) (fun hb => ?_)
  · have hlt : i < l.length := by simpa using hb
    have g3 := getD_rows (f := RcC) (w := 4) (fun _ => rfl) (j := 3) (by omega) rc0 l i hlt
    rw [RcC_eq] at g3
    simp only [List.getD_cons_zero, List.getD_cons_succ] at g3
    rcases Bool.eq_false_or_eq_true (decide (30 < ((l.getD i rc0).ps.length : Int))) with d1 | d1
    · repeat' (first | (simp (disch := first | omega | (simp only [List.length_cons, List.length_nil]; first | done | omega)) only [go_sem, g3, d1]) | (refine allI (fun b => ?_)) | (refine allT (fun τ => ?_)) | (refine brP (fun h => ?_) (fun h => ?_) <;> (try simp only [zgx, zbx] at h)) | refine call_U (awake) ?_ | refine callG_U (fun _ => awake) ?_ | refine call_T (awake) ?_ | refine callG_T (fun _ => awake) ?_ | refine call_N (awake) ?_ | refine call_of (awake) ?_ | refine callG_of (fun _ => awake) ?_ | (apply And.intro; focus (first | omega | (simp; done) | (simp +contextual; done) | (intros; and_intros <;> first | assumption | omega) | (intros; simp_all; done) | (intro hgd; refine ⟨hgd, ?_⟩; simp [hgd]; done) | (intro hgd; simp only [zgx] at hgd ⊢; omega))) | fail)
      exact view_sub (leV.refl _) (List.nil_sublist _)
    · repeat' (first | (simp (disch := first | omega | (simp only [List.length_cons, List.length_nil]; first | done | omega)) only [go_sem, g3, d1]) | (refine allI (fun b => ?_)) | (refine allT (fun τ => ?_)) | (refine brP (fun h => ?_) (fun h => ?_) <;> (try simp only [zgx, zbx] at h)) | (apply And.intro; focus (first | omega | (simp; done) | (simp +contextual; done) | (intros; and_intros <;> first | assumption | omega) | (intros; simp_all; done) | (intro hgd; refine ⟨hgd, ?_⟩; simp [hgd]; done) | (intro hgd; simp only [zgx] at hgd ⊢; omega))) | fail)
      refine ⟨⟨i + 1, by omega, fun j hj => ?_⟩, by dsimp only; omega, Ents.sub (by simp [go_sem]) ⟨_, List.Sublist.refl _, List.Perm.refl _⟩⟩
      rcases Nat.lt_or_ge j i with h1 | h1
      · exact hps j h1
      · rw [show j = i by omega]
        have := of_decide_eq_false d1
        omega
  · have hie : i = l.length := by simp only [decide_eq_false_iff_not] at hb; omega
    subst hie
    have hp2 : ∀ r ∈ l, r.ps.length ≤ 1000000 := fun r hr => by
      obtain ⟨j, hj, rfl⟩ := List.mem_iff_getElem.1 hr
      have := hps j hj
      simp only [List.getD, hj, List.getElem?_eq_getElem, Option.getD_some] at this
      omega
    have hn := new bo
    have hrn := rnew bo
    have ok0 := okA0 bo
    have hs0 := settled0 bo
    change Pure _ _ _ _ (.agg (AsC (as0 bo))) at hn
    generalize as0 bo = A0 at *
    have hf := feed A0 0 ok0 l (by omega) hp2
    have hrf := rfeed A0 0 ok0 hs0 l (by omega) hp2
    have ok1 := okA_feedS ok0 l hp2
    have hsa := sameA _ _ ok1 (by omega)
    have hse := sameEs (feedS A0 l).2 (by have := cap_feedS A0 l; have := ok0.op; omega) (okO_feedS ok0 l hp2 (by omega))
    generalize feedS A0 l = S at *
    have hg := flush S.1 _ ok1 (by omega)
    have hrg := rflush S.1 _ ok1 (by omega)
    have hta := sameA _ _ (okA_flushS ok1) (by omega)
    have hte := sameEs (flushS S.1).2 (by have := cap_flushS S.1; have := ok1.op; omega) (okO_flushS ok1 (by omega))
    generalize flushS S.1 = T at *
    simp only [AsC_eq] at hn hrn hf hrf hsa hg hrg hta
    repeat' (first | (simp (disch := first | omega | (simp only [List.length_cons, List.length_nil]; first | done | omega)) only [go_sem]) | (refine allI (fun b => ?_)) | (refine allT (fun τ => ?_)) | (refine brP (fun h => ?_) (fun h => ?_) <;> (try simp only [zgx, zbx] at h)) | refine call_U (hn) ?_ | refine callG_U (fun _ => hn) ?_ | refine call_T (hn) ?_ | refine callG_T (fun _ => hn) ?_ | refine call_U (hrn) ?_ | refine callG_U (fun _ => hrn) ?_ | refine call_T (hrn) ?_ | refine callG_T (fun _ => hrn) ?_ | refine call_U (hf) ?_ | refine callG_U (fun _ => hf) ?_ | refine call_T (hf) ?_ | refine callG_T (fun _ => hf) ?_ | refine call_U (hrf) ?_ | refine callG_U (fun _ => hrf) ?_ | refine call_T (hrf) ?_ | refine callG_T (fun _ => hrf) ?_ | refine call_U (hsa) ?_ | refine callG_U (fun _ => hsa) ?_ | refine call_T (hsa) ?_ | refine callG_T (fun _ => hsa) ?_ | refine call_U (hse) ?_ | refine callG_U (fun _ => hse) ?_ | refine call_T (hse) ?_ | refine callG_T (fun _ => hse) ?_ | refine call_U (hg) ?_ | refine callG_U (fun _ => hg) ?_ | refine call_T (hg) ?_ | refine callG_T (fun _ => hg) ?_ | refine call_U (hrg) ?_ | refine callG_U (fun _ => hrg) ?_ | refine call_T (hrg) ?_ | refine callG_T (fun _ => hrg) ?_ | refine call_U (hta) ?_ | refine callG_U (fun _ => hta) ?_ | refine call_T (hta) ?_ | refine callG_T (fun _ => hta) ?_ | refine call_U (hte) ?_ | refine callG_U (fun _ => hte) ?_ | refine call_T (hte) ?_ | refine callG_T (fun _ => hte) ?_ | refine call_U (awake) ?_ | refine callG_U (fun _ => awake) ?_ | refine call_T (awake) ?_ | refine callG_T (fun _ => awake) ?_ | refine call_N (hn) ?_ | refine call_of (hn) ?_ | refine callG_of (fun _ => hn) ?_ | refine call_N (hrn) ?_ | refine call_of (hrn) ?_ | refine callG_of (fun _ => hrn) ?_ | refine call_N (hf) ?_ | refine call_of (hf) ?_ | refine callG_of (fun _ => hf) ?_ | refine call_N (hrf) ?_ | refine call_of (hrf) ?_ | refine callG_of (fun _ => hrf) ?_ | refine call_N (hsa) ?_ | refine call_of (hsa) ?_ | refine callG_of (fun _ => hsa) ?_ | refine call_N (hse) ?_ | refine call_of (hse) ?_ | refine callG_of (fun _ => hse) ?_ | refine call_N (hg) ?_ | refine call_of (hg) ?_ | refine callG_of (fun _ => hg) ?_ | refine call_N (hrg) ?_ | refine call_of (hrg) ?_ | refine callG_of (fun _ => hrg) ?_ | refine call_N (hta) ?_ | refine call_of (hta) ?_ | refine callG_of (fun _ => hta) ?_ | refine call_N (hte) ?_ | refine call_of (hte) ?_ | refine callG_of (fun _ => hte) ?_ | refine call_N (awake) ?_ | refine call_of (awake) ?_ | refine callG_of (fun _ => awake) ?_ | (apply And.intro; focus (first | omega | (simp; done) | (simp +contextual; done) | (intros; and_intros <;> first | assumption | omega) | (intros; simp_all; done) | (intro hgd; refine ⟨hgd, ?_⟩; simp [hgd]; done) | (intro hgd; simp only [zgx] at hgd ⊢; omega))) | fail)
    exact view_sub (leV.refl _) (List.nil_sublist _)
end Go.Proofs.YtfheeghkajihoaaDoor
