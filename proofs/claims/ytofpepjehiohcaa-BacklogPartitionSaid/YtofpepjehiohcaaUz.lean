/- Layer 20: the accounting (no program in sight). -/
import Derived.Test.YtofpepjehiohcaaUv
namespace Go.Proofs.Ytofpepjehiohcaa
open Go Go.Lx
set_option linter.unusedSimpArgs false
set_option linter.unusedVariables false
set_option maxRecDepth 100000
set_option maxHeartbeats 4000000

/-- what a LOSS record tells -/
def fN (r : Rc) : Int := (r.ps.getD 0 pa0).m
def lN (r : Rc) : Int := (r.ps.getD 1 pa0).m
def sN (r : Rc) : Int := (r.ps.getD 2 pa0).m + (r.ps.getD 3 pa0).m + (r.ps.getD 4 pa0).m
structure LsOk (ser : Int) (r : Rc) : Prop where
  is : ∃ p t, r = lossR p t (p.l + 1)
  su : sN r = lN r - fN r + 1
  se : r.se = lN r + 1
  f1 : 1 ≤ fN r
  fl : fN r ≤ lN r
  le : lN r + 1 ≤ ser
  nn : 0 ≤ (r.ps.getD 2 pa0).m ∧ 0 ≤ (r.ps.getD 3 pa0).m ∧ 0 ≤ (r.ps.getD 4 pa0).m
def cov (k : Int) (r : Rc) : Nat := if r.ty = 1331 ∧ fN r ≤ k ∧ k ≤ r.se then 1 else 0
def cntL (k : Int) (rs : List Rc) : Nat := (rs.map (cov k)).sum
def pc (k : Int) (p : Lo) : Nat := if pend p = true ∧ p.f ≤ k ∧ k ≤ p.l then 1 else 0
def cnt (k : Int) (x : Pl) : Nat := x.gv.count k + cntL k (x.tk ++ x.b.qu) + pc k x.b.pd
def lsV (r : Rc) : Int := if r.ty = 1331 then sN r else 0
def lsum (rs : List Rc) : Int := (rs.map lsV).sum
def pdS (p : Lo) : Int := p.r + p.u + p.s
theorem cntL_app (k : Int) (a b : List Rc) : cntL k (a ++ b) = cntL k a + cntL k b := by simp [cntL]
theorem lsum_app (a b : List Rc) : lsum (a ++ b) = lsum a + lsum b := by simp [lsum]
theorem cov_zero {k : Int} {r : Rc} (h : r.ty ≠ 1331) : cov k r = 0 := by rw [cov, if_neg]; exact fun h' => h h'.1
theorem pend_false {p : Lo} (h : pend p = false) : p.f = 0 ∧ p.l = 0 ∧ p.r = 0 ∧ p.u = 0 ∧ p.s = 0 := by
  simp [pend] at h; omega
structure AP (x : Pl) : Prop where
  gd : Gd x.b
  ls : ∀ r ∈ x.tk ++ x.b.qu, r.ty = 1331 → LsOk x.b.ser r
  nt : ∀ l ∈ x.op, ∀ r ∈ l, r.ty ≠ 1331
  pl : pend x.b.pd = true → x.b.pd.l = x.b.ser ∧ 1 ≤ x.b.pd.f ∧ x.b.pd.f ≤ x.b.pd.l ∧ pdS x.b.pd = x.b.pd.l - x.b.pd.f + 1
  gs : ∀ s ∈ x.gv, 1 ≤ s ∧ s ≤ x.b.ser
  c1 : ∀ k, 1 ≤ k → k ≤ x.b.ser → cnt k x = 1
  lo : lsum (x.tk ++ x.b.qu) + pdS x.b.pd = x.b.lost
  nn : 0 ≤ x.b.pd.r ∧ 0 ≤ x.b.pd.u ∧ 0 ≤ x.b.pd.s
theorem LsOk.mono {s s' : Int} {r : Rc} (h : LsOk s r) (hs : s ≤ s') : LsOk s' r := ⟨h.is, h.su, h.se, h.f1, h.fl, by have := h.le; omega, h.nn⟩
theorem count_above {l : List Int} {s k : Int} (h : ∀ u ∈ l, 1 ≤ u ∧ u ≤ s) (hk : s < k) : l.count k = 0 :=
  List.count_eq_zero.2 fun hm => by have := h k hm; omega
theorem cntL_above {rs : List Rc} {s k : Int} (h : ∀ r ∈ rs, r.ty = 1331 → LsOk s r) (hk : s < k) : cntL k rs = 0 := by
  induction rs with
  | nil => rfl
  | cons r rs ih =>
    have h1 : cov k r = 0 := by
      rw [cov, if_neg]
      rintro ⟨ht, _, h3⟩
      have h4 := h r (List.mem_cons_self ..) ht
      have := h4.se
      have := h4.le
      omega
    have h2 := ih fun r' hr => h r' (List.mem_cons_of_mem _ hr)
    simp only [cntL, List.map_cons, List.sum_cons, h1] at h2 ⊢
    omega
theorem AP.lose {x : Pl} (h : AP x) (why t : Int) (hw : why = 1 ∨ why = 2 ∨ why = 3) : AP { x with b := loseB x.b why t } := by
  obtain ⟨h1, h2, h3, h4, h5, h6, h7, h9⟩ := h
  have hs0 := h1.s0
  have hpd : (loseB x.b why t).pd = losePd x.b why := rfl
  have hser : (loseB x.b why t).ser = x.b.ser + 1 := rfl
  have hpS : pdS (losePd x.b why) = pdS x.b.pd + 1 := by
    simp only [pdS, losePd, bump]
    rcases hw with rfl | rfl | rfl <;> simp <;> omega
  have hpend : pend (losePd x.b why) = true := by
    simp only [pend, losePd]
    have : ¬ x.b.ser + 1 = 0 := by omega
    simp [this]
  have hnew : (losePd x.b why).l = x.b.ser + 1 ∧ 1 ≤ (losePd x.b why).f ∧ (losePd x.b why).f ≤ x.b.ser + 1 ∧ pdS x.b.pd + 1 = x.b.ser + 1 - (losePd x.b why).f + 1 ∧ (∀ k ≤ x.b.ser, 1 ≤ k → pc k (losePd x.b why) = pc k x.b.pd) := by
    refine ⟨rfl, ?_⟩
    cases hp : pend x.b.pd
    · have hz := pend_false hp
      have hf : (losePd x.b why).f = x.b.ser + 1 := by simp [losePd, hp]
      rw [hf]
      refine ⟨by omega, by omega, by simp only [pdS]; omega, fun k hk _ => ?_⟩
      rw [pc, pc, if_neg (by rw [hf]; omega), if_neg (by rw [hp]; simp)]
    · obtain ⟨p1, p2, p3, p4⟩ := h4 hp
      have hf : (losePd x.b why).f = x.b.pd.f := by simp [losePd, hp]
      rw [hf]
      refine ⟨p2, by omega, by omega, fun k hk _ => ?_⟩
      rw [pc, pc, hf, hp, hpend, show (losePd x.b why).l = x.b.ser + 1 from rfl, p1]
      by_cases hfk : x.b.pd.f ≤ k
      · rw [if_pos ⟨rfl, hfk, by omega⟩, if_pos ⟨rfl, hfk, by omega⟩]
      · rw [if_neg (by omega), if_neg (by omega)]
  refine ⟨h1.lose _ _, fun r hr ht => (h2 r hr ht).mono (by rw [hser]; omega), h3, fun _ => ?_, fun s hs => ?_, fun k k1 k2 => ?_, ?_, ?_⟩
  · rw [hpd, hser, hpS]; omega
  · have := h5 s hs; rw [hser]; omega
  · show x.gv.count k + cntL k (x.tk ++ x.b.qu) + pc k (losePd x.b why) = 1
    have k2 : k ≤ x.b.ser + 1 := k2
    by_cases hk : k ≤ x.b.ser
    · rw [hnew.2.2.2.2 k hk k1]; exact h6 k k1 hk
    · rw [count_above h5 (by omega), cntL_above h2 (by omega), pc, if_pos ⟨hpend, by omega, by omega⟩]
  · show lsum (x.tk ++ x.b.qu) + pdS (losePd x.b why) = x.b.lost + 1
    rw [hpS]; omega
  · show 0 ≤ bump why 1 x.b.pd.r ∧ 0 ≤ bump why 2 x.b.pd.u ∧ 0 ≤ bump why 3 x.b.pd.s
    simp only [bump]
    refine ⟨?_, ?_, ?_⟩ <;> split <;> omega
theorem loss_f (p : Lo) (t s : Int) : fN (lossR p t s) = p.f := rfl
theorem loss_l (p : Lo) (t s : Int) : lN (lossR p t s) = p.l := rfl
theorem loss_s (p : Lo) (t s : Int) : sN (lossR p t s) = pdS p := rfl
theorem AP.report {x : Pl} (h : AP x) (t : Int) (hp : pend x.b.pd = true) : AP { x with b := reportB x.b t } := by
  obtain ⟨h1, h2, h3, h4, h5, h6, h7, h9⟩ := h
  obtain ⟨p1, p2, p3, p4⟩ := h4 hp
  have hE : x.tk ++ (reportB x.b t).qu = (x.tk ++ x.b.qu) ++ [lossR x.b.pd t (x.b.ser + 1)] := by simp [reportB]
  have hser : (reportB x.b t).ser = x.b.ser + 1 := rfl
  refine ⟨h1.report t, fun r hr ht => ?_, h3, fun hp' => by simp [reportB, pend, lo0] at hp', fun s hs => ?_, fun k k1 k2 => ?_, ?_, by simp [reportB, lo0]⟩
  · dsimp only at hr
    rw [hE] at hr
    rw [hser]
    rcases List.mem_append.1 hr with hr | hr
    · exact (h2 r hr ht).mono (by omega)
    · simp only [List.mem_singleton] at hr
      subst hr
      refine ⟨⟨x.b.pd, t, by rw [p1]⟩, by rw [loss_s, loss_l, loss_f]; exact p4, by rw [loss_l, p1]; rfl, by rw [loss_f]; exact p2, by rw [loss_f, loss_l]; exact p3, by rw [loss_l]; omega, h9⟩
  · have := h5 s hs; rw [hser]; omega
  · have k2 : k ≤ x.b.ser + 1 := k2
    show x.gv.count k + cntL k (x.tk ++ (reportB x.b t).qu) + pc k lo0 = 1
    rw [hE, cntL_app, show pc k lo0 = 0 by rw [pc, if_neg]; simp [pend, lo0]]
    have hc : cntL k [lossR x.b.pd t (x.b.ser + 1)] = cov k (lossR x.b.pd t (x.b.ser + 1)) := by simp [cntL]
    rw [hc, cov, loss_f]
    by_cases hk : k ≤ x.b.ser
    · have h8 := h6 k k1 hk
      rw [cnt, pc, hp] at h8
      by_cases hf : x.b.pd.f ≤ k
      · rw [if_pos ⟨rfl, hf, by omega⟩] at h8
        rw [if_pos ⟨rfl, hf, by show k ≤ x.b.ser + 1; omega⟩]
        omega
      · rw [if_neg (by omega)] at h8
        rw [if_neg (by omega)]
        omega
    · rw [count_above h5 (by omega), cntL_above h2 (by omega), if_pos ⟨rfl, by omega, by show k ≤ x.b.ser + 1; omega⟩]
  · show lsum (x.tk ++ (reportB x.b t).qu) + pdS lo0 = x.b.lost
    rw [hE, lsum_app]
    have : lsum [lossR x.b.pd t (x.b.ser + 1)] = pdS x.b.pd := by simp [lsum, lsV, loss_s]; intro h; exact absurd rfl h
    rw [this]
    simp only [pdS, lo0] at h7 ⊢
    omega
theorem AP.acc {x : Pl} (h : AP x) {t n : Int} (hp : pend x.b.pd = false) : AP { x with b := accB x.b (x.b.ser + 1) t n, op := x.op ++ [evR t (x.b.ser + 1) n], gv := x.gv ++ [x.b.ser + 1] } := by
  obtain ⟨h1, h2, h3, h4, h5, h6, h7, h9⟩ := h
  have hs0 := h1.s0
  have hser : (accB x.b (x.b.ser + 1) t n).ser = x.b.ser + 1 := rfl
  refine ⟨h1.acc _ _ _ (by omega), fun r hr ht => (h2 r hr ht).mono (by rw [hser]; omega), fun l hl r hr => ?_, fun hp' => ?_, fun s hs => ?_, fun k k1 k2 => ?_, h7, h9⟩
  · rcases List.mem_append.1 hl with hl | hl
    · exact h3 l hl r hr
    · simp only [List.mem_singleton] at hl
      subst hl
      simp only [evR, List.mem_map] at hr
      obtain ⟨i, _, rfl⟩ := hr
      simp [itR]
  · exact absurd (show pend x.b.pd = true from hp') (by rw [hp]; simp)
  · rw [hser]
    rcases List.mem_append.1 hs with hs | hs
    · have := h5 s hs; omega
    · simp only [List.mem_singleton] at hs; omega
  · have k2 : k ≤ x.b.ser + 1 := k2
    show (x.gv ++ [x.b.ser + 1]).count k + cntL k (x.tk ++ x.b.qu) + pc k x.b.pd = 1
    rw [List.count_append]
    by_cases hk : k ≤ x.b.ser
    · have h8 := h6 k k1 hk
      rw [cnt] at h8
      have : [x.b.ser + 1].count k = 0 := List.count_eq_zero.2 (by simp; omega)
      omega
    · obtain rfl : k = x.b.ser + 1 := by omega
      rw [count_above h5 (by omega), cntL_above h2 (by omega), pc, if_neg (by rw [hp]; simp)]
      simp
theorem AP.off {x : Pl} (h : AP x) (n : Int) : AP (offP x n) := by
  unfold offP offB
  split
  · exact h
  · dsimp only
    cases hp : pend x.b.pd
    · simp only [Bool.false_eq_true, if_false, Int.add_zero]
      by_cases hr : refuse x.b (x.b.ser + 1) x.ti n = 0
      · simp only [hr, ne_eq, not_true_eq_false, if_false, if_true]
        exact h.acc hp
      · simp only [ne_eq, hr, not_false_eq_true, if_true, Bool.false_eq_true, if_false]
        exact h.lose _ _ ((refuse_cases _ _ _ _).resolve_left hr)
    · simp only [if_true]
      by_cases hr : refuse x.b (x.b.ser + 1 + 1) x.ti n = 0
      · simp only [hr, ne_eq, not_true_eq_false, if_false, if_true]
        exact (h.report x.ti hp).acc (x := { x with b := reportB x.b x.ti }) (by simp [reportB, pend, lo0])
      · simp only [ne_eq, hr, not_false_eq_true, if_true, Bool.false_eq_true, if_false]
        exact h.lose _ _ ((refuse_cases _ _ _ _).resolve_left hr)
theorem AP.put {x : Pl} (h : AP x) (i : Nat) (hi : i < x.op.length) (hne : ∀ l ∈ x.op, l ≠ []) : AP (putP x i) := by
  obtain ⟨h1, h2, h3, h4, h5, h6, h7, h9⟩ := h
  have hm := getD_memA [] hi
  have hl0 : 0 < (x.op.getD i []).length := List.length_pos_iff.2 (hne _ hm)
  have hr0 := h3 _ hm _ (getD_memA rc0 hl0)
  have key : ∀ (last : Bool) (o : List (List Rc)), (∀ l ∈ o, ∀ r ∈ l, r.ty ≠ 1331) → AP { x with b := putB x.b ((x.op.getD i []).getD 0 rc0) last, op := o } := fun last o ho => by
    generalize (x.op.getD i []).getD 0 rc0 = r at *
    have hE : x.tk ++ (putB x.b r last).qu = (x.tk ++ x.b.qu) ++ [r] := by simp [putB]
    refine ⟨h1.put _ _, fun r' hr ht => ?_, ho, h4, h5, fun k k1 k2 => ?_, ?_, h9⟩
    · dsimp only at hr
      rw [hE] at hr
      rcases List.mem_append.1 hr with hr | hr
      · exact h2 r' hr ht
      · simp only [List.mem_singleton] at hr
        subst hr
        exact absurd ht hr0
    · show x.gv.count k + cntL k (x.tk ++ (putB x.b r last).qu) + pc k x.b.pd = 1
      rw [hE, cntL_app, show cntL k [r] = 0 by simp [cntL, cov_zero hr0]]
      exact h6 k k1 k2
    · show lsum (x.tk ++ (putB x.b r last).qu) + pdS x.b.pd = x.b.lost
      rw [hE, lsum_app, show lsum [r] = 0 by simp [lsum, lsV, hr0]]
      omega
  unfold putP
  dsimp only
  split
  · refine key true _ fun l hl => ?_
    rcases List.mem_append.1 hl with hl | hl
    · exact h3 l (List.mem_of_mem_take hl)
    · exact h3 l (List.mem_of_mem_drop hl)
  · refine key false _ fun l hl r hr => ?_
    rcases List.mem_or_eq_of_mem_set hl with hl | rfl
    · exact h3 l hl r hr
    · exact h3 _ hm r (List.mem_of_mem_drop hr)
theorem AP.tak {x : Pl} (h : AP x) (n : Int) : AP (takP x n) := by
  have hr : AP { x with b := restB x.b n, tk := x.tk ++ x.b.qu.take (takeN x.b n) } := by
    obtain ⟨h1, h2, h3, h4, h5, h6, h7, h9⟩ := h
    have hE : (x.tk ++ x.b.qu.take (takeN x.b n)) ++ (restB x.b n).qu = x.tk ++ x.b.qu := by
      rw [List.append_assoc]; simp [restB]
    refine ⟨⟨h1.s0, h1.pf, h1.so, h1.le⟩, fun r hr ht => ?_, h3, h4, h5, fun k k1 k2 => ?_, ?_, h9⟩
    · dsimp only at hr
      rw [hE] at hr
      exact h2 r hr ht
    · show x.gv.count k + cntL k ((x.tk ++ x.b.qu.take (takeN x.b n)) ++ (restB x.b n).qu) + pc k x.b.pd = 1
      rw [hE]; exact h6 k k1 k2
    · show lsum ((x.tk ++ x.b.qu.take (takeN x.b n)) ++ (restB x.b n).qu) + pdS x.b.pd = x.b.lost
      rw [hE]; exact h7
  unfold takP takeB
  split
  · rename_i hc
    exact hr.report x.ti hc.1
  · exact hr
theorem AP.step {x x' : Pl} (h : AP x) (hne : ∀ l ∈ x.op, l ≠ []) (hs : Stepd x x') : AP x' := by
  cases hs with
  | off n => exact h.off n
  | put i hi => exact h.put i hi hne
  | non => exact h
  | tak n => exact h.tak n
  | tick d h1 h2 =>
    obtain ⟨h1, h2, h3, h4, h5, h6, h7, h9⟩ := h
    exact ⟨h1, h2, h3, h4, h5, h6, h7, h9⟩
  | conf l r f hs =>
    have hb : confB x.b l r f = { x.b with lim := l, rate := r, fail := f } := by rw [confB, if_pos hs]
    obtain ⟨h1, h2, h3, h4, h5, h6, h7, h9⟩ := h
    rw [hb]
    exact ⟨⟨h1.s0, h1.pf, h1.so, h1.le⟩, h2, h3, h4, h5, h6, h7, h9⟩
end Go.Proofs.Ytofpepjehiohcaa
