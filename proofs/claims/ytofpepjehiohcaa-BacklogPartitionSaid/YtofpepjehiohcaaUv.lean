/- Layer 20: plays: what is open, reserved, queued (no program in sight). -/
import Derived.Test.YtofpepjehiohcaaUu
namespace Go.Proofs.Ytofpepjehiohcaa
open Go Go.Lx
set_option linter.unusedSimpArgs false
set_option linter.unusedVariables false
set_option maxRecDepth 100000
set_option maxHeartbeats 4000000

def hdS (l : List Rc) : Int := (l.getD 0 rc0).se
structure JP (m : Int) (x : Pl) : Prop where
  gd : Gd x.b
  ser : x.b.op = x.op.map hdS
  all : ∀ l ∈ x.op, l ≠ [] ∧ ∀ r ∈ l, r.se = hdS l
  res : x.b.res = ((x.op.map List.length).sum : Nat)
  lim : x.b.lim ≤ m
  bnd : x.b.qu.length + x.b.res ≤ m
  qs : ∀ r ∈ x.b.qu, r.se ≤ x.b.ser
  wq : x.b.op ≠ [] → ∀ r ∈ x.b.qu, r.se < x.b.op.getD 0 0 + 64
  wo : ∀ s ∈ x.b.op, s < x.b.op.getD 0 0 + 64
theorem sorted_head {l : List Int} (h : l.Pairwise (· < ·)) {s : Int} (hs : s ∈ l) : l.getD 0 0 ≤ s := by
  cases l with
  | nil => simp at hs
  | cons a l =>
    simp only [List.getD_cons_zero]
    rcases List.mem_cons.1 hs with rfl | hs
    · exact Int.le_refl _
    · exact Int.le_of_lt ((List.pairwise_cons.1 h).1 s hs)
theorem head_mono {l l' : List Int} (h : l.Pairwise (· < ·)) (hs : l'.Sublist l) (hn : l' ≠ []) : l.getD 0 0 ≤ l'.getD 0 0 :=
  sorted_head h (hs.subset (getD_memA 0 (List.length_pos_iff.2 hn)))
theorem JP.lose {m : Int} {x : Pl} (h : JP m x) (why t : Int) : JP m { x with b := loseB x.b why t } := by
  obtain ⟨h1, h2, h3, h4, h5, h6, h7, h8, h9⟩ := h
  exact ⟨h1.lose _ _, h2, h3, h4, h5, h6, fun r hr => by have := h7 r hr; simp only [loseB]; omega, h8, h9⟩
theorem evR_head {t s n : Int} (hn : 1 ≤ n) : hdS (evR t s n) = s := by
  obtain ⟨k, hk⟩ : ∃ k, n.toNat = k + 1 := ⟨n.toNat - 1, by omega⟩
  simp [hdS, evR, hk, List.range_succ_eq_map, itR]
theorem evR_all {t s n : Int} (hn : 1 ≤ n) : evR t s n ≠ [] ∧ ∀ r ∈ evR t s n, r.se = hdS (evR t s n) := by
  rw [evR_head hn]
  refine ⟨fun e => ?_, fun r hr => ?_⟩
  · have : (evR t s n).length = n.toNat := by simp [evR]
    rw [e] at this; simp at this; omega
  · simp only [evR, List.mem_map] at hr
    obtain ⟨i, _, rfl⟩ := hr
    rfl
theorem refuse_zero {b : Bl} {s t n : Int} (h : refuse b s t n = 0) : b.qu.length + b.res + n + (if pend b.pd then 1 else 0) ≤ b.lim ∧ (0 < b.op.length → s - b.op.getD 0 0 < 64) := by
  unfold refuse at h
  by_cases n1 : b.rate ≠ 0 ∧ t.tdiv 1000 = b.win ∧ b.rate ≤ b.used
  · rw [if_pos n1] at h; omega
  · rw [if_neg n1] at h
    by_cases n2 : b.lim < b.qu.length + b.res + n + (if pend b.pd then 1 else 0)
    · rw [if_pos n2] at h; omega
    · rw [if_neg n2] at h
      by_cases n3 : 0 < b.op.length ∧ 64 ≤ s - b.op.getD 0 0
      · rw [if_pos n3] at h; omega
      · exact ⟨Int.not_lt.1 n2, fun hl => by omega⟩
/-- an event that is accepted -/
theorem JP.acc {m : Int} {x : Pl} (h : JP m x) {s t n : Int} (hn : 1 ≤ n) (hs : x.b.ser < s) (hb : x.b.qu.length + x.b.res + n ≤ x.b.lim) (hw : 0 < x.b.op.length → s - x.b.op.getD 0 0 < 64) :
    JP m { x with b := accB x.b s t n, op := x.op ++ [evR t s n], gv := x.gv ++ [s] } := by
  obtain ⟨h1, h2, h3, h4, h5, h6, h7, h8, h9⟩ := h
  have hlen : (evR t s n).length = n.toNat := by simp [evR]
  have hg0 : x.b.op ≠ [] → (x.b.op ++ [s]).getD 0 0 = x.b.op.getD 0 0 := fun hne => by
    cases he : x.b.op with
    | nil => exact absurd he hne
    | cons a l => rfl
  refine ⟨h1.acc _ _ _ hs, ?_, fun l hl => ?_, ?_, h5, by simp only [accB]; omega, fun r hr => by have := h7 r hr; simp only [accB]; omega, fun _ r hr => ?_, fun u hu => ?_⟩
  · simp only [accB, h2, List.map_append, List.map_singleton, evR_head hn]
  · rcases List.mem_append.1 hl with hl | hl
    · exact h3 l hl
    · simp only [List.mem_singleton] at hl
      subst hl
      exact evR_all hn
  · simp only [accB, h4, List.map_append, List.map_singleton, List.sum_append, List.sum_singleton, hlen]
    omega
  · simp only [accB]
    by_cases hne : x.b.op = []
    · have := h7 r hr
      simp only [hne, List.nil_append, List.getD_cons_zero]
      omega
    · rw [hg0 hne]; exact h8 hne r hr
  · simp only [accB] at hu ⊢
    by_cases hne : x.b.op = []
    · simp only [hne, List.nil_append, List.mem_singleton, List.getD_cons_zero] at hu ⊢
      omega
    · rw [hg0 hne]
      rcases List.mem_append.1 hu with hu | hu
      · exact h9 u hu
      · simp only [List.mem_singleton] at hu
        have := hw (List.length_pos_iff.2 hne)
        omega
/-- a LOSS record that is put into the queue -/
theorem JP.report {m : Int} {x : Pl} (h : JP m x) (t : Int) (hb : x.b.qu.length + x.b.res < x.b.lim) (hw : x.b.op ≠ [] → x.b.ser + 1 - x.b.op.getD 0 0 < 64) : JP m { x with b := reportB x.b t } := by
  obtain ⟨h1, h2, h3, h4, h5, h6, h7, h8, h9⟩ := h
  refine ⟨h1.report t, h2, h3, h4, h5, by simp [reportB]; omega, fun r hr => ?_, fun hne r hr => ?_, h9⟩
  · simp only [reportB, List.mem_append, List.mem_singleton] at hr ⊢
    rcases hr with hr | rfl
    · have := h7 r hr; omega
    · simp [lossR]
  · simp only [reportB, List.mem_append, List.mem_singleton] at hr
    rcases hr with hr | rfl
    · exact h8 hne r hr
    · have := hw hne
      show x.b.ser + 1 < x.b.op.getD 0 0 + 64
      omega
theorem JP.off {m : Int} {x : Pl} (h : JP m x) (n : Int) : JP m (offP x n) := by
  unfold offP offB
  split
  · exact h
  · rename_i hv
    dsimp only
    cases hp : pend x.b.pd
    · simp only [Bool.false_eq_true, if_false, Int.add_zero]
      by_cases hr : refuse x.b (x.b.ser + 1) x.ti n = 0
      · have hz := refuse_zero hr
        rw [hp] at hz
        simp only [Bool.false_eq_true, if_false, Int.add_zero] at hz
        simp only [hr, ne_eq, not_true_eq_false, if_false, if_true]
        exact h.acc (by omega) (by omega) hz.1 hz.2
      · simp only [ne_eq, hr, not_false_eq_true, if_true, Bool.false_eq_true, if_false]
        exact h.lose _ _
    · simp only [if_true]
      by_cases hr : refuse x.b (x.b.ser + 1 + 1) x.ti n = 0
      · have hz := refuse_zero hr
        rw [hp] at hz
        simp only [if_true] at hz
        simp only [hr, ne_eq, not_true_eq_false, if_false, if_true]
        have h' := h.report x.ti (by omega) (fun hne => by have := hz.2 (List.length_pos_iff.2 hne); omega)
        exact h'.acc (x := { x with b := reportB x.b x.ti }) (by omega) (by simp only [reportB]; omega) (by simp only [reportB, List.length_append, List.length_singleton]; omega) hz.2
      · simp only [ne_eq, hr, not_false_eq_true, if_true, Bool.false_eq_true, if_false]
        exact h.lose _ _
theorem del1_at {l : List Int} (hl : l.Nodup) {i : Nat} (hi : i < l.length) : del1 l (l.getD i 0) = l.take i ++ l.drop (i + 1) := by
  have hs : l = l.take i ++ l.getD i 0 :: l.drop (i + 1) := by
    have h1 : l.drop i = l.getD i 0 :: l.drop (i + 1) := by rw [List.drop_eq_getElem_cons hi]; simp [List.getD, hi]
    rw [← h1, List.take_append_drop]
  have hn : l.getD i 0 ∉ l.take i := by
    intro hm
    rw [hs] at hl
    have := (List.nodup_append.1 hl).2.2 _ hm _ (List.mem_cons_self ..)
    exact this rfl
  have hx : idxF (l.getD i 0) l 0 = i := by
    have := idxF_app (l.getD i 0) (l.drop (i + 1)) (l.take i) 0 hn
    rw [← hs, List.length_take, Nat.min_eq_left (by omega), Nat.zero_add] at this
    exact this
  unfold del1
  rw [hx, if_pos (by omega), Int.toNat_natCast]
theorem sum_set : ∀ (l : List Nat) (i : Nat) (h : i < l.length) (v : Nat), (l.set i v).sum + l.getD i 0 = l.sum + v
  | [], i, h, v => by simp at h
  | a :: l, 0, h, v => by simp; omega
  | a :: l, i + 1, h, v => by
    have := sum_set l i (by simpa using h) v
    simp only [List.set_cons_succ, List.sum_cons, List.getD_cons_succ]
    omega
theorem sum_erase : ∀ (l : List Nat) (i : Nat) (h : i < l.length), (l.take i ++ l.drop (i + 1)).sum + l.getD i 0 = l.sum
  | [], i, h => by simp at h
  | a :: l, 0, h => by simp; omega
  | a :: l, i + 1, h => by
    have := sum_erase l i (by simpa using h)
    simp only [List.take_succ_cons, List.drop_succ_cons, List.cons_append, List.sum_cons, List.getD_cons_succ]
    omega
theorem getD_map {α β : Type} (f : α → β) (d : α) (e : β) (l : List α) {i : Nat} (h : i < l.length) : (l.map f).getD i e = f (l.getD i d) := by
  simp [List.getD, h]
theorem JP.put {m : Int} {x : Pl} (h : JP m x) (i : Nat) (hi : i < x.op.length) : JP m (putP x i) := by
  obtain ⟨h1, h2, h3, h4, h5, h6, h7, h8, h9⟩ := h
  obtain ⟨l0, l1⟩ := h3 _ (getD_memA [] hi)
  have hl0 : 0 < (x.op.getD i []).length := List.length_pos_iff.2 l0
  have hio : i < x.b.op.length := by rw [h2, List.length_map]; exact hi
  have hse : ((x.op.getD i []).getD 0 rc0).se = x.b.op.getD i 0 := by rw [h2, getD_map hdS [] 0 x.op hi]; rfl
  have hmem : x.b.op.getD i 0 ∈ x.b.op := getD_memA 0 hio
  have hne : x.b.op ≠ [] := fun e => by rw [e] at hmem; simp at hmem
  have hlen : (x.op.map List.length).getD i 0 = (x.op.getD i []).length := getD_map _ _ _ _ hi
  have hr1 := h9 _ hmem
  have hr2 := h1.le _ hmem
  unfold putP
  dsimp only
  split
  · rename_i hone
    have hd : del1 x.b.op ((x.op.getD i []).getD 0 rc0).se = x.b.op.take i ++ x.b.op.drop (i + 1) := by rw [hse]; exact del1_at h1.nd hio
    have hsub : (x.b.op.take i ++ x.b.op.drop (i + 1)).Sublist x.b.op := by rw [← hd]; exact del1_sub _ _
    have hsum := sum_erase (x.op.map List.length) i (by simpa using hi)
    rw [hlen, hone] at hsum
    have hb : putB x.b ((x.op.getD i []).getD 0 rc0) true = { x.b with qu := x.b.qu ++ [(x.op.getD i []).getD 0 rc0], res := x.b.res - 1, op := x.b.op.take i ++ x.b.op.drop (i + 1) } := by
      simp only [putB, if_true, hd]
    refine ⟨h1.put _ _, ?_, fun l hl => ?_, ?_, h5, by simp [putB]; omega, fun r hr => ?_, fun hne' r hr => ?_, fun s hs => ?_⟩
    · rw [hb]; simp only [h2, List.map_append, List.map_take, List.map_drop]
    · rcases List.mem_append.1 hl with hl | hl
      · exact h3 l (List.mem_of_mem_take hl)
      · exact h3 l (List.mem_of_mem_drop hl)
    · rw [hb]
      simp only [List.map_append, List.map_take, List.map_drop, h4]
      omega
    · simp only [putB, List.mem_append, List.mem_singleton] at hr ⊢
      rcases hr with hr | rfl
      · exact h7 r hr
      · rw [hse]; exact hr2
    · rw [hb] at hne' hr ⊢
      dsimp only at hne' hr ⊢
      have := head_mono h1.so hsub hne'
      simp only [List.mem_append, List.mem_singleton] at hr
      rcases hr with hr | rfl
      · have := h8 hne r hr; omega
      · rw [hse]; omega
    · rw [hb] at hs ⊢
      dsimp only at hs ⊢
      have := head_mono h1.so hsub (fun e => by rw [e] at hs; simp at hs)
      have := h9 s (hsub.subset hs)
      omega
  · rename_i hone
    have hsum := sum_set (x.op.map List.length) i (by simpa using hi) ((x.op.getD i []).length - 1)
    rw [hlen] at hsum
    have hdl : ((x.op.getD i []).drop 1).length = (x.op.getD i []).length - 1 := by simp
    have hdn : (x.op.getD i []).drop 1 ≠ [] := fun e => by
      have := congrArg List.length e
      rw [hdl, List.length_nil] at this
      omega
    have hhd : hdS ((x.op.getD i []).drop 1) = hdS (x.op.getD i []) := by
      have : ((x.op.getD i []).drop 1).getD 0 rc0 ∈ (x.op.getD i []).drop 1 := getD_memA rc0 (List.length_pos_iff.2 hdn)
      exact l1 _ (List.mem_of_mem_drop this)
    refine ⟨h1.put _ _, ?_, fun l hl => ?_, ?_, h5, by simp [putB]; omega, fun r hr => ?_, fun _ r hr => ?_, h9⟩
    · show x.b.op = _
      rw [h2, List.map_set, hhd]
      refine List.ext_getElem (by simp) fun j j1 j2 => ?_
      rw [List.getElem_set]
      split
      · rename_i hij; subst hij; simp [List.getD, hi]
      · rfl
    · rcases List.mem_or_eq_of_mem_set hl with hl | rfl
      · exact h3 l hl
      · exact ⟨hdn, fun r hr => by rw [hhd]; exact l1 r (List.mem_of_mem_drop hr)⟩
    · show x.b.res - 1 = _
      rw [List.map_set, hdl, h4]
      omega
    · simp only [putB, List.mem_append, List.mem_singleton] at hr ⊢
      rcases hr with hr | rfl
      · exact h7 r hr
      · rw [hse]; exact hr2
    · simp only [putB, List.mem_append, List.mem_singleton] at hr
      rcases hr with hr | rfl
      · exact h8 hne r hr
      · rw [hse]; exact hr1
theorem JP.tak {m : Int} {x : Pl} (h : JP m x) (n : Int) : JP m (takP x n) := by
  have hr : JP m { x with b := restB x.b n, tk := x.tk ++ x.b.qu.take (takeN x.b n) } := by
    obtain ⟨h1, h2, h3, h4, h5, h6, h7, h8, h9⟩ := h
    exact ⟨⟨h1.s0, h1.pf, h1.so, h1.le⟩, h2, h3, h4, h5, by simp only [restB, List.length_drop]; omega, fun r hr => h7 r (List.mem_of_mem_drop hr), fun hne r hr => h8 hne r (List.mem_of_mem_drop hr), h9⟩
  unfold takP takeB
  split
  · rename_i hc
    obtain ⟨_, c1, c2, c3, c4, c5⟩ := hc
    exact hr.report x.ti c1 (fun hne => by
      rcases c5 with c5 | c5
      · exact absurd (List.length_eq_zero_iff.1 c5) hne
      · exact c5)
  · exact hr
theorem JP.mono {m m' : Int} {x : Pl} (h : JP m x) (hm : m ≤ m') : JP m' x := by
  obtain ⟨h1, h2, h3, h4, h5, h6, h7, h8, h9⟩ := h
  exact ⟨h1, h2, h3, h4, by omega, by omega, h7, h8, h9⟩
theorem JP.step {m : Int} {x x' : Pl} (h : JP m x) (hs : Stepd x x') : JP (if m < x'.b.lim then x'.b.lim else m) x' := by
  have hm : m ≤ if m < x'.b.lim then x'.b.lim else m := by split <;> omega
  cases hs with
  | off n => exact (h.off n).mono hm
  | put i hi => exact (h.put i hi).mono hm
  | non => exact h.mono hm
  | tak n => exact (h.tak n).mono hm
  | tick d h1 h2 =>
    refine JP.mono ?_ hm
    obtain ⟨h1, h2, h3, h4, h5, h6, h7, h8, h9⟩ := h
    exact ⟨h1, h2, h3, h4, h5, h6, h7, h8, h9⟩
  | conf l r f hs =>
    have hb : confB x.b l r f = { x.b with lim := l, rate := r, fail := f } := by rw [confB, if_pos hs]
    have hx : (if m < (confB x.b l r f).lim then (confB x.b l r f).lim else m) = if m < l then l else m := by rw [hb]
    obtain ⟨h1, h2, h3, h4, h5, h6, h7, h8, h9⟩ := h
    show JP (if m < (confB x.b l r f).lim then (confB x.b l r f).lim else m) _
    rw [hx, hb]
    exact ⟨⟨h1.s0, h1.pf, h1.so, h1.le⟩, h2, h3, h4, by dsimp only; split <;> omega, by dsimp only; split <;> omega, h7, h8, h9⟩
theorem begX_JP (l : List Int) (a : Int) : JP (begX l a).b.lim (begX l a) := by
  have hb : (begX l a).b = { bl0 with lim := begL l a, rate := begR l a, fail := begF l a } := by
    simp only [begX, confB, beg_ok l a, if_true]
  have hlim := beg_ok l a
  simp only [setOk, decide_eq_true_eq] at hlim
  refine ⟨Gd.zero.conf _ _ _, ?_, by simp [begX], ?_, Int.le_refl _, ?_, ?_, ?_, ?_⟩ <;> rw [hb] <;> simp [bl0, begX]
  omega
end Go.Proofs.Ytofpepjehiohcaa
