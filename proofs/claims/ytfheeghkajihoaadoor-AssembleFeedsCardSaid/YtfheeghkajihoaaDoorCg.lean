/- Layer 22: what feeding keeps; what is given out ascends; feeding in several calls (plain). -/
import Derived.Test.YtfheeghkajihoaaDoorXf
namespace Go.Proofs.YtfheeghkajihoaaDoor
open Go Go.Lx
set_option linter.unusedSimpArgs false
set_option linter.unusedVariables false
set_option maxRecDepth 100000
set_option maxHeartbeats 4000000

theorem gaps_step {edge : Int} {s s' : St} (hed : edge ≤ 1073741824) (h : stepS edge s = some s') (hn : 1 ≤ s.1.nx) (hg : okGs s.1.gs) : okGs s'.1.gs ∧ s'.1.gs.length ≤ s.1.gs.length + 1 := by
  have hu := stepS_up h
  unfold stepS at h
  split at h
  · cases h
  split at h
  · split at h
    · cases h
    · cases h; exact ⟨hg, Nat.le_succ _⟩
  split at h
  · cases h; exact ⟨hg, Nat.le_succ _⟩
  split at h
  · cases h
  · cases h
    dsimp only at hu ⊢
    exact ⟨gapS_ok hg (by omega) (by omega), gapS_len _ _ _⟩
theorem okA_step {edge : Int} {s s' : St} {m : Nat} (hed : edge ≤ 1073741824) (h : stepS edge s = some s') (ok : okA s.1 m) : okA s'.1 m := by
  obtain ⟨⟨k1, k2, k3, k4⟩, k5, _⟩ := stepS_keep h
  have hu := stepS_up h
  have hn := ok.nx
  obtain ⟨g1, g2⟩ := gaps_step hed h hn.1 ok.gs
  have hlg := ok.lG
  exact ⟨Nat.le_trans k5.length_le ok.op, fun e he => ok.ev e (k5.mem he), by rw [k4]; exact ok.lL, by rw [k4]; exact ok.ls, g1, by omega, by omega, by rw [k2]; exact ok.st, by rw [k3]; exact ok.la⟩
theorem Runs.ok {edge : Int} {s s' : St} {m : Nat} (hed : edge ≤ 1073741824) (h : Runs edge s s') : okA s.1 m → okA s'.1 m := by
  induction h with
  | stop _ => exact id
  | step h _ ih => exact fun ok => ih (okA_step hed h ok)
theorem okA_settle {edge : Int} {s : St} {m : Nat} (hed : edge ≤ 1073741824) (ok : okA s.1 m) : okA (settleS edge s).1 m := by
  have h := Runs.ok hed (runs_ex edge _ s (Int.self_le_toNat _)) ok
  unfold settleS
  exact ⟨h.op, h.ev, Nat.le_trans (keep_le _ _) h.lL, fun x hx => h.ls x (List.mem_filter.1 hx).1, h.gs, h.nx, h.lG, h.st, h.la⟩
theorem okA_feedR {s : St} {m : Nat} {r : Rc} (ok : okA s.1 m) (hr : r.ps.length ≤ 1000000) : okA (feedR s r).1 (m + 1) := by
  have h := okA_take ok hr
  unfold feedR
  split
  · exact okA_settle (by have := h.la; omega) h
  · exact h
theorem okA_fold : ∀ (l : List Rc) (s : St) (m : Nat), okA s.1 m → (∀ r ∈ l, r.ps.length ≤ 1000000) → okA (l.foldl feedR s).1 (m + l.length)
  | [], _, _, ok, _ => ok
  | r :: l, s, m, ok, hl => by
    have h := okA_fold l (feedR s r) (m + 1) (okA_feedR ok (hl r (by simp))) fun q hq => hl q (by simp [hq])
    rw [List.foldl_cons, List.length_cons, show m + (l.length + 1) = m + 1 + l.length by omega]
    exact h
theorem okA_feedS {a : As} {m : Nat} (ok : okA a m) (l : List Rc) (hl : ∀ r ∈ l, r.ps.length ≤ 1000000) : okA (feedS a l).1 (m + l.length) := okA_fold l (a, []) m ok hl
theorem okA_flushS {a : As} {m : Nat} (ok : okA a m) : okA (flushS a).1 m := okA_settle (by have := ok.la; omega) (s := (a, [])) ok
/-- what was given out before -/
def pre (o : List Ev) (s : St) : St := (s.1, o ++ s.2)
theorem stepS_pre (edge : Int) (o : List Ev) (s : St) : stepS edge (pre o s) = (stepS edge s).map (pre o) := by
  unfold stepS
  by_cases h1 : 1073741824 < s.1.nx
  · rw [if_pos (show 1073741824 < (pre o s).1.nx from h1), if_pos h1]; rfl
  rw [if_neg (show ¬ 1073741824 < (pre o s).1.nx from h1), if_neg h1]
  by_cases h2 : 0 ≤ heldE s.1.op s.1.nx
  · rw [if_pos (show 0 ≤ heldE (pre o s).1.op (pre o s).1.nx from h2), if_pos h2]
    by_cases h3 : (s.1.op.getD (heldE s.1.op s.1.nx).toNat ev0).co = false ∧ edge < s.1.nx
    · rw [if_pos (show ((pre o s).1.op.getD (heldE (pre o s).1.op (pre o s).1.nx).toNat ev0).co = false ∧ edge < (pre o s).1.nx from h3), if_pos h3]; rfl
    · rw [if_neg (show ¬ (((pre o s).1.op.getD (heldE (pre o s).1.op (pre o s).1.nx).toNat ev0).co = false ∧ edge < (pre o s).1.nx) from h3), if_neg h3]
      simp only [Option.map_some, pre, List.append_assoc]
  rw [if_neg (show ¬ 0 ≤ heldE (pre o s).1.op (pre o s).1.nx from h2), if_neg h2]
  by_cases h3 : (covI s.1.ls s.1.nx).2 = true
  · rw [if_pos (show (covI (pre o s).1.ls (pre o s).1.nx).2 = true from h3), if_pos h3]; rfl
  rw [if_neg (show ¬ (covI (pre o s).1.ls (pre o s).1.nx).2 = true from h3), if_neg h3]
  by_cases h4 : edge < s.1.nx
  · rw [if_pos (show edge < (pre o s).1.nx from h4), if_pos h4]; rfl
  · rw [if_neg (show ¬ edge < (pre o s).1.nx from h4), if_neg h4]; rfl
theorem runS_pre (edge : Int) (o : List Ev) : ∀ (f : Nat) (s : St), runS edge f (pre o s) = pre o (runS edge f s)
  | 0, _ => rfl
  | f + 1, s => by
    simp only [runS, stepS_pre]
    cases h : stepS edge s with
    | none => rfl
    | some s' => exact runS_pre edge o f s'
theorem settleS_pre (edge : Int) (o : List Ev) (s : St) : settleS edge (pre o s) = pre o (settleS edge s) := by
  simp only [settleS]
  rw [show (pre o s).1.nx = s.1.nx from rfl, runS_pre]
  rfl
theorem feedR_pre (o : List Ev) (s : St) (r : Rc) : feedR (pre o s) r = pre o (feedR s r) := by
  simp only [feedR]
  rw [show (pre o s).1 = s.1 from rfl, show (pre o s).2 = o ++ s.2 from rfl]
  split
  · exact settleS_pre _ o ((takeS s.1 r).1, s.2)
  · rfl
theorem fold_pre (o : List Ev) : ∀ (l : List Rc) (s : St), l.foldl feedR (pre o s) = pre o (l.foldl feedR s)
  | [], _ => rfl
  | r :: l, s => by
    rw [List.foldl_cons, List.foldl_cons, feedR_pre]
    exact fold_pre o l (feedR s r)
/-- records in two calls -/
theorem feedS_app (a : As) (l1 l2 : List Rc) : feedS a (l1 ++ l2) = pre (feedS a l1).2 (feedS (feedS a l1).1 l2) := by
  rw [feedS, List.foldl_append]
  have h := fold_pre (feedS a l1).2 l2 ((feedS a l1).1, [])
  rw [show pre (feedS a l1).2 ((feedS a l1).1, []) = l1.foldl feedR (a, []) by simp only [pre, List.append_nil]; rfl] at h
  exact h
theorem heldE_in {l : List Ev} {s : Int} (h : 0 ≤ heldE l s) : ∃ j : Nat, heldE l s = j ∧ j < l.length ∧ (l.getD j ev0).se = s := by
  obtain ⟨m, h1, h2, h3, _⟩ := fstI_spec (n := l.length) (p := fun i => (l.getD i ev0).se == s) (by change heldE l s ≠ -1; omega)
  exact ⟨m, h1, h2, by simpa using h3⟩
theorem heldE_no {l : List Ev} {s : Int} (h : ¬ 0 ≤ heldE l s) : ∀ e ∈ l, e.se ≠ s := by
  intro e he
  have hr := fstI_range l.length fun i => (l.getD i ev0).se == s
  change -1 ≤ heldE l s ∧ _ at hr
  have hn := fstI_neg (n := l.length) (p := fun i => (l.getD i ev0).se == s) (by change heldE l s = -1; omega)
  obtain ⟨i, hi, rfl⟩ := List.mem_iff_getElem.1 he
  have := hn i hi
  simpa [List.getD, hi] using this
theorem befEN_lt (l : List Ev) (x : Int) : ∀ n j, j < n → x < (l.getD j ev0).se → befEN l x n < (l.getD j ev0).se
  | 0, j, h, _ => by omega
  | n + 1, j, h, hx => by
    simp only [befEN]
    by_cases hj : j = n
    · subst hj; rw [if_pos hx]; omega
    · have := befEN_lt l x n j (by omega) hx
      split <;> omega
theorem befE_lt {l : List Ev} {x : Int} {e : Ev} (he : e ∈ l) (hx : x < e.se) : befE l x < e.se := by
  obtain ⟨i, hi, rfl⟩ := List.mem_iff_getElem.1 he
  have := befEN_lt l x l.length i hi
  simp only [List.getD, hi, List.getElem?_eq_getElem, Option.getD_some] at this
  exact this hx
theorem split_at {l : List Ev} {j : Nat} (h : j < l.length) : ∃ A e B, l = A ++ e :: B ∧ l.getD j ev0 = e ∧ l.eraseIdx j = A ++ B ∧ ∀ x, l.set j x = A ++ x :: B := by
  refine ⟨l.take j, l.getD j ev0, l.drop (j + 1), ?_, rfl, List.eraseIdx_eq_take_drop_succ _ _, fun x => ?_⟩
  · conv => lhs; rw [← List.take_append_drop j l, List.drop_eq_getElem_cons h]
    simp [List.getD, h]
  · rw [List.set_eq_take_append_cons_drop, if_pos h]
/-- the rounds -/
theorem stepS_cases {edge : Int} {s s' : St} (h : stepS edge s = some s') :
    (∃ j : Nat, j < s.1.op.length ∧ (s.1.op.getD j ev0).se = s.1.nx ∧ s' = ({ s.1 with op := s.1.op.eraseIdx j, nx := s.1.nx + 1 }, s.2 ++ [s.1.op.getD j ev0]))
    ∨ ((∀ e ∈ s.1.op, e.se ≠ s.1.nx) ∧ ∃ z, s.1.nx ≤ z ∧ (∀ e ∈ s.1.op, s.1.nx < e.se → z < e.se) ∧ (s' = ({ s.1 with nx := z + 1 }, s.2) ∨ s' = ({ s.1 with gs := gapS s.1.gs s.1.nx z, nx := z + 1 }, s.2))) := by
  have hu := stepS_up h
  unfold stepS at h
  split at h
  · cases h
  split at h
  · rename_i hh
    obtain ⟨j, h1, h2, h3⟩ := heldE_in hh
    split at h
    · cases h
    · cases h
      rw [h1]
      exact .inl ⟨j, h2, h3, rfl⟩
  rename_i hh
  refine .inr ⟨heldE_no hh, ?_⟩
  split at h
  · cases h
    dsimp only at hu
    refine ⟨_, by omega, fun e he hx => ?_, .inl rfl⟩
    have := befE_lt he hx
    omega
  split at h
  · cases h
  · cases h
    dsimp only at hu
    refine ⟨_, by omega, fun e he hx => ?_, .inr rfl⟩
    have := befE_lt he hx
    have h6 := losN_le s.1.ls s.1.nx (min edge (befE s.1.op s.1.nx)) s.1.ls.length
    change losI _ _ _ ≤ _ at h6
    omega
/-- what holds of an event -/
def evG (e : Ev) : Prop := e.rs ≠ [] ∧ e.co = compS e.rs ∧ (e.rs.getD 0 rc0).ti = e.ti ∧ ∀ r ∈ e.rs, r.se = e.se
def cnt (l : List Ev) : Nat := (l.map fun e => e.rs.length).sum
theorem cnt_mid (A B : List Ev) (e : Ev) : cnt (A ++ e :: B) = cnt (A ++ B) + e.rs.length := by simp [cnt]; omega
theorem cnt_app (A B : List Ev) : cnt (A ++ B) = cnt A + cnt B := by simp [cnt]
structure Asc (s : St) (n : Nat) : Prop where
  op : s.1.op.Pairwise fun x y => x.se < y.se
  lo : ∀ e ∈ s.1.op, s.1.nx ≤ e.se
  hi : ∀ e ∈ s.1.op, e.se ≤ s.1.la
  out : s.2.Pairwise fun x y => x.se < y.se
  lt : ∀ e ∈ s.2, e.se < s.1.nx
  ev : ∀ e ∈ s.1.op, evG e
  eo : ∀ e ∈ s.2, evG e
  gl : ∀ g ∈ s.1.gs, g.f ≤ g.l ∧ g.l < s.1.nx
  gp : s.1.gs.Pairwise fun x y => x.l + 1 < y.f
  go : ∀ g ∈ s.1.gs, ∀ e ∈ s.2, ¬ (g.f ≤ e.se ∧ e.se ≤ g.l)
  n : ((cnt s.1.op + cnt s.2 : Nat) : Int) + s.1.st = n
theorem last_of {l : List Gp} (h : 0 < l.length) : ∃ G g, l = G ++ [g] ∧ l.getD (l.length - 1) gp0 = g ∧ ∀ x, l.set (l.length - 1) x = G ++ [x] := by
  obtain ⟨G, g, rfl⟩ : ∃ G g, l = G ++ [g] := ⟨_, _, (List.dropLast_concat_getLast (by intro h0; simp [h0] at h)).symm⟩
  exact ⟨G, g, rfl, by simp, fun x => by simp⟩
theorem asc_step {edge : Int} {s s' : St} {n : Nat} (h : stepS edge s = some s') (a : Asc s n) : Asc s' n := by
  rcases stepS_cases h with ⟨j, h1, h2, rfl⟩ | ⟨h1, z, h2, h3, h4⟩
  · obtain ⟨A, e, B, e1, e2, e3, _⟩ := split_at h1
    have hp := a.op
    have hlo := a.lo
    have hhi := a.hi
    have hev := a.ev
    have hn := a.n
    rw [e2] at h2
    rw [e1] at hp hlo hhi hev hn
    rw [cnt_mid] at hn
    simp only [List.pairwise_append, List.pairwise_cons, List.mem_cons] at hp
    obtain ⟨p1, ⟨p2, p3⟩, p4⟩ := hp
    have hout : ∀ x ∈ s.2, x.se < e.se := fun x hx => by have := a.lt x hx; omega
    refine ⟨?_, ?_, ?_, ?_, ?_, ?_, ?_, ?_, a.gp, ?_, ?_⟩ <;> dsimp only <;> try simp only [e2, e3]
    · rw [List.pairwise_append]
      exact ⟨p1, p3, fun x hx y hy => p4 x hx y (.inr hy)⟩
    · intro x hx
      rcases List.mem_append.1 hx with hx | hx
      · have h5 := p4 x hx e (.inl rfl)
        have h6 := hlo x (by simp [hx])
        omega
      · have h5 := p2 x hx
        omega
    · intro x hx
      refine hhi x ?_
      rcases List.mem_append.1 hx with hx | hx <;> simp [hx]
    · rw [List.pairwise_append]
      refine ⟨a.out, by simp, fun x hx y hy => ?_⟩
      simp only [List.mem_singleton] at hy
      subst hy
      exact hout x hx
    · intro x hx
      rcases List.mem_append.1 hx with hx | hx
      · have := a.lt x hx; omega
      · simp only [List.mem_singleton] at hx; subst hx; omega
    · intro x hx
      refine hev x ?_
      rcases List.mem_append.1 hx with hx | hx <;> simp [hx]
    · intro x hx
      rcases List.mem_append.1 hx with hx | hx
      · exact a.eo x hx
      · simp only [List.mem_singleton] at hx; subst hx; exact hev _ (by simp)
    · intro g hg
      have := a.gl g hg
      omega
    · intro g hg x hx
      rcases List.mem_append.1 hx with hx | hx
      · exact a.go g hg x hx
      · simp only [List.mem_singleton] at hx
        subst hx
        have := a.gl g hg
        omega
    · rw [cnt_app s.2, show cnt [e] = e.rs.length by simp [cnt]]
      omega
  · have hlo : ∀ e ∈ s.1.op, z + 1 ≤ e.se := fun e he => by
      have := h1 e he
      have := a.lo e he
      have := h3 e he (by omega)
      omega
    have hlt : ∀ e ∈ s.2, e.se < z + 1 := fun e he => by have := a.lt e he; omega
    rcases h4 with rfl | rfl
    · exact ⟨a.op, hlo, a.hi, a.out, hlt, a.ev, a.eo, fun g hg => by have := a.gl g hg; dsimp only; omega, a.gp, a.go, a.n⟩
    · refine ⟨a.op, hlo, a.hi, a.out, hlt, a.ev, a.eo, ?_, ?_, ?_, a.n⟩ <;> dsimp only <;> unfold gapS
      all_goals split
      all_goals rename_i hc
      · obtain ⟨G, g, g1, g2, g3⟩ := last_of hc.1
        have hgl := a.gl
        rw [g2, g3]
        rw [g1] at hgl
        intro x hx
        rcases List.mem_append.1 hx with hx | hx
        · have := hgl x (by simp [hx]); omega
        · simp only [List.mem_singleton] at hx; subst hx
          have := hgl g (by simp); dsimp only; omega
      · intro x hx
        rcases List.mem_append.1 hx with hx | hx
        · have := a.gl x hx; omega
        · simp only [List.mem_singleton] at hx; subst hx; dsimp only; omega
      · obtain ⟨G, g, g1, g2, g3⟩ := last_of hc.1
        have hgp := a.gp
        rw [g2, g3]
        rw [g1] at hgp
        rw [List.pairwise_append] at hgp ⊢
        refine ⟨hgp.1, by simp, fun x hx y hy => ?_⟩
        simp only [List.mem_singleton] at hy; subst hy
        exact hgp.2.2 x hx g (by simp)
      · rw [List.pairwise_append]
        refine ⟨a.gp, by simp, fun x hx y hy => ?_⟩
        simp only [List.mem_singleton] at hy; subst hy
        dsimp only
        have hx0 := a.gl x hx
        have hl : 0 < s.1.gs.length := List.length_pos_of_mem hx
        obtain ⟨G, g, g1, g2, g3⟩ := last_of hl
        rw [g2] at hc
        have hgp := a.gp
        have hgl := a.gl
        rw [g1] at hgp hgl hx
        rw [List.pairwise_append] at hgp
        rcases List.mem_append.1 hx with hx | hx
        · have := hgp.2.2 x hx g (by simp)
          have := hgl g (by simp)
          omega
        · simp only [List.mem_singleton] at hx; subst hx
          omega
      · obtain ⟨G, g, g1, g2, g3⟩ := last_of hc.1
        have hgo := a.go
        rw [g2] at hc
        rw [g2, g3]
        rw [g1] at hgo
        intro x hx e he
        rcases List.mem_append.1 hx with hx | hx
        · exact hgo x (by simp [hx]) e he
        · simp only [List.mem_singleton] at hx; subst hx
          have h5 := hgo g (by simp) e he
          have h6 := a.lt e he
          dsimp only
          omega
      · intro x hx e he
        rcases List.mem_append.1 hx with hx | hx
        · exact a.go x hx e he
        · simp only [List.mem_singleton] at hx; subst hx
          have h6 := a.lt e he
          dsimp only
          omega
theorem asc_runs {edge : Int} {s r : St} {n : Nat} (h : Runs edge s r) : Asc s n → Asc r n := by
  induction h with
  | stop _ => exact id
  | step h _ ih => exact fun a => ih (asc_step h a)
theorem asc_settle {edge : Int} {s : St} {n : Nat} (a : Asc s n) : Asc (settleS edge s) n := by
  have h := asc_runs (runs_ex edge _ s (Int.self_le_toNat _)) a
  exact ⟨h.op, h.lo, h.hi, h.out, h.lt, h.ev, h.eo, h.gl, h.gp, h.go, h.n⟩
theorem addR_good {e : Ev} {r : Rc} (h : evG e) (hr : r.se = e.se) : evG (addR e r) := by
  obtain ⟨h1, h2, h3, h4⟩ := h
  refine ⟨by simp [addR], rfl, ?_, fun q hq => ?_⟩
  · obtain ⟨x, t, ht⟩ : ∃ x t, e.rs = x :: t := by cases hh : e.rs with | nil => exact absurd hh h1 | cons x t => exact ⟨x, t, rfl⟩
    rw [ht] at h3
    simp only [addR, ht]
    exact h3
  · rcases List.mem_append.1 hq with hq | hq
    · exact h4 q hq
    · simp only [List.mem_singleton] at hq; subst hq; exact hr
theorem addR_new (bo : Int) (r : Rc) : evG (addR ⟨bo, r.se, r.ti, [], false⟩ r) := ⟨by simp [addR], rfl, rfl, fun q hq => by simp [addR] at hq; subst hq; rfl⟩
theorem pos_split {l : List Ev} {s : Int} (hp : l.Pairwise fun x y => x.se < y.se) (hn : ∀ e ∈ l, e.se ≠ s) : (∀ e ∈ l.take (posE l s), e.se < s) ∧ ∀ e ∈ l.drop (posE l s), s < e.se := by
  have key : (∀ j, j < posE l s → j < l.length → ¬ s < (l.getD j ev0).se) ∧ (posE l s < l.length → s < (l.getD (posE l s) ev0).se) := by
    unfold posE
    dsimp only
    have hr := fstI_range l.length fun i => decide (s < (l.getD i ev0).se)
    by_cases h : fstI l.length (fun i => decide (s < (l.getD i ev0).se)) = -1
    · have h2 := fstI_neg h
      rw [h, if_pos (by omega)]
      refine ⟨fun j h3 h4 => by simpa using h2 j h4, fun h3 => by omega⟩
    · obtain ⟨m, h1, h2, h3, h4⟩ := fstI_spec h
      rw [h1, if_neg (by omega)]
      refine ⟨fun j h5 h6 => by simpa using h4 j (by omega), fun _ => by simpa using h3⟩
  generalize posE l s = p at *
  constructor
  · intro e he
    obtain ⟨i, hi, rfl⟩ := List.mem_iff_getElem.1 he
    rw [List.length_take] at hi
    have h1 := key.1 i (by omega) (by omega)
    have hi2 : i < l.length := by omega
    simp only [List.getD, hi2, List.getElem?_eq_getElem, Option.getD_some] at h1
    have h2 := hn l[i] (List.getElem_mem _)
    rw [List.getElem_take]
    omega
  · intro e he
    obtain ⟨i, hi, rfl⟩ := List.mem_iff_getElem.1 he
    rw [List.length_drop] at hi
    have hp2 : p < l.length := by omega
    have h1 := key.2 hp2
    simp only [List.getD, hp2, List.getElem?_eq_getElem, Option.getD_some] at h1
    rw [List.getElem_drop]
    by_cases h0 : i = 0
    · subst h0; exact h1
    · have := List.pairwise_iff_getElem.1 hp p (p + i) hp2 (by omega) (by omega)
      omega
theorem asc_take {s : St} {n : Nat} {r : Rc} (a : Asc s n) : Asc ((takeS s.1 r).1, s.2) (n + 1) := by
  have hn := a.n
  unfold takeS
  by_cases hs : strayS s.1.nx (evOf s.1 r) r = true
  · rw [if_pos hs]
    exact ⟨a.op, a.lo, a.hi, a.out, a.lt, a.ev, a.eo, a.gl, a.gp, a.go, by dsimp only; omega⟩
  · rw [if_neg hs]
    obtain ⟨_, _, hr⟩ := stray_se (Bool.eq_false_iff.2 hs)
    have key : (putE s.1 r).Pairwise (fun x y => x.se < y.se) ∧ (∀ e ∈ putE s.1 r, e ∈ s.1.op ∨ (e.se = r.se ∧ evG e)) ∧ cnt (putE s.1 r) = cnt s.1.op + 1 := by
      unfold putE
      by_cases hh : 0 ≤ heldE s.1.op r.se
      · rw [if_pos hh]
        obtain ⟨j, h1, h2, h3⟩ := heldE_in hh
        rw [h1]
        obtain ⟨A, e, B, e1, e2, _, e4⟩ := split_at h2
        have hp := a.op
        have hev := a.ev
        rw [e2] at h3
        rw [show ((j : Int).toNat) = j from rfl, e2, e4]
        rw [e1] at hp hev ⊢
        rw [cnt_mid, cnt_mid]
        simp only [List.pairwise_append, List.pairwise_cons, List.mem_cons] at hp ⊢
        obtain ⟨p1, ⟨p2, p3⟩, p4⟩ := hp
        refine ⟨⟨p1, ⟨p2, p3⟩, fun x hx y hy => ?_⟩, fun x hx => ?_, by simp [addR]; omega⟩
        · rcases hy with rfl | hy
          · exact p4 x hx e (.inl rfl)
          · exact p4 x hx y (.inr hy)
        · rcases List.mem_append.1 hx with hx | hx
          · exact .inl (by simp [hx])
          · rcases List.mem_cons.1 hx with rfl | hx
            · exact .inr ⟨h3, addR_good (hev e (by simp)) h3.symm⟩
            · exact .inl (by simp [hx])
      · rw [if_neg hh]
        obtain ⟨q1, q2⟩ := pos_split a.op (heldE_no hh)
        have hp := a.op
        rw [← List.take_append_drop (posE s.1.op r.se) s.1.op] at hp
        rw [cnt_mid, List.take_append_drop]
        simp only [List.pairwise_append, List.pairwise_cons, List.mem_cons] at hp ⊢
        obtain ⟨p1, p2, p3⟩ := hp
        refine ⟨⟨p1, ⟨q2, p2⟩, fun x hx y hy => ?_⟩, fun x hx => ?_, by simp [addR]⟩
        · rcases hy with rfl | hy
          · exact q1 x hx
          · exact p3 x hx y hy
        · rcases List.mem_append.1 hx with hx | hx
          · exact .inl (List.mem_of_mem_take hx)
          · rcases List.mem_cons.1 hx with rfl | hx
            · exact .inr ⟨rfl, addR_new _ _⟩
            · exact .inl (List.mem_of_mem_drop hx)
    obtain ⟨k1, k2, k3⟩ := key
    refine ⟨k1, ?_, ?_, a.out, a.lt, ?_, a.eo, a.gl, a.gp, a.go, by dsimp only; rw [k3]; omega⟩ <;> dsimp only <;> intro e he
    · rcases k2 e he with h | ⟨h, _⟩
      · exact a.lo e h
      · omega
    · rcases k2 e he with h | ⟨h, _⟩
      · have := a.hi e h; omega
      · omega
    · rcases k2 e he with h | ⟨_, h⟩
      · exact a.ev e h
      · exact h
theorem asc_feedR {s : St} {n : Nat} {r : Rc} (a : Asc s n) : Asc (feedR s r) (n + 1) := by
  have h := asc_take (r := r) a
  unfold feedR
  split
  · exact asc_settle h
  · exact h
theorem asc_fold : ∀ (l : List Rc) (s : St) (n : Nat), Asc s n → Asc (l.foldl feedR s) (n + l.length)
  | [], _, _, a => a
  | r :: l, s, n, a => by
    rw [List.foldl_cons, List.length_cons, show n + (l.length + 1) = n + 1 + l.length by omega]
    exact asc_fold l (feedR s r) (n + 1) (asc_feedR a)
theorem flush_none {edge : Int} {s r : St} {n : Nat} (h : Runs edge s r) : Asc s n → edge = s.1.la → s.1.la ≤ 1073741824 → r.1.op = [] := by
  induction h with
  | step h _ ih =>
    intro a h1 h2
    obtain ⟨⟨_, _, k, _⟩, _⟩ := stepS_keep h
    exact ih (asc_step h a) (by rw [k]; exact h1) (by rw [k]; exact h2)
  | @stop s h =>
    intro a h1 h2
    rw [List.eq_nil_iff_forall_not_mem]
    intro e he
    have e1 := a.lo e he
    have e2 := a.hi e he
    unfold stepS at h
    rw [if_neg (by omega)] at h
    split at h
    · rename_i hh
      obtain ⟨j, j1, j2, j3⟩ := heldE_in hh
      have e3 := a.hi _ (getD_memA ev0 j2)
      rw [if_neg (by omega)] at h
      cases h
    split at h
    · cases h
    rw [if_neg (by omega)] at h
    cases h
theorem asc0 (bo : Int) : Asc (as0 bo, []) 0 := ⟨by simp [as0], by simp [as0], by simp [as0], by simp, by simp, by simp [as0], by simp, by simp [as0], by simp [as0], by simp [as0], by simp [as0, cnt]⟩
/-- records fed, then everything given out -/
theorem asc_all (bo : Int) (l : List Rc) (hl : ∀ r ∈ l, r.ps.length ≤ 1000000) : Asc (pre (feedS (as0 bo) l).2 (flushS (feedS (as0 bo) l).1)) l.length ∧ (flushS (feedS (as0 bo) l).1).1.op = [] := by
  have a := asc_fold l _ _ (asc0 bo)
  rw [Nat.zero_add] at a
  change Asc (feedS (as0 bo) l) l.length at a
  have ok := okA_feedS (okA0 bo) l hl
  generalize feedS (as0 bo) l = s at *
  rw [flushS, ← settleS_pre, show pre s.2 (s.1, []) = s by simp [pre]]
  refine ⟨asc_settle a, ?_⟩
  have h := flush_none (runs_ex s.1.la _ s (Int.self_le_toNat _)) a rfl ok.la.2
  have h2 := settleS_pre s.1.la s.2 (s.1, [])
  rw [show pre s.2 (s.1, []) = s by simp [pre]] at h2
  have h3 : (settleS s.1.la (s.1, [])).1 = (settleS s.1.la s).1 := by rw [h2]; rfl
  rw [h3]
  exact h
end Go.Proofs.YtfheeghkajihoaaDoor
