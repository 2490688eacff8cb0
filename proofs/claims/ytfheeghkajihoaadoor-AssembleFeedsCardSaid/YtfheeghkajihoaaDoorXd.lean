/- Layer 22: smaller steps over ranges; what is settled (plain). -/
import Derived.Test.YtfheeghkajihoaaDoorCg
import Derived.Test.YtfheeghkajihoaaDoorXa
import Derived.Test.YtfheeghkajihoaaDoorXc
namespace Go.Proofs.YtfheeghkajihoaaDoor
open Go Go.Lx
set_option linter.unusedSimpArgs false
set_option linter.unusedVariables false
set_option maxRecDepth 100000
set_option maxHeartbeats 4000000

theorem covE_in {ls : List Ls} {x : Int} (h : 0 < covE ls x) : ∃ q ∈ ls, (q.f ≤ x ∧ x ≤ q.l) ∧ covE ls x = q.l := by
  unfold covE at h ⊢
  split at h
  · omega
  · rename_i hn
    obtain ⟨m, h1, h2, h3, _⟩ := fstI_spec (n := ls.length) (p := fun i => decide ((ls.getD i ls0).f ≤ x) && decide (x ≤ (ls.getD i ls0).l)) (by change covF ls x ≠ -1; omega)
    change covF ls x = _ at h1
    rw [h1] at hn ⊢
    rw [if_neg hn]
    exact ⟨ls.getD m ls0, getD_memA ls0 h2, by simpa using h3, rfl⟩
theorem covN_at (ls : List Ls) (x : Int) : ∀ n j, j < n → ((ls.getD j ls0).f ≤ x ∧ x ≤ (ls.getD j ls0).l) → (covN ls x n).2 = true ∧ (ls.getD j ls0).l ≤ (covN ls x n).1
  | 0, j, h, _ => by omega
  | n + 1, j, h, hc => by
    simp only [covN]
    by_cases hj : j = n
    · subst hj; rw [if_pos hc]; exact ⟨rfl, by dsimp only; omega⟩
    · have h1 := covN_at ls x n j (by omega) hc
      split
      · exact ⟨rfl, by dsimp only; omega⟩
      · exact h1
theorem covI_at {ls : List Ls} {x : Int} {q : Ls} (hq : q ∈ ls) (hc : q.f ≤ x ∧ x ≤ q.l) : (covI ls x).2 = true ∧ q.l ≤ (covI ls x).1 := by
  obtain ⟨i, hi, rfl⟩ := List.mem_iff_getElem.1 hq
  have h := covN_at ls x ls.length i hi
  simp only [List.getD, hi, List.getElem?_eq_getElem, Option.getD_some] at h
  exact h hc
theorem covN_in (ls : List Ls) (x : Int) (ok : okLs ls) : ∀ n, n ≤ ls.length → ((covN ls x n).2 = true → ∃ q ∈ ls, (q.f ≤ x ∧ x ≤ q.l) ∧ (covN ls x n).1 = q.l) ∧ ((covN ls x n).2 = false → (covN ls x n).1 = 0)
  | 0, _ => ⟨fun h => by simp [covN] at h, fun _ => rfl⟩
  | n + 1, hn => by
    have ih := covN_in ls x ok n (by omega)
    have hm : ls.getD n ls0 ∈ ls := getD_memA ls0 (by omega)
    have hl := ok _ hm
    simp only [covN]
    by_cases hc : (ls.getD n ls0).f ≤ x ∧ x ≤ (ls.getD n ls0).l
    · rw [if_pos hc]
      refine ⟨fun _ => ?_, fun h => by simp at h⟩
      dsimp only
      cases hb : (covN ls x n).2 with
      | false =>
        rw [ih.2 hb]
        exact ⟨_, hm, hc, by omega⟩
      | true =>
        obtain ⟨q, q1, q2, q3⟩ := ih.1 hb
        rcases Int.le_total q.l (ls.getD n ls0).l with h | h
        · exact ⟨_, hm, hc, by omega⟩
        · exact ⟨q, q1, q2, by omega⟩
    · rw [if_neg hc]
      exact ih
theorem covI_in {ls : List Ls} {x : Int} (ok : okLs ls) (h : (covI ls x).2 = true) : ∃ q ∈ ls, (q.f ≤ x ∧ x ≤ q.l) ∧ (covI ls x).1 = q.l := (covN_in ls x ok ls.length (Nat.le_refl _)).1 h
theorem covE_no {ls : List Ls} {x : Int} (ok : okLs ls) (h : ¬ 0 < covE ls x) : (covI ls x).2 = false := by
  rw [Bool.eq_false_iff]
  intro h2
  obtain ⟨q, q1, q2, _⟩ := covI_in ok h2
  have hq := ok q q1
  obtain ⟨i, hi, rfl⟩ := List.mem_iff_getElem.1 q1
  by_cases h3 : covF ls x = -1
  · have h4 := fstI_neg (n := ls.length) (p := fun i => decide ((ls.getD i ls0).f ≤ x) && decide (x ≤ (ls.getD i ls0).l)) h3 i hi
    simp only [List.getD, hi, List.getElem?_eq_getElem, Option.getD_some] at h4
    simp at h4
    omega
  · obtain ⟨m, h4, h5, h6, _⟩ := fstI_spec (n := ls.length) (p := fun i => decide ((ls.getD i ls0).f ≤ x) && decide (x ≤ (ls.getD i ls0).l)) h3
    change covF ls x = _ at h4
    have h7 := ok _ (getD_memA ls0 h5)
    apply h
    rw [covE, h4, if_neg (by omega), Int.toNat_natCast]
    rw [Bool.and_eq_true, decide_eq_true_eq, decide_eq_true_eq] at h6
    omega
theorem heldE_neg {l : List Ev} {s : Int} (h : ∀ e ∈ l, e.se ≠ s) : ¬ 0 ≤ heldE l s := fun h0 => by
  obtain ⟨j, _, h2, h3⟩ := heldE_in h0
  exact h _ (getD_memA ev0 h2) h3
theorem befEN_congr (l : List Ev) {x y : Int} (h : ∀ e ∈ l, (x < e.se ↔ y < e.se)) : ∀ n, n ≤ l.length → befEN l x n = befEN l y n
  | 0, _ => rfl
  | n + 1, hn => by
    simp only [befEN]
    rw [befEN_congr l h n (by omega)]
    have := h _ (getD_memA ev0 (show n < l.length by omega))
    by_cases hx : x < (l.getD n ev0).se
    · rw [if_pos hx, if_pos (this.1 hx)]
    · rw [if_neg hx, if_neg (fun hy => hx (this.2 hy))]
theorem befE_mid {l : List Ev} {x y : Int} (h1 : x ≤ y) (h2 : y ≤ befE l x) : befE l y = befE l x :=
  (befEN_congr l (fun e he => ⟨fun h => by have := befE_lt he h; omega, fun h => by omega⟩) l.length (Nat.le_refl _)).symm
/-- at another number -/
def St.to (s : St) (y : Int) : St := ({ s.1 with nx := y }, s.2)
theorem step_cov {edge : Int} {s : St} (h1 : s.1.nx ≤ 1073741824) (h2 : ∀ e ∈ s.1.op, e.se ≠ s.1.nx) (h3 : (covI s.1.ls s.1.nx).2 = true) : stepS edge s = some (s.to (min (covI s.1.ls s.1.nx).1 (befE s.1.op s.1.nx) + 1)) := by
  unfold stepS
  rw [if_neg (by omega), if_neg (heldE_neg h2), if_pos h3]
  rfl
/-- one may advance by any range that covers the next number -/
theorem adv {edge : Int} : ∀ (f : Nat) (s r : St) (q : Ls), 1073741825 - s.1.nx ≤ f → okLs s.1.ls → (∀ e ∈ s.1.op, e.se ≠ s.1.nx) → q ∈ s.1.ls → (q.f ≤ s.1.nx ∧ s.1.nx ≤ q.l) → Runs edge (s.to (min q.l (befE s.1.op s.1.nx) + 1)) r → Runs edge s r
  | 0, s, r, q, hf, ok, _, hq, hc, _ => by
    have := ok q hq
    omega
  | f + 1, s, r, q, hf, ok, hh, hq, hc, hr => by
    have hql := ok q hq
    have hB := befEN_ge s.1.op s.1.nx (by omega) s.1.op.length
    change s.1.nx ≤ befE s.1.op s.1.nx at hB
    obtain ⟨c1, c2⟩ := covI_at hq hc
    obtain ⟨qm, m1, m2, m3⟩ := covI_in ok c1
    have hst := step_cov (edge := edge) (by omega) hh c1
    have hml := ok qm m1
    refine Runs.step hst ?_
    generalize hLL : (covI s.1.ls s.1.nx).1 = L at *
    by_cases he : min q.l (befE s.1.op s.1.nx) = min L (befE s.1.op s.1.nx)
    · rw [← he]; exact hr
    have noh : ∀ y, s.1.nx < y → y ≤ befE s.1.op s.1.nx → ∀ e ∈ s.1.op, e.se ≠ y := fun y h1 h2 e he h3 => by
      have := befE_lt he (show s.1.nx < e.se by omega)
      omega
    generalize hBB : befE s.1.op s.1.nx = B at *
    have hy : min q.l B + 1 = q.l + 1 := by omega
    rw [hy] at hr
    have bm : ∀ y, s.1.nx ≤ y → y ≤ B → befE s.1.op y = B := fun y h1 h2 => by rw [befE_mid h1 (by omega), hBB]
    obtain ⟨d1, d2⟩ := covI_at (x := q.l + 1) m1 ⟨by omega, by omega⟩
    obtain ⟨q', n1, n2, n3⟩ := covI_in ok d1
    have hst2 := step_cov (edge := edge) (s := s.to (q.l + 1)) (show q.l + 1 ≤ 1073741824 by omega) (noh (q.l + 1) (by omega) (by omega)) d1
    have hnl := ok q' n1
    rw [show (s.to (q.l + 1)).1.ls = s.1.ls from rfl, show (s.to (q.l + 1)).1.nx = q.l + 1 from rfl, show (s.to (q.l + 1)).1.op = s.1.op from rfl, bm (q.l + 1) (by omega) (by omega), n3] at hst2
    have hr2 : Runs edge (s.to (min q'.l B + 1)) r := by
      cases hr with
      | stop h => rw [hst2] at h; cases h
      | step h h' => rw [hst2] at h; cases h; exact h'
    by_cases he2 : min q'.l B = min L B
    · rw [← he2]; exact hr2
    have hy2 : min L B + 1 = L + 1 := by omega
    rw [hy2]
    refine adv f (s.to (L + 1)) r q' (show 1073741825 - (L + 1) ≤ (f : Int) by omega) ok (noh (L + 1) (by omega) (by omega)) n1 ⟨show q'.f ≤ L + 1 by omega, show L + 1 ≤ q'.l by omega⟩ ?_
    rw [show (s.to (L + 1)).1.op = s.1.op from rfl, show (s.to (L + 1)).1.nx = L + 1 from rfl, bm (L + 1) (by omega) (by omega)]
    exact hr2
theorem adv' {edge : Int} {s r : St} {q : Ls} (ok : okLs s.1.ls) (hh : ∀ e ∈ s.1.op, e.se ≠ s.1.nx) (hq : q ∈ s.1.ls) (hc : q.f ≤ s.1.nx ∧ s.1.nx ≤ q.l) (h : Runs edge (s.to (min q.l (befE s.1.op s.1.nx) + 1)) r) : Runs edge s r :=
  adv _ s r q (Int.self_le_toNat _) ok hh hq hc h
/-- nothing more is given out -/
structure Settled (s : St) : Prop where
  none : stepS (s.1.la - 64) s = none
  ls : ∀ q ∈ s.1.ls, ¬ q.l < s.1.nx
theorem stepS_none {e e' : Int} {s : St} (he : e' ≤ e) (h : stepS e s = none) : stepS e' s = none := by
  unfold stepS at h ⊢
  by_cases h1 : 1073741824 < s.1.nx
  · rw [if_pos h1]
  rw [if_neg h1] at h ⊢
  by_cases h2 : 0 ≤ heldE s.1.op s.1.nx
  · rw [if_pos h2] at h ⊢
    split at h
    · rename_i h3
      rw [if_pos ⟨h3.1, by omega⟩]
    · cases h
  rw [if_neg h2] at h ⊢
  by_cases h3 : (covI s.1.ls s.1.nx).2 = true
  · rw [if_pos h3] at h; cases h
  rw [if_neg h3] at h ⊢
  split at h
  · rw [if_pos (by omega)]
  · cases h
theorem covI_keep {ls : List Ls} {x : Int} (ok : okLs ls) : (covI (keepL ls x) x).2 = true ↔ (covI ls x).2 = true := by
  have ok2 : okLs (keepL ls x) := fun q hq => ok q (List.mem_filter.1 hq).1
  constructor
  · intro h
    obtain ⟨q, q1, q2, _⟩ := covI_in ok2 h
    exact (covI_at (List.mem_filter.1 q1).1 q2).1
  · intro h
    obtain ⟨q, q1, q2, _⟩ := covI_in ok h
    exact (covI_at (List.mem_filter.2 ⟨q1, by simp; omega⟩) q2).1
theorem none_keep {e : Int} {s : St} (ok : okLs s.1.ls) (h : stepS e s = none) : stepS e ({ s.1 with ls := keepL s.1.ls s.1.nx }, s.2) = none := by
  unfold stepS at h ⊢
  dsimp only
  by_cases h1 : 1073741824 < s.1.nx
  · rw [if_pos h1]
  rw [if_neg h1] at h ⊢
  by_cases h2 : 0 ≤ heldE s.1.op s.1.nx
  · rw [if_pos h2] at h ⊢
    split at h
    · rename_i h3
      rw [if_pos h3]
    · cases h
  rw [if_neg h2] at h ⊢
  by_cases h3 : (covI s.1.ls s.1.nx).2 = true
  · rw [if_pos h3] at h; cases h
  rw [if_neg h3] at h
  rw [if_neg (fun h4 => h3 ((covI_keep ok).1 h4))]
  split at h
  · rename_i h5; rw [if_pos h5]
  · cases h
theorem runs_none {e : Int} {s r : St} (h : Runs e s r) : stepS e r = none := by
  induction h with
  | stop h => exact h
  | step _ _ ih => exact ih
theorem settled_settle {e : Int} {s : St} (ok : okLs s.1.ls) (he : s.1.la - 64 ≤ e) : Settled (settleS e s) := by
  have hr := runs_ex e _ s (Int.self_le_toNat _)
  have hk := hr.keep
  have hn := runs_none hr
  unfold settleS
  generalize runS e (1073741825 - s.1.nx).toNat s = r at *
  have okr : okLs r.1.ls := by rw [hk.1.2.2.2]; exact ok
  refine ⟨stepS_none (by dsimp only; rw [hk.1.2.2.1]; exact he) (none_keep okr hn), fun q hq => ?_⟩
  have := (List.mem_filter.1 hq).2
  simpa using this
theorem settle_id {e : Int} {s : St} (h : stepS e s = none) (hl : ∀ q ∈ s.1.ls, ¬ q.l < s.1.nx) : settleS e s = s := by
  rw [settleS_of (Runs.stop h), keep_nil hl]
/-- the reference settles behind strays, too: that changes nothing -/
def feedQ (s : St) (r : Rc) : St := settleS ((takeS s.1 r).1.la - 64) ((takeS s.1 r).1, s.2)
theorem stepS_st {e : Int} {s : St} {n : Int} : stepS e ({ s.1 with st := n }, s.2) = none ↔ stepS e s = none := by
  unfold stepS
  dsimp only
  repeat' split
  all_goals simp
theorem feedQ_eq {s : St} {r : Rc} {m : Nat} (h : Settled s) (ok : okA s.1 m) : feedQ s r = feedR s r ∧ Settled (feedR s r) := by
  unfold feedQ feedR
  cases hb : (takeS s.1 r).2 with
  | true =>
    rw [if_pos rfl]
    refine ⟨rfl, settled_settle ?_ (Int.le_refl _)⟩
    intro q hq
    unfold takeS at hb hq
    split at hb
    · cases hb
    · rename_i hs
      rw [if_neg hs] at hq
      rcases List.mem_append.1 hq with hq | hq
      · exact ok.ls q hq
      · obtain ⟨h1, _, _⟩ := stray_se (Bool.eq_false_iff.2 hs)
        exact covL_ok (chk_se h1).2 q hq
  | false =>
    rw [if_neg (by simp)]
    have ht : (takeS s.1 r).1 = { s.1 with st := s.1.st + 1 } := by
      unfold takeS at hb ⊢
      split at hb
      · rename_i hs; rw [if_pos hs]
      · cases hb
    rw [ht]
    have hn : stepS (s.1.la - 64) ({ s.1 with st := s.1.st + 1 }, s.2) = none := stepS_st.2 h.none
    exact ⟨settle_id hn h.ls, hn, h.ls⟩
theorem settled0 (bo : Int) : Settled (as0 bo, []) := ⟨by simp [as0, stepS, heldE, fstI, covI, covN], fun q hq => absurd hq (by simp [as0])⟩
end Go.Proofs.YtfheeghkajihoaaDoor

/- Layer 22: events are given out (the reference). -/
namespace Go.Proofs.YtfheeghkajihoaaDoor
open Go Go.Lx
set_option linter.unusedSimpArgs false
set_option linter.unusedVariables false
set_option maxRecDepth 100000
set_option maxHeartbeats 8000000

/-- the heap in a round -/
def JR (y : Wk × Nat × Nat) : Heap := [(49, .blk y.2.1 (Sp (y.1.out.flatMap EvC) ((y.2.2 - y.1.out.length) * 5))), (50, .blk y.1.b (RkC y.1)), (60, .blk y.1.bO (BO y.1)), (62, .blk y.1.bL (BL y.1)), (63, .blk y.1.bG (BG y.1))]
theorem Ents.gen {gl : Glob} {env env' : Env} {H H2 H3 H4 H' : Heap} (he : envLe env env') (hs : H2.Sublist H) (hl : heapLe H2 H3) (hp : H3.Perm H4) (hn : H4.map Prod.snd = H'.map Prod.snd) : Ents gl env H env' H' := Ents.mk he.get fun _ _ HF _ hI => ((hl.inv (hI.sub (hs.append_right HF))).perm (hp.append_right HF)).names (by simp [hn])
theorem pick_nof (b2 : Bool) (c a b : LV) : pickQ (.bool false) (.opt false (pickQ c a b).2) (.bool b2) = (True, .bool b2) := by
  rcases pickQ_snd c a b with h | ⟨x, h⟩ <;> rw [h] <;> simp [pickQ, LV.v, LV.g]
/-- where it stops -/
theorem stopR (late : Int) (k0 k : Wk) (bX cX bL cL : Nat) (h1 : k.b = k0.b ∧ k.ws.Sublist k0.ws ∧ okW k) (hcX : k.out.length ≤ cX) (hrun : ∀ R, Runs late k.st R → Runs late k0.st R) (hs : stepS late k.st = none) (ho : k0.out = []) (hcL : (keepL k.a.ls k.a.nx).length ≤ cL) : ∃ r' H', leVH gl (.msl 49 5 bX 0 k.out.length cX) [(50, .blk k.b (RkC (k.withL (keepL k.a.ls k.a.nx) bL cL))), (62, .blk bL (BL (k.withL (keepL k.a.ls k.a.nx) bL cL))), (60, .blk k.bO (Sp (k.ws.flatMap EwC) ((k.cO - k.ws.length) * 5))), (49, .blk bX (Sp (k.out.flatMap EvC) ((cX - k.out.length) * 5))), (63, .blk k.bG (Sp (k.a.gs.flatMap GpC) ((k.cG - k.a.gs.length) * 2)))] r' H' ∧ ∃ k' out, (k'.b = k0.b ∧ k'.ws.Sublist k0.ws ∧ caps k') ∧ (k'.st.1, out) = settleS late (k0.st.1, []) ∧ r' = .sl 5 out.length (out.flatMap EvC) ∧ H' = HR k' := by
  obtain ⟨hb, hsu, ok⟩ := h1
  have hlo := len_ev k.out
  have hls := length_Sp (k.out.flatMap EvC) ((cX - k.out.length) * 5)
  have e : (k0.st.1, ([] : List Ev)) = k0.st := by rw [Wk.st, ho]
  refine ⟨.sl 5 k.out.length (k.out.flatMap EvC), HR (k.withL (keepL k.a.ls k.a.nx) bL cL), leVH.pub 49 rfl ?_ (leVH.of ?_ ⟨_, List.Sublist.refl _, ?_⟩), k.withL (keepL k.a.ls k.a.nx) bL cL, k.out, ⟨hb, hsu, ⟨ok.cO, hcL, ok.cG⟩⟩, ?_, rfl, rfl⟩
  · simp [pubV, pubA, pubC]
    exact ⟨by omega, hcX⟩
  · simp only [pubV, pubA, pubC, if_true, List.drop_zero]
    rw [take_Sp _ hlo]
    exact leV.refl _
  · rw [HR_eq]
    exact (List.perm_append_comm (l₁ := [_]) (l₂ := [_])).append_right [_] |>.cons _
  · rw [e, settleS_of (hrun _ (.stop hs))]
    rfl
theorem rgive (k0 : Wk) (late : Int) (hlt : -100 ≤ late ∧ late ≤ 1073741824) (hok : okW k0) (ho : k0.out = []) (hE : ∀ x ∈ k0.ws, x.1.rs.length ≤ 1000000000 ∧ ∀ r ∈ x.1.rs, r.ps.length ≤ 1000000) : LCalls Tryd.prog gl 38 [.ptr 50 k0.b 0, .int .i64 late] (HR k0) fun r H => ∃ k' out, (k'.b = k0.b ∧ k'.ws.Sublist k0.ws ∧ caps k') ∧ (k'.st.1, out) = settleS late (k0.st.1, []) ∧ r = .sl 5 out.length (out.flatMap EvC) ∧ H = HR k' := by
  refine fn_viewT Tryd.func38 t38 Tryd.ntmps38 (by simp) ?_
  unfold c38 r38
  rw [HR_eq]
  repeat' (first | (simp (disch := first | omega | (simp only [List.length_cons, List.length_nil]; first | done | omega)) only [go_sem]) | (refine allI (fun b => ?_)) | (refine allT (fun τ => ?_)) | (refine brP (fun h => ?_) (fun h => ?_) <;> (try simp only [zgx, zbx] at h)) | (apply And.intro; focus (first | omega | (simp; done) | (simp +contextual; done) | (intros; and_intros <;> first | assumption | omega) | (intros; simp_all; done) | (intro hgd; refine ⟨hgd, ?_⟩; simp [hgd]; done) | (intro hgd; simp only [zgx] at hgd ⊢; omega))) | fail)
  refine loopI (ι := Wk × Nat × Nat) (fun y => ((y.1.b = k0.b ∧ y.1.ws.Sublist k0.ws ∧ okW y.1) ∧ y.1.out.length ≤ y.2.2) ∧ ∀ R, Runs late y.1.st R → Runs late k0.st R) (fun y => [(5, .msl 49 5 y.2.1 0 y.1.out.length y.2.2), (0, .ptr 50 y.1.b 0), (1, .int .i64 late)]) JR (fun y => (1073741826 - y.1.a.nx).toNat) (k0, 0, 0) ⟨⟨⟨rfl, List.Sublist.refl _, hok⟩, by rw [ho]; exact Nat.le_refl _⟩, fun R h => h⟩ ?_ ?_
  · rw [JR, ho]
    refine Ents.empC 49 (Ents.envH ?_ rfl)
    simp only [envLe, Lx.get, if_true, Nat.reduceEqDiff, if_false]
    exact ⟨leV.nil_msl _ _ _, leV.refl _, leV.refl _, trivial⟩
  rintro ⟨k, bX, cX⟩ ⟨⟨⟨hkb, hsub, ok⟩, hcX⟩, hrun⟩
  dsimp only at hkb hsub ok hcX hrun ⊢
  have hh := heldR k k.a.nx ok.lO
  have hcv := covR k k.a.nx ok.lL
  have hbd := bound k k.a.nx late ok.lO ok.lL ok.ws ok.ls (by omega)
  have htr := trimR k ok.lL
  have hnx1 := ok.nx
  rw [JR]
  dsimp only
  rw [RkC_eq, BO, BL, BG] at *
  rcases heldI_cases k.ws k.a.nx with hn | ⟨j, hj, hjl, hjs⟩
  · rw [hn] at hh
    repeat' (first | (simp (disch := first | omega | (simp only [List.length_cons, List.length_nil]; first | done | omega)) only [go_sem]) | (refine allI (fun b => ?_)) | (refine allT (fun τ => ?_)) | (refine brP (fun h => ?_) (fun h => ?_) <;> (try simp only [zgx, zbx] at h)) | (apply And.intro; focus (first | omega | (simp; done) | (simp +contextual; done) | (intros; and_intros <;> first | assumption | omega) | (intros; simp_all; done) | (intro hgd; refine ⟨hgd, ?_⟩; simp [hgd]; done) | (intro hgd; simp only [zgx] at hgd ⊢; omega))) | fail)
    first | refine actsQ_U (hh) (pick_perm rfl (pick_perm rfl (List.Perm.refl _))) ?_ | refine actsQ_T (hh) (pick_perm rfl (pick_perm rfl (List.Perm.refl _))) ?_ | refine actsQ_N (hh) (pick_perm rfl (pick_perm rfl (List.Perm.refl _))) ?_ | refine actsQ_of (hh) (pick_perm rfl (pick_perm rfl (List.Perm.refl _))) ?_
    rintro _ _ ⟨rfl, rfl⟩
    have hnh : ∀ e ∈ k.ws.map Prod.fst, e.se ≠ k.a.nx := heldE_no (by rw [heldE_fst, hn]; omega)
    have hin := covI_in (x := k.a.nx) ok.ls
    by_cases hcE : 0 < covE k.a.ls k.a.nx
    · have dE : decide (0 < covE k.a.ls k.a.nx) = true := decide_eq_true hcE
      obtain ⟨q, q1, q2, q3⟩ := covE_in hcE
      have hql := ok.ls q q1
      repeat' (first | (simp (disch := first | omega | (simp only [List.length_cons, List.length_nil]; first | done | omega)) only [go_sem, gB_no, pick_nof]) | (refine allI (fun b => ?_)) | (refine allT (fun τ => ?_)) | (refine brP (fun h => ?_) (fun h => ?_) <;> (try simp only [zgx, zbx] at h)) | (apply And.intro; focus (first | omega | (simp; done) | (simp +contextual; done) | (intros; and_intros <;> first | assumption | omega) | (intros; simp_all; done) | (intro hgd; refine ⟨hgd, ?_⟩; simp [hgd]; done) | (intro hgd; simp only [zgx] at hgd ⊢; omega))) | fail)
      refine callG_LU (fun _ => ?_) (fun h => by cases h)
      first | refine actsQ_U (hcv) (pick_perm rfl (pick_perm rfl (List.Perm.refl _))) ?_ | refine actsQ_T (hcv) (pick_perm rfl (pick_perm rfl (List.Perm.refl _))) ?_ | refine actsQ_N (hcv) (pick_perm rfl (pick_perm rfl (List.Perm.refl _))) ?_ | refine actsQ_of (hcv) (pick_perm rfl (pick_perm rfl (List.Perm.refl _))) ?_
      rintro _ _ ⟨rfl, rfl⟩
      repeat' (first | (simp (disch := first | omega | (simp only [List.length_cons, List.length_nil]; first | done | omega)) only [go_sem, dE]) | (refine allI (fun b => ?_)) | (refine allT (fun τ => ?_)) | (refine brP (fun h => ?_) (fun h => ?_) <;> (try simp only [zgx, zbx] at h)) | (apply And.intro; focus (first | omega | (simp; done) | (simp +contextual; done) | (intros; and_intros <;> first | assumption | omega) | (intros; simp_all; done) | (intro hgd; refine ⟨hgd, ?_⟩; simp [hgd]; done) | (intro hgd; simp only [zgx] at hgd ⊢; omega))) | fail)
      first | refine actsQ_U (hcv) (pick_perm rfl (pick_perm rfl (List.Perm.refl _))) ?_ | refine actsQ_T (hcv) (pick_perm rfl (pick_perm rfl (List.Perm.refl _))) ?_ | refine actsQ_N (hcv) (pick_perm rfl (pick_perm rfl (List.Perm.refl _))) ?_ | refine actsQ_of (hcv) (pick_perm rfl (pick_perm rfl (List.Perm.refl _))) ?_
      rintro _ _ ⟨rfl, rfl⟩
      repeat' (first | (simp (disch := first | omega | (simp only [List.length_cons, List.length_nil]; first | done | omega)) only [go_sem]) | (refine allI (fun b => ?_)) | (refine allT (fun τ => ?_)) | (refine brP (fun h => ?_) (fun h => ?_) <;> (try simp only [zgx, zbx] at h)) | (apply And.intro; focus (first | omega | (simp; done) | (simp +contextual; done) | (intros; and_intros <;> first | assumption | omega) | (intros; simp_all; done) | (intro hgd; refine ⟨hgd, ?_⟩; simp [hgd]; done) | (intro hgd; simp only [zgx] at hgd ⊢; omega))) | fail)
      have hle := len_ew k.ws
      have hlS := length_Sp (k.ws.flatMap EwC) ((k.cO - k.ws.length) * 5)
      have hlO := ok.lO
      have hB := befEN_ge (k.ws.map Prod.fst) k.a.nx (by omega) (k.ws.map Prod.fst).length
      change _ ≤ befE _ _ at hB
      rw [befE_fst] at hB
      refine loopI (ι := Nat) (fun n => n ≤ k.ws.length) (fun n => [(9, .int .i64 n), (8, .int .i64 (min (covE k.a.ls k.a.nx) (befN k.ws k.a.nx n))), (6, .int .i64 k.a.nx), (5, .msl 49 5 bX 0 k.out.length cX), (0, .ptr 50 k.b 0), (1, .int .i64 late)]) (fun _ => _) (fun n => k.ws.length - n) 0 (by omega) (Ents.envH (by simp [go_sem, befN]; omega) rfl) ?_
      intro n hn2
      simp (disch := first | omega | (simp only [List.length_cons, List.length_nil]; first | done | omega)) only [go_sem]
      refine brP (fun hb => ?_) (fun hb => ?_)
      · have hlt2 : n < k.ws.length := by simpa using hb
        have g1 := gd_sp (f := EwC) (w := 5) (fun _ => rfl) (j := 1) (by omega) ew0 k.ws n ((k.cO - k.ws.length) * 5) hlt2
        have hokw := ok.ws _ (getD_memA ew0 hlt2)
        have hsu : befN k.ws k.a.nx (n + 1) = if k.a.nx < (k.ws.getD n ew0).1.se then min (befN k.ws k.a.nx n) ((k.ws.getD n ew0).1.se - 1) else befN k.ws k.a.nx n := rfl
        rw [EwC_eq] at g1
        simp only [List.getD_cons_zero, List.getD_cons_succ] at g1
        generalize (k.ws.getD n ew0).1.se = se at *
        repeat' (first | (simp (disch := first | omega | (simp only [List.length_cons, List.length_nil]; first | done | omega)) only [go_sem, g1]) | (refine allI (fun b => ?_)) | (refine allT (fun τ => ?_)) | (refine brP (fun h => ?_) (fun h => ?_) <;> (try simp only [zgx, zbx] at h)) | (apply And.intro; focus (first | omega | (simp; done) | (simp +contextual; done) | (intros; and_intros <;> first | assumption | omega) | (intros; simp_all; done) | (intro hgd; refine ⟨hgd, ?_⟩; simp [hgd]; done) | (intro hgd; simp only [zgx] at hgd ⊢; omega))) | fail)
        · rw [if_pos h] at hsu
          exact ⟨⟨n + 1, by omega⟩, by dsimp only; omega, Ents.sub (by simp [go_sem, hsu, min_if, Int.min_assoc]) ⟨_, List.Sublist.refl _, List.Perm.refl _⟩⟩
        · rw [if_neg (by omega)] at hsu
          exact ⟨⟨n + 1, by omega⟩, by dsimp only; omega, Ents.sub (by simp [go_sem, hsu, min_if]) ⟨_, List.Sublist.refl _, List.Perm.refl _⟩⟩
      · have hne : n = k.ws.length := by simp only [decide_eq_false_iff_not] at hb; omega
        subst hne
        rw [show befN k.ws k.a.nx k.ws.length = befI k.ws k.a.nx from rfl]
        repeat' (first | (simp (disch := first | omega | (simp only [List.length_cons, List.length_nil]; first | done | omega)) only [go_sem]) | (refine allI (fun b => ?_)) | (refine allT (fun τ => ?_)) | (refine brP (fun h => ?_) (fun h => ?_) <;> (try simp only [zgx, zbx] at h)) | (apply And.intro; focus (first | omega | (simp; done) | (simp +contextual; done) | (intros; and_intros <;> first | assumption | omega) | (intros; simp_all; done) | (intro hgd; refine ⟨hgd, ?_⟩; simp [hgd]; done) | (intro hgd; simp only [zgx] at hgd ⊢; omega))) | fail)
        refine ⟨⟨({ k with a := { k.a with nx := min (covE k.a.ls k.a.nx) (befI k.ws k.a.nx) + 1 } }, bX, cX), ⟨⟨⟨hkb, hsub, ⟨ok.cO, ok.cL, ok.cG, ok.lO, ok.lL, ok.ws, ok.ls, ok.gs, ?_, ?_, ?_⟩⟩, hcX⟩, fun R h => hrun R (adv' (s := k.st) (q := q) ok.ls hnh q1 q2 ?_)⟩⟩, ?_, Ents.sub (by simp [go_sem]) ⟨_, List.Sublist.refl _, ?_⟩⟩
        · dsimp only; omega
        · have := ok.lG; dsimp only; omega
        · have := ok.out; dsimp only; omega
        · rw [q3] at h
          have e : befE k.st.1.op k.st.1.nx = befI k.ws k.a.nx := befE_fst _ _
          rw [e]
          exact h
        · dsimp only; omega
        · dsimp only [JR, BO, BL, BG]
          rw [RkC_eq]
          exact pick_perm rfl (pick_perm rfl (pick_perm rfl (pick_perm rfl (pick_perm rfl (List.Perm.refl _)))))
    · have dE : decide (0 < covE k.a.ls k.a.nx) = false := decide_eq_false hcE
      repeat' (first | (simp (disch := first | omega | (simp only [List.length_cons, List.length_nil]; first | done | omega)) only [go_sem, gB_no, pick_nof]) | (refine allI (fun b => ?_)) | (refine allT (fun τ => ?_)) | (refine brP (fun h => ?_) (fun h => ?_) <;> (try simp only [zgx, zbx] at h)) | (apply And.intro; focus (first | omega | (simp; done) | (simp +contextual; done) | (intros; and_intros <;> first | assumption | omega) | (intros; simp_all; done) | (intro hgd; refine ⟨hgd, ?_⟩; simp [hgd]; done) | (intro hgd; simp only [zgx] at hgd ⊢; omega))) | fail)
      refine callG_LU (fun _ => ?_) (fun h => by cases h)
      first | refine actsQ_U (hcv) (pick_perm rfl (pick_perm rfl (List.Perm.refl _))) ?_ | refine actsQ_T (hcv) (pick_perm rfl (pick_perm rfl (List.Perm.refl _))) ?_ | refine actsQ_N (hcv) (pick_perm rfl (pick_perm rfl (List.Perm.refl _))) ?_ | refine actsQ_of (hcv) (pick_perm rfl (pick_perm rfl (List.Perm.refl _))) ?_
      rintro _ _ ⟨rfl, rfl⟩
      by_cases he : late < k.a.nx
      · have d2 : decide (k.a.nx ≤ late) = false := decide_eq_false (by omega)
        have hstop : stepS late k.st = none := by
          unfold stepS Wk.st
          dsimp only
          by_cases h1 : 1073741824 < k.a.nx
          · rw [if_pos h1]
          rw [if_neg h1, if_neg (heldE_neg hnh), if_neg (by rw [covE_no ok.ls hcE]; simp), if_pos he]
        repeat' (first | (simp (disch := first | omega | (simp only [List.length_cons, List.length_nil]; first | done | omega)) only [go_sem, dE, d2]) | (refine allI (fun b => ?_)) | (refine allT (fun τ => ?_)) | (refine brP (fun h => ?_) (fun h => ?_) <;> (try simp only [zgx, zbx] at h)) | (apply And.intro; focus (first | omega | (simp; done) | (simp +contextual; done) | (intros; and_intros <;> first | assumption | omega) | (intros; simp_all; done) | (intro hgd; refine ⟨hgd, ?_⟩; simp [hgd]; done) | (intro hgd; simp only [zgx] at hgd ⊢; omega))) | fail)
        first | refine actsQ_U (htr) (pick_perm rfl (pick_perm rfl (List.Perm.refl _))) ?_ | refine actsQ_T (htr) (pick_perm rfl (pick_perm rfl (List.Perm.refl _))) ?_ | refine actsQ_N (htr) (pick_perm rfl (pick_perm rfl (List.Perm.refl _))) ?_ | refine actsQ_of (htr) (pick_perm rfl (pick_perm rfl (List.Perm.refl _))) ?_
        rintro _ _ ⟨bL, cL, hcL, rfl⟩
        repeat' (first | (simp (disch := first | omega | (simp only [List.length_cons, List.length_nil]; first | done | omega)) only [go_sem]) | (refine allI (fun b => ?_)) | (refine allT (fun τ => ?_)) | (refine brP (fun h => ?_) (fun h => ?_) <;> (try simp only [zgx, zbx] at h)) | (apply And.intro; focus (first | omega | (simp; done) | (simp +contextual; done) | (intros; and_intros <;> first | assumption | omega) | (intros; simp_all; done) | (intro hgd; refine ⟨hgd, ?_⟩; simp [hgd]; done) | (intro hgd; simp only [zgx] at hgd ⊢; omega))) | fail)
        exact stopR late k0 k bX cX bL cL ⟨hkb, hsub, ok⟩ hcX hrun hstop ho hcL
      · have d2 : decide (k.a.nx ≤ late) = true := decide_eq_true (by omega)
        have hstep : stepS late k.st = some ({ k.st.1 with gs := gapS k.a.gs k.a.nx (losI k.a.ls k.a.nx (min late (befI k.ws k.a.nx))), nx := losI k.a.ls k.a.nx (min late (befI k.ws k.a.nx)) + 1 }, k.out) := by
          unfold stepS Wk.st
          dsimp only
          rw [if_neg (by omega), if_neg (heldE_neg hnh), if_neg (by rw [covE_no ok.ls hcE]; simp), if_neg he, befE_fst]
        have hu := stepS_up hstep
        dsimp only [Wk.st] at hu
        have hgp := gapR k k.a.nx (losI k.a.ls k.a.nx (min late (befI k.ws k.a.nx))) (by have := ok.lG; omega) ok.cG ok.gs (by omega)
        have hgl := gapS_len k.a.gs k.a.nx (losI k.a.ls k.a.nx (min late (befI k.ws k.a.nx)))
        have hgo := gapS_ok (f := k.a.nx) (l := losI k.a.ls k.a.nx (min late (befI k.ws k.a.nx))) ok.gs (by omega) (by omega)
        rw [RkC_eq k, BG] at hgp
        repeat' (first | (simp (disch := first | omega | (simp only [List.length_cons, List.length_nil]; first | done | omega)) only [go_sem, dE, d2]) | (refine allI (fun b => ?_)) | (refine allT (fun τ => ?_)) | (refine brP (fun h => ?_) (fun h => ?_) <;> (try simp only [zgx, zbx] at h)) | (apply And.intro; focus (first | omega | (simp; done) | (simp +contextual; done) | (intros; and_intros <;> first | assumption | omega) | (intros; simp_all; done) | (intro hgd; refine ⟨hgd, ?_⟩; simp [hgd]; done) | (intro hgd; simp only [zgx] at hgd ⊢; omega))) | fail)
        first | refine actsQ_U (hbd) (pick_perm rfl (pick_perm rfl (pick_perm rfl (List.Perm.refl _)))) ?_ | refine actsQ_T (hbd) (pick_perm rfl (pick_perm rfl (pick_perm rfl (List.Perm.refl _)))) ?_ | refine actsQ_N (hbd) (pick_perm rfl (pick_perm rfl (pick_perm rfl (List.Perm.refl _)))) ?_ | refine actsQ_of (hbd) (pick_perm rfl (pick_perm rfl (pick_perm rfl (List.Perm.refl _)))) ?_
        rintro _ _ ⟨rfl, rfl⟩
        generalize losI k.a.ls k.a.nx (min late (befI k.ws k.a.nx)) = la at *
        repeat' (first | (simp (disch := first | omega | (simp only [List.length_cons, List.length_nil]; first | done | omega)) only [go_sem]) | (refine allI (fun b => ?_)) | (refine allT (fun τ => ?_)) | (refine brP (fun h => ?_) (fun h => ?_) <;> (try simp only [zgx, zbx] at h)) | (apply And.intro; focus (first | omega | (simp; done) | (simp +contextual; done) | (intros; and_intros <;> first | assumption | omega) | (intros; simp_all; done) | (intro hgd; refine ⟨hgd, ?_⟩; simp [hgd]; done) | (intro hgd; simp only [zgx] at hgd ⊢; omega))) | fail)
        first | refine actsQ_U (hgp) (pick_perm rfl (pick_perm rfl (List.Perm.refl _))) ?_ | refine actsQ_T (hgp) (pick_perm rfl (pick_perm rfl (List.Perm.refl _))) ?_ | refine actsQ_N (hgp) (pick_perm rfl (pick_perm rfl (List.Perm.refl _))) ?_ | refine actsQ_of (hgp) (pick_perm rfl (pick_perm rfl (List.Perm.refl _))) ?_
        rintro _ _ ⟨bG, cG, hcG, rfl⟩
        rw [RkC_eq, BG]
        simp only [Wk.withG]
        repeat' (first | (simp (disch := first | omega | (simp only [List.length_cons, List.length_nil]; first | done | omega)) only [go_sem]) | (refine allI (fun b => ?_)) | (refine allT (fun τ => ?_)) | (refine brP (fun h => ?_) (fun h => ?_) <;> (try simp only [zgx, zbx] at h)) | (apply And.intro; focus (first | omega | (simp; done) | (simp +contextual; done) | (intros; and_intros <;> first | assumption | omega) | (intros; simp_all; done) | (intro hgd; refine ⟨hgd, ?_⟩; simp [hgd]; done) | (intro hgd; simp only [zgx] at hgd ⊢; omega))) | fail)
        refine ⟨⟨({ k with a := { k.a with nx := la + 1, gs := gapS k.a.gs k.a.nx la }, bG := bG, cG := cG }, bX, cX), ⟨⟨⟨hkb, hsub, ⟨ok.cO, ok.cL, hcG, ok.lO, ok.lL, ok.ws, ok.ls, hgo, ?_, ?_, ?_⟩⟩, hcX⟩, fun R h => hrun R (.step hstep h)⟩⟩, ?_, Ents.sub (by simp [go_sem]) ⟨_, List.Sublist.refl _, ?_⟩⟩
        · dsimp only; omega
        · have := ok.lG; dsimp only; omega
        · have := ok.out; dsimp only; omega
        · dsimp only; omega
        · dsimp only [JR, BO, BL, BG]
          rw [RkC_eq]
          exact pick_perm rfl (pick_perm rfl (pick_perm rfl (pick_perm rfl (pick_perm rfl (List.Perm.refl _)))))
  · rw [hj] at hh
    have g4 := gd_sp (f := EwC) (w := 5) (fun _ => rfl) (j := 4) (by omega) ew0 k.ws j ((k.cO - k.ws.length) * 5) hjl
    rw [EwC_eq] at g4
    simp only [List.getD_cons_zero, List.getD_cons_succ] at g4
    have dj : decide (0 ≤ (j : Int)) = true := by simp
    have dj2 : decide ((j : Int) < 0) = false := by simp
    repeat' (first | (simp (disch := first | omega | (simp only [List.length_cons, List.length_nil]; first | done | omega)) only [go_sem]) | (refine allI (fun b => ?_)) | (refine allT (fun τ => ?_)) | (refine brP (fun h => ?_) (fun h => ?_) <;> (try simp only [zgx, zbx] at h)) | (apply And.intro; focus (first | omega | (simp; done) | (simp +contextual; done) | (intros; and_intros <;> first | assumption | omega) | (intros; simp_all; done) | (intro hgd; refine ⟨hgd, ?_⟩; simp [hgd]; done) | (intro hgd; simp only [zgx] at hgd ⊢; omega))) | fail)
    first | refine actsQ_U (hh) (pick_perm rfl (pick_perm rfl (List.Perm.refl _))) ?_ | refine actsQ_T (hh) (pick_perm rfl (pick_perm rfl (List.Perm.refl _))) ?_ | refine actsQ_N (hh) (pick_perm rfl (pick_perm rfl (List.Perm.refl _))) ?_ | refine actsQ_of (hh) (pick_perm rfl (pick_perm rfl (List.Perm.refl _))) ?_
    rintro _ _ ⟨rfl, rfl⟩
    by_cases hc : (k.ws.getD j ew0).1.co = false ∧ late < k.a.nx
    · have d2 : decide (k.a.nx ≤ late) = false := decide_eq_false (by omega)
      rw [hc.1] at g4
      have hlo := len_ew k.ws
      have hso := length_Sp (k.ws.flatMap EwC) ((k.cO - k.ws.length) * 5)
      have hcO := ok.cO
      have hstop : stepS late k.st = none := by
        unfold stepS Wk.st
        dsimp only
        by_cases h1 : 1073741824 < k.a.nx
        · rw [if_pos h1]
        rw [if_neg h1, heldE_fst, hj, if_pos (by omega), Int.toNat_natCast, getD_fst, if_pos hc]
      repeat' (first | (simp (disch := first | omega | (simp only [List.length_cons, List.length_nil]; first | done | omega)) only [go_sem, dj, dj2, d2, g4]) | (refine allI (fun b => ?_)) | (refine allT (fun τ => ?_)) | (refine brP (fun h => ?_) (fun h => ?_) <;> (try simp only [zgx, zbx] at h)) | (apply And.intro; focus (first | omega | (simp; done) | (simp +contextual; done) | (intros; and_intros <;> first | assumption | omega) | (intros; simp_all; done) | (intro hgd; refine ⟨hgd, ?_⟩; simp [hgd]; done) | (intro hgd; simp only [zgx] at hgd ⊢; omega))) | fail)
      refine callG_U (r := .int .i64 0) (fun h => by cases h) ?_
      repeat' (first | (simp (disch := first | omega | (simp only [List.length_cons, List.length_nil]; first | done | omega)) only [go_sem, dj2, d2]) | (refine allI (fun b => ?_)) | (refine allT (fun τ => ?_)) | (refine brP (fun h => ?_) (fun h => ?_) <;> (try simp only [zgx, zbx] at h)) | (apply And.intro; focus (first | omega | (simp; done) | (simp +contextual; done) | (intros; and_intros <;> first | assumption | omega) | (intros; simp_all; done) | (intro hgd; refine ⟨hgd, ?_⟩; simp [hgd]; done) | (intro hgd; simp only [zgx] at hgd ⊢; omega))) | fail)
      first | refine actsQ_U (htr) (pick_perm rfl (pick_perm rfl (List.Perm.refl _))) ?_ | refine actsQ_T (htr) (pick_perm rfl (pick_perm rfl (List.Perm.refl _))) ?_ | refine actsQ_N (htr) (pick_perm rfl (pick_perm rfl (List.Perm.refl _))) ?_ | refine actsQ_of (htr) (pick_perm rfl (pick_perm rfl (List.Perm.refl _))) ?_
      rintro _ _ ⟨bL, cL, hcL, rfl⟩
      repeat' (first | (simp (disch := first | omega | (simp only [List.length_cons, List.length_nil]; first | done | omega)) only [go_sem]) | (refine allI (fun b => ?_)) | (refine allT (fun τ => ?_)) | (refine brP (fun h => ?_) (fun h => ?_) <;> (try simp only [zgx, zbx] at h)) | (apply And.intro; focus (first | omega | (simp; done) | (simp +contextual; done) | (intros; and_intros <;> first | assumption | omega) | (intros; simp_all; done) | (intro hgd; refine ⟨hgd, ?_⟩; simp [hgd]; done) | (intro hgd; simp only [zgx] at hgd ⊢; omega))) | fail)
      exact stopR late k0 k bX cX bL cL ⟨hkb, hsub, ok⟩ hcX hrun hstop ho hcL
    · have hmx := hsub.mem (getD_memA (l := k.ws) (i := j) ew0 hjl)
      obtain ⟨hE1, hE2⟩ := hE _ hmx
      have e2 := ew_at k.ws ((k.cO - k.ws.length) * 5) hjl
      have hlo := len_ew k.ws
      have hso := length_Sp (k.ws.flatMap EwC) ((k.cO - k.ws.length) * 5)
      have hlx := len_ev k.out
      have hsx := length_Sp (k.out.flatMap EvC) ((cX - k.out.length) * 5)
      have hcO := ok.cO
      have hlO := ok.lO
      have hout := ok.out
      have hnx2 := ok.ws _ (getD_memA (l := k.ws) (i := j) ew0 hjl)
      have hstep : stepS late k.st = some ({ k.st.1 with op := (k.ws.map Prod.fst).eraseIdx j, nx := k.a.nx + 1 }, k.out ++ [(k.ws.getD j ew0).1]) := by
        unfold stepS Wk.st
        dsimp only
        rw [heldE_fst, hj, if_neg (by omega), if_pos (by omega), Int.toNat_natCast, getD_fst, if_neg hc]
      have htk : List.take (j * 5) (Sp (k.ws.flatMap EwC) ((k.cO - k.ws.length) * 5)) = (k.ws.take j).flatMap EwC := by
        rw [Sp, List.take_append_of_le_length (by omega), take_fm (f := EwC) (w := 5) (fun _ => rfl)]
      have hdr : List.take ((k.ws.length - (j + 1)) * 5) (List.drop (if k.cO = j + 1 then 0 else (j + 1) * 5) (Sp (k.ws.flatMap EwC) ((k.cO - k.ws.length) * 5))) = (k.ws.drop (j + 1)).flatMap EwC := by
        rw [take_drop_Sp hlo (by omega) hcO, drop_fm (f := EwC) (w := 5) (fun _ => rfl)]
      have hltk : ((k.ws.take j).flatMap EwC).length = j * 5 := by rw [len_ew, List.length_take]; omega
      have hif : (if k.cO = j + 1 then 0 else (j + 1) * 5) + (k.ws.length - (j + 1)) * 5 ≤ (Sp (k.ws.flatMap EwC) ((k.cO - k.ws.length) * 5)).length := by
        split <;> omega
      have hle : (k.ws.eraseIdx j).length = j + (k.ws.length - (j + 1)) := by rw [List.length_eraseIdx_of_lt hjl]; omega
      have her : (k.ws.eraseIdx j).flatMap EwC = (k.ws.take j).flatMap EwC ++ (k.ws.drop (j + 1)).flatMap EwC := by rw [List.eraseIdx_eq_take_drop_succ, List.flatMap_append]
      have hcp := LCalls.args (args' := [.agg (EwC (k.ws.getD j ew0))]) (cpP (k.ws.getD j ew0).1 hE1 hE2) ⟨leV.agg (show leVs (EwC (k.ws.getD j ew0)) (EvC (k.ws.getD j ew0).1) from ⟨leV.refl _, leV.refl _, leV.refl _, leV.osl_sl _ _ _ _ _, leV.refl _, trivial⟩), trivial⟩
      change LCalls _ _ _ _ _ (fun r' H => r' = .agg (EvC (k.ws.getD j ew0).1) ∧ H = []) at hcp
      have d3 : ((k.ws.getD j ew0).1.co || decide (k.a.nx ≤ late)) = true := by
        cases hb : (k.ws.getD j ew0).1.co
        · simp only [hb, true_and] at hc
          rw [Bool.false_or]; exact decide_eq_true (by omega)
        · rfl
      have zj : ((j : Int) + 1).toNat = j + 1 := by omega
      generalize k.ws.getD j ew0 = q at *
      rw [EwC_eq] at e2 hcp
      rw [EvC_eq] at hcp
      repeat' (first | (simp (disch := first | omega | (simp only [List.length_cons, List.length_nil]; first | done | omega)) only [go_sem, dj, d3, g4, e2, zEv, zj, Nat.sub_zero, ite_self, List.drop_zero, Nat.zero_add, htk, hdr]) | (refine allI (fun b => ?_)) | (refine allT (fun τ => ?_)) | (refine brP (fun h => ?_) (fun h => ?_) <;> (try simp only [zgx, zbx] at h)) | refine call_U (hcp) ?_ | refine callG_U (fun _ => hcp) ?_ | refine call_T (hcp) ?_ | refine callG_T (fun _ => hcp) ?_ | refine call_N (hcp) ?_ | refine call_of (hcp) ?_ | refine callG_of (fun _ => hcp) ?_ | (apply And.intro; focus (first | omega | (simp; done) | (simp +contextual; done) | (intros; and_intros <;> first | assumption | omega) | (intros; simp_all; done) | (intro hgd; refine ⟨hgd, ?_⟩; simp [hgd]; done) | (intro hgd; simp only [zgx] at hgd ⊢; omega))) | fail)
      have e1 : ∀ X : List LV, List.take (j * 5) ((k.ws.take j).flatMap EwC ++ X) = (k.ws.take j).flatMap EwC := fun X => by rw [← hltk, List.take_left]
      refine .inl ⟨by omega, by omega, by simp only [roomy]; omega, fun b6 c6 h6 => ⟨by omega, by omega, by omega, by simp only [roomy]; omega, fun b7 c7 h7 => ⟨hif, rfl, .inl ⟨by simp only [List.length_append, List.length_replicate]; omega, by simp only [List.length_append, List.length_replicate]; omega, by simp only [roomy]; omega, fun b8 c8 h8 => ?_⟩⟩⟩⟩
      rw [e1, ← her, ← hle, take_Sp _ hlx]
      rw [← hle] at h8
      have hlg := ok.lG
      refine ⟨⟨({ k with a := { k.a with nx := k.a.nx + 1 }, ws := k.ws.eraseIdx j, bO := b8, cO := c8, out := k.out ++ [q.1] }, b6, c6), ⟨⟨⟨hkb, (List.eraseIdx_sublist _ _).trans hsub, ⟨by dsimp only; omega, ok.cL, ok.cG, by dsimp only; omega, ok.lL, fun x hx => ok.ws x ((List.eraseIdx_sublist _ _).mem hx), ok.ls, ok.gs, ?_, ?_, ?_⟩⟩, by dsimp only; simp; omega⟩, fun R h => hrun R (.step hstep ?_)⟩⟩, ?_, ?_⟩
      · dsimp only; omega
      · dsimp only; omega
      · dsimp only; rw [List.length_append, List.length_singleton]; omega
      · rw [Wk.st, map_eraseIdx'] at h
        exact h
      · dsimp only; omega
      · dsimp only [JR, BO, BL, BG]
        rw [RkC_eq]
        dsimp only
        rw [List.length_append, List.length_singleton, List.flatMap_append, List.flatMap_singleton, EvC_eq]
        exact Ents.gen (H2 := [(57, .blk b8 (Sp ((k.ws.eraseIdx j).flatMap EwC) ((c8 - (k.ws.eraseIdx j).length) * 5))), (49, .blk b6 (Sp (k.out.flatMap EvC ++ [.int .i64 q.1.bo, .int .i64 q.1.se, .int .i64 q.1.ti, .sl 4 q.1.rs.length (q.1.rs.flatMap RcC), .bool q.1.co]) ((c6 - (k.out.length + 1)) * 5))), (50, .blk k.b [.int .i64 k.a.bo, .int .i64 (k.a.nx + 1), .int .i64 k.a.st, .msl 57 5 b8 0 (k.ws.eraseIdx j).length c8, .msl 62 5 k.bL 0 k.a.ls.length k.cL, .msl 63 2 k.bG 0 k.a.gs.length k.cG, .int .i64 k.a.la]), (62, .blk k.bL (Sp (k.a.ls.flatMap LsC) ((k.cL - k.a.ls.length) * 5))), (63, .blk k.bG (Sp (k.a.gs.flatMap GpC) ((k.cG - k.a.gs.length) * 2)))]) (H3 := [(57, .blk b8 (Sp ((k.ws.eraseIdx j).flatMap EwC) ((c8 - (k.ws.eraseIdx j).length) * 5))), (49, .blk b6 (Sp (k.out.flatMap EvC ++ [.int .i64 q.1.bo, .int .i64 q.1.se, .int .i64 q.1.ti, .sl 4 q.1.rs.length (q.1.rs.flatMap RcC), .bool q.1.co]) ((c6 - (k.out.length + 1)) * 5))), (50, .blk k.b [.int .i64 k.a.bo, .int .i64 (k.a.nx + 1), .int .i64 k.a.st, .msl 60 5 b8 0 (k.ws.eraseIdx j).length c8, .msl 62 5 k.bL 0 k.a.ls.length k.cL, .msl 63 2 k.bG 0 k.a.gs.length k.cG, .int .i64 k.a.la]), (62, .blk k.bL (Sp (k.a.ls.flatMap LsC) ((k.cL - k.a.ls.length) * 5))), (63, .blk k.bG (Sp (k.a.gs.flatMap GpC) ((k.cG - k.a.gs.length) * 2)))]) (H4 := [(49, .blk b6 (Sp (k.out.flatMap EvC ++ [.int .i64 q.1.bo, .int .i64 q.1.se, .int .i64 q.1.ti, .sl 4 q.1.rs.length (q.1.rs.flatMap RcC), .bool q.1.co]) ((c6 - (k.out.length + 1)) * 5))), (50, .blk k.b [.int .i64 k.a.bo, .int .i64 (k.a.nx + 1), .int .i64 k.a.st, .msl 60 5 b8 0 (k.ws.eraseIdx j).length c8, .msl 62 5 k.bL 0 k.a.ls.length k.cL, .msl 63 2 k.bG 0 k.a.gs.length k.cG, .int .i64 k.a.la]), (57, .blk b8 (Sp ((k.ws.eraseIdx j).flatMap EwC) ((c8 - (k.ws.eraseIdx j).length) * 5))), (62, .blk k.bL (Sp (k.a.ls.flatMap LsC) ((k.cL - k.a.ls.length) * 5))), (63, .blk k.bG (Sp (k.a.gs.flatMap GpC) ((k.cG - k.a.gs.length) * 2)))]) (by simp [go_sem]) (.cons_cons _ (.cons_cons _ (.cons_cons _ (.cons _ (.cons_cons _ (.cons_cons _ (List.nil_sublist _))))))) ⟨⟨rfl, leVs.refl _⟩, ⟨rfl, leVs.refl _⟩, ⟨rfl, leV.refl _, leV.refl _, leV.refl _, leV.msl_name _ 60 _ _ _ _ _, leV.refl _, leV.refl _, leV.refl _, trivial⟩, ⟨rfl, leVs.refl _⟩, ⟨rfl, leVs.refl _⟩, trivial⟩ (pick_perm rfl (pick_perm rfl (pick_perm rfl (pick_perm rfl (pick_perm rfl (List.Perm.refl _)))))) rfl
end Go.Proofs.YtfheeghkajihoaaDoor

/- Layer 22: Feed, Flush, New (the reference). -/
namespace Go.Proofs.YtfheeghkajihoaaDoor
open Go Go.Lx
set_option linter.unusedSimpArgs false
set_option linter.unusedVariables false
set_option maxRecDepth 100000
set_option maxHeartbeats 4000000

theorem len_step {e : Int} {s s' : St} (h : stepS e s = some s') : (s'.2.length : Int) + s.1.nx ≤ s.2.length + s'.1.nx := by
  have hu := stepS_up h
  rcases stepS_cases h with ⟨j, _, _, rfl⟩ | ⟨_, z, _, _, h4⟩
  · simp
    omega
  · rcases h4 with rfl | rfl <;> dsimp only at hu ⊢ <;> omega
theorem len_runs {e : Int} {s r : St} (h : Runs e s r) : (r.2.length : Int) + s.1.nx ≤ s.2.length + r.1.nx := by
  induction h with
  | stop _ => omega
  | step h _ ih => have := len_step h; omega
theorem len_settle (e : Int) (s : St) : ((settleS e s).2.length : Int) + s.1.nx ≤ s.2.length + (settleS e s).1.nx := by
  unfold settleS
  exact len_runs (r := runS e (1073741825 - s.1.nx).toNat s) (runs_ex e _ s (Int.self_le_toNat _))
theorem rgiveT (k : Wk) (m : Nat) (late : Int) (hm : m ≤ 1000000000) (hlt : -100 ≤ late ∧ late ≤ 1073741824) (hc : caps k) (ok : okA k.st.1 m) (ho : k.out = []) : LCalls Tryd.prog gl 38 [.ptr 50 k.b 0, .int .i64 late] (HRT k) fun x H => ∃ k' out, (k'.b = k.b ∧ caps k' ∧ k'.out = []) ∧ (k'.st.1, out) = settleS late (k.st.1, []) ∧ x = .sl 5 out.length (out.flatMap EvC) ∧ H = HRT k' := by
  have hW : okW k := okW_of hm hc ok (by rw [ho]; have := ok.nx; change 1 ≤ k.a.nx ∧ _ at this; simp only [List.length_nil]; omega)
  refine LCalls.useS (rgive k late hlt hW ho fun x hx => ?_) (H2 := tkw k.ws) (List.Perm.refl _) ?_
  · have h := ok.ev _ (List.mem_map_of_mem (f := Prod.fst) hx)
    exact ⟨by have := h.2.1; omega, h.2.2⟩
  rintro _ _ ⟨k', out, ⟨hb, hsu, hc'⟩, hst, rfl, rfl⟩
  exact ⟨HRT { k' with out := [] }, (hsu.map _).append_left _, { k' with out := [] }, out, ⟨hb, ⟨hc'.cO, hc'.cL, hc'.cG⟩, rfl⟩, hst, rfl, rfl⟩
theorem rnew (bo : Int) : Pure Tryd.prog gl 21 [.int .i64 bo] (.agg (AsC (as0 bo))) := by
  refine fn_viewT Tryd.func21 t21 Tryd.ntmps21 (by simp) ?_
  unfold c21 r21
  rw [AsC_eq]
  repeat' (first | (simp (disch := first | omega | (simp only [List.length_cons, List.length_nil]; first | done | omega)) only [go_sem]) | (refine allI (fun b => ?_)) | (refine allT (fun τ => ?_)) | (refine brP (fun h => ?_) (fun h => ?_) <;> (try simp only [zgx, zbx] at h)) | (apply And.intro; focus (first | omega | (simp; done) | (simp +contextual; done) | (intros; and_intros <;> first | assumption | omega) | (intros; simp_all; done) | (intro hgd; refine ⟨hgd, ?_⟩; simp [hgd]; done) | (intro hgd; simp only [zgx] at hgd ⊢; omega))) | fail)
  exact ⟨_, [], leVH.of (leV.agg (show leVs _ [.int .i64 bo, .int .i64 1, .int .i64 0, .sl 5 0 [], .sl 5 0 [], .sl 2 0 [], .int .i64 0] from ⟨leV.refl _, leV.refl _, leV.refl _, leV.nil_sl _ _, leV.nil_sl _ _, leV.nil_sl _ _, leV.refl _, trivial⟩)) ⟨[], List.nil_sublist _, List.Perm.refl _⟩, rfl, rfl⟩
/-- the beginning, by whatever name -/
theorem enterR {w0 : World} {M : Imm} {HF : Heap} {w : World} {H H1 R : Heap} (i : Nat) (a : As) (τs : List Tok) (b bO cO bL cL bG cG : Nat) (hτ : τs.length = a.op.length) (hp : H.Perm ((i, .blk b [.int .i64 a.bo, .int .i64 a.nx, .int .i64 a.st, .msl 60 5 bO 0 a.op.length cO, .msl 62 5 bL 0 a.ls.length cL, .msl 63 2 bG 0 a.gs.length cG, .int .i64 a.la]) :: (60, .blk bO (Sp ((a.op.zip τs).flatMap EwC) ((cO - a.op.length) * 5))) :: (62, .blk bL (Sp (a.ls.flatMap LsC) ((cL - a.ls.length) * 5))) :: (63, .blk bG (Sp (a.gs.flatMap GpC) ((cG - a.gs.length) * 2))) :: (tks τs ++ R))) (h1 : (HRT (wk0 a τs b bO cO bL cL bG cG) ++ R).Perm H1) (hI : Lx.Inv gl w0 M (H ++ HF) w) : Lx.Inv gl w0 M (H1 ++ HF) w := by
  have hlz : (a.op.zip τs).length = a.op.length := by rw [List.length_zip]; omega
  refine Lx.Inv.perm (Lx.Inv.names (hI.perm (hp.append_right HF)) ?_) (h1.append_right HF)
  rw [HRT, HR_eq, show tkw (wk0 a τs b bO cO bL cL bG cG).ws = tks τs from tkw_zip _ _ hτ]
  simp only [RkC_eq, BO, BL, BG, wk0, hlz]
  simp
theorem pubR (k : Wk) (hc : caps k) (n : Nat) (cs : List LV) : leVH gl (.tup [.agg [.int .i64 k.a.bo, .int .i64 k.a.nx, .int .i64 k.a.st, .msl 60 5 k.bO 0 k.ws.length k.cO, .msl 62 5 k.bL 0 k.a.ls.length k.cL, .msl 63 2 k.bG 0 k.a.gs.length k.cG, .int .i64 k.a.la], .sl 5 n cs]) [(60, .blk k.bO (BO k)), (62, .blk k.bL (BL k)), (63, .blk k.bG (BG k))] (.tup [.agg (AsC k.st.1), .sl 5 n cs]) [] := by
  have h1 := len_ew k.ws
  have h2 := len_ls k.a.ls
  have h3 := len_gp k.a.gs
  have c1 := hc.cO
  have c2 := hc.cL
  have c3 := hc.cG
  have s1 : (BO k).length = k.cO * 5 := by rw [BO, length_Sp]; omega
  have s2 : (BL k).length = k.cL * 5 := by rw [BL, length_Sp]; omega
  have s3 : (BG k).length = k.cG * 2 := by rw [BG, length_Sp]; omega
  refine leVH.pub 60 rfl ?_ (leVH.pub 62 rfl ?_ (leVH.pub 63 rfl ?_ (leVH.of ?_ ⟨[], List.nil_sublist _, List.Perm.refl _⟩)))
  all_goals simp [pubV, pubAs, pubA, pubCs, pubC]
  · exact ⟨by omega, c1⟩
  · exact ⟨by omega, c2⟩
  · exact ⟨by omega, c3⟩
  · rw [BO, BL, BG, take_Sp _ h1, take_Sp _ h2, take_Sp _ h3, AsC_eq]
    simp only [Wk.st, List.length_map]
    exact leV.tup (show leVs [_, _] [_, _] from ⟨leV.agg ⟨leV.refl _, leV.refl _, leV.refl _, leV.sl (leVs_ew _), leV.refl _, leV.refl _, leV.refl _, trivial⟩, leV.refl _, trivial⟩)
theorem getH_tk4 (ws : List (Ev × Tok)) (R : Heap) : getH (tkw ws ++ R) 4 = getH R 4 := by
  induction ws with
  | nil => rfl
  | cons x l ih => exact ih
theorem setH_tk4 (ws : List (Ev × Tok)) (e : Ent) (R : Heap) : setH (tkw ws ++ R) 4 e = tkw ws ++ setH R 4 e := by
  induction ws with
  | nil => rfl
  | cons x l ih =>
    show (61, Ent.tok x.2) :: setH (tkw l ++ R) 4 e = (61, Ent.tok x.2) :: (tkw l ++ setH R 4 e)
    rw [ih]
theorem rfeed (a : As) (m : Nat) (ok : okA a m) (hse : Settled (a, [])) (l : List Rc) (hm : m + l.length ≤ 1000000000) (hl : ∀ r ∈ l, r.ps.length ≤ 1000000) : Pure Tryd.prog gl 22 [.agg (AsC a), .sl 4 l.length (l.flatMap RcC)] (.tup [.agg (AsC (feedS a l).1), .sl 5 (feedS a l).2.length ((feedS a l).2.flatMap EvC)]) := by
  refine fn_viewT Tryd.func22 t22 Tryd.ntmps22 (by simp) ?_
  have hcl := copyR a (by have := ok.op; omega) (by have := ok.lL; omega) (by have := ok.lG; have := ok.nx; omega) fun e he => ⟨by have := (ok.ev e he).2.1; omega, (ok.ev e he).2.2⟩
  have hll := len_rc l
  unfold c22 r22
  rw [AsC_eq a] at hcl ⊢
  repeat' (first | (simp (disch := first | omega | (simp only [List.length_cons, List.length_nil]; first | done | omega)) only [go_sem]) | (refine allI (fun b => ?_)) | (refine allT (fun τ => ?_)) | (refine brP (fun h => ?_) (fun h => ?_) <;> (try simp only [zgx, zbx] at h)) | (apply And.intro; focus (first | omega | (simp; done) | (simp +contextual; done) | (intros; and_intros <;> first | assumption | omega) | (intros; simp_all; done) | (intro hgd; refine ⟨hgd, ?_⟩; simp [hgd]; done) | (intro hgd; simp only [zgx] at hgd ⊢; omega))) | fail)
  first | refine newsQ_U (hcl) ?_ | refine newsQ_T (hcl) ?_ | refine newsQ_of (hcl) ?_
  rintro _ _ ⟨τs, bO, cO, bL, cL, bG, cG, hτ, hcp, rfl, rfl⟩
  repeat' (first | (simp (disch := first | omega | (simp only [List.length_cons, List.length_nil]; first | done | omega)) only [go_sem]) | (refine allI (fun b => ?_)) | (refine allT (fun τ => ?_)) | (refine brP (fun h => ?_) (fun h => ?_) <;> (try simp only [zgx, zbx] at h)) | (apply And.intro; focus (first | omega | (simp; done) | (simp +contextual; done) | (intros; and_intros <;> first | assumption | omega) | (intros; simp_all; done) | (intro hgd; refine ⟨hgd, ?_⟩; simp [hgd]; done) | (intro hgd; simp only [zgx] at hgd ⊢; omega))) | fail)
  rename_i b2 b4
  generalize b = bb at *
  generalize hR : ([(4, .blk b4 [.int .i64 0, .int .i64 0, .int .i64 0, .fsl 1 0 [], .fsl 1 0 [], .fsl 1 0 [], .int .i64 0]), (2, .blk b2 [.int .i64 a.bo, .int .i64 a.nx, .int .i64 a.st, .sl 5 a.op.length (a.op.flatMap EvC), .sl 5 a.ls.length (a.ls.flatMap LsC), .sl 2 a.gs.length (a.gs.flatMap GpC), .int .i64 a.la])] : Heap) = R
  refine loopI (ι := Nat × Wk × List Ev × Tok) (fun y => (y.1 ≤ l.length ∧ (y.2.1.b = bb ∧ caps y.2.1 ∧ y.2.1.out = [])) ∧ (y.2.1.st.1, y.2.2.1) = (l.take y.1).foldl feedR (a, []) ∧ okA y.2.1.st.1 (m + y.1) ∧ Settled (y.2.1.st.1, y.2.2.1) ∧ y.2.2.1.length < y.2.1.a.nx) (fun y => [(8, .int .i64 y.1), (7, .osl 27 y.2.2.2 5 y.2.2.1.length (y.2.2.1.flatMap EvC)), (6, .ptr 50 bb 0), (4, .ptr 4 b4 0), (1, .sl 4 l.length (l.flatMap RcC))]) (fun y => (27, .tok y.2.2.2) :: (HRT y.2.1 ++ R)) (fun y => l.length - y.1) (0, wk0 a τs bb bO cO bL cL bG cG, [], ⟨0, 0, 0⟩) ⟨⟨Nat.zero_le _, rfl, caps0 a τs bb bO cO bL cL bG cG hτ hcp, rfl⟩, by rw [st0 a τs bb bO cO bL cL bG cG hτ]; rfl, by rw [st0 a τs bb bO cO bL cL bG cG hτ]; exact ok, by rw [st0 a τs bb bO cO bL cL bG cG hτ]; exact hse, by have := ok.nx; simp only [wk0, List.length_nil]; omega⟩ (Ents.dum 27 (Ents.mk (envLe.get ?_) fun w0 M HF w hI => enterR 6 a τs bb bO cO bL cL bG cG hτ (List.perm_middle (l₁ := _ :: _ :: _ :: _ :: tks τs)).symm List.perm_middle hI)) ?_
  · simp only [envLe, Lx.get, if_true, Nat.reduceEqDiff, if_false]
    exact ⟨leV.refl _, leV.nil_osl _ _ _ _, leV.ptr_name _ _ _ _, leV.refl _, leV.refl _, trivial⟩
  rintro ⟨i, k, out, τ⟩ ⟨⟨h1, hb, hc, hko⟩, hst, hok, hset, ho⟩
  dsimp only at h1 hb hc hko hst hok hset ho ⊢
  subst hb
  simp (disch := first | omega | (simp only [List.length_cons, List.length_nil]; first | done | omega)) only [go_sem]
  refine brP (fun hb => ?_) (fun hb => ?_)
  · have hlt : i < l.length := by simpa using hb
    have e2 := take_rows (f := RcC) (w := 4) (fun _ => rfl) rc0 l hlt
    have hps := hl _ (getD_memA (l := l) (i := i) rc0 hlt)
    have hts : l.take (i + 1) = l.take i ++ [l.getD i rc0] := take_succ_getD rc0 l hlt
    generalize l.getD i rc0 = r at *
    have htk := rtakeT k (m + i) r (by omega) hps hc hok
    have hok2 := okA_take hok hps
    obtain ⟨hq1, hq2⟩ := feedQ_eq (r := r) hset hok
    have hnx : (takeS k.st.1 r).1.nx = k.a.nx := by unfold takeS; split <;> rfl
    rw [RcC_eq] at e2 htk
    repeat' (first | (simp (disch := first | omega | (simp only [List.length_cons, List.length_nil]; first | done | omega)) only [go_sem, e2, zRc]) | (refine allI (fun b => ?_)) | (refine allT (fun τ => ?_)) | (refine brP (fun h => ?_) (fun h => ?_) <;> (try simp only [zgx, zbx] at h)) | (apply And.intro; focus (first | omega | (simp; done) | (simp +contextual; done) | (intros; and_intros <;> first | assumption | omega) | (intros; simp_all; done) | (intro hgd; refine ⟨hgd, ?_⟩; simp [hgd]; done) | (intro hgd; simp only [zgx] at hgd ⊢; omega))) | fail)
    refine LCalls.use htk (H2 := (27, .tok τ) :: R) (List.perm_middle (l₁ := HRT k)).symm ?_
    rintro _ _ ⟨k', ⟨hb', hc', hst'⟩, rfl, rfl⟩
    refine ⟨(27, .tok τ) :: (HRT k' ++ R), List.perm_middle (l₁ := HRT k'), ?_⟩
    rw [hko] at hst'
    have hs1 : k'.st.1 = (takeS k.st.1 r).1 := congrArg Prod.fst hst'
    have hko' : k'.out = [] := congrArg Prod.snd hst'
    have hok' : okA k'.st.1 (m + i + 1) := by rw [hs1]; exact hok2
    have hlb : 0 ≤ k'.a.la ∧ k'.a.la ≤ 1073741824 := hok'.la
    have hgv := rgiveT k' (m + i + 1) (k'.a.la - 64) (by omega) (by omega) hc' hok' hko'
    rw [hb'] at hgv
    have gH : getH (HRT k' ++ R) 50 = some (.blk k.b [.int .i64 k'.a.bo, .int .i64 k'.a.nx, .int .i64 k'.a.st, .msl 60 5 k'.bO 0 k'.ws.length k'.cO, .msl 62 5 k'.bL 0 k'.a.ls.length k'.cL, .msl 63 2 k'.bG 0 k'.a.gs.length k'.cG, .int .i64 k'.a.la]) := by
      rw [HRT, HR_eq, RkC_eq, hb']; rfl
    refine ⟨_, _, _, EntsT.refl _ _ _ _, ?_⟩
    repeat' (first | (simp (disch := first | omega | (simp only [List.length_cons, List.length_nil]; first | done | omega)) only [go_sem, gH]) | (refine allI (fun b => ?_)) | (refine allT (fun τ => ?_)) | (refine brP (fun h => ?_) (fun h => ?_) <;> (try simp only [zgx, zbx] at h)) | (apply And.intro; focus (first | omega | (simp; done) | (simp +contextual; done) | (intros; and_intros <;> first | assumption | omega) | (intros; simp_all; done) | (intro hgd; refine ⟨hgd, ?_⟩; simp [hgd]; done) | (intro hgd; simp only [zgx] at hgd ⊢; omega))) | fail)
    refine LCalls.use hgv (H2 := (27, .tok τ) :: R) (List.perm_middle (l₁ := HRT k')).symm ?_
    rintro _ _ ⟨k2, o2, ⟨hb2, hc2, hko2⟩, hst2, rfl, rfl⟩
    refine ⟨(27, .tok τ) :: (HRT k2 ++ R), List.perm_middle (l₁ := HRT k2), ?_⟩
    refine ⟨_, _, _, EntsT.refl _ _ _ _, ?_⟩
    have hs2 : k2.st.1 = (settleS (k'.a.la - 64) (k'.st.1, [])).1 := by rw [← hst2]
    have hls := len_settle (k'.a.la - 64) (k'.st.1, [])
    rw [← hst2] at hls
    have hn2 : k'.st.1.nx = k.a.nx := by rw [hs1]; exact hnx
    have hok3 : okA k2.st.1 (m + (i + 1)) := by rw [hs2]; exact okA_settle (by omega) (s := (k'.st.1, [])) hok'
    have hnx3 : 1 ≤ k2.a.nx ∧ k2.a.nx ≤ 1073741825 := hok3.nx
    have hls2 : (o2.length : Int) + k'.st.1.nx ≤ k2.a.nx := by
      have : (o2.length : Int) + k'.st.1.nx ≤ ([] : List Ev).length + k2.a.nx := hls
      simpa using this
    have hfr : (k2.st.1, out ++ o2) = feedR (k.st.1, out) r := by
      rw [← hq1, feedQ]
      have h5 := settleS_pre ((takeS k.st.1 r).1.la - 64) out ((takeS k.st.1 r).1, [])
      rw [show pre out ((takeS k.st.1 r).1, []) = ((takeS k.st.1 r).1, out) by simp [pre]] at h5
      have hla2 : k'.a.la = (takeS k.st.1 r).1.la := by have := congrArg As.la hs1; exact this
      rw [hla2, hs1] at hst2
      rw [h5, ← hst2]
      rfl
    repeat' (first | (simp (disch := first | omega | (simp only [List.length_cons, List.length_nil]; first | done | omega)) only [go_sem]) | (refine allI (fun b => ?_)) | (refine allT (fun τ => ?_)) | (refine brP (fun h => ?_) (fun h => ?_) <;> (try simp only [zgx, zbx] at h)) | (apply And.intro; focus (first | omega | (simp; done) | (simp +contextual; done) | (intros; and_intros <;> first | assumption | omega) | (intros; simp_all; done) | (intro hgd; refine ⟨hgd, ?_⟩; simp [hgd]; done) | (intro hgd; simp only [zgx] at hgd ⊢; omega))) | fail)
    refine ⟨by simp only [roomy]; omega, fun τ' => ⟨⟨(i + 1, k2, out ++ o2, τ'), ⟨⟨by dsimp only; omega, hb2, hc2, hko2⟩, ?_, hok3, ?_, ?_⟩⟩, by dsimp only; omega, ?_⟩⟩
    · dsimp only
      rw [hts, List.foldl_append, ← hst]
      exact hfr
    · dsimp only
      rw [hfr]; exact hq2
    · dsimp only
      rw [List.length_append]; omega
    · dsimp only
      rw [List.length_append, List.flatMap_append]
      exact Ents.sub (by simp [go_sem]) ⟨_, List.Sublist.refl _, List.Perm.refl _⟩
  · have hie : i = l.length := by simp only [decide_eq_false_iff_not] at hb; omega
    subst hie
    rw [List.take_length] at hst
    rw [HRT, HR_eq, RkC_eq]
    simp only [List.cons_append, List.nil_append]
    subst hR
    repeat' (first | (simp (disch := first | omega | (simp only [List.length_cons, List.length_nil]; first | done | omega)) only [go_sem, getH_tk4, setH_tk4]) | (refine allI (fun b => ?_)) | (refine allT (fun τ => ?_)) | (refine brP (fun h => ?_) (fun h => ?_) <;> (try simp only [zgx, zbx] at h)) | (apply And.intro; focus (first | omega | (simp; done) | (simp +contextual; done) | (intros; and_intros <;> first | assumption | omega) | (intros; simp_all; done) | (intro hgd; refine ⟨hgd, ?_⟩; simp [hgd]; done) | (intro hgd; simp only [zgx] at hgd ⊢; omega))) | fail)
    have hf : feedS a l = (k.st.1, out) := hst.symm
    rw [hf]
    exact ⟨_, [], leVH.trans (leVH.of (leV.tup (show leVs [_, _] [_, _] from ⟨leV.refl _, leV.osl_sl _ _ _ _ _, trivial⟩)) ⟨_, .cons _ (.cons _ (.cons_cons _ (.cons_cons _ (.cons_cons _ (List.nil_sublist _))))), List.Perm.refl _⟩) (pubR k hc _ _), rfl, rfl⟩
theorem rgive4 (a : As) (m : Nat) (ok : okA a m) (hm : m ≤ 1000000000) (late : Int) (hlt : -100 ≤ late ∧ late ≤ 1073741824) (τs : List Tok) (b bO cO bL cL bG cG : Nat) (hτ : τs.length = a.op.length) (hcp : a.op.length ≤ cO ∧ a.ls.length ≤ cL ∧ a.gs.length ≤ cG) (R : Heap) : LCalls Tryd.prog gl 38 [.ptr 4 b 0, .int .i64 late] ((4, .blk b [.int .i64 a.bo, .int .i64 a.nx, .int .i64 a.st, .msl 60 5 bO 0 a.op.length cO, .msl 62 5 bL 0 a.ls.length cL, .msl 63 2 bG 0 a.gs.length cG, .int .i64 a.la]) :: (60, .blk bO (Sp ((a.op.zip τs).flatMap EwC) ((cO - a.op.length) * 5))) :: (62, .blk bL (Sp (a.ls.flatMap LsC) ((cL - a.ls.length) * 5))) :: (63, .blk bG (Sp (a.gs.flatMap GpC) ((cG - a.gs.length) * 2))) :: (tks τs ++ R)) fun x H => ∃ k' out, (k'.b = b ∧ caps k') ∧ (k'.st.1, out) = settleS late (a, []) ∧ x = .sl 5 out.length (out.flatMap EvC) ∧ H = (4, .blk k'.b (RkC k')) :: (60, .blk k'.bO (BO k')) :: (62, .blk k'.bL (BL k')) :: (63, .blk k'.bG (BG k')) :: (tkw k'.ws ++ R) := by
  intro w0 M HF w vs hI hv
  have hs := rgiveT (wk0 a τs b bO cO bL cL bG cG) m late hm hlt (caps0 a τs b bO cO bL cL bG cG hτ hcp) (by rw [st0 a τs b bO cO bL cL bG cG hτ]; exact ok) rfl
  have h2 : LCalls Tryd.prog gl 38 [.ptr 50 b 0, .int .i64 late] (HRT (wk0 a τs b bO cO bL cL bG cG) ++ R) fun x H => ∃ k' out, (k'.b = b ∧ caps k') ∧ (k'.st.1, out) = settleS late (a, []) ∧ x = .sl 5 out.length (out.flatMap EvC) ∧ H = HRT k' ++ R :=
    LCalls.use hs (List.Perm.refl _) (by
      rintro _ _ ⟨k', out, ⟨h1, h2, _⟩, h3, rfl, rfl⟩
      exact ⟨_, List.Perm.refl _, k', out, ⟨h1, h2⟩, by rw [h3, st0 a τs b bO cO bL cL bG cG hτ], rfl, rfl⟩)
  refine (h2 w0 M HF w vs (enterR 4 a τs b bO cO bL cL bG cG hτ (List.Perm.refl _) (List.Perm.refl _) hI) (leVs.rvs (xs := [.ptr 4 b 0, .int .i64 late]) (ys := [.ptr 50 b 0, .int .i64 late]) ⟨leV.ptr_name _ _ _ _, leV.refl _, trivial⟩ hv)).mono ?_
  rintro _ w' ⟨M', v, _, _, h1, h2, h3, h4, k', out, hk, h5, rfl, rfl⟩
  refine ⟨M', v, _, _, h1, h2, h3, h4.names ?_, k', out, hk, h5, rfl, rfl⟩
  rw [HRT, HR_eq]
  simp
theorem rflush (a : As) (m : Nat) (ok : okA a m) (hm : m ≤ 1000000000) : Pure Tryd.prog gl 24 [.agg (AsC a)] (.tup [.agg (AsC (flushS a).1), .sl 5 (flushS a).2.length ((flushS a).2.flatMap EvC)]) := by
  refine fn_viewT Tryd.func24 t24 Tryd.ntmps24 (by simp) ?_
  have hcl := copyR a (by have := ok.op; omega) (by have := ok.lL; omega) (by have := ok.lG; have := ok.nx; omega) fun e he => ⟨by have := (ok.ev e he).2.1; omega, (ok.ev e he).2.2⟩
  unfold c24 r24
  rw [AsC_eq a] at hcl ⊢
  repeat' (first | (simp (disch := first | omega | (simp only [List.length_cons, List.length_nil]; first | done | omega)) only [go_sem]) | (refine allI (fun b => ?_)) | (refine allT (fun τ => ?_)) | (refine brP (fun h => ?_) (fun h => ?_) <;> (try simp only [zgx, zbx] at h)) | (apply And.intro; focus (first | omega | (simp; done) | (simp +contextual; done) | (intros; and_intros <;> first | assumption | omega) | (intros; simp_all; done) | (intro hgd; refine ⟨hgd, ?_⟩; simp [hgd]; done) | (intro hgd; simp only [zgx] at hgd ⊢; omega))) | fail)
  first | refine newsQ_U (hcl) ?_ | refine newsQ_T (hcl) ?_ | refine newsQ_of (hcl) ?_
  rintro _ _ ⟨τs, bO, cO, bL, cL, bG, cG, hτ, hcp, rfl, rfl⟩
  repeat' (first | (simp (disch := first | omega | (simp only [List.length_cons, List.length_nil]; first | done | omega)) only [go_sem]) | (refine allI (fun b => ?_)) | (refine allT (fun τ => ?_)) | (refine brP (fun h => ?_) (fun h => ?_) <;> (try simp only [zgx, zbx] at h)) | (apply And.intro; focus (first | omega | (simp; done) | (simp +contextual; done) | (intros; and_intros <;> first | assumption | omega) | (intros; simp_all; done) | (intro hgd; refine ⟨hgd, ?_⟩; simp [hgd]; done) | (intro hgd; simp only [zgx] at hgd ⊢; omega))) | fail)
  refine actsQ_U (rgive4 a m ok hm a.la (by have := ok.la; omega) τs _ bO cO bL cL bG cG hτ hcp _) (List.Perm.of_eq (List.append_nil _).symm) ?_
  rintro _ _ ⟨k, out, ⟨hb, hc⟩, hst, rfl, rfl⟩
  rw [hb, List.append_nil, RkC_eq]
  repeat' (first | (simp (disch := first | omega | (simp only [List.length_cons, List.length_nil]; first | done | omega)) only [go_sem, getH_tkw, setH_tkw]) | (refine allI (fun b => ?_)) | (refine allT (fun τ => ?_)) | (refine brP (fun h => ?_) (fun h => ?_) <;> (try simp only [zgx, zbx] at h)) | (apply And.intro; focus (first | omega | (simp; done) | (simp +contextual; done) | (intros; and_intros <;> first | assumption | omega) | (intros; simp_all; done) | (intro hgd; refine ⟨hgd, ?_⟩; simp [hgd]; done) | (intro hgd; simp only [zgx] at hgd ⊢; omega))) | fail)
  have hf : flushS a = (k.st.1, out) := hst.symm
  rw [hf]
  exact ⟨_, [], leVH.drop (.cons _ (.cons_cons _ (.cons_cons _ (.cons_cons _ (List.nil_sublist _))))) (pubR k hc _ _), rfl, rfl⟩
end Go.Proofs.YtfheeghkajihoaaDoor
