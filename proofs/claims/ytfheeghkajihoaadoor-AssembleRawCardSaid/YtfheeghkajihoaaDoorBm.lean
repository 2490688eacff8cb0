/- Layer 22: settling (the program). -/
import Derived.Test.YtfheeghkajihoaaDoorBl
namespace Go.Proofs.YtfheeghkajihoaaDoor
open Go Go.Lx
set_option linter.unusedSimpArgs false
set_option linter.unusedVariables false
set_option maxRecDepth 100000
set_option maxHeartbeats 8000000

def Wk.st (k : Wk) : St := ({ k.a with op := k.ws.map Prod.fst }, k.out)
/-- what is within a computer's reach -/
structure okW (k : Wk) : Prop where
  cO : k.ws.length ≤ k.cO
  cL : k.a.ls.length ≤ k.cL
  cG : k.a.gs.length ≤ k.cG
  lO : k.ws.length ≤ 1000000000
  lL : k.a.ls.length ≤ 1000000000
  ws : okWs k.ws
  ls : okLs k.a.ls
  gs : okGs k.a.gs
  nx : 1 ≤ k.a.nx ∧ k.a.nx ≤ 1073741825
  lG : k.a.gs.length < k.a.nx
  out : k.out.length < k.a.nx
def J2 (b2 : Nat) (k : Wk) : Heap := [(70, .blk b2 [.ptr 50 k.b 0]), (50, .blk k.b (WkC k)), (60, .blk k.bO (BO k)), (62, .blk k.bL (BL k)), (63, .blk k.bG (BG k)), (64, .tok k.τ)]
theorem heldI_cases (l : List (Ev × Tok)) (s : Int) : heldI l s = -1 ∨ ∃ j : Nat, heldI l s = j ∧ j < l.length ∧ (l.getD j ew0).1.se = s := by
  by_cases h : heldI l s = -1
  · exact .inl h
  · obtain ⟨m, h1, h2, h3, _⟩ := fstI_spec (n := l.length) (p := fun i => (l.getD i ew0).1.se == s) h
    exact .inr ⟨m, h1, h2, by simpa using h3⟩
theorem gapS_len (gs : List Gp) (f l : Int) : (gapS gs f l).length ≤ gs.length + 1 := by
  unfold gapS
  split <;> simp
theorem gapS_ok {gs : List Gp} {f l : Int} (h : okGs gs) (hf : 0 ≤ f ∧ f ≤ 1073741824) (hl : 0 ≤ l ∧ l ≤ 1073741824) : okGs (gapS gs f l) := by
  unfold gapS
  split
  · rename_i hc
    intro x hx
    rcases List.mem_or_eq_of_mem_set hx with h1 | rfl
    · exact h x h1
    · exact ⟨(h _ (getD_memA gp0 (by omega))).1, hl⟩
  · intro x hx
    rcases List.mem_append.1 hx with h1 | h1
    · exact h x h1
    · simp only [List.mem_singleton] at h1
      subst h1
      exact ⟨hf, hl⟩
def Wk.trim (k : Wk) : Wk := { k with a := { k.a with ls := keepL k.a.ls k.a.nx } }
theorem erase_ew (l : List (Ev × Tok)) (j : Nat) : List.take (j * 5) (l.flatMap EwC) ++ List.drop ((j + 1) * 5) (l.flatMap EwC) = (l.eraseIdx j).flatMap EwC := by
  induction l generalizing j with
  | nil => simp
  | cons x l ih =>
    have hx : (EwC x).length = 5 := rfl
    cases j with
    | zero =>
      rw [Nat.zero_mul, List.take_zero, List.nil_append, List.flatMap_cons, Nat.zero_add, Nat.one_mul, List.drop_left' hx]
      rfl
    | succ j =>
      rw [List.eraseIdx_cons_succ, List.flatMap_cons, List.flatMap_cons, ← ih, List.take_append, List.drop_append, List.take_of_length_le (by omega), List.drop_eq_nil_of_le (by omega), hx, List.nil_append, List.append_assoc]
      rw [show (j + 1) * 5 - 5 = j * 5 by omega, show (j + 1 + 1) * 5 - 5 = (j + 1) * 5 by omega]
theorem map_eraseIdx' (l : List (Ev × Tok)) (j : Nat) : (l.eraseIdx j).map Prod.fst = (l.map Prod.fst).eraseIdx j := by
  induction l generalizing j with
  | nil => rfl
  | cons x l ih =>
    cases j with
    | zero => rfl
    | succ j => simp [ih]
/-- where it stops -/
theorem stopE (b2 : Nat) (edge : Int) (k0 k : Wk) (h1 : k.b = k0.b ∧ k.ws.Sublist k0.ws ∧ okW k) (hrun : ∀ R, Runs edge k.st R → Runs edge k0.st R) (hs : stepS edge k.st = none) : ∃ r' H', leVH gl (.tup []) [(62, .blk k.bL (Sp ((keepL k.a.ls k.a.nx).flatMap LsC) ((k.cL - (keepL k.a.ls k.a.nx).length) * 5))), (70, .blk b2 [.ptr 50 k.b 0]), (50, .blk k.b [.int .i64 k.a.bo, .int .i64 k.a.nx, .int .i64 k.a.st, .msl 60 5 k.bO 0 k.ws.length k.cO, .msl 62 5 k.bL 0 (keepL k.a.ls k.a.nx).length k.cL, .msl 63 2 k.bG 0 k.a.gs.length k.cG, .int .i64 k.a.la, .osl 64 k.τ 5 k.out.length (k.out.flatMap EvC)]), (60, .blk k.bO (Sp (k.ws.flatMap EwC) ((k.cO - k.ws.length) * 5))), (63, .blk k.bG (Sp (k.a.gs.flatMap GpC) ((k.cG - k.a.gs.length) * 2))), (64, .tok k.τ)] r' H' ∧ r' = .tup [] ∧ ∃ k' R, (k'.b = k0.b ∧ k'.ws.Sublist k0.ws ∧ okW k') ∧ Runs edge k0.st R ∧ k'.st = ({ R.1 with ls := keepL R.1.ls R.1.nx }, R.2) ∧ H' = HW k' := by
  obtain ⟨hb, hsu, ok⟩ := h1
  have hle := keep_le k.a.ls k.a.nx
  refine ⟨_, HW k.trim, leVH.of (leV.refl _) ⟨_, .cons_cons _ (.cons _ (List.Sublist.refl _)), ?_⟩, rfl, k.trim, k.st, ⟨hb, hsu, ?_⟩, hrun _ (.stop hs), rfl, rfl⟩
  · rw [HW_eq]
    simp only [WkC_eq, BO, BL, BG, Wk.trim]
    exact (List.perm_append_comm (l₁ := [_]) (l₂ := [_, _])).append_right [_, _]
  · exact ⟨ok.cO, Nat.le_trans hle ok.cL, ok.cG, ok.lO, Nat.le_trans hle ok.lL, ok.ws, fun x hx => ok.ls x ((List.mem_filter.1 hx).1), ok.gs, ok.nx, ok.lG, ok.out⟩
theorem settle (k0 : Wk) (edge : Int) (hed : -100 ≤ edge ∧ edge ≤ 1073741824) (hok : okW k0) : LCalls Tryd.prog gl 34 [.ptr 50 k0.b 0, .int .i64 edge] (HW k0) fun r H => r = .tup [] ∧ ∃ k' R, (k'.b = k0.b ∧ k'.ws.Sublist k0.ws ∧ okW k') ∧ Runs edge k0.st R ∧ k'.st = ({ R.1 with ls := keepL R.1.ls R.1.nx }, R.2) ∧ H = HW k' := by
  refine fn_viewT Tryd.func34 t34 Tryd.ntmps34 (by simp) ?_
  unfold c34 r34
  rw [HW_eq]
  repeat' (first | (simp (disch := first | omega | (simp only [List.length_cons, List.length_nil]; first | done | omega)) only [go_sem]) | (refine allI (fun b => ?_)) | (refine allT (fun τ => ?_)) | (refine brP (fun h => ?_) (fun h => ?_) <;> (try simp only [zgx, zbx] at h)) | (apply And.intro; focus (first | omega | (simp; done) | (simp +contextual; done) | (intros; and_intros <;> first | assumption | omega) | (intros; simp_all; done) | (intro hgd; refine ⟨hgd, ?_⟩; simp [hgd]; done) | (intro hgd; simp only [zgx] at hgd ⊢; omega))) | fail)
  refine loopI (ι := Wk) (fun k => (k.b = k0.b ∧ k.ws.Sublist k0.ws ∧ okW k) ∧ ∀ R, Runs edge k.st R → Runs edge k0.st R) (fun _ => [(2, .ptr 70 b 0), (1, .int .i64 edge)]) (J2 b) (fun k => (1073741826 - k.a.nx).toNat) k0 ⟨⟨rfl, List.Sublist.refl _, hok⟩, fun R h => h⟩ ?_ ?_
  · have he : envLe [(2, .ptr 2 b 0), (0, .ptr 50 k0.b 0), (1, .int .i64 edge)] [(2, .ptr 70 b 0), (1, .int .i64 edge)] := by
      simp only [envLe, Lx.get, if_true, Nat.reduceEqDiff, if_false]
      exact ⟨leV.ptr_name _ _ _ _, leV.refl _, trivial⟩
    exact Ents.mk he.get fun w0 M HF w hI => Lx.Inv.names hI (by simp [J2])
  rintro k ⟨⟨hkb, hsub, ok⟩, hrun⟩
  have hh := held k k.a.nx ok.lO
  have hcv := covd k k.a.nx ok.lL
  have hbf := befr k k.a.nx ok.lO ok.ws
  have hdl := delf k.a.ls b k.bL k.cL k ok.lL ok.cL
  have hstep : stepS edge k.st = stepS edge k.st := rfl
  conv at hstep => rhs; unfold stepS Wk.st
  dsimp only at hstep
  rw [heldE_fst, befE_fst] at hstep
  have hnx1 := ok.nx
  rw [J2, WkC_eq, BO, BL, BG] at *
  by_cases hnx : 1073741824 < k.a.nx
  · rw [if_pos hnx] at hstep
    have d1 : decide (k.a.nx ≤ 1073741824) = false := decide_eq_false (by omega)
    repeat' (first | (simp (disch := first | omega | (simp only [List.length_cons, List.length_nil]; first | done | omega)) only [go_sem, d1]) | (refine allI (fun b => ?_)) | (refine allT (fun τ => ?_)) | (refine brP (fun h => ?_) (fun h => ?_) <;> (try simp only [zgx, zbx] at h)) | (apply And.intro; focus (first | omega | (simp; done) | (simp +contextual; done) | (intros; and_intros <;> first | assumption | omega) | (intros; simp_all; done) | (intro hgd; refine ⟨hgd, ?_⟩; simp [hgd]; done) | (intro hgd; simp only [zgx] at hgd ⊢; omega))) | fail)
    have hk : (k.a.ls.filter fun q => !decide (q.l < k.a.nx)) = keepL k.a.ls k.a.nx := rfl
    first | refine actsQ_U (hdl) (pick_perm rfl (pick_perm rfl (pick_perm rfl (List.Perm.refl _)))) ?_ | refine actsQ_T (hdl) (pick_perm rfl (pick_perm rfl (pick_perm rfl (List.Perm.refl _)))) ?_ | refine actsQ_N (hdl) (pick_perm rfl (pick_perm rfl (pick_perm rfl (List.Perm.refl _)))) ?_ | refine actsQ_of (hdl) (pick_perm rfl (pick_perm rfl (pick_perm rfl (List.Perm.refl _)))) ?_
    rintro _ _ ⟨rfl, rfl⟩
    repeat' (first | (simp (disch := first | omega | (simp only [List.length_cons, List.length_nil]; first | done | omega)) only [go_sem]) | (refine allI (fun b => ?_)) | (refine allT (fun τ => ?_)) | (refine brP (fun h => ?_) (fun h => ?_) <;> (try simp only [zgx, zbx] at h)) | (apply And.intro; focus (first | omega | (simp; done) | (simp +contextual; done) | (intros; and_intros <;> first | assumption | omega) | (intros; simp_all; done) | (intro hgd; refine ⟨hgd, ?_⟩; simp [hgd]; done) | (intro hgd; simp only [zgx] at hgd ⊢; omega))) | fail)
    exact stopE b edge k0 k ⟨hkb, hsub, ok⟩ hrun hstep
  rw [if_neg hnx] at hstep
  have d1 : decide (k.a.nx ≤ 1073741824) = true := decide_eq_true (by omega)
  have hb1 := befEN_ge (k.ws.map Prod.fst) k.a.nx (by omega) (k.ws.map Prod.fst).length
  have hb2 := befEN_le (k.ws.map Prod.fst) k.a.nx (k.ws.map Prod.fst).length
  change _ ≤ befE _ _ at hb1
  change befE _ _ ≤ _ at hb2
  rw [befE_fst] at hb1 hb2
  rcases heldI_cases k.ws k.a.nx with hn | ⟨j, hj, hjl, hjs⟩
  · rw [hn] at hh hstep
    rw [if_neg (by omega)] at hstep
    repeat' (first | (simp (disch := first | omega | (simp only [List.length_cons, List.length_nil]; first | done | omega)) only [go_sem, d1]) | (refine allI (fun b => ?_)) | (refine allT (fun τ => ?_)) | (refine brP (fun h => ?_) (fun h => ?_) <;> (try simp only [zgx, zbx] at h)) | (apply And.intro; focus (first | omega | (simp; done) | (simp +contextual; done) | (intros; and_intros <;> first | assumption | omega) | (intros; simp_all; done) | (intro hgd; refine ⟨hgd, ?_⟩; simp [hgd]; done) | (intro hgd; simp only [zgx] at hgd ⊢; omega))) | fail)
    first | refine actsQ_U (hh) (pick_perm rfl (pick_perm rfl (List.Perm.refl _))) ?_ | refine actsQ_T (hh) (pick_perm rfl (pick_perm rfl (List.Perm.refl _))) ?_ | refine actsQ_N (hh) (pick_perm rfl (pick_perm rfl (List.Perm.refl _))) ?_ | refine actsQ_of (hh) (pick_perm rfl (pick_perm rfl (List.Perm.refl _))) ?_
    rintro _ _ ⟨rfl, rfl⟩
    repeat' (first | (simp (disch := first | omega | (simp only [List.length_cons, List.length_nil]; first | done | omega)) only [go_sem]) | (refine allI (fun b => ?_)) | (refine allT (fun τ => ?_)) | (refine brP (fun h => ?_) (fun h => ?_) <;> (try simp only [zgx, zbx] at h)) | (apply And.intro; focus (first | omega | (simp; done) | (simp +contextual; done) | (intros; and_intros <;> first | assumption | omega) | (intros; simp_all; done) | (intro hgd; refine ⟨hgd, ?_⟩; simp [hgd]; done) | (intro hgd; simp only [zgx] at hgd ⊢; omega))) | fail)
    first | refine actsQ_U (hcv) (pick_perm rfl (pick_perm rfl (List.Perm.refl _))) ?_ | refine actsQ_T (hcv) (pick_perm rfl (pick_perm rfl (List.Perm.refl _))) ?_ | refine actsQ_N (hcv) (pick_perm rfl (pick_perm rfl (List.Perm.refl _))) ?_ | refine actsQ_of (hcv) (pick_perm rfl (pick_perm rfl (List.Perm.refl _))) ?_
    rintro _ _ ⟨rfl, rfl⟩
    by_cases hc : (covI k.a.ls k.a.nx).2 = true
    · rw [if_pos hc] at hstep
      rw [hc]
      have hc1 := covN_ge k.a.ls k.a.nx _ hc
      change _ ≤ (covI k.a.ls k.a.nx).1 at hc1
      have hu := stepS_up hstep
      dsimp only [Wk.st] at hu
      repeat' (first | (simp (disch := first | omega | (simp only [List.length_cons, List.length_nil]; first | done | omega)) only [go_sem]) | (refine allI (fun b => ?_)) | (refine allT (fun τ => ?_)) | (refine brP (fun h => ?_) (fun h => ?_) <;> (try simp only [zgx, zbx] at h)) | (apply And.intro; focus (first | omega | (simp; done) | (simp +contextual; done) | (intros; and_intros <;> first | assumption | omega) | (intros; simp_all; done) | (intro hgd; refine ⟨hgd, ?_⟩; simp [hgd]; done) | (intro hgd; simp only [zgx] at hgd ⊢; omega))) | fail)
      first | refine actsQ_U (hbf) (pick_perm rfl (pick_perm rfl (List.Perm.refl _))) ?_ | refine actsQ_T (hbf) (pick_perm rfl (pick_perm rfl (List.Perm.refl _))) ?_ | refine actsQ_N (hbf) (pick_perm rfl (pick_perm rfl (List.Perm.refl _))) ?_ | refine actsQ_of (hbf) (pick_perm rfl (pick_perm rfl (List.Perm.refl _))) ?_
      rintro _ _ ⟨rfl, rfl⟩
      repeat' (first | (simp (disch := first | omega | (simp only [List.length_cons, List.length_nil]; first | done | omega)) only [go_sem, min_if]) | (refine allI (fun b => ?_)) | (refine allT (fun τ => ?_)) | (refine brP (fun h => ?_) (fun h => ?_) <;> (try simp only [zgx, zbx] at h)) | (apply And.intro; focus (first | omega | (simp; done) | (simp +contextual; done) | (intros; and_intros <;> first | assumption | omega) | (intros; simp_all; done) | (intro hgd; refine ⟨hgd, ?_⟩; simp [hgd]; done) | (intro hgd; simp only [zgx] at hgd ⊢; omega))) | fail)
      refine ⟨⟨{ k with a := { k.a with nx := min (covI k.a.ls k.a.nx).1 (befI k.ws k.a.nx) + 1 } }, ⟨hkb, hsub, ⟨ok.cO, ok.cL, ok.cG, ok.lO, ok.lL, ok.ws, ok.ls, ok.gs, ?_, ?_, ?_⟩⟩, fun R h => hrun R (.step hstep h)⟩, ?_, Ents.sub (by simp [go_sem]) ⟨_, List.Sublist.refl _, ?_⟩⟩
      · dsimp only; omega
      · have := ok.lG; dsimp only; omega
      · have := ok.out; dsimp only; omega
      · dsimp only; omega
      · dsimp only [J2, BO, BL, BG]
        rw [WkC_eq]
        exact (List.perm_append_comm (l₁ := [_, _, _]) (l₂ := [_])).append_right [_, _]
    · rw [if_neg hc] at hstep
      rw [show (covI k.a.ls k.a.nx).2 = false by simpa using hc]
      by_cases he : edge < k.a.nx
      · rw [if_pos he] at hstep
        have d2 : decide (edge < k.a.nx) = true := decide_eq_true he
        repeat' (first | (simp (disch := first | omega | (simp only [List.length_cons, List.length_nil]; first | done | omega)) only [go_sem, d2]) | (refine allI (fun b => ?_)) | (refine allT (fun τ => ?_)) | (refine brP (fun h => ?_) (fun h => ?_) <;> (try simp only [zgx, zbx] at h)) | (apply And.intro; focus (first | omega | (simp; done) | (simp +contextual; done) | (intros; and_intros <;> first | assumption | omega) | (intros; simp_all; done) | (intro hgd; refine ⟨hgd, ?_⟩; simp [hgd]; done) | (intro hgd; simp only [zgx] at hgd ⊢; omega))) | fail)
        have hk : (k.a.ls.filter fun q => !decide (q.l < k.a.nx)) = keepL k.a.ls k.a.nx := rfl
        first | refine actsQ_U (hdl) (pick_perm rfl (pick_perm rfl (pick_perm rfl (List.Perm.refl _)))) ?_ | refine actsQ_T (hdl) (pick_perm rfl (pick_perm rfl (pick_perm rfl (List.Perm.refl _)))) ?_ | refine actsQ_N (hdl) (pick_perm rfl (pick_perm rfl (pick_perm rfl (List.Perm.refl _)))) ?_ | refine actsQ_of (hdl) (pick_perm rfl (pick_perm rfl (pick_perm rfl (List.Perm.refl _)))) ?_
        rintro _ _ ⟨rfl, rfl⟩
        repeat' (first | (simp (disch := first | omega | (simp only [List.length_cons, List.length_nil]; first | done | omega)) only [go_sem]) | (refine allI (fun b => ?_)) | (refine allT (fun τ => ?_)) | (refine brP (fun h => ?_) (fun h => ?_) <;> (try simp only [zgx, zbx] at h)) | (apply And.intro; focus (first | omega | (simp; done) | (simp +contextual; done) | (intros; and_intros <;> first | assumption | omega) | (intros; simp_all; done) | (intro hgd; refine ⟨hgd, ?_⟩; simp [hgd]; done) | (intro hgd; simp only [zgx] at hgd ⊢; omega))) | fail)
        exact stopE b edge k0 k ⟨hkb, hsub, ok⟩ hrun hstep
      · rw [if_neg he] at hstep
        have d2 : decide (edge < k.a.nx) = false := decide_eq_false he
        have hu := stepS_up hstep
        dsimp only [Wk.st] at hu
        have hl1 := losN_ge k.a.ls k.a.nx (min edge (befI k.ws k.a.nx)) (by omega)
        have hl2 := losN_le k.a.ls k.a.nx (min edge (befI k.ws k.a.nx))
        have hgp := gap k k.a.nx (losI k.a.ls k.a.nx (min edge (befI k.ws k.a.nx))) (by have := ok.lG; omega) ok.cG ok.gs (by omega)
        have hle := len_ls k.a.ls
        have hlL := ok.lL
        have hs := length_Sp (k.a.ls.flatMap LsC) ((k.cL - k.a.ls.length) * 5)
        have hlI : losN k.a.ls k.a.nx (min edge (befI k.ws k.a.nx)) k.a.ls.length = losI k.a.ls k.a.nx (min edge (befI k.ws k.a.nx)) := rfl
        have hl1' := hl1 k.a.ls.length
        have hl2' := hl2 k.a.ls.length
        rw [WkC_eq, BG] at hgp
        repeat' (first | (simp (disch := first | omega | (simp only [List.length_cons, List.length_nil]; first | done | omega)) only [go_sem, d2]) | (refine allI (fun b => ?_)) | (refine allT (fun τ => ?_)) | (refine brP (fun h => ?_) (fun h => ?_) <;> (try simp only [zgx, zbx] at h)) | (apply And.intro; focus (first | omega | (simp; done) | (simp +contextual; done) | (intros; and_intros <;> first | assumption | omega) | (intros; simp_all; done) | (intro hgd; refine ⟨hgd, ?_⟩; simp [hgd]; done) | (intro hgd; simp only [zgx] at hgd ⊢; omega))) | fail)
        first | refine actsQ_U (hbf) (pick_perm rfl (pick_perm rfl (List.Perm.refl _))) ?_ | refine actsQ_T (hbf) (pick_perm rfl (pick_perm rfl (List.Perm.refl _))) ?_ | refine actsQ_N (hbf) (pick_perm rfl (pick_perm rfl (List.Perm.refl _))) ?_ | refine actsQ_of (hbf) (pick_perm rfl (pick_perm rfl (List.Perm.refl _))) ?_
        rintro _ _ ⟨rfl, rfl⟩
        repeat' (first | (simp (disch := first | omega | (simp only [List.length_cons, List.length_nil]; first | done | omega)) only [go_sem]) | (refine allI (fun b => ?_)) | (refine allT (fun τ => ?_)) | (refine brP (fun h => ?_) (fun h => ?_) <;> (try simp only [zgx, zbx] at h)) | (apply And.intro; focus (first | omega | (simp; done) | (simp +contextual; done) | (intros; and_intros <;> first | assumption | omega) | (intros; simp_all; done) | (intro hgd; refine ⟨hgd, ?_⟩; simp [hgd]; done) | (intro hgd; simp only [zgx] at hgd ⊢; omega))) | fail)
        refine loopI (ι := Nat) (fun n => n ≤ k.a.ls.length) (fun n => [(112, .int .i64 n), (111, .int .i64 k.a.ls.length), (110, .msl 62 5 k.bL 0 k.a.ls.length k.cL), (8, .int .i64 (losN k.a.ls k.a.nx (min edge (befI k.ws k.a.nx)) n)), (4, .int .i64 k.a.nx), (2, .ptr 70 b 0), (1, .int .i64 edge)]) (fun _ => _) (fun n => k.a.ls.length - n) 0 (by omega) (Ents.envH (by simp [go_sem, losN, min_if]) rfl) ?_
        intro n hn
        simp (disch := first | omega | (simp only [List.length_cons, List.length_nil]; first | done | omega)) only [go_sem]
        refine brP (fun hb => ?_) (fun hb => ?_)
        · have hlt : n < k.a.ls.length := by simpa using hb
          have e2 := ls_at k.a.ls ((k.cL - k.a.ls.length) * 5) hlt
          have hok := ok.ls _ (getD_memA ls0 hlt)
          have hsu : losN k.a.ls k.a.nx (min edge (befI k.ws k.a.nx)) (n + 1) = if k.a.nx < (k.a.ls.getD n ls0).f then min (losN k.a.ls k.a.nx (min edge (befI k.ws k.a.nx)) n) ((k.a.ls.getD n ls0).f - 1) else losN k.a.ls k.a.nx (min edge (befI k.ws k.a.nx)) n := rfl
          generalize k.a.ls.getD n ls0 = q at *
          rw [LsC_eq] at e2
          repeat' (first | (simp (disch := first | omega | (simp only [List.length_cons, List.length_nil]; first | done | omega)) only [go_sem, e2, zLs]) | (refine allI (fun b => ?_)) | (refine allT (fun τ => ?_)) | (refine brP (fun h => ?_) (fun h => ?_) <;> (try simp only [zgx, zbx] at h)) | (apply And.intro; focus (first | omega | (simp; done) | (simp +contextual; done) | (intros; and_intros <;> first | assumption | omega) | (intros; simp_all; done) | (intro hgd; refine ⟨hgd, ?_⟩; simp [hgd]; done) | (intro hgd; simp only [zgx] at hgd ⊢; omega))) | fail)
          · rw [if_pos h] at hsu
            exact ⟨⟨n + 1, by omega⟩, by dsimp only; omega, Ents.sub (by simp [go_sem, hsu, min_if]) ⟨_, List.Sublist.cons _ (List.Sublist.refl _), List.Perm.refl _⟩⟩
          · rw [if_neg (by omega)] at hsu
            exact ⟨⟨n + 1, by omega⟩, by dsimp only; omega, Ents.sub (by simp [go_sem, hsu, min_if]) ⟨_, List.Sublist.cons _ (List.Sublist.refl _), List.Perm.refl _⟩⟩
        · have hne : n = k.a.ls.length := by simp only [decide_eq_false_iff_not] at hb; omega
          subst hne
          repeat' (first | (simp (disch := first | omega | (simp only [List.length_cons, List.length_nil]; first | done | omega)) only [go_sem]) | (refine allI (fun b => ?_)) | (refine allT (fun τ => ?_)) | (refine brP (fun h => ?_) (fun h => ?_) <;> (try simp only [zgx, zbx] at h)) | (apply And.intro; focus (first | omega | (simp; done) | (simp +contextual; done) | (intros; and_intros <;> first | assumption | omega) | (intros; simp_all; done) | (intro hgd; refine ⟨hgd, ?_⟩; simp [hgd]; done) | (intro hgd; simp only [zgx] at hgd ⊢; omega))) | fail)
          rw [hlI]
          rw [hlI] at hl1' hl2'
          generalize hL : losI k.a.ls k.a.nx (min edge (befI k.ws k.a.nx)) = la at *
          first | refine actsQ_U (hgp) (pick_perm rfl (pick_perm rfl (List.Perm.refl _))) ?_ | refine actsQ_T (hgp) (pick_perm rfl (pick_perm rfl (List.Perm.refl _))) ?_ | refine actsQ_N (hgp) (pick_perm rfl (pick_perm rfl (List.Perm.refl _))) ?_ | refine actsQ_of (hgp) (pick_perm rfl (pick_perm rfl (List.Perm.refl _))) ?_
          rintro _ _ ⟨bG, cG, hcG, rfl, rfl⟩
          rw [WkC_eq, BG]
          simp only [Wk.withG]
          repeat' (first | (simp (disch := first | omega | (simp only [List.length_cons, List.length_nil]; first | done | omega)) only [go_sem]) | (refine allI (fun b => ?_)) | (refine allT (fun τ => ?_)) | (refine brP (fun h => ?_) (fun h => ?_) <;> (try simp only [zgx, zbx] at h)) | (apply And.intro; focus (first | omega | (simp; done) | (simp +contextual; done) | (intros; and_intros <;> first | assumption | omega) | (intros; simp_all; done) | (intro hgd; refine ⟨hgd, ?_⟩; simp [hgd]; done) | (intro hgd; simp only [zgx] at hgd ⊢; omega))) | fail)
          have hgl := gapS_len k.a.gs k.a.nx la
          refine ⟨⟨{ k with a := { k.a with nx := la + 1, gs := gapS k.a.gs k.a.nx la }, bG := bG, cG := cG }, ⟨hkb, hsub, ⟨ok.cO, ok.cL, hcG, ok.lO, ok.lL, ok.ws, ok.ls, gapS_ok ok.gs (by omega) (by omega), ?_, ?_, ?_⟩⟩, fun R h => hrun R (.step hstep h)⟩, ?_, Ents.sub (by simp [go_sem]) ⟨_, List.Sublist.refl _, ?_⟩⟩
          · dsimp only; omega
          · have := ok.lG; dsimp only; omega
          · have := ok.out; dsimp only; omega
          · dsimp only; omega
          · dsimp only [J2, BO, BL, BG]
            rw [WkC_eq]
            exact ((List.perm_append_comm (l₁ := [_, _, _, _]) (l₂ := [_])).append_right [_]).trans ((((List.perm_append_comm (l₁ := [_]) (l₂ := [_, _])).append_right [_]).cons _).cons _)
  · rw [hj] at hh hstep
    rw [if_pos (by omega), Int.toNat_natCast, getD_fst] at hstep
    have e2 := ew_at k.ws ((k.cO - k.ws.length) * 5) hjl
    have g4 : (Sp (k.ws.flatMap EwC) ((k.cO - k.ws.length) * 5)).getD (j * 5 + 4) .any = .bool (k.ws.getD j ew0).1.co := by
      have := congrArg (fun z => z.getD 4 .any) e2
      rw [EwC_eq] at this
      simpa [List.getD, List.getElem?_take, List.getElem?_drop] using this
    have hlo := len_ew k.ws
    have hso := length_Sp (k.ws.flatMap EwC) ((k.cO - k.ws.length) * 5)
    have hcO := ok.cO
    have hlO := ok.lO
    have hout := ok.out
    have hdel := del k.bO k.ws.length k.cO j (j + 1) (k.ws.flatMap EwC) hlo ok.cO (by omega) (by omega) ok.lO
    rw [show ((j + 1 : Nat) : Int) = (j : Int) + 1 by omega] at hdel
    have hsp := ew_rows k.ws j 0 hjl
    have dj : decide (0 ≤ (j : Int)) = true := by simp
    generalize hq : k.ws.getD j ew0 = q at *
    by_cases hc : q.1.co = false ∧ edge < k.a.nx
    · rw [if_pos hc] at hstep
      have d2 : decide (edge < k.a.nx) = true := decide_eq_true hc.2
      rw [hc.1] at g4
      repeat' (first | (simp (disch := first | omega | (simp only [List.length_cons, List.length_nil]; first | done | omega)) only [go_sem, d1]) | (refine allI (fun b => ?_)) | (refine allT (fun τ => ?_)) | (refine brP (fun h => ?_) (fun h => ?_) <;> (try simp only [zgx, zbx] at h)) | (apply And.intro; focus (first | omega | (simp; done) | (simp +contextual; done) | (intros; and_intros <;> first | assumption | omega) | (intros; simp_all; done) | (intro hgd; refine ⟨hgd, ?_⟩; simp [hgd]; done) | (intro hgd; simp only [zgx] at hgd ⊢; omega))) | fail)
      first | refine actsQ_U (hh) (pick_perm rfl (pick_perm rfl (List.Perm.refl _))) ?_ | refine actsQ_T (hh) (pick_perm rfl (pick_perm rfl (List.Perm.refl _))) ?_ | refine actsQ_N (hh) (pick_perm rfl (pick_perm rfl (List.Perm.refl _))) ?_ | refine actsQ_of (hh) (pick_perm rfl (pick_perm rfl (List.Perm.refl _))) ?_
      rintro _ _ ⟨rfl, rfl⟩
      repeat' (first | (simp (disch := first | omega | (simp only [List.length_cons, List.length_nil]; first | done | omega)) only [go_sem, dj, d2, g4]) | (refine allI (fun b => ?_)) | (refine allT (fun τ => ?_)) | (refine brP (fun h => ?_) (fun h => ?_) <;> (try simp only [zgx, zbx] at h)) | (apply And.intro; focus (first | omega | (simp; done) | (simp +contextual; done) | (intros; and_intros <;> first | assumption | omega) | (intros; simp_all; done) | (intro hgd; refine ⟨hgd, ?_⟩; simp [hgd]; done) | (intro hgd; simp only [zgx] at hgd ⊢; omega))) | fail)
      have hk : (k.a.ls.filter fun q => !decide (q.l < k.a.nx)) = keepL k.a.ls k.a.nx := rfl
      first | refine actsQ_U (hdl) (pick_perm rfl (pick_perm rfl (pick_perm rfl (List.Perm.refl _)))) ?_ | refine actsQ_T (hdl) (pick_perm rfl (pick_perm rfl (pick_perm rfl (List.Perm.refl _)))) ?_ | refine actsQ_N (hdl) (pick_perm rfl (pick_perm rfl (pick_perm rfl (List.Perm.refl _)))) ?_ | refine actsQ_of (hdl) (pick_perm rfl (pick_perm rfl (pick_perm rfl (List.Perm.refl _)))) ?_
      rintro _ _ ⟨rfl, rfl⟩
      repeat' (first | (simp (disch := first | omega | (simp only [List.length_cons, List.length_nil]; first | done | omega)) only [go_sem]) | (refine allI (fun b => ?_)) | (refine allT (fun τ => ?_)) | (refine brP (fun h => ?_) (fun h => ?_) <;> (try simp only [zgx, zbx] at h)) | (apply And.intro; focus (first | omega | (simp; done) | (simp +contextual; done) | (intros; and_intros <;> first | assumption | omega) | (intros; simp_all; done) | (intro hgd; refine ⟨hgd, ?_⟩; simp [hgd]; done) | (intro hgd; simp only [zgx] at hgd ⊢; omega))) | fail)
      exact stopE b edge k0 k ⟨hkb, hsub, ok⟩ hrun hstep
    · rw [if_neg hc] at hstep
      have hu := stepS_up hstep
      dsimp only [Wk.st] at hu
      have d3 : (!q.1.co && decide (edge < k.a.nx)) = false := by
        cases hb : q.1.co
        · simp only [hb, true_and] at hc
          simpa using hc
        · rfl
      rw [EwC_eq] at e2
      repeat' (first | (simp (disch := first | omega | (simp only [List.length_cons, List.length_nil]; first | done | omega)) only [go_sem, d1]) | (refine allI (fun b => ?_)) | (refine allT (fun τ => ?_)) | (refine brP (fun h => ?_) (fun h => ?_) <;> (try simp only [zgx, zbx] at h)) | (apply And.intro; focus (first | omega | (simp; done) | (simp +contextual; done) | (intros; and_intros <;> first | assumption | omega) | (intros; simp_all; done) | (intro hgd; refine ⟨hgd, ?_⟩; simp [hgd]; done) | (intro hgd; simp only [zgx] at hgd ⊢; omega))) | fail)
      first | refine actsQ_U (hh) (pick_perm rfl (pick_perm rfl (List.Perm.refl _))) ?_ | refine actsQ_T (hh) (pick_perm rfl (pick_perm rfl (List.Perm.refl _))) ?_ | refine actsQ_N (hh) (pick_perm rfl (pick_perm rfl (List.Perm.refl _))) ?_ | refine actsQ_of (hh) (pick_perm rfl (pick_perm rfl (List.Perm.refl _))) ?_
      rintro _ _ ⟨rfl, rfl⟩
      repeat' (first | (simp (disch := first | omega | (simp only [List.length_cons, List.length_nil]; first | done | omega)) only [go_sem, dj, d3, g4, e2, zEv]) | (refine allI (fun b => ?_)) | (refine allT (fun τ => ?_)) | (refine brP (fun h => ?_) (fun h => ?_) <;> (try simp only [zgx, zbx] at h)) | (apply And.intro; focus (first | omega | (simp; done) | (simp +contextual; done) | (intros; and_intros <;> first | assumption | omega) | (intros; simp_all; done) | (intro hgd; refine ⟨hgd, ?_⟩; simp [hgd]; done) | (intro hgd; simp only [zgx] at hgd ⊢; omega))) | fail)
      refine ⟨by simp only [roomy]; omega, fun τ' => ?_⟩
      first | refine actsE_U (hdel) (by first | rfl | simp only [getH, if_true]) ?_ | refine actsE_T (hdel) (by first | rfl | simp only [getH, if_true]) ?_ | refine actsE_N (hdel) (by first | rfl | simp only [getH, if_true]) ?_ | refine actsE_of (hdel) (by first | rfl | simp only [getH, if_true]) ?_
      rintro _ _ ⟨rfl, rfl⟩
      repeat' (first | (simp (disch := first | omega | (simp only [List.length_cons, List.length_nil]; first | done | omega)) only [go_sem]) | (refine allI (fun b => ?_)) | (refine allT (fun τ => ?_)) | (refine brP (fun h => ?_) (fun h => ?_) <;> (try simp only [zgx, zbx] at h)) | (apply And.intro; focus (first | omega | (simp; done) | (simp +contextual; done) | (intros; and_intros <;> first | assumption | omega) | (intros; simp_all; done) | (intro hgd; refine ⟨hgd, ?_⟩; simp [hgd]; done) | (intro hgd; simp only [zgx] at hgd ⊢; omega))) | fail)
      have hle : (k.ws.eraseIdx j).length = k.ws.length - (j + 1 - j) := by rw [List.length_eraseIdx_of_lt hjl]; omega
      rw [erase_ew, ← hle]
      have hlg := ok.lG
      refine ⟨⟨{ k with a := { k.a with nx := k.a.nx + 1 }, ws := k.ws.eraseIdx j, out := k.out ++ [q.1], τ := τ' }, ⟨hkb, (List.eraseIdx_sublist _ _).trans hsub, ⟨by dsimp only; omega, ok.cL, ok.cG, by dsimp only; omega, ok.lL, fun x hx => ok.ws x ((List.eraseIdx_sublist _ _).mem hx), ok.ls, ok.gs, ?_, ?_, ?_⟩⟩, fun R h => hrun R (.step hstep ?_)⟩, ?_, ?_⟩
      · dsimp only; omega
      · dsimp only; omega
      · dsimp only; rw [List.length_append, List.length_singleton]; omega
      · rw [Wk.st, map_eraseIdx'] at h
        exact h
      · dsimp only; omega
      · refine Ents.heap [(70, .blk b [.ptr 50 k.b 0]), (50, .blk k.b [.int .i64 k.a.bo, .int .i64 (k.a.nx + 1), .int .i64 k.a.st, .msl 60 5 k.bO 0 (k.ws.eraseIdx j).length k.cO, .msl 62 5 k.bL 0 k.a.ls.length k.cL, .msl 63 2 k.bG 0 k.a.gs.length k.cG, .int .i64 k.a.la, .osl 64 τ' 5 (k.out.length + 1) (k.out.flatMap EvC ++ [.int .i64 q.1.bo, .int .i64 q.1.se, .int .i64 q.1.ti, .osl 61 q.2 4 q.1.rs.length (q.1.rs.flatMap RcC), .bool q.1.co])]), (60, .blk k.bO (Sp ((k.ws.eraseIdx j).flatMap EwC) ((k.cO - (k.ws.eraseIdx j).length) * 5))), (62, .blk k.bL (Sp (k.a.ls.flatMap LsC) ((k.cL - k.a.ls.length) * 5))), (63, .blk k.bG (Sp (k.a.gs.flatMap GpC) ((k.cG - k.a.gs.length) * 2))), (64, .tok τ')] (by simp [go_sem]) ⟨_, List.Sublist.refl _, pick_perm rfl (pick_perm rfl (pick_perm rfl (pick_perm rfl (pick_perm rfl (pick_perm rfl (List.Perm.refl _))))))⟩ ?_
        dsimp only [J2, BO, BL, BG]
        rw [WkC_eq]
        dsimp only
        rw [List.length_append, List.length_singleton, List.flatMap_append, List.flatMap_singleton, EvC_eq]
        refine ⟨⟨rfl, leVs.refl _⟩, ⟨rfl, leV.refl _, leV.refl _, leV.refl _, leV.refl _, leV.refl _, leV.refl _, leV.refl _, leV.osl (leVs.app (leVs.refl _) ⟨leV.refl _, leV.refl _, leV.refl _, leV.osl_sl _ _ _ _ _, leV.refl _, trivial⟩), trivial⟩, ⟨rfl, leVs.refl _⟩, ⟨rfl, leVs.refl _⟩, ⟨rfl, leVs.refl _⟩, rfl, trivial⟩
end Go.Proofs.YtfheeghkajihoaaDoor
