/- Layer 22: what is covered, what comes next, gaps (the program). -/
import Derived.Test.YtfheeghkajihoaaDoorBd
namespace Go.Proofs.YtfheeghkajihoaaDoor
open Go Go.Lx
set_option linter.unusedSimpArgs false
set_option linter.unusedVariables false
set_option maxRecDepth 100000
set_option maxHeartbeats 4000000

/-- the greatest number to which a range goes that covers x, of the first n ranges; 0 if there is none -/
def covN (ls : List Ls) (x : Int) : Nat → Int × Bool
  | 0 => (0, false)
  | n + 1 => if (ls.getD n ls0).f ≤ x ∧ x ≤ (ls.getD n ls0).l then (max (covN ls x n).1 (ls.getD n ls0).l, true) else covN ls x n
def covI (ls : List Ls) (x : Int) : Int × Bool := covN ls x ls.length
/-- the number before the least one above x of the first n events -/
def befN (l : List (Ev × Tok)) (x : Int) : Nat → Int
  | 0 => 1073741824
  | n + 1 => if x < (l.getD n ew0).1.se then min (befN l x n) ((l.getD n ew0).1.se - 1) else befN l x n
def befI (l : List (Ev × Tok)) (x : Int) : Int := befN l x l.length
theorem ls_at (l : List Ls) (m : Nat) {i : Nat} (h : i < l.length) : ((Sp (l.flatMap LsC) m).drop (i * 5)).take 5 = LsC (l.getD i ls0) := by
  have hl := len_ls l
  rw [← take_rows (f := LsC) (w := 5) (fun _ => rfl) ls0 l h, Sp, List.drop_append_of_le_length (by omega), List.take_append_of_le_length (by rw [List.length_drop]; omega)]
theorem max_if (a b : Int) : (if a < b then b else a) = max a b := by
  rcases Int.lt_or_le a b with h | h
  · rw [if_pos h]; omega
  · rw [if_neg (by omega)]; omega
theorem min_if (a b : Int) : (if b < a then b else a) = min a b := by
  rcases Int.lt_or_le b a with h | h
  · rw [if_pos h]; omega
  · rw [if_neg (by omega)]; omega
/-- numbers within a computer's reach -/
def okLs (ls : List Ls) : Prop := ∀ x ∈ ls, (1 ≤ x.f ∧ x.f ≤ 1073741824) ∧ (0 ≤ x.l ∧ x.l ≤ 1073741824)
def okWs (l : List (Ev × Tok)) : Prop := ∀ x ∈ l, 1 ≤ x.1.se ∧ x.1.se ≤ 1073741824
theorem covd (k : Wk) (x : Int) (hl : k.a.ls.length ≤ 1000000000) : LCalls Tryd.prog gl 53 [.ptr 50 k.b 0, .int .i64 x] [(50, .blk k.b (WkC k)), (62, .blk k.bL (BL k))] fun r H => r = .tup [.int .i64 (covI k.a.ls x).1, .bool (covI k.a.ls x).2] ∧ H = [(50, .blk k.b (WkC k)), (62, .blk k.bL (BL k))] := by
  refine fn_viewT Tryd.func53 t53 Tryd.ntmps53 (by simp) ?_
  have hle := len_ls k.a.ls
  have hs := length_Sp (k.a.ls.flatMap LsC) ((k.cL - k.a.ls.length) * 5)
  unfold c53 r53
  rw [WkC_eq, BL]
  repeat' (first | (simp (disch := first | omega | (simp only [List.length_cons, List.length_nil]; first | done | omega)) only [go_sem]) | (refine allI (fun b => ?_)) | (refine allT (fun τ => ?_)) | (refine brP (fun h => ?_) (fun h => ?_) <;> (try simp only [zgx, zbx] at h)) | (apply And.intro; focus (first | omega | (simp; done) | (simp +contextual; done) | (intros; and_intros <;> first | assumption | omega) | (intros; simp_all; done) | (intro hgd; refine ⟨hgd, ?_⟩; simp [hgd]; done) | (intro hgd; simp only [zgx] at hgd ⊢; omega))) | fail)
  refine loopI (ι := Nat) (fun n => n ≤ k.a.ls.length) (fun n => [(16, .int .i64 n), (7, .bool (covN k.a.ls x n).2), (6, .int .i64 (covN k.a.ls x n).1), (15, .int .i64 k.a.ls.length), (14, .msl 62 5 k.bL 0 k.a.ls.length k.cL), (1, .int .i64 x)]) (fun _ => [(50, .blk k.b (WkC k)), (62, .blk k.bL (BL k))]) (fun n => k.a.ls.length - n) 0 (by omega) (Ents.envH (by simp [go_sem, covN]) rfl) ?_
  intro n hn
  rw [WkC_eq, BL]
  simp (disch := first | omega | (simp only [List.length_cons, List.length_nil]; first | done | omega)) only [go_sem]
  refine brP (fun hb => ?_) (fun hb => ?_)
  · have hlt : n < k.a.ls.length := by simpa using hb
    have e2 := ls_at k.a.ls ((k.cL - k.a.ls.length) * 5) hlt
    have hsu : covN k.a.ls x (n + 1) = if (k.a.ls.getD n ls0).f ≤ x ∧ x ≤ (k.a.ls.getD n ls0).l then (max (covN k.a.ls x n).1 (k.a.ls.getD n ls0).l, true) else covN k.a.ls x n := rfl
    generalize k.a.ls.getD n ls0 = q at *
    rw [LsC_eq] at e2
    repeat' (first | (simp (disch := first | omega | (simp only [List.length_cons, List.length_nil]; first | done | omega)) only [go_sem, e2, zLs]) | (refine allI (fun b => ?_)) | (refine allT (fun τ => ?_)) | (refine brP (fun h => ?_) (fun h => ?_) <;> (try simp only [zgx, zbx] at h)) | (apply And.intro; focus (first | omega | (simp; done) | (simp +contextual; done) | (intros; and_intros <;> first | assumption | omega) | (intros; simp_all; done) | (intro hgd; refine ⟨hgd, ?_⟩; simp [hgd]; done) | (intro hgd; simp only [zgx] at hgd ⊢; omega))) | fail)
    · rw [if_pos h] at hsu
      exact ⟨⟨n + 1, by omega⟩, by dsimp only; omega, Ents.sub (by simp [go_sem, hsu, max_if]) ⟨_, List.Sublist.cons _ (List.Sublist.refl _), List.Perm.refl _⟩⟩
    · rw [if_neg (by omega)] at hsu
      exact ⟨⟨n + 1, by omega⟩, by dsimp only; omega, Ents.sub (by simp [go_sem, hsu, max_if]) ⟨_, List.Sublist.cons _ (List.Sublist.refl _), List.Perm.refl _⟩⟩
  · have hne : n = k.a.ls.length := by simp only [decide_eq_false_iff_not] at hb; omega
    subst hne
    repeat' (first | (simp (disch := first | omega | (simp only [List.length_cons, List.length_nil]; first | done | omega)) only [go_sem]) | (refine allI (fun b => ?_)) | (refine allT (fun τ => ?_)) | (refine brP (fun h => ?_) (fun h => ?_) <;> (try simp only [zgx, zbx] at h)) | (apply And.intro; focus (first | omega | (simp; done) | (simp +contextual; done) | (intros; and_intros <;> first | assumption | omega) | (intros; simp_all; done) | (intro hgd; refine ⟨hgd, ?_⟩; simp [hgd]; done) | (intro hgd; simp only [zgx] at hgd ⊢; omega))) | fail)
    exact ⟨_, _, leVH.of (leV.refl _) ⟨_, List.Sublist.refl _, List.Perm.refl _⟩, rfl, rfl⟩
theorem befr (k : Wk) (x : Int) (hl : k.ws.length ≤ 1000000000) (hw : okWs k.ws) : LCalls Tryd.prog gl 54 [.ptr 50 k.b 0, .int .i64 x] [(50, .blk k.b (WkC k)), (60, .blk k.bO (BO k))] fun r H => r = .int .i64 (befI k.ws x) ∧ H = [(50, .blk k.b (WkC k)), (60, .blk k.bO (BO k))] := by
  refine fn_viewT Tryd.func54 t54 Tryd.ntmps54 (by simp) ?_
  have hle := len_ew k.ws
  have hs := length_Sp (k.ws.flatMap EwC) ((k.cO - k.ws.length) * 5)
  unfold c54 r54
  rw [WkC_eq, BO]
  repeat' (first | (simp (disch := first | omega | (simp only [List.length_cons, List.length_nil]; first | done | omega)) only [go_sem]) | (refine allI (fun b => ?_)) | (refine allT (fun τ => ?_)) | (refine brP (fun h => ?_) (fun h => ?_) <;> (try simp only [zgx, zbx] at h)) | (apply And.intro; focus (first | omega | (simp; done) | (simp +contextual; done) | (intros; and_intros <;> first | assumption | omega) | (intros; simp_all; done) | (intro hgd; refine ⟨hgd, ?_⟩; simp [hgd]; done) | (intro hgd; simp only [zgx] at hgd ⊢; omega))) | fail)
  refine loopI (ι := Nat) (fun n => n ≤ k.ws.length) (fun n => [(14, .int .i64 n), (5, .int .i64 (befN k.ws x n)), (13, .int .i64 k.ws.length), (12, .msl 60 5 k.bO 0 k.ws.length k.cO), (1, .int .i64 x)]) (fun _ => [(50, .blk k.b (WkC k)), (60, .blk k.bO (BO k))]) (fun n => k.ws.length - n) 0 (by omega) (Ents.envH (by simp [go_sem, befN]) rfl) ?_
  intro n hn
  rw [WkC_eq, BO]
  simp (disch := first | omega | (simp only [List.length_cons, List.length_nil]; first | done | omega)) only [go_sem]
  refine brP (fun hb => ?_) (fun hb => ?_)
  · have hlt : n < k.ws.length := by simpa using hb
    have e2 := ew_at k.ws ((k.cO - k.ws.length) * 5) hlt
    have hok := hw _ (getD_memA ew0 hlt)
    have hsu : befN k.ws x (n + 1) = if x < (k.ws.getD n ew0).1.se then min (befN k.ws x n) ((k.ws.getD n ew0).1.se - 1) else befN k.ws x n := rfl
    generalize k.ws.getD n ew0 = q at *
    rw [EwC_eq] at e2
    repeat' (first | (simp (disch := first | omega | (simp only [List.length_cons, List.length_nil]; first | done | omega)) only [go_sem, e2, zEv]) | (refine allI (fun b => ?_)) | (refine allT (fun τ => ?_)) | (refine brP (fun h => ?_) (fun h => ?_) <;> (try simp only [zgx, zbx] at h)) | (apply And.intro; focus (first | omega | (simp; done) | (simp +contextual; done) | (intros; and_intros <;> first | assumption | omega) | (intros; simp_all; done) | (intro hgd; refine ⟨hgd, ?_⟩; simp [hgd]; done) | (intro hgd; simp only [zgx] at hgd ⊢; omega))) | fail)
    · rw [if_pos h] at hsu
      exact ⟨⟨n + 1, by omega⟩, by dsimp only; omega, Ents.sub (by simp [go_sem, hsu, min_if]) ⟨_, List.Sublist.cons _ (List.Sublist.refl _), List.Perm.refl _⟩⟩
    · rw [if_neg (by omega)] at hsu
      exact ⟨⟨n + 1, by omega⟩, by dsimp only; omega, Ents.sub (by simp [go_sem, hsu, min_if]) ⟨_, List.Sublist.cons _ (List.Sublist.refl _), List.Perm.refl _⟩⟩
  · have hne : n = k.ws.length := by simp only [decide_eq_false_iff_not] at hb; omega
    subst hne
    repeat' (first | (simp (disch := first | omega | (simp only [List.length_cons, List.length_nil]; first | done | omega)) only [go_sem]) | (refine allI (fun b => ?_)) | (refine allT (fun τ => ?_)) | (refine brP (fun h => ?_) (fun h => ?_) <;> (try simp only [zgx, zbx] at h)) | (apply And.intro; focus (first | omega | (simp; done) | (simp +contextual; done) | (intros; and_intros <;> first | assumption | omega) | (intros; simp_all; done) | (intro hgd; refine ⟨hgd, ?_⟩; simp [hgd]; done) | (intro hgd; simp only [zgx] at hgd ⊢; omega))) | fail)
    exact ⟨_, _, leVH.of (leV.refl _) ⟨_, List.Sublist.refl _, List.Perm.refl _⟩, rfl, rfl⟩
/-- a gap is noted -/
def gapS (gs : List Gp) (f l : Int) : List Gp := if 0 < gs.length ∧ (gs.getD (gs.length - 1) gp0).l + 1 = f then gs.set (gs.length - 1) ⟨(gs.getD (gs.length - 1) gp0).f, l⟩ else gs ++ [⟨f, l⟩]
def okGs (gs : List Gp) : Prop := ∀ x ∈ gs, (0 ≤ x.f ∧ x.f ≤ 1073741824) ∧ (0 ≤ x.l ∧ x.l ≤ 1073741824)
theorem gp_rows (gs : List Gp) (i m : Nat) (h : i < gs.length) : ∃ P R : List LV, P.length = i * 2 ∧ Sp (gs.flatMap GpC) m = P ++ (GpC (gs.getD i gp0) ++ R) ∧ ∀ x, Sp ((gs.set i x).flatMap GpC) m = P ++ (GpC x ++ R) := by
  refine ⟨(gs.take i).flatMap GpC, (gs.drop (i + 1)).flatMap GpC ++ List.replicate m .any, by rw [len_gp, List.length_take, Nat.min_eq_left (by omega)], ?_, fun x => ?_⟩
  · have e : gs = gs.take i ++ gs.getD i gp0 :: gs.drop (i + 1) := by
      conv => lhs; rw [← List.take_append_drop i gs, List.drop_eq_getElem_cons h]
      simp [List.getD, h]
    conv => lhs; rw [e]
    rw [Sp, List.flatMap_append, List.flatMap_cons]
    simp only [List.append_assoc]
  · rw [List.set_eq_take_append_cons_drop, if_pos h]
    simp [Sp]
/-- the gaps change -/
def Wk.withG (k : Wk) (gs : List Gp) (bG cG : Nat) : Wk := { k with a := { k.a with gs := gs }, bG := bG, cG := cG }
theorem zGp : zeros ([.int .i64 0, .int .i64 0] : List LV) 2 = [.int .i64 0, .int .i64 0] := Eq.trans rfl rfl
theorem gap (k : Wk) (f l : Int) (hl : k.a.gs.length ≤ 1073741824) (hc : k.a.gs.length ≤ k.cG) (hg : okGs k.a.gs) (hf : 0 ≤ f ∧ f ≤ 1073741824) : LCalls Tryd.prog gl 55 [.ptr 50 k.b 0, .int .i64 f, .int .i64 l] [(50, .blk k.b (WkC k)), (63, .blk k.bG (BG k))] fun r H => ∃ bG cG, (gapS k.a.gs f l).length ≤ cG ∧ H = [(50, .blk k.b (WkC (k.withG (gapS k.a.gs f l) bG cG))), (63, .blk bG (BG (k.withG (gapS k.a.gs f l) bG cG)))] := by
  refine fn_viewT Tryd.func55 t55 Tryd.ntmps55 (by simp) ?_
  have hle := len_gp k.a.gs
  have hs := length_Sp (k.a.gs.flatMap GpC) ((k.cG - k.a.gs.length) * 2)
  have hR : gapS k.a.gs f l = if 0 < k.a.gs.length ∧ (k.a.gs.getD (k.a.gs.length - 1) gp0).l + 1 = f then k.a.gs.set (k.a.gs.length - 1) ⟨(k.a.gs.getD (k.a.gs.length - 1) gp0).f, l⟩ else k.a.gs ++ [⟨f, l⟩] := rfl
  have fin : ∀ b2 c2, k.a.gs.length + 1 ≤ c2 → gapS k.a.gs f l = k.a.gs ++ [⟨f, l⟩] → ∃ r' H', leVH gl (.tup []) [(63, .blk b2 ((Sp (k.a.gs.flatMap GpC) ((k.cG - k.a.gs.length) * 2)).take (k.a.gs.length * 2) ++ [.int .i64 f, .int .i64 l] ++ List.replicate ((c2 - (k.a.gs.length + 1)) * 2) .any)), (50, .blk k.b [.int .i64 k.a.bo, .int .i64 k.a.nx, .int .i64 k.a.st, .msl 60 5 k.bO 0 k.ws.length k.cO, .msl 62 5 k.bL 0 k.a.ls.length k.cL, .msl 63 2 b2 0 (k.a.gs.length + 1) c2, .int .i64 k.a.la, .osl 64 k.τ 5 k.out.length (k.out.flatMap EvC)])] r' H' ∧ ∃ bG cG, (gapS k.a.gs f l).length ≤ cG ∧ H' = [(50, .blk k.b (WkC (k.withG (gapS k.a.gs f l) bG cG))), (63, .blk bG (BG (k.withG (gapS k.a.gs f l) bG cG)))] := fun b2 c2 h9 hg2 => by
    rw [hg2, take_Sp _ hle]
    refine ⟨_, _, leVH.of (leV.refl _) ⟨_, List.Sublist.refl _, List.Perm.swap _ _ _⟩, b2, c2, by simpa using h9, ?_⟩
    simp [WkC_eq, BG, Wk.withG, Sp, GpC_eq]
  unfold c55 r55
  rw [WkC_eq, BG]
  by_cases h0 : 0 < k.a.gs.length
  · have d0 : decide (0 < (k.a.gs.length : Int)) = true := by simp; omega
    obtain ⟨P, R, p1, p2, p3⟩ := gp_rows k.a.gs (k.a.gs.length - 1) ((k.cG - k.a.gs.length) * 2) (by omega)
    have hok := hg _ (getD_memA gp0 (l := k.a.gs) (i := k.a.gs.length - 1) (by omega))
    have z1 : ((k.a.gs.length : Int) - 1).toNat = k.a.gs.length - 1 := by omega
    generalize k.a.gs.getD (k.a.gs.length - 1) gp0 = q at *
    have g1 : (Sp (k.a.gs.flatMap GpC) ((k.cG - k.a.gs.length) * 2)).getD ((k.a.gs.length - 1) * 2 + 1) .any = .int .i64 q.l := by
      rw [p2, ← p1, GpC_eq]; simp [List.getD, List.getElem?_append_right]
    have hst : List.take ((k.a.gs.length - 1) * 2 + 1) (Sp (k.a.gs.flatMap GpC) ((k.cG - k.a.gs.length) * 2)) ++ [LV.int .i64 l] ++ List.drop ((k.a.gs.length - 1) * 2 + 1 + 1) (Sp (k.a.gs.flatMap GpC) ((k.cG - k.a.gs.length) * 2)) = Sp ((k.a.gs.set (k.a.gs.length - 1) ⟨q.f, l⟩).flatMap GpC) ((k.cG - k.a.gs.length) * 2) := by
      rw [p2, p3, ← p1, GpC_eq, GpC_eq]
      simp [Nat.add_assoc, List.take_length_add_append, List.drop_length_add_append]
    repeat' (first | (simp (disch := first | omega | (simp only [List.length_cons, List.length_nil]; first | done | omega)) only [go_sem, d0, z1, g1, zGp]) | (refine allI (fun b => ?_)) | (refine allT (fun τ => ?_)) | (refine brP (fun h => ?_) (fun h => ?_) <;> (try simp only [zgx, zbx] at h)) | (apply And.intro; focus (first | omega | (simp; done) | (simp +contextual; done) | (intros; and_intros <;> first | assumption | omega) | (intros; simp_all; done) | (intro hgd; refine ⟨hgd, ?_⟩; simp [hgd]; done) | (intro hgd; simp only [zgx] at hgd ⊢; omega))) | fail)
    · rw [hst]
      rw [if_pos ⟨h0, h⟩] at hR
      refine ⟨_, _, leVH.of (leV.refl _) ⟨_, List.Sublist.refl _, List.Perm.refl _⟩, k.bG, k.cG, by rw [hR, List.length_set]; exact hc, ?_⟩
      simp [WkC_eq, BG, Wk.withG, hR]
    · rw [if_neg (fun hh => h hh.2)] at hR
      exact .inl ⟨by rw [hs, hle]; omega, by rw [hs, hle]; omega, by simp only [roomy]; omega, fun b2 c2 h9 => fin b2 c2 h9 hR⟩
  · have d0 : decide (0 < (k.a.gs.length : Int)) = false := decide_eq_false (by omega)
    have hany : ∀ j, (Sp (k.a.gs.flatMap GpC) ((k.cG - k.a.gs.length) * 2)).getD j .any = .any := fun j => by
      have : k.a.gs = [] := List.length_eq_zero_iff.1 (by omega)
      rw [this]
      simp [Sp, List.getD, List.getElem?_replicate]
      split <;> rfl
    repeat' (first | (simp (disch := first | omega | (simp only [List.length_cons, List.length_nil]; first | done | omega)) only [go_sem, d0, hany, bin_anyL, bin_anyR, pick_0a0, zGp]) | (refine allI (fun b => ?_)) | (refine allT (fun τ => ?_)) | (refine brP (fun h => ?_) (fun h => ?_) <;> (try simp only [zgx, zbx] at h)) | (apply And.intro; focus (first | omega | (simp; done) | (simp +contextual; done) | (intros; and_intros <;> first | assumption | omega) | (intros; simp_all; done) | (intro hgd; refine ⟨hgd, ?_⟩; simp [hgd]; done) | (intro hgd; simp only [zgx] at hgd ⊢; omega))) | fail)
    rw [if_neg (fun hh => h0 hh.1)] at hR
    exact .inl ⟨by rw [hs, hle]; omega, by rw [hs, hle]; omega, by simp only [roomy]; omega, fun b2 c2 h9 => fin b2 c2 h9 hR⟩
end Go.Proofs.YtfheeghkajihoaaDoor
