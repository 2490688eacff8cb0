/- Layer 22: looking into an assembler (the reference). -/
import Derived.Test.YtfheeghkajihoaaDoorBm
import Derived.Test.YtfheeghkajihoaaDoorCoda
import Derived.Test.YtfheeghkajihoaaDoorXf
namespace Go.Proofs.YtfheeghkajihoaaDoor
open Go Go.Lx
set_option linter.unusedSimpArgs false
set_option linter.unusedVariables false
set_option maxRecDepth 100000
set_option maxHeartbeats 4000000

theorem gd_sp {α : Type} {f : α → List LV} {w : Nat} (hf : ∀ a, (f a).length = w) {j : Nat} (hj : j < w) (d : α) (l : List α) (i m : Nat) (h : i < l.length) : (Sp (l.flatMap f) m).getD (i * w + j) .any = (f (l.getD i d)).getD j .any := by
  rw [← getD_rows hf hj d l i h]
  have hl := length_rows (f := f) (w := w) hf l
  have h2 : i * w + j < (l.flatMap f).length := by
    rw [hl]
    have : (i + 1) * w ≤ l.length * w := Nat.mul_le_mul_right w h
    rw [Nat.succ_mul] at this
    omega
  simp only [Sp, List.getD, List.getElem?_append_left h2]
/-- the reference's assembler -/
def RkC (k : Wk) : List LV := [.int .i64 k.a.bo, .int .i64 k.a.nx, .int .i64 k.a.st, .msl 60 5 k.bO 0 k.ws.length k.cO, .msl 62 5 k.bL 0 k.a.ls.length k.cL, .msl 63 2 k.bG 0 k.a.gs.length k.cG, .int .i64 k.a.la]
theorem RkC_eq (k : Wk) : RkC k = [.int .i64 k.a.bo, .int .i64 k.a.nx, .int .i64 k.a.st, .msl 60 5 k.bO 0 k.ws.length k.cO, .msl 62 5 k.bL 0 k.a.ls.length k.cL, .msl 63 2 k.bG 0 k.a.gs.length k.cG, .int .i64 k.a.la] := Eq.trans rfl rfl
theorem heldR (k : Wk) (s : Int) (hl : k.ws.length ≤ 1000000000) : LCalls Tryd.prog gl 60 [.ptr 50 k.b 0, .int .i64 s] [(50, .blk k.b (RkC k)), (60, .blk k.bO (BO k))] fun r H => r = .int .i64 (heldI k.ws s) ∧ H = [(50, .blk k.b (RkC k)), (60, .blk k.bO (BO k))] := by
  refine fn_viewT Tryd.func60 t60 Tryd.ntmps60 (by simp) ?_
  have hle := len_ew k.ws
  have hs := length_Sp (k.ws.flatMap EwC) ((k.cO - k.ws.length) * 5)
  have hE : heldI k.ws s = fstI k.ws.length fun i => (k.ws.getD i ew0).1.se == s := rfl
  unfold c60 r60
  rw [RkC_eq, BO]
  repeat' (first | (simp (disch := first | omega | (simp only [List.length_cons, List.length_nil]; first | done | omega)) only [go_sem]) | (refine allI (fun b => ?_)) | (refine allT (fun τ => ?_)) | (refine brP (fun h => ?_) (fun h => ?_) <;> (try simp only [zgx, zbx] at h)) | (apply And.intro; focus (first | omega | (simp; done) | (simp +contextual; done) | (intros; and_intros <;> first | assumption | omega) | (intros; simp_all; done) | (intro hgd; refine ⟨hgd, ?_⟩; simp [hgd]; done) | (intro hgd; simp only [zgx] at hgd ⊢; omega))) | fail)
  refine loopI (ι := Nat) (fun n => n ≤ k.ws.length ∧ ∀ j, j < n → ((k.ws.getD j ew0).1.se == s) = false) (fun n => (5, .int .i64 n) :: _) (fun _ => _) (fun n => k.ws.length - n) 0 ⟨by omega, fun j hj => by omega⟩ Ents.same ?_
  rintro n ⟨hn, hno⟩
  simp (disch := first | omega | (simp only [List.length_cons, List.length_nil]; first | done | omega)) only [go_sem]
  refine brP (fun hb => ?_) (fun hb => ?_)
  · have hlt : n < k.ws.length := by simpa using hb
    have g1 := gd_sp (f := EwC) (w := 5) (fun _ => rfl) (j := 1) (by omega) ew0 k.ws n ((k.cO - k.ws.length) * 5) hlt
    have hq : ((k.ws.getD n ew0).1.se == s) = decide ((k.ws.getD n ew0).1.se = s) := by
      rw [Bool.eq_iff_iff]; simp
    rw [EwC_eq] at g1
    simp only [List.getD_cons_zero, List.getD_cons_succ] at g1
    generalize hse : (k.ws.getD n ew0).1.se = se at *
    repeat' (first | (simp (disch := first | omega | (simp only [List.length_cons, List.length_nil]; first | done | omega)) only [go_sem, g1]) | (refine allI (fun b => ?_)) | (refine allT (fun τ => ?_)) | (refine brP (fun h => ?_) (fun h => ?_) <;> (try simp only [zgx, zbx] at h)) | (apply And.intro; focus (first | omega | (simp; done) | (simp +contextual; done) | (intros; and_intros <;> first | assumption | omega) | (intros; simp_all; done) | (intro hgd; refine ⟨hgd, ?_⟩; simp [hgd]; done) | (intro hgd; simp only [zgx] at hgd ⊢; omega))) | fail)
    · have hi := fstI_is (n := k.ws.length) (p := fun i => (k.ws.getD i ew0).1.se == s) hlt (by rw [hse]; simpa using h) hno
      exact ⟨_, _, leVH.of (leV.of_eq (by rw [hE, hi])) ⟨_, List.Sublist.refl _, List.Perm.refl _⟩, rfl, rfl⟩
    · refine ⟨⟨n + 1, by omega, fun j hj => ?_⟩, by dsimp only; omega, Ents.sub (by simp [go_sem]) ⟨_, List.Sublist.refl _, List.Perm.refl _⟩⟩
      rcases Nat.lt_or_ge j n with h1 | h1
      · exact hno j h1
      · rw [show j = n by omega, hse]; simpa using h
  · have hne : n = k.ws.length := by simp only [decide_eq_false_iff_not] at hb; omega
    subst hne
    repeat' (first | (simp (disch := first | omega | (simp only [List.length_cons, List.length_nil]; first | done | omega)) only [go_sem]) | (refine allI (fun b => ?_)) | (refine allT (fun τ => ?_)) | (refine brP (fun h => ?_) (fun h => ?_) <;> (try simp only [zgx, zbx] at h)) | (apply And.intro; focus (first | omega | (simp; done) | (simp +contextual; done) | (intros; and_intros <;> first | assumption | omega) | (intros; simp_all; done) | (intro hgd; refine ⟨hgd, ?_⟩; simp [hgd]; done) | (intro hgd; simp only [zgx] at hgd ⊢; omega))) | fail)
    exact ⟨_, _, leVH.of (leV.of_eq (by rw [hE, fstI_none hno])) ⟨_, List.Sublist.refl _, List.Perm.refl _⟩, rfl, rfl⟩
/-- the first range that covers a number -/
def covF (ls : List Ls) (x : Int) : Int := fstI ls.length fun i => decide ((ls.getD i ls0).f ≤ x) && decide (x ≤ (ls.getD i ls0).l)
/-- the last number of it; 0 if there is none -/
def covE (ls : List Ls) (x : Int) : Int := if covF ls x < 0 then 0 else (ls.getD (covF ls x).toNat ls0).l
theorem covR (k : Wk) (x : Int) (hl : k.a.ls.length ≤ 1000000000) : LCalls Tryd.prog gl 64 [.ptr 50 k.b 0, .int .i64 x] [(50, .blk k.b (RkC k)), (62, .blk k.bL (BL k))] fun r H => r = .int .i64 (covE k.a.ls x) ∧ H = [(50, .blk k.b (RkC k)), (62, .blk k.bL (BL k))] := by
  refine fn_viewT Tryd.func64 t64 Tryd.ntmps64 (by simp) ?_
  have hle := len_ls k.a.ls
  have hs := length_Sp (k.a.ls.flatMap LsC) ((k.cL - k.a.ls.length) * 5)
  unfold c64 r64
  rw [RkC_eq, BL]
  repeat' (first | (simp (disch := first | omega | (simp only [List.length_cons, List.length_nil]; first | done | omega)) only [go_sem]) | (refine allI (fun b => ?_)) | (refine allT (fun τ => ?_)) | (refine brP (fun h => ?_) (fun h => ?_) <;> (try simp only [zgx, zbx] at h)) | (apply And.intro; focus (first | omega | (simp; done) | (simp +contextual; done) | (intros; and_intros <;> first | assumption | omega) | (intros; simp_all; done) | (intro hgd; refine ⟨hgd, ?_⟩; simp [hgd]; done) | (intro hgd; simp only [zgx] at hgd ⊢; omega))) | fail)
  refine loopI (ι := Nat) (fun n => n ≤ k.a.ls.length ∧ ∀ j, j < n → (decide ((k.a.ls.getD j ls0).f ≤ x) && decide (x ≤ (k.a.ls.getD j ls0).l)) = false) (fun n => (5, .int .i64 n) :: _) (fun _ => _) (fun n => k.a.ls.length - n) 0 ⟨by omega, fun j hj => by omega⟩ Ents.same ?_
  rintro n ⟨hn, hno⟩
  simp (disch := first | omega | (simp only [List.length_cons, List.length_nil]; first | done | omega)) only [go_sem]
  refine brP (fun hb => ?_) (fun hb => ?_)
  · have hlt : n < k.a.ls.length := by simpa using hb
    have g0 := gd_sp (f := LsC) (w := 5) (fun _ => rfl) (j := 0) (by omega) ls0 k.a.ls n ((k.cL - k.a.ls.length) * 5) hlt
    have g1 := gd_sp (f := LsC) (w := 5) (fun _ => rfl) (j := 1) (by omega) ls0 k.a.ls n ((k.cL - k.a.ls.length) * 5) hlt
    rw [LsC_eq] at g0 g1
    simp only [List.getD_cons_zero, List.getD_cons_succ, Nat.add_zero] at g0 g1
    have hi := fstI_is (n := k.a.ls.length) (p := fun i => decide ((k.a.ls.getD i ls0).f ≤ x) && decide (x ≤ (k.a.ls.getD i ls0).l)) (i := n) hlt
    have hnx : ((decide ((k.a.ls.getD n ls0).f ≤ x) && decide (x ≤ (k.a.ls.getD n ls0).l)) = false) → ∀ j, j < n + 1 → (decide ((k.a.ls.getD j ls0).f ≤ x) && decide (x ≤ (k.a.ls.getD j ls0).l)) = false := fun h j hj => by
      rcases Nat.lt_or_ge j n with h1 | h1
      · exact hno j h1
      · rw [show j = n by omega]; exact h
    have hcE : fstI k.a.ls.length (fun i => decide ((k.a.ls.getD i ls0).f ≤ x) && decide (x ≤ (k.a.ls.getD i ls0).l)) = n → covE k.a.ls x = (k.a.ls.getD n ls0).l := fun h => by
      rw [covE, covF, h, if_neg (by omega), Int.toNat_natCast]
    generalize hq : k.a.ls.getD n ls0 = q at *
    rcases Bool.eq_false_or_eq_true (decide (q.f ≤ x)) with d1 | d1
    · rcases Bool.eq_false_or_eq_true (decide (x ≤ q.l)) with d2 | d2
      · repeat' (first | (simp (disch := first | omega | (simp only [List.length_cons, List.length_nil]; first | done | omega)) only [go_sem, g0, g1, d1, d2]) | (refine allI (fun b => ?_)) | (refine allT (fun τ => ?_)) | (refine brP (fun h => ?_) (fun h => ?_) <;> (try simp only [zgx, zbx] at h)) | (apply And.intro; focus (first | omega | (simp; done) | (simp +contextual; done) | (intros; and_intros <;> first | assumption | omega) | (intros; simp_all; done) | (intro hgd; refine ⟨hgd, ?_⟩; simp [hgd]; done) | (intro hgd; simp only [zgx] at hgd ⊢; omega))) | fail)
        exact ⟨_, _, leVH.of (leV.of_eq (by rw [hcE (hi (by rw [d1, d2]; rfl) hno)])) ⟨_, List.Sublist.refl _, List.Perm.refl _⟩, rfl, rfl⟩
      · repeat' (first | (simp (disch := first | omega | (simp only [List.length_cons, List.length_nil]; first | done | omega)) only [go_sem, g0, g1, d1, d2]) | (refine allI (fun b => ?_)) | (refine allT (fun τ => ?_)) | (refine brP (fun h => ?_) (fun h => ?_) <;> (try simp only [zgx, zbx] at h)) | (apply And.intro; focus (first | omega | (simp; done) | (simp +contextual; done) | (intros; and_intros <;> first | assumption | omega) | (intros; simp_all; done) | (intro hgd; refine ⟨hgd, ?_⟩; simp [hgd]; done) | (intro hgd; simp only [zgx] at hgd ⊢; omega))) | fail)
        exact ⟨⟨n + 1, by omega, hnx (by rw [d1, d2]; rfl)⟩, by dsimp only; omega, Ents.sub (by simp [go_sem]) ⟨_, List.Sublist.refl _, List.Perm.refl _⟩⟩
    · repeat' (first | (simp (disch := first | omega | (simp only [List.length_cons, List.length_nil]; first | done | omega)) only [go_sem, g0, g1, d1]) | (refine allI (fun b => ?_)) | (refine allT (fun τ => ?_)) | (refine brP (fun h => ?_) (fun h => ?_) <;> (try simp only [zgx, zbx] at h)) | (apply And.intro; focus (first | omega | (simp; done) | (simp +contextual; done) | (intros; and_intros <;> first | assumption | omega) | (intros; simp_all; done) | (intro hgd; refine ⟨hgd, ?_⟩; simp [hgd]; done) | (intro hgd; simp only [zgx] at hgd ⊢; omega))) | fail)
      exact ⟨⟨n + 1, by omega, hnx (by rw [d1]; rfl)⟩, by dsimp only; omega, Ents.sub (by simp [go_sem]) ⟨_, List.Sublist.refl _, List.Perm.refl _⟩⟩
  · have hne : n = k.a.ls.length := by simp only [decide_eq_false_iff_not] at hb; omega
    subst hne
    repeat' (first | (simp (disch := first | omega | (simp only [List.length_cons, List.length_nil]; first | done | omega)) only [go_sem]) | (refine allI (fun b => ?_)) | (refine allT (fun τ => ?_)) | (refine brP (fun h => ?_) (fun h => ?_) <;> (try simp only [zgx, zbx] at h)) | (apply And.intro; focus (first | omega | (simp; done) | (simp +contextual; done) | (intros; and_intros <;> first | assumption | omega) | (intros; simp_all; done) | (intro hgd; refine ⟨hgd, ?_⟩; simp [hgd]; done) | (intro hgd; simp only [zgx] at hgd ⊢; omega))) | fail)
    exact ⟨_, _, leVH.of (leV.of_eq (by rw [covE, covF, fstI_none hno]; rfl)) ⟨_, List.Sublist.refl _, List.Perm.refl _⟩, rfl, rfl⟩
theorem bound (k : Wk) (x to : Int) (hl : k.ws.length ≤ 1000000000) (hL : k.a.ls.length ≤ 1000000000) (hw : okWs k.ws) (hs : okLs k.a.ls) (ht : -1000000000 ≤ to ∧ to ≤ 1073741824) : LCalls Tryd.prog gl 65 [.ptr 50 k.b 0, .int .i64 x, .int .i64 to] [(50, .blk k.b (RkC k)), (60, .blk k.bO (BO k)), (62, .blk k.bL (BL k))] fun r H => r = .int .i64 (losI k.a.ls x (min to (befI k.ws x))) ∧ H = [(50, .blk k.b (RkC k)), (60, .blk k.bO (BO k)), (62, .blk k.bL (BL k))] := by
  refine fn_viewT Tryd.func65 t65 Tryd.ntmps65 (by simp) ?_
  have hle := len_ew k.ws
  have hlS := length_Sp (k.ws.flatMap EwC) ((k.cO - k.ws.length) * 5)
  have hlL := len_ls k.a.ls
  have hlT := length_Sp (k.a.ls.flatMap LsC) ((k.cL - k.a.ls.length) * 5)
  unfold c65 r65
  rw [RkC_eq, BO, BL]
  repeat' (first | (simp (disch := first | omega | (simp only [List.length_cons, List.length_nil]; first | done | omega)) only [go_sem]) | (refine allI (fun b => ?_)) | (refine allT (fun τ => ?_)) | (refine brP (fun h => ?_) (fun h => ?_) <;> (try simp only [zgx, zbx] at h)) | (apply And.intro; focus (first | omega | (simp; done) | (simp +contextual; done) | (intros; and_intros <;> first | assumption | omega) | (intros; simp_all; done) | (intro hgd; refine ⟨hgd, ?_⟩; simp [hgd]; done) | (intro hgd; simp only [zgx] at hgd ⊢; omega))) | fail)
  refine loopI (ι := Nat) (fun n => n ≤ k.ws.length) (fun n => [(7, .int .i64 n), (2, .int .i64 (min to (befN k.ws x n))), (0, .ptr 50 k.b 0), (1, .int .i64 x)]) (fun _ => _) (fun n => k.ws.length - n) 0 (by omega) (Ents.envH (by simp [go_sem, befN]; omega) rfl) ?_
  intro n hn
  simp (disch := first | omega | (simp only [List.length_cons, List.length_nil]; first | done | omega)) only [go_sem]
  refine brP (fun hb => ?_) (fun hb => ?_)
  · have hlt : n < k.ws.length := by simpa using hb
    have g1 := gd_sp (f := EwC) (w := 5) (fun _ => rfl) (j := 1) (by omega) ew0 k.ws n ((k.cO - k.ws.length) * 5) hlt
    have hok := hw _ (getD_memA ew0 hlt)
    have hsu : befN k.ws x (n + 1) = if x < (k.ws.getD n ew0).1.se then min (befN k.ws x n) ((k.ws.getD n ew0).1.se - 1) else befN k.ws x n := rfl
    rw [EwC_eq] at g1
    simp only [List.getD_cons_zero, List.getD_cons_succ] at g1
    generalize (k.ws.getD n ew0).1.se = se at *
    repeat' (first | (simp (disch := first | omega | (simp only [List.length_cons, List.length_nil]; first | done | omega)) only [go_sem, g1]) | (refine allI (fun b => ?_)) | (refine allT (fun τ => ?_)) | (refine brP (fun h => ?_) (fun h => ?_) <;> (try simp only [zgx, zbx] at h)) | (apply And.intro; focus (first | omega | (simp; done) | (simp +contextual; done) | (intros; and_intros <;> first | assumption | omega) | (intros; simp_all; done) | (intro hgd; refine ⟨hgd, ?_⟩; simp [hgd]; done) | (intro hgd; simp only [zgx] at hgd ⊢; omega))) | fail)
    · rw [if_pos h] at hsu
      exact ⟨⟨n + 1, by omega⟩, by dsimp only; omega, Ents.sub (by simp [go_sem, hsu, min_if, Int.min_assoc]) ⟨_, List.Sublist.refl _, List.Perm.refl _⟩⟩
    · rw [if_neg (by omega)] at hsu
      exact ⟨⟨n + 1, by omega⟩, by dsimp only; omega, Ents.sub (by simp [go_sem, hsu, min_if]) ⟨_, List.Sublist.refl _, List.Perm.refl _⟩⟩
  · have hne : n = k.ws.length := by simp only [decide_eq_false_iff_not] at hb; omega
    subst hne
    rw [show befN k.ws x k.ws.length = befI k.ws x from rfl]
    generalize min to (befI k.ws x) = m at *
    repeat' (first | (simp (disch := first | omega | (simp only [List.length_cons, List.length_nil]; first | done | omega)) only [go_sem]) | (refine allI (fun b => ?_)) | (refine allT (fun τ => ?_)) | (refine brP (fun h => ?_) (fun h => ?_) <;> (try simp only [zgx, zbx] at h)) | (apply And.intro; focus (first | omega | (simp; done) | (simp +contextual; done) | (intros; and_intros <;> first | assumption | omega) | (intros; simp_all; done) | (intro hgd; refine ⟨hgd, ?_⟩; simp [hgd]; done) | (intro hgd; simp only [zgx] at hgd ⊢; omega))) | fail)
    refine loopI (ι := Nat) (fun n => n ≤ k.a.ls.length) (fun n => [(8, .int .i64 n), (2, .int .i64 (losN k.a.ls x m n)), (0, .ptr 50 k.b 0), (1, .int .i64 x)]) (fun _ => _) (fun n => k.a.ls.length - n) 0 (by omega) (Ents.envH (by simp [go_sem, losN]) rfl) ?_
    intro n hn
    simp (disch := first | omega | (simp only [List.length_cons, List.length_nil]; first | done | omega)) only [go_sem]
    refine brP (fun hb => ?_) (fun hb => ?_)
    · have hlt : n < k.a.ls.length := by simpa using hb
      have g1 := gd_sp (f := LsC) (w := 5) (fun _ => rfl) (j := 0) (by omega) ls0 k.a.ls n ((k.cL - k.a.ls.length) * 5) hlt
      have hok := hs _ (getD_memA ls0 hlt)
      have hsu : losN k.a.ls x m (n + 1) = if x < (k.a.ls.getD n ls0).f then min (losN k.a.ls x m n) ((k.a.ls.getD n ls0).f - 1) else losN k.a.ls x m n := rfl
      rw [LsC_eq] at g1
      simp only [List.getD_cons_zero, List.getD_cons_succ, Nat.add_zero] at g1
      generalize k.a.ls.getD n ls0 = q at *
      repeat' (first | (simp (disch := first | omega | (simp only [List.length_cons, List.length_nil]; first | done | omega)) only [go_sem, g1]) | (refine allI (fun b => ?_)) | (refine allT (fun τ => ?_)) | (refine brP (fun h => ?_) (fun h => ?_) <;> (try simp only [zgx, zbx] at h)) | (apply And.intro; focus (first | omega | (simp; done) | (simp +contextual; done) | (intros; and_intros <;> first | assumption | omega) | (intros; simp_all; done) | (intro hgd; refine ⟨hgd, ?_⟩; simp [hgd]; done) | (intro hgd; simp only [zgx] at hgd ⊢; omega))) | fail)
      · rw [if_pos h] at hsu
        exact ⟨⟨n + 1, by omega⟩, by dsimp only; omega, Ents.sub (by simp [go_sem, hsu, min_if]) ⟨_, List.Sublist.refl _, List.Perm.refl _⟩⟩
      · rw [if_neg (by omega)] at hsu
        exact ⟨⟨n + 1, by omega⟩, by dsimp only; omega, Ents.sub (by simp [go_sem, hsu, min_if]) ⟨_, List.Sublist.refl _, List.Perm.refl _⟩⟩
    · have hne : n = k.a.ls.length := by simp only [decide_eq_false_iff_not] at hb; omega
      subst hne
      repeat' (first | (simp (disch := first | omega | (simp only [List.length_cons, List.length_nil]; first | done | omega)) only [go_sem]) | (refine allI (fun b => ?_)) | (refine allT (fun τ => ?_)) | (refine brP (fun h => ?_) (fun h => ?_) <;> (try simp only [zgx, zbx] at h)) | (apply And.intro; focus (first | omega | (simp; done) | (simp +contextual; done) | (intros; and_intros <;> first | assumption | omega) | (intros; simp_all; done) | (intro hgd; refine ⟨hgd, ?_⟩; simp [hgd]; done) | (intro hgd; simp only [zgx] at hgd ⊢; omega))) | fail)
      exact ⟨_, _, leVH.of (leV.refl _) ⟨_, List.Sublist.refl _, List.Perm.refl _⟩, rfl, rfl⟩
end Go.Proofs.YtfheeghkajihoaaDoor

/- Layer 22: gaps and ranges (the reference). -/
namespace Go.Proofs.YtfheeghkajihoaaDoor
open Go Go.Lx
set_option linter.unusedSimpArgs false
set_option linter.unusedVariables false
set_option maxRecDepth 100000
set_option maxHeartbeats 4000000

theorem Ents.emp {gl : Glob} {env env' : Env} {H : Heap} (id : Nat) (he : envLe env env') : Ents gl env H env' ((id, .blk 0 []) :: H) := Ents.mk he.get fun _ _ _ _ hI => Inv.empty hI id 0
theorem heapLe.refl : ∀ H : Heap, heapLe H H
  | [] => trivial
  | (_, .blk _ _) :: H => ⟨⟨rfl, leVs.refl _⟩, heapLe.refl H⟩
  | (_, .tok _) :: H => ⟨rfl, heapLe.refl H⟩
  | (_, .map _ _) :: H => ⟨⟨rfl, rfl⟩, heapLe.refl H⟩
theorem Ents.empC {gl : Glob} {env env' : Env} {H H' : Heap} (id : Nat) (h : Ents gl env ((id, .blk 0 []) :: H) env' H') : Ents gl env H env' H' := fun vv n w0 M HF w a hI hF => h vv n w0 M HF w a (Inv.empty hI id 0) hF
theorem gapR (k : Wk) (f l : Int) (hl : k.a.gs.length ≤ 1073741824) (hc : k.a.gs.length ≤ k.cG) (hg : okGs k.a.gs) (hf : 0 ≤ f ∧ f ≤ 1073741824) : LCalls Tryd.prog gl 66 [.ptr 50 k.b 0, .int .i64 f, .int .i64 l] [(50, .blk k.b (RkC k)), (63, .blk k.bG (BG k))] fun r H => ∃ bG cG, (gapS k.a.gs f l).length ≤ cG ∧ H = [(50, .blk k.b (RkC (k.withG (gapS k.a.gs f l) bG cG))), (63, .blk bG (BG (k.withG (gapS k.a.gs f l) bG cG)))] := by
  refine fn_viewT Tryd.func66 t66 Tryd.ntmps66 (by simp) ?_
  have hle := len_gp k.a.gs
  have hs := length_Sp (k.a.gs.flatMap GpC) ((k.cG - k.a.gs.length) * 2)
  have hR : gapS k.a.gs f l = if 0 < k.a.gs.length ∧ (k.a.gs.getD (k.a.gs.length - 1) gp0).l + 1 = f then k.a.gs.set (k.a.gs.length - 1) ⟨(k.a.gs.getD (k.a.gs.length - 1) gp0).f, l⟩ else k.a.gs ++ [⟨f, l⟩] := rfl
  have fin : ∀ b2 c2, k.a.gs.length + 1 ≤ c2 → gapS k.a.gs f l = k.a.gs ++ [⟨f, l⟩] → ∃ r' H', leVH gl (.tup []) [(63, .blk b2 ((Sp (k.a.gs.flatMap GpC) ((k.cG - k.a.gs.length) * 2)).take (k.a.gs.length * 2) ++ [.int .i64 f, .int .i64 l] ++ List.replicate ((c2 - (k.a.gs.length + 1)) * 2) .any)), (50, .blk k.b [.int .i64 k.a.bo, .int .i64 k.a.nx, .int .i64 k.a.st, .msl 60 5 k.bO 0 k.ws.length k.cO, .msl 62 5 k.bL 0 k.a.ls.length k.cL, .msl 63 2 b2 0 (k.a.gs.length + 1) c2, .int .i64 k.a.la])] r' H' ∧ ∃ bG cG, (gapS k.a.gs f l).length ≤ cG ∧ H' = [(50, .blk k.b (RkC (k.withG (gapS k.a.gs f l) bG cG))), (63, .blk bG (BG (k.withG (gapS k.a.gs f l) bG cG)))] := fun b2 c2 h9 hg2 => by
    rw [hg2, take_Sp _ hle]
    refine ⟨_, _, leVH.of (leV.refl _) ⟨_, List.Sublist.refl _, List.Perm.swap _ _ _⟩, b2, c2, by simpa using h9, ?_⟩
    simp [RkC_eq, BG, Wk.withG, Sp, GpC_eq]
  unfold c66 r66
  rw [RkC_eq, BG]
  by_cases h0 : 0 < k.a.gs.length
  · have d0 : decide (0 < (k.a.gs.length : Int)) = true := by simp; omega
    obtain ⟨P, R, p1, p2, p3⟩ := gp_rows k.a.gs (k.a.gs.length - 1) ((k.cG - k.a.gs.length) * 2) (by omega)
    have hok := hg _ (getD_memA gp0 (l := k.a.gs) (i := k.a.gs.length - 1) (by omega))
    have z1 : ((k.a.gs.length : Int) - 1).toNat = k.a.gs.length - 1 := by omega
    generalize k.a.gs.getD (k.a.gs.length - 1) gp0 = q at *
    have g1 : (Sp (k.a.gs.flatMap GpC) ((k.cG - k.a.gs.length) * 2)).getD ((k.a.gs.length - 1) * 2 + 1) .any = .int .i64 q.l := by
      rw [p2, ← p1, GpC_eq]; simp [List.getD, List.getElem?_append_right]
    have hst : List.take ((k.a.gs.length - 1) * 2 + 1) (Sp (k.a.gs.flatMap GpC) ((k.cG - k.a.gs.length) * 2)) ++ [LV.int .i64 l] ++ List.drop ((k.a.gs.length - 1) * 2 + 1 + 1) (Sp (k.a.gs.flatMap GpC) ((k.cG - k.a.gs.length) * 2)) = Sp ((k.a.gs.set (k.a.gs.length - 1) ⟨q.f, l⟩).flatMap GpC) ((k.cG - k.a.gs.length) * 2) := by
      rw [p2, p3, ← p1, GpC_eq, GpC_eq]
      simp [Nat.add_assoc, List.take_length_add_append, List.drop_length_add_append]
    repeat' (first | (simp (disch := first | omega | (simp only [List.length_cons, List.length_nil]; first | done | omega)) only [go_sem, d0, z1, g1, zGp]) | (refine allI (fun b => ?_)) | (refine allT (fun τ => ?_)) | (refine brP (fun h => ?_) (fun h => ?_) <;> (try simp only [zgx, zbx] at h)) | (apply And.intro; focus (first | omega | (simp; done) | (simp +contextual; done) | (intros; and_intros <;> first | assumption | omega) | (intros; simp_all; done) | (intro hgd; refine ⟨hgd, ?_⟩; simp [hgd]; done) | (intro hgd; simp only [zgx] at hgd ⊢; omega))) | fail)
    · rw [hst]
      rw [if_pos ⟨h0, by omega⟩] at hR
      refine ⟨_, _, leVH.of (leV.refl _) ⟨_, List.Sublist.refl _, List.Perm.refl _⟩, k.bG, k.cG, by rw [hR, List.length_set]; exact hc, ?_⟩
      simp [RkC_eq, BG, Wk.withG, hR]
    · rw [if_neg (fun hh => h (by omega))] at hR
      exact .inl ⟨by rw [hs, hle]; omega, by rw [hs, hle]; omega, by simp only [roomy]; omega, fun b2 c2 h9 => fin b2 c2 h9 hR⟩
  · have d0 : decide (0 < (k.a.gs.length : Int)) = false := decide_eq_false (by omega)
    have hany : ∀ j, (Sp (k.a.gs.flatMap GpC) ((k.cG - k.a.gs.length) * 2)).getD j .any = .any := fun j => by
      have : k.a.gs = [] := List.length_eq_zero_iff.1 (by omega)
      rw [this]
      simp [Sp, List.getD, List.getElem?_replicate]
      split <;> rfl
    repeat' (first | (simp (disch := first | omega | (simp only [List.length_cons, List.length_nil]; first | done | omega)) only [go_sem, d0, hany, bin_anyL, bin_anyR, pick_0a0, zGp]) | (refine allI (fun b => ?_)) | (refine allT (fun τ => ?_)) | (refine brP (fun h => ?_) (fun h => ?_) <;> (try simp only [zgx, zbx] at h)) | (apply And.intro; focus (first | omega | (simp; done) | (simp +contextual; done) | (intros; and_intros <;> first | assumption | omega) | (intros; simp_all; done) | (intro hgd; refine ⟨hgd, ?_⟩; simp [hgd]; done) | (intro hgd; simp only [zgx] at hgd ⊢; omega))) | fail)
    rw [if_neg (fun hh => h0 hh.1)] at hR
    exact .inl ⟨by rw [hs, hle]; omega, by rw [hs, hle]; omega, by simp only [roomy]; omega, fun b2 c2 h9 => fin b2 c2 h9 hR⟩
/-- with other ranges -/
def Wk.withL (k : Wk) (ls : List Ls) (bL cL : Nat) : Wk := { k with a := { k.a with ls := ls }, bL := bL, cL := cL }
theorem trimR (k : Wk) (hl : k.a.ls.length ≤ 1000000000) : LCalls Tryd.prog gl 67 [.ptr 50 k.b 0] [(50, .blk k.b (RkC k)), (62, .blk k.bL (BL k))] fun r H => ∃ bL cL, (keepL k.a.ls k.a.nx).length ≤ cL ∧ H = [(50, .blk k.b (RkC (k.withL (keepL k.a.ls k.a.nx) bL cL))), (62, .blk bL (BL (k.withL (keepL k.a.ls k.a.nx) bL cL)))] := by
  refine fn_viewT Tryd.func67 t67 Tryd.ntmps67 (by simp) ?_
  have hle := len_ls k.a.ls
  have hs := length_Sp (k.a.ls.flatMap LsC) ((k.cL - k.a.ls.length) * 5)
  unfold c67 r67
  rw [RkC_eq k, BL]
  repeat' (first | (simp (disch := first | omega | (simp only [List.length_cons, List.length_nil]; first | done | omega)) only [go_sem]) | (refine allI (fun b => ?_)) | (refine allT (fun τ => ?_)) | (refine brP (fun h => ?_) (fun h => ?_) <;> (try simp only [zgx, zbx] at h)) | (apply And.intro; focus (first | omega | (simp; done) | (simp +contextual; done) | (intros; and_intros <;> first | assumption | omega) | (intros; simp_all; done) | (intro hgd; refine ⟨hgd, ?_⟩; simp [hgd]; done) | (intro hgd; simp only [zgx] at hgd ⊢; omega))) | fail)
  refine loopI (ι := Nat × Nat × Nat) (fun y => y.1 ≤ k.a.ls.length ∧ (keepL (k.a.ls.take y.1) k.a.nx).length ≤ y.2.2) (fun y => [(3, .int .i64 y.1), (2, .msl 35 5 y.2.1 0 (keepL (k.a.ls.take y.1) k.a.nx).length y.2.2), (0, .ptr 50 k.b 0)]) (fun y => (35, .blk y.2.1 (Sp ((keepL (k.a.ls.take y.1) k.a.nx).flatMap LsC) ((y.2.2 - (keepL (k.a.ls.take y.1) k.a.nx).length) * 5))) :: _) (fun y => k.a.ls.length - y.1) (0, 0, 0) ⟨by dsimp only; omega, by simp [keepL]⟩ (Ents.emp 35 ?_) ?_
  · simp only [envLe, Lx.get, if_true, Nat.reduceEqDiff, if_false]
    exact ⟨leV.refl _, leV.nil_msl _ _ _, leV.refl _, trivial⟩
  rintro ⟨n, b2, c2⟩ ⟨hn, hk⟩
  dsimp only at hn hk ⊢
  have hK := len_ls (keepL (k.a.ls.take n) k.a.nx)
  have hKn : (keepL (k.a.ls.take n) k.a.nx).length ≤ n := by
    have := keep_le (k.a.ls.take n) k.a.nx
    rw [List.length_take] at this
    omega
  simp (disch := first | omega | (simp only [List.length_cons, List.length_nil]; first | done | omega)) only [go_sem]
  refine brP (fun hb => ?_) (fun hb => ?_)
  · have hlt : n < k.a.ls.length := by simpa using hb
    have g1 := gd_sp (f := LsC) (w := 5) (fun _ => rfl) (j := 1) (by omega) ls0 k.a.ls n ((k.cL - k.a.ls.length) * 5) hlt
    have e2 := ls_at k.a.ls ((k.cL - k.a.ls.length) * 5) hlt
    have hkt := keep_take (nx := k.a.nx) hlt
    generalize k.a.ls.getD n ls0 = q at *
    rw [LsC_eq] at g1 e2
    simp only [List.getD_cons_zero, List.getD_cons_succ] at g1
    have hSK := length_Sp ((keepL (k.a.ls.take n) k.a.nx).flatMap LsC) ((c2 - (keepL (k.a.ls.take n) k.a.nx).length) * 5)
    repeat' (first | (simp (disch := first | omega | (simp only [List.length_cons, List.length_nil]; first | done | omega)) only [go_sem, g1, e2, zLs]) | (refine allI (fun b => ?_)) | (refine allT (fun τ => ?_)) | (refine brP (fun h => ?_) (fun h => ?_) <;> (try simp only [zgx, zbx] at h)) | (apply And.intro; focus (first | omega | (simp; done) | (simp +contextual; done) | (intros; and_intros <;> first | assumption | omega) | (intros; simp_all; done) | (intro hgd; refine ⟨hgd, ?_⟩; simp [hgd]; done) | (intro hgd; simp only [zgx] at hgd ⊢; omega))) | fail)
    · rw [if_neg (by omega)] at hkt
      refine .inl ⟨by omega, by omega, by simp only [roomy]; omega, fun b3 c3 hc3 => ⟨⟨(n + 1, b3, c3), by dsimp only; omega, by dsimp only; rw [hkt]; simpa using hc3⟩, by dsimp only; omega, ?_⟩⟩
      dsimp only
      rw [hkt, take_Sp _ hK]
      refine Ents.sub (by simp [go_sem]) ⟨_, List.Sublist.refl _, List.Perm.of_eq ?_⟩
      simp [Sp, LsC_eq]
    · rw [if_pos (by omega), List.append_nil] at hkt
      refine ⟨⟨(n + 1, b2, c2), by dsimp only; omega, by dsimp only; rw [hkt]; exact hk⟩, by dsimp only; omega, ?_⟩
      dsimp only
      rw [hkt]
      exact Ents.sub (by simp [go_sem]) ⟨_, List.Sublist.refl _, List.Perm.refl _⟩
  · have hne : n = k.a.ls.length := by simp only [decide_eq_false_iff_not] at hb; omega
    subst hne
    repeat' (first | (simp (disch := first | omega | (simp only [List.length_cons, List.length_nil]; first | done | omega)) only [go_sem]) | (refine allI (fun b => ?_)) | (refine allT (fun τ => ?_)) | (refine brP (fun h => ?_) (fun h => ?_) <;> (try simp only [zgx, zbx] at h)) | (apply And.intro; focus (first | omega | (simp; done) | (simp +contextual; done) | (intros; and_intros <;> first | assumption | omega) | (intros; simp_all; done) | (intro hgd; refine ⟨hgd, ?_⟩; simp [hgd]; done) | (intro hgd; simp only [zgx] at hgd ⊢; omega))) | fail)
    refine ⟨_, [(50, _), (62, _)], leVH.gen (H2 := [(35, .blk _ _), (50, .blk _ [_, _, _, _, _, _, _])]) (H3 := [(35, .blk _ _), (50, .blk _ [_, _, _, _, _, _, _])]) (H4 := [(50, _), (35, _)]) (leV.refl _) (.cons_cons _ (.cons_cons _ (List.nil_sublist _))) ⟨⟨rfl, leVs.refl _⟩, ⟨rfl, leV.refl _, leV.refl _, leV.refl _, leV.refl _, leV.msl_name _ 62 _ _ _ _ _, leV.refl _, leV.refl _, trivial⟩, trivial⟩ (List.Perm.swap _ _ _) rfl, b2, c2, by rwa [List.take_length] at hk, ?_⟩
    simp only [RkC_eq, BL, Wk.withL, List.take_length]
end Go.Proofs.YtfheeghkajihoaaDoor

/- Layer 22: copies (the reference). -/
namespace Go.Proofs.YtfheeghkajihoaaDoor
open Go Go.Lx
set_option linter.unusedSimpArgs false
set_option linter.unusedVariables false
set_option maxRecDepth 100000
set_option maxHeartbeats 4000000

theorem stampP (r : Rc) (hr : r.ps.length ≤ 1000000000) (s : Int) : Pure Tryd.prog gl 26 [.sl 4 1 (RcC r), .int .i64 s] (.sl 4 1 (RcC { r with se := s })) := by
  refine fn_viewT Tryd.func26 t26q Tryd.ntmps26 (by simp) ?_
  have hle := len_pr r.ps
  unfold c26q r26q
  rw [RcC_eq]
  repeat' (first | (simp (disch := first | omega | (simp only [List.length_cons, List.length_nil]; first | done | omega)) only [go_sem]) | (refine allI (fun b => ?_)) | (refine allT (fun τ => ?_)) | (refine brP (fun h => ?_) (fun h => ?_) <;> (try simp only [zgx, zbx] at h)) | (apply And.intro; focus (first | omega | (simp; done) | (simp +contextual; done) | (intros; and_intros <;> first | assumption | omega) | (intros; simp_all; done) | (intro hgd; refine ⟨hgd, ?_⟩; simp [hgd]; done) | (intro hgd; simp only [zgx] at hgd ⊢; omega))) | fail)
  refine loopI (ι := Option Tok) (fun _ => True) (fun y => match y with
    | none => [(6, .int .i64 0), (5, .osl 27 ⟨0, 0, 0⟩ 4 0 []), (4, .fsl 1 0 []), (0, .sl 4 1 [.int .i64 r.ty, .int .i64 r.ti, .int .i64 r.se, .sl 4 r.ps.length (r.ps.flatMap PrC)]), (1, .int .i64 s)]
    | some τ => [(6, .int .i64 1), (5, .osl 27 τ 4 1 (RcC { r with se := s })), (4, .fsl 1 0 []), (0, .sl 4 1 [.int .i64 r.ty, .int .i64 r.ti, .int .i64 r.se, .sl 4 r.ps.length (r.ps.flatMap PrC)]), (1, .int .i64 s)]) (fun y => match y with
    | none => [(27, .tok ⟨0, 0, 0⟩)]
    | some τ => [(27, .tok τ)]) (fun y => if y = none then 1 else 0) none trivial (Ents.dum 27 (Ents.envH ?_ rfl)) ?_
  · simp only [envLe, Lx.get, if_true, Nat.reduceEqDiff, if_false]
    exact ⟨leV.refl _, leV.nil_osl _ _ _ _, leV.refl _, leV.refl _, leV.refl _, trivial⟩
  rintro (_ | τ) -
  · dsimp only
    repeat' (first | (simp (disch := first | omega | (simp only [List.length_cons, List.length_nil]; first | done | omega)) only [go_sem, zRc]) | (refine allI (fun b => ?_)) | (refine allT (fun τ => ?_)) | (refine brP (fun h => ?_) (fun h => ?_) <;> (try simp only [zgx, zbx] at h)) | (apply And.intro; focus (first | omega | (simp; done) | (simp +contextual; done) | (intros; and_intros <;> first | assumption | omega) | (intros; simp_all; done) | (intro hgd; refine ⟨hgd, ?_⟩; simp [hgd]; done) | (intro hgd; simp only [zgx] at hgd ⊢; omega))) | fail)
    refine ⟨by simp only [roomy]; omega, fun τ1 => ⟨by simp only [roomy]; omega, fun τ2 => ⟨⟨some τ2, trivial⟩, by simp, ?_⟩⟩⟩
    dsimp only
    rw [RcC_eq]
    refine Ents.sub ?_ ⟨_, .cons_cons _ (List.nil_sublist _), List.Perm.refl _⟩
    simp only [envLe, Lx.get, if_true, Nat.reduceEqDiff, if_false, List.nil_append]
    exact ⟨leV.refl _, leV.osl ⟨leV.refl _, leV.refl _, leV.refl _, leV.osl_sl _ _ _ _ _, trivial⟩, leV.refl _, leV.refl _, leV.refl _, trivial⟩
  · dsimp only
    repeat' (first | (simp (disch := first | omega | (simp only [List.length_cons, List.length_nil]; first | done | omega)) only [go_sem]) | (refine allI (fun b => ?_)) | (refine allT (fun τ => ?_)) | (refine brP (fun h => ?_) (fun h => ?_) <;> (try simp only [zgx, zbx] at h)) | (apply And.intro; focus (first | omega | (simp; done) | (simp +contextual; done) | (intros; and_intros <;> first | assumption | omega) | (intros; simp_all; done) | (intro hgd; refine ⟨hgd, ?_⟩; simp [hgd]; done) | (intro hgd; simp only [zgx] at hgd ⊢; omega))) | fail)
    exact view_sub (leV.osl_sl _ _ _ _ _) (List.nil_sublist _)
theorem cpE (e : Ev) (h1 : e.rs.length ≤ 1000000000) (h2 : ∀ r ∈ e.rs, r.ps.length ≤ 1000000) : LCalls Tryd.prog gl 59 [.agg (EvC e)] [] fun r H => ∃ τ, r = .agg (EwC (e, τ)) ∧ H = [(61, .tok τ)] := by
  refine fn_viewT Tryd.func59 t59 Tryd.ntmps59 (by simp) ?_
  have hle := len_rc e.rs
  unfold c59 r59
  rw [EvC_eq]
  repeat' (first | (simp (disch := first | omega | (simp only [List.length_cons, List.length_nil]; first | done | omega)) only [go_sem]) | (refine allI (fun b => ?_)) | (refine allT (fun τ => ?_)) | (refine brP (fun h => ?_) (fun h => ?_) <;> (try simp only [zgx, zbx] at h)) | (apply And.intro; focus (first | omega | (simp; done) | (simp +contextual; done) | (intros; and_intros <;> first | assumption | omega) | (intros; simp_all; done) | (intro hgd; refine ⟨hgd, ?_⟩; simp [hgd]; done) | (intro hgd; simp only [zgx] at hgd ⊢; omega))) | fail)
  rename_i b1
  generalize b = b2 at *
  refine loopI (ι := Nat × Tok) (fun y => y.1 ≤ e.rs.length) (fun y => [(4, .int .i64 y.1), (3, .osl 26 y.2 4 y.1 ((e.rs.take y.1).flatMap RcC)), (2, .ptr 2 b2 0), (1, .ptr 1 b1 0)]) (fun y => (26, .tok y.2) :: _) (fun y => e.rs.length - y.1) (0, ⟨0, 0, 0⟩) (Nat.zero_le _) (Ents.dum 26 (Ents.envH ?_ rfl)) ?_
  · simp only [envLe, Lx.get, if_true, Nat.reduceEqDiff, if_false]
    exact ⟨leV.refl _, leV.nil_osl _ _ _ _, leV.refl _, leV.refl _, trivial⟩
  rintro ⟨i, τ⟩ hi
  dsimp only at hi ⊢
  simp (disch := first | omega | (simp only [List.length_cons, List.length_nil]; first | done | omega)) only [go_sem]
  refine brP (fun hb => ?_) (fun hb => ?_)
  · have hlt : i < e.rs.length := by simpa using hb
    have f2 := getD_rows (f := RcC) (w := 4) (fun _ => rfl) (j := 2) (by omega) rc0 e.rs i hlt
    have e2 := take_rows (f := RcC) (w := 4) (fun _ => rfl) rc0 e.rs hlt
    have hps := h2 _ (getD_memA rc0 hlt)
    have hts := take_succ_getD rc0 e.rs hlt
    have hsp := stampP (e.rs.getD i rc0) (by omega) (e.rs.getD i rc0).se
    generalize e.rs.getD i rc0 = r at *
    rw [RcC_eq] at f2 e2 hsp
    simp only [List.getD_cons_zero, List.getD_cons_succ] at f2
    have z1 : ((i : Int) + 1).toNat - i = 1 := by omega
    repeat' (first | (simp (disch := first | omega | (simp only [List.length_cons, List.length_nil]; first | done | omega)) only [go_sem, f2, z1, e2, Nat.one_mul]) | (refine allI (fun b => ?_)) | (refine allT (fun τ => ?_)) | (refine brP (fun h => ?_) (fun h => ?_) <;> (try simp only [zgx, zbx] at h)) | refine call_U (hsp) ?_ | refine callG_U (fun _ => hsp) ?_ | refine call_T (hsp) ?_ | refine callG_T (fun _ => hsp) ?_ | refine call_N (hsp) ?_ | refine call_of (hsp) ?_ | refine callG_of (fun _ => hsp) ?_ | (apply And.intro; focus (first | omega | (simp; done) | (simp +contextual; done) | (intros; and_intros <;> first | assumption | omega) | (intros; simp_all; done) | (intro hgd; refine ⟨hgd, ?_⟩; simp [hgd]; done) | (intro hgd; simp only [zgx] at hgd ⊢; omega))) | fail)
    refine ⟨by simp only [roomy]; omega, fun τ1 => ⟨⟨(i + 1, τ1), by dsimp only; omega⟩, by dsimp only; omega, ?_⟩⟩
    dsimp only
    rw [hts, List.flatMap_append, List.flatMap_singleton, RcC_eq]
    exact Ents.sub (by simp [go_sem]) ⟨_, List.Sublist.refl _, List.Perm.refl _⟩
  · have hne : i = e.rs.length := by simp only [decide_eq_false_iff_not] at hb; omega
    subst hne
    rw [List.take_length]
    repeat' (first | (simp (disch := first | omega | (simp only [List.length_cons, List.length_nil]; first | done | omega)) only [go_sem, zEv]) | (refine allI (fun b => ?_)) | (refine allT (fun τ => ?_)) | (refine brP (fun h => ?_) (fun h => ?_) <;> (try simp only [zgx, zbx] at h)) | (apply And.intro; focus (first | omega | (simp; done) | (simp +contextual; done) | (intros; and_intros <;> first | assumption | omega) | (intros; simp_all; done) | (intro hgd; refine ⟨hgd, ?_⟩; simp [hgd]; done) | (intro hgd; simp only [zgx] at hgd ⊢; omega))) | fail)
    exact ⟨.agg (EwC (e, τ)), [(61, .tok τ)], leVH.gen (H2 := [(26, .tok τ)]) (H3 := [(26, .tok τ)]) (H4 := [(26, .tok τ)]) (leV.agg (show leVs [_, _, _, _, _] (EwC (e, τ)) from ⟨leV.refl _, leV.refl _, leV.refl _, leV.osl_name _ 61 _ _ _ _, leV.refl _, trivial⟩)) (.cons_cons _ (List.nil_sublist _)) ⟨rfl, trivial⟩ (List.Perm.refl _) rfl, τ, rfl, rfl⟩
theorem cpP (e : Ev) (h1 : e.rs.length ≤ 1000000000) (h2 : ∀ r ∈ e.rs, r.ps.length ≤ 1000000) : Pure Tryd.prog gl 59 [.agg (EvC e)] (.agg (EvC e)) :=
  LCalls.post (cpE e h1 h2) (by
    rintro _ _ ⟨τ, rfl, rfl⟩
    exact ⟨_, [], leVH.of (leV.agg (show leVs (EwC (e, τ)) (EvC e) from ⟨leV.refl _, leV.refl _, leV.refl _, leV.osl_sl _ _ _ _ _, leV.refl _, trivial⟩)) ⟨[], List.nil_sublist _, List.Perm.refl _⟩, rfl, rfl⟩)
theorem copyR (a : As) (hO : a.op.length ≤ 1000000000) (hL : a.ls.length ≤ 1000000000) (hG : a.gs.length ≤ 1073741900) (hE : ∀ e ∈ a.op, e.rs.length ≤ 1000000000 ∧ ∀ r ∈ e.rs, r.ps.length ≤ 1000000) : LCalls Tryd.prog gl 36 [.agg (AsC a)] [] fun r H => ∃ (τs : List Tok) (bO cO bL cL bG cG : Nat), τs.length = a.op.length ∧ (a.op.length ≤ cO ∧ a.ls.length ≤ cL ∧ a.gs.length ≤ cG) ∧ r = .agg [.int .i64 a.bo, .int .i64 a.nx, .int .i64 a.st, .msl 60 5 bO 0 a.op.length cO, .msl 62 5 bL 0 a.ls.length cL, .msl 63 2 bG 0 a.gs.length cG, .int .i64 a.la] ∧ H = (60, .blk bO (Sp ((a.op.zip τs).flatMap EwC) ((cO - a.op.length) * 5))) :: (62, .blk bL (Sp (a.ls.flatMap LsC) ((cL - a.ls.length) * 5))) :: (63, .blk bG (Sp (a.gs.flatMap GpC) ((cG - a.gs.length) * 2))) :: tks τs := by
  refine fn_viewT Tryd.func36 t36 Tryd.ntmps36 (by simp) ?_
  have hlo := len_ev a.op
  have hll := len_ls a.ls
  have hlg := len_gp a.gs
  unfold c36 r36
  rw [AsC_eq]
  repeat' (first | (simp (disch := first | omega | (simp only [List.length_cons, List.length_nil]; first | done | omega)) only [go_sem]) | (refine allI (fun b => ?_)) | (refine allT (fun τ => ?_)) | (refine brP (fun h => ?_) (fun h => ?_) <;> (try simp only [zgx, zbx] at h)) | (apply And.intro; focus (first | omega | (simp; done) | (simp +contextual; done) | (intros; and_intros <;> first | assumption | omega) | (intros; simp_all; done) | (intro hgd; refine ⟨hgd, ?_⟩; simp [hgd]; done) | (intro hgd; simp only [zgx] at hgd ⊢; omega))) | fail)
  rename_i b1 b2
  generalize b = b3 at *
  refine loopI (ι := List Tok × Nat × Nat) (fun y => y.1.length ≤ a.op.length ∧ y.1.length ≤ y.2.2) (fun y => [(4, .int .i64 y.1.length), (3, .ptr 3 b3 0), (2, .ptr 2 b2 0), (1, .ptr 1 b1 0)]) (fun y => (23, .blk y.2.1 (Sp (((a.op.take y.1.length).zip y.1).flatMap EwC) ((y.2.2 - y.1.length) * 5))) :: (3, .blk b3 [.int .i64 a.bo, .int .i64 a.nx, .int .i64 a.st, .msl 23 5 y.2.1 0 y.1.length y.2.2, .sl 5 a.ls.length (a.ls.flatMap LsC), .sl 2 a.gs.length (a.gs.flatMap GpC), .int .i64 a.la]) :: (2, .blk b2 [.int .i64 0, .int .i64 0, .int .i64 0, .fsl 1 0 [], .fsl 1 0 [], .fsl 1 0 [], .int .i64 0]) :: (1, .blk b1 [.int .i64 a.bo, .int .i64 a.nx, .int .i64 a.st, .sl 5 a.op.length (a.op.flatMap EvC), .sl 5 a.ls.length (a.ls.flatMap LsC), .sl 2 a.gs.length (a.gs.flatMap GpC), .int .i64 a.la]) :: tks y.1) (fun y => a.op.length - y.1.length) ([], 0, 0) ⟨Nat.zero_le _, Nat.zero_le _⟩ (Ents.empC 23 (Ents.le (by simp [go_sem]) ⟨⟨rfl, leVs.refl _⟩, ⟨rfl, leV.refl _, leV.refl _, leV.refl _, leV.nil_msl _ _ _, leV.refl _, leV.refl _, leV.refl _, trivial⟩, ⟨rfl, leVs.refl _⟩, ⟨rfl, leVs.refl _⟩, trivial⟩)) ?_
  rintro ⟨τs, bO, cO⟩ ⟨h1, h2⟩
  dsimp only at h1 h2 ⊢
  have hlz : ((a.op.take τs.length).zip τs).length = τs.length := by rw [List.length_zip, List.length_take]; omega
  have hlw := len_ew ((a.op.take τs.length).zip τs)
  have hls := length_Sp (((a.op.take τs.length).zip τs).flatMap EwC) ((cO - τs.length) * 5)
  simp (disch := first | omega | (simp only [List.length_cons, List.length_nil]; first | done | omega)) only [go_sem]
  refine brP (fun hb => ?_) (fun hb => ?_)
  · have hlt : τs.length < a.op.length := by simpa using hb
    have e2 := take_rows (f := EvC) (w := 5) (fun _ => rfl) ev0 a.op hlt
    have hts := take_succ_getD ev0 a.op hlt
    obtain ⟨k1, k2⟩ := hE _ (getD_memA ev0 hlt)
    have hcp := cpE (a.op.getD τs.length ev0) k1 k2
    generalize a.op.getD τs.length ev0 = e at *
    rw [EvC_eq] at e2 hcp
    simp only [EwC_eq] at hcp
    repeat' (first | (simp (disch := first | omega | (simp only [List.length_cons, List.length_nil]; first | done | omega)) only [go_sem, e2]) | (refine allI (fun b => ?_)) | (refine allT (fun τ => ?_)) | (refine brP (fun h => ?_) (fun h => ?_) <;> (try simp only [zgx, zbx] at h)) | (apply And.intro; focus (first | omega | (simp; done) | (simp +contextual; done) | (intros; and_intros <;> first | assumption | omega) | (intros; simp_all; done) | (intro hgd; refine ⟨hgd, ?_⟩; simp [hgd]; done) | (intro hgd; simp only [zgx] at hgd ⊢; omega))) | fail)
    first | refine newsQ_U (hcp) ?_ | refine newsQ_T (hcp) ?_ | refine newsQ_of (hcp) ?_
    rintro _ _ ⟨τ, rfl, rfl⟩
    repeat' (first | (simp (disch := first | omega | (simp only [List.length_cons, List.length_nil]; first | done | omega)) only [go_sem, zEv]) | (refine allI (fun b => ?_)) | (refine allT (fun τ => ?_)) | (refine brP (fun h => ?_) (fun h => ?_) <;> (try simp only [zgx, zbx] at h)) | (apply And.intro; focus (first | omega | (simp; done) | (simp +contextual; done) | (intros; and_intros <;> first | assumption | omega) | (intros; simp_all; done) | (intro hgd; refine ⟨hgd, ?_⟩; simp [hgd]; done) | (intro hgd; simp only [zgx] at hgd ⊢; omega))) | fail)
    have hlw2 : (((a.op.take τs.length).zip τs).flatMap EwC).length = τs.length * 5 := by rw [hlw, hlz]
    refine .inl ⟨by omega, by omega, by simp only [roomy]; omega, fun b4 c4 h4 => ⟨⟨(τs ++ [τ], b4, c4), by dsimp only; simp; omega, by dsimp only; simp; omega⟩, by dsimp only; simp; omega, ?_⟩⟩
    dsimp only
    rw [List.length_append, List.length_singleton, hts, List.zip_append (by rw [List.length_take]; omega), List.flatMap_append, take_Sp _ hlw2, show tks (τs ++ [τ]) = tks τs ++ [(61, .tok τ)] by simp [tks]]
    refine Ents.sub (by simp [go_sem]) ⟨_, List.Sublist.refl _, ?_⟩
    rw [Sp]
    simp only [List.zip_cons_cons, List.zip_nil_right, List.flatMap_cons, List.flatMap_nil, List.append_nil, EwC_eq]
    exact .cons _ (List.perm_append_singleton _ ([_, _, _] ++ tks τs)).symm
  · have hne : τs.length = a.op.length := by simp only [decide_eq_false_iff_not] at hb; omega
    repeat' (first | (simp (disch := first | omega | (simp only [List.length_cons, List.length_nil]; first | done | omega)) only [go_sem]) | (refine allI (fun b => ?_)) | (refine allT (fun τ => ?_)) | (refine brP (fun h => ?_) (fun h => ?_) <;> (try simp only [zgx, zbx] at h)) | (apply And.intro; focus (first | omega | (simp; done) | (simp +contextual; done) | (intros; and_intros <;> first | assumption | omega) | (intros; simp_all; done) | (intro hgd; refine ⟨hgd, ?_⟩; simp [hgd]; done) | (intro hgd; simp only [zgx] at hgd ⊢; omega))) | fail)
    refine ⟨by simp only [roomy]; omega, fun b4 c4 h4 => ⟨by simp only [roomy]; omega, fun b5 c5 h5 => ?_⟩⟩
    simp only [hne, List.take_length]
    refine ⟨.agg [.int .i64 a.bo, .int .i64 a.nx, .int .i64 a.st, .msl 60 5 bO 0 a.op.length cO, .msl 62 5 b4 0 a.ls.length c4, .msl 63 2 b5 0 a.gs.length c5, .int .i64 a.la], (60, .blk bO (Sp ((a.op.zip τs).flatMap EwC) ((cO - a.op.length) * 5))) :: (62, .blk b4 (Sp (a.ls.flatMap LsC) ((c4 - a.ls.length) * 5))) :: (63, .blk b5 (Sp (a.gs.flatMap GpC) ((c5 - a.gs.length) * 2))) :: tks τs, ?_, τs, bO, cO, b4, c4, b5, c5, hne, ⟨by omega, h4, h5⟩, rfl, rfl⟩
    refine leVH.gen (H2 := (31, .blk b5 (Sp (a.gs.flatMap GpC) ((c5 - a.gs.length) * 2))) :: (27, .blk b4 (Sp (a.ls.flatMap LsC) ((c4 - a.ls.length) * 5))) :: (23, .blk bO (Sp ((a.op.zip τs).flatMap EwC) ((cO - a.op.length) * 5))) :: tks τs) (H4 := (23, .blk bO (Sp ((a.op.zip τs).flatMap EwC) ((cO - a.op.length) * 5))) :: (27, .blk b4 (Sp (a.ls.flatMap LsC) ((c4 - a.ls.length) * 5))) :: (31, .blk b5 (Sp (a.gs.flatMap GpC) ((c5 - a.gs.length) * 2))) :: tks τs) (leV.agg ⟨leV.refl _, leV.refl _, leV.refl _, leV.msl_name _ 60 _ _ _ _ _, leV.msl_name _ 62 _ _ _ _ _, leV.msl_name _ 63 _ _ _ _ _, leV.refl _, trivial⟩) (.cons_cons _ (.cons_cons _ (.cons_cons _ (.cons _ (.cons _ (.cons _ (List.Sublist.refl _))))))) (Go.Proofs.YtfheeghkajihoaaDoor.heapLe.refl _) ?_ rfl
    exact (List.Perm.swap _ _ _).trans (((List.Perm.swap _ _ _).cons _).trans (List.Perm.swap _ _ _))
end Go.Proofs.YtfheeghkajihoaaDoor
