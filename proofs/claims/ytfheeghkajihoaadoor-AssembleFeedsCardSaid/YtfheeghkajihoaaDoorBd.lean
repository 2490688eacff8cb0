/- Layer 22: the assembler at work; searching its events (the program). -/
import Derived.Test.YtfheeghkajihoaaDoorBc
namespace Go.Proofs.YtfheeghkajihoaaDoor
open Go Go.Lx
set_option linter.unusedSimpArgs false
set_option linter.unusedVariables false
set_option maxRecDepth 100000
set_option maxHeartbeats 4000000

/-- an event at work: the spare cells behind its records are known -/
def EwC (x : Ev × Tok) : List LV := [.int .i64 x.1.bo, .int .i64 x.1.se, .int .i64 x.1.ti, .osl 61 x.2 4 x.1.rs.length (x.1.rs.flatMap RcC), .bool x.1.co]
theorem EwC_eq (x : Ev × Tok) : EwC x = [.int .i64 x.1.bo, .int .i64 x.1.se, .int .i64 x.1.ti, .osl 61 x.2 4 x.1.rs.length (x.1.rs.flatMap RcC), .bool x.1.co] := Eq.trans rfl rfl
def ew0 : Ev × Tok := (ev0, ⟨0, 0, 0⟩)
theorem len_ew (l : List (Ev × Tok)) : (l.flatMap EwC).length = l.length * 5 := length_rows (f := EwC) (w := 5) (fun _ => rfl) l
theorem ew_at (l : List (Ev × Tok)) (m : Nat) {i : Nat} (h : i < l.length) : ((Sp (l.flatMap EwC) m).drop (i * 5)).take 5 = EwC (l.getD i ew0) := by
  have hl := len_ew l
  rw [← take_rows (f := EwC) (w := 5) (fun _ => rfl) ew0 l h, Sp, List.drop_append_of_le_length (by omega), List.take_append_of_le_length (by rw [List.length_drop]; omega)]
/-- the first of n that has some property, or -1 -/
def fstI (n : Nat) (p : Nat → Bool) : Int := match (List.range n).find? p with
  | some i => i
  | none => -1
theorem fstI_is {n : Nat} {p : Nat → Bool} {i : Nat} (h : i < n) (hp : p i = true) (hn : ∀ j, j < i → p j = false) : fstI n p = i := by
  have : (List.range n).find? p = some i := by
    rw [List.find?_range_eq_some]
    exact ⟨hp, by simpa using h, fun j hj => by simp [hn j hj]⟩
  rw [fstI, this]
theorem fstI_none {n : Nat} {p : Nat → Bool} (hn : ∀ j, j < n → p j = false) : fstI n p = -1 := by
  have : (List.range n).find? p = none := by
    rw [List.find?_range_eq_none]
    intro j hj
    simp [hn j hj]
  rw [fstI, this]
theorem fstI_range (n : Nat) (p : Nat → Bool) : -1 ≤ fstI n p ∧ fstI n p < n := by
  unfold fstI
  split
  · rename_i i h
    have := List.mem_range.1 (List.mem_of_find?_eq_some h)
    omega
  · omega
theorem zEv : zeros ([.int .i64 0, .int .i64 0, .int .i64 0, .fsl 1 0 [], .bool false] : List LV) 5 = [.int .i64 0, .int .i64 0, .int .i64 0, .fsl 1 0 [], .bool false] := Eq.trans rfl rfl
theorem clH (x : Ev × Tok) (b : Nat) (s : Int) : Acts Tryd.prog gl 70 [.agg (EwC x), .ptr 3 b 0] [(3, .blk b [.int .i64 s])] (.bool (x.1.se == s)) [(3, .blk b [.int .i64 s])] := by
  refine fn_actsT Tryd.func70 t70 Tryd.ntmps70 (by simp) ?_
  unfold c70 r70
  rw [EwC_eq]
  repeat' (first | (simp (disch := first | omega | (simp only [List.length_cons, List.length_nil]; first | done | omega)) only [go_sem]) | (refine allI (fun b => ?_)) | (refine allT (fun τ => ?_)) | (refine brP (fun h => ?_) (fun h => ?_) <;> (try simp only [zgx, zbx] at h)) | (apply And.intro; focus (first | omega | (simp; done) | (simp +contextual; done) | (intros; and_intros <;> first | assumption | omega) | (intros; simp_all; done) | (intro hgd; refine ⟨hgd, ?_⟩; simp [hgd]; done) | (intro hgd; simp only [zgx] at hgd ⊢; omega))) | fail)
  exact view_sub (leV.refl _) (by simp)
theorem clT (x : Ev × Tok) (b : Nat) (r : Rc) : Acts Tryd.prog gl 49 [.agg (EwC x), .ptr 3 b 0] [(3, .blk b (RcC r))] (.bool (decide (r.se < x.1.se))) [(3, .blk b (RcC r))] := by
  refine fn_actsT Tryd.func49 t49 Tryd.ntmps49 (by simp) ?_
  unfold c49 r49
  rw [EwC_eq, RcC_eq]
  repeat' (first | (simp (disch := first | omega | (simp only [List.length_cons, List.length_nil]; first | done | omega)) only [go_sem]) | (refine allI (fun b => ?_)) | (refine allT (fun τ => ?_)) | (refine brP (fun h => ?_) (fun h => ?_) <;> (try simp only [zgx, zbx] at h)) | (apply And.intro; focus (first | omega | (simp; done) | (simp +contextual; done) | (intros; and_intros <;> first | assumption | omega) | (intros; simp_all; done) | (intro hgd; refine ⟨hgd, ?_⟩; simp [hgd]; done) | (intro hgd; simp only [zgx] at hgd ⊢; omega))) | fail)
  exact view_sub (leV.refl _) (by simp)
theorem idxE (l : List (Ev × Tok)) (f : Nat) (hf : okF Tryd.prog f = true) (b3 bO c : Nat) (cs : List LV) (p : Ev × Tok → Bool) (hp : ∀ x, Acts Tryd.prog gl f [.agg (EwC x), .ptr 3 b3 0] [(3, .blk b3 cs)] (.bool (p x)) [(3, .blk b3 cs)]) (hl : l.length ≤ 1000000000) :
    LCalls Tryd.prog gl 48 [.msl 60 5 bO 0 l.length c, .clo f [.ptr 3 b3 0]] [(60, .blk bO (Sp (l.flatMap EwC) ((c - l.length) * 5))), (3, .blk b3 cs)] fun r H => r = .int .i64 (fstI l.length fun i => p (l.getD i ew0)) ∧ H = [(60, .blk bO (Sp (l.flatMap EwC) ((c - l.length) * 5))), (3, .blk b3 cs)] := by
  refine fn_viewT Tryd.func48 t48 Tryd.ntmps48 (by simp) ?_
  have hle := len_ew l
  have hs := length_Sp (l.flatMap EwC) ((c - l.length) * 5)
  unfold c48 r48
  simp (disch := first | omega | (simp only [List.length_cons, List.length_nil]; first | done | omega)) only [go_sem]
  refine loopI (ι := Nat) (fun i => i ≤ l.length ∧ ∀ j, j < i → p (l.getD j ew0) = false) (fun i => (8, .int .i64 i) :: _) (fun _ => _) (fun i => l.length - i) 0 ⟨by omega, fun j hj => absurd hj (by omega)⟩ Ents.same ?_
  intro i hi
  have hiB := hi.1
  simp (disch := first | omega | (simp only [List.length_cons, List.length_nil]; first | done | omega)) only [go_sem]
  refine brP (fun hb => ?_) (fun hb => ?_)
  · have hlt : i < l.length := by simpa using hb
    have e2 := ew_at l ((c - l.length) * 5) hlt
    have ha := hp (l.getD i ew0)
    have hfi := fun h => fstI_is (p := fun i => p (l.getD i ew0)) hlt h hi.2
    have hnx := hi.2
    generalize hx : l.getD i ew0 = x at *
    rw [EwC_eq] at e2 ha
    repeat' (first | (simp (disch := first | omega | (simp only [List.length_cons, List.length_nil]; first | done | omega)) only [go_sem, e2]) | (refine allI (fun b => ?_)) | (refine allT (fun τ => ?_)) | (refine brP (fun h => ?_) (fun h => ?_) <;> (try simp only [zgx, zbx] at h)) | (apply And.intro; focus (first | omega | (simp; done) | (simp +contextual; done) | (intros; and_intros <;> first | assumption | omega) | (intros; simp_all; done) | (intro hgd; refine ⟨hgd, ?_⟩; simp [hgd]; done) | (intro hgd; simp only [zgx] at hgd ⊢; omega))) | fail)
    first | refine acts_U (ha) (by simp (disch := first | omega | (simp only [List.length_cons, List.length_nil]; first | done | omega)) only [go_sem]) ?_ | refine acts_T (ha) (by simp (disch := first | omega | (simp only [List.length_cons, List.length_nil]; first | done | omega)) only [go_sem]) ?_ | refine acts_N (ha) (by simp (disch := first | omega | (simp only [List.length_cons, List.length_nil]; first | done | omega)) only [go_sem]) ?_ | refine acts_of (H1 := []) (ha) (by simp (disch := first | omega | (simp only [List.length_cons, List.length_nil]; first | done | omega)) only [go_sem]) ?_
    repeat' (first | (simp (disch := first | omega | (simp only [List.length_cons, List.length_nil]; first | done | omega)) only [go_sem]) | (refine allI (fun b => ?_)) | (refine allT (fun τ => ?_)) | (refine brP (fun h => ?_) (fun h => ?_) <;> (try simp only [zgx, zbx] at h)) | (apply And.intro; focus (first | omega | (simp; done) | (simp +contextual; done) | (intros; and_intros <;> first | assumption | omega) | (intros; simp_all; done) | (intro hgd; refine ⟨hgd, ?_⟩; simp [hgd]; done) | (intro hgd; simp only [zgx] at hgd ⊢; omega))) | fail)
    · exact view_sub (leV.of_eq (by rw [hfi h])) (by simp)
    · exact ⟨⟨i + 1, by omega, fun j hj => (by omega : j < i ∨ j = i).elim (hnx j) fun e => by rw [e, hx]; exact h⟩, by dsimp only; omega, Ents.envH (by simp [go_sem]) rfl⟩
  · repeat' (first | (simp (disch := first | omega | (simp only [List.length_cons, List.length_nil]; first | done | omega)) only [go_sem]) | (refine allI (fun b => ?_)) | (refine allT (fun τ => ?_)) | (refine brP (fun h => ?_) (fun h => ?_) <;> (try simp only [zgx, zbx] at h)) | (apply And.intro; focus (first | omega | (simp; done) | (simp +contextual; done) | (intros; and_intros <;> first | assumption | omega) | (intros; simp_all; done) | (intro hgd; refine ⟨hgd, ?_⟩; simp [hgd]; done) | (intro hgd; simp only [zgx] at hgd ⊢; omega))) | fail)
    exact view_sub (leV.of_eq (by rw [fstI_none fun j hj => hi.2 j (by simp only [decide_eq_false_iff_not] at hb; omega)])) (List.Sublist.refl _)
/-- the assembler at work, and what it gave out -/
structure Wk where
  a : As
  ws : List (Ev × Tok)
  out : List Ev
  τ : Tok
  b : Nat
  bO : Nat
  cO : Nat
  bL : Nat
  cL : Nat
  bG : Nat
  cG : Nat
def WkC (k : Wk) : List LV := [.int .i64 k.a.bo, .int .i64 k.a.nx, .int .i64 k.a.st, .msl 60 5 k.bO 0 k.ws.length k.cO, .msl 62 5 k.bL 0 k.a.ls.length k.cL, .msl 63 2 k.bG 0 k.a.gs.length k.cG, .int .i64 k.a.la, .osl 64 k.τ 5 k.out.length (k.out.flatMap EvC)]
theorem WkC_eq (k : Wk) : WkC k = [.int .i64 k.a.bo, .int .i64 k.a.nx, .int .i64 k.a.st, .msl 60 5 k.bO 0 k.ws.length k.cO, .msl 62 5 k.bL 0 k.a.ls.length k.cL, .msl 63 2 k.bG 0 k.a.gs.length k.cG, .int .i64 k.a.la, .osl 64 k.τ 5 k.out.length (k.out.flatMap EvC)] := Eq.trans rfl rfl
def BO (k : Wk) : List LV := Sp (k.ws.flatMap EwC) ((k.cO - k.ws.length) * 5)
def BL (k : Wk) : List LV := Sp (k.a.ls.flatMap LsC) ((k.cL - k.a.ls.length) * 5)
def BG (k : Wk) : List LV := Sp (k.a.gs.flatMap GpC) ((k.cG - k.a.gs.length) * 2)
/-- what is at work, but for the spare cells behind the records -/
def HW (k : Wk) : Heap := [(50, .blk k.b (WkC k)), (60, .blk k.bO (BO k)), (62, .blk k.bL (BL k)), (63, .blk k.bG (BG k)), (64, .tok k.τ)]
theorem HW_eq (k : Wk) : HW k = [(50, .blk k.b (WkC k)), (60, .blk k.bO (BO k)), (62, .blk k.bL (BL k)), (63, .blk k.bG (BG k)), (64, .tok k.τ)] := Eq.trans rfl rfl
/-- where an event with a serial number is -/
def heldI (l : List (Ev × Tok)) (s : Int) : Int := fstI l.length fun i => (l.getD i ew0).1.se == s
theorem held (k : Wk) (s : Int) (hl : k.ws.length ≤ 1000000000) : LCalls Tryd.prog gl 46 [.ptr 50 k.b 0, .int .i64 s] [(50, .blk k.b (WkC k)), (60, .blk k.bO (BO k))] fun r H => r = .int .i64 (heldI k.ws s) ∧ H = [(50, .blk k.b (WkC k)), (60, .blk k.bO (BO k))] := by
  refine fn_viewT Tryd.func46 t46 Tryd.ntmps46 (by simp) ?_
  have hi := fun b3 => idxE k.ws 70 (by kernel_rfl) b3 k.bO k.cO [.int .i64 s] (fun x => x.1.se == s) (fun x => clH x b3 s) hl
  unfold c46 r46
  rw [WkC_eq, BO]
  repeat' (first | (simp (disch := first | omega | (simp only [List.length_cons, List.length_nil]; first | done | omega)) only [go_sem]) | (refine allI (fun b => ?_)) | (refine allT (fun τ => ?_)) | (refine brP (fun h => ?_) (fun h => ?_) <;> (try simp only [zgx, zbx] at h)) | (apply And.intro; focus (first | omega | (simp; done) | (simp +contextual; done) | (intros; and_intros <;> first | assumption | omega) | (intros; simp_all; done) | (intro hgd; refine ⟨hgd, ?_⟩; simp [hgd]; done) | (intro hgd; simp only [zgx] at hgd ⊢; omega))) | fail)
  first | refine actsQ_U (hi _) (pick_perm rfl (pick_perm rfl (List.Perm.refl _))) ?_ | refine actsQ_T (hi _) (pick_perm rfl (pick_perm rfl (List.Perm.refl _))) ?_ | refine actsQ_N (hi _) (pick_perm rfl (pick_perm rfl (List.Perm.refl _))) ?_ | refine actsQ_of (hi _) (pick_perm rfl (pick_perm rfl (List.Perm.refl _))) ?_
  rintro _ _ ⟨rfl, rfl⟩
  repeat' (first | (simp (disch := first | omega | (simp only [List.length_cons, List.length_nil]; first | done | omega)) only [go_sem]) | (refine allI (fun b => ?_)) | (refine allT (fun τ => ?_)) | (refine brP (fun h => ?_) (fun h => ?_) <;> (try simp only [zgx, zbx] at h)) | (apply And.intro; focus (first | omega | (simp; done) | (simp +contextual; done) | (intros; and_intros <;> first | assumption | omega) | (intros; simp_all; done) | (intro hgd; refine ⟨hgd, ?_⟩; simp [hgd]; done) | (intro hgd; simp only [zgx] at hgd ⊢; omega))) | fail)
  exact ⟨_, _, leVH.of (leV.refl _) ⟨[(60, _), (50, _)], List.Sublist.cons_cons _ (List.Sublist.cons _ (List.Sublist.cons_cons _ (List.nil_sublist _))), List.Perm.swap _ _ _⟩, rfl, rfl⟩
end Go.Proofs.YtfheeghkajihoaaDoor
