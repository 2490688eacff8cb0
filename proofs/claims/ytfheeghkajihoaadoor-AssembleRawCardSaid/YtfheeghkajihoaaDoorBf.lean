/- Layer 22: what is deleted from a list that is owned (the program). -/
import Derived.Test.YtfheeghkajihoaaDoorBe
namespace Go.Proofs.YtfheeghkajihoaaDoor
open Go Go.Lx
set_option linter.unusedSimpArgs false
set_option linter.unusedVariables false
set_option maxRecDepth 100000
set_option maxHeartbeats 4000000

theorem take_drop_Sp {cs : List LV} {n j c w k : Nat} (hc : cs.length = n * w) (hj : j ≤ n) (hn : n ≤ c) : List.take ((n - j) * w) (List.drop (if c = j then 0 else j * w) (Sp cs k)) = cs.drop (j * w) := by
  by_cases h : c = j
  · obtain rfl : n = j := by omega
    rw [Nat.sub_self, Nat.zero_mul, List.take_zero, List.drop_eq_nil_of_le (by omega)]
  · rw [if_neg h, Sp, List.drop_append_of_le_length (by rw [hc]; exact Nat.mul_le_mul_right w hj)]
    refine List.take_left' ?_
    rw [List.length_drop, hc, Nat.sub_mul]
theorem cut_len {cs : List LV} {n i j w : Nat} (hc : cs.length = n * w) (hi : i ≤ j) (hj : j ≤ n) : (cs.take (i * w) ++ cs.drop (j * w)).length = (i + (n - j)) * w := by
  rw [List.length_append, List.length_take, List.length_drop, hc, Nat.min_eq_left (Nat.mul_le_mul_right w (by omega)), Nat.add_mul, Nat.sub_mul]
theorem del (b n c i j : Nat) (cs : List LV) (hc : cs.length = n * 5) (hn : n ≤ c) (hi : i ≤ j) (hj : j ≤ n) (hb : n ≤ 1000000000) :
    ActsE Tryd.prog gl 52 [.msl 60 5 b 0 n c, .int .i64 i, .int .i64 j] 60 (.blk b (Sp cs ((c - n) * 5))) fun r e => r = .msl 60 5 b 0 (n - (j - i)) c ∧ e = .blk b (Sp (cs.take (i * 5) ++ cs.drop (j * 5)) ((c - (n - (j - i))) * 5)) := by
  refine fn_viewT Tryd.func52 t52 Tryd.ntmps52 (by simp) ?_
  unfold c52 r52
  simp (disch := first | omega | (simp only [List.length_cons, List.length_nil]; first | done | omega)) only [go_sem]
  refine ⟨by omega, ?_⟩
  have hl : (Sp cs ((c - n) * 5)).length = c * 5 := by rw [length_Sp, hc]; omega
  repeat' (first | (simp (disch := first | omega | (simp only [List.length_cons, List.length_nil]; first | done | omega)) only [go_sem]) | (refine allI (fun b => ?_)) | (refine allT (fun τ => ?_)) | (refine brP (fun h => ?_) (fun h => ?_) <;> (try simp only [zgx, zbx] at h)))
  · obtain rfl : i = j := by omega
    rw [Nat.sub_self, Nat.sub_zero, List.take_append_drop]
    exact viewE_end (leV.refl _) (List.Sublist.refl _) ⟨rfl, rfl⟩
  · have e0 : (if c = 0 then 0 else 0) = 0 := by split <;> rfl
    have e2 : ¬ c = i + (n - j) := by omega
    have e3 := cut_len hc hi hj
    have e4 : (Sp cs ((c - n) * 5)).take (i * 5) = cs.take (i * 5) := take_Sp_le (by rw [hc]; exact Nat.mul_le_mul_right _ (by omega))
    simp only [Nat.sub_zero, e0, if_neg e2, Nat.zero_add, take_drop_Sp hc hj hn, e4]
    refine ⟨by omega, by omega, by split <;> omega, rfl, .inr ?_⟩
    have e5 : n - (j - i) = i + (n - j) := by omega
    have e6 : (cs.drop (j * 5)).length = (n - j) * 5 := by rw [List.length_drop, hc, Nat.sub_mul]
    rw [e5, e6]
    refine ⟨by omega, by omega, by omega, ?_, ?_⟩
    · simp only [List.length_append, List.length_drop, List.length_take, hl, hc]
      omega
    rw [List.take_left' e3, List.append_assoc]
    refine ⟨_, [(60, .blk b (Sp (cs.take (i * 5) ++ cs.drop (j * 5)) ((c - (i + (n - j))) * 5)))], leVH.le ⟨⟨rfl, leVs.sp ?_⟩, trivial⟩, _, rfl, rfl, rfl⟩
    simp only [List.length_append, List.length_drop, List.length_take, hl, hc, zeros, List.length_map, List.length_range]
    omega
theorem clS (q : Ls) (b2 : Nat) (k : Wk) : Acts Tryd.prog gl 57 [.agg (LsC q), .ptr 70 b2 0] [(70, .blk b2 [.ptr 50 k.b 0]), (50, .blk k.b (WkC k))] (.bool (decide (q.l < k.a.nx))) [(70, .blk b2 [.ptr 50 k.b 0]), (50, .blk k.b (WkC k))] := by
  refine fn_actsT Tryd.func57 t57 Tryd.ntmps57 (by simp) ?_
  unfold c57 r57
  rw [LsC_eq, WkC_eq]
  repeat' (first | (simp (disch := first | omega | (simp only [List.length_cons, List.length_nil]; first | done | omega)) only [go_sem]) | (refine allI (fun b => ?_)) | (refine allT (fun τ => ?_)) | (refine brP (fun h => ?_) (fun h => ?_) <;> (try simp only [zgx, zbx] at h)) | (apply And.intro; focus (first | omega | (simp; done) | (simp +contextual; done) | (intros; and_intros <;> first | assumption | omega) | (intros; simp_all; done) | (intro hgd; refine ⟨hgd, ?_⟩; simp [hgd]; done) | (intro hgd; simp only [zgx] at hgd ⊢; omega))) | fail)
  exact view_sub (leV.refl _) (by simp)
theorem idl (l : List Ls) (b2 bL c : Nat) (k : Wk) (hl : l.length ≤ 1000000000) :
    LCalls Tryd.prog gl 75 [.msl 62 5 bL 0 l.length c, .clo 57 [.ptr 70 b2 0]] [(62, .blk bL (Sp (l.flatMap LsC) ((c - l.length) * 5))), (70, .blk b2 [.ptr 50 k.b 0]), (50, .blk k.b (WkC k))] fun r H => r = .int .i64 (fstI l.length fun i => decide ((l.getD i ls0).l < k.a.nx)) ∧ H = [(62, .blk bL (Sp (l.flatMap LsC) ((c - l.length) * 5))), (70, .blk b2 [.ptr 50 k.b 0]), (50, .blk k.b (WkC k))] := by
  refine fn_viewT Tryd.func75 t75 Tryd.ntmps75 (by simp) ?_
  have hle := len_ls l
  have hs := length_Sp (l.flatMap LsC) ((c - l.length) * 5)
  unfold c75 r75
  simp (disch := first | omega | (simp only [List.length_cons, List.length_nil]; first | done | omega)) only [go_sem]
  refine loopI (ι := Nat) (fun i => i ≤ l.length ∧ ∀ j, j < i → decide ((l.getD j ls0).l < k.a.nx) = false) (fun i => (8, .int .i64 i) :: _) (fun _ => _) (fun i => l.length - i) 0 ⟨by omega, fun j hj => absurd hj (by omega)⟩ Ents.same ?_
  intro i hi
  have hiB := hi.1
  simp (disch := first | omega | (simp only [List.length_cons, List.length_nil]; first | done | omega)) only [go_sem]
  refine brP (fun hb => ?_) (fun hb => ?_)
  · have hlt : i < l.length := by simpa using hb
    have e2 := ls_at l ((c - l.length) * 5) hlt
    have ha := clS (l.getD i ls0) b2 k
    have hfi := fun h => fstI_is (p := fun i => decide ((l.getD i ls0).l < k.a.nx)) hlt h hi.2
    have hnx := hi.2
    generalize hx : l.getD i ls0 = x at *
    rw [LsC_eq] at e2 ha
    repeat' (first | (simp (disch := first | omega | (simp only [List.length_cons, List.length_nil]; first | done | omega)) only [go_sem, e2]) | (refine allI (fun b => ?_)) | (refine allT (fun τ => ?_)) | (refine brP (fun h => ?_) (fun h => ?_) <;> (try simp only [zgx, zbx] at h)) | (apply And.intro; focus (first | omega | (simp; done) | (simp +contextual; done) | (intros; and_intros <;> first | assumption | omega) | (intros; simp_all; done) | (intro hgd; refine ⟨hgd, ?_⟩; simp [hgd]; done) | (intro hgd; simp only [zgx] at hgd ⊢; omega))) | fail)
    refine ⟨by kernel_rfl, ?_⟩
    first | refine actsQ_U (ha) (pick_perm rfl (pick_perm rfl (List.Perm.refl _))) ?_ | refine actsQ_T (ha) (pick_perm rfl (pick_perm rfl (List.Perm.refl _))) ?_ | refine actsQ_N (ha) (pick_perm rfl (pick_perm rfl (List.Perm.refl _))) ?_ | refine actsQ_of (ha) (pick_perm rfl (pick_perm rfl (List.Perm.refl _))) ?_
    rintro _ _ ⟨rfl, rfl⟩
    repeat' (first | (simp (disch := first | omega | (simp only [List.length_cons, List.length_nil]; first | done | omega)) only [go_sem]) | (refine allI (fun b => ?_)) | (refine allT (fun τ => ?_)) | (refine brP (fun h => ?_) (fun h => ?_) <;> (try simp only [zgx, zbx] at h)) | (apply And.intro; focus (first | omega | (simp; done) | (simp +contextual; done) | (intros; and_intros <;> first | assumption | omega) | (intros; simp_all; done) | (intro hgd; refine ⟨hgd, ?_⟩; simp [hgd]; done) | (intro hgd; simp only [zgx] at hgd ⊢; omega))) | fail)
    · exact ⟨_, _, leVH.of (leV.of_eq (by rw [hfi (by simpa using h)])) ⟨_, List.Sublist.refl _, List.perm_append_comm (l₁ := [_, _]) (l₂ := [_])⟩, rfl, rfl⟩
    · exact ⟨⟨i + 1, by omega, fun j hj => (by omega : j < i ∨ j = i).elim (hnx j) fun e => by rw [e, hx]; simpa using h⟩, by dsimp only; omega, Ents.sub (by simp [go_sem]) ⟨_, List.Sublist.refl _, List.perm_append_comm (l₁ := [_, _]) (l₂ := [_])⟩⟩
  · repeat' (first | (simp (disch := first | omega | (simp only [List.length_cons, List.length_nil]; first | done | omega)) only [go_sem]) | (refine allI (fun b => ?_)) | (refine allT (fun τ => ?_)) | (refine brP (fun h => ?_) (fun h => ?_) <;> (try simp only [zgx, zbx] at h)) | (apply And.intro; focus (first | omega | (simp; done) | (simp +contextual; done) | (intros; and_intros <;> first | assumption | omega) | (intros; simp_all; done) | (intro hgd; refine ⟨hgd, ?_⟩; simp [hgd]; done) | (intro hgd; simp only [zgx] at hgd ⊢; omega))) | fail)
    exact view_sub (leV.of_eq (by rw [fstI_none fun j hj => hi.2 j (by simp only [decide_eq_false_iff_not] at hb; omega)])) (List.Sublist.refl _)
theorem ls_rows (l : List Ls) (i m : Nat) (h : i < l.length) : ∃ P R : List LV, P.length = i * 5 ∧ Sp (l.flatMap LsC) m = P ++ (LsC (l.getD i ls0) ++ R) ∧ ∀ x, Sp ((l.set i x).flatMap LsC) m = P ++ (LsC x ++ R) := by
  refine ⟨(l.take i).flatMap LsC, (l.drop (i + 1)).flatMap LsC ++ List.replicate m .any, by rw [len_ls, List.length_take, Nat.min_eq_left (by omega)], ?_, fun x => ?_⟩
  · have e : l = l.take i ++ l.getD i ls0 :: l.drop (i + 1) := by
      conv => lhs; rw [← List.take_append_drop i l, List.drop_eq_getElem_cons h]
      simp [List.getD, h]
    conv => lhs; rw [e]
    rw [Sp, List.flatMap_append, List.flatMap_cons]
    simp only [List.append_assoc]
  · rw [List.set_eq_take_append_cons_drop, if_pos h]
    simp [Sp]
theorem ls_set (l : List Ls) (i m : Nat) (x : Ls) (h : i < l.length) : List.take (i * 5) (Sp (l.flatMap LsC) m) ++ LsC x ++ List.drop (i * 5 + 5) (Sp (l.flatMap LsC) m) = Sp ((l.set i x).flatMap LsC) m := by
  obtain ⟨P, R, p1, p2, p3⟩ := ls_rows l i m h
  rw [p2, p3, ← p1, List.take_left' rfl, List.drop_length_add_append, LsC_eq]
  simp [LsC_eq]
/-- the ranges that reach nx -/
def keepL (ls : List Ls) (nx : Int) : List Ls := ls.filter fun q => !decide (q.l < nx)
theorem keep_nil {ls : List Ls} {nx : Int} (h : ∀ q ∈ ls, ¬ q.l < nx) : keepL ls nx = ls := by
  rw [keepL, List.filter_eq_self]
  intro q hq
  simpa using h q hq
theorem fstI_spec {n : Nat} {p : Nat → Bool} (h : fstI n p ≠ -1) : ∃ m : Nat, fstI n p = m ∧ m < n ∧ p m = true ∧ ∀ j, j < m → p j = false := by
  unfold fstI at h ⊢
  cases hf : (List.range n).find? p with
  | none => rw [hf] at h; exact absurd rfl h
  | some i =>
    obtain ⟨h1, h2, h3⟩ := (List.find?_range_eq_some).1 hf
    exact ⟨i, rfl, by simpa using h2, h1, fun j hj => by simpa using h3 j hj⟩
theorem fstI_neg {n : Nat} {p : Nat → Bool} (h : fstI n p = -1) : ∀ j, j < n → p j = false := by
  unfold fstI at h
  cases hf : (List.range n).find? p with
  | none =>
    have := (List.find?_range_eq_none).1 hf
    intro j hj
    simpa using this j hj
  | some i => rw [hf] at h; simp only at h; omega
theorem keep_take {ls : List Ls} {nx : Int} {j : Nat} (h : j < ls.length) : keepL (ls.take (j + 1)) nx = keepL (ls.take j) nx ++ if (ls.getD j ls0).l < nx then [] else [ls.getD j ls0] := by
  rw [take_succ_getD ls0 ls h, keepL, List.filter_append]
  congr 1
  by_cases hq : (ls.getD j ls0).l < nx
  · simp only [List.filter_cons, List.filter_nil, hq, decide_true, Bool.not_true, Bool.false_eq_true, if_false, if_true]
  · simp only [List.filter_cons, List.filter_nil, hq, decide_false, Bool.not_false, if_true, if_false]
theorem keep_le (ls : List Ls) (nx : Int) : (keepL ls nx).length ≤ ls.length := List.length_filter_le _ _
theorem set_take {L : List Ls} {i : Nat} {q : Ls} (h : i < L.length) : (L.set i q).take (i + 1) = L.take i ++ [q] := by
  rw [List.set_eq_take_append_cons_drop, if_pos h, List.take_append, List.length_take, Nat.min_eq_left (by omega), List.take_of_length_le (by rw [List.length_take]; omega), show i + 1 - i = 1 by omega]
  rfl
theorem take_ls (L : List Ls) (i : Nat) : (L.take i).flatMap LsC = List.take (i * 5) (L.flatMap LsC) := by
  conv => rhs; rw [← List.take_append_drop i L, List.flatMap_append]
  by_cases h : i ≤ L.length
  · rw [List.take_left' (by rw [len_ls, List.length_take, Nat.min_eq_left h])]
  · rw [List.drop_eq_nil_of_le (by omega), List.flatMap_nil, List.append_nil, List.take_of_length_le (by omega), List.take_of_length_le (by rw [len_ls]; omega)]
theorem drop_next {L M : List Ls} {j : Nat} (h : L.drop j = M.drop j) : L.drop (j + 1) = M.drop (j + 1) := by
  rw [← List.drop_drop, ← List.drop_drop, h]
theorem delf (ls : List Ls) (b2 bL c : Nat) (k : Wk) (hl : ls.length ≤ 1000000000) (hc : ls.length ≤ c) :
    LCalls Tryd.prog gl 56 [.msl 62 5 bL 0 ls.length c, .clo 57 [.ptr 70 b2 0]] [(62, .blk bL (Sp (ls.flatMap LsC) ((c - ls.length) * 5))), (70, .blk b2 [.ptr 50 k.b 0]), (50, .blk k.b (WkC k))] fun r H => r = .msl 62 5 bL 0 (keepL ls k.a.nx).length c ∧ H = [(62, .blk bL (Sp ((keepL ls k.a.nx).flatMap LsC) ((c - (keepL ls k.a.nx).length) * 5))), (70, .blk b2 [.ptr 50 k.b 0]), (50, .blk k.b (WkC k))] := by
  refine fn_viewT Tryd.func56 t56 Tryd.ntmps56 (by simp) ?_
  have hle := len_ls ls
  have hs := length_Sp (ls.flatMap LsC) ((c - ls.length) * 5)
  have hid := idl ls b2 bL c k hl
  have hfr := fstI_range ls.length fun i => decide ((ls.getD i ls0).l < k.a.nx)
  unfold c56 r56
  simp (disch := first | omega | (simp only [List.length_cons, List.length_nil]; first | done | omega)) only [go_sem]
  first | refine actsQ_U (hid) (pick_perm rfl (pick_perm rfl (pick_perm rfl (List.Perm.refl _)))) ?_ | refine actsQ_T (hid) (pick_perm rfl (pick_perm rfl (pick_perm rfl (List.Perm.refl _)))) ?_ | refine actsQ_N (hid) (pick_perm rfl (pick_perm rfl (pick_perm rfl (List.Perm.refl _)))) ?_ | refine actsQ_of (hid) (pick_perm rfl (pick_perm rfl (pick_perm rfl (List.Perm.refl _)))) ?_
  rintro _ _ ⟨rfl, rfl⟩
  by_cases hn : fstI ls.length (fun i => decide ((ls.getD i ls0).l < k.a.nx)) = -1
  · have hno := fstI_neg hn
    rw [hn]
    have hke : keepL ls k.a.nx = ls := keep_nil fun q hq => by
      obtain ⟨j, hj, rfl⟩ := List.getElem_of_mem hq
      have := hno j hj
      simpa [List.getD, hj] using this
    repeat' (first | (simp (disch := first | omega | (simp only [List.length_cons, List.length_nil]; first | done | omega)) only [go_sem]) | (refine allI (fun b => ?_)) | (refine allT (fun τ => ?_)) | (refine brP (fun h => ?_) (fun h => ?_) <;> (try simp only [zgx, zbx] at h)) | (apply And.intro; focus (first | omega | (simp; done) | (simp +contextual; done) | (intros; and_intros <;> first | assumption | omega) | (intros; simp_all; done) | (intro hgd; refine ⟨hgd, ?_⟩; simp [hgd]; done) | (intro hgd; simp only [zgx] at hgd ⊢; omega))) | fail)
    rw [hke]
    exact ⟨_, _, leVH.of (leV.refl _) ⟨_, List.Sublist.refl _, List.Perm.refl _⟩, rfl, rfl⟩
  · obtain ⟨m, hm, hml, hm1, hm2⟩ := fstI_spec hn
    rw [hm]
    have d0 : ((m : Int) == -1) = false := by simp
    repeat' (first | (simp (disch := first | omega | (simp only [List.length_cons, List.length_nil]; first | done | omega)) only [go_sem, d0]) | (refine allI (fun b => ?_)) | (refine allT (fun τ => ?_)) | (refine brP (fun h => ?_) (fun h => ?_) <;> (try simp only [zgx, zbx] at h)) | (apply And.intro; focus (first | omega | (simp; done) | (simp +contextual; done) | (intros; and_intros <;> first | assumption | omega) | (intros; simp_all; done) | (intro hgd; refine ⟨hgd, ?_⟩; simp [hgd]; done) | (intro hgd; simp only [zgx] at hgd ⊢; omega))) | fail)
    have hk0 : keepL (ls.take m) k.a.nx = ls.take m := keep_nil fun q hq => by
      obtain ⟨j, hj, rfl⟩ := List.getElem_of_mem hq
      have hjm : j < m := by rw [List.length_take] at hj; omega
      have := hm2 j hjm
      simpa [List.getD, show j < ls.length by omega] using this
    have hk1 := keep_take (nx := k.a.nx) hml
    rw [if_pos (by simpa using hm1), hk0, List.append_nil] at hk1
    refine loopI (ι := Nat × Nat × List Ls) (fun y => (y.1 ≤ ls.length ∧ y.2.1 < y.1) ∧ y.2.2.length = ls.length ∧ y.2.2.take y.2.1 = keepL (ls.take y.1) k.a.nx ∧ y.2.2.drop y.1 = ls.drop y.1) (fun y => [(6, .int .i64 y.1), (5, .int .i64 y.2.1), (0, .msl 62 5 bL 0 ls.length c), (1, .clo 57 [.ptr 70 b2 0])]) (fun y => [(62, .blk bL (Sp (y.2.2.flatMap LsC) ((c - ls.length) * 5))), (70, .blk b2 [.ptr 50 k.b 0]), (50, .blk k.b (WkC k))]) (fun y => ls.length - y.1) (m + 1, m, ls) ⟨by dsimp only; omega, rfl, hk1.symm, rfl⟩ (Ents.envH (by simp [go_sem]) rfl) ?_
    rintro ⟨j, i, L⟩ ⟨⟨h1, h2⟩, h3, h4, h5⟩
    dsimp only at h1 h2 h3 h4 h5 ⊢
    have hL := len_ls L
    have hsL := length_Sp (L.flatMap LsC) ((c - ls.length) * 5)
    simp (disch := first | omega | (simp only [List.length_cons, List.length_nil]; first | done | omega)) only [go_sem]
    refine brP (fun hb => ?_) (fun hb => ?_)
    · have hlt : j < ls.length := by simpa using hb
      have e2 := ls_at L ((c - ls.length) * 5) (i := j) (by omega)
      have hq : L.getD j ls0 = ls.getD j ls0 := by
        have := congrArg (fun z => z.getD 0 ls0) h5
        simpa [List.getD] using this
      have hkt := keep_take (nx := k.a.nx) hlt
      rw [hq] at e2
      have ha := clS (ls.getD j ls0) b2 k
      have hset := ls_set L i ((c - ls.length) * 5) (ls.getD j ls0) (by omega)
      generalize ls.getD j ls0 = q at *
      rw [LsC_eq] at e2 ha hset
      repeat' (first | (simp (disch := first | omega | (simp only [List.length_cons, List.length_nil]; first | done | omega)) only [go_sem, e2, zLs]) | (refine allI (fun b => ?_)) | (refine allT (fun τ => ?_)) | (refine brP (fun h => ?_) (fun h => ?_) <;> (try simp only [zgx, zbx] at h)) | (apply And.intro; focus (first | omega | (simp; done) | (simp +contextual; done) | (intros; and_intros <;> first | assumption | omega) | (intros; simp_all; done) | (intro hgd; refine ⟨hgd, ?_⟩; simp [hgd]; done) | (intro hgd; simp only [zgx] at hgd ⊢; omega))) | fail)
      refine ⟨by kernel_rfl, ?_⟩
      first | refine actsQ_U (ha) (pick_perm rfl (pick_perm rfl (List.Perm.refl _))) ?_ | refine actsQ_T (ha) (pick_perm rfl (pick_perm rfl (List.Perm.refl _))) ?_ | refine actsQ_N (ha) (pick_perm rfl (pick_perm rfl (List.Perm.refl _))) ?_ | refine actsQ_of (ha) (pick_perm rfl (pick_perm rfl (List.Perm.refl _))) ?_
      rintro _ _ ⟨rfl, rfl⟩
      repeat' (first | (simp (disch := first | omega | (simp only [List.length_cons, List.length_nil]; first | done | omega)) only [go_sem]) | (refine allI (fun b => ?_)) | (refine allT (fun τ => ?_)) | (refine brP (fun h => ?_) (fun h => ?_) <;> (try simp only [zgx, zbx] at h)) | (apply And.intro; focus (first | omega | (simp; done) | (simp +contextual; done) | (intros; and_intros <;> first | assumption | omega) | (intros; simp_all; done) | (intro hgd; refine ⟨hgd, ?_⟩; simp [hgd]; done) | (intro hgd; simp only [zgx] at hgd ⊢; omega))) | fail)
      · rw [hset]
        refine ⟨⟨(j + 1, i + 1, L.set i q), ⟨by dsimp only; omega, ?_⟩, ?_, ?_, ?_⟩, by dsimp only; omega, Ents.sub (by simp [go_sem]) ⟨_, .cons_cons _ (.cons_cons _ (.cons _ (.cons_cons _ .slnil))), List.perm_append_comm (l₁ := [_, _]) (l₂ := [_])⟩⟩
        · dsimp only; omega
        · dsimp only; rw [List.length_set, h3]
        · dsimp only
          rw [hkt, if_neg (by omega), ← h4, set_take (by omega)]
        · dsimp only
          rw [List.drop_set_of_lt (by omega), drop_next h5]
      · refine ⟨⟨(j + 1, i, L), ⟨by dsimp only; omega, by dsimp only; omega⟩, h3, ?_, drop_next h5⟩, by dsimp only; omega, Ents.sub (by simp [go_sem]) ⟨_, .cons_cons _ (.cons_cons _ (.cons _ (.cons_cons _ .slnil))), List.perm_append_comm (l₁ := [_, _]) (l₂ := [_])⟩⟩
        dsimp only
        rw [hkt, if_pos h, List.append_nil, h4]
    · have hje : j = ls.length := by simp only [decide_eq_false_iff_not] at hb; omega
      subst hje
      rw [List.take_length] at h4
      have e0 : (if c = 0 then 0 else 0) = 0 := by split <;> rfl
      have hne : ¬ c = i := by omega
      have hkl : (keepL ls k.a.nx).length = i := by rw [← h4, List.length_take]; omega
      repeat' (first | (simp (disch := first | omega | (simp only [List.length_cons, List.length_nil]; first | done | omega)) only [go_sem]) | (refine allI (fun b => ?_)) | (refine allT (fun τ => ?_)) | (refine brP (fun h => ?_) (fun h => ?_) <;> (try simp only [zgx, zbx] at h)) | (apply And.intro; focus (first | omega | (simp; done) | (simp +contextual; done) | (intros; and_intros <;> first | assumption | omega) | (intros; simp_all; done) | (intro hgd; refine ⟨hgd, ?_⟩; simp [hgd]; done) | (intro hgd; simp only [zgx] at hgd ⊢; omega))) | fail)
      simp only [e0, if_neg hne, Nat.sub_zero]
      refine ⟨by rw [hsL, hL]; omega, by omega, ?_⟩
      rw [hkl, ← h4]
      refine ⟨_, [(62, .blk bL (Sp ((L.take i).flatMap LsC) ((c - i) * 5))), (70, .blk b2 [.ptr 50 k.b 0]), (50, .blk k.b (WkC k))], leVH.le ⟨⟨rfl, ?_⟩, ⟨rfl, leVs.refl _⟩, ⟨rfl, leVs.refl _⟩, trivial⟩, rfl, rfl⟩
      have e1 : List.take (i * 5) (Sp (L.flatMap LsC) ((c - ls.length) * 5)) = (L.take i).flatMap LsC := by rw [take_Sp_le (by omega), ← take_ls]
      rw [e1, List.append_assoc]
      refine leVs.sp ?_
      simp only [List.length_append, List.length_drop, hsL, hL, zeros, List.length_map, List.length_range]
      omega
end Go.Proofs.YtfheeghkajihoaaDoor
