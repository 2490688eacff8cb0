/- Layer 22: comparisons (the reference). -/
import Derived.Test.YtfheeghkajihoaaDoorXf
import Derived.Test.YtfheeghkajihoaaDoorCoda
import Derived.Test.YtfheeghkajihoaaDoorCg
namespace Go.Proofs.YtfheeghkajihoaaDoor
open Go Go.Lx
set_option linter.unusedSimpArgs false
set_option linter.unusedVariables false
set_option maxRecDepth 100000
set_option maxHeartbeats 4000000

theorem samePs (ps : List Pr) (h : ps.length ≤ 1000000) : Pure Tryd.prog gl 82 [.sl 4 ps.length (ps.flatMap PrC), .sl 4 ps.length (ps.flatMap PrC)] (.bool true) := by
  refine fn_pureT Tryd.func82 t82 Tryd.ntmps82 (by simp) ?_
  have hlen := len_pr ps
  unfold c82 r82
  repeat' (first | (simp (disch := first | omega | (simp only [List.length_cons, List.length_nil]; first | done | omega)) only [go_sem, bne_self_eq_false]) | (refine allI (fun b => ?_)) | (refine allT (fun τ => ?_)) | (refine brP (fun h => ?_) (fun h => ?_) <;> (try simp only [zgx, zbx] at h)))
  refine loopI (ι := Nat) (fun x => x ≤ ps.length) (fun x => (5, .int .i64 x) :: _) (fun x => _) (fun x => ps.length - x) 0 (by omega) Ents.same ?_
  intro k hk
  repeat' (first | (simp (disch := first | omega | (simp only [List.length_cons, List.length_nil]; first | done | omega)) only [go_sem]) | (refine allI (fun b => ?_)) | (refine allT (fun τ => ?_)) | (refine brP (fun h => ?_) (fun h => ?_) <;> (try simp only [zgx, zbx] at h)))
  · have hlt : k < ps.length := by omega
    have hr := take_rows (f := PrC) (w := 4) (fun _ => rfl) pr0 ps hlt
    first | rw [hr] | rw [getD_take1 hr]
    refine ⟨by omega, by omega, by omega, by omega, ?_⟩
    repeat' (first | (simp (disch := first | omega | (simp only [List.length_cons, List.length_nil]; first | done | omega)) only [go_sem, PrC_eq, beq_self_eq_true, Bool.and_self, Bool.not_true, bne_self_eq_false]) | (refine allI (fun b => ?_)) | (refine allT (fun τ => ?_)) | (refine brP (fun h => ?_) (fun h => ?_) <;> (try simp only [zgx, zbx] at h)))
    exact ⟨⟨k + 1, by omega⟩, by dsimp only; omega, Ents.envH (by simp [go_sem]) rfl⟩
theorem sameR (r : Rc) (h : r.ps.length ≤ 1000000) : Pure Tryd.prog gl 76 [.agg (RcC r), .agg (RcC r)] (.bool true) := by
  refine fn_pureT Tryd.func76 t76 Tryd.ntmps76 (by simp) ?_
  have hp := samePs r.ps h
  unfold c76 r76
  simp (disch := first | omega | (simp only [List.length_cons, List.length_nil]; first | done | omega)) only [go_sem, RcC_eq, beq_self_eq_true]
  intro b2 b3
  first | refine callG_U (fun hg => hp) ?_ | refine callG_T (fun hg => hp) ?_ | refine callG_of (fun hg => hp) ?_
  simp (disch := first | omega | (simp only [List.length_cons, List.length_nil]; first | done | omega)) only [go_sem]
theorem sameRs (l : List Rc) (hn : l.length ≤ 1000000000) (hp : ∀ r ∈ l, r.ps.length ≤ 1000000) : Pure Tryd.prog gl 58 [.sl 4 l.length (l.flatMap RcC), .sl 4 l.length (l.flatMap RcC)] (.bool true) := by
  refine fn_pureT Tryd.func58 t58 Tryd.ntmps58 (by simp) ?_
  have hlen := len_rc l
  unfold c58 r58
  repeat' (first | (simp (disch := first | omega | (simp only [List.length_cons, List.length_nil]; first | done | omega)) only [go_sem, bne_self_eq_false]) | (refine allI (fun b => ?_)) | (refine allT (fun τ => ?_)) | (refine brP (fun h => ?_) (fun h => ?_) <;> (try simp only [zgx, zbx] at h)))
  refine loopI (ι := Nat) (fun x => x ≤ l.length) (fun x => (5, .int .i64 x) :: _) (fun x => _) (fun x => l.length - x) 0 (by omega) Ents.same ?_
  intro k hk
  repeat' (first | (simp (disch := first | omega | (simp only [List.length_cons, List.length_nil]; first | done | omega)) only [go_sem]) | (refine allI (fun b => ?_)) | (refine allT (fun τ => ?_)) | (refine brP (fun h => ?_) (fun h => ?_) <;> (try simp only [zgx, zbx] at h)))
  · have hlt : k < l.length := by omega
    rw [take_rows (f := RcC) (w := 4) (fun _ => rfl) rc0 l hlt]
    refine ⟨by omega, by omega, by omega, by omega, ?_⟩
    first | refine call_U (sameR (l.getD k rc0) (hp _ (getD_memA rc0 hlt))) ?_ | refine call_T (sameR (l.getD k rc0) (hp _ (getD_memA rc0 hlt))) ?_ | refine call_N (sameR (l.getD k rc0) (hp _ (getD_memA rc0 hlt))) ?_ | refine call_of (sameR (l.getD k rc0) (hp _ (getD_memA rc0 hlt))) ?_
    repeat' (first | (simp (disch := first | omega | (simp only [List.length_cons, List.length_nil]; first | done | omega)) only [go_sem, Bool.not_true]) | (refine allI (fun b => ?_)) | (refine allT (fun τ => ?_)) | (refine brP (fun h => ?_) (fun h => ?_) <;> (try simp only [zgx, zbx] at h)))
    exact ⟨⟨k + 1, by omega⟩, by dsimp only; omega, Ents.envH (by simp [go_sem]) rfl⟩
/-- an event within a computer's reach -/
def okE (e : Ev) : Prop := e.rs.length ≤ 1000000000 ∧ ∀ r ∈ e.rs, r.ps.length ≤ 1000000
theorem sameE (e : Ev) (h : okE e) : Pure Tryd.prog gl 35 [.agg (EvC e), .agg (EvC e)] (.bool true) := by
  refine fn_pureT Tryd.func35 t35 Tryd.ntmps35 (by simp) ?_
  have hp := sameRs e.rs h.1 h.2
  unfold c35 r35
  simp (disch := first | omega | (simp only [List.length_cons, List.length_nil]; first | done | omega)) only [go_sem, EvC_eq, beq_self_eq_true]
  intro b2 b3
  first | refine callG_U (fun hg => hp) ?_ | refine callG_T (fun hg => hp) ?_ | refine callG_of (fun hg => hp) ?_
  simp (disch := first | omega | (simp only [List.length_cons, List.length_nil]; first | done | omega)) only [go_sem]
theorem sameEs (l : List Ev) (hn : l.length ≤ 1000000000) (hp : ∀ e ∈ l, okE e) : Pure Tryd.prog gl 20 [.sl 5 l.length (l.flatMap EvC), .sl 5 l.length (l.flatMap EvC)] (.bool true) := by
  refine fn_pureT Tryd.func20 t20 Tryd.ntmps20 (by simp) ?_
  have hlen := len_ev l
  unfold c20 r20
  repeat' (first | (simp (disch := first | omega | (simp only [List.length_cons, List.length_nil]; first | done | omega)) only [go_sem, bne_self_eq_false]) | (refine allI (fun b => ?_)) | (refine allT (fun τ => ?_)) | (refine brP (fun h => ?_) (fun h => ?_) <;> (try simp only [zgx, zbx] at h)))
  refine loopI (ι := Nat) (fun x => x ≤ l.length) (fun x => (5, .int .i64 x) :: _) (fun x => _) (fun x => l.length - x) 0 (by omega) Ents.same ?_
  intro k hk
  repeat' (first | (simp (disch := first | omega | (simp only [List.length_cons, List.length_nil]; first | done | omega)) only [go_sem]) | (refine allI (fun b => ?_)) | (refine allT (fun τ => ?_)) | (refine brP (fun h => ?_) (fun h => ?_) <;> (try simp only [zgx, zbx] at h)))
  · have hlt : k < l.length := by omega
    rw [take_rows (f := EvC) (w := 5) (fun _ => rfl) ev0 l hlt]
    refine ⟨by omega, by omega, by omega, by omega, ?_⟩
    first | refine call_U (sameE (l.getD k ev0) (hp _ (getD_memA ev0 hlt))) ?_ | refine call_T (sameE (l.getD k ev0) (hp _ (getD_memA ev0 hlt))) ?_ | refine call_N (sameE (l.getD k ev0) (hp _ (getD_memA ev0 hlt))) ?_ | refine call_of (sameE (l.getD k ev0) (hp _ (getD_memA ev0 hlt))) ?_
    repeat' (first | (simp (disch := first | omega | (simp only [List.length_cons, List.length_nil]; first | done | omega)) only [go_sem, Bool.not_true]) | (refine allI (fun b => ?_)) | (refine allT (fun τ => ?_)) | (refine brP (fun h => ?_) (fun h => ?_) <;> (try simp only [zgx, zbx] at h)))
    exact ⟨⟨k + 1, by omega⟩, by dsimp only; omega, Ents.envH (by simp [go_sem]) rfl⟩
theorem sameA (a : As) (m : Nat) (ok : okA a m) (hm : m ≤ 1000000000) : Pure Tryd.prog gl 19 [.agg (AsC a), .agg (AsC a)] (.bool true) := by
  refine fn_pureT Tryd.func19 t19 Tryd.ntmps19 (by simp) ?_
  have hp := sameEs a.op (by have := ok.op; omega) fun e he => ⟨by have := (ok.ev e he).2.1; omega, (ok.ev e he).2.2⟩
  have hlL := len_ls a.ls
  have hlG := len_gp a.gs
  have hL := ok.lL
  have hG := ok.lG
  have hnx := ok.nx
  unfold c19 r19
  rw [AsC_eq]
  repeat' (first | (simp (disch := first | omega | (simp only [List.length_cons, List.length_nil]; first | done | omega)) only [go_sem, bne_self_eq_false]) | (refine allI (fun b => ?_)) | (refine allT (fun τ => ?_)) | (refine brP (fun h => ?_) (fun h => ?_) <;> (try simp only [zgx, zbx] at h)) | refine call_U (hp) ?_ | refine callG_U (fun _ => hp) ?_ | refine call_T (hp) ?_ | refine callG_T (fun _ => hp) ?_ | refine call_N (hp) ?_ | refine call_of (hp) ?_ | refine callG_of (fun _ => hp) ?_ | (apply And.intro; focus (first | omega | (simp; done) | (simp +contextual; done) | (intros; and_intros <;> first | assumption | omega) | (intros; simp_all; done) | (intro hgd; refine ⟨hgd, ?_⟩; simp [hgd]; done) | (intro hgd; simp only [zgx] at hgd ⊢; omega))) | fail)
  refine loopI (ι := Nat) (fun x => x ≤ a.ls.length) (fun x => (5, .int .i64 x) :: _) (fun x => _) (fun x => a.ls.length - x) 0 (by omega) Ents.same ?_
  intro k hk
  simp (disch := first | omega | (simp only [List.length_cons, List.length_nil]; first | done | omega)) only [go_sem]
  refine brP (fun hb => ?_) (fun hb => ?_)
  · have hlt : k < a.ls.length := by simpa using hb
    have hr := take_rows (f := LsC) (w := 5) (fun _ => rfl) ls0 a.ls hlt
    repeat' (first | (simp (disch := first | omega | (simp only [List.length_cons, List.length_nil]; first | done | omega)) only [go_sem, hr, LsC_eq, beq_self_eq_true, Bool.and_self, Bool.not_true, bne_self_eq_false]) | (refine allI (fun b => ?_)) | (refine allT (fun τ => ?_)) | (refine brP (fun h => ?_) (fun h => ?_) <;> (try simp only [zgx, zbx] at h)) | (apply And.intro; focus (first | omega | (simp; done) | (simp +contextual; done) | (intros; and_intros <;> first | assumption | omega) | (intros; simp_all; done) | (intro hgd; refine ⟨hgd, ?_⟩; simp [hgd]; done) | (intro hgd; simp only [zgx] at hgd ⊢; omega))) | fail)
    exact ⟨⟨k + 1, by omega⟩, by dsimp only; omega, Ents.envH (by simp [go_sem]) rfl⟩
  · repeat' (first | (simp (disch := first | omega | (simp only [List.length_cons, List.length_nil]; first | done | omega)) only [go_sem]) | (refine allI (fun b => ?_)) | (refine allT (fun τ => ?_)) | (refine brP (fun h => ?_) (fun h => ?_) <;> (try simp only [zgx, zbx] at h)) | (apply And.intro; focus (first | omega | (simp; done) | (simp +contextual; done) | (intros; and_intros <;> first | assumption | omega) | (intros; simp_all; done) | (intro hgd; refine ⟨hgd, ?_⟩; simp [hgd]; done) | (intro hgd; simp only [zgx] at hgd ⊢; omega))) | fail)
    refine loopI (ι := Nat) (fun x => x ≤ a.gs.length) (fun x => (6, .int .i64 x) :: _) (fun x => _) (fun x => a.gs.length - x) 0 (by omega) Ents.same ?_
    intro k hk
    simp (disch := first | omega | (simp only [List.length_cons, List.length_nil]; first | done | omega)) only [go_sem]
    refine brP (fun hb => ?_) (fun hb => ?_)
    · have hlt : k < a.gs.length := by simpa using hb
      have hr := take_rows (f := GpC) (w := 2) (fun _ => rfl) gp0 a.gs hlt
      repeat' (first | (simp (disch := first | omega | (simp only [List.length_cons, List.length_nil]; first | done | omega)) only [go_sem, hr, GpC_eq, beq_self_eq_true, Bool.and_self, Bool.not_true, bne_self_eq_false]) | (refine allI (fun b => ?_)) | (refine allT (fun τ => ?_)) | (refine brP (fun h => ?_) (fun h => ?_) <;> (try simp only [zgx, zbx] at h)) | (apply And.intro; focus (first | omega | (simp; done) | (simp +contextual; done) | (intros; and_intros <;> first | assumption | omega) | (intros; simp_all; done) | (intro hgd; refine ⟨hgd, ?_⟩; simp [hgd]; done) | (intro hgd; simp only [zgx] at hgd ⊢; omega))) | fail)
      exact ⟨⟨k + 1, by omega⟩, by dsimp only; omega, Ents.envH (by simp [go_sem]) rfl⟩
    · repeat' (first | (simp (disch := first | omega | (simp only [List.length_cons, List.length_nil]; first | done | omega)) only [go_sem]) | (refine allI (fun b => ?_)) | (refine allT (fun τ => ?_)) | (refine brP (fun h => ?_) (fun h => ?_) <;> (try simp only [zgx, zbx] at h)) | (apply And.intro; focus (first | omega | (simp; done) | (simp +contextual; done) | (intros; and_intros <;> first | assumption | omega) | (intros; simp_all; done) | (intro hgd; refine ⟨hgd, ?_⟩; simp [hgd]; done) | (intro hgd; simp only [zgx] at hgd ⊢; omega))) | fail)
end Go.Proofs.YtfheeghkajihoaaDoor

/- Layer 22: parts of lists of rows; how many events (plain). -/
namespace Go.Proofs.YtfheeghkajihoaaDoor
open Go Go.Lx
set_option linter.unusedSimpArgs false
set_option linter.unusedVariables false
set_option maxRecDepth 100000
set_option maxHeartbeats 4000000

theorem take_fm {α : Type} {f : α → List LV} {w : Nat} (hw : ∀ x, (f x).length = w) : ∀ (l : List α) (i : Nat), (l.take i).flatMap f = List.take (i * w) (l.flatMap f)
  | [], i => by simp
  | x :: l, 0 => by simp
  | x :: l, i + 1 => by
    rw [List.take_succ_cons, List.flatMap_cons, List.flatMap_cons, take_fm hw l i, List.take_append, hw, Nat.succ_mul, List.take_of_length_le (l := f x) (by rw [hw]; omega), Nat.add_sub_cancel]
theorem drop_fm {α : Type} {f : α → List LV} {w : Nat} (hw : ∀ x, (f x).length = w) : ∀ (l : List α) (i : Nat), (l.drop i).flatMap f = List.drop (i * w) (l.flatMap f)
  | [], i => by simp
  | x :: l, 0 => by simp
  | x :: l, i + 1 => by
    rw [List.drop_succ_cons, List.flatMap_cons, drop_fm hw l i, List.drop_append, hw, Nat.succ_mul, List.drop_of_length_le (l := f x) (by rw [hw]; omega), Nat.add_sub_cancel, List.nil_append]
theorem len_cntE : ∀ {l : List Ev}, (∀ e ∈ l, evG e) → l.length ≤ cnt l
  | [], _ => Nat.le_refl _
  | e :: l, h => by
    have h1 := len_cntE (l := l) fun x hx => h x (by simp [hx])
    have h2 : 0 < e.rs.length := List.length_pos_iff.2 (h e (by simp)).1
    simp [cnt] at h1 ⊢
    omega
/-- no more events than records -/
theorem out_len (bo : Int) (l : List Rc) (hl : ∀ r ∈ l, r.ps.length ≤ 1000000) : (feedS (as0 bo) l).2.length ≤ l.length := by
  have a := asc_fold l _ _ (asc0 bo)
  rw [Nat.zero_add] at a
  change Asc (feedS (as0 bo) l) l.length at a
  have ok := (okA_feedS (okA0 bo) l hl).st
  have h1 := len_cntE a.eo
  have h2 := a.n
  omega
/-- what is given out is within a computer's reach, too -/
theorem okO_step {edge : Int} {s s' : St} {m : Nat} (h : stepS edge s = some s') (ok : okA s.1 m) (ho : ∀ e ∈ s.2, e.rs.length ≤ m ∧ ∀ r ∈ e.rs, r.ps.length ≤ 1000000) : ∀ e ∈ s'.2, e.rs.length ≤ m ∧ ∀ r ∈ e.rs, r.ps.length ≤ 1000000 := by
  rcases stepS_cases h with ⟨j, h1, _, rfl⟩ | ⟨_, z, _, _, h4⟩
  · intro e he
    rcases List.mem_append.1 he with he | he
    · exact ho e he
    · simp only [List.mem_singleton] at he
      subst he
      exact (ok.ev _ (getD_memA ev0 h1)).2
  · rcases h4 with rfl | rfl <;> exact ho
theorem okO_runs {edge : Int} {s r : St} {m : Nat} (hed : edge ≤ 1073741824) (h : Runs edge s r) : okA s.1 m → (∀ e ∈ s.2, e.rs.length ≤ m ∧ ∀ r ∈ e.rs, r.ps.length ≤ 1000000) → ∀ e ∈ r.2, e.rs.length ≤ m ∧ ∀ r ∈ e.rs, r.ps.length ≤ 1000000 := by
  induction h with
  | stop _ => exact fun _ => id
  | step h _ ih => exact fun ok ho => ih (okA_step hed h ok) (okO_step h ok ho)
theorem okO_settle {edge : Int} {s : St} {m : Nat} (hed : edge ≤ 1073741824) (ok : okA s.1 m) (ho : ∀ e ∈ s.2, e.rs.length ≤ m ∧ ∀ r ∈ e.rs, r.ps.length ≤ 1000000) : ∀ e ∈ (settleS edge s).2, e.rs.length ≤ m ∧ ∀ r ∈ e.rs, r.ps.length ≤ 1000000 := by
  unfold settleS
  exact okO_runs (r := runS edge (1073741825 - s.1.nx).toNat s) hed (runs_ex edge _ s (Int.self_le_toNat _)) ok ho
theorem okO_fold : ∀ (l : List Rc) (s : St) (m : Nat), okA s.1 m → (∀ r ∈ l, r.ps.length ≤ 1000000) → (∀ e ∈ s.2, e.rs.length ≤ m ∧ ∀ r ∈ e.rs, r.ps.length ≤ 1000000) → ∀ e ∈ (l.foldl feedR s).2, e.rs.length ≤ m + l.length ∧ ∀ r ∈ e.rs, r.ps.length ≤ 1000000
  | [], _, _, _, _, ho => ho
  | r :: l, s, m, ok, hl, ho => by
    rw [List.foldl_cons, List.length_cons, show m + (l.length + 1) = m + 1 + l.length by omega]
    refine okO_fold l (feedR s r) (m + 1) (okA_feedR ok (hl r (by simp))) (fun q hq => hl q (by simp [hq])) ?_
    have h := okA_take ok (hl r (by simp))
    have ho2 : ∀ e ∈ s.2, e.rs.length ≤ m + 1 ∧ ∀ r ∈ e.rs, r.ps.length ≤ 1000000 := fun e he => ⟨by have := (ho e he).1; omega, (ho e he).2⟩
    unfold feedR
    split
    · exact okO_settle (by have := h.la; omega) h ho2
    · exact ho2
theorem okO_feedS {a : As} {m : Nat} (ok : okA a m) (l : List Rc) (hl : ∀ r ∈ l, r.ps.length ≤ 1000000) (hm : m + l.length ≤ 1000000000) : ∀ e ∈ (feedS a l).2, okE e := fun e he => by
  have h := okO_fold l (a, []) m ok hl (fun e he => absurd he List.not_mem_nil) e he
  exact ⟨by omega, h.2⟩
end Go.Proofs.YtfheeghkajihoaaDoor
