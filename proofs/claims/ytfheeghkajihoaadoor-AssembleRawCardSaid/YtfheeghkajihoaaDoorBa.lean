/- Layer 22: pairs, records, events; which types there are, and which are single (the program). -/
import Derived.Test.YtfheeghkajihoaaDoorGl
import Derived.Test.YtfheeghkajihoaaDoorLxV
namespace Go.Proofs.YtfheeghkajihoaaDoor
open Go Go.Lx
set_option linter.unusedSimpArgs false
set_option linter.unusedVariables false
set_option maxRecDepth 100000
set_option maxHeartbeats 4000000

/-- a pair -/
structure Pr where
  n : List UInt8
  k : Int
  v : Int
  t : List UInt8
  deriving DecidableEq
def PrC (p : Pr) : List LV := [.str p.n, .int .i64 p.k, .int .i64 p.v, .str p.t]
theorem PrC_eq (p : Pr) : PrC p = [.str p.n, .int .i64 p.k, .int .i64 p.v, .str p.t] := Eq.trans rfl rfl
def pr0 : Pr := ⟨[], 0, 0, []⟩
theorem len_pr (l : List Pr) : (l.flatMap PrC).length = l.length * 4 := length_rows (f := PrC) (w := 4) (fun _ => rfl) l
/-- a record -/
structure Rc where
  ty : Int
  ti : Int
  se : Int
  ps : List Pr
  deriving DecidableEq
def RcC (r : Rc) : List LV := [.int .i64 r.ty, .int .i64 r.ti, .int .i64 r.se, .sl 4 r.ps.length (r.ps.flatMap PrC)]
theorem RcC_eq (r : Rc) : RcC r = [.int .i64 r.ty, .int .i64 r.ti, .int .i64 r.se, .sl 4 r.ps.length (r.ps.flatMap PrC)] := Eq.trans rfl rfl
def rc0 : Rc := ⟨0, 0, 0, []⟩
theorem len_rc (l : List Rc) : (l.flatMap RcC).length = l.length * 4 := length_rows (f := RcC) (w := 4) (fun _ => rfl) l
/-- an event -/
structure Ev where
  bo : Int
  se : Int
  ti : Int
  rs : List Rc
  co : Bool
  deriving DecidableEq
def EvC (e : Ev) : List LV := [.int .i64 e.bo, .int .i64 e.se, .int .i64 e.ti, .sl 4 e.rs.length (e.rs.flatMap RcC), .bool e.co]
theorem EvC_eq (e : Ev) : EvC e = [.int .i64 e.bo, .int .i64 e.se, .int .i64 e.ti, .sl 4 e.rs.length (e.rs.flatMap RcC), .bool e.co] := Eq.trans rfl rfl
def ev0 : Ev := ⟨0, 0, 0, [], false⟩
theorem len_ev (l : List Ev) : (l.flatMap EvC).length = l.length * 5 := length_rows (f := EvC) (w := 5) (fun _ => rfl) l
/-- a range that a LOSS record covers -/
structure Ls where
  f : Int
  l : Int
  ra : Int
  fu : Int
  sd : Int
  deriving DecidableEq
def LsC (x : Ls) : List LV := [.int .i64 x.f, .int .i64 x.l, .int .i64 x.ra, .int .i64 x.fu, .int .i64 x.sd]
theorem LsC_eq (x : Ls) : LsC x = [.int .i64 x.f, .int .i64 x.l, .int .i64 x.ra, .int .i64 x.fu, .int .i64 x.sd] := Eq.trans rfl rfl
def ls0 : Ls := ⟨0, 0, 0, 0, 0⟩
theorem len_ls (l : List Ls) : (l.flatMap LsC).length = l.length * 5 := length_rows (f := LsC) (w := 5) (fun _ => rfl) l
/-- a gap -/
structure Gp where
  f : Int
  l : Int
  deriving DecidableEq
def GpC (x : Gp) : List LV := [.int .i64 x.f, .int .i64 x.l]
theorem GpC_eq (x : Gp) : GpC x = [.int .i64 x.f, .int .i64 x.l] := Eq.trans rfl rfl
def gp0 : Gp := ⟨0, 0⟩
theorem len_gp (l : List Gp) : (l.flatMap GpC).length = l.length * 2 := length_rows (f := GpC) (w := 2) (fun _ => rfl) l
/-- an assembler -/
structure As where
  bo : Int
  nx : Int
  st : Int
  op : List Ev
  ls : List Ls
  gs : List Gp
  la : Int
  deriving DecidableEq
def AsC (a : As) : List LV := [.int .i64 a.bo, .int .i64 a.nx, .int .i64 a.st, .sl 5 a.op.length (a.op.flatMap EvC), .sl 5 a.ls.length (a.ls.flatMap LsC), .sl 2 a.gs.length (a.gs.flatMap GpC), .int .i64 a.la]
theorem AsC_eq (a : As) : AsC a = [.int .i64 a.bo, .int .i64 a.nx, .int .i64 a.st, .sl 5 a.op.length (a.op.flatMap EvC), .sl 5 a.ls.length (a.ls.flatMap LsC), .sl 2 a.gs.length (a.gs.flatMap GpC), .int .i64 a.la] := Eq.trans rfl rfl
/-- the row of a type -/
def rowT (t : Int) : List UInt8 × Int × Bool := (tyT.find? fun x => x.2.1 == t).getD ([], 0, false)
def nameS (t : Int) : List UInt8 := (rowT t).1
def singS (t : Int) : Bool := (rowT t).2.2
def ty0 : List UInt8 × Int × Bool := ([], 0, false)
theorem rowT_is {t : Int} {k : Nat} (h : k < tyT.length) (hp : (tyT.getD k ty0).2.1 = t) (hn : ∀ j, j < k → (tyT.getD j ty0).2.1 ≠ t) : rowT t = tyT.getD k ty0 := by
  have : tyT.find? (fun x => x.2.1 == t) = some (tyT.getD k ty0) := by
    rw [List.find?_eq_some_iff_getElem]
    refine ⟨by simpa using hp, k, h, by simp [List.getD, h], fun j hj => ?_⟩
    have := hn j hj
    have hjl : j < tyT.length := by omega
    simpa [List.getD, hjl] using this
  rw [rowT, this]; rfl
theorem rowT_no {t : Int} (hn : ∀ j, j < tyT.length → (tyT.getD j ty0).2.1 ≠ t) : rowT t = ([], 0, false) := by
  have : tyT.find? (fun x => x.2.1 == t) = none := by
    rw [List.find?_eq_none]
    intro x hx
    obtain ⟨j, hj, rfl⟩ := List.getElem_of_mem hx
    have := hn j hj
    simpa [List.getD, hj] using this
  rw [rowT, this]; rfl
theorem ty_at {k : Nat} (h : k < 10) : (types.drop (k * 3)).take 3 = TyC (tyT.getD k ty0) := take_rows (f := TyC) (fun _ => rfl) ty0 tyT (by simpa [tyT] using h)
theorem TyC_eq (x : List UInt8 × Int × Bool) : TyC x = [.str x.1, .int .i64 x.2.1, .bool x.2.2] := Eq.trans rfl rfl
theorem zTy : zeros ([.str [], .int .i64 0, .bool false] : List LV) 3 = [.str [], .int .i64 0, .bool false] := Eq.trans rfl rfl
theorem gl_0 : gl 0 = some types := rfl
theorem types_len : types.length = 30 := rfl
theorem name (t : Int) : Pure Tryd.prog gl 29 [.int .i64 t] (.str (nameS t)) := by
  refine fn_pureT Tryd.func29 t29 Tryd.ntmps29 (by simp) ?_
  have htt : List.take 30 types = types := List.take_of_length_le (by rw [types_len]; exact Nat.le_refl _)
  unfold c29 r29
  repeat' (first | (simp (disch := first | omega | (simp only [List.length_cons, List.length_nil]; first | done | omega)) only [go_sem, gl_0, types_len, htt, List.drop_zero]) | (refine allI (fun b => ?_)) | (refine allT (fun τ => ?_)) | (refine brP (fun h => ?_) (fun h => ?_) <;> (try simp only [zgx, zbx] at h)) | (apply And.intro; focus (first | omega | (simp; done) | (simp +contextual; done) | (intros; and_intros <;> first | assumption | omega) | (intros; simp_all; done) | (intro hgd; refine ⟨hgd, ?_⟩; simp [hgd]; done) | (intro hgd; simp only [zgx] at hgd ⊢; omega))) | fail)
  refine loopI (ι := Nat) (fun k => k ≤ 10 ∧ ∀ j, j < k → (tyT.getD j ty0).2.1 ≠ t) (fun k => [(6, .int .i64 k), (5, .agg types), (0, .int .i64 t)]) (fun _ => []) (fun k => 10 - k) 0 ⟨by omega, fun j hj => absurd hj (by omega)⟩ (Ents.envH (by simp [go_sem]) rfl) ?_
  rintro k ⟨hk, hn⟩
  simp (disch := first | omega | (simp only [List.length_cons, List.length_nil]; first | done | omega)) only [go_sem]
  refine brP (fun hb => ?_) (fun hb => ?_)
  · have hk2 : k < 10 := by simp only [decide_eq_true_eq] at hb; omega
    have e2 := ty_at hk2
    have hi := rowT_is (t := t) (k := k) (by simpa [tyT] using hk2)
    generalize hx : tyT.getD k ty0 = x at *
    rw [TyC_eq] at e2
    repeat' (first | (simp (disch := first | omega | (simp only [List.length_cons, List.length_nil]; first | done | omega)) only [go_sem, e2, zTy, types_len]) | (refine allI (fun b => ?_)) | (refine allT (fun τ => ?_)) | (refine brP (fun h => ?_) (fun h => ?_) <;> (try simp only [zgx, zbx] at h)) | (apply And.intro; focus (first | omega | (simp; done) | (simp +contextual; done) | (intros; and_intros <;> first | assumption | omega) | (intros; simp_all; done) | (intro hgd; refine ⟨hgd, ?_⟩; simp [hgd]; done) | (intro hgd; simp only [zgx] at hgd ⊢; omega))) | fail)
    · have := hi h hn
      simp only [nameS, this]
    · exact ⟨⟨k + 1, by omega, fun j hj => (by omega : j < k ∨ j = k).elim (hn j) fun e => by rw [e, hx]; exact h⟩, by dsimp only; omega, Ents.sub (by simp [go_sem]) ⟨_, List.nil_sublist _, List.Perm.refl _⟩⟩
  · have hke : k = 10 := by simp only [decide_eq_false_iff_not] at hb; omega
    have := rowT_no (t := t) fun j hj => hn j (by rw [hke]; simpa [tyT] using hj)
    repeat' (first | (simp (disch := first | omega | (simp only [List.length_cons, List.length_nil]; first | done | omega)) only [go_sem]) | (refine allI (fun b => ?_)) | (refine allT (fun τ => ?_)) | (refine brP (fun h => ?_) (fun h => ?_) <;> (try simp only [zgx, zbx] at h)) | (apply And.intro; focus (first | omega | (simp; done) | (simp +contextual; done) | (intros; and_intros <;> first | assumption | omega) | (intros; simp_all; done) | (intro hgd; refine ⟨hgd, ?_⟩; simp [hgd]; done) | (intro hgd; simp only [zgx] at hgd ⊢; omega))) | fail)
    simp only [nameS, this]
theorem single (t : Int) : Pure Tryd.prog gl 28 [.int .i64 t] (.bool (singS t)) := by
  refine fn_pureT Tryd.func28 t28 Tryd.ntmps28 (by simp) ?_
  have htt : List.take 30 types = types := List.take_of_length_le (by rw [types_len]; exact Nat.le_refl _)
  unfold c28 r28
  repeat' (first | (simp (disch := first | omega | (simp only [List.length_cons, List.length_nil]; first | done | omega)) only [go_sem, gl_0, types_len, htt, List.drop_zero]) | (refine allI (fun b => ?_)) | (refine allT (fun τ => ?_)) | (refine brP (fun h => ?_) (fun h => ?_) <;> (try simp only [zgx, zbx] at h)) | (apply And.intro; focus (first | omega | (simp; done) | (simp +contextual; done) | (intros; and_intros <;> first | assumption | omega) | (intros; simp_all; done) | (intro hgd; refine ⟨hgd, ?_⟩; simp [hgd]; done) | (intro hgd; simp only [zgx] at hgd ⊢; omega))) | fail)
  refine loopI (ι := Nat) (fun k => k ≤ 10 ∧ ∀ j, j < k → (tyT.getD j ty0).2.1 ≠ t) (fun k => [(6, .int .i64 k), (5, .agg types), (0, .int .i64 t)]) (fun _ => []) (fun k => 10 - k) 0 ⟨by omega, fun j hj => absurd hj (by omega)⟩ (Ents.envH (by simp [go_sem]) rfl) ?_
  rintro k ⟨hk, hn⟩
  simp (disch := first | omega | (simp only [List.length_cons, List.length_nil]; first | done | omega)) only [go_sem]
  refine brP (fun hb => ?_) (fun hb => ?_)
  · have hk2 : k < 10 := by simp only [decide_eq_true_eq] at hb; omega
    have e2 := ty_at hk2
    have hi := rowT_is (t := t) (k := k) (by simpa [tyT] using hk2)
    generalize hx : tyT.getD k ty0 = x at *
    rw [TyC_eq] at e2
    repeat' (first | (simp (disch := first | omega | (simp only [List.length_cons, List.length_nil]; first | done | omega)) only [go_sem, e2, zTy, types_len]) | (refine allI (fun b => ?_)) | (refine allT (fun τ => ?_)) | (refine brP (fun h => ?_) (fun h => ?_) <;> (try simp only [zgx, zbx] at h)) | (apply And.intro; focus (first | omega | (simp; done) | (simp +contextual; done) | (intros; and_intros <;> first | assumption | omega) | (intros; simp_all; done) | (intro hgd; refine ⟨hgd, ?_⟩; simp [hgd]; done) | (intro hgd; simp only [zgx] at hgd ⊢; omega))) | fail)
    · have := hi h hn
      simp only [singS, this]
    · exact ⟨⟨k + 1, by omega, fun j hj => (by omega : j < k ∨ j = k).elim (hn j) fun e => by rw [e, hx]; exact h⟩, by dsimp only; omega, Ents.sub (by simp [go_sem]) ⟨_, List.nil_sublist _, List.Perm.refl _⟩⟩
  · have hke : k = 10 := by simp only [decide_eq_false_iff_not] at hb; omega
    have := rowT_no (t := t) fun j hj => hn j (by rw [hke]; simpa [tyT] using hj)
    repeat' (first | (simp (disch := first | omega | (simp only [List.length_cons, List.length_nil]; first | done | omega)) only [go_sem]) | (refine allI (fun b => ?_)) | (refine allT (fun τ => ?_)) | (refine brP (fun h => ?_) (fun h => ?_) <;> (try simp only [zgx, zbx] at h)) | (apply And.intro; focus (first | omega | (simp; done) | (simp +contextual; done) | (intros; and_intros <;> first | assumption | omega) | (intros; simp_all; done) | (intro hgd; refine ⟨hgd, ?_⟩; simp [hgd]; done) | (intro hgd; simp only [zgx] at hgd ⊢; omega))) | fail)
    simp only [singS, this]
end Go.Proofs.YtfheeghkajihoaaDoor
