/- Layer 22: complete events, pairs by name, what a LOSS record covers, copies of records (the program). -/
import Derived.Test.YtfheeghkajihoaaDoorBb
namespace Go.Proofs.YtfheeghkajihoaaDoor
open Go Go.Lx
set_option linter.unusedSimpArgs false
set_option linter.unusedVariables false
set_option maxRecDepth 100000
set_option maxHeartbeats 4000000

def okRec (n i : Nat) (r : Rc) : Bool := decide (nameS r.ty ≠ []) && (!singS r.ty && ((r.ty == 1320) == (i + 1 == n)))
/-- the records are those of a complete event -/
def compS (rs : List Rc) : Bool := (rs.length == 1 && singS (rs.getD 0 rc0).ty) || (decide (0 < rs.length) && (List.range rs.length).all fun i => okRec rs.length i (rs.getD i rc0))
theorem rng_all (p : Nat → Bool) (n : Nat) : (List.range (n + 1)).all p = ((List.range n).all p && p n) := by simp [List.range_succ]
theorem rng_false {p : Nat → Bool} {n i : Nat} (h : i < n) (hp : p i = false) : (List.range n).all p = false := by
  rw [List.all_eq_false]
  exact ⟨i, List.mem_range.2 h, by rw [hp]; simp⟩
theorem zRc : zeros ([.int .i64 0, .int .i64 0, .int .i64 0, .fsl 1 0 []] : List LV) 4 = [.int .i64 0, .int .i64 0, .int .i64 0, .fsl 1 0 []] := Eq.trans rfl rfl
theorem zPr : zeros ([.str [], .int .i64 0, .int .i64 0, .str []] : List LV) 4 = [.str [], .int .i64 0, .int .i64 0, .str []] := Eq.trans rfl rfl
theorem zLs : zeros ([.int .i64 0, .int .i64 0, .int .i64 0, .int .i64 0, .int .i64 0] : List LV) 5 = [.int .i64 0, .int .i64 0, .int .i64 0, .int .i64 0, .int .i64 0] := Eq.trans rfl rfl
theorem comp (e : Ev) (he : e.rs.length ≤ 281474976710656) : Pure Tryd.prog gl 13 [.agg (EvC e)] (.bool (compS e.rs)) := by
  refine fn_pureT Tryd.func13 t13 Tryd.ntmps13 (by simp) ?_
  have hle := len_rc e.rs
  have hR : compS e.rs = ((e.rs.length == 1 && singS (e.rs.getD 0 rc0).ty) || (decide (0 < e.rs.length) && (List.range e.rs.length).all fun i => okRec e.rs.length i (e.rs.getD i rc0))) := rfl
  have g0 : 0 < e.rs.length → (e.rs.flatMap RcC).getD 0 .any = .int .i64 (e.rs.getD 0 rc0).ty := fun h => by
    have := getD_rows (f := RcC) (w := 4) (fun _ => rfl) (j := 0) (by omega) rc0 e.rs 0 h
    simpa [RcC_eq] using this
  have hd1 : decide ((e.rs.length : Int) - 1 = 0) = decide (e.rs.length = 1) := by rw [decide_eq_decide]; omega
  have hS : ¬ (e.rs.length = 1 ∧ singS (e.rs.getD 0 rc0).ty = true) → compS e.rs = (decide (0 < e.rs.length) && (List.range e.rs.length).all fun i => okRec e.rs.length i (e.rs.getD i rc0)) := fun h => by
    rw [hR]
    have : (e.rs.length == 1 && singS (e.rs.getD 0 rc0).ty) = false := by
      cases h2 : (e.rs.length == 1 && singS (e.rs.getD 0 rc0).ty) with
      | false => rfl
      | true => exact absurd (by simpa using h2) h
    rw [this, Bool.false_or]
  unfold c13 r13
  rw [EvC_eq]
  by_cases h1 : e.rs.length = 1 ∧ singS (e.rs.getD 0 rc0).ty = true
  · have g0 := g0 (by omega)
    have d1 : ((e.rs.length : Int) == 1) = true := by simp; omega
    repeat' (first | (simp (disch := first | omega | (simp only [List.length_cons, List.length_nil]; first | done | omega)) only [go_sem, g0, d1, h1.2]) | (refine allI (fun b => ?_)) | (refine allT (fun τ => ?_)) | (refine brP (fun h => ?_) (fun h => ?_) <;> (try simp only [zgx, zbx] at h)) | refine call_U (single _) ?_ | refine callG_U (fun _ => single _) ?_ | refine call_T (single _) ?_ | refine callG_T (fun _ => single _) ?_ | refine call_N (single _) ?_ | refine call_of (single _) ?_ | refine callG_of (fun _ => single _) ?_ | (apply And.intro; focus (first | omega | (simp; done) | (simp +contextual; done) | (intros; and_intros <;> first | assumption | omega) | (intros; simp_all; done) | (intro hgd; refine ⟨hgd, ?_⟩; simp [hgd]; done) | (intro hgd; simp only [zgx] at hgd ⊢; omega))) | fail)
    rw [hR, h1.1, h1.2]
    rfl
  · have hS := hS h1
    by_cases h2 : e.rs.length = 1
    case' pos =>
      have g0 := g0 (by omega)
      have d1 : ((e.rs.length : Int) == 1) = true := by simp; omega
      have d2 : singS (e.rs.getD 0 rc0).ty = false := by
        cases h3 : singS (e.rs.getD 0 rc0).ty with
        | false => rfl
        | true => exact absurd ⟨h2, h3⟩ h1
      repeat' (first | (simp (disch := first | omega | (simp only [List.length_cons, List.length_nil]; first | done | omega)) only [go_sem, g0, d1, d2]) | (refine allI (fun b => ?_)) | (refine allT (fun τ => ?_)) | (refine brP (fun h => ?_) (fun h => ?_) <;> (try simp only [zgx, zbx] at h)) | refine call_U (single _) ?_ | refine callG_U (fun _ => single _) ?_ | refine call_T (single _) ?_ | refine callG_T (fun _ => single _) ?_ | refine call_N (single _) ?_ | refine call_of (single _) ?_ | refine callG_of (fun _ => single _) ?_ | (apply And.intro; focus (first | omega | (simp; done) | (simp +contextual; done) | (intros; and_intros <;> first | assumption | omega) | (intros; simp_all; done) | (intro hgd; refine ⟨hgd, ?_⟩; simp [hgd]; done) | (intro hgd; simp only [zgx] at hgd ⊢; omega))) | fail)
    case' neg =>
      have d1 : ((e.rs.length : Int) == 1) = false := by simp; omega
      repeat' (first | (simp (disch := first | omega | (simp only [List.length_cons, List.length_nil]; first | done | omega)) only [go_sem, d1]) | (refine allI (fun b => ?_)) | (refine allT (fun τ => ?_)) | (refine brP (fun h => ?_) (fun h => ?_) <;> (try simp only [zgx, zbx] at h)) | (apply And.intro; focus (first | omega | (simp; done) | (simp +contextual; done) | (intros; and_intros <;> first | assumption | omega) | (intros; simp_all; done) | (intro hgd; refine ⟨hgd, ?_⟩; simp [hgd]; done) | (intro hgd; simp only [zgx] at hgd ⊢; omega))) | fail)
      refine callG_U (r := .bool false) (fun hg => by cases hg) ?_
      repeat' (first | (simp (disch := first | omega | (simp only [List.length_cons, List.length_nil]; first | done | omega)) only [go_sem]) | (refine allI (fun b => ?_)) | (refine allT (fun τ => ?_)) | (refine brP (fun h => ?_) (fun h => ?_) <;> (try simp only [zgx, zbx] at h)) | (apply And.intro; focus (first | omega | (simp; done) | (simp +contextual; done) | (intros; and_intros <;> first | assumption | omega) | (intros; simp_all; done) | (intro hgd; refine ⟨hgd, ?_⟩; simp [hgd]; done) | (intro hgd; simp only [zgx] at hgd ⊢; omega))) | fail)
    all_goals
      refine loopI (ι := Nat) (fun k => k ≤ e.rs.length ∧ (List.range k).all (fun i => okRec e.rs.length i (e.rs.getD i rc0)) = true) (fun k => [(22, .int .i64 k), (21, .int .i64 e.rs.length), (20, .sl 4 e.rs.length (e.rs.flatMap RcC)), (3, .int .i64 e.rs.length)]) (fun _ => []) (fun k => e.rs.length - k) 0 ⟨by omega, rfl⟩ (Ents.sub (by simp [go_sem]) ⟨_, List.nil_sublist _, List.Perm.refl _⟩) ?_
      rintro k ⟨hk, hn⟩
      simp (disch := first | omega | (simp only [List.length_cons, List.length_nil]; first | done | omega)) only [go_sem]
      refine brP (fun hb => ?_) (fun hb => ?_)
      · have hk2 : k < e.rs.length := by simpa using hb
        have e2 : ((e.rs.flatMap RcC).drop (k * 4)).take 4 = RcC (e.rs.getD k rc0) := take_rows (f := RcC) (fun _ => rfl) rc0 _ hk2
        have ha := rng_all (fun i => okRec e.rs.length i (e.rs.getD i rc0)) k
        have hf := rng_false (p := fun i => okRec e.rs.length i (e.rs.getD i rc0)) hk2
        generalize e.rs.getD k rc0 = q at *
        rw [RcC_eq] at e2
        have hEq : ((k : Int) == (e.rs.length : Int) - 1) = (k + 1 == e.rs.length) := by rw [Bool.eq_iff_iff]; simp; omega
        repeat' (first | (simp (disch := first | omega | (simp only [List.length_cons, List.length_nil]; first | done | omega)) only [go_sem, e2, zRc]) | (refine allI (fun b => ?_)) | (refine allT (fun τ => ?_)) | (refine brP (fun h => ?_) (fun h => ?_) <;> (try simp only [zgx, zbx] at h)) | refine call_U (name _) ?_ | refine callG_U (fun _ => name _) ?_ | refine call_T (name _) ?_ | refine callG_T (fun _ => name _) ?_ | refine call_U (single _) ?_ | refine callG_U (fun _ => single _) ?_ | refine call_T (single _) ?_ | refine callG_T (fun _ => single _) ?_ | refine call_N (name _) ?_ | refine call_of (name _) ?_ | refine callG_of (fun _ => name _) ?_ | refine call_N (single _) ?_ | refine call_of (single _) ?_ | refine callG_of (fun _ => single _) ?_ | (apply And.intro; focus (first | omega | (simp; done) | (simp +contextual; done) | (intros; and_intros <;> first | assumption | omega) | (intros; simp_all; done) | (intro hgd; refine ⟨hgd, ?_⟩; simp [hgd]; done) | (intro hgd; simp only [zgx] at hgd ⊢; omega))) | fail)
        · rw [hS, hf (by rcases h with h | h <;> simp [okRec, h]), Bool.and_false]
        · rw [hEq] at h
          rw [hS, hf (by rw [okRec, beq_eq_false_iff_ne.2 h]; simp), Bool.and_false]
        · rename_i h3
          rw [hEq] at h
          have h3 : nameS q.ty ≠ [] ∧ singS q.ty = false := by simpa [Bool.or_eq_false_iff] using h3
          exact ⟨⟨k + 1, by omega, by rw [ha, hn, okRec, h, h3.2]; simp [h3.1]⟩, by dsimp only; omega, Ents.sub (by simp [go_sem]) ⟨_, List.nil_sublist _, List.Perm.refl _⟩⟩
      · have hke : k = e.rs.length := by simp only [decide_eq_false_iff_not] at hb; omega
        rw [hke] at hn
        repeat' (first | (simp (disch := first | omega | (simp only [List.length_cons, List.length_nil]; first | done | omega)) only [go_sem]) | (refine allI (fun b => ?_)) | (refine allT (fun τ => ?_)) | (refine brP (fun h => ?_) (fun h => ?_) <;> (try simp only [zgx, zbx] at h)) | (apply And.intro; focus (first | omega | (simp; done) | (simp +contextual; done) | (intros; and_intros <;> first | assumption | omega) | (intros; simp_all; done) | (intro hgd; refine ⟨hgd, ?_⟩; simp [hgd]; done) | (intro hgd; simp only [zgx] at hgd ⊢; omega))) | fail)
        rw [hS, hn, Bool.and_true, decide_eq_decide]
        omega
/-- the first pair with a name -/
def getO (ps : List Pr) (nm : List UInt8) : Option Pr := ps.find? fun p => p.n == nm
def getP (ps : List Pr) (nm : List UInt8) : Pr := (getO ps nm).getD pr0
theorem getO_is {ps : List Pr} {nm : List UInt8} {k : Nat} (h : k < ps.length) (hp : (ps.getD k pr0).n = nm) (hn : ∀ j, j < k → (ps.getD j pr0).n ≠ nm) : getO ps nm = some (ps.getD k pr0) := by
  rw [getO, List.find?_eq_some_iff_getElem]
  refine ⟨by simpa using hp, k, h, by simp [List.getD, h], fun j hj => ?_⟩
  have := hn j hj
  have hjl : j < ps.length := by omega
  simpa [List.getD, hjl] using this
theorem getO_no {ps : List Pr} {nm : List UInt8} (hn : ∀ j, j < ps.length → (ps.getD j pr0).n ≠ nm) : getO ps nm = none := by
  rw [getO, List.find?_eq_none]
  intro x hx
  obtain ⟨j, hj, rfl⟩ := List.getElem_of_mem hx
  have := hn j hj
  simpa [List.getD, hj] using this
theorem get (r : Rc) (nm : List UInt8) (hr : r.ps.length ≤ 281474976710656) : Pure Tryd.prog gl 81 [.agg (RcC r), .str nm] (.tup [.agg (PrC (getP r.ps nm)), .bool (getO r.ps nm).isSome]) := by
  refine fn_pureT Tryd.func81 t81 Tryd.ntmps81 (by simp) ?_
  have hle := len_pr r.ps
  have hR : getP r.ps nm = (getO r.ps nm).getD pr0 := rfl
  unfold c81 r81
  rw [RcC_eq, PrC_eq]
  repeat' (first | (simp (disch := first | omega | (simp only [List.length_cons, List.length_nil]; first | done | omega)) only [go_sem, zPr]) | (refine allI (fun b => ?_)) | (refine allT (fun τ => ?_)) | (refine brP (fun h => ?_) (fun h => ?_) <;> (try simp only [zgx, zbx] at h)) | (apply And.intro; focus (first | omega | (simp; done) | (simp +contextual; done) | (intros; and_intros <;> first | assumption | omega) | (intros; simp_all; done) | (intro hgd; refine ⟨hgd, ?_⟩; simp [hgd]; done) | (intro hgd; simp only [zgx] at hgd ⊢; omega))) | fail)
  refine loopI (ι := Nat) (fun k => k ≤ r.ps.length ∧ ∀ j, j < k → (r.ps.getD j pr0).n ≠ nm) (fun k => [(11, .int .i64 k), (10, .int .i64 r.ps.length), (9, .sl 4 r.ps.length (r.ps.flatMap PrC)), (4, .ptr 4 b 0), (1, .str nm)]) (fun _ => [(4, .blk b [.str [], .int .i64 0, .int .i64 0, .str []])]) (fun k => r.ps.length - k) 0 ⟨by omega, fun j hj => absurd hj (by omega)⟩ (Ents.sub (by simp [go_sem]) ⟨_, List.Sublist.cons_cons _ (List.nil_sublist _), List.Perm.refl _⟩) ?_
  rintro k ⟨hk, hn⟩
  simp (disch := first | omega | (simp only [List.length_cons, List.length_nil]; first | done | omega)) only [go_sem]
  refine brP (fun hb => ?_) (fun hb => ?_)
  · have hk2 : k < r.ps.length := by simpa using hb
    have e2 : ((r.ps.flatMap PrC).drop (k * 4)).take 4 = PrC (r.ps.getD k pr0) := take_rows (f := PrC) (fun _ => rfl) pr0 _ hk2
    have hi := getO_is (ps := r.ps) (nm := nm) hk2
    generalize hq : r.ps.getD k pr0 = q at *
    rw [PrC_eq] at e2
    revert b
    intro b1
    repeat' (first | (simp (disch := first | omega | (simp only [List.length_cons, List.length_nil]; first | done | omega)) only [go_sem, e2, zPr]) | (refine allI (fun b => ?_)) | (refine allT (fun τ => ?_)) | (refine brP (fun h => ?_) (fun h => ?_) <;> (try simp only [zgx, zbx] at h)) | (apply And.intro; focus (first | omega | (simp; done) | (simp +contextual; done) | (intros; and_intros <;> first | assumption | omega) | (intros; simp_all; done) | (intro hgd; refine ⟨hgd, ?_⟩; simp [hgd]; done) | (intro hgd; simp only [zgx] at hgd ⊢; omega))) | fail)
    · rw [hR, hi h hn]
      exact leV.refl _
    · exact ⟨⟨k + 1, by omega, fun j hj => (by omega : j < k ∨ j = k).elim (hn j) fun e => by rw [e, hq]; exact h⟩, by dsimp only; omega, Ents.sub (by simp [go_sem]) ⟨_, List.Sublist.cons _ (List.Sublist.refl _), List.Perm.refl _⟩⟩
  · have hke : k = r.ps.length := by simp only [decide_eq_false_iff_not] at hb; omega
    have hno := getO_no (ps := r.ps) (nm := nm) fun j hj => hn j (by omega)
    rw [hR, hno]
    repeat' (first | (simp (disch := first | omega | (simp only [List.length_cons, List.length_nil]; first | done | omega)) only [go_sem, zPr]) | (refine allI (fun b => ?_)) | (refine allT (fun τ => ?_)) | (refine brP (fun h => ?_) (fun h => ?_) <;> (try simp only [zgx, zbx] at h)) | (apply And.intro; focus (first | omega | (simp; done) | (simp +contextual; done) | (intros; and_intros <;> first | assumption | omega) | (intros; simp_all; done) | (intro hgd; refine ⟨hgd, ?_⟩; simp [hgd]; done) | (intro hgd; simp only [zgx] at hgd ⊢; omega))) | fail)
    exact leV.refl _
/-- the first pair with a name, if it is a number -/
def numS (ps : List Pr) (nm : List UInt8) : Int × Bool := if (getO ps nm).isSome = true ∧ (getP ps nm).k = 1 then ((getP ps nm).v, true) else (0, false)
theorem numb (r : Rc) (nm : List UInt8) (hr : r.ps.length ≤ 281474976710656) : Pure Tryd.prog gl 74 [.agg (RcC r), .str nm] (.tup [.int .i64 (numS r.ps nm).1, .bool (numS r.ps nm).2]) := by
  refine fn_pureT Tryd.func74 t74 Tryd.ntmps74 (by simp) ?_
  have hg := get r nm hr
  have hR : numS r.ps nm = if (getO r.ps nm).isSome = true ∧ (getP r.ps nm).k = 1 then ((getP r.ps nm).v, true) else (0, false) := rfl
  generalize numS r.ps nm = N at *
  generalize getP r.ps nm = p at *
  generalize (getO r.ps nm).isSome = s at *
  unfold c74 r74
  rw [RcC_eq, PrC_eq] at *
  repeat' (first | (simp (disch := first | omega | (simp only [List.length_cons, List.length_nil]; first | done | omega)) only [go_sem, zPr]) | (refine allI (fun b => ?_)) | (refine allT (fun τ => ?_)) | (refine brP (fun h => ?_) (fun h => ?_) <;> (try simp only [zgx, zbx] at h)) | refine call_U (hg) ?_ | refine callG_U (fun _ => hg) ?_ | refine call_T (hg) ?_ | refine callG_T (fun _ => hg) ?_ | refine call_N (hg) ?_ | refine call_of (hg) ?_ | refine callG_of (fun _ => hg) ?_ | (apply And.intro; focus (first | omega | (simp; done) | (simp +contextual; done) | (intros; and_intros <;> first | assumption | omega) | (intros; simp_all; done) | (intro hgd; refine ⟨hgd, ?_⟩; simp [hgd]; done) | (intro hgd; simp only [zgx] at hgd ⊢; omega))) | fail)
  · rw [if_neg (by grind)] at hR
    rw [hR]
    exact leV.refl _
  · rw [if_pos (by grind)] at hR
    rw [hR]
    exact leV.refl _
def nFirst : List UInt8 := [102, 105, 114, 115, 116]
def nLast : List UInt8 := [108, 97, 115, 116]
def nRated : List UInt8 := [114, 97, 116, 101, 100]
def nFull : List UInt8 := [102, 117, 108, 108]
def nStalled : List UInt8 := [115, 116, 97, 108, 108, 101, 100]
/-- the range that a LOSS record covers -/
def covS (r : Rc) : Option Ls :=
  if (((((r.ty ≠ 1331 ∨ (numS r.ps nFirst).2 = false) ∨ (numS r.ps nLast).2 = false) ∨ (numS r.ps nFirst).1 < 1) ∨ (numS r.ps nLast).1 < (numS r.ps nFirst).1) ∨ r.se ≤ (numS r.ps nLast).1) then none
  else some ⟨(numS r.ps nFirst).1, (numS r.ps nLast).1, (numS r.ps nRated).1, (numS r.ps nFull).1, (numS r.ps nStalled).1⟩
theorem cov (r : Rc) (hr : r.ps.length ≤ 281474976710656) : Pure Tryd.prog gl 51 [.agg (RcC r)] (.tup [.agg (LsC ((covS r).getD ls0)), .bool (covS r).isSome]) := by
  refine fn_pureT Tryd.func51 t51 Tryd.ntmps51 (by simp) ?_
  have h1 := numb r nFirst hr
  have h2 := numb r nLast hr
  have h3 := numb r nRated hr
  have h4 := numb r nFull hr
  have h5 := numb r nStalled hr
  have hR : covS r = if (((((r.ty ≠ 1331 ∨ (numS r.ps nFirst).2 = false) ∨ (numS r.ps nLast).2 = false) ∨ (numS r.ps nFirst).1 < 1) ∨ (numS r.ps nLast).1 < (numS r.ps nFirst).1) ∨ r.se ≤ (numS r.ps nLast).1) then none
    else some ⟨(numS r.ps nFirst).1, (numS r.ps nLast).1, (numS r.ps nRated).1, (numS r.ps nFull).1, (numS r.ps nStalled).1⟩ := rfl
  generalize covS r = C at *
  unfold nFirst nLast nRated nFull nStalled at *
  generalize numS r.ps [102, 105, 114, 115, 116] = N1 at *
  generalize numS r.ps [108, 97, 115, 116] = N2 at *
  generalize numS r.ps [114, 97, 116, 101, 100] = N3 at *
  generalize numS r.ps [102, 117, 108, 108] = N4 at *
  generalize numS r.ps [115, 116, 97, 108, 108, 101, 100] = N5 at *
  unfold c51 r51
  rw [RcC_eq, LsC_eq] at *
  repeat' (first | (simp (disch := first | omega | (simp only [List.length_cons, List.length_nil]; first | done | omega)) only [go_sem, zLs]) | (refine allI (fun b => ?_)) | (refine allT (fun τ => ?_)) | (refine brP (fun h => ?_) (fun h => ?_) <;> (try simp only [zgx, zbx] at h)) | refine call_U (h1) ?_ | refine callG_U (fun _ => h1) ?_ | refine call_T (h1) ?_ | refine callG_T (fun _ => h1) ?_ | refine call_U (h2) ?_ | refine callG_U (fun _ => h2) ?_ | refine call_T (h2) ?_ | refine callG_T (fun _ => h2) ?_ | refine call_U (h3) ?_ | refine callG_U (fun _ => h3) ?_ | refine call_T (h3) ?_ | refine callG_T (fun _ => h3) ?_ | refine call_U (h4) ?_ | refine callG_U (fun _ => h4) ?_ | refine call_T (h4) ?_ | refine callG_T (fun _ => h4) ?_ | refine call_U (h5) ?_ | refine callG_U (fun _ => h5) ?_ | refine call_T (h5) ?_ | refine callG_T (fun _ => h5) ?_ | refine call_N (h1) ?_ | refine call_of (h1) ?_ | refine callG_of (fun _ => h1) ?_ | refine call_N (h2) ?_ | refine call_of (h2) ?_ | refine callG_of (fun _ => h2) ?_ | refine call_N (h3) ?_ | refine call_of (h3) ?_ | refine callG_of (fun _ => h3) ?_ | refine call_N (h4) ?_ | refine call_of (h4) ?_ | refine callG_of (fun _ => h4) ?_ | refine call_N (h5) ?_ | refine call_of (h5) ?_ | refine callG_of (fun _ => h5) ?_ | (apply And.intro; focus (first | omega | (simp; done) | (simp +contextual; done) | (intros; and_intros <;> first | assumption | omega) | (intros; simp_all; done) | (intro hgd; refine ⟨hgd, ?_⟩; simp [hgd]; done) | (intro hgd; simp only [zgx] at hgd ⊢; omega))) | fail)
  · rw [if_pos (by grind)] at hR
    rw [hR]
    exact leV.refl _
  · rw [if_neg (by grind)] at hR
    rw [hR]
    exact leV.refl _
theorem cpairs (ps : List Pr) (hr : ps.length ≤ 1000000) : Pure Tryd.prog gl 69 [.sl 4 ps.length (ps.flatMap PrC)] (.sl 4 ps.length (ps.flatMap PrC)) := by
  refine fn_pureT Tryd.func69 t69 Tryd.ntmps69 (by simp) ?_
  unfold c69 r69
  repeat' (first | (simp (disch := first | omega | (simp only [List.length_cons, List.length_nil]; first | done | omega)) only [go_sem]) | (refine allI (fun b => ?_)) | (refine allT (fun τ => ?_)) | (refine brP (fun h => ?_) (fun h => ?_) <;> (try simp only [zgx, zbx] at h)) | (apply And.intro; focus (first | omega | (simp; done) | (simp +contextual; done) | (intros; and_intros <;> first | assumption | omega) | (intros; simp_all; done) | (intro hgd; refine ⟨hgd, ?_⟩; simp [hgd]; done) | (intro hgd; simp only [zgx] at hgd ⊢; omega))) | fail)
  intro z hz
  repeat' (first | (simp (disch := first | omega | (simp only [List.length_cons, List.length_nil]; first | done | omega)) only [go_sem]) | (refine allI (fun b => ?_)) | (refine allT (fun τ => ?_)) | (refine brP (fun h => ?_) (fun h => ?_) <;> (try simp only [zgx, zbx] at h)) | (apply And.intro; focus (first | omega | (simp; done) | (simp +contextual; done) | (intros; and_intros <;> first | assumption | omega) | (intros; simp_all; done) | (intro hgd; refine ⟨hgd, ?_⟩; simp [hgd]; done) | (intro hgd; simp only [zgx] at hgd ⊢; omega))) | fail)
  · obtain rfl : ps = [] := List.length_eq_zero_iff.1 (hz (by simpa using h))
    exact leV.nil_sl _ _
  · exact ⟨by simp only [roomy]; omega, fun τ => leV.osl_sl _ _ _ _ _⟩
theorem crec (r : Rc) (hr : r.ps.length ≤ 1000000) : Pure Tryd.prog gl 43 [.agg (RcC r)] (.agg (RcC r)) := by
  refine fn_pureT Tryd.func43 t43 Tryd.ntmps43 (by simp) ?_
  have hc := cpairs r.ps hr
  unfold c43 r43
  rw [RcC_eq]
  repeat' (first | (simp (disch := first | omega | (simp only [List.length_cons, List.length_nil]; first | done | omega)) only [go_sem, zRc]) | (refine allI (fun b => ?_)) | (refine allT (fun τ => ?_)) | (refine brP (fun h => ?_) (fun h => ?_) <;> (try simp only [zgx, zbx] at h)) | refine call_U (hc) ?_ | refine callG_U (fun _ => hc) ?_ | refine call_T (hc) ?_ | refine callG_T (fun _ => hc) ?_ | refine call_N (hc) ?_ | refine call_of (hc) ?_ | refine callG_of (fun _ => hc) ?_ | (apply And.intro; focus (first | omega | (simp; done) | (simp +contextual; done) | (intros; and_intros <;> first | assumption | omega) | (intros; simp_all; done) | (intro hgd; refine ⟨hgd, ?_⟩; simp [hgd]; done) | (intro hgd; simp only [zgx] at hgd ⊢; omega))) | fail)
end Go.Proofs.YtfheeghkajihoaaDoor
