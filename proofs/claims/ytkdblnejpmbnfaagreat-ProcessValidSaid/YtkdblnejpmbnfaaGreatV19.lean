/- Layer 9: the check of each law. -/
import Derived.Test.YtkdblnejpmbnfaaGreatV12
import Derived.Test.YtkdblnejpmbnfaaGreatV09
import Derived.Test.YtkdblnejpmbnfaaGreatV18
namespace Go.Proofs.YtkdblnejpmbnfaaGreat
open Go Go.Lx
set_option linter.unusedSimpArgs false
set_option linter.unusedVariables false
set_option maxRecDepth 100000
set_option maxHeartbeats 4000000
def ta : Tb := tnew 0 1
def tb : Tb := (fkR ta 1).2
def tc : Tb := (suR tb 2 5).2
theorem fk_ta : fkR ta 1 = (0, tb) := by rfl
theorem su_tb : suR tb 2 5 = (0, tc) := by rfl
theorem su_tc : suR tc 2 0 = (1, tb0) := by rfl
theorem get_tc : (getR tc 2).2 = true ∧ (getR tc 2).1.uid = 5 ∧ (getR tc 2).1.ppid = 1 := by refine ⟨rfl, rfl, rfl⟩
theorem ok_ta : okT ta := by
  refine ⟨by decide, fun p hp => ?_⟩
  simp only [ta, tnew, List.mem_singleton] at hp
  subst hp
  simp [p1]
theorem ok_tb : okT tb := by
  refine ⟨by decide, fun p hp => ?_⟩
  have : tb.ps = [p1 0 1, { p1 0 1 with pid := 2, ppid := 1 }] := rfl
  rw [this] at hp
  simp only [List.mem_cons, List.not_mem_nil, or_false] at hp
  rcases hp with rfl | rfl <;> simp [p1]
theorem ok_tc : okT tc := by
  refine ⟨by decide, fun p hp => ?_⟩
  have : tc.ps = [p1 0 1, { p1 0 1 with pid := 2, ppid := 1, uid := 5, euid := 5 }] := rfl
  rw [this] at hp
  simp only [List.mem_cons, List.not_mem_nil, or_false] at hp
  rcases hp with rfl | rfl <;> simp [p1]
theorem awake : Pure Tryz.prog gl 10 [] (.bool true) := by
  refine fn_pureT Tryz.func10 t10 Tryz.ntmps10 (by simp) ?_
  have h1 : Pure Tryz.prog gl 26 [.agg [.int .i64 0, .int .i64 1]] (TbL ta) := new9 0 1
  have h2 := fk ta 1 ok_ta (by decide)
  have h3 := su tb 2 5 ok_tb
  have h4 := su tc 2 0 ok_tc
  have h5 := get_ tc 2 ok_tc
  have n1 : ta.nx = 2 := rfl
  rw [fk_ta, n1] at h2
  rw [su_tb] at h3
  rw [su_tc] at h4
  obtain ⟨g1, g2, g3⟩ := get_tc
  rw [g1, PsC_eq, g2, g3] at h5
  simp only [if_true] at h2
  rw [TbL_eq, TbL_eq] at h2 h3
  rw [TbL_eq] at h1 h5
  rw [TbL_eq, TbL_eq] at h4
  generalize (getR tc 2).1 = q at *
  unfold c10 r10
  repeat' (first | (simp (disch := first | exact dd | fail) only [go_sem]) | (refine allI (fun b => ?_)) | (refine allT (fun τ => ?_)) | (refine brP (fun h => ?_) (fun h => ?_) <;> (try simp only [zgx, zbx] at h)) | refine call_U (h1) ?_ | refine callG_U (fun _ => h1) ?_ | refine call_T (h1) ?_ | refine callG_T (fun _ => h1) ?_ | refine call_U (h2) ?_ | refine callG_U (fun _ => h2) ?_ | refine call_T (h2) ?_ | refine callG_T (fun _ => h2) ?_ | refine call_U (h3) ?_ | refine callG_U (fun _ => h3) ?_ | refine call_T (h3) ?_ | refine callG_T (fun _ => h3) ?_ | refine call_U (h4) ?_ | refine callG_U (fun _ => h4) ?_ | refine call_T (h4) ?_ | refine callG_T (fun _ => h4) ?_ | refine call_U (h5) ?_ | refine callG_U (fun _ => h5) ?_ | refine call_T (h5) ?_ | refine callG_T (fun _ => h5) ?_ | refine call_N (h1) ?_ | refine call_of (h1) ?_ | refine callG_of (fun _ => h1) ?_ | refine call_N (h2) ?_ | refine call_of (h2) ?_ | refine callG_of (fun _ => h2) ?_ | refine call_N (h3) ?_ | refine call_of (h3) ?_ | refine callG_of (fun _ => h3) ?_ | refine call_N (h4) ?_ | refine call_of (h4) ?_ | refine callG_of (fun _ => h4) ?_ | refine call_N (h5) ?_ | refine call_of (h5) ?_ | refine callG_of (fun _ => h5) ?_ | (refine gd ?_) | fail)
end Go.Proofs.YtkdblnejpmbnfaaGreat
namespace Go.Proofs.YtkdblnejpmbnfaaGreat
open Go Go.Lx
set_option linter.unusedSimpArgs false
set_option linter.unusedVariables false
set_option maxRecDepth 100000
set_option maxHeartbeats 8000000
theorem VW.sz {t : Tb} (h : VW t) : SzT 16 8 t := ⟨h.len.2, fun p hp => by obtain ⟨j, hj, rfl⟩ := mem_pAt hp; exact (h.all j hj).op.len⟩
theorem lawValidL (l : List Int) (hl : okS l 0) : Pure Tryz.prog gl 4 [Ms l] (.bool true) := by
  refine fn_pureT Tryz.func4 t4 Tryz.ntmps4 (by simp) ?_
  have hs := new_ l
  have hw := awake
  unfold Ms at hs ⊢
  unfold c4 r4
  repeat' (first | (simp (disch := first | exact dd | fail) only [go_sem]) | (refine allI (fun b => ?_)) | (refine allT (fun τ => ?_)) | (refine brP (fun h => ?_) (fun h => ?_) <;> (try simp only [zgx, zbx] at h)) | (refine gd ?_) | fail)
  first | refine newsE_U (hs) ?_ | refine newsE_T (hs) ?_ | refine newsE_of (hs) ?_
  rintro _ _ ⟨sb, rfl, rfl⟩
  repeat' (first | (simp (disch := first | exact dd | fail) only [go_sem]) | (refine allI (fun b => ?_)) | (refine allT (fun τ => ?_)) | (refine brP (fun h => ?_) (fun h => ?_) <;> (try simp only [zgx, zbx] at h)) | (refine gd ?_) | fail)
  first | refine actsE_U (F.system 3000 sb l 0 hl (by omega)) (by first | rfl | simp only [getH, if_true]) ?_ | refine actsE_T (F.system 3000 sb l 0 hl (by omega)) (by first | rfl | simp only [getH, if_true]) ?_ | refine actsE_N (F.system 3000 sb l 0 hl (by omega)) (by first | rfl | simp only [getH, if_true]) ?_ | refine actsE_of (F.system 3000 sb l 0 hl (by omega)) (by first | rfl | simp only [getH, if_true]) ?_
  rintro _ _ ⟨a1, ha1, ⟨s, t, ⟨-, hv⟩, rfl⟩, rfl⟩
  rw [F.SyC_eq]
  have p1 := validW t hv.ok
  rw [val_eq, hv.val] at p1
  have g1 := spoil t 16 8 hv.len.1 hv.sz (by omega) (by omega) 3000 sb l a1 (hl.at (by omega) (by omega)) (by omega)
  rw [TbL_eq t] at p1 g1
  repeat' (first | (simp (disch := first | exact dd | fail) only [go_sem]) | (refine allI (fun b => ?_)) | (refine allT (fun τ => ?_)) | (refine brP (fun h => ?_) (fun h => ?_) <;> (try simp only [zgx, zbx] at h)) | (refine gd ?_) | fail)
  first | refine actsE_U (g1) (by first | rfl | simp only [getH, if_true]) ?_ | refine actsE_T (g1) (by first | rfl | simp only [getH, if_true]) ?_ | refine actsE_N (g1) (by first | rfl | simp only [getH, if_true]) ?_ | refine actsE_of (g1) (by first | rfl | simp only [getH, if_true]) ?_
  rintro _ _ ⟨a2, ha2, ⟨u, hu, rfl⟩, rfl⟩
  have p2 := validW u (hu.ok (by omega) (by omega))
  have p3 := rvalidW u (hu.ok (by omega) (by omega))
  rw [val_eq] at p2
  have hu1 := hu.1
  have g2 := fun h0 => spoil u 17 9 h0 hu (by omega) (by omega) 3000 sb l a2 (hl.at (by omega) (by omega)) (by omega)
  rw [TbL_eq u] at *
  rcases Nat.eq_zero_or_pos u.ps.length with h0 | h0
  · have d0 : ((u.ps.length : Int) == 0) = true := by rw [h0]; rfl
    have hz : valR u = false := by
      rw [valR, show decide (1 ≤ u.ps.length) = false from decide_eq_false (by omega)]
      simp
    rw [hz] at p2
    repeat' (first | (simp (disch := first | exact dd | fail) only [go_sem, d0]) | (refine allI (fun b => ?_)) | (refine allT (fun τ => ?_)) | (refine brP (fun h => ?_) (fun h => ?_) <;> (try simp only [zgx, zbx] at h)) | refine call_U (p1) ?_ | refine callG_U (fun _ => p1) ?_ | refine call_T (p1) ?_ | refine callG_T (fun _ => p1) ?_ | refine call_U (p2) ?_ | refine callG_U (fun _ => p2) ?_ | refine call_T (p2) ?_ | refine callG_T (fun _ => p2) ?_ | refine call_U (hw) ?_ | refine callG_U (fun _ => hw) ?_ | refine call_T (hw) ?_ | refine callG_T (fun _ => hw) ?_ | refine call_N (p1) ?_ | refine call_of (p1) ?_ | refine callG_of (fun _ => p1) ?_ | refine call_N (p2) ?_ | refine call_of (p2) ?_ | refine callG_of (fun _ => p2) ?_ | refine call_N (hw) ?_ | refine call_of (hw) ?_ | refine callG_of (fun _ => hw) ?_ | (refine gd ?_) | fail)
    all_goals trace_state
  · have d0 : ((u.ps.length : Int) == 0) = false := by rw [beq_eq_false_iff_ne]; omega
    repeat' (first | (simp (disch := first | exact dd | fail) only [go_sem, d0]) | (refine allI (fun b => ?_)) | (refine allT (fun τ => ?_)) | (refine brP (fun h => ?_) (fun h => ?_) <;> (try simp only [zgx, zbx] at h)) | (refine gd ?_) | fail)
    first | refine actsE_U (g2 h0) (by first | rfl | simp only [getH, if_true]) ?_ | refine actsE_T (g2 h0) (by first | rfl | simp only [getH, if_true]) ?_ | refine actsE_N (g2 h0) (by first | rfl | simp only [getH, if_true]) ?_ | refine actsE_of (g2 h0) (by first | rfl | simp only [getH, if_true]) ?_
    rintro _ _ ⟨a3, ha3, ⟨v, hv', rfl⟩, rfl⟩
    have p4 := validW v (hv'.ok (by omega) (by omega))
    have p5 := rvalidW v (hv'.ok (by omega) (by omega))
    rw [val_eq] at p4
    rw [TbL_eq v] at *
    generalize valR u = x at *
    generalize valR v = y at *
    have k1 : (x == x) = true := by simp
    have k2 : (y == y) = true := by simp
    repeat' (first | (simp (disch := first | exact dd | fail) only [go_sem, k1, k2]) | (refine allI (fun b => ?_)) | (refine allT (fun τ => ?_)) | (refine brP (fun h => ?_) (fun h => ?_) <;> (try simp only [zgx, zbx] at h)) | refine call_U (p1) ?_ | refine callG_U (fun _ => p1) ?_ | refine call_T (p1) ?_ | refine callG_T (fun _ => p1) ?_ | refine call_U (p2) ?_ | refine callG_U (fun _ => p2) ?_ | refine call_T (p2) ?_ | refine callG_T (fun _ => p2) ?_ | refine call_U (p3) ?_ | refine callG_U (fun _ => p3) ?_ | refine call_T (p3) ?_ | refine callG_T (fun _ => p3) ?_ | refine call_U (p4) ?_ | refine callG_U (fun _ => p4) ?_ | refine call_T (p4) ?_ | refine callG_T (fun _ => p4) ?_ | refine call_U (p5) ?_ | refine callG_U (fun _ => p5) ?_ | refine call_T (p5) ?_ | refine callG_T (fun _ => p5) ?_ | refine call_U (hw) ?_ | refine callG_U (fun _ => hw) ?_ | refine call_T (hw) ?_ | refine callG_T (fun _ => hw) ?_ | refine call_N (p1) ?_ | refine call_of (p1) ?_ | refine callG_of (fun _ => p1) ?_ | refine call_N (p2) ?_ | refine call_of (p2) ?_ | refine callG_of (fun _ => p2) ?_ | refine call_N (p3) ?_ | refine call_of (p3) ?_ | refine callG_of (fun _ => p3) ?_ | refine call_N (p4) ?_ | refine call_of (p4) ?_ | refine callG_of (fun _ => p4) ?_ | refine call_N (p5) ?_ | refine call_of (p5) ?_ | refine callG_of (fun _ => p5) ?_ | refine call_N (hw) ?_ | refine call_of (hw) ?_ | refine callG_of (fun _ => hw) ?_ | (refine gd ?_) | fail)
    all_goals trace_state
end Go.Proofs.YtkdblnejpmbnfaaGreat
