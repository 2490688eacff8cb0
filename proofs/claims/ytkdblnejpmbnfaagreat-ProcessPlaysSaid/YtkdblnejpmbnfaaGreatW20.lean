/- Layer 9: one operation by the program and by the reference. -/
import Derived.Test.YtkdblnejpmbnfaaGreatW09
import Derived.Test.YtkdblnejpmbnfaaGreatW13
import Derived.Test.YtkdblnejpmbnfaaGreatW19
namespace Go.Proofs.YtkdblnejpmbnfaaGreat
open Go Go.Lx
set_option linter.unusedSimpArgs false
set_option linter.unusedVariables false
set_option maxRecDepth 100000
set_option maxHeartbeats 8000000
theorem okX {X : Int × Tb} (h1 : X.1 = 0 → VW X.2) (h2 : X.1 ≠ 0 → X.2 = tb0) : okT X.2 := by
  by_cases h : X.1 = 0
  · exact (h1 h).ok
  · rw [h2 h]; exact ⟨by decide, by simp [tb0]⟩
theorem opV (t : Tb) (pid d i fl : Int) (ht : t.ps.length ≤ 1000 ∧ ∀ p ∈ t.ps, p.op.length ≤ 1000) : Pure Tryz.prog gl 44 [TbL t, .int .i64 pid, .agg [.int .i64 d, .int .i64 i], .int .i64 fl] (.tup [TbL (ofR t pid d i fl).2, .int .i64 (if (ofR t pid d i fl).1 = 0 then (ofN t pid : Int) else 0), .int .i64 (ofR t pid d i fl).1]) := by
  have h := opW t pid d i fl ht
  rw [opRW_eq] at h
  by_cases h0 : (ofR t pid d i fl).1 = 0
  · rw [if_pos h0, opNW_eq h0] at h
    rwa [if_pos h0]
  · rw [if_neg h0] at h
    rwa [if_neg h0]
theorem clV (t : Tb) (pid fd : Int) (hv : VW t) (ht : t.ps.length ≤ 1000 ∧ ∀ p ∈ t.ps, p.op.length ≤ 1000) : Pure Tryz.prog gl 46 [TbL t, .int .i64 pid, .int .i64 fd] (.tup [TbL (cfR t pid fd).2, .int .i64 (cfR t pid fd).1]) := by
  have h := clW t pid fd ht
  rwa [clRW_eq hv] at h
theorem lop (t : Tb) (hv : VW t) : Gen 16 [TbL t] 100 fun r => ∃ t' : Tb, VW t' ∧ r = .tup [TbL t', .bool true] := by
  refine Gen.mk fun sb l a hl ha => ?_
  refine fn_viewT Tryz.func16 t16 Tryz.ntmps16 (by simp) ?_
  have hq := hl.2.2
  have hpid := gpid t (by have := hv.len; omega) hv.len.1
  unfold c16 r16
  rw [TbL_eq t] at *
  have ht2 : t.ps.length ≤ 1000 ∧ ∀ p ∈ t.ps, p.op.length ≤ 1000 := ⟨by have := hv.len; omega, fun p hp => by have := hv.sz.2 p hp; omega⟩
  repeat' (first | (simp (disch := first | exact dd | fail) only [go_sem]) | (refine allI (fun b => ?_)) | (refine allT (fun τ => ?_)) | (refine brP (fun h => ?_) (fun h => ?_) <;> (try simp only [zgx, zbx] at h)) | (refine gd ?_) | fail)
  first | refine actsE_U (hpid 1000 sb l a (hl.at (by omega) (by omega)) (by omega)) (by first | rfl | simp only [getH, if_true]) ?_ | refine actsE_T (hpid 1000 sb l a (hl.at (by omega) (by omega)) (by omega)) (by first | rfl | simp only [getH, if_true]) ?_ | refine actsE_N (hpid 1000 sb l a (hl.at (by omega) (by omega)) (by omega)) (by first | rfl | simp only [getH, if_true]) ?_ | refine actsE_of (hpid 1000 sb l a (hl.at (by omega) (by omega)) (by omega)) (by first | rfl | simp only [getH, if_true]) ?_
  rintro _ _ ⟨a2, ha2, ⟨pid, -, rfl⟩, rfl⟩
  repeat' (first | (simp (disch := first | exact dd | fail) only [go_sem]) | (refine allI (fun b => ?_)) | (refine allT (fun τ => ?_)) | (refine brP (fun h => ?_) (fun h => ?_) <;> (try simp only [zgx, zbx] at h)) | (refine gd ?_) | fail)
  first | refine actsE_U (gp _ _ (by decide) (by rfl) (by rfl) 1000 sb l a2 (hl.at (by omega) (by omega)) (by omega)) (by first | rfl | simp only [getH, if_true]) ?_ | refine actsE_T (gp _ _ (by decide) (by rfl) (by rfl) 1000 sb l a2 (hl.at (by omega) (by omega)) (by omega)) (by first | rfl | simp only [getH, if_true]) ?_ | refine actsE_N (gp _ _ (by decide) (by rfl) (by rfl) 1000 sb l a2 (hl.at (by omega) (by omega)) (by omega)) (by first | rfl | simp only [getH, if_true]) ?_ | refine actsE_of (gp _ _ (by decide) (by rfl) (by rfl) 1000 sb l a2 (hl.at (by omega) (by omega)) (by omega)) (by first | rfl | simp only [getH, if_true]) ?_
  rintro _ _ ⟨a3, ha3, ⟨n, hn, rfl⟩, rfl⟩
  clear hn
  repeat' (first | (simp (disch := first | exact dd | fail) only [go_sem]) | (refine allI (fun b => ?_)) | (refine allT (fun τ => ?_)) | (refine brP (fun h => ?_) (fun h => ?_) <;> (try simp only [zgx, zbx] at h)) | (refine gd ?_) | fail)
  first | refine actsE_U (gn 11 (by omega) 1000 sb l a3 (hl.at (by omega) (by omega)) (by omega)) (by first | rfl | simp only [getH, if_true]) ?_ | refine actsE_T (gn 11 (by omega) 1000 sb l a3 (hl.at (by omega) (by omega)) (by omega)) (by first | rfl | simp only [getH, if_true]) ?_ | refine actsE_N (gn 11 (by omega) 1000 sb l a3 (hl.at (by omega) (by omega)) (by omega)) (by first | rfl | simp only [getH, if_true]) ?_ | refine actsE_of (gn 11 (by omega) 1000 sb l a3 (hl.at (by omega) (by omega)) (by omega)) (by first | rfl | simp only [getH, if_true]) ?_
  rintro _ _ ⟨a4, ha4, ⟨v, hvv, rfl⟩, rfl⟩
  rcases (by omega : v = 0 ∨ v = 1 ∨ v = 2 ∨ v = 3 ∨ v = 4 ∨ v = 5 ∨ v = 6 ∨ v = 7 ∨ v = 8 ∨ v = 9 ∨ v = 10) with rfl | rfl | rfl | rfl | rfl | rfl | rfl | rfl | rfl | rfl | rfl
  · have p1 := fk t pid hv.ok (by have := hv.nx; omega)
    have p2 := rfk t pid hv
    have hZ : (fkR t pid).1 ≠ 0 → (fkR t pid).2 = tb0 := chR_err
    generalize hX : fkR t pid = X at *
    obtain ⟨e, T⟩ := X
    have hx : e = 0 → VW T := fun h => by have h5 := F.VW.fkN hv (pid := pid); rw [hX] at h5; exact h5 h
    have hok : okT T := okX (X := (e, T)) hx hZ
    have hs := sameW T hok
    have kE : (e != e) = false := by simp
    dsimp only at p1 p2
    generalize (if e = 0 then t.nx else 0) = N at *
    have kN : (N != N) = false := by simp
    rw [TbL_eq T] at *
    rw [TbL_eq t] at p1 p2
    repeat' (first | (simp (disch := first | exact dd | fail) only [go_sem, kE, bne_self_eq_false]) | (refine allI (fun b => ?_)) | (refine allT (fun τ => ?_)) | (refine brP (fun h => ?_) (fun h => ?_) <;> (try simp only [zgx, zbx] at h)) | refine call_U (p1) ?_ | refine callG_U (fun _ => p1) ?_ | refine call_T (p1) ?_ | refine callG_T (fun _ => p1) ?_ | refine call_U (p2) ?_ | refine callG_U (fun _ => p2) ?_ | refine call_T (p2) ?_ | refine callG_T (fun _ => p2) ?_ | refine call_U (hs) ?_ | refine callG_U (fun _ => hs) ?_ | refine call_T (hs) ?_ | refine callG_T (fun _ => hs) ?_ | refine call_N (p1) ?_ | refine call_of (p1) ?_ | refine callG_of (fun _ => p1) ?_ | refine call_N (p2) ?_ | refine call_of (p2) ?_ | refine callG_of (fun _ => p2) ?_ | refine call_N (hs) ?_ | refine call_of (hs) ?_ | refine callG_of (fun _ => hs) ?_ | (refine gd ?_) | fail)
    all_goals first
      | (apply gend (leV.refl _); (focus (repeat (first | exact List.Sublist.refl _ | apply List.Sublist.cons))); (focus omega); exact ⟨t, hv, rfl⟩)
      | (apply gend (leV.refl _); (focus (repeat (first | exact List.Sublist.refl _ | apply List.Sublist.cons))); (focus omega); exact ⟨T, hx (by first | assumption | simpa using h), rfl⟩)
      | trace_state
  · have p1 := fk t pid hv.ok (by have := hv.nx; omega)
    have p2 := rfk t pid hv
    have hZ : (fkR t pid).1 ≠ 0 → (fkR t pid).2 = tb0 := chR_err
    generalize hX : fkR t pid = X at *
    obtain ⟨e, T⟩ := X
    have hx : e = 0 → VW T := fun h => by have h5 := F.VW.fkN hv (pid := pid); rw [hX] at h5; exact h5 h
    have hok : okT T := okX (X := (e, T)) hx hZ
    have hs := sameW T hok
    have kE : (e != e) = false := by simp
    dsimp only at p1 p2
    generalize (if e = 0 then t.nx else 0) = N at *
    have kN : (N != N) = false := by simp
    rw [TbL_eq T] at *
    rw [TbL_eq t] at p1 p2
    repeat' (first | (simp (disch := first | exact dd | fail) only [go_sem, kE, bne_self_eq_false]) | (refine allI (fun b => ?_)) | (refine allT (fun τ => ?_)) | (refine brP (fun h => ?_) (fun h => ?_) <;> (try simp only [zgx, zbx] at h)) | refine call_U (p1) ?_ | refine callG_U (fun _ => p1) ?_ | refine call_T (p1) ?_ | refine callG_T (fun _ => p1) ?_ | refine call_U (p2) ?_ | refine callG_U (fun _ => p2) ?_ | refine call_T (p2) ?_ | refine callG_T (fun _ => p2) ?_ | refine call_U (hs) ?_ | refine callG_U (fun _ => hs) ?_ | refine call_T (hs) ?_ | refine callG_T (fun _ => hs) ?_ | refine call_N (p1) ?_ | refine call_of (p1) ?_ | refine callG_of (fun _ => p1) ?_ | refine call_N (p2) ?_ | refine call_of (p2) ?_ | refine callG_of (fun _ => p2) ?_ | refine call_N (hs) ?_ | refine call_of (hs) ?_ | refine callG_of (fun _ => hs) ?_ | (refine gd ?_) | fail)
    all_goals first
      | (apply gend (leV.refl _); (focus (repeat (first | exact List.Sublist.refl _ | apply List.Sublist.cons))); (focus omega); exact ⟨t, hv, rfl⟩)
      | (apply gend (leV.refl _); (focus (repeat (first | exact List.Sublist.refl _ | apply List.Sublist.cons))); (focus omega); exact ⟨T, hx (by first | assumption | simpa using h), rfl⟩)
      | trace_state
  · have p1 := xt t pid hv.ok
    have p2 := rxt t pid hv
    have hZ : (xtR t pid).1 ≠ 0 → (xtR t pid).2 = tb0 := chR_err
    generalize hX : xtR t pid = X at *
    obtain ⟨e, T⟩ := X
    have hx : e = 0 → VW T := fun h => by have h5 := fun h => (hv.xt (pid := pid) h).1; rw [hX] at h5; exact h5 h
    have hok : okT T := okX (X := (e, T)) hx hZ
    have hs := sameW T hok
    have kE : (e != e) = false := by simp
    dsimp only at p1 p2
    rw [TbL_eq T] at *
    rw [TbL_eq t] at p1 p2
    repeat' (first | (simp (disch := first | exact dd | fail) only [go_sem, kE, bne_self_eq_false]) | (refine allI (fun b => ?_)) | (refine allT (fun τ => ?_)) | (refine brP (fun h => ?_) (fun h => ?_) <;> (try simp only [zgx, zbx] at h)) | refine call_U (p1) ?_ | refine callG_U (fun _ => p1) ?_ | refine call_T (p1) ?_ | refine callG_T (fun _ => p1) ?_ | refine call_U (p2) ?_ | refine callG_U (fun _ => p2) ?_ | refine call_T (p2) ?_ | refine callG_T (fun _ => p2) ?_ | refine call_U (hs) ?_ | refine callG_U (fun _ => hs) ?_ | refine call_T (hs) ?_ | refine callG_T (fun _ => hs) ?_ | refine call_N (p1) ?_ | refine call_of (p1) ?_ | refine callG_of (fun _ => p1) ?_ | refine call_N (p2) ?_ | refine call_of (p2) ?_ | refine callG_of (fun _ => p2) ?_ | refine call_N (hs) ?_ | refine call_of (hs) ?_ | refine callG_of (fun _ => hs) ?_ | (refine gd ?_) | fail)
    all_goals first
      | (apply gend (leV.refl _); (focus (repeat (first | exact List.Sublist.refl _ | apply List.Sublist.cons))); (focus omega); exact ⟨t, hv, rfl⟩)
      | (apply gend (leV.refl _); (focus (repeat (first | exact List.Sublist.refl _ | apply List.Sublist.cons))); (focus omega); exact ⟨T, hx (by first | assumption | simpa using h), rfl⟩)
      | trace_state
  · have p1 := su t pid n hv.ok
    have p2 := rsu t pid n hv
    have hZ : (suR t pid n).1 ≠ 0 → (suR t pid n).2 = tb0 := chR_err
    generalize hX : suR t pid n = X at *
    obtain ⟨e, T⟩ := X
    have hx : e = 0 → VW T := fun h => by have h5 := hv.su (pid := pid) (u := n); rw [hX] at h5; exact h5 h
    have hok : okT T := okX (X := (e, T)) hx hZ
    have hs := sameW T hok
    have kE : (e != e) = false := by simp
    dsimp only at p1 p2
    rw [TbL_eq T] at *
    rw [TbL_eq t] at p1 p2
    repeat' (first | (simp (disch := first | exact dd | fail) only [go_sem, kE, bne_self_eq_false]) | (refine allI (fun b => ?_)) | (refine allT (fun τ => ?_)) | (refine brP (fun h => ?_) (fun h => ?_) <;> (try simp only [zgx, zbx] at h)) | refine call_U (p1) ?_ | refine callG_U (fun _ => p1) ?_ | refine call_T (p1) ?_ | refine callG_T (fun _ => p1) ?_ | refine call_U (p2) ?_ | refine callG_U (fun _ => p2) ?_ | refine call_T (p2) ?_ | refine callG_T (fun _ => p2) ?_ | refine call_U (hs) ?_ | refine callG_U (fun _ => hs) ?_ | refine call_T (hs) ?_ | refine callG_T (fun _ => hs) ?_ | refine call_N (p1) ?_ | refine call_of (p1) ?_ | refine callG_of (fun _ => p1) ?_ | refine call_N (p2) ?_ | refine call_of (p2) ?_ | refine callG_of (fun _ => p2) ?_ | refine call_N (hs) ?_ | refine call_of (hs) ?_ | refine callG_of (fun _ => hs) ?_ | (refine gd ?_) | fail)
    all_goals first
      | (apply gend (leV.refl _); (focus (repeat (first | exact List.Sublist.refl _ | apply List.Sublist.cons))); (focus omega); exact ⟨t, hv, rfl⟩)
      | (apply gend (leV.refl _); (focus (repeat (first | exact List.Sublist.refl _ | apply List.Sublist.cons))); (focus omega); exact ⟨T, hx (by first | assumption | simpa using h), rfl⟩)
      | trace_state
  · have p1 := sg t pid n hv.ok
    have p2 := rsg t pid n hv
    have hZ : (sgR t pid n).1 ≠ 0 → (sgR t pid n).2 = tb0 := chR_err
    generalize hX : sgR t pid n = X at *
    obtain ⟨e, T⟩ := X
    have hx : e = 0 → VW T := fun h => by have h5 := hv.sg (pid := pid) (u := n); rw [hX] at h5; exact h5 h
    have hok : okT T := okX (X := (e, T)) hx hZ
    have hs := sameW T hok
    have kE : (e != e) = false := by simp
    dsimp only at p1 p2
    rw [TbL_eq T] at *
    rw [TbL_eq t] at p1 p2
    repeat' (first | (simp (disch := first | exact dd | fail) only [go_sem, kE, bne_self_eq_false]) | (refine allI (fun b => ?_)) | (refine allT (fun τ => ?_)) | (refine brP (fun h => ?_) (fun h => ?_) <;> (try simp only [zgx, zbx] at h)) | refine call_U (p1) ?_ | refine callG_U (fun _ => p1) ?_ | refine call_T (p1) ?_ | refine callG_T (fun _ => p1) ?_ | refine call_U (p2) ?_ | refine callG_U (fun _ => p2) ?_ | refine call_T (p2) ?_ | refine callG_T (fun _ => p2) ?_ | refine call_U (hs) ?_ | refine callG_U (fun _ => hs) ?_ | refine call_T (hs) ?_ | refine callG_T (fun _ => hs) ?_ | refine call_N (p1) ?_ | refine call_of (p1) ?_ | refine callG_of (fun _ => p1) ?_ | refine call_N (p2) ?_ | refine call_of (p2) ?_ | refine callG_of (fun _ => p2) ?_ | refine call_N (hs) ?_ | refine call_of (hs) ?_ | refine callG_of (fun _ => hs) ?_ | (refine gd ?_) | fail)
    all_goals first
      | (apply gend (leV.refl _); (focus (repeat (first | exact List.Sublist.refl _ | apply List.Sublist.cons))); (focus omega); exact ⟨t, hv, rfl⟩)
      | (apply gend (leV.refl _); (focus (repeat (first | exact List.Sublist.refl _ | apply List.Sublist.cons))); (focus omega); exact ⟨T, hx (by first | assumption | simpa using h), rfl⟩)
      | trace_state
  · have p1 := lo t pid n hv.ok (by have := hv.ns; omega)
    have p2 := rlo t pid n hv
    have hZ : (loR t pid n).1 ≠ 0 → (loR t pid n).2 = tb0 := chR_err
    generalize hX : loR t pid n = X at *
    obtain ⟨e, T⟩ := X
    have hx : e = 0 → VW T := fun h => by have h5 := hv.lo (pid := pid) (u := n); rw [hX] at h5; exact h5 h
    have hok : okT T := okX (X := (e, T)) hx hZ
    have hs := sameW T hok
    have kE : (e != e) = false := by simp
    dsimp only at p1 p2
    rw [TbL_eq T] at *
    rw [TbL_eq t] at p1 p2
    repeat' (first | (simp (disch := first | exact dd | fail) only [go_sem, kE, bne_self_eq_false]) | (refine allI (fun b => ?_)) | (refine allT (fun τ => ?_)) | (refine brP (fun h => ?_) (fun h => ?_) <;> (try simp only [zgx, zbx] at h)) | refine call_U (p1) ?_ | refine callG_U (fun _ => p1) ?_ | refine call_T (p1) ?_ | refine callG_T (fun _ => p1) ?_ | refine call_U (p2) ?_ | refine callG_U (fun _ => p2) ?_ | refine call_T (p2) ?_ | refine callG_T (fun _ => p2) ?_ | refine call_U (hs) ?_ | refine callG_U (fun _ => hs) ?_ | refine call_T (hs) ?_ | refine callG_T (fun _ => hs) ?_ | refine call_N (p1) ?_ | refine call_of (p1) ?_ | refine callG_of (fun _ => p1) ?_ | refine call_N (p2) ?_ | refine call_of (p2) ?_ | refine callG_of (fun _ => p2) ?_ | refine call_N (hs) ?_ | refine call_of (hs) ?_ | refine callG_of (fun _ => hs) ?_ | (refine gd ?_) | fail)
    all_goals first
      | (apply gend (leV.refl _); (focus (repeat (first | exact List.Sublist.refl _ | apply List.Sublist.cons))); (focus omega); exact ⟨t, hv, rfl⟩)
      | (apply gend (leV.refl _); (focus (repeat (first | exact List.Sublist.refl _ | apply List.Sublist.cons))); (focus omega); exact ⟨T, hx (by first | assumption | simpa using h), rfl⟩)
      | trace_state
  · repeat' (first | (simp (disch := first | exact dd | fail) only [go_sem]) | (refine allI (fun b => ?_)) | (refine allT (fun τ => ?_)) | (refine brP (fun h => ?_) (fun h => ?_) <;> (try simp only [zgx, zbx] at h)) | (refine gd ?_) | fail)
    first | refine actsE_U (gn 4 (by omega) 1000 sb l a4 (hl.at (by omega) (by omega)) (by omega)) (by first | rfl | simp only [getH, if_true]) ?_ | refine actsE_T (gn 4 (by omega) 1000 sb l a4 (hl.at (by omega) (by omega)) (by omega)) (by first | rfl | simp only [getH, if_true]) ?_ | refine actsE_N (gn 4 (by omega) 1000 sb l a4 (hl.at (by omega) (by omega)) (by omega)) (by first | rfl | simp only [getH, if_true]) ?_ | refine actsE_of (gn 4 (by omega) 1000 sb l a4 (hl.at (by omega) (by omega)) (by omega)) (by first | rfl | simp only [getH, if_true]) ?_
    rintro _ _ ⟨a5, ha5, ⟨ino, -, rfl⟩, rfl⟩
    repeat' (first | (simp (disch := first | exact dd | fail) only [go_sem]) | (refine allI (fun b => ?_)) | (refine allT (fun τ => ?_)) | (refine brP (fun h => ?_) (fun h => ?_) <;> (try simp only [zgx, zbx] at h)) | (refine gd ?_) | fail)
    first | refine actsE_U (gn 8 (by omega) 1000 sb l a5 (hl.at (by omega) (by omega)) (by omega)) (by first | rfl | simp only [getH, if_true]) ?_ | refine actsE_T (gn 8 (by omega) 1000 sb l a5 (hl.at (by omega) (by omega)) (by omega)) (by first | rfl | simp only [getH, if_true]) ?_ | refine actsE_N (gn 8 (by omega) 1000 sb l a5 (hl.at (by omega) (by omega)) (by omega)) (by first | rfl | simp only [getH, if_true]) ?_ | refine actsE_of (gn 8 (by omega) 1000 sb l a5 (hl.at (by omega) (by omega)) (by omega)) (by first | rfl | simp only [getH, if_true]) ?_
    rintro _ _ ⟨a6, ha6, ⟨fg, -, rfl⟩, rfl⟩
    have p1 := opV t pid 0 ino fg ht2
    have p2 := rof t pid 0 ino fg hv
    have hZ : (ofR t pid 0 ino fg).1 ≠ 0 → (ofR t pid 0 ino fg).2 = tb0 := chR_err
    generalize hX : ofR t pid 0 ino fg = X at *
    obtain ⟨e, T⟩ := X
    have hx : e = 0 → VW T := fun h => by have h5 := hv.of (pid := pid) (d := 0) (i := ino) (fl := fg); rw [hX] at h5; exact h5 h
    have hok : okT T := okX (X := (e, T)) hx hZ
    have hs := sameW T hok
    have kE : (e != e) = false := by simp
    dsimp only at p1 p2
    generalize (if e = 0 then (ofN t pid : Int) else 0) = N at *
    rw [TbL_eq T] at *
    rw [TbL_eq t] at p1 p2
    repeat' (first | (simp (disch := first | exact dd | fail) only [go_sem, kE, bne_self_eq_false]) | (refine allI (fun b => ?_)) | (refine allT (fun τ => ?_)) | (refine brP (fun h => ?_) (fun h => ?_) <;> (try simp only [zgx, zbx] at h)) | refine call_U (p1) ?_ | refine callG_U (fun _ => p1) ?_ | refine call_T (p1) ?_ | refine callG_T (fun _ => p1) ?_ | refine call_U (p2) ?_ | refine callG_U (fun _ => p2) ?_ | refine call_T (p2) ?_ | refine callG_T (fun _ => p2) ?_ | refine call_U (hs) ?_ | refine callG_U (fun _ => hs) ?_ | refine call_T (hs) ?_ | refine callG_T (fun _ => hs) ?_ | refine call_N (p1) ?_ | refine call_of (p1) ?_ | refine callG_of (fun _ => p1) ?_ | refine call_N (p2) ?_ | refine call_of (p2) ?_ | refine callG_of (fun _ => p2) ?_ | refine call_N (hs) ?_ | refine call_of (hs) ?_ | refine callG_of (fun _ => hs) ?_ | (refine gd ?_) | fail)
    all_goals first
      | (apply gend (leV.refl _); (focus (repeat (first | exact List.Sublist.refl _ | apply List.Sublist.cons))); (focus omega); exact ⟨t, hv, rfl⟩)
      | (apply gend (leV.refl _); (focus (repeat (first | exact List.Sublist.refl _ | apply List.Sublist.cons))); (focus omega); exact ⟨T, hx (by first | assumption | simpa using h), rfl⟩)
      | trace_state
  · repeat' (first | (simp (disch := first | exact dd | fail) only [go_sem]) | (refine allI (fun b => ?_)) | (refine allT (fun τ => ?_)) | (refine brP (fun h => ?_) (fun h => ?_) <;> (try simp only [zgx, zbx] at h)) | (refine gd ?_) | fail)
    first | refine actsE_U (gr (-1) 3 (by omega) 1000 sb l a4 (hl.at (by omega) (by omega)) (by omega)) (by first | rfl | simp only [getH, if_true]) ?_ | refine actsE_T (gr (-1) 3 (by omega) 1000 sb l a4 (hl.at (by omega) (by omega)) (by omega)) (by first | rfl | simp only [getH, if_true]) ?_ | refine actsE_N (gr (-1) 3 (by omega) 1000 sb l a4 (hl.at (by omega) (by omega)) (by omega)) (by first | rfl | simp only [getH, if_true]) ?_ | refine actsE_of (gr (-1) 3 (by omega) 1000 sb l a4 (hl.at (by omega) (by omega)) (by omega)) (by first | rfl | simp only [getH, if_true]) ?_
    rintro _ _ ⟨a5, ha5, ⟨fd, -, rfl⟩, rfl⟩
    have p1 := clV t pid fd hv ht2
    have p2 := rcf t pid fd hv
    have hZ : (cfR t pid fd).1 ≠ 0 → (cfR t pid fd).2 = tb0 := chR_err
    generalize hX : cfR t pid fd = X at *
    obtain ⟨e, T⟩ := X
    have hx : e = 0 → VW T := fun h => by have h5 := hv.cf (pid := pid) (fd := fd); rw [hX] at h5; exact h5 h
    have hok : okT T := okX (X := (e, T)) hx hZ
    have hs := sameW T hok
    have kE : (e != e) = false := by simp
    dsimp only at p1 p2
    rw [TbL_eq T] at *
    rw [TbL_eq t] at p1 p2
    repeat' (first | (simp (disch := first | exact dd | fail) only [go_sem, kE, bne_self_eq_false]) | (refine allI (fun b => ?_)) | (refine allT (fun τ => ?_)) | (refine brP (fun h => ?_) (fun h => ?_) <;> (try simp only [zgx, zbx] at h)) | refine call_U (p1) ?_ | refine callG_U (fun _ => p1) ?_ | refine call_T (p1) ?_ | refine callG_T (fun _ => p1) ?_ | refine call_U (p2) ?_ | refine callG_U (fun _ => p2) ?_ | refine call_T (p2) ?_ | refine callG_T (fun _ => p2) ?_ | refine call_U (hs) ?_ | refine callG_U (fun _ => hs) ?_ | refine call_T (hs) ?_ | refine callG_T (fun _ => hs) ?_ | refine call_N (p1) ?_ | refine call_of (p1) ?_ | refine callG_of (fun _ => p1) ?_ | refine call_N (p2) ?_ | refine call_of (p2) ?_ | refine callG_of (fun _ => p2) ?_ | refine call_N (hs) ?_ | refine call_of (hs) ?_ | refine callG_of (fun _ => hs) ?_ | (refine gd ?_) | fail)
    all_goals first
      | (apply gend (leV.refl _); (focus (repeat (first | exact List.Sublist.refl _ | apply List.Sublist.cons))); (focus omega); exact ⟨t, hv, rfl⟩)
      | (apply gend (leV.refl _); (focus (repeat (first | exact List.Sublist.refl _ | apply List.Sublist.cons))); (focus omega); exact ⟨T, hx (by first | assumption | simpa using h), rfl⟩)
      | trace_state
  · repeat' (first | (simp (disch := first | exact dd | fail) only [go_sem]) | (refine allI (fun b => ?_)) | (refine allT (fun τ => ?_)) | (refine brP (fun h => ?_) (fun h => ?_) <;> (try simp only [zgx, zbx] at h)) | (refine gd ?_) | fail)
    first | refine actsE_U (gn 4 (by omega) 1000 sb l a4 (hl.at (by omega) (by omega)) (by omega)) (by first | rfl | simp only [getH, if_true]) ?_ | refine actsE_T (gn 4 (by omega) 1000 sb l a4 (hl.at (by omega) (by omega)) (by omega)) (by first | rfl | simp only [getH, if_true]) ?_ | refine actsE_N (gn 4 (by omega) 1000 sb l a4 (hl.at (by omega) (by omega)) (by omega)) (by first | rfl | simp only [getH, if_true]) ?_ | refine actsE_of (gn 4 (by omega) 1000 sb l a4 (hl.at (by omega) (by omega)) (by omega)) (by first | rfl | simp only [getH, if_true]) ?_
    rintro _ _ ⟨a5, ha5, ⟨ino, -, rfl⟩, rfl⟩
    repeat' (first | (simp (disch := first | exact dd | fail) only [go_sem]) | (refine allI (fun b => ?_)) | (refine allT (fun τ => ?_)) | (refine brP (fun h => ?_) (fun h => ?_) <;> (try simp only [zgx, zbx] at h)) | (refine gd ?_) | fail)
    first | refine actsE_U (clean 1000 sb l a5 (hl.at (by omega) (by omega)) (by omega)) (by first | rfl | simp only [getH, if_true]) ?_ | refine actsE_T (clean 1000 sb l a5 (hl.at (by omega) (by omega)) (by omega)) (by first | rfl | simp only [getH, if_true]) ?_ | refine actsE_N (clean 1000 sb l a5 (hl.at (by omega) (by omega)) (by omega)) (by first | rfl | simp only [getH, if_true]) ?_ | refine actsE_of (clean 1000 sb l a5 (hl.at (by omega) (by omega)) (by omega)) (by first | rfl | simp only [getH, if_true]) ?_
    rintro _ _ ⟨a6, ha6, ⟨exe, -, rfl⟩, rfl⟩
    have r1 := ex t pid exe [120] hv.ok
    have r2 := rex t pid exe [120] hv
    have hZ2 : (exR t pid exe [120]).1 ≠ 0 → (exR t pid exe [120]).2 = tb0 := chR_err
    have hW2 := hv.ex (pid := pid) (e := exe) (c := [120])
    generalize exR t pid exe [120] = Y at *
    obtain ⟨e2, T2⟩ := Y
    have r3 := sameW T2 (okX (X := (e2, T2)) hW2 hZ2)
    have kE2 : (e2 != e2) = false := by simp
    dsimp only at r1 r2
    rw [TbL_eq T2] at *
    rw [TbL_eq t] at r1 r2
    have p1 := pcd t pid 0 ino hv.ok
    have p2 := rcd t pid 0 ino hv
    have hZ : (cdR t pid 0 ino).1 ≠ 0 → (cdR t pid 0 ino).2 = tb0 := chR_err
    generalize hX : cdR t pid 0 ino = X at *
    obtain ⟨e, T⟩ := X
    have hx : e = 0 → VW T := fun h => by have h5 := hv.cd (pid := pid) (d := 0) (i := ino); rw [hX] at h5; exact h5 h
    have hok : okT T := okX (X := (e, T)) hx hZ
    have hs := sameW T hok
    have kE : (e != e) = false := by simp
    dsimp only at p1 p2
    rw [TbL_eq T] at *
    rw [TbL_eq t] at p1 p2
    repeat' (first | (simp (disch := first | exact dd | fail) only [go_sem, kE, kE2, bne_self_eq_false]) | (refine allI (fun b => ?_)) | (refine allT (fun τ => ?_)) | (refine brP (fun h => ?_) (fun h => ?_) <;> (try simp only [zgx, zbx] at h)) | refine call_U (p1) ?_ | refine callG_U (fun _ => p1) ?_ | refine call_T (p1) ?_ | refine callG_T (fun _ => p1) ?_ | refine call_U (p2) ?_ | refine callG_U (fun _ => p2) ?_ | refine call_T (p2) ?_ | refine callG_T (fun _ => p2) ?_ | refine call_U (r1) ?_ | refine callG_U (fun _ => r1) ?_ | refine call_T (r1) ?_ | refine callG_T (fun _ => r1) ?_ | refine call_U (r2) ?_ | refine callG_U (fun _ => r2) ?_ | refine call_T (r2) ?_ | refine callG_T (fun _ => r2) ?_ | refine call_U (r3) ?_ | refine callG_U (fun _ => r3) ?_ | refine call_T (r3) ?_ | refine callG_T (fun _ => r3) ?_ | refine call_U (hs) ?_ | refine callG_U (fun _ => hs) ?_ | refine call_T (hs) ?_ | refine callG_T (fun _ => hs) ?_ | refine call_N (p1) ?_ | refine call_of (p1) ?_ | refine callG_of (fun _ => p1) ?_ | refine call_N (p2) ?_ | refine call_of (p2) ?_ | refine callG_of (fun _ => p2) ?_ | refine call_N (r1) ?_ | refine call_of (r1) ?_ | refine callG_of (fun _ => r1) ?_ | refine call_N (r2) ?_ | refine call_of (r2) ?_ | refine callG_of (fun _ => r2) ?_ | refine call_N (r3) ?_ | refine call_of (r3) ?_ | refine callG_of (fun _ => r3) ?_ | refine call_N (hs) ?_ | refine call_of (hs) ?_ | refine callG_of (fun _ => hs) ?_ | (refine gd ?_) | fail)
    all_goals first
      | (apply gend (leV.refl _); (focus (repeat (first | exact List.Sublist.refl _ | apply List.Sublist.cons))); (focus omega); exact ⟨t, hv, rfl⟩)
      | (apply gend (leV.refl _); (focus (repeat (first | exact List.Sublist.refl _ | apply List.Sublist.cons))); (focus omega); exact ⟨T, hx (by first | assumption | simpa using h), rfl⟩)
      | trace_state
  · have p1 := pau t pid (decide (0 < n)) hv.ok
    have p2 := rau t pid (decide (0 < n)) hv
    have hZ : (auR t pid (decide (0 < n))).1 ≠ 0 → (auR t pid (decide (0 < n))).2 = tb0 := chR_err
    generalize hX : auR t pid (decide (0 < n)) = X at *
    obtain ⟨e, T⟩ := X
    have hx : e = 0 → VW T := fun h => by have h5 := hv.au (pid := pid) (b := decide (0 < n)); rw [hX] at h5; exact h5 h
    have hok : okT T := okX (X := (e, T)) hx hZ
    have hs := sameW T hok
    have kE : (e != e) = false := by simp
    dsimp only at p1 p2
    rw [TbL_eq T] at *
    rw [TbL_eq t] at p1 p2
    repeat' (first | (simp (disch := first | exact dd | fail) only [go_sem, kE, bne_self_eq_false]) | (refine allI (fun b => ?_)) | (refine allT (fun τ => ?_)) | (refine brP (fun h => ?_) (fun h => ?_) <;> (try simp only [zgx, zbx] at h)) | refine call_U (p1) ?_ | refine callG_U (fun _ => p1) ?_ | refine call_T (p1) ?_ | refine callG_T (fun _ => p1) ?_ | refine call_U (p2) ?_ | refine callG_U (fun _ => p2) ?_ | refine call_T (p2) ?_ | refine callG_T (fun _ => p2) ?_ | refine call_U (hs) ?_ | refine callG_U (fun _ => hs) ?_ | refine call_T (hs) ?_ | refine callG_T (fun _ => hs) ?_ | refine call_N (p1) ?_ | refine call_of (p1) ?_ | refine callG_of (fun _ => p1) ?_ | refine call_N (p2) ?_ | refine call_of (p2) ?_ | refine callG_of (fun _ => p2) ?_ | refine call_N (hs) ?_ | refine call_of (hs) ?_ | refine callG_of (fun _ => hs) ?_ | (refine gd ?_) | fail)
    all_goals first
      | (apply gend (leV.refl _); (focus (repeat (first | exact List.Sublist.refl _ | apply List.Sublist.cons))); (focus omega); exact ⟨t, hv, rfl⟩)
      | (apply gend (leV.refl _); (focus (repeat (first | exact List.Sublist.refl _ | apply List.Sublist.cons))); (focus omega); exact ⟨T, hx (by first | assumption | simpa using h), rfl⟩)
      | trace_state
  · repeat' (first | (simp (disch := first | exact dd | fail) only [go_sem]) | (refine allI (fun b => ?_)) | (refine allT (fun τ => ?_)) | (refine brP (fun h => ?_) (fun h => ?_) <;> (try simp only [zgx, zbx] at h)) | (refine gd ?_) | fail)
    first | refine actsE_U (hpid 1000 sb l a4 (hl.at (by omega) (by omega)) (by omega)) (by first | rfl | simp only [getH, if_true]) ?_ | refine actsE_T (hpid 1000 sb l a4 (hl.at (by omega) (by omega)) (by omega)) (by first | rfl | simp only [getH, if_true]) ?_ | refine actsE_N (hpid 1000 sb l a4 (hl.at (by omega) (by omega)) (by omega)) (by first | rfl | simp only [getH, if_true]) ?_ | refine actsE_of (hpid 1000 sb l a4 (hl.at (by omega) (by omega)) (by omega)) (by first | rfl | simp only [getH, if_true]) ?_
    rintro _ _ ⟨a5, ha5, ⟨tg, -, rfl⟩, rfl⟩
    repeat' (first | (simp (disch := first | exact dd | fail) only [go_sem]) | (refine allI (fun b => ?_)) | (refine allT (fun τ => ?_)) | (refine brP (fun h => ?_) (fun h => ?_) <;> (try simp only [zgx, zbx] at h)) | (refine gd ?_) | fail)
    first | refine actsE_U (gn 2 (by omega) 1000 sb l a5 (hl.at (by omega) (by omega)) (by omega)) (by first | rfl | simp only [getH, if_true]) ?_ | refine actsE_T (gn 2 (by omega) 1000 sb l a5 (hl.at (by omega) (by omega)) (by omega)) (by first | rfl | simp only [getH, if_true]) ?_ | refine actsE_N (gn 2 (by omega) 1000 sb l a5 (hl.at (by omega) (by omega)) (by omega)) (by first | rfl | simp only [getH, if_true]) ?_ | refine actsE_of (gn 2 (by omega) 1000 sb l a5 (hl.at (by omega) (by omega)) (by omega)) (by first | rfl | simp only [getH, if_true]) ?_
    rintro _ _ ⟨a6, ha6, ⟨w, -, rfl⟩, rfl⟩
    have p1 := pki t pid tg (w == 0) hv.ok
    have p2 := rki t pid tg (w == 0) hv
    have hZ : (kiR t pid tg (w == 0)).1 ≠ 0 → (kiR t pid tg (w == 0)).2 = tb0 := chR_err
    generalize hX : kiR t pid tg (w == 0) = X at *
    obtain ⟨e, T⟩ := X
    have hx : e = 0 → VW T := fun h => by have h5 := hv.ki (pid := pid) (tg := tg) (ends := w == 0); rw [hX] at h5; exact h5 h
    have hok : okT T := okX (X := (e, T)) hx hZ
    have hs := sameW T hok
    have kE : (e != e) = false := by simp
    dsimp only at p1 p2
    rw [TbL_eq T] at *
    rw [TbL_eq t] at p1 p2
    repeat' (first | (simp (disch := first | exact dd | fail) only [go_sem, kE, bne_self_eq_false]) | (refine allI (fun b => ?_)) | (refine allT (fun τ => ?_)) | (refine brP (fun h => ?_) (fun h => ?_) <;> (try simp only [zgx, zbx] at h)) | refine call_U (p1) ?_ | refine callG_U (fun _ => p1) ?_ | refine call_T (p1) ?_ | refine callG_T (fun _ => p1) ?_ | refine call_U (p2) ?_ | refine callG_U (fun _ => p2) ?_ | refine call_T (p2) ?_ | refine callG_T (fun _ => p2) ?_ | refine call_U (hs) ?_ | refine callG_U (fun _ => hs) ?_ | refine call_T (hs) ?_ | refine callG_T (fun _ => hs) ?_ | refine call_N (p1) ?_ | refine call_of (p1) ?_ | refine callG_of (fun _ => p1) ?_ | refine call_N (p2) ?_ | refine call_of (p2) ?_ | refine callG_of (fun _ => p2) ?_ | refine call_N (hs) ?_ | refine call_of (hs) ?_ | refine callG_of (fun _ => hs) ?_ | (refine gd ?_) | fail)
    all_goals first
      | (apply gend (leV.refl _); (focus (repeat (first | exact List.Sublist.refl _ | apply List.Sublist.cons))); (focus omega); exact ⟨t, hv, rfl⟩)
      | (apply gend (leV.refl _); (focus (repeat (first | exact List.Sublist.refl _ | apply List.Sublist.cons))); (focus omega); exact ⟨T, hx (by first | assumption | simpa using h), rfl⟩)
      | trace_state
end Go.Proofs.YtkdblnejpmbnfaaGreat
namespace Go.Proofs.YtkdblnejpmbnfaaGreat
open Go Go.Lx
set_option linter.unusedSimpArgs false
set_option linter.unusedVariables false
set_option maxRecDepth 100000
set_option maxHeartbeats 8000000
theorem getR_op {t : Tb} (ht : okT t) (x : Int) : (getR t x).1.op.length ≤ 1000000 := by
  rw [getR]
  split
  · simp [ps0]
  · have hlt := findI_lt t x
    exact ht.2 _ (getD_memA ps0 (by omega))
theorem playsL (l : List Int) (hl : okS l 0) (pid : Int) : Pure Tryz.prog gl 5 [Ms l, .int .i64 pid] (.bool true) := by
  refine fn_pureT Tryz.func5 t5 Tryz.ntmps5 (by simp) ?_
  have hs := new_ l
  have hw := awake
  unfold Ms at hs ⊢
  unfold c5 r5
  repeat' (first | (simp (disch := first | exact dd | fail) only [go_sem]) | (refine allI (fun b => ?_)) | (refine allT (fun τ => ?_)) | (refine brP (fun h => ?_) (fun h => ?_) <;> (try simp only [zgx, zbx] at h)) | (refine gd ?_) | fail)
  first | refine newsE_U (hs) ?_ | refine newsE_T (hs) ?_ | refine newsE_of (hs) ?_
  rintro _ _ ⟨sb, rfl, rfl⟩
  repeat' (first | (simp (disch := first | exact dd | fail) only [go_sem]) | (refine allI (fun b => ?_)) | (refine allT (fun τ => ?_)) | (refine brP (fun h => ?_) (fun h => ?_) <;> (try simp only [zgx, zbx] at h)) | (refine gd ?_) | fail)
  first | refine actsE_U (F.system 3000 sb l 0 hl (by omega)) (by first | rfl | simp only [getH, if_true]) ?_ | refine actsE_T (F.system 3000 sb l 0 hl (by omega)) (by first | rfl | simp only [getH, if_true]) ?_ | refine actsE_N (F.system 3000 sb l 0 hl (by omega)) (by first | rfl | simp only [getH, if_true]) ?_ | refine actsE_of (F.system 3000 sb l 0 hl (by omega)) (by first | rfl | simp only [getH, if_true]) ?_
  rintro _ _ ⟨a1, ha1, ⟨s, t0, ⟨-, hv0⟩, rfl⟩, rfl⟩
  rw [F.SyC_eq]
  repeat' (first | (simp (disch := first | exact dd | fail) only [go_sem]) | (refine allI (fun b => ?_)) | (refine allT (fun τ => ?_)) | (refine brP (fun h => ?_) (fun h => ?_) <;> (try simp only [zgx, zbx] at h)) | (refine gd ?_) | fail)
  refine loopI (ι := Nat × Int × Tb) (fun y => y.1 ≤ 14 ∧ (a1 ≤ y.2.1 ∧ y.2.1 ≤ a1 + 100 * y.1) ∧ VW y.2.2) (fun y => [(7, .int .i64 y.1), (6, .ptr 6 b 0), (5, .ptr 3000 sb 0), (4, .bool false), (1, .int .i64 pid)]) (fun y => [(6, .blk b [.int .i64 y.2.2.nx, .int .i64 y.2.2.ns, .sl 14 y.2.2.ps.length (y.2.2.ps.flatMap PsC)]), (3000, SB sb l y.2.1)]) (fun y => 14 - y.1) (0, a1, t0) ⟨by dsimp only; omega, by dsimp only; omega, hv0⟩ (Ents.envH (by simp [go_sem]) rfl) ?_
  rintro ⟨i, a2, t⟩ ⟨hi, ha2, hv⟩
  dsimp only at hi ha2 hv ⊢
  simp (disch := first | exact dd | fail) only [go_sem]
  refine brP (fun hb => ?_) (fun hb => ?_)
  · have hlt : i < 14 := by simp only [decide_eq_true_eq] at hb; omega
    have hop := lop t hv 3000 sb l a2 (hl.at (by omega) (by omega)) (by omega)
    rw [TbL_eq t] at hop
    repeat' (first | (simp (disch := first | exact dd | fail) only [go_sem]) | (refine allI (fun b => ?_)) | (refine allT (fun τ => ?_)) | (refine brP (fun h => ?_) (fun h => ?_) <;> (try simp only [zgx, zbx] at h)) | (refine gd ?_) | fail)
    first | refine actsE_U (hop) (by first | rfl | simp only [getH, if_true]) ?_ | refine actsE_T (hop) (by first | rfl | simp only [getH, if_true]) ?_ | refine actsE_N (hop) (by first | rfl | simp only [getH, if_true]) ?_ | refine actsE_of (hop) (by first | rfl | simp only [getH, if_true]) ?_
    rintro _ _ ⟨a3, ha3, ⟨t', hv', rfl⟩, rfl⟩
    rw [TbL_eq t']
    repeat' (first | (simp (disch := first | exact dd | fail) only [go_sem]) | (refine allI (fun b => ?_)) | (refine allT (fun τ => ?_)) | (refine brP (fun h => ?_) (fun h => ?_) <;> (try simp only [zgx, zbx] at h)) | (refine gd ?_) | fail)
    exact ⟨⟨(i + 1, a3, t'), by dsimp only; omega, by dsimp only; omega, hv'⟩, by dsimp only; omega, Ents.sub (by simp [go_sem]) ⟨_, List.Sublist.cons _ (List.Sublist.refl _), List.Perm.refl _⟩⟩
  · have hpd := gpid t (by have := hv.len; omega) hv.len.1 3000 sb l a2 (hl.at (by omega) (by omega)) (by omega)
    rw [TbL_eq t] at hpd
    repeat' (first | (simp (disch := first | exact dd | fail) only [go_sem]) | (refine allI (fun b => ?_)) | (refine allT (fun τ => ?_)) | (refine brP (fun h => ?_) (fun h => ?_) <;> (try simp only [zgx, zbx] at h)) | (refine gd ?_) | fail)
    first | refine actsE_U (hpd) (by first | rfl | simp only [getH, if_true]) ?_ | refine actsE_T (hpd) (by first | rfl | simp only [getH, if_true]) ?_ | refine actsE_N (hpd) (by first | rfl | simp only [getH, if_true]) ?_ | refine actsE_of (hpd) (by first | rfl | simp only [getH, if_true]) ?_
    rintro _ _ ⟨a3, ha3, ⟨w, -, rfl⟩, rfl⟩
    have z1 : zeros ([zI] : List LV) 3 = [zI, zI, zI] := Eq.trans rfl rfl
    repeat' (first | (simp (disch := first | exact dd | fail) only [go_sem, z1]) | (refine allI (fun b => ?_)) | (refine allT (fun τ => ?_)) | (refine brP (fun h => ?_) (fun h => ?_) <;> (try simp only [zgx, zbx] at h)) | (refine gd ?_) | fail)
    refine loopI (ι := Nat) (fun i => i ≤ 3) (fun i => (11, .int .i64 i) :: _) (fun _ => _) (fun i => 3 - i) 0 (by omega) Ents.same ?_
    intro k hk
    simp (disch := first | exact dd | fail) only [go_sem]
    refine brP (fun hb2 => ?_) (fun hb2 => ?_)
    · have hk3 : k < 3 := by simp only [decide_eq_true_eq] at hb2; omega
      have hx : ∃ x : Int, ([.int .i64 pid, .int .i64 1, .int .i64 w] : List LV).getD (k * 1) .any = .int .i64 x := by
        rcases (by omega : k = 0 ∨ k = 1 ∨ k = 2) with rfl | rfl | rfl
        · exact ⟨_, rfl⟩
        · exact ⟨_, rfl⟩
        · exact ⟨_, rfl⟩
      obtain ⟨x, hx⟩ := hx
      have q1 := get_ t x hv.ok
      have q2 := rget t x hv.ok
      have q3 := samepW (getR t x).1 (getR_op hv.ok x)
      generalize getR t x = R at *
      obtain ⟨p, f⟩ := R
      dsimp only at q1 q2 q3
      rw [PsC_eq] at q1 q2 q3
      rw [TbL_eq] at q1 q2
      have kf : (f != f) = false := by simp
      repeat' (first | (simp (disch := first | exact dd | fail) only [go_sem, hx, kf]) | (refine allI (fun b => ?_)) | (refine allT (fun τ => ?_)) | (refine brP (fun h => ?_) (fun h => ?_) <;> (try simp only [zgx, zbx] at h)) | refine call_U (q1) ?_ | refine callG_U (fun _ => q1) ?_ | refine call_T (q1) ?_ | refine callG_T (fun _ => q1) ?_ | refine call_U (q2) ?_ | refine callG_U (fun _ => q2) ?_ | refine call_T (q2) ?_ | refine callG_T (fun _ => q2) ?_ | refine call_U (q3) ?_ | refine callG_U (fun _ => q3) ?_ | refine call_T (q3) ?_ | refine callG_T (fun _ => q3) ?_ | refine call_N (q1) ?_ | refine call_of (q1) ?_ | refine callG_of (fun _ => q1) ?_ | refine call_N (q2) ?_ | refine call_of (q2) ?_ | refine callG_of (fun _ => q2) ?_ | refine call_N (q3) ?_ | refine call_of (q3) ?_ | refine callG_of (fun _ => q3) ?_ | (refine gd ?_) | fail)
      all_goals first
        | exact ⟨⟨k + 1, by omega⟩, by dsimp only; omega, Ents.sub (by simp [go_sem]) ⟨_, List.Sublist.cons _ (List.Sublist.cons _ (List.Sublist.refl _)), List.Perm.refl _⟩⟩
        | trace_state
    · repeat' (first | (simp (disch := first | exact dd | fail) only [go_sem]) | (refine allI (fun b => ?_)) | (refine allT (fun τ => ?_)) | (refine brP (fun h => ?_) (fun h => ?_) <;> (try simp only [zgx, zbx] at h)) | refine call_U (hw) ?_ | refine callG_U (fun _ => hw) ?_ | refine call_T (hw) ?_ | refine callG_T (fun _ => hw) ?_ | refine call_N (hw) ?_ | refine call_of (hw) ?_ | refine callG_of (fun _ => hw) ?_ | (refine gd ?_) | fail)
end Go.Proofs.YtkdblnejpmbnfaaGreat
